/- Vaults, requests, replies held against each other; which of them are right. Conditions: none. -/
import Derived.Test.YtkkncdokkdamcaaCS0
namespace Go.Proofs.Ytkkncdokkdamcaa
open Go Go.Vm Go.Proofs Go.Cl
set_option linter.unusedSimpArgs false
set_option linter.unusedVariables false
set_option maxRecDepth 100000

theorem ints_bytes : ∀ l : Bs, ints .u8 (l.map byteV) = some (l.map fun b => (b.toNat : Int))
  | [] => rfl
  | b :: l => by
    have ih := ints_bytes l
    show (if IntKind.u8 = IntKind.u8 then (ints .u8 (l.map byteV)).map ((b.toNat : Int) :: ·) else none) = _
    rw [if_pos rfl, ih]; rfl
theorem toNat_map_inj : ∀ {a b : Bs}, (a.map fun b => (b.toNat : Int)) = (b.map fun b => (b.toNat : Int)) → a = b
  | [], [], _ => rfl
  | [], _ :: _, h => by simp at h
  | _ :: _, [], h => by simp at h
  | x :: a, y :: b, h => by
    simp only [List.map_cons, List.cons.injEq] at h
    have h1 : x.toNat = y.toNat := by have := h.1; omega
    rw [UInt8.toNat_inj.1 h1, toNat_map_inj h.2]
theorem o_eqaB {cf : CF} {base : Nat} {h : Hp} (t : Nat) (neg : Bool) (a b : Bs) : opV cf base h (.eqa t .u8 neg) [.arr t (a.map byteV), .arr t (b.map byteV)] = some (.s (.bool (if neg = true then !decide (a = b) else decide (a = b))), h) := by
  rw [o_eqa, ints_bytes, ints_bytes, eqaR_some]
  have : (List.map (fun b => (b.toNat : Int)) a = List.map (fun b => (b.toNat : Int)) b) = (a = b) := propext ⟨toNat_map_inj, fun h => by rw [h]⟩
  simp only [this]

theorem CSame_ok (b : Nat) (h : Hp) (v w : Vault) : run fns pr b 53 [v.enc, w.enc] h = some (.s (.bool (decide (v = w))), h) := by
  refine Vm.runP (nt := 66) rfl fit53 (by simp) ?_
  obtain ⟨a1, a2, a3, a4, a5, a6, a7, a8, a9⟩ := v
  obtain ⟨c1, c2, c3, c4, c5, c6, c7, c8, c9⟩ := w
  simp only [Vault.mk.injEq]
  have he := fun h0 l m => Equal_ok h.length h0 (.imm false none (l.map byteV)) (.imm false none (m.map byteV)) l m (BR_imm _ _ _) (BR_imm _ _ _)
  by_cases h1 : a1 = c1
  case neg => simp only [B53, Vault.enc, go_sem, ↓reduceIte, Nat.reduceEqDiff, Nat.reduceBEq, Nat.reduceAdd, Nat.reduceSub, Nat.reduceLT, Nat.reduceLeDiff, Int.reduceLT, Int.reduceLE, Int.reduceEq, Int.reduceToNat, List.append_assoc, List.length_append, Vm.get_app, Vm.set_app, Vm.get_appL, Vm.get_appL0, Vm.set_appL, Vm.set_appL0, Nat.le_refl, Nat.le_add_right, o_eqaB, he, Bool.beq_eq_decide_eq, h1, false_and, and_false, true_and, decide_false, decide_true]
  by_cases h2 : a2 = c2
  case neg => simp only [B53, Vault.enc, go_sem, ↓reduceIte, Nat.reduceEqDiff, Nat.reduceBEq, Nat.reduceAdd, Nat.reduceSub, Nat.reduceLT, Nat.reduceLeDiff, Int.reduceLT, Int.reduceLE, Int.reduceEq, Int.reduceToNat, List.append_assoc, List.length_append, Vm.get_app, Vm.set_app, Vm.get_appL, Vm.get_appL0, Vm.set_appL, Vm.set_appL0, Nat.le_refl, Nat.le_add_right, o_eqaB, he, Bool.beq_eq_decide_eq, h1, h2, false_and, and_false, true_and, decide_false, decide_true]
  by_cases h3 : a3 = c3
  case neg => simp only [B53, Vault.enc, go_sem, ↓reduceIte, Nat.reduceEqDiff, Nat.reduceBEq, Nat.reduceAdd, Nat.reduceSub, Nat.reduceLT, Nat.reduceLeDiff, Int.reduceLT, Int.reduceLE, Int.reduceEq, Int.reduceToNat, List.append_assoc, List.length_append, Vm.get_app, Vm.set_app, Vm.get_appL, Vm.get_appL0, Vm.set_appL, Vm.set_appL0, Nat.le_refl, Nat.le_add_right, o_eqaB, he, Bool.beq_eq_decide_eq, h1, h2, h3, false_and, and_false, true_and, decide_false, decide_true]
  by_cases h4 : a4 = c4
  case neg => simp only [B53, Vault.enc, go_sem, ↓reduceIte, Nat.reduceEqDiff, Nat.reduceBEq, Nat.reduceAdd, Nat.reduceSub, Nat.reduceLT, Nat.reduceLeDiff, Int.reduceLT, Int.reduceLE, Int.reduceEq, Int.reduceToNat, List.append_assoc, List.length_append, Vm.get_app, Vm.set_app, Vm.get_appL, Vm.get_appL0, Vm.set_appL, Vm.set_appL0, Nat.le_refl, Nat.le_add_right, o_eqaB, he, Bool.beq_eq_decide_eq, h1, h2, h3, h4, false_and, and_false, true_and, decide_false, decide_true]
  by_cases h5 : a5 = c5
  case neg => simp only [B53, Vault.enc, go_sem, ↓reduceIte, Nat.reduceEqDiff, Nat.reduceBEq, Nat.reduceAdd, Nat.reduceSub, Nat.reduceLT, Nat.reduceLeDiff, Int.reduceLT, Int.reduceLE, Int.reduceEq, Int.reduceToNat, List.append_assoc, List.length_append, Vm.get_app, Vm.set_app, Vm.get_appL, Vm.get_appL0, Vm.set_appL, Vm.set_appL0, Nat.le_refl, Nat.le_add_right, o_eqaB, he, Bool.beq_eq_decide_eq, h1, h2, h3, h4, h5, false_and, and_false, true_and, decide_false, decide_true]
  by_cases h6 : a6 = c6
  case neg => simp only [B53, Vault.enc, go_sem, ↓reduceIte, Nat.reduceEqDiff, Nat.reduceBEq, Nat.reduceAdd, Nat.reduceSub, Nat.reduceLT, Nat.reduceLeDiff, Int.reduceLT, Int.reduceLE, Int.reduceEq, Int.reduceToNat, List.append_assoc, List.length_append, Vm.get_app, Vm.set_app, Vm.get_appL, Vm.get_appL0, Vm.set_appL, Vm.set_appL0, Nat.le_refl, Nat.le_add_right, o_eqaB, he, Bool.beq_eq_decide_eq, h1, h2, h3, h4, h5, h6, false_and, and_false, true_and, decide_false, decide_true]
  by_cases h7 : a7 = c7
  case neg => simp only [B53, Vault.enc, go_sem, ↓reduceIte, Nat.reduceEqDiff, Nat.reduceBEq, Nat.reduceAdd, Nat.reduceSub, Nat.reduceLT, Nat.reduceLeDiff, Int.reduceLT, Int.reduceLE, Int.reduceEq, Int.reduceToNat, List.append_assoc, List.length_append, Vm.get_app, Vm.set_app, Vm.get_appL, Vm.get_appL0, Vm.set_appL, Vm.set_appL0, Nat.le_refl, Nat.le_add_right, o_eqaB, he, Bool.beq_eq_decide_eq, h1, h2, h3, h4, h5, h6, h7, false_and, and_false, true_and, decide_false, decide_true]
  by_cases h8 : a8 = c8
  case neg => simp only [B53, Vault.enc, go_sem, ↓reduceIte, Nat.reduceEqDiff, Nat.reduceBEq, Nat.reduceAdd, Nat.reduceSub, Nat.reduceLT, Nat.reduceLeDiff, Int.reduceLT, Int.reduceLE, Int.reduceEq, Int.reduceToNat, List.append_assoc, List.length_append, Vm.get_app, Vm.set_app, Vm.get_appL, Vm.get_appL0, Vm.set_appL, Vm.set_appL0, Nat.le_refl, Nat.le_add_right, o_eqaB, he, Bool.beq_eq_decide_eq, h1, h2, h3, h4, h5, h6, h7, h8, false_and, and_false, true_and, decide_false, decide_true]
  simp only [B53, Vault.enc, go_sem, ↓reduceIte, Nat.reduceEqDiff, Nat.reduceBEq, Nat.reduceAdd, Nat.reduceSub, Nat.reduceLT, Nat.reduceLeDiff, Int.reduceLT, Int.reduceLE, Int.reduceEq, Int.reduceToNat, List.append_assoc, List.length_append, Vm.get_app, Vm.set_app, Vm.get_appL, Vm.get_appL0, Vm.set_appL, Vm.set_appL0, Nat.le_refl, Nat.le_add_right, o_eqaB, he, Bool.beq_eq_decide_eq, h1, h2, h3, h4, h5, h6, h7, h8, true_and, decide_true]

/-- A digest, a name of zeros. -/
theorem zero16_v : [V.s (.int .u8 0), .s (.int .u8 0), .s (.int .u8 0), .s (.int .u8 0), .s (.int .u8 0), .s (.int .u8 0), .s (.int .u8 0), .s (.int .u8 0), .s (.int .u8 0), .s (.int .u8 0), .s (.int .u8 0), .s (.int .u8 0), .s (.int .u8 0), .s (.int .u8 0), .s (.int .u8 0), .s (.int .u8 0)] = zero16.map byteV := (rfl)
theorem zero4_v : [V.s (.int .u8 0), .s (.int .u8 0), .s (.int .u8 0), .s (.int .u8 0)] = zero4.map byteV := (rfl)

theorem who_ok (b : Nat) (h : Hp) (c n : Int) : run fns pr b 49 [.s (.int .i64 c), .s (.int .u64 n)] h = some (.s (.bool (decide (0 ≤ c) && decide (c < 4) && decide (n ≤ 1099511627776))), h) := by
  refine Vm.runP (nt := 15) rfl fit49 (by simp) ?_
  by_cases h1 : 0 ≤ c
  case neg => simp only [B49, go_sem, ↓reduceIte, Nat.reduceEqDiff, Nat.reduceBEq, Nat.reduceAdd, Nat.reduceSub, Nat.reduceLT, Nat.reduceLeDiff, Int.reduceLT, Int.reduceLE, Int.reduceEq, Int.reduceToNat, h1, Bool.false_and]
  by_cases h2 : c < 4
  case neg => simp only [B49, go_sem, ↓reduceIte, Nat.reduceEqDiff, Nat.reduceBEq, Nat.reduceAdd, Nat.reduceSub, Nat.reduceLT, Nat.reduceLeDiff, Int.reduceLT, Int.reduceLE, Int.reduceEq, Int.reduceToNat, h1, h2, Bool.false_and, Bool.and_false]
  simp only [B49, go_sem, ↓reduceIte, Nat.reduceEqDiff, Nat.reduceBEq, Nat.reduceAdd, Nat.reduceSub, Nat.reduceLT, Nat.reduceLeDiff, Int.reduceLT, Int.reduceLE, Int.reduceEq, Int.reduceToNat, h1, h2, Bool.true_and]

def whoB (c n : Int) : Bool := decide (0 ≤ c) && decide (c < 4) && decide (n ≤ 1099511627776)
/-- A request that is right. -/
def rightQ (q : Request) : Bool := whoB q.client q.num &&
  (if q.op = 1 ∨ q.op = 3 then decide (1 ≤ q.limit) && decide (q.limit ≤ 32) && decide (q.secret.length ≤ 64)
   else if q.op = 2 then decide (q.limit = 0) && decide (q.owner = zero16) && decide (q.secret.length = 0)
   else if q.op = 4 then decide (q.limit = 0) && decide (q.pin = zero16) && decide (q.secret.length = 0) else false)
theorem RightRequest_ok (b : Nat) (h : Hp) (q : Request) : run fns pr b 30 [q.enc] h = some (.s (.bool (rightQ q)), h) := by
  refine Vm.runP (nt := 62) rfl fit30 (by simp) ?_
  have hw := fun h0 => who_ok h.length h0 q.client q.num
  obtain ⟨op, id, pin, se, li, ow, ky, cl, nu⟩ := q
  simp only at hw
  simp only [rightQ]
  rw [← whoB.eq_1] at hw
  cases h0 : whoB cl nu with
  | false =>
    rw [h0] at hw
    simp only [B30, Request.enc, go_sem, ↓reduceIte, Nat.reduceEqDiff, Nat.reduceBEq, Nat.reduceAdd, Nat.reduceSub, Nat.reduceLT, Nat.reduceLeDiff, Int.reduceLT, Int.reduceLE, Int.reduceEq, Int.reduceToNat, List.append_assoc, List.length_append, Vm.get_app, Vm.set_app, Vm.get_appL, Vm.get_appL0, Vm.set_appL, Vm.set_appL0, Nat.le_refl, Nat.le_add_right, hw, Nat.le_refl, Bool.false_and]
  | true =>
    rw [h0] at hw
    have hl : ((se.length : Int) ≤ 64) = (se.length ≤ 64) := propext (by omega)
    have hz : ((se.length : Int) = 0) = (se.length = 0) := propext (by omega)
    by_cases h1 : op = 1
    · subst h1
      by_cases k0 : 1 ≤ li
      case neg => simp only [B30, Request.enc, go_sem, ↓reduceIte, Nat.reduceEqDiff, Nat.reduceBEq, Nat.reduceAdd, Nat.reduceSub, Nat.reduceLT, Nat.reduceLeDiff, Int.reduceLT, Int.reduceLE, Int.reduceEq, Int.reduceToNat, List.append_assoc, List.length_append, Vm.get_app, Vm.set_app, Vm.get_appL, Vm.get_appL0, Vm.set_appL, Vm.set_appL0, Nat.le_refl, Nat.le_add_right, hw, Nat.le_refl, hl, hz, zero16_v, o_eqaB, Bool.true_and, Bool.false_and, Bool.and_false, Bool.and_true, decide_false, decide_true, Int.reduceEq, false_or, or_false, or_true, true_or, if_false, if_true, k0]
      by_cases k1 : li ≤ 32
      case neg => simp only [B30, Request.enc, go_sem, ↓reduceIte, Nat.reduceEqDiff, Nat.reduceBEq, Nat.reduceAdd, Nat.reduceSub, Nat.reduceLT, Nat.reduceLeDiff, Int.reduceLT, Int.reduceLE, Int.reduceEq, Int.reduceToNat, List.append_assoc, List.length_append, Vm.get_app, Vm.set_app, Vm.get_appL, Vm.get_appL0, Vm.set_appL, Vm.set_appL0, Nat.le_refl, Nat.le_add_right, hw, Nat.le_refl, hl, hz, zero16_v, o_eqaB, Bool.true_and, Bool.false_and, Bool.and_false, Bool.and_true, decide_false, decide_true, Int.reduceEq, false_or, or_false, or_true, true_or, if_false, if_true, k0, k1]
      simp only [B30, Request.enc, go_sem, ↓reduceIte, Nat.reduceEqDiff, Nat.reduceBEq, Nat.reduceAdd, Nat.reduceSub, Nat.reduceLT, Nat.reduceLeDiff, Int.reduceLT, Int.reduceLE, Int.reduceEq, Int.reduceToNat, List.append_assoc, List.length_append, Vm.get_app, Vm.set_app, Vm.get_appL, Vm.get_appL0, Vm.set_appL, Vm.set_appL0, Nat.le_refl, Nat.le_add_right, hw, Nat.le_refl, hl, hz, zero16_v, o_eqaB, Bool.true_and, Bool.false_and, Bool.and_false, Bool.and_true, decide_false, decide_true, Int.reduceEq, false_or, or_false, or_true, true_or, if_false, if_true, k0, k1]
    by_cases h3 : op = 3
    · subst h3
      by_cases k0 : 1 ≤ li
      case neg => simp only [B30, Request.enc, go_sem, ↓reduceIte, Nat.reduceEqDiff, Nat.reduceBEq, Nat.reduceAdd, Nat.reduceSub, Nat.reduceLT, Nat.reduceLeDiff, Int.reduceLT, Int.reduceLE, Int.reduceEq, Int.reduceToNat, List.append_assoc, List.length_append, Vm.get_app, Vm.set_app, Vm.get_appL, Vm.get_appL0, Vm.set_appL, Vm.set_appL0, Nat.le_refl, Nat.le_add_right, hw, Nat.le_refl, hl, hz, zero16_v, o_eqaB, Bool.true_and, Bool.false_and, Bool.and_false, Bool.and_true, decide_false, decide_true, Int.reduceEq, false_or, or_false, or_true, true_or, if_false, if_true, k0]
      by_cases k1 : li ≤ 32
      case neg => simp only [B30, Request.enc, go_sem, ↓reduceIte, Nat.reduceEqDiff, Nat.reduceBEq, Nat.reduceAdd, Nat.reduceSub, Nat.reduceLT, Nat.reduceLeDiff, Int.reduceLT, Int.reduceLE, Int.reduceEq, Int.reduceToNat, List.append_assoc, List.length_append, Vm.get_app, Vm.set_app, Vm.get_appL, Vm.get_appL0, Vm.set_appL, Vm.set_appL0, Nat.le_refl, Nat.le_add_right, hw, Nat.le_refl, hl, hz, zero16_v, o_eqaB, Bool.true_and, Bool.false_and, Bool.and_false, Bool.and_true, decide_false, decide_true, Int.reduceEq, false_or, or_false, or_true, true_or, if_false, if_true, k0, k1]
      simp only [B30, Request.enc, go_sem, ↓reduceIte, Nat.reduceEqDiff, Nat.reduceBEq, Nat.reduceAdd, Nat.reduceSub, Nat.reduceLT, Nat.reduceLeDiff, Int.reduceLT, Int.reduceLE, Int.reduceEq, Int.reduceToNat, List.append_assoc, List.length_append, Vm.get_app, Vm.set_app, Vm.get_appL, Vm.get_appL0, Vm.set_appL, Vm.set_appL0, Nat.le_refl, Nat.le_add_right, hw, Nat.le_refl, hl, hz, zero16_v, o_eqaB, Bool.true_and, Bool.false_and, Bool.and_false, Bool.and_true, decide_false, decide_true, Int.reduceEq, false_or, or_false, or_true, true_or, if_false, if_true, k0, k1]
    by_cases h2 : op = 2
    · subst h2
      by_cases k0 : li = 0
      case neg => simp only [B30, Request.enc, go_sem, ↓reduceIte, Nat.reduceEqDiff, Nat.reduceBEq, Nat.reduceAdd, Nat.reduceSub, Nat.reduceLT, Nat.reduceLeDiff, Int.reduceLT, Int.reduceLE, Int.reduceEq, Int.reduceToNat, List.append_assoc, List.length_append, Vm.get_app, Vm.set_app, Vm.get_appL, Vm.get_appL0, Vm.set_appL, Vm.set_appL0, Nat.le_refl, Nat.le_add_right, hw, Nat.le_refl, hl, hz, zero16_v, o_eqaB, Bool.true_and, Bool.false_and, Bool.and_false, Bool.and_true, decide_false, decide_true, Int.reduceEq, false_or, or_false, or_true, true_or, if_false, if_true, k0]
      by_cases k1 : ow = zero16
      case neg => simp only [B30, Request.enc, go_sem, ↓reduceIte, Nat.reduceEqDiff, Nat.reduceBEq, Nat.reduceAdd, Nat.reduceSub, Nat.reduceLT, Nat.reduceLeDiff, Int.reduceLT, Int.reduceLE, Int.reduceEq, Int.reduceToNat, List.append_assoc, List.length_append, Vm.get_app, Vm.set_app, Vm.get_appL, Vm.get_appL0, Vm.set_appL, Vm.set_appL0, Nat.le_refl, Nat.le_add_right, hw, Nat.le_refl, hl, hz, zero16_v, o_eqaB, Bool.true_and, Bool.false_and, Bool.and_false, Bool.and_true, decide_false, decide_true, Int.reduceEq, false_or, or_false, or_true, true_or, if_false, if_true, k0, k1]
      simp only [B30, Request.enc, go_sem, ↓reduceIte, Nat.reduceEqDiff, Nat.reduceBEq, Nat.reduceAdd, Nat.reduceSub, Nat.reduceLT, Nat.reduceLeDiff, Int.reduceLT, Int.reduceLE, Int.reduceEq, Int.reduceToNat, List.append_assoc, List.length_append, Vm.get_app, Vm.set_app, Vm.get_appL, Vm.get_appL0, Vm.set_appL, Vm.set_appL0, Nat.le_refl, Nat.le_add_right, hw, Nat.le_refl, hl, hz, zero16_v, o_eqaB, Bool.true_and, Bool.false_and, Bool.and_false, Bool.and_true, decide_false, decide_true, Int.reduceEq, false_or, or_false, or_true, true_or, if_false, if_true, k0, k1]
    by_cases h4 : op = 4
    · subst h4
      by_cases k0 : li = 0
      case neg => simp only [B30, Request.enc, go_sem, ↓reduceIte, Nat.reduceEqDiff, Nat.reduceBEq, Nat.reduceAdd, Nat.reduceSub, Nat.reduceLT, Nat.reduceLeDiff, Int.reduceLT, Int.reduceLE, Int.reduceEq, Int.reduceToNat, List.append_assoc, List.length_append, Vm.get_app, Vm.set_app, Vm.get_appL, Vm.get_appL0, Vm.set_appL, Vm.set_appL0, Nat.le_refl, Nat.le_add_right, hw, Nat.le_refl, hl, hz, zero16_v, o_eqaB, Bool.true_and, Bool.false_and, Bool.and_false, Bool.and_true, decide_false, decide_true, Int.reduceEq, false_or, or_false, or_true, true_or, if_false, if_true, k0]
      by_cases k1 : pin = zero16
      case neg => simp only [B30, Request.enc, go_sem, ↓reduceIte, Nat.reduceEqDiff, Nat.reduceBEq, Nat.reduceAdd, Nat.reduceSub, Nat.reduceLT, Nat.reduceLeDiff, Int.reduceLT, Int.reduceLE, Int.reduceEq, Int.reduceToNat, List.append_assoc, List.length_append, Vm.get_app, Vm.set_app, Vm.get_appL, Vm.get_appL0, Vm.set_appL, Vm.set_appL0, Nat.le_refl, Nat.le_add_right, hw, Nat.le_refl, hl, hz, zero16_v, o_eqaB, Bool.true_and, Bool.false_and, Bool.and_false, Bool.and_true, decide_false, decide_true, Int.reduceEq, false_or, or_false, or_true, true_or, if_false, if_true, k0, k1]
      simp only [B30, Request.enc, go_sem, ↓reduceIte, Nat.reduceEqDiff, Nat.reduceBEq, Nat.reduceAdd, Nat.reduceSub, Nat.reduceLT, Nat.reduceLeDiff, Int.reduceLT, Int.reduceLE, Int.reduceEq, Int.reduceToNat, List.append_assoc, List.length_append, Vm.get_app, Vm.set_app, Vm.get_appL, Vm.get_appL0, Vm.set_appL, Vm.set_appL0, Nat.le_refl, Nat.le_add_right, hw, Nat.le_refl, hl, hz, zero16_v, o_eqaB, Bool.true_and, Bool.false_and, Bool.and_false, Bool.and_true, decide_false, decide_true, Int.reduceEq, false_or, or_false, or_true, true_or, if_false, if_true, k0, k1]
    simp only [B30, Request.enc, go_sem, ↓reduceIte, Nat.reduceEqDiff, Nat.reduceBEq, Nat.reduceAdd, Nat.reduceSub, Nat.reduceLT, Nat.reduceLeDiff, Int.reduceLT, Int.reduceLE, Int.reduceEq, Int.reduceToNat, List.append_assoc, List.length_append, Vm.get_app, Vm.set_app, Vm.get_appL, Vm.get_appL0, Vm.set_appL, Vm.set_appL0, Nat.le_refl, Nat.le_add_right, hw, Nat.le_refl, hl, hz, zero16_v, o_eqaB, Bool.true_and, Bool.false_and, Bool.and_false, Bool.and_true, decide_false, decide_true, Int.reduceEq, false_or, or_false, or_true, true_or, if_false, if_true, h1, h3, h2, h4, false_or, or_false, if_false, if_true]

/-- A vault that is right. -/
def rightV (v : Vault) : Bool := decide (1 ≤ v.gen) && decide (v.gen ≤ 1099511627776) &&
  (if v.gone = true then decide (v.pin = zero16) && decide (v.owner = zero16) && decide (v.secret.length = 0) && decide (v.limit = 0) && decide (v.used = 0)
   else !v.wiped && decide (1 ≤ v.limit) && decide (v.limit ≤ 32) && decide (0 ≤ v.used) && decide (v.used < v.limit) && decide (v.secret.length ≤ 64))
theorem RightVault_ok (b : Nat) (h : Hp) (v : Vault) : run fns pr b 54 [v.enc] h = some (.s (.bool (rightV v)), h) := by
  refine Vm.runP (nt := 72) rfl fit54 (by simp) ?_
  obtain ⟨id, ge, pin, se, li, us, ow, go, wi⟩ := v
  simp only [rightV]
  have hl : ((se.length : Int) ≤ 64) = (se.length ≤ 64) := propext (by omega)
  have hz : (se.length = 0) = ((se.length : Int) = 0) := propext (by omega)
  by_cases g1 : ge < 1
  · have g1' : ¬ 1 ≤ ge := by omega
    simp only [B54, Vault.enc, go_sem, ↓reduceIte, Nat.reduceEqDiff, Nat.reduceBEq, Nat.reduceAdd, Nat.reduceSub, Nat.reduceLT, Nat.reduceLeDiff, Int.reduceLT, Int.reduceLE, Int.reduceEq, Int.reduceToNat, List.append_assoc, List.length_append, Vm.get_app, Vm.set_app, Vm.get_appL, Vm.get_appL0, Vm.set_appL, Vm.set_appL0, Nat.le_refl, Nat.le_add_right, Nat.le_refl, hl, hz, zero16_v, o_eqaB, Bool.true_and, Bool.false_and, Bool.and_false, Bool.and_true, decide_false, decide_true, if_false, if_true, Bool.not_true, Bool.not_false, Bool.false_eq_true, g1, g1']
  have g1' : 1 ≤ ge := by omega
  by_cases g2 : 1099511627776 < ge
  · have g2' : ¬ ge ≤ 1099511627776 := by omega
    simp only [B54, Vault.enc, go_sem, ↓reduceIte, Nat.reduceEqDiff, Nat.reduceBEq, Nat.reduceAdd, Nat.reduceSub, Nat.reduceLT, Nat.reduceLeDiff, Int.reduceLT, Int.reduceLE, Int.reduceEq, Int.reduceToNat, List.append_assoc, List.length_append, Vm.get_app, Vm.set_app, Vm.get_appL, Vm.get_appL0, Vm.set_appL, Vm.set_appL0, Nat.le_refl, Nat.le_add_right, Nat.le_refl, hl, hz, zero16_v, o_eqaB, Bool.true_and, Bool.false_and, Bool.and_false, Bool.and_true, decide_false, decide_true, if_false, if_true, Bool.not_true, Bool.not_false, Bool.false_eq_true, g1, g1', g2, g2']
  have g2' : ge ≤ 1099511627776 := by omega
  cases go with
  | true =>
    by_cases k0 : pin = zero16
    case neg => simp only [B54, Vault.enc, go_sem, ↓reduceIte, Nat.reduceEqDiff, Nat.reduceBEq, Nat.reduceAdd, Nat.reduceSub, Nat.reduceLT, Nat.reduceLeDiff, Int.reduceLT, Int.reduceLE, Int.reduceEq, Int.reduceToNat, List.append_assoc, List.length_append, Vm.get_app, Vm.set_app, Vm.get_appL, Vm.get_appL0, Vm.set_appL, Vm.set_appL0, Nat.le_refl, Nat.le_add_right, Nat.le_refl, hl, hz, zero16_v, o_eqaB, Bool.true_and, Bool.false_and, Bool.and_false, Bool.and_true, decide_false, decide_true, if_false, if_true, Bool.not_true, Bool.not_false, Bool.false_eq_true, g1, g1', g2, g2', k0]
    by_cases k1 : ow = zero16
    case neg => simp only [B54, Vault.enc, go_sem, ↓reduceIte, Nat.reduceEqDiff, Nat.reduceBEq, Nat.reduceAdd, Nat.reduceSub, Nat.reduceLT, Nat.reduceLeDiff, Int.reduceLT, Int.reduceLE, Int.reduceEq, Int.reduceToNat, List.append_assoc, List.length_append, Vm.get_app, Vm.set_app, Vm.get_appL, Vm.get_appL0, Vm.set_appL, Vm.set_appL0, Nat.le_refl, Nat.le_add_right, Nat.le_refl, hl, hz, zero16_v, o_eqaB, Bool.true_and, Bool.false_and, Bool.and_false, Bool.and_true, decide_false, decide_true, if_false, if_true, Bool.not_true, Bool.not_false, Bool.false_eq_true, g1, g1', g2, g2', k0, k1]
    by_cases k2 : (se.length : Int) = 0
    case neg => simp only [B54, Vault.enc, go_sem, ↓reduceIte, Nat.reduceEqDiff, Nat.reduceBEq, Nat.reduceAdd, Nat.reduceSub, Nat.reduceLT, Nat.reduceLeDiff, Int.reduceLT, Int.reduceLE, Int.reduceEq, Int.reduceToNat, List.append_assoc, List.length_append, Vm.get_app, Vm.set_app, Vm.get_appL, Vm.get_appL0, Vm.set_appL, Vm.set_appL0, Nat.le_refl, Nat.le_add_right, Nat.le_refl, hl, hz, zero16_v, o_eqaB, Bool.true_and, Bool.false_and, Bool.and_false, Bool.and_true, decide_false, decide_true, if_false, if_true, Bool.not_true, Bool.not_false, Bool.false_eq_true, g1, g1', g2, g2', k0, k1, k2]
    by_cases k3 : li = 0
    case neg => simp only [B54, Vault.enc, go_sem, ↓reduceIte, Nat.reduceEqDiff, Nat.reduceBEq, Nat.reduceAdd, Nat.reduceSub, Nat.reduceLT, Nat.reduceLeDiff, Int.reduceLT, Int.reduceLE, Int.reduceEq, Int.reduceToNat, List.append_assoc, List.length_append, Vm.get_app, Vm.set_app, Vm.get_appL, Vm.get_appL0, Vm.set_appL, Vm.set_appL0, Nat.le_refl, Nat.le_add_right, Nat.le_refl, hl, hz, zero16_v, o_eqaB, Bool.true_and, Bool.false_and, Bool.and_false, Bool.and_true, decide_false, decide_true, if_false, if_true, Bool.not_true, Bool.not_false, Bool.false_eq_true, g1, g1', g2, g2', k0, k1, k2, k3]
    simp only [B54, Vault.enc, go_sem, ↓reduceIte, Nat.reduceEqDiff, Nat.reduceBEq, Nat.reduceAdd, Nat.reduceSub, Nat.reduceLT, Nat.reduceLeDiff, Int.reduceLT, Int.reduceLE, Int.reduceEq, Int.reduceToNat, List.append_assoc, List.length_append, Vm.get_app, Vm.set_app, Vm.get_appL, Vm.get_appL0, Vm.set_appL, Vm.set_appL0, Nat.le_refl, Nat.le_add_right, Nat.le_refl, hl, hz, zero16_v, o_eqaB, Bool.true_and, Bool.false_and, Bool.and_false, Bool.and_true, decide_false, decide_true, if_false, if_true, Bool.not_true, Bool.not_false, Bool.false_eq_true, g1, g1', g2, g2', k0, k1, k2, k3]
  | false =>
    cases wi with
    | true => simp only [B54, Vault.enc, go_sem, ↓reduceIte, Nat.reduceEqDiff, Nat.reduceBEq, Nat.reduceAdd, Nat.reduceSub, Nat.reduceLT, Nat.reduceLeDiff, Int.reduceLT, Int.reduceLE, Int.reduceEq, Int.reduceToNat, List.append_assoc, List.length_append, Vm.get_app, Vm.set_app, Vm.get_appL, Vm.get_appL0, Vm.set_appL, Vm.set_appL0, Nat.le_refl, Nat.le_add_right, Nat.le_refl, hl, hz, zero16_v, o_eqaB, Bool.true_and, Bool.false_and, Bool.and_false, Bool.and_true, decide_false, decide_true, if_false, if_true, Bool.not_true, Bool.not_false, Bool.false_eq_true, g1, g1', g2, g2']
    | false =>
      by_cases k0 : 1 ≤ li
      case neg => simp only [B54, Vault.enc, go_sem, ↓reduceIte, Nat.reduceEqDiff, Nat.reduceBEq, Nat.reduceAdd, Nat.reduceSub, Nat.reduceLT, Nat.reduceLeDiff, Int.reduceLT, Int.reduceLE, Int.reduceEq, Int.reduceToNat, List.append_assoc, List.length_append, Vm.get_app, Vm.set_app, Vm.get_appL, Vm.get_appL0, Vm.set_appL, Vm.set_appL0, Nat.le_refl, Nat.le_add_right, Nat.le_refl, hl, hz, zero16_v, o_eqaB, Bool.true_and, Bool.false_and, Bool.and_false, Bool.and_true, decide_false, decide_true, if_false, if_true, Bool.not_true, Bool.not_false, Bool.false_eq_true, g1, g1', g2, g2', k0]
      by_cases k1 : li ≤ 32
      case neg => simp only [B54, Vault.enc, go_sem, ↓reduceIte, Nat.reduceEqDiff, Nat.reduceBEq, Nat.reduceAdd, Nat.reduceSub, Nat.reduceLT, Nat.reduceLeDiff, Int.reduceLT, Int.reduceLE, Int.reduceEq, Int.reduceToNat, List.append_assoc, List.length_append, Vm.get_app, Vm.set_app, Vm.get_appL, Vm.get_appL0, Vm.set_appL, Vm.set_appL0, Nat.le_refl, Nat.le_add_right, Nat.le_refl, hl, hz, zero16_v, o_eqaB, Bool.true_and, Bool.false_and, Bool.and_false, Bool.and_true, decide_false, decide_true, if_false, if_true, Bool.not_true, Bool.not_false, Bool.false_eq_true, g1, g1', g2, g2', k0, k1]
      by_cases k2 : 0 ≤ us
      case neg => simp only [B54, Vault.enc, go_sem, ↓reduceIte, Nat.reduceEqDiff, Nat.reduceBEq, Nat.reduceAdd, Nat.reduceSub, Nat.reduceLT, Nat.reduceLeDiff, Int.reduceLT, Int.reduceLE, Int.reduceEq, Int.reduceToNat, List.append_assoc, List.length_append, Vm.get_app, Vm.set_app, Vm.get_appL, Vm.get_appL0, Vm.set_appL, Vm.set_appL0, Nat.le_refl, Nat.le_add_right, Nat.le_refl, hl, hz, zero16_v, o_eqaB, Bool.true_and, Bool.false_and, Bool.and_false, Bool.and_true, decide_false, decide_true, if_false, if_true, Bool.not_true, Bool.not_false, Bool.false_eq_true, g1, g1', g2, g2', k0, k1, k2]
      by_cases k3 : us < li
      case neg => simp only [B54, Vault.enc, go_sem, ↓reduceIte, Nat.reduceEqDiff, Nat.reduceBEq, Nat.reduceAdd, Nat.reduceSub, Nat.reduceLT, Nat.reduceLeDiff, Int.reduceLT, Int.reduceLE, Int.reduceEq, Int.reduceToNat, List.append_assoc, List.length_append, Vm.get_app, Vm.set_app, Vm.get_appL, Vm.get_appL0, Vm.set_appL, Vm.set_appL0, Nat.le_refl, Nat.le_add_right, Nat.le_refl, hl, hz, zero16_v, o_eqaB, Bool.true_and, Bool.false_and, Bool.and_false, Bool.and_true, decide_false, decide_true, if_false, if_true, Bool.not_true, Bool.not_false, Bool.false_eq_true, g1, g1', g2, g2', k0, k1, k2, k3]
      simp only [B54, Vault.enc, go_sem, ↓reduceIte, Nat.reduceEqDiff, Nat.reduceBEq, Nat.reduceAdd, Nat.reduceSub, Nat.reduceLT, Nat.reduceLeDiff, Int.reduceLT, Int.reduceLE, Int.reduceEq, Int.reduceToNat, List.append_assoc, List.length_append, Vm.get_app, Vm.set_app, Vm.get_appL, Vm.get_appL0, Vm.set_appL, Vm.set_appL0, Nat.le_refl, Nat.le_add_right, Nat.le_refl, hl, hz, zero16_v, o_eqaB, Bool.true_and, Bool.false_and, Bool.and_false, Bool.and_true, decide_false, decide_true, if_false, if_true, Bool.not_true, Bool.not_false, Bool.false_eq_true, g1, g1', g2, g2', k0, k1, k2, k3]
end Go.Proofs.Ytkkncdokkdamcaa
