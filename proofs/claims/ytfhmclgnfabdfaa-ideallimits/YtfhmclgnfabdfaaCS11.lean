/- Requests on one vault: what they come to. Conditions: none. -/
import Derived.Test.YtfhmclgnfabdfaaCS6
import Derived.Test.YtfhmclgnfabdfaaCVc
namespace Go.Proofs.Ytfhmclgnfabdfaa
open Go Go.Vm Go.Proofs Go.Cl
set_option linter.unusedSimpArgs false
set_option linter.unusedVariables false
set_option maxRecDepth 100000
/-- A vault, a request, a reply whose secret has, or has no, spare room. -/
def Vault.encF (f : Bool) (a : Vault) : V := .st 29 [.arr 23 (a.iD.map byteV), .s (.int .u64 a.gen), .arr 26 (a.pin.map byteV), .imm f none (a.secret.map byteV), .s (.int .i64 a.limit), .s (.int .i64 a.used), .arr 26 (a.owner.map byteV), .s (.bool a.gone), .s (.bool a.wiped)]
def Request.encF (f : Bool) (a : Request) : V := .st 32 [.s (.int .i64 a.op), .arr 23 (a.iD.map byteV), .arr 26 (a.pin.map byteV), .imm f none (a.secret.map byteV), .s (.int .i64 a.limit), .arr 26 (a.owner.map byteV), .arr 26 (a.key_.map byteV), .s (.int .i64 a.client), .s (.int .u64 a.num)]
def Reply.encF (f : Bool) (a : Reply) : V := .st 38 [.s (.int .i64 a.why), .arr 23 (a.iD.map byteV), .s (.int .u64 a.gen), .s (.int .i64 a.left), .imm f none (a.secret.map byteV), .s (.int .i64 a.client), .s (.int .u64 a.num)]
theorem Vault.enc_F (a : Vault) : a.enc = a.encF false := rfl
theorem Request.enc_F (a : Request) : a.enc = a.encF false := rfl
theorem Reply.enc_F (a : Reply) : a.enc = a.encF false := rfl

/-- No vault. -/
def zeroV : Vault := ⟨zero4, 0, zero16, [], 0, 0, zero16, false, false⟩
def zeroR : Reply := ⟨0, zero4, 0, 0, [], 0, 0⟩

theorem CSameF_ok (b : Nat) (h : Hp) (f g : Bool) (v w : Vault) : run fns pr b 22 [v.encF f, w.encF g] h = some (.s (.bool (decide (v = w))), h) := by
  refine Vm.runP (nt := 66) rfl fit22 (by simp) ?_
  obtain ⟨a1, a2, a3, a4, a5, a6, a7, a8, a9⟩ := v
  obtain ⟨c1, c2, c3, c4, c5, c6, c7, c8, c9⟩ := w
  simp only [Vault.mk.injEq]
  have he := fun h0 f g l m => Equal_ok h.length h0 (.imm f none (l.map byteV)) (.imm g none (m.map byteV)) l m (BR_imm _ _ _) (BR_imm _ _ _)
  have hvb : (0 : Nat) = 0 := rfl
  try simp only [B22, Vault.encF, o_eqaB, he, go_sem, V.s.injEq, Value.bool.injEq, ↓reduceIte, Nat.reduceEqDiff, Nat.reduceBEq, Nat.reduceAdd, Nat.reduceSub, Nat.reduceLT, Nat.reduceLeDiff, Int.reduceLT, Int.reduceLE, Int.reduceEq, Int.reduceToNat, List.append_assoc, List.length_append, Vm.get_app, Vm.set_app, Vm.get_appL, Vm.get_appL0, Vm.set_appL, Vm.set_appL0, Nat.le_refl, Nat.le_add_right, okAt]
  repeat' (
    first | refine wpC_cases ?_ ?_ | refine wpU_casesT ?_ ?_ | refine wpU_casesF ?_ ?_
    all_goals intro hvc
    all_goals first | replace hvc := not_of_true hvc | replace hvc := not_of_false hvc | skip
    all_goals first | subst hvc | replace hvb := And.intro hvc hvb
    all_goals try simp only [hvb, B22, Vault.encF, o_eqaB, he, go_sem, V.s.injEq, Value.bool.injEq, ↓reduceIte, Nat.reduceEqDiff, Nat.reduceBEq, Nat.reduceAdd, Nat.reduceSub, Nat.reduceLT, Nat.reduceLeDiff, Int.reduceLT, Int.reduceLE, Int.reduceEq, Int.reduceToNat, List.append_assoc, List.length_append, Vm.get_app, Vm.set_app, Vm.get_appL, Vm.get_appL0, Vm.set_appL, Vm.set_appL0, Nat.le_refl, Nat.le_add_right, okAt])
  all_goals (clear he; simp_all [Bool.beq_eq_decide_eq])
theorem zero16_a (t : Nat) : V.arr t [V.s (.int .u8 0), .s (.int .u8 0), .s (.int .u8 0), .s (.int .u8 0), .s (.int .u8 0), .s (.int .u8 0), .s (.int .u8 0), .s (.int .u8 0), .s (.int .u8 0), .s (.int .u8 0), .s (.int .u8 0), .s (.int .u8 0), .s (.int .u8 0), .s (.int .u8 0), .s (.int .u8 0), .s (.int .u8 0)] = .arr t (zero16.map byteV) := rfl
theorem zero4_a (t : Nat) : V.arr t [V.s (.int .u8 0), .s (.int .u8 0), .s (.int .u8 0), .s (.int .u8 0)] = .arr t (zero4.map byteV) := rfl
theorem encF_tyV (f : Bool) (v : Vault) : (v.encF f).ty = some 29 := rfl
theorem encF_tyQ (f : Bool) (v : Request) : (v.encF f).ty = some 32 := rfl
theorem encF_soV (f : Bool) (v : Vault) : (v.encF f).solid = true := rfl
theorem encF_soQ (f : Bool) (v : Request) : (v.encF f).solid = true := rfl
theorem enc_tyV (v : Vault) : v.enc.ty = some 29 := rfl
theorem enc_tyR (v : Reply) : v.enc.ty = some 38 := rfl
theorem enc_soV (v : Vault) : v.enc.solid = true := rfl
theorem enc_soR (v : Reply) : v.enc.solid = true := rfl
theorem enc_frV (n : Nat) (h : Hp) (v : Vault) : frzV n h v.enc = some v.enc := by simp only [Vault.enc, go_sem]
theorem enc_frR (n : Nat) (h : Hp) (v : Reply) : frzV n h v.enc = some v.enc := by simp only [Reply.enc, go_sem]
theorem own_ok (b : Nat) (h : Hp) (f : Bool) (v : Vault) (hl : v.secret.length ≤ 140737488355328) : run fns pr b 25 [v.encF f] h = some (v.enc, h) := by
  refine Vm.runP (nt := 8) rfl fit25 (by simp) ?_
  have hc := fun h0 => clone_ok h.length (h := h0) (BR_imm h0 f v.secret) hl
  have hvb : (0 : Nat) = 0 := rfl
  try simp only [B25, Vault.encF, Vault.enc, hc, go_sem, V.s.injEq, Value.bool.injEq, ↓reduceIte, Nat.reduceEqDiff, Nat.reduceBEq, Nat.reduceAdd, Nat.reduceSub, Nat.reduceLT, Nat.reduceLeDiff, Int.reduceLT, Int.reduceLE, Int.reduceEq, Int.reduceToNat, List.append_assoc, List.length_append, Vm.get_app, Vm.set_app, Vm.get_appL, Vm.get_appL0, Vm.set_appL, Vm.set_appL0, Nat.le_refl, Nat.le_add_right, okAt]
  repeat' (
    first | refine wpC_cases ?_ ?_ | refine wpU_casesT ?_ ?_ | refine wpU_casesF ?_ ?_
    all_goals intro hvc
    all_goals first | replace hvc := not_of_true hvc | replace hvc := not_of_false hvc | skip
    all_goals first | subst hvc | replace hvb := And.intro hvc hvb
    all_goals try simp only [hvb, B25, Vault.encF, Vault.enc, hc, go_sem, V.s.injEq, Value.bool.injEq, ↓reduceIte, Nat.reduceEqDiff, Nat.reduceBEq, Nat.reduceAdd, Nat.reduceSub, Nat.reduceLT, Nat.reduceLeDiff, Int.reduceLT, Int.reduceLE, Int.reduceEq, Int.reduceToNat, List.append_assoc, List.length_append, Vm.get_app, Vm.set_app, Vm.get_appL, Vm.get_appL0, Vm.set_appL, Vm.set_appL0, Nat.le_refl, Nat.le_add_right, okAt])
/-- What is left of a vault. -/
def goneV (v : Vault) (w : Bool) : Vault := ⟨v.iD, v.gen, zero16, [], 0, 0, zero16, true, w⟩
theorem gone_ok (b : Nat) (h : Hp) (f w : Bool) (v : Vault) : run fns pr b 29 [v.encF f, .s (.bool w)] h = some ((goneV v w).enc, h) := by
  refine Vm.runP (nt := 11) rfl fit29 (by simp) ?_
  have hvb : (0 : Nat) = 0 := rfl
  try simp only [B29, Vault.encF, Vault.enc, goneV, zero16_a, go_sem, V.s.injEq, Value.bool.injEq, ↓reduceIte, Nat.reduceEqDiff, Nat.reduceBEq, Nat.reduceAdd, Nat.reduceSub, Nat.reduceLT, Nat.reduceLeDiff, Int.reduceLT, Int.reduceLE, Int.reduceEq, Int.reduceToNat, List.append_assoc, List.length_append, Vm.get_app, Vm.set_app, Vm.get_appL, Vm.get_appL0, Vm.set_appL, Vm.set_appL0, Nat.le_refl, Nat.le_add_right, okAt]
  repeat' (
    first | refine wpC_cases ?_ ?_ | refine wpU_casesT ?_ ?_ | refine wpU_casesF ?_ ?_
    all_goals intro hvc
    all_goals first | replace hvc := not_of_true hvc | replace hvc := not_of_false hvc | skip
    all_goals first | subst hvc | replace hvb := And.intro hvc hvb
    all_goals try simp only [hvb, B29, Vault.encF, Vault.enc, goneV, zero16_a, go_sem, V.s.injEq, Value.bool.injEq, ↓reduceIte, Nat.reduceEqDiff, Nat.reduceBEq, Nat.reduceAdd, Nat.reduceSub, Nat.reduceLT, Nat.reduceLeDiff, Int.reduceLT, Int.reduceLE, Int.reduceEq, Int.reduceToNat, List.append_assoc, List.length_append, Vm.get_app, Vm.set_app, Vm.get_appL, Vm.get_appL0, Vm.set_appL, Vm.set_appL0, Nat.le_refl, Nat.le_add_right, okAt])
def escV (v : Vault) (q : Request) (r : Reply) : Vault × Reply × Bool :=
  if 1099511627776 ≤ v.gen then (v, { r with why := 31 }, false)
  else (⟨q.iD, v.gen + 1, q.pin, q.secret, q.limit, 0, q.owner, false, false⟩, { r with gen := v.gen + 1, left := q.limit }, true)
def outV (o : Vault × Reply × Bool) : V := .tup [o.1.enc, o.2.1.enc, .s (.bool o.2.2)]
theorem escrow_ok (b : Nat) (h : Hp) (f f' g : Bool) (v : Vault) (q : Request) (r : Reply) (hg : 0 ≤ v.gen) (hl : q.secret.length ≤ 140737488355328) : run fns pr b 26 [v.encF f, q.encF f', r.encF g] h = some (outV (escV v q r), h) := by
  refine Vm.runP (nt := 39) rfl fit26 (by simp) ?_
  have hc := fun h0 => clone_ok h.length (h := h0) (BR_imm h0 f' q.secret) hl
  have hw : v.gen < 1099511627776 → IntKind.u64.wrap (v.gen + 1) = v.gen + 1 := fun _ => wrap_u64 (by omega) (by omega)
  have hvb : (0 : Nat) = 0 := rfl
  try simp only [B26, Vault.encF, Request.encF, Reply.encF, hc, go_sem, V.s.injEq, Value.bool.injEq, ↓reduceIte, Nat.reduceEqDiff, Nat.reduceBEq, Nat.reduceAdd, Nat.reduceSub, Nat.reduceLT, Nat.reduceLeDiff, Int.reduceLT, Int.reduceLE, Int.reduceEq, Int.reduceToNat, List.append_assoc, List.length_append, Vm.get_app, Vm.set_app, Vm.get_appL, Vm.get_appL0, Vm.set_appL, Vm.set_appL0, Nat.le_refl, Nat.le_add_right, okAt]
  repeat' (
    first | refine wpC_cases ?_ ?_ | refine wpU_casesT ?_ ?_ | refine wpU_casesF ?_ ?_
    all_goals intro hvc
    all_goals first | replace hvc := not_of_true hvc | replace hvc := not_of_false hvc | skip
    all_goals first | subst hvc | replace hvb := And.intro hvc hvb
    all_goals try simp only [hvb, B26, Vault.encF, Request.encF, Reply.encF, hc, go_sem, V.s.injEq, Value.bool.injEq, ↓reduceIte, Nat.reduceEqDiff, Nat.reduceBEq, Nat.reduceAdd, Nat.reduceSub, Nat.reduceLT, Nat.reduceLeDiff, Int.reduceLT, Int.reduceLE, Int.reduceEq, Int.reduceToNat, List.append_assoc, List.length_append, Vm.get_app, Vm.set_app, Vm.get_appL, Vm.get_appL0, Vm.set_appL, Vm.set_appL0, Nat.le_refl, Nat.le_add_right, okAt])
  all_goals clear hc
  all_goals try simp only [decide_eq_true_eq, decide_eq_false_iff_not] at *
  all_goals first
    | (simp_all [escV, outV, Vault.enc, Reply.enc, -Int.not_le, -Int.not_lt, -Nat.not_le, -Nat.not_lt, Bool.beq_eq_decide_eq]; done)
    | (simp_all [escV, outV, Vault.enc, Reply.enc, -Int.not_le, -Int.not_lt, -Nat.not_le, -Nat.not_lt, Bool.beq_eq_decide_eq]; omega)
    | (simp_all [escV, outV, Vault.enc, Reply.enc, Bool.beq_eq_decide_eq]; done)
    | (simp_all [escV, outV, Vault.enc, Reply.enc, Bool.beq_eq_decide_eq]; omega)
    | skip
theorem RightRequestF_ok (b : Nat) (h : Hp) (f : Bool) (q : Request) : run fns pr b 23 [q.encF f] h = some (.s (.bool (rightQ q)), h) := by
  refine Vm.runP (nt := 62) rfl fit23 (by simp) ?_
  have hw := fun h0 => who_ok h.length h0 q.client q.num
  rw [← whoB.eq_1] at hw
  have hvb : (0 : Nat) = 0 := rfl
  try simp only [B23, Request.encF, hw, zero16_a, o_eqaB, go_sem, V.s.injEq, Value.bool.injEq, ↓reduceIte, Nat.reduceEqDiff, Nat.reduceBEq, Nat.reduceAdd, Nat.reduceSub, Nat.reduceLT, Nat.reduceLeDiff, Int.reduceLT, Int.reduceLE, Int.reduceEq, Int.reduceToNat, List.append_assoc, List.length_append, Vm.get_app, Vm.set_app, Vm.get_appL, Vm.get_appL0, Vm.set_appL, Vm.set_appL0, Nat.le_refl, Nat.le_add_right, okAt]
  repeat' (
    first | refine wpC_cases ?_ ?_ | refine wpU_casesT ?_ ?_ | refine wpU_casesF ?_ ?_
    all_goals intro hvc
    all_goals first | replace hvc := not_of_true hvc | replace hvc := not_of_false hvc | skip
    all_goals first | subst hvc | replace hvb := And.intro hvc hvb
    all_goals try simp only [hvb, B23, Request.encF, hw, zero16_a, o_eqaB, go_sem, V.s.injEq, Value.bool.injEq, ↓reduceIte, Nat.reduceEqDiff, Nat.reduceBEq, Nat.reduceAdd, Nat.reduceSub, Nat.reduceLT, Nat.reduceLeDiff, Int.reduceLT, Int.reduceLE, Int.reduceEq, Int.reduceToNat, List.append_assoc, List.length_append, Vm.get_app, Vm.set_app, Vm.get_appL, Vm.get_appL0, Vm.set_appL, Vm.set_appL0, Nat.le_refl, Nat.le_add_right, okAt])
  all_goals clear hw
  all_goals try simp only [decide_eq_true_eq, decide_eq_false_iff_not] at *
  all_goals first
    | (simp_all [rightQ, -Int.not_le, -Int.not_lt, -Nat.not_le, -Nat.not_lt, Bool.beq_eq_decide_eq]; done)
    | (simp_all [rightQ, -Int.not_le, -Int.not_lt, -Nat.not_le, -Nat.not_lt, Bool.beq_eq_decide_eq]; omega)
    | (simp_all [rightQ, Bool.beq_eq_decide_eq]; done)
    | (simp_all [rightQ, Bool.beq_eq_decide_eq]; omega)
    | skip
theorem RightVaultF_ok (b : Nat) (h : Hp) (f : Bool) (v : Vault) : run fns pr b 24 [v.encF f] h = some (.s (.bool (rightV v)), h) := by
  refine Vm.runP (nt := 72) rfl fit24 (by simp) ?_
  have hvb : (0 : Nat) = 0 := rfl
  try simp only [B24, Vault.encF, zero16_a, o_eqaB, go_sem, V.s.injEq, Value.bool.injEq, ↓reduceIte, Nat.reduceEqDiff, Nat.reduceBEq, Nat.reduceAdd, Nat.reduceSub, Nat.reduceLT, Nat.reduceLeDiff, Int.reduceLT, Int.reduceLE, Int.reduceEq, Int.reduceToNat, List.append_assoc, List.length_append, Vm.get_app, Vm.set_app, Vm.get_appL, Vm.get_appL0, Vm.set_appL, Vm.set_appL0, Nat.le_refl, Nat.le_add_right, okAt]
  repeat' (
    first | refine wpC_cases ?_ ?_ | refine wpU_casesT ?_ ?_ | refine wpU_casesF ?_ ?_
    all_goals intro hvc
    all_goals first | replace hvc := not_of_true hvc | replace hvc := not_of_false hvc | skip
    all_goals first | subst hvc | replace hvb := And.intro hvc hvb
    all_goals try simp only [hvb, B24, Vault.encF, zero16_a, o_eqaB, go_sem, V.s.injEq, Value.bool.injEq, ↓reduceIte, Nat.reduceEqDiff, Nat.reduceBEq, Nat.reduceAdd, Nat.reduceSub, Nat.reduceLT, Nat.reduceLeDiff, Int.reduceLT, Int.reduceLE, Int.reduceEq, Int.reduceToNat, List.append_assoc, List.length_append, Vm.get_app, Vm.set_app, Vm.get_appL, Vm.get_appL0, Vm.set_appL, Vm.set_appL0, Nat.le_refl, Nat.le_add_right, okAt])
  all_goals try simp only [decide_eq_true_eq, decide_eq_false_iff_not] at *
  all_goals first
    | (simp_all [rightV, -Int.not_le, -Int.not_lt, -Nat.not_le, -Nat.not_lt, Bool.beq_eq_decide_eq]; done)
    | (simp_all [rightV, -Int.not_le, -Int.not_lt, -Nat.not_le, -Nat.not_lt, Bool.beq_eq_decide_eq]; omega)
    | (simp_all [rightV, Bool.beq_eq_decide_eq]; done)
    | (simp_all [rightV, Bool.beq_eq_decide_eq]; omega)
    | skip
/-- Guesses that are left. -/
def leftV (v : Vault) : Int := if v.gone = true ∨ rightV v = false then 0 else v.limit - v.used
theorem right_used {v : Vault} (h : rightV v = true) (hg : v.gone = false) : 0 ≤ v.used ∧ v.used < v.limit ∧ v.limit ≤ 32 := by
  simp [rightV, hg] at h; omega
theorem Left_ok (b : Nat) (h : Hp) (f : Bool) (v : Vault) : run fns pr b 41 [v.encF f] h = some (.s (.int .i64 (leftV v)), h) := by
  refine Vm.runP (nt := 15) rfl fit41 (by simp) ?_
  have hr := fun b h0 f x3_0 x3_1 x3_2 x3_3 x3_4 x3_5 x3_6 x3_7 x3_8 => RightVaultF_ok b h0 f ⟨x3_0, x3_1, x3_2, x3_3, x3_4, x3_5, x3_6, x3_7, x3_8⟩
  simp only [Vm.enc_unit, Q.enc, KV.enc, Vault.encF, Vault.enc, Request.encF, Request.enc, Reply.encF, Reply.enc] at hr
  have hw : v.gone = false → rightV v = true → IntKind.i64.wrap (v.limit - v.used) = v.limit - v.used := fun h1 h2 => by
    have := right_used h2 h1
    exact wrap_i64 (by omega) (by omega)
  obtain ⟨iD, gen, pin, se, li, us, ow, go, wi⟩ := v
  have hvb : (0 : Nat) = 0 := rfl
  try simp only [B41, Vault.encF, hr, go_sem, V.s.injEq, Value.bool.injEq, ↓reduceIte, Nat.reduceEqDiff, Nat.reduceBEq, Nat.reduceAdd, Nat.reduceSub, Nat.reduceLT, Nat.reduceLeDiff, Int.reduceLT, Int.reduceLE, Int.reduceEq, Int.reduceToNat, List.append_assoc, List.length_append, Vm.get_app, Vm.set_app, Vm.get_appL, Vm.get_appL0, Vm.set_appL, Vm.set_appL0, Nat.le_refl, Nat.le_add_right, okAt]
  repeat' (
    first | refine wpC_cases ?_ ?_ | refine wpU_casesT ?_ ?_ | refine wpU_casesF ?_ ?_
    all_goals intro hvc
    all_goals first | replace hvc := not_of_true hvc | replace hvc := not_of_false hvc | skip
    all_goals first | subst hvc | replace hvb := And.intro hvc hvb
    all_goals try simp only [hvb, B41, Vault.encF, hr, go_sem, V.s.injEq, Value.bool.injEq, ↓reduceIte, Nat.reduceEqDiff, Nat.reduceBEq, Nat.reduceAdd, Nat.reduceSub, Nat.reduceLT, Nat.reduceLeDiff, Int.reduceLT, Int.reduceLE, Int.reduceEq, Int.reduceToNat, List.append_assoc, List.length_append, Vm.get_app, Vm.set_app, Vm.get_appL, Vm.get_appL0, Vm.set_appL, Vm.set_appL0, Nat.le_refl, Nat.le_add_right, okAt])
  all_goals clear hr
  all_goals try simp only [decide_eq_true_eq, decide_eq_false_iff_not] at *
  all_goals first
    | (simp_all [leftV, -Int.not_le, -Int.not_lt, -Nat.not_le, -Nat.not_lt, Bool.beq_eq_decide_eq]; done)
    | (simp_all [leftV, -Int.not_le, -Int.not_lt, -Nat.not_le, -Nat.not_lt, Bool.beq_eq_decide_eq]; omega)
    | (simp_all [leftV, Bool.beq_eq_decide_eq]; done)
    | (simp_all [leftV, Bool.beq_eq_decide_eq]; omega)
    | skip
def missV (v : Vault) (q : Request) : Int := if v.gen = 0 then 22 else if v.gone = true then 24 else if q.op ≠ 2 ∧ q.owner ≠ v.owner then 25 else 0
theorem missing_ok (b : Nat) (h : Hp) (f g : Bool) (v : Vault) (q : Request) : run fns pr b 27 [v.encF f, q.encF g] h = some (.s (.int .i64 (missV v q)), h) := by
  refine Vm.runP (nt := 23) rfl fit27 (by simp) ?_
  have hvb : (0 : Nat) = 0 := rfl
  try simp only [B27, Vault.encF, Request.encF, o_eqaB, go_sem, V.s.injEq, Value.bool.injEq, ↓reduceIte, Nat.reduceEqDiff, Nat.reduceBEq, Nat.reduceAdd, Nat.reduceSub, Nat.reduceLT, Nat.reduceLeDiff, Int.reduceLT, Int.reduceLE, Int.reduceEq, Int.reduceToNat, List.append_assoc, List.length_append, Vm.get_app, Vm.set_app, Vm.get_appL, Vm.get_appL0, Vm.set_appL, Vm.set_appL0, Nat.le_refl, Nat.le_add_right, okAt]
  repeat' (
    first | refine wpC_cases ?_ ?_ | refine wpU_casesT ?_ ?_ | refine wpU_casesF ?_ ?_
    all_goals intro hvc
    all_goals first | replace hvc := not_of_true hvc | replace hvc := not_of_false hvc | skip
    all_goals first | subst hvc | replace hvb := And.intro hvc hvb
    all_goals try simp only [hvb, B27, Vault.encF, Request.encF, o_eqaB, go_sem, V.s.injEq, Value.bool.injEq, ↓reduceIte, Nat.reduceEqDiff, Nat.reduceBEq, Nat.reduceAdd, Nat.reduceSub, Nat.reduceLT, Nat.reduceLeDiff, Int.reduceLT, Int.reduceLE, Int.reduceEq, Int.reduceToNat, List.append_assoc, List.length_append, Vm.get_app, Vm.set_app, Vm.get_appL, Vm.get_appL0, Vm.set_appL, Vm.set_appL0, Nat.le_refl, Nat.le_add_right, okAt])
  all_goals try simp only [decide_eq_true_eq, decide_eq_false_iff_not] at *
  all_goals first
    | (simp_all [missV, -Int.not_le, -Int.not_lt, -Nat.not_le, -Nat.not_lt, Bool.beq_eq_decide_eq]; done)
    | (simp_all [missV, -Int.not_le, -Int.not_lt, -Nat.not_le, -Nat.not_lt, Bool.beq_eq_decide_eq]; omega)
    | (simp_all [missV, Bool.beq_eq_decide_eq]; done)
    | (simp_all [missV, Bool.beq_eq_decide_eq]; omega)
    | skip
/-- A vault of which one guess more is gone. -/
def usedV (v : Vault) : Vault := { v with used := v.used + 1 }
def recV (v : Vault) (q : Request) (r : Reply) : Vault × Reply × Bool :=
  if q.pin = v.pin then (v, { r with secret := v.secret, left := leftV v }, false)
  else if v.used + 1 = v.limit then (goneV v true, { r with why := 23 }, true)
  else (usedV v, { r with why := 23, left := leftV (usedV v) }, true)
theorem recovered_ok (b : Nat) (h : Hp) (f f' g : Bool) (v : Vault) (q : Request) (r : Reply) (hr : rightV v = true) (hg : v.gone = false) : run fns pr b 28 [v.encF f, q.encF f', r.encF g] h = some (outV (recV v q r), h) := by
  refine Vm.runP (nt := 41) rfl fit28 (by simp) ?_
  have hu := right_used hr hg
  have hs : v.secret.length ≤ 64 := by simp [rightV, hg] at hr; omega
  have hc := fun h0 => clone_ok h.length (h := h0) (BR_imm h0 f v.secret) (by omega)
  have hl := fun b h0 f x3_0 x3_1 x3_2 x3_3 x3_4 x3_5 x3_6 x3_7 x3_8 => Left_ok b h0 f ⟨x3_0, x3_1, x3_2, x3_3, x3_4, x3_5, x3_6, x3_7, x3_8⟩
  simp only [Vm.enc_unit, Q.enc, KV.enc, Vault.encF, Vault.enc, Request.encF, Request.enc, Reply.encF, Reply.enc] at hl
  have hx := fun b h0 f w x4_0 x4_1 x4_2 x4_3 x4_4 x4_5 x4_6 x4_7 x4_8 => gone_ok b h0 f w ⟨x4_0, x4_1, x4_2, x4_3, x4_4, x4_5, x4_6, x4_7, x4_8⟩
  simp only [Vm.enc_unit, Q.enc, KV.enc, Vault.encF, Vault.enc, Request.encF, Request.enc, Reply.encF, Reply.enc] at hx
  have hw : IntKind.i64.wrap (v.used + 1) = v.used + 1 := wrap_i64 (by omega) (by omega)
  clear hr
  obtain ⟨iD, gen, pin, se, li, us, ow, go, wi⟩ := v
  obtain ⟨op, id', pin', se', li', ow', ky, cl, nu⟩ := q
  obtain ⟨why, id1, gen1, left1, se1, cl1, nu1⟩ := r
  have hvb : (0 : Nat) = 0 := rfl
  try simp only [B28, Vault.encF, Request.encF, Reply.encF, o_eqaB, hc, hl, hx, hw, go_sem, V.s.injEq, Value.bool.injEq, ↓reduceIte, Nat.reduceEqDiff, Nat.reduceBEq, Nat.reduceAdd, Nat.reduceSub, Nat.reduceLT, Nat.reduceLeDiff, Int.reduceLT, Int.reduceLE, Int.reduceEq, Int.reduceToNat, List.append_assoc, List.length_append, Vm.get_app, Vm.set_app, Vm.get_appL, Vm.get_appL0, Vm.set_appL, Vm.set_appL0, Nat.le_refl, Nat.le_add_right, okAt]
  repeat' (
    first | refine wpC_cases ?_ ?_ | refine wpU_casesT ?_ ?_ | refine wpU_casesF ?_ ?_
    all_goals intro hvc
    all_goals first | replace hvc := not_of_true hvc | replace hvc := not_of_false hvc | skip
    all_goals first | subst hvc | replace hvb := And.intro hvc hvb
    all_goals try simp only [hvb, B28, Vault.encF, Request.encF, Reply.encF, o_eqaB, hc, hl, hx, hw, go_sem, V.s.injEq, Value.bool.injEq, ↓reduceIte, Nat.reduceEqDiff, Nat.reduceBEq, Nat.reduceAdd, Nat.reduceSub, Nat.reduceLT, Nat.reduceLeDiff, Int.reduceLT, Int.reduceLE, Int.reduceEq, Int.reduceToNat, List.append_assoc, List.length_append, Vm.get_app, Vm.set_app, Vm.get_appL, Vm.get_appL0, Vm.set_appL, Vm.set_appL0, Nat.le_refl, Nat.le_add_right, okAt])
  all_goals clear hc
  all_goals clear hl hx
  all_goals try simp only [decide_eq_true_eq, decide_eq_false_iff_not] at *
  all_goals first
    | (simp_all [recV, outV, Vault.enc, Reply.enc, usedV, goneV, -Int.not_le, -Int.not_lt, -Nat.not_le, -Nat.not_lt, Bool.beq_eq_decide_eq]; done)
    | (simp_all [recV, outV, Vault.enc, Reply.enc, usedV, goneV, -Int.not_le, -Int.not_lt, -Nat.not_le, -Nat.not_lt, Bool.beq_eq_decide_eq]; omega)
    | (simp_all [recV, outV, Vault.enc, Reply.enc, usedV, goneV, Bool.beq_eq_decide_eq]; done)
    | (simp_all [recV, outV, Vault.enc, Reply.enc, usedV, goneV, Bool.beq_eq_decide_eq]; omega)
    | skip
/-- A request done on a vault. -/
def vdo (v : Vault) (q : Request) : Vault × Reply × Bool :=
  if rightQ q = false ∨ v ≠ zeroV ∧ (rightV v = false ∨ v.iD ≠ q.iD) then (zeroV, { zeroR with why := 12 }, false)
  else
    let r : Reply := ⟨0, q.iD, v.gen, 0, [], q.client, q.num⟩
    if q.op = 1 then (if v ≠ zeroV ∧ v.gone = false then (v, { r with why := 14 }, false) else escV v q r)
    else if missV v q ≠ 0 then (v, { r with why := missV v q }, false)
    else if q.op = 2 then recV v q { r with why := missV v q }
    else if q.op = 3 then escV v q { r with why := missV v q }
    else (goneV v false, { r with why := missV v q }, true)
theorem right_secretV {v : Vault} (h : rightV v = true) : v.secret.length ≤ 64 := by
  simp [rightV] at h
  have := h.2
  split at this <;> simp_all
theorem right_secretQ {q : Request} (h : rightQ q = true) : q.secret.length ≤ 64 := by
  simp [rightQ] at h
  have := h.2
  repeat' split at this
  all_goals simp_all
theorem zeroV_e (f : Bool) : zeroV.encF f = V.st 29 [.arr 23 (zero4.map byteV), .s (.int .u64 0), .arr 26 (zero16.map byteV), .imm f none [], .s (.int .i64 0), .s (.int .i64 0), .arr 26 (zero16.map byteV), .s (.bool false), .s (.bool false)] := rfl
theorem right_goneV {v : Vault} (h : rightV v = true) : 1 ≤ v.gen := by
  simp [rightV] at h; exact h.1.1
/-- A right request done on a vault that is right, or none. -/
def doG (v : Vault) (q : Request) : Vault × Reply × Bool :=
    if q.op = 1 then (if v ≠ zeroV ∧ v.gone = false then (v, ⟨14, q.iD, v.gen, 0, [], q.client, q.num⟩, false) else escV v q ⟨0, q.iD, v.gen, 0, [], q.client, q.num⟩)
    else if missV v q ≠ 0 then (v, ⟨missV v q, q.iD, v.gen, 0, [], q.client, q.num⟩, false)
    else if q.op = 2 then recV v q ⟨0, q.iD, v.gen, 0, [], q.client, q.num⟩
    else if q.op = 3 then escV v q ⟨0, q.iD, v.gen, 0, [], q.client, q.num⟩
    else (goneV v false, ⟨0, q.iD, v.gen, 0, [], q.client, q.num⟩, true)
theorem Do_good (b : Nat) (h : Hp) (f g : Bool) (v : Vault) (q : Request) (hg : 0 ≤ v.gen) (hq : rightQ q = true) (hz : v = zeroV ∨ rightV v = true ∧ v.iD = q.iD) : run fns pr b 7 [v.encF f, q.encF g] h = some (outV (doG v q), h) := by
  unfold doG
  refine Vm.runP (nt := 96) rfl fit7 (by simp) ?_
  have hs : v.secret.length ≤ 64 := by
    rcases hz with rfl | hz
    · decide
    · exact right_secretV hz.1
  have hsq := right_secretQ hq
  have h1 := fun b h0 f g x4_0 x4_1 x4_2 x4_3 x4_4 x4_5 x4_6 x4_7 x4_8 => CSameF_ok b h0 f g ⟨x4_0, x4_1, x4_2, x4_3, x4_4, x4_5, x4_6, x4_7, x4_8⟩ zeroV
  simp only [zeroV_e] at h1
  simp only [Vm.enc_unit, Q.enc, KV.enc, Vault.encF, Vault.enc, Request.encF, Request.enc, Reply.encF, Reply.enc] at h1
  have h2 := fun b h0 f x3_0 x3_1 x3_2 x3_3 x3_4 x3_5 x3_6 x3_7 x3_8 => RightRequestF_ok b h0 f ⟨x3_0, x3_1, x3_2, x3_3, x3_4, x3_5, x3_6, x3_7, x3_8⟩
  simp only [Vm.enc_unit, Q.enc, KV.enc, Vault.encF, Vault.enc, Request.encF, Request.enc, Reply.encF, Reply.enc] at h2
  have h3 := fun b h0 f x3_0 x3_1 x3_2 x3_3 x3_4 x3_5 x3_6 x3_7 x3_8 => RightVaultF_ok b h0 f ⟨x3_0, x3_1, x3_2, x3_3, x3_4, x3_5, x3_6, x3_7, x3_8⟩
  simp only [Vm.enc_unit, Q.enc, KV.enc, Vault.encF, Vault.enc, Request.encF, Request.enc, Reply.encF, Reply.enc] at h3
  have h6 := fun b h0 f g x4_0 x4_1 x4_2 x4_3 x4_4 x4_5 x4_6 x4_7 x4_8 x5_0 x5_1 x5_2 x5_3 x5_4 x5_5 x5_6 x5_7 x5_8 => missing_ok b h0 f g ⟨x4_0, x4_1, x4_2, x4_3, x4_4, x4_5, x4_6, x4_7, x4_8⟩ ⟨x5_0, x5_1, x5_2, x5_3, x5_4, x5_5, x5_6, x5_7, x5_8⟩
  simp only [Vm.enc_unit, Q.enc, KV.enc, Vault.encF, Vault.enc, Request.encF, Request.enc, Reply.encF, Reply.enc] at h6
  have h8 := fun b h0 f w x4_0 x4_1 x4_2 x4_3 x4_4 x4_5 x4_6 x4_7 x4_8 => gone_ok b h0 f w ⟨x4_0, x4_1, x4_2, x4_3, x4_4, x4_5, x4_6, x4_7, x4_8⟩
  simp only [Vm.enc_unit, Q.enc, KV.enc, Vault.encF, Vault.enc, Request.encF, Request.enc, Reply.encF, Reply.enc] at h8
  have h4 := fun b h0 => own_ok b h0 f v (by omega)
  have h5 := fun b h0 f f' g x1 x2 x3 x4 x6 x7 => escrow_ok b h0 f f' g v q ⟨x1, x2, x3, x4, [], x6, x7⟩ hg (by omega)
  have h7 : missV v q = 0 → ∀ b h0 f f' g x1 x2 x3 x4 x6 x7, run fns pr b 28 [v.encF f, q.encF f', Reply.encF g ⟨x1, x2, x3, x4, [], x6, x7⟩] h0 = some (outV (recV v q ⟨x1, x2, x3, x4, [], x6, x7⟩), h0) := by
    intro hm b h0 f f' g x1 x2 x3 x4 x6 x7
    simp only [missV] at hm
    rcases hz with rfl | hz
    · simp [zeroV] at hm
    · refine recovered_ok b h0 f f' g v q _ hz.1 ?_
      cases hgo : v.gone with
      | false => rfl
      | true => rw [if_neg (by have := right_goneV hz.1; omega), if_pos hgo] at hm; cases hm
  have hi : v ≠ zeroV → rightV v = true ∧ v.iD = q.iD := fun h => hz.resolve_left h
  clear hz hs hsq
  have hm0 : 0 ≤ missV v q := by
    unfold missV; repeat' split
    all_goals omega
  generalize hmv : missV v q = m at *
  obtain ⟨iD, gen, pin, se, li, us, ow, go, wi⟩ := v
  obtain ⟨op, id', pin', se', li', ow', ky, cl, nu⟩ := q
  simp only [Vault.encF, Request.encF, Reply.encF, List.map_nil, outV] at h4 h5 h7
  simp only [Vault.enc] at h4
  simp only [ne_eq] at hi ⊢
  by_cases hm : m = 0
  · subst hm
    replace h7 := h7 rfl
    have hmv' := hmv
    simp only [missV] at hmv
    have hvb : (0 : Nat) = 0 := rfl
    try simp only [B7, Vault.encF, Request.encF, Reply.encF, o_eqaB, zero4_a, zero16_a, h1, h2, h3, h4, h5, h6, h7, h8, hq, hmv', enc_tyV, enc_tyR, enc_soV, enc_soR, enc_frV, enc_frR, go_sem, V.s.injEq, Value.bool.injEq, ↓reduceIte, Nat.reduceEqDiff, Nat.reduceBEq, Nat.reduceAdd, Nat.reduceSub, Nat.reduceLT, Nat.reduceLeDiff, Int.reduceLT, Int.reduceLE, Int.reduceEq, Int.reduceToNat, List.append_assoc, List.length_append, Vm.get_app, Vm.set_app, Vm.get_appL, Vm.get_appL0, Vm.set_appL, Vm.set_appL0, Nat.le_refl, Nat.le_add_right, okAt]
    repeat' (
      first | refine wpC_cases ?_ ?_ | refine wpU_casesT ?_ ?_ | refine wpU_casesF ?_ ?_
      all_goals intro hvc
      all_goals first | replace hvc := not_of_true hvc | replace hvc := not_of_false hvc | skip
      all_goals first | subst hvc | replace hvb := And.intro hvc hvb
      all_goals try simp only [hvb, B7, Vault.encF, Request.encF, Reply.encF, o_eqaB, zero4_a, zero16_a, h1, h2, h3, h4, h5, h6, h7, h8, hq, hmv', enc_tyV, enc_tyR, enc_soV, enc_soR, enc_frV, enc_frR, go_sem, V.s.injEq, Value.bool.injEq, ↓reduceIte, Nat.reduceEqDiff, Nat.reduceBEq, Nat.reduceAdd, Nat.reduceSub, Nat.reduceLT, Nat.reduceLeDiff, Int.reduceLT, Int.reduceLE, Int.reduceEq, Int.reduceToNat, List.append_assoc, List.length_append, Vm.get_app, Vm.set_app, Vm.get_appL, Vm.get_appL0, Vm.set_appL, Vm.set_appL0, Nat.le_refl, Nat.le_add_right, okAt])
    all_goals clear h4 h5 h7
    all_goals clear h1 h2 h3 h6 h8
    all_goals try simp only [decide_eq_true_eq, decide_eq_false_iff_not] at *
    all_goals first
      | (simp_all [outV, Vault.enc, Reply.enc, -Int.not_le, -Int.not_lt, -Nat.not_le, -Nat.not_lt, Bool.beq_eq_decide_eq]; done)
      | (simp_all [outV, Vault.enc, Reply.enc, -Int.not_le, -Int.not_lt, -Nat.not_le, -Nat.not_lt, Bool.beq_eq_decide_eq]; omega)
      | (simp_all [outV, Vault.enc, Reply.enc, Bool.beq_eq_decide_eq]; done)
      | (simp_all [outV, Vault.enc, Reply.enc, Bool.beq_eq_decide_eq]; omega)
      | skip
  · clear h7
    have hm' : decide (m = 0) = false := by simp [hm]
    have hvb : (0 : Nat) = 0 := rfl
    try simp only [B7, Vault.encF, Request.encF, Reply.encF, o_eqaB, zero4_a, zero16_a, h1, h2, h3, h4, h5, h6, h8, hq, hmv, hm', enc_tyV, enc_tyR, enc_soV, enc_soR, enc_frV, enc_frR, go_sem, V.s.injEq, Value.bool.injEq, ↓reduceIte, Nat.reduceEqDiff, Nat.reduceBEq, Nat.reduceAdd, Nat.reduceSub, Nat.reduceLT, Nat.reduceLeDiff, Int.reduceLT, Int.reduceLE, Int.reduceEq, Int.reduceToNat, List.append_assoc, List.length_append, Vm.get_app, Vm.set_app, Vm.get_appL, Vm.get_appL0, Vm.set_appL, Vm.set_appL0, Nat.le_refl, Nat.le_add_right, okAt]
    repeat' (
      first | refine wpC_cases ?_ ?_ | refine wpU_casesT ?_ ?_ | refine wpU_casesF ?_ ?_
      all_goals intro hvc
      all_goals first | replace hvc := not_of_true hvc | replace hvc := not_of_false hvc | skip
      all_goals first | subst hvc | replace hvb := And.intro hvc hvb
      all_goals try simp only [hvb, B7, Vault.encF, Request.encF, Reply.encF, o_eqaB, zero4_a, zero16_a, h1, h2, h3, h4, h5, h6, h8, hq, hmv, hm', enc_tyV, enc_tyR, enc_soV, enc_soR, enc_frV, enc_frR, go_sem, V.s.injEq, Value.bool.injEq, ↓reduceIte, Nat.reduceEqDiff, Nat.reduceBEq, Nat.reduceAdd, Nat.reduceSub, Nat.reduceLT, Nat.reduceLeDiff, Int.reduceLT, Int.reduceLE, Int.reduceEq, Int.reduceToNat, List.append_assoc, List.length_append, Vm.get_app, Vm.set_app, Vm.get_appL, Vm.get_appL0, Vm.set_appL, Vm.set_appL0, Nat.le_refl, Nat.le_add_right, okAt])
    all_goals clear h4 h5
    all_goals clear h1 h2 h3 h6 h8
    all_goals try simp only [decide_eq_true_eq, decide_eq_false_iff_not] at *
    all_goals first
      | (simp_all [outV, Vault.enc, Reply.enc, -Int.not_le, -Int.not_lt, -Nat.not_le, -Nat.not_lt, Bool.beq_eq_decide_eq]; done)
      | (simp_all [outV, Vault.enc, Reply.enc, -Int.not_le, -Int.not_lt, -Nat.not_le, -Nat.not_lt, Bool.beq_eq_decide_eq]; omega)
      | (simp_all [outV, Vault.enc, Reply.enc, Bool.beq_eq_decide_eq]; done)
      | (simp_all [outV, Vault.enc, Reply.enc, Bool.beq_eq_decide_eq]; omega)
      | skip
    all_goals (clear hi hmv hm0; simp_all [outV, Vault.enc, Reply.enc, zeroV])
end Go.Proofs.Ytfhmclgnfabdfaa
