/- Vaults, requests, replies held against each other; which of them are right. Conditions: none. -/
import Derived.Test.YtfhmclgnfabdfaaCS0
namespace Go.Proofs.Ytfhmclgnfabdfaa
open Go Go.Vm Go.Proofs Go.Cl
set_option linter.unusedSimpArgs false
set_option linter.unusedVariables false
set_option maxRecDepth 100000

theorem ints_bytes : ∀ l : Bs, ints .u8 (l.map byteV) = some (l.map fun b => (b.toNat : Int))
  | [] => rfl
  | b :: l => by
    have ih := ints_bytes l
    show (if IntKind.u8 = IntKind.u8 then (ints .u8 (l.map byteV)).map ((b.toNat : Int) :: ·) else none) = _
    rw [if_pos rfl, ih]; rfl
theorem toNat_map_inj : ∀ {a b : Bs}, (a.map fun b => (b.toNat : Int)) = (b.map fun b => (b.toNat : Int)) → a = b
  | [], [], _ => rfl
  | [], _ :: _, h => by simp at h
  | _ :: _, [], h => by simp at h
  | x :: a, y :: b, h => by
    simp only [List.map_cons, List.cons.injEq] at h
    have h1 : x.toNat = y.toNat := by have := h.1; omega
    rw [UInt8.toNat_inj.1 h1, toNat_map_inj h.2]
theorem o_eqaB {cf : CF} {base : Nat} {h : Hp} (t : Nat) (neg : Bool) (a b : Bs) : opV cf base h (.eqa t .u8 neg) [.arr t (a.map byteV), .arr t (b.map byteV)] = some (.s (.bool (if neg = true then !decide (a = b) else decide (a = b))), h) := by
  rw [o_eqa, ints_bytes, ints_bytes, eqaR_some]
  have : (List.map (fun b => (b.toNat : Int)) a = List.map (fun b => (b.toNat : Int)) b) = (a = b) := propext ⟨toNat_map_inj, fun h => by rw [h]⟩
  simp only [this]

theorem who_ok (b : Nat) (h : Hp) (c n : Int) : run fns pr b 39 [.s (.int .i64 c), .s (.int .u64 n)] h = some (.s (.bool (decide (0 ≤ c) && decide (c < 4) && decide (n ≤ 1099511627776))), h) := by
  refine Vm.runP (nt := 15) rfl fit39 (by simp) ?_
  by_cases h1 : 0 ≤ c
  case neg => simp only [B39, go_sem, ↓reduceIte, Nat.reduceEqDiff, Nat.reduceBEq, Nat.reduceAdd, Nat.reduceSub, Nat.reduceLT, Nat.reduceLeDiff, Int.reduceLT, Int.reduceLE, Int.reduceEq, Int.reduceToNat, h1, Bool.false_and]
  by_cases h2 : c < 4
  case neg => simp only [B39, go_sem, ↓reduceIte, Nat.reduceEqDiff, Nat.reduceBEq, Nat.reduceAdd, Nat.reduceSub, Nat.reduceLT, Nat.reduceLeDiff, Int.reduceLT, Int.reduceLE, Int.reduceEq, Int.reduceToNat, h1, h2, Bool.false_and, Bool.and_false]
  simp only [B39, go_sem, ↓reduceIte, Nat.reduceEqDiff, Nat.reduceBEq, Nat.reduceAdd, Nat.reduceSub, Nat.reduceLT, Nat.reduceLeDiff, Int.reduceLT, Int.reduceLE, Int.reduceEq, Int.reduceToNat, h1, h2, Bool.true_and]

def whoB (c n : Int) : Bool := decide (0 ≤ c) && decide (c < 4) && decide (n ≤ 1099511627776)
/-- A request that is right. -/
def rightQ (q : Request) : Bool := whoB q.client q.num &&
  (if q.op = 1 ∨ q.op = 3 then decide (1 ≤ q.limit) && decide (q.limit ≤ 32) && decide (q.secret.length ≤ 64)
   else if q.op = 2 then decide (q.limit = 0) && decide (q.owner = zero16) && decide (q.secret.length = 0)
   else if q.op = 4 then decide (q.limit = 0) && decide (q.pin = zero16) && decide (q.secret.length = 0) else false)
/-- A vault that is right. -/
def rightV (v : Vault) : Bool := decide (1 ≤ v.gen) && decide (v.gen ≤ 1099511627776) &&
  (if v.gone = true then decide (v.pin = zero16) && decide (v.owner = zero16) && decide (v.secret.length = 0) && decide (v.limit = 0) && decide (v.used = 0)
   else !v.wiped && decide (1 ≤ v.limit) && decide (v.limit ≤ 32) && decide (0 ≤ v.used) && decide (v.used < v.limit) && decide (v.secret.length ≤ 64))
end Go.Proofs.Ytfhmclgnfabdfaa
