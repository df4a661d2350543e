/- Requests as the statements draw them. Conditions: none. -/
import Derived.Test.YtfhmclgnfabdfaaCS11
namespace Go.Proofs.Ytfhmclgnfabdfaa
open Go Go.Vm Go.Proofs Go.Cl
set_option linter.unusedSimpArgs false
set_option linter.unusedVariables false
set_option maxRecDepth 100000
/-- A digest, a name made of a number. -/
def dOf (n : Int) : Bs := [bt n, bt (shrI .i64 n 8), 3, 0, 0, 0, 0, 0, 0, 0, 0, 0, 0, 0, 0, 0]
def idOf (n : Int) : Bs := [bt (within n 0 255), 7, 0, 0]
theorem dOf_v (x : Int) (t : Nat) : V.arr t [byteV (bt x), byteV (bt (shrI .i64 x 8)), .s (.int .u8 3), .s (.int .u8 0), .s (.int .u8 0), .s (.int .u8 0), .s (.int .u8 0), .s (.int .u8 0), .s (.int .u8 0), .s (.int .u8 0), .s (.int .u8 0), .s (.int .u8 0), .s (.int .u8 0), .s (.int .u8 0), .s (.int .u8 0), .s (.int .u8 0)] = .arr t ((dOf x).map byteV) := rfl
theorem D_ok (b : Nat) (h : Hp) (n : Int) : run fns pr b 20 [.s (.int .i64 n)] h = some (.arr 26 ((dOf n).map byteV), h) := by
  refine Vm.runP (nt := 9) rfl fit20 (by simp) ?_
  have hs := fun cf base h => o_shr (cf := cf) (base := base) (h := h) .i64 .u64 n 8 (by decide)
  have hs' := fun cf base h => o_shr (cf := cf) (base := base) (h := h) .i64 .i64 n 8 (by decide)
  have hvb : (0 : Nat) = 0 := rfl
  try simp only [B20, hs, hs', bt_v, dOf_v, go_sem, V.s.injEq, Value.bool.injEq, ↓reduceIte, Nat.reduceEqDiff, Nat.reduceBEq, Nat.reduceAdd, Nat.reduceSub, Nat.reduceLT, Nat.reduceLeDiff, Int.reduceLT, Int.reduceLE, Int.reduceEq, Int.reduceToNat, List.append_assoc, List.length_append, Vm.get_app, Vm.set_app, Vm.get_appL, Vm.get_appL0, Vm.set_appL, Vm.set_appL0, Nat.le_refl, Nat.le_add_right, okAt]
  repeat' (
    first | refine wpC_cases ?_ ?_ | refine wpU_casesT ?_ ?_ | refine wpU_casesF ?_ ?_
    all_goals intro hvc
    all_goals first | replace hvc := not_of_true hvc | replace hvc := not_of_false hvc | skip
    all_goals first | subst hvc | replace hvb := And.intro hvc hvb
    all_goals try simp only [hvb, B20, hs, hs', bt_v, dOf_v, go_sem, V.s.injEq, Value.bool.injEq, ↓reduceIte, Nat.reduceEqDiff, Nat.reduceBEq, Nat.reduceAdd, Nat.reduceSub, Nat.reduceLT, Nat.reduceLeDiff, Int.reduceLT, Int.reduceLE, Int.reduceEq, Int.reduceToNat, List.append_assoc, List.length_append, Vm.get_app, Vm.set_app, Vm.get_appL, Vm.get_appL0, Vm.set_appL, Vm.set_appL0, Nat.le_refl, Nat.le_add_right, okAt])
def keepQ (x : Q) : Request :=
  let op := 1 + (within x.op 0 1048576).tmod 4
  { op := op, iD := idOf x.iD, pin := if op = 4 then zero16 else dOf ((within x.pin 0 1048576).tmod 3),
    secret := if op = 1 ∨ op = 3 then x.secret.take 64 else [], limit := if op = 1 ∨ op = 3 then within x.limit 1 32 else 0,
    owner := if op = 2 then zero16 else dOf ((within x.owner 0 1048576).tmod 2), key_ := dOf (IntKind.i64.wrap (x.client + 77)), client := within x.client 0 3, num := x.num.tmod 1099511627777 }
end Go.Proofs.Ytfhmclgnfabdfaa
