/- The ideal map: sixteen tables. Conditions: none. -/
import Derived.Test.YtfhmclgnfabdfaaCS12F
namespace Go.Vm
set_option linter.unusedVariables false
theorem Rd_arr {h : Hp} {j t : Nat} {g : Option Nat} {l : List UInt8} (hg : h[j]? = some (.cells g [.arr t (l.map byteV)])) : elems h (.ref j [0] none 0 l.length 1) = some (none, l.map byteV) := by
  simp only [elems, Vm.rowAt, node, rowOf, hg, nodeAt, List.length_cons, List.length_nil, if_true, List.getElem?_cons_zero, Option.map_some, List.drop_zero, take_map_len]
end Go.Vm
namespace Go.Proofs.Ytfhmclgnfabdfaa
open Go Go.Vm Go.Proofs Go.Cl
set_option linter.unusedSimpArgs false
set_option linter.unusedVariables false
set_option maxRecDepth 100000
/-- The shard of a name. -/
def shardOf (id : Bs) : Nat := ((sumB id).getD 0 0).toNat % 16
theorem shardOf_lt (id : Bs) : shardOf id < 16 := Nat.mod_lt _ (by decide)
theorem sum_run (b : Nat) (x : V) (h : Hp) : run fns pr b 47 [x] h = sumF [x] h := by
  rw [run_pr fns pr rfl]; rfl
theorem sum_arr (b : Nat) {h : Hp} {j t : Nat} {g : Option Nat} {l : Bs} (hg : h[j]? = some (.cells g [.arr t (l.map byteV)])) (hl : l.length ≤ 1000000) : run fns pr b 47 [.ref j [0] none 0 l.length 1] h = some (.arr 26 ((sumB l).map byteV), h) := by
  rw [sum_run]; exact sumF_eq (Rd.mk' (Rd_arr hg) rfl) hl
theorem sum0 (l : Bs) : ∃ u : Nat, u < 256 ∧ ((sumB l).map byteV)[0]? = some (.s (.int .u8 u)) ∧ ((sumB l).getD 0 0).toNat = u := by
  have h := sumB_len l
  refine ⟨((sumB l).getD 0 0).toNat, UInt8.toNat_lt _, ?_, rfl⟩
  rw [List.getElem?_map, List.getD, List.getElem?_eq_getElem (by omega)]
  rfl
theorem ShardOf_ok (b : Nat) (h : Hp) (id : Bs) (hl : id.length ≤ 1000000) : run fns pr b 36 [.arr 23 (id.map byteV)] h = some (.s (.int .i64 (shardOf id : Nat)), h) := by
  refine Vm.runP (nt := 8) rfl fit36 (by simp) ?_
  have hs := sum_arr h.length (h := h ++ [.cells (some 23) [.arr 23 (id.map byteV)]]) (get_app0 _ _) hl
  obtain ⟨u, hu, h0, he⟩ := sum0 id
  have hlen : ((sumB id).map byteV).length = 16 := by rw [List.length_map, sumB_len]
  have hr : ∀ cf base h, opV cf base h (.bin .num .rem) [.s (.int .u8 (u : Int)), .s (.int .u8 16)] = some (.s (.int .u8 ((u % 16 : Nat) : Int)), h) := fun cf base h => by
    rw [o_rem cf base h .u8 _ 16 (by omega), Int.tmod_eq_emod_of_nonneg (by omega)]; rfl
  have hw : IntKind.i64.wrap ((u % 16 : Nat) : Int) = ((u % 16 : Nat) : Int) := wrap_i64 (by omega) (by omega)
  have hfin : shardOf id = u % 16 := by rw [shardOf, he]
  generalize (sumB id).map byteV = ws at hs h0 hlen
  rw [hfin]
  have hix : ∀ cf base h, opV cf base h (.idx 26) [.arr 26 ws, .s (.int .i64 0)] = some (.s (.int .u8 u), h) := fun cf base h => by
    have h1 : (0 : Int) < ((16 : Nat) : Int) := by decide
    simp only [opV, opIdx, numOf, hlen, h0, h1, Int.le_refl, and_self, if_true, Int.toNat_zero, Option.map_some]
  have hvb : (0 : Nat) = 0 := rfl
  try simp only [B36, hs, hix, hr, hw, go_sem, V.s.injEq, Value.bool.injEq, ↓reduceIte, Nat.reduceEqDiff, Nat.reduceBEq, Nat.reduceAdd, Nat.reduceSub, Nat.reduceLT, Nat.reduceLeDiff, Int.reduceLT, Int.reduceLE, Int.reduceEq, Int.reduceToNat, List.append_assoc, List.length_append, Vm.get_app, Vm.set_app, Vm.get_appL, Vm.get_appL0, Vm.set_appL, Vm.set_appL0, Nat.le_refl, Nat.le_add_right, okAt]
  repeat' (
    first | refine wpC_cases ?_ ?_ | refine wpU_casesT ?_ ?_ | refine wpU_casesF ?_ ?_
    all_goals intro hvc
    all_goals first | replace hvc := not_of_true hvc | replace hvc := not_of_false hvc | skip
    all_goals first | subst hvc | replace hvb := And.intro hvc hvb
    all_goals try simp only [hvb, B36, hs, hix, hr, hw, go_sem, V.s.injEq, Value.bool.injEq, ↓reduceIte, Nat.reduceEqDiff, Nat.reduceBEq, Nat.reduceAdd, Nat.reduceSub, Nat.reduceLT, Nat.reduceLeDiff, Int.reduceLT, Int.reduceLE, Int.reduceEq, Int.reduceToNat, List.append_assoc, List.length_append, Vm.get_app, Vm.set_app, Vm.get_appL, Vm.get_appL0, Vm.set_appL, Vm.set_appL0, Nat.le_refl, Nat.le_add_right, okAt])
end Go.Proofs.Ytfhmclgnfabdfaa
