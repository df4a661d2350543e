/- What a person types: that the document says the same; its runs. Conditions: none. -/
import Derived.Test.YtdhgcdkinehomaaCP3
namespace Go.Proofs.Ytdhgcdkinehomaa
open Go Go.Vm Go.Proofs Go.Cl
set_option linter.unusedSimpArgs false
set_option linter.unusedVariables false
set_option maxRecDepth 100000
theorem same_ok (b : Nat) (h : Hp) (l : Bs) (hl : l.length ≤ 1000000) : run fns pr b 30 [txt l] h = some (.s (.bool true), h) := by
  refine Vm.runP (nt := 47) rfl fit30 (by simp) ?_
  obtain ⟨v, h', k, h1, xr, fw, hk⟩ := Signs_ok h.length h l hl
  have h2 := fun b h => Normal_ok b h l hl
  have h3 := fun b h => rNormal_ok b h l hl
  have h4 := fun b h => Weak_ok b h l hl
  have h5 := fun b h => rWeak_ok b h l hl
  have h6 := fun b h => Masked_ok b h l hl
  have h7 := fun b h => rMasked_ok b h l hl
  have h8 := fun b h => Count_ok b h l hl
  have hln := fun cf base => xr.SR.o_len (cf := cf) (base := base) (h := h')
  have htk := fw.take
  simp only [txt, List.length_map] at h1 h2 h3 h4 h5 h6 h7 h8 hln
  have hvb : (0 : Nat) = 0 := rfl
  try simp only [B30, txt, h1, h2, h3, h4, h5, h6, h7, h8, hln, htk, go_sem, V.s.injEq, Value.bool.injEq, ↓reduceIte, Nat.reduceEqDiff, Nat.reduceBEq, Nat.reduceAdd, Nat.reduceSub, Nat.reduceLT, Nat.reduceLeDiff, Int.reduceLT, Int.reduceLE, Int.reduceEq, Int.reduceToNat, List.append_assoc, List.length_append, Vm.get_app, Vm.set_app, Vm.get_appL, Vm.get_appL0, Vm.set_appL, Vm.set_appL0, Nat.le_refl, Nat.le_add_right, okAt]
  repeat' (
    first | refine wpC_cases ?_ ?_ | refine wpU_casesT ?_ ?_ | refine wpU_casesF ?_ ?_
    all_goals intro hvc
    all_goals first | replace hvc := not_of_true hvc | replace hvc := not_of_false hvc | skip
    all_goals first | subst hvc | replace hvb := And.intro hvc hvb
    all_goals try simp only [hvb, B30, txt, h1, h2, h3, h4, h5, h6, h7, h8, hln, htk, go_sem, V.s.injEq, Value.bool.injEq, ↓reduceIte, Nat.reduceEqDiff, Nat.reduceBEq, Nat.reduceAdd, Nat.reduceSub, Nat.reduceLT, Nat.reduceLeDiff, Int.reduceLT, Int.reduceLE, Int.reduceEq, Int.reduceToNat, List.append_assoc, List.length_append, Vm.get_app, Vm.set_app, Vm.get_appL, Vm.get_appL0, Vm.set_appL, Vm.set_appL0, Nat.le_refl, Nat.le_add_right, okAt])
theorem known_ok (b : Nat) (h : Hp) : run fns pr b 31 [] h = some (.s (.bool true), h) := by
  refine Vm.runP (nt := 50) rfl fit31 (by simp) ?_
  have v1 : normal [49, 50, 45, 51, 52, 32] = some [49, 50, 51, 52] := by decide +kernel
  have v2 : normal [239, 188, 145, 217, 162, 219, 179, 194, 160, 52] = some [49, 50, 51, 52] := by decide +kernel
  have v3 : normal [49, 50, 51] = none := by decide +kernel
  have v4 : weak [52, 51, 50, 49] = true := by decide +kernel
  have v5 : weak [52, 51, 50, 50] = false := by decide +kernel
  have v6 : masked [97, 98, 99] = [226, 128, 162, 98, 99] := by decide +kernel
  have v7 : (sg [97, 255, 98]).length = 3 := by decide +kernel
  have n1 := fun b h => Normal_ok b h [49, 50, 45, 51, 52, 32] (by simp)
  have n2 := fun b h => Normal_ok b h [239, 188, 145, 217, 162, 219, 179, 194, 160, 52] (by simp)
  have n3 := fun b h => Normal_ok b h [49, 50, 51] (by simp)
  have n4 := fun b h => Weak_ok b h [52, 51, 50, 49] (by simp)
  have n5 := fun b h => Weak_ok b h [52, 51, 50, 50] (by simp)
  have n6 := fun b h => Masked_ok b h [97, 98, 99] (by simp)
  have n7 := fun b h => Count_ok b h [97, 255, 98] (by simp)
  simp only [v1, v2, v3, v4, v5, v6, v7, txt, Option.getD_some, Option.getD_none, Option.isSome_some, Option.isSome_none] at n1 n2 n3 n4 n5 n6 n7
  have hvb : (0 : Nat) = 0 := rfl
  try simp only [B31, n1, n2, n3, n4, n5, n6, n7, go_sem, V.s.injEq, Value.bool.injEq, ↓reduceIte, Nat.reduceEqDiff, Nat.reduceBEq, Nat.reduceAdd, Nat.reduceSub, Nat.reduceLT, Nat.reduceLeDiff, Int.reduceLT, Int.reduceLE, Int.reduceEq, Int.reduceToNat, List.append_assoc, List.length_append, Vm.get_app, Vm.set_app, Vm.get_appL, Vm.get_appL0, Vm.set_appL, Vm.set_appL0, Nat.le_refl, Nat.le_add_right, okAt]
  repeat' (
    first | refine wpC_cases ?_ ?_ | refine wpU_casesT ?_ ?_ | refine wpU_casesF ?_ ?_
    all_goals intro hvc
    all_goals first | replace hvc := not_of_true hvc | replace hvc := not_of_false hvc | skip
    all_goals first | subst hvc | replace hvb := And.intro hvc hvb
    all_goals try simp only [hvb, B31, n1, n2, n3, n4, n5, n6, n7, go_sem, V.s.injEq, Value.bool.injEq, ↓reduceIte, Nat.reduceEqDiff, Nat.reduceBEq, Nat.reduceAdd, Nat.reduceSub, Nat.reduceLT, Nat.reduceLeDiff, Int.reduceLT, Int.reduceLE, Int.reduceEq, Int.reduceToNat, List.append_assoc, List.length_append, Vm.get_app, Vm.set_app, Vm.get_appL, Vm.get_appL0, Vm.set_appL, Vm.set_appL0, Nat.le_refl, Nat.le_add_right, okAt])
  all_goals rfl
end Go.Proofs.Ytdhgcdkinehomaa
