/- Tables of vaults: Fill. Conditions: none. -/
import Derived.Test.YtfhmclgnfabdfaaCS12
namespace Go.Proofs.Ytfhmclgnfabdfaa
open Go Go.Vm Go.Proofs Go.Cl
set_option linter.unusedSimpArgs false
set_option linter.unusedVariables false
set_option maxRecDepth 100000
theorem TNew_eq (b : Nat) (h : Hp) : run fns pr b 10 [] h = some (.ptr h.length [0] 1, h ++ [.cells (some 72) [.st 72 [.imm true (some 29) []]]]) := by
  suffices hh : ∃ v h', run fns pr b 10 [] h = some (v, h') ∧ v = .ptr h.length [0] 1 ∧ h' = h ++ [.cells (some 72) [.st 72 [.imm true (some 29) []]]] by
    obtain ⟨v, h', e, rfl, rfl⟩ := hh; exact e
  refine Vm.runQ (nt := 3) rfl fit10 (by simp) ?_
  have hvb : (0 : Nat) = 0 := rfl
  try simp only [B10, go_sem, V.s.injEq, Value.bool.injEq, ↓reduceIte, Nat.reduceEqDiff, Nat.reduceBEq, Nat.reduceAdd, Nat.reduceSub, Nat.reduceLT, Nat.reduceLeDiff, Int.reduceLT, Int.reduceLE, Int.reduceEq, Int.reduceToNat, List.append_assoc, List.length_append, Vm.get_app, Vm.set_app, Vm.get_appL, Vm.get_appL0, Vm.set_appL, Vm.set_appL0, Nat.le_refl, Nat.le_add_right, okAt]
  repeat' (
    first | refine wpC_cases ?_ ?_ | refine wpU_casesT ?_ ?_ | refine wpU_casesF ?_ ?_
    all_goals intro hvc
    all_goals first | replace hvc := not_of_true hvc | replace hvc := not_of_false hvc | skip
    all_goals first | subst hvc | replace hvb := And.intro hvc hvb
    all_goals try simp only [hvb, B10, go_sem, V.s.injEq, Value.bool.injEq, ↓reduceIte, Nat.reduceEqDiff, Nat.reduceBEq, Nat.reduceAdd, Nat.reduceSub, Nat.reduceLT, Nat.reduceLeDiff, Int.reduceLT, Int.reduceLE, Int.reduceEq, Int.reduceToNat, List.append_assoc, List.length_append, Vm.get_app, Vm.set_app, Vm.get_appL, Vm.get_appL0, Vm.set_appL, Vm.set_appL0, Nat.le_refl, Nat.le_add_right, okAt])
end Go.Proofs.Ytfhmclgnfabdfaa
