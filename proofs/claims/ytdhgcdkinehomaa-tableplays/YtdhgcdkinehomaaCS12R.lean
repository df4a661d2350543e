/- TablePlays: its run. Conditions: none. -/
import Derived.Test.YtdhgcdkinehomaaCS12Q
namespace Go.Proofs.Ytdhgcdkinehomaa
open Go Go.Vm Go.Proofs Go.Cl
set_option linter.unusedSimpArgs false
set_option linter.unusedVariables false
set_option maxRecDepth 100000
theorem TablePlays_run (l : List Ask12) (hl : l.length ≤ 140737488351232) (hb : ∀ x ∈ l, x.wf) :
    run fns pr 0 7 [.imm false (some 60) (l.map Ask12.enc)] [] = some (.s (.bool true), []) := by
  refine Vm.runP (nt := 8) rfl fit7 (by simp) ?_
  have hp := play_ok 0 [] (.imm false (some 60) (l.map Ask12.enc)) (l.map Ask12.enc) (.inl ⟨_, rfl⟩) (by
    intro y hy
    obtain ⟨a, ha, rfl⟩ := List.mem_map.1 hy
    exact ⟨a, false, rfl, hb a ha⟩) (by rw [List.length_map]; exact hl)
  have hk := known12_ok 0 []
  have hvb : (0 : Nat) = 0 := rfl
  try simp only [B7, hp, hk, go_sem, V.s.injEq, Value.bool.injEq, ↓reduceIte, Nat.reduceEqDiff, Nat.reduceBEq, Nat.reduceAdd, Nat.reduceSub, Nat.reduceLT, Nat.reduceLeDiff, Int.reduceLT, Int.reduceLE, Int.reduceEq, Int.reduceToNat, List.append_assoc, List.length_append, Vm.get_app, Vm.set_app, Vm.get_appL, Vm.get_appL0, Vm.set_appL, Vm.set_appL0, Nat.le_refl, Nat.le_add_right, okAt]
  repeat' (
    first | refine wpC_cases ?_ ?_ | refine wpU_casesT ?_ ?_ | refine wpU_casesF ?_ ?_
    all_goals intro hvc
    all_goals first | replace hvc := not_of_true hvc | replace hvc := not_of_false hvc | skip
    all_goals first | subst hvc | replace hvb := And.intro hvc hvb
    all_goals try simp only [hvb, B7, hp, hk, go_sem, V.s.injEq, Value.bool.injEq, ↓reduceIte, Nat.reduceEqDiff, Nat.reduceBEq, Nat.reduceAdd, Nat.reduceSub, Nat.reduceLT, Nat.reduceLeDiff, Int.reduceLT, Int.reduceLE, Int.reduceEq, Int.reduceToNat, List.append_assoc, List.length_append, Vm.get_app, Vm.set_app, Vm.get_appL, Vm.get_appL0, Vm.set_appL, Vm.set_appL0, Nat.le_refl, Nat.le_add_right, okAt])
  all_goals rfl
end Go.Proofs.Ytdhgcdkinehomaa
