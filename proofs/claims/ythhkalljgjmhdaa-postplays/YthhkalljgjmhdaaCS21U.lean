/- PostPlays: its run. Conditions: none. -/
import Derived.Test.YthhkalljgjmhdaaCS21T
namespace Go.Proofs.Ythhkalljgjmhdaa
open Go Go.Vm Go.Proofs Go.Cl
set_option linter.unusedSimpArgs false
set_option linter.unusedVariables false
set_option maxRecDepth 100000
theorem PostPlays_run (b : Nat) (h : Hp) (f : Bool) (l : List Ask21) (hl : l.length ≤ 140737488351232) (hw : ∀ a ∈ l, a.wf) : run fns pr b 4 [.imm f (some 27) (l.map Ask21.enc)] h = some (.s (.bool true), h) := by
  refine Vm.runP (nt := 8) rfl fit4 (by simp) ?_
  have hp := play_ok h.length h (.imm f (some 27) (l.map Ask21.enc)) l 100 (.inl ⟨f, rfl⟩) hw (by omega)
  have hk := known21_ok h.length h
  simp only [B4, hp, hk, go_sem, V.s.injEq, Value.bool.injEq, simprocAttr, List.append_assoc, List.length_append, Vm.get_app, Vm.set_app, Vm.get_appL, Vm.get_appL0, Vm.set_appL, Vm.set_appL0, Nat.le_refl, Nat.le_add_right, okAt]
end Go.Proofs.Ythhkalljgjmhdaa
