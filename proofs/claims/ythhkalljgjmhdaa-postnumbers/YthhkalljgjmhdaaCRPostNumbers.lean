/- PostNumbers: for every input the statement's function returns true, and its arguments read as they did. Conditions: none but the row's own. -/
import Derived.Test.YthhkalljgjmhdaaRows
import Derived.Test.YthhkalljgjmhdaaCS21Y
import Derived.Test.YthhkalljgjmhdaaCSP0
import Derived.ProofKit
import Derived.SizedLaws
namespace Go.Proofs.Ythhkalljgjmhdaa
open Go Go.Vm Go.Proofs Go.ChangeShapes Go.WideShapes Go.ChangeAt Go.RowKit
set_option linter.unusedVariables false
theorem Try.own : ownKnob Try.prog.godebug = none := by kernel_rfl
theorem Try.laidOut : laidOutB Try.prog = true := by kernel_rfl
set_option maxRecDepth 100000 in
theorem lawPostNumbers (xs : List V) (h : HasTys Try.prog 8 Try.f3.params.toList xs) : run fns pr 0 3 xs [] = some (.s (.bool true), []) := by
  rw [Try.params3] at h
  obtain rfl := tys_nil h
  exact PostNumbers_run 0 []
set_option maxRecDepth 100000 in
theorem f_lifted (os : Os) (started : os.Started) (H : Type) (enc : TypeId × Value → H) :
    ReturnsInHanded {} Try.checked os 3 .any (Rows.postNumbersSpec.pre6 enc Try.prog Try.f3 Rows.postNumbersRow.domain false) (Rows.postNumbersSpec.post enc Try.prog Try.f3 false true false false) := by
  refine returnsInHanded_of_change_sized (C := Try.checked) Try.own started (by kernel_rfl) Try.func3
    (ChangeSpec.witness6 (enc := enc) (C := Try.checked) false ⟨#[], #[], []⟩ 8 (by kernel_rfl) (by kernel_rfl) (by kernel_rfl) (by kernel_rfl)) ?_
  intro W base args ds gs before hval0 hW hcnd hwt _
  exact law_post (n := 8) (cf := run fns pr 0) lay_ok Try.laidOut (run_sound lay_ok fns_ok pr_ok pr_kp 0) (by kernel_rfl) (tb := 4) (by kernel_rfl) Try.underlying4 rfl (by kernel_rfl)
    (fun ds hds => by match ds, hds with | [], _ => rfl) lawPostNumbers hval0 hW hwt
theorem PostNumbers_holds : Rows.PostNumbersSaid :=
  OpenClaim.holds_of_wide 3 Try.f3 rfl rfl rfl rfl rfl rfl rfl ⟨rfl, rfl, rfl, rfl, rfl⟩ rfl rfl rfl rfl rfl (by kernel_rfl) Try.func3 (by kernel_rfl)
    (of_decide_eq_true (by kernel_rfl)) (by unfold Func.isWrapper; first | (rw [if_pos (by decide +kernel)]; kernel_rfl) | (rw [if_neg (by decide +kernel)]; exact ⟨rfl, rfl⟩))
    (fun os started H enc _ => f_lifted os started H enc)
#print axioms PostNumbers_holds
end Go.Proofs.Ythhkalljgjmhdaa
