/- PinNumbers: for every input the statement's function returns true, and its arguments read as they did. Conditions: none but the row's own. -/
import Derived.Test.YtdhgcdkinehomaaRows
import Derived.Test.YtdhgcdkinehomaaCPR
import Derived.Test.YtdhgcdkinehomaaCP8
import Derived.ProofKit
import Derived.SizedLaws
namespace Go.Proofs.Ytdhgcdkinehomaa
open Go Go.Vm Go.Proofs Go.ChangeShapes Go.WideShapes Go.ChangeAt Go.RowKit
set_option linter.unusedVariables false
theorem Try.own : ownKnob Try.prog.godebug = none := by kernel_rfl
theorem Try.laidOut : laidOutB Try.prog = true := by kernel_rfl
set_option maxRecDepth 100000 in
theorem lawPinNumbers (xs : List V) (h : HasTys Try.prog 8 Try.f9.params.toList xs) : run fns pr 0 9 xs [] = some (.s (.bool true), []) := by
  rw [Try.params9] at h
  obtain rfl := tys_nil h
  exact PinNumbers_run
set_option maxRecDepth 100000 in
theorem f_lifted (os : Os) (started : os.Started) (H : Type) (enc : TypeId × Value → H) :
    ReturnsInHanded {} Try.checked os 9 .any (Rows.pinNumbersSpec.pre6 enc Try.prog Try.f9 Rows.pinNumbersRow.domain false) (Rows.pinNumbersSpec.post enc Try.prog Try.f9 false true false false) := by
  refine returnsInHanded_of_change_sized (C := Try.checked) Try.own started (by kernel_rfl) Try.func9
    (ChangeSpec.witness6 (enc := enc) (C := Try.checked) false ⟨#[], #[], []⟩ 8 (by kernel_rfl) (by kernel_rfl) (by kernel_rfl) (by kernel_rfl)) ?_
  intro W base args ds gs before hval0 hW hcnd hwt _
  exact law_post (n := 8) (cf := run fns pr 0) lay_ok Try.laidOut (run_sound lay_ok fns_ok pr_ok pr_kp 0) (by kernel_rfl) (tb := 4) (by kernel_rfl) Try.underlying4 rfl (by kernel_rfl)
    (fun ds hds => by match ds, hds with | [], _ => rfl) lawPinNumbers hval0 hW hwt
theorem PinNumbers_holds : Rows.PinNumbersSaid :=
  OpenClaim.holds_of_wide 9 Try.f9 rfl rfl rfl rfl rfl rfl rfl ⟨rfl, rfl, rfl, rfl, rfl⟩ rfl rfl rfl rfl rfl (by kernel_rfl) Try.func9 (by kernel_rfl)
    (of_decide_eq_true (by kernel_rfl)) (by unfold Func.isWrapper; first | (rw [if_pos (by decide +kernel)]; kernel_rfl) | (rw [if_neg (by decide +kernel)]; exact ⟨rfl, rfl⟩))
    (fun os started H enc _ => f_lifted os started H enc)
#print axioms PinNumbers_holds
end Go.Proofs.Ytdhgcdkinehomaa
