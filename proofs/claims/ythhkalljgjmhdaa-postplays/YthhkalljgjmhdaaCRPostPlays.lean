/- PostPlays: for every input the statement's function returns true, and its arguments read as they did. Conditions: none but the row's own. -/
import Derived.Test.YthhkalljgjmhdaaRows
import Derived.Test.YthhkalljgjmhdaaCS21U
import Derived.Test.YthhkalljgjmhdaaCSP0
import Derived.ProofKit
import Derived.SizedLaws
namespace Go.Proofs.Ythhkalljgjmhdaa
open Go Go.Vm Go.Proofs Go.ChangeShapes Go.WideShapes Go.ChangeAt Go.RowKit
set_option linter.unusedVariables false
theorem Try.own : ownKnob Try.prog.godebug = none := by kernel_rfl
theorem Try.laidOut : laidOutB Try.prog = true := by kernel_rfl
set_option maxRecDepth 100000 in
theorem lawPostPlays (xs : List V) (h : HasTys Try.prog 8 Try.f4.params.toList xs) : run fns pr 0 4 xs [] = some (.s (.bool true), []) := by
  rw [Try.params4] at h
  obtain ⟨x0, ys, rfl, h0, h⟩ := tys_cons h
  obtain rfl := tys_nil h
  obtain ⟨a0, rfl, p0_1, p0_2⟩ := of_slice (f := Ask21.enc) (p := Ask21.wf) h0 Try.underlying22 (by kernel_rfl : tagOf Try.prog 28 = some 27) (fun x hx => Ask21.of _ hx)
  have p0_0 : a0.length ≤ 140737488351232 := Nat.le_trans (Nat.le_mul_of_pos_right _ (of_decide_eq_true (by kernel_rfl : decide (0 < Try.prog.bytesOf 28) = true))) p0_1
  exact PostPlays_run 0 [] _ a0 p0_0 p0_2
set_option maxRecDepth 100000 in
theorem f_lifted (os : Os) (started : os.Started) (H : Type) (enc : TypeId × Value → H) :
    ReturnsInHanded {} Try.checked os 4 .any (Rows.postPlaysSpec.pre6 enc Try.prog Try.f4 Rows.postPlaysRow.domain false) (Rows.postPlaysSpec.post enc Try.prog Try.f4 false true false false) := by
  refine returnsInHanded_of_change_sized (C := Try.checked) Try.own started (by kernel_rfl) Try.func4
    (ChangeSpec.witness6 (enc := enc) (C := Try.checked) false ⟨#[], #[.slice none 0 0], []⟩ 8 (by kernel_rfl) (by kernel_rfl) (by kernel_rfl) (by kernel_rfl)) ?_
  intro W base args ds gs before hval0 hW hcnd hwt _
  exact law_post (n := 8) (cf := run fns pr 0) lay_ok Try.laidOut (run_sound lay_ok fns_ok pr_ok pr_kp 0) (by kernel_rfl) (tb := 4) (by kernel_rfl) Try.underlying4 rfl (by kernel_rfl)
    (fun ds hds => by match ds, hds with | [_], _ => rfl) lawPostPlays hval0 hW hwt
theorem PostPlays_holds : Rows.PostPlaysSaid :=
  OpenClaim.holds_of_wide 4 Try.f4 rfl rfl rfl rfl rfl rfl rfl ⟨rfl, rfl, rfl, rfl, rfl⟩ rfl rfl rfl rfl rfl (by kernel_rfl) Try.func4 (by kernel_rfl)
    (of_decide_eq_true (by kernel_rfl)) (by unfold Func.isWrapper; first | (rw [if_pos (by decide +kernel)]; kernel_rfl) | (rw [if_neg (by decide +kernel)]; exact ⟨rfl, rfl⟩))
    (fun os started H enc _ => f_lifted os started H enc)
#print axioms PostPlays_holds
end Go.Proofs.Ythhkalljgjmhdaa
