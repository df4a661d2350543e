/- PostOrder: for every input the statement's function returns true, and its arguments read as they did. Conditions: none but the row's own. -/
import Derived.Test.YteeabacgcnbnbaaRows
import Derived.Test.YteeabacgcnbnbaaCSP
import Derived.Test.YteeabacgcnbnbaaCS21N
import Derived.ProofKit
import Derived.SizedLaws
namespace Go.Proofs.Yteeabacgcnbnbaa
open Go Go.Vm Go.Proofs Go.ChangeShapes Go.WideShapes Go.ChangeAt Go.RowKit
set_option linter.unusedVariables false
theorem Try.own : ownKnob Try.prog.godebug = none := by kernel_rfl
theorem Try.laidOut : laidOutB Try.prog = true := by kernel_rfl
set_option maxRecDepth 100000 in
theorem lawPostOrder (xs : List V) (h : HasTys Try.prog 8 Try.f6.params.toList xs) : run fns pr 0 6 xs [] = some (.s (.bool true), []) := by
  rw [Try.params6] at h
  obtain ⟨x0, ys, rfl, h0, h⟩ := tys_cons h
  obtain ⟨x1, ys, rfl, h1, h⟩ := tys_cons h
  obtain rfl := tys_nil h
  obtain ⟨a0, rfl, p0_1, p0_2⟩ := of_slice (f := Letter.enc) (p := Letter.wf) h0 Try.underlying41 (by kernel_rfl : tagOf Try.prog 47 = some 46) (fun x hx => Letter.of _ hx)
  have p0_0 : a0.length ≤ 140737488351232 := Nat.le_trans (Nat.le_mul_of_pos_right _ (of_decide_eq_true (by kernel_rfl : decide (0 < Try.prog.bytesOf 47) = true))) p0_1
  obtain ⟨a1, rfl, p1_1, p1_2⟩ := of_slice (f := fun z : Int => V.s (.int .i64 z)) (p := fun z => -9223372036854775808 ≤ z ∧ z ≤ 9223372036854775807) h1 Try.underlying42 (by kernel_rfl : tagOf Try.prog 3 = none) (fun x hx => of_i64 (n := 6) hx Try.underlying3)
  have p1_0 : a1.length ≤ 140737488351232 := Nat.le_trans (Nat.le_mul_of_pos_right _ (of_decide_eq_true (by kernel_rfl : decide (0 < Try.prog.bytesOf 3) = true))) p1_1
  exact PostOrder_run a0 a1 p0_0 p0_2 p1_0 p1_2
set_option maxRecDepth 100000 in
theorem f_lifted (os : Os) (started : os.Started) (H : Type) (enc : TypeId × Value → H) :
    ReturnsInHanded {} Try.checked os 6 .any (Rows.postOrderSpec.pre6 enc Try.prog Try.f6 Rows.postOrderRow.domain false) (Rows.postOrderSpec.post enc Try.prog Try.f6 false true false false) := by
  refine returnsInHanded_of_change_sized (C := Try.checked) Try.own started (by kernel_rfl) Try.func6
    (ChangeSpec.witness6 (enc := enc) (C := Try.checked) false ⟨#[], #[.slice none 0 0, .slice none 0 0], []⟩ 8 (by kernel_rfl) (by kernel_rfl) (by kernel_rfl) (by kernel_rfl)) ?_
  intro W base args ds gs before hval0 hW hcnd hwt _
  exact law_post (n := 8) (cf := run fns pr 0) lay_ok Try.laidOut (run_sound lay_ok fns_ok pr_ok pr_kp 0) (by kernel_rfl) (tb := 4) (by kernel_rfl) Try.underlying4 rfl (by kernel_rfl)
    (fun ds hds => by match ds, hds with | [_, _], _ => rfl) lawPostOrder hval0 hW hwt
theorem PostOrder_holds : Rows.PostOrderSaid :=
  OpenClaim.holds_of_wide 6 Try.f6 rfl rfl rfl rfl rfl rfl rfl ⟨rfl, rfl, rfl, rfl, rfl⟩ rfl rfl rfl rfl rfl (by kernel_rfl) Try.func6 (by kernel_rfl)
    (of_decide_eq_true (by kernel_rfl)) (by unfold Func.isWrapper; first | (rw [if_pos (by decide +kernel)]; kernel_rfl) | (rw [if_neg (by decide +kernel)]; exact ⟨rfl, rfl⟩))
    (fun os started H enc _ => f_lifted os started H enc)
#print axioms PostOrder_holds
end Go.Proofs.Yteeabacgcnbnbaa
