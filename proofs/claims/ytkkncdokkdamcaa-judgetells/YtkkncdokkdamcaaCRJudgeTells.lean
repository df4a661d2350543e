/- JudgeTells: for every input the statement's function returns true, and its arguments read as they did. Conditions: none but the row's own. -/
import Derived.Test.YtkkncdokkdamcaaRows
import Derived.Test.YtkkncdokkdamcaaCS25i
import Derived.Test.YtkkncdokkdamcaaCSP0
import Derived.ProofKit
import Derived.SizedLaws
namespace Go.Proofs.Ytkkncdokkdamcaa
open Go Go.Vm Go.Proofs Go.ChangeShapes Go.WideShapes Go.ChangeAt Go.RowKit
set_option linter.unusedVariables false
theorem Try.own : ownKnob Try.prog.godebug = none := by kernel_rfl
theorem Try.laidOut : laidOutB Try.prog = true := by kernel_rfl
set_option maxRecDepth 100000 in
theorem lawJudgeTells (xs : List V) (h : HasTys Try.prog 8 Try.f9.params.toList xs) : run fns pr 0 9 xs [] = some (.s (.bool true), []) := by
  rw [Try.params9] at h
  obtain ⟨x0, ys, rfl, h0, h⟩ := tys_cons h
  obtain ⟨x1, ys, rfl, h1, h⟩ := tys_cons h
  obtain ⟨x2, ys, rfl, h2, h⟩ := tys_cons h
  obtain rfl := tys_nil h
  obtain ⟨a0, rfl, p0_1, p0_2⟩ := of_slice (f := Draw.enc) (p := Draw.wf) h0 Try.underlying56 (by kernel_rfl : tagOf Try.prog 58 = some 57) (fun x hx => Draw.of _ hx)
  have p0_0 : a0.length ≤ 140737488351232 := Nat.le_trans (Nat.le_mul_of_pos_right _ (of_decide_eq_true (by kernel_rfl : decide (0 < Try.prog.bytesOf 58) = true))) p0_1
  obtain ⟨a1, rfl, p1_1, p1_2⟩ := of_slice (f := Deed.enc) (p := Deed.wf) h1 Try.underlying60 (by kernel_rfl : tagOf Try.prog 94 = some 93) (fun x hx => Deed.of _ hx)
  have p1_0 : a1.length ≤ 140737488351232 := Nat.le_trans (Nat.le_mul_of_pos_right _ (of_decide_eq_true (by kernel_rfl : decide (0 < Try.prog.bytesOf 94) = true))) p1_1
  obtain ⟨a2, rfl, p2_1, p2_2⟩ := of_slice (f := Reply.enc) (p := Reply.wf) h2 Try.underlying52 (by kernel_rfl : tagOf Try.prog 40 = some 39) (fun x hx => Reply.of _ hx)
  have p2_0 : a2.length ≤ 140737488351232 := Nat.le_trans (Nat.le_mul_of_pos_right _ (of_decide_eq_true (by kernel_rfl : decide (0 < Try.prog.bytesOf 40) = true))) p2_1
  exact JudgeTells_run 0 [] a0 a1 a2 p0_0 p0_2 p1_0 p1_2 p2_0
set_option maxRecDepth 100000 in
theorem f_lifted (os : Os) (started : os.Started) (H : Type) (enc : TypeId × Value → H) :
    ReturnsInHanded {} Try.checked os 9 .any (Rows.judgeTellsSpec.pre6 enc Try.prog Try.f9 Rows.judgeTellsRow.domain false) (Rows.judgeTellsSpec.post enc Try.prog Try.f9 false true false false) := by
  refine returnsInHanded_of_change_sized (C := Try.checked) Try.own started (by kernel_rfl) Try.func9
    (ChangeSpec.witness6 (enc := enc) (C := Try.checked) false ⟨#[], #[.slice none 0 0, .slice none 0 0, .slice none 0 0], []⟩ 8 (by kernel_rfl) (by kernel_rfl) (by kernel_rfl) (by kernel_rfl)) ?_
  intro W base args ds gs before hval0 hW hcnd hwt _
  exact law_post (n := 8) (cf := run fns pr 0) lay_ok Try.laidOut (run_sound lay_ok fns_ok pr_ok pr_kp 0) (by kernel_rfl) (tb := 4) (by kernel_rfl) Try.underlying4 rfl (by kernel_rfl)
    (fun ds hds => by match ds, hds with | [_, _, _], _ => rfl) lawJudgeTells hval0 hW hwt
theorem JudgeTells_holds : Rows.JudgeTellsSaid :=
  OpenClaim.holds_of_wide 9 Try.f9 rfl rfl rfl rfl rfl rfl rfl ⟨rfl, rfl, rfl, rfl, rfl⟩ rfl rfl rfl rfl rfl (by kernel_rfl) Try.func9 (by kernel_rfl)
    (of_decide_eq_true (by kernel_rfl)) (by unfold Func.isWrapper; first | (rw [if_pos (by decide +kernel)]; kernel_rfl) | (rw [if_neg (by decide +kernel)]; exact ⟨rfl, rfl⟩))
    (fun os started H enc _ => f_lifted os started H enc)
#print axioms JudgeTells_holds
end Go.Proofs.Ytkkncdokkdamcaa
