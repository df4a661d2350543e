/- JudgeCounts: for every input the statement's function returns true, and its arguments read as they did. Conditions: none but the row's own. -/
import Derived.Test.YtkkncdokkdamcaaRows
import Derived.Test.YtkkncdokkdamcaaCS25f
import Derived.Test.YtkkncdokkdamcaaCSP0
import Derived.ProofKit
import Derived.SizedLaws
namespace Go.Proofs.Ytkkncdokkdamcaa
open Go Go.Vm Go.Proofs Go.ChangeShapes Go.WideShapes Go.ChangeAt Go.RowKit
set_option linter.unusedVariables false
theorem Try.own : ownKnob Try.prog.godebug = none := by kernel_rfl
theorem Try.laidOut : laidOutB Try.prog = true := by kernel_rfl
set_option maxRecDepth 100000 in
theorem lawJudgeCounts (xs : List V) (h : HasTys Try.prog 8 Try.f7.params.toList xs) : run fns pr 0 7 xs [] = some (.s (.bool true), []) := by
  rw [Try.params7] at h
  obtain ⟨x0, ys, rfl, h0, h⟩ := tys_cons h
  obtain ⟨x1, ys, rfl, h1, h⟩ := tys_cons h
  obtain ⟨x2, ys, rfl, h2, h⟩ := tys_cons h
  obtain ⟨x3, ys, rfl, h3, h⟩ := tys_cons h
  obtain rfl := tys_nil h
  obtain ⟨a0, rfl, p0_1, p0_2⟩ := of_slice (f := Reply.enc) (p := Reply.wf) h0 Try.underlying52 (by kernel_rfl : tagOf Try.prog 40 = some 39) (fun x hx => Reply.of _ hx)
  have p0_0 : a0.length ≤ 140737488351232 := Nat.le_trans (Nat.le_mul_of_pos_right _ (of_decide_eq_true (by kernel_rfl : decide (0 < Try.prog.bytesOf 40) = true))) p0_1
  obtain ⟨a1, rfl, p1_1, p1_2⟩ := of_slice (f := Reply.enc) (p := Reply.wf) h1 Try.underlying52 (by kernel_rfl : tagOf Try.prog 40 = some 39) (fun x hx => Reply.of _ hx)
  have p1_0 : a1.length ≤ 140737488351232 := Nat.le_trans (Nat.le_mul_of_pos_right _ (of_decide_eq_true (by kernel_rfl : decide (0 < Try.prog.bytesOf 40) = true))) p1_1
  obtain ⟨a2, rfl, p2_1⟩ := of_arr8 h2 Try.underlying27 Try.underlying5
  obtain ⟨a3, rfl, p3_1, p3_2⟩ := of_u64 h3 Try.underlying31
  exact JudgeCounts_run 0 [] a0 a1 a2 a3 p0_0 p1_0
set_option maxRecDepth 100000 in
theorem f_lifted (os : Os) (started : os.Started) (H : Type) (enc : TypeId × Value → H) :
    ReturnsInHanded {} Try.checked os 7 .any (Rows.judgeCountsSpec.pre6 enc Try.prog Try.f7 Rows.judgeCountsRow.domain false) (Rows.judgeCountsSpec.post enc Try.prog Try.f7 false true false false) := by
  refine returnsInHanded_of_change_sized (C := Try.checked) Try.own started (by kernel_rfl) Try.func7
    (ChangeSpec.witness6 (enc := enc) (C := Try.checked) false ⟨#[], #[.slice none 0 0, .slice none 0 0, .agg #[.int .u8 0, .int .u8 0, .int .u8 0, .int .u8 0], .int .u64 0], []⟩ 8 (by kernel_rfl) (by kernel_rfl) (by kernel_rfl) (by kernel_rfl)) ?_
  intro W base args ds gs before hval0 hW hcnd hwt _
  exact law_post (n := 8) (cf := run fns pr 0) lay_ok Try.laidOut (run_sound lay_ok fns_ok pr_ok pr_kp 0) (by kernel_rfl) (tb := 4) (by kernel_rfl) Try.underlying4 rfl (by kernel_rfl)
    (fun ds hds => by match ds, hds with | [_, _, _, _], _ => rfl) lawJudgeCounts hval0 hW hwt
theorem JudgeCounts_holds : Rows.JudgeCountsSaid :=
  OpenClaim.holds_of_wide 7 Try.f7 rfl rfl rfl rfl rfl rfl rfl ⟨rfl, rfl, rfl, rfl, rfl⟩ rfl rfl rfl rfl rfl (by kernel_rfl) Try.func7 (by kernel_rfl)
    (of_decide_eq_true (by kernel_rfl)) (by unfold Func.isWrapper; first | (rw [if_pos (by decide +kernel)]; kernel_rfl) | (rw [if_neg (by decide +kernel)]; exact ⟨rfl, rfl⟩))
    (fun os started H enc _ => f_lifted os started H enc)
#print axioms JudgeCounts_holds
end Go.Proofs.Ytkkncdokkdamcaa
