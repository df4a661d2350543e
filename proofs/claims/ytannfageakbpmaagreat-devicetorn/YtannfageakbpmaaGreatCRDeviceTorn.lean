/- Texts for DeviceTorn, part 6. Conditions: none. -/
import Derived.Test.YtannfageakbpmaaGreatCTe
import Derived.Test.YtannfageakbpmaaGreatRows
import Derived.ProofKit
import Derived.SizedLaws
/- DeviceTorn: for every input the statement's function returns true, and its arguments read as they did. Conditions: none but the row's own. -/
namespace Go.Proofs.YtannfageakbpmaaGreat
open Go Go.Vm Go.Proofs Go.ChangeShapes Go.WideShapes Go.ChangeAt Go.RowKit
set_option linter.unusedVariables false
theorem Tryz.own : ownKnob Tryz.prog.godebug = none := by kernel_rfl
theorem Tryz.laidOut : laidOutB Tryz.prog = true := by kernel_rfl
set_option maxRecDepth 100000 in
theorem lawDeviceTorn (xs : List V) (h : nT Tryz.prog 8 Tryz.f3.params.toList xs) : run fns pr 0 3 xs [] = some (.s (.bool true), []) := by
  rw [Tryz.params3] at h
  obtain ⟨x0, ys, rfl, h0, h⟩ := rK h
  obtain ⟨x1, ys, rfl, h1, h⟩ := rK h
  obtain ⟨x2, ys, rfl, h2, h⟩ := rK h
  obtain rfl := J8 h
  obtain ⟨a0, rfl, p0_1, p0_2⟩ := of_slice (f := KR.enc) (p := KR.wf) h0 Tryz.underlying22 (by kernel_rfl : aC Tryz.prog 38 = some 37) (fun x hx => KR.of _ hx)
  have p0_0 : a0.length ≤ 140737488351232 := Nat.le_trans (Nat.le_mul_of_pos_right _ (of_decide_eq_true (by kernel_rfl : decide (0 < Tryz.prog.bytesOf 38) = true))) p0_1
  obtain ⟨a1, rfl, p1_1, p1_2⟩ := ec h1 Tryz.underlying3
  obtain ⟨a2, rfl, p2_1, p2_2⟩ := ec h2 Tryz.underlying3
  exact DeviceTorn_ok 0 [] a0 a1 a2 p0_0 p0_2 p1_1 p1_2 p2_1 p2_2
set_option maxRecDepth 100000 in
theorem f_lifted (os : Os) (started : os.Started) (H : Type) (enc : TypeId × Value → H) :
    ReturnsInHanded {} Tryz.checked os 3 .any (Rows.deviceTornSpec.pre6 enc Tryz.prog Tryz.f3 Rows.deviceTornRow.domain false) (Rows.deviceTornSpec.post enc Tryz.prog Tryz.f3 false true false false) := by
  refine returnsInHanded_of_change_sized (C := Tryz.checked) Tryz.own started (by kernel_rfl) Tryz.func3
    (ChangeSpec.witness6 (enc := enc) (C := Tryz.checked) false ⟨#[], #[.slice none 0 0, .int .i64 0, .int .i64 0], []⟩ 8 (by kernel_rfl) (by kernel_rfl) (by kernel_rfl) (by kernel_rfl)) ?_
  intro W base args ds gs before Rz hW YW CJ _
  exact FP (n := 8) (cf := run fns pr 0) nU Tryz.laidOut (tT nU NA pr_ok pr_kp 0) (by kernel_rfl) (tb := 4) (by kernel_rfl) Tryz.underlying4 rfl (by kernel_rfl)
    (fun ds hds => by match ds, hds with | [_, _, _], _ => rfl) lawDeviceTorn Rz hW CJ
theorem DeviceTorn_holds : Rows.DeviceTornSaid :=
  OpenClaim.holds_of_wide 3 Tryz.f3 rfl rfl rfl rfl rfl rfl rfl ⟨rfl, rfl, rfl, rfl, rfl⟩ rfl rfl rfl rfl rfl (by kernel_rfl) Tryz.func3 (by kernel_rfl)
    (of_decide_eq_true (by kernel_rfl)) (by unfold Func.isWrapper; first | (rw [if_pos (by decide +kernel)]; kernel_rfl) | (rw [if_neg (by decide +kernel)]; exact ⟨rfl, rfl⟩))
    (fun os started H enc _ => f_lifted os started H enc)
#print axioms DeviceTorn_holds
end Go.Proofs.YtannfageakbpmaaGreat
