/- Texts for DeviceBoots, part 6. Conditions: none. -/
import Derived.Test.YtannfageakbpmaaGreatCTe
import Derived.Test.YtannfageakbpmaaGreatRows
import Derived.ProofKit
import Derived.SizedLaws
/- DeviceBoots: for every input the statement's function returns true, and its arguments read as they did. Conditions: none but the row's own. -/
namespace Go.Proofs.YtannfageakbpmaaGreat
open Go Go.Vm Go.Proofs Go.ChangeShapes Go.WideShapes Go.ChangeAt Go.RowKit
set_option linter.unusedVariables false
theorem Tryz.own : ownKnob Tryz.prog.godebug = none := by kernel_rfl
theorem Tryz.laidOut : laidOutB Tryz.prog = true := by kernel_rfl
set_option maxRecDepth 100000 in
theorem lawDeviceBoots (xs : List V) (h : HasTys Tryz.prog 8 Tryz.f4.params.toList xs) : run fns pr 0 4 xs [] = some (.s (.bool true), []) := by
  rw [Tryz.params4] at h
  obtain ⟨x0, ys, rfl, h0, h⟩ := tys_cons h
  obtain ⟨x1, ys, rfl, h1, h⟩ := tys_cons h
  obtain rfl := tys_nil h
  obtain ⟨a0, rfl, p0_1, p0_2⟩ := of_i64 h0 Tryz.underlying3
  obtain ⟨a1, rfl, p1_1, p1_2⟩ := of_i64 h1 Tryz.underlying3
  exact DeviceBoots_ok 0 [] a0 a1 p0_1 p0_2 p1_1 p1_2
set_option maxRecDepth 100000 in
theorem f_lifted (os : Os) (started : os.Started) (H : Type) (enc : TypeId × Value → H) :
    ReturnsInHanded {} Tryz.checked os 4 .any (Rows.deviceBootsSpec.pre6 enc Tryz.prog Tryz.f4 Rows.deviceBootsRow.domain false) (Rows.deviceBootsSpec.post enc Tryz.prog Tryz.f4 false true false false) := by
  refine returnsInHanded_of_change_sized (C := Tryz.checked) Tryz.own started (by kernel_rfl) Tryz.func4
    (ChangeSpec.witness6 (enc := enc) (C := Tryz.checked) false ⟨#[], #[.int .i64 0, .int .i64 0], []⟩ 8 (by kernel_rfl) (by kernel_rfl) (by kernel_rfl) (by kernel_rfl)) ?_
  intro W base args ds gs before hval0 hW hcnd hwt _
  exact law_post (n := 8) (cf := run fns pr 0) lay_ok Tryz.laidOut (run_sound lay_ok fns_ok pr_ok pr_kp 0) (by kernel_rfl) (tb := 4) (by kernel_rfl) Tryz.underlying4 rfl (by kernel_rfl)
    (fun ds hds => by match ds, hds with | [_, _], _ => rfl) lawDeviceBoots hval0 hW hwt
theorem DeviceBoots_holds : Rows.DeviceBootsSaid :=
  OpenClaim.holds_of_wide 4 Tryz.f4 rfl rfl rfl rfl rfl rfl rfl ⟨rfl, rfl, rfl, rfl, rfl⟩ rfl rfl rfl rfl rfl (by kernel_rfl) Tryz.func4 (by kernel_rfl)
    (of_decide_eq_true (by kernel_rfl)) (by unfold Func.isWrapper; first | (rw [if_pos (by decide +kernel)]; kernel_rfl) | (rw [if_neg (by decide +kernel)]; exact ⟨rfl, rfl⟩))
    (fun os started H enc _ => f_lifted os started H enc)
#print axioms DeviceBoots_holds
end Go.Proofs.YtannfageakbpmaaGreat
