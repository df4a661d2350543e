/- Texts for DeviceHonest, part 6. Conditions: none. -/
import Derived.Test.YthplailfedobeaaGreatCTe
import Derived.Test.YthplailfedobeaaGreatRows
import Derived.ProofKit
import Derived.SizedLaws
/- DeviceHonest: for every input the statement's function returns true, and its arguments read as they did. Conditions: none but the row's own. -/
namespace Go.Proofs.YthplailfedobeaaGreat
open Go Go.Vm Go.Proofs Go.ChangeShapes Go.WideShapes Go.ChangeAt Go.RowKit
set_option linter.unusedVariables false
theorem Tryz.own : ownKnob Tryz.prog.godebug = none := by kernel_rfl
theorem Tryz.laidOut : laidOutB Tryz.prog = true := by kernel_rfl
set_option maxRecDepth 100000 in
theorem r6 (xs : List V) (h : o3 Tryz.prog 8 Tryz.f3.params.toList xs) : run fns pr 0 3 xs [] = some (.s (.bool true), []) := by
  rw [Tryz.params3] at h
  obtain ⟨x0, ys, rfl, h0, h⟩ := HC h
  obtain rfl := L8 h
  obtain ⟨a0, rfl, p0_1, p0_2⟩ := of_slice (f := gS.enc) (p := gS.wf) h0 Tryz.underlying22 (by kernel_rfl : aE Tryz.prog 49 = some 48) (fun x hx => gS.of _ hx)
  have p0_0 : a0.length ≤ 140737488351232 := acN (adJ _ (of_decide_eq_true (by kernel_rfl : decide (0 < Tryz.prog.bytesOf 49) = true))) p0_1
  exact DeviceHonest_ok 0 [] a0 p0_0 p0_2
set_option maxRecDepth 100000 in
theorem HE (os : Os) (started : os.Started) (H : Type) (enc : TypeId × Value → H) :
    ReturnsInHanded {} Tryz.checked os 3 .any (Rows.deviceHonestSpec.pre6 enc Tryz.prog Tryz.f3 Rows.deviceHonestRow.domain false) (Rows.deviceHonestSpec.post enc Tryz.prog Tryz.f3 false true false false) := by
  refine returnsInHanded_of_change_sized (C := Tryz.checked) Tryz.own started (by kernel_rfl) Tryz.func3
    (ChangeSpec.witness6 (enc := enc) (C := Tryz.checked) false ⟨#[], #[.slice none 0 0], []⟩ 8 (by kernel_rfl) (by kernel_rfl) (by kernel_rfl) (by kernel_rfl)) ?_
  intro W base args ds gs before Uo hW abT Ax _
  exact HF (n := 8) (cf := run fns pr 0) o4 Tryz.laidOut (vA o4 PQ Up Uq 0) (by kernel_rfl) (tb := 4) (by kernel_rfl) Tryz.underlying4 rfl (by kernel_rfl)
    (fun ds hds => by match ds, hds with | [_], _ => rfl) r6 Uo hW Ax
theorem DeviceHonest_holds : Rows.DeviceHonestSaid :=
  OpenClaim.holds_of_wide 3 Tryz.f3 rfl rfl rfl rfl rfl rfl rfl ⟨rfl, rfl, rfl, rfl, rfl⟩ rfl rfl rfl rfl rfl (by kernel_rfl) Tryz.func3 (by kernel_rfl)
    (of_decide_eq_true (by kernel_rfl)) (by unfold Func.isWrapper; first | (rw [if_pos (by decide +kernel)]; kernel_rfl) | (rw [if_neg (by decide +kernel)]; exact ⟨rfl, rfl⟩))
    (fun os started H enc _ => HE os started H enc)
#print axioms DeviceHonest_holds
end Go.Proofs.YthplailfedobeaaGreat
