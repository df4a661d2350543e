/- Texts for DeskTwice, part 6. Conditions: none. -/
import Derived.Test.YtggjbepemdhohaaGreatCTe
import Derived.Test.YtggjbepemdhohaaGreatRows
import Derived.ProofKit
import Derived.SizedLaws
/- DeskTwice: for every input the statement's function returns true, and its arguments read as they did. Conditions: none but the row's own. -/
namespace Go.Proofs.YtggjbepemdhohaaGreat
open Go Go.Vm Go.Proofs Go.ChangeShapes Go.WideShapes Go.ChangeAt Go.RowKit
set_option linter.unusedVariables false
theorem Tryz.own : ownKnob Tryz.prog.godebug = none := by kernel_rfl
theorem Tryz.laidOut : laidOutB Tryz.prog = true := by kernel_rfl
set_option maxRecDepth 100000 in
theorem wH (xs : List V) (h : oA Tryz.prog 8 Tryz.f4.params.toList xs) : run fns pr 0 4 xs [] = some (.s (.bool true), []) := by
  rw [Tryz.params4] at h
  obtain ⟨x0, ys, rfl, h0, h⟩ := sq h
  obtain ⟨x1, ys, rfl, h1, h⟩ := sq h
  obtain ⟨x2, ys, rfl, h2, h⟩ := sq h
  obtain rfl := Lr h
  obtain ⟨a0, rfl, p0_1, p0_2⟩ := GK h0 Tryz.underlying3
  obtain ⟨a1, rfl, p1_1, p1_2⟩ := GK h1 Tryz.underlying3
  obtain ⟨a2, rfl⟩ := of_bool h2 Tryz.underlying4
  exact wI 0 [] a0 a1 a2 p0_1 p0_2 p1_1 p1_2
set_option maxRecDepth 100000 in
theorem GL (os : Os) (started : os.Started) (H : Type) (enc : TypeId × Value → H) :
    ReturnsInHanded {} Tryz.checked os 4 .any (Rows.deskTwiceSpec.pre6 enc Tryz.prog Tryz.f4 Rows.deskTwiceRow.domain false) (Rows.deskTwiceSpec.post enc Tryz.prog Tryz.f4 false true false false) := by
  refine returnsInHanded_of_change_sized (C := Tryz.checked) Tryz.own started (by kernel_rfl) Tryz.func4
    (ChangeSpec.witness6 (enc := enc) (C := Tryz.checked) false ⟨#[], #[.int .i64 0, .int .i64 0, .bool false], []⟩ 8 (by kernel_rfl) (by kernel_rfl) (by kernel_rfl) (by kernel_rfl)) ?_
  intro W base args ds gs before TF hW abg Ag _
  exact GM (n := 8) (cf := run fns pr 0) oB Tryz.laidOut (u9 oB O7 TH TI 0) (by kernel_rfl) (tb := 4) (by kernel_rfl) Tryz.underlying4 rfl (by kernel_rfl)
    (fun ds hds => by match ds, hds with | [_, _, _], _ => rfl) wH TF hW Ag
theorem DeskTwice_holds : Rows.DeskTwiceSaid :=
  OpenClaim.holds_of_wide 4 Tryz.f4 rfl rfl rfl rfl rfl rfl rfl ⟨rfl, rfl, rfl, rfl, rfl⟩ rfl rfl rfl rfl rfl (by kernel_rfl) Tryz.func4 (by kernel_rfl)
    (of_decide_eq_true (by kernel_rfl)) (by unfold Func.isWrapper; first | (rw [if_pos (by decide +kernel)]; kernel_rfl) | (rw [if_neg (by decide +kernel)]; exact ⟨rfl, rfl⟩))
    (fun os started H enc _ => GL os started H enc)
#print axioms DeskTwice_holds
end Go.Proofs.YtggjbepemdhohaaGreat
