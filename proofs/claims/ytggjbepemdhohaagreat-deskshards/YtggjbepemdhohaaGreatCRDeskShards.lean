/- Texts for DeskShards, part 6. Conditions: none. -/
import Derived.Test.YtggjbepemdhohaaGreatCTe
import Derived.Test.YtggjbepemdhohaaGreatRows
import Derived.ProofKit
import Derived.SizedLaws
/- DeskShards: for every input the statement's function returns true, and its arguments read as they did. Conditions: none but the row's own. -/
namespace Go.Proofs.YtggjbepemdhohaaGreat
open Go Go.Vm Go.Proofs Go.ChangeShapes Go.WideShapes Go.ChangeAt Go.RowKit
set_option linter.unusedVariables false
theorem Tryz.own : ownKnob Tryz.prog.godebug = none := by kernel_rfl
theorem Tryz.laidOut : laidOutB Tryz.prog = true := by kernel_rfl
set_option maxRecDepth 100000 in
theorem u7 (xs : List V) (h : oH Tryz.prog 8 Tryz.f3.params.toList xs) : run fns pr 0 3 xs [] = some (.s (.bool true), []) := by
  rw [Tryz.params3] at h
  obtain ⟨x0, ys, rfl, h0, h⟩ := yw h
  obtain ⟨x1, ys, rfl, h1, h⟩ := yw h
  obtain rfl := LM h
  obtain ⟨a0, rfl, p0_1, p0_2⟩ := fk h0 Tryz.underlying3
  obtain ⟨a1, rfl⟩ := of_bool h1 Tryz.underlying4
  exact u9 0 [] a0 a1 p0_1 p0_2
set_option maxRecDepth 100000 in
theorem Hb (os : Os) (started : os.Started) (H : Type) (enc : TypeId × Value → H) :
    ReturnsInHanded {} Tryz.checked os 3 .any (Rows.deskShardsSpec.pre6 enc Tryz.prog Tryz.f3 Rows.deskShardsRow.domain false) (Rows.deskShardsSpec.post enc Tryz.prog Tryz.f3 false true false false) := by
  refine returnsInHanded_of_change_sized (C := Tryz.checked) Tryz.own started (by kernel_rfl) Tryz.func3
    (ChangeSpec.witness6 (enc := enc) (C := Tryz.checked) false ⟨#[], #[.int .i64 0, .bool false], []⟩ 8 (by kernel_rfl) (by kernel_rfl) (by kernel_rfl) (by kernel_rfl)) ?_
  intro W base args ds gs before TY hW aby hwt _
  exact Hc (n := 8) (cf := run fns pr 0) oI Tryz.laidOut (vv oI Ps TZ T0 0) (by kernel_rfl) (tb := 4) (by kernel_rfl) Tryz.underlying4 rfl (by kernel_rfl)
    (fun ds hds => by match ds, hds with | [_, _], _ => rfl) u7 TY hW hwt
theorem DeskShards_holds : Rows.DeskShardsSaid :=
  OpenClaim.holds_of_wide 3 Tryz.f3 rfl rfl rfl rfl rfl rfl rfl ⟨rfl, rfl, rfl, rfl, rfl⟩ rfl rfl rfl rfl rfl (by kernel_rfl) Tryz.func3 (by kernel_rfl)
    (of_decide_eq_true (by kernel_rfl)) (by unfold Func.isWrapper; first | (rw [if_pos (by decide +kernel)]; kernel_rfl) | (rw [if_neg (by decide +kernel)]; exact ⟨rfl, rfl⟩))
    (fun os started H enc _ => Hb os started H enc)
#print axioms DeskShards_holds
end Go.Proofs.YtggjbepemdhohaaGreat
