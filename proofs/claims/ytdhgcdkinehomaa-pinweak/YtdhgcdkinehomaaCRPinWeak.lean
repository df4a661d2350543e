/- PinWeak: for every input the statement's function returns true, and its arguments read as they did. Conditions: none but the row's own. -/
import Derived.Test.YtdhgcdkinehomaaRows
import Derived.Test.YtdhgcdkinehomaaCPR
import Derived.Test.YtdhgcdkinehomaaCP5
import Derived.ProofKit
import Derived.SizedLaws
namespace Go.Proofs.Ytdhgcdkinehomaa
open Go Go.Vm Go.Proofs Go.ChangeShapes Go.WideShapes Go.ChangeAt Go.RowKit
set_option linter.unusedVariables false
theorem Try.own : ownKnob Try.prog.godebug = none := by kernel_rfl
theorem Try.laidOut : laidOutB Try.prog = true := by kernel_rfl
set_option maxRecDepth 100000 in
theorem lawPinWeak (xs : List V) (h : HasTys Try.prog 8 Try.f13.params.toList xs) : run fns pr 0 13 xs [] = some (.s (.bool true), []) := by
  rw [Try.params13] at h
  obtain ⟨x0, ys, rfl, h0, h⟩ := tys_cons h
  obtain ⟨x1, ys, rfl, h1, h⟩ := tys_cons h
  obtain ⟨x2, ys, rfl, h2, h⟩ := tys_cons h
  obtain ⟨x3, ys, rfl, h3, h⟩ := tys_cons h
  obtain ⟨x4, ys, rfl, h4, h⟩ := tys_cons h
  obtain rfl := tys_nil h
  obtain ⟨a0, rfl, p0_1, p0_2⟩ := of_i64 h0 Try.underlying3
  obtain ⟨a1, rfl, p1_1, p1_2⟩ := of_i64 h1 Try.underlying3
  obtain ⟨a2, rfl, p2_1, p2_2⟩ := of_i64 h2 Try.underlying3
  obtain ⟨a3, rfl, p3_1, p3_2⟩ := of_i64 h3 Try.underlying3
  obtain ⟨a4, rfl, p4_1, p4_2⟩ := of_i64 h4 Try.underlying3
  exact PinWeak_run a0 a1 a2 a3 a4
set_option maxRecDepth 100000 in
theorem f_lifted (os : Os) (started : os.Started) (H : Type) (enc : TypeId × Value → H) :
    ReturnsInHanded {} Try.checked os 13 .any (Rows.pinWeakSpec.pre6 enc Try.prog Try.f13 Rows.pinWeakRow.domain false) (Rows.pinWeakSpec.post enc Try.prog Try.f13 false true false false) := by
  refine returnsInHanded_of_change_sized (C := Try.checked) Try.own started (by kernel_rfl) Try.func13
    (ChangeSpec.witness6 (enc := enc) (C := Try.checked) false ⟨#[], #[.int .i64 0, .int .i64 0, .int .i64 0, .int .i64 0, .int .i64 0], []⟩ 8 (by kernel_rfl) (by kernel_rfl) (by kernel_rfl) (by kernel_rfl)) ?_
  intro W base args ds gs before hval0 hW hcnd hwt _
  exact law_post (n := 8) (cf := run fns pr 0) lay_ok Try.laidOut (run_sound lay_ok fns_ok pr_ok pr_kp 0) (by kernel_rfl) (tb := 4) (by kernel_rfl) Try.underlying4 rfl (by kernel_rfl)
    (fun ds hds => by match ds, hds with | [_, _, _, _, _], _ => rfl) lawPinWeak hval0 hW hwt
theorem PinWeak_holds : Rows.PinWeakSaid :=
  OpenClaim.holds_of_wide 13 Try.f13 rfl rfl rfl rfl rfl rfl rfl ⟨rfl, rfl, rfl, rfl, rfl⟩ rfl rfl rfl rfl rfl (by kernel_rfl) Try.func13 (by kernel_rfl)
    (of_decide_eq_true (by kernel_rfl)) (by unfold Func.isWrapper; first | (rw [if_pos (by decide +kernel)]; kernel_rfl) | (rw [if_neg (by decide +kernel)]; exact ⟨rfl, rfl⟩))
    (fun os started H enc _ => f_lifted os started H enc)
#print axioms PinWeak_holds
end Go.Proofs.Ytdhgcdkinehomaa
