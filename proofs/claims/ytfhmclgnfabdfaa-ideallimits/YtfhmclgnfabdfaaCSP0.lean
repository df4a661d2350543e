/- What is known otherwise is Go's own. Conditions: none. -/
import Derived.Test.YtfhmclgnfabdfaaCS0
import Derived.Test.YtfhmclgnfabdfaaCSC
import Derived.Test.YtfhmclgnfabdfaaCSI2
import Derived.Test.YtfhmclgnfabdfaaCSI3
import Derived.Test.YtfhmclgnfabdfaaCSB2
import Derived.ProofKit
namespace Go.Proofs.Ytfhmclgnfabdfaa
open Go Go.Vm Go.Proofs Go.Cl
set_option maxRecDepth 100000
set_option linter.unusedVariables false
set_option linter.unusedSimpArgs false
theorem pr_ok : CalleesOK Try.prog (layOf Try.prog) pr := by
  intro f vs h v h' hr
  unfold pr at hr
  split at hr
  · obtain ⟨v1, h1, h2, h3, rfl⟩ := frzF_some hr
    obtain ⟨x, rfl⟩ := cloneV_keeps h2
    refine ⟨⟨_, Try.func40, rfl, by kernel_rfl⟩, fun c w us hv hs => ?_⟩
    match us, hv with
    | [u], hv => exact frzF_calls lay_ok hs (cloneV_kp h2 _) h3 (clone_calls lay_ok h2 hv.1 hs)
  · refine ⟨⟨_, Try.func44, rfl, by kernel_rfl⟩, fun c w us hv hs => cmp_calls lay_ok hr hv hs⟩
  · refine ⟨⟨_, Try.func32, rfl, by kernel_rfl⟩, fun c w us hv hs => ?_⟩
    have hb : Try.prog.bytesOf 30 = 96 := by kernel_rfl
    rw [← hb] at hr
    exact insert_calls lay_ok hr hv hs
  · exact ⟨⟨_, Try.func47, rfl, by kernel_rfl⟩, fun c w us hv hs => sum_calls hr hv hs⟩
  · cases hr

theorem pr_kp : KpP pr := by
  intro f vs h v h' hr base
  unfold pr at hr
  split at hr
  · exact frzF_kp hr (fun v' h' h2 base => cloneV_kp h2 base) base
  · have := cmpF_same hr; subst this; exact Kp.refl _ _
  · exact insertV_kp hr base
  · have := sumF_same hr; subst this; exact Kp.refl _ _
  · cases hr
end Go.Proofs.Ytfhmclgnfabdfaa
