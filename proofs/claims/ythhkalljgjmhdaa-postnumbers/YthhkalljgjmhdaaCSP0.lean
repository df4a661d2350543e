/- What is known otherwise is Go's own. Conditions: none. -/
import Derived.Test.YthhkalljgjmhdaaCS0
import Derived.Test.YthhkalljgjmhdaaCSC
import Derived.ProofKit
namespace Go.Proofs.Ythhkalljgjmhdaa
open Go Go.Vm Go.Proofs Go.Cl
set_option maxRecDepth 100000
set_option linter.unusedVariables false
set_option linter.unusedSimpArgs false
theorem pr_ok : CalleesOK Try.prog (layOf Try.prog) pr := by
  intro f vs h v h' hr
  unfold pr at hr
  split at hr
  · obtain ⟨v1, h1, h2, h3, rfl⟩ := frzF_some hr
    obtain ⟨x, rfl⟩ := cloneV_keeps h2
    refine ⟨⟨_, Try.func26, rfl, by kernel_rfl⟩, fun c w us hv hs => ?_⟩
    match us, hv with
    | [u], hv => exact frzF_calls lay_ok hs (cloneV_kp h2 _) h3 (clone_calls lay_ok h2 hv.1 hs)
  · cases hr

theorem pr_kp : KpP pr := by
  intro f vs h v h' hr base
  unfold pr at hr
  split at hr
  · exact frzF_kp hr (fun v' h' h2 base => cloneV_kp h2 base) base
  · cases hr
end Go.Proofs.Ythhkalljgjmhdaa
