/- bytes.Compare: Go's own is what is said of it. Conditions: none. -/
import Derived.Test.YtfhmclgnfabdfaaCVc
import Derived.Test.YtfhmclgnfabdfaaCT
import Derived.Test.YtfhmclgnfabdfaaCMK0
import Derived.Lib.BytesEntry
import Derived.Lib.Bytealg
import Derived.Laws.Externs
namespace Go.Proofs.Ytfhmclgnfabdfaa
open Go Go.Vm Go.Proofs Go.Cl
set_option linter.unusedVariables false
set_option linter.unusedSimpArgs false
set_option maxRecDepth 100000
theorem load_sound (hL : (layOf Try.prog).OK) {c : Ctx} {w : World} {h : Hp} (hs : Sim (layOf Try.prog) c h w) {x : V} {ux : Value} (hx : RV (layOf Try.prog) c x ux) {g : Option Nat} {es : List V} {l : List UInt8} (he : elems h x = some (g, es)) (hl : Vm.bytesOf es = some l) :
    (Extern.Bytes.bytesOf ux).run Try.prog w = .ok ⟨l.toArray⟩ w := by
  obtain ⟨a, k, rfl, hlk, hel, hcase⟩ := elems_RV hL hs hx he
  rcases hcase with rfl | ⟨b, o, us, ty, fz, rfl, hg, hr⟩
  · simp only [Vm.bytesOf, Option.some.injEq] at hl
    subst hl
    cases a <;> simp [Extern.Bytes.bytesOf, Extern.Bytes.loadBytes] <;> rfl
  · obtain ⟨ns, hns, hnl, rfl⟩ := bytesOf_cells es l _ hl hr
    have hseg := seg_cells hL hg hr (fun q hq => (hel q hq).1)
    rw [hns] at hseg
    have hrun := Lib.run_loadBytesX (P := Try.prog) (w := w) ns ⟨b, o, none⟩ .empty (fun j x hj => hseg j (.int .u8 x) (by simp [hj]))
    rw [hnl] at hrun
    simp only [Extern.Bytes.bytesOf, hrun]
    congr 2
    simp [Lib.bytesOf, ByteArray.empty, ByteArray.emptyWithCapacity]
    rfl

theorem cmp_calls (hL : (layOf Try.prog).OK) {c : Ctx} {w : World} {vs : List V} {us : List Value} {h : Hp} {v : V} {h' : Hp} (hc : cmpF vs h = some (v, h')) (hv : RVl (layOf Try.prog) c vs us) (hs : Sim (layOf Try.prog) c h w) : CallRes Try.prog (layOf Try.prog) c w 44 us v h' := by
  unfold cmpF at hc
  split at hc
  case h_2 => cases hc
  match us, hv with
  | [ux, uy], hv =>
  obtain ⟨hx, hy, _⟩ := hv
  split at hc
  case h_2 => cases hc
  rename_i ga a gb b' hea heb
  split at hc
  case h_2 => cases hc
  rename_i l m hla hlb
  cases hc
  have h1 := load_sound hL hs hx hea hla
  have h2 := load_sound hL hs hy heb hlb
  have hcall : (callFunc 48 #[ux, uy]).run Try.prog w = .ok (.value (.int .i64 (Lib.compareBytes l m))) w := by
    rw [run_callFunc_extern Try.func48 (by kernel_rfl) (by kernel_rfl) (by kernel_rfl) (e := Extern.BytealgCompare.compare) (by kernel_rfl)]
    have : (Extern.BytealgCompare.compare #[ux, uy]).run Try.prog w = .ok (.int .i64 (Lib.compareBytes l m)) w := by
      change Sem.run Try.prog (do pure (goInt (Extern.BytealgCompare.cmp (← Extern.Bytes.bytesOf ux) (← Extern.Bytes.bytesOf uy)))) w = _
      simp only [Sem.run_bind, Sem.run_pure, h1, h2, Result.andThen]
      rw [Lib.cmp_eq]
      rfl
    rw [this]; rfl
  refine Calls.mono (R := fun e w' => e = .returned (.int .i64 (Lib.compareBytes l m)) ∧ w' = w) ?_ ?_
  · go_enter Try.func44, Try.ntmps44
    go_wp2_with (simp only [hcall])
    go_ret
    exact ⟨rfl, rfl⟩
  · rintro e w' ⟨rfl, rfl⟩
    exact ⟨_, c, rfl, RV_s.2 ⟨rfl, rfl⟩, hs, Ctx.le_refl _, St.refl _⟩
end Go.Proofs.Ytfhmclgnfabdfaa
