/- strings.Repeat: Go's own is what is said of it. Conditions: none. -/
import Derived.Test.YtdhgcdkinehomaaCP0
import Derived.Shelf.Strings.Repeat
import Derived.Ground.NamesProg
import Derived.ProofKit
namespace Go.Proofs.Ytdhgcdkinehomaa
open Go Go.Vm Go.Proofs Go.Cl Go.Shelf Go.RowKit
set_option linter.unusedVariables false
set_option linter.unusedSimpArgs false
set_option maxRecDepth 100000
def Try.laysRepeat_ren : Go.Shelf.Ren := ⟨fun | 105 => 63 | 212 => 75 | 99 => 76 | 165 => 77 | 166 => 78 | 170 => 79 | 169 => 80 | 263 => 82 | 264 => 83 | 206 => 84 | 240 => 85 | 241 => 86 | 276 => 88 | 277 => 89 | n => n, fun | 9 => 9 | 3 => 3 | 4 => 4 | 20 => 20 | 0 => 0 | 46 => 106 | 109 => 115 | 5 => 5 | 72 => 120 | 76 => 124 | 51 => 127 | 146 => 128 | 53 => 25 | 148 => 130 | 70 => 118 | 37 => 28 | 75 => 123 | 127 => 132 | 164 => 134 | 80 => 126 | n => n, fun | n => n⟩
theorem Try.laysRepeat : Go.Proofs.Lays.n105 Try.prog Try.laysRepeat_ren where
  mixed := by kernel_rfl
  f99 := Try.func76.trans (congrArg some (by kernel_rfl))
  f105 := Try.func63.trans (congrArg some (by kernel_rfl))
  f165 := Try.func77.trans (congrArg some (by kernel_rfl))
  f166 := Try.func78.trans (congrArg some (by kernel_rfl))
  f169 := Try.func80.trans (congrArg some (by kernel_rfl))
  f170 := Try.func79.trans (congrArg some (by kernel_rfl))
  f206 := Try.func84.trans (congrArg some (by kernel_rfl))
  f212 := Try.func75.trans (congrArg some (by kernel_rfl))
  f240 := Try.func85.trans (congrArg some (by kernel_rfl))
  f241 := Try.func86.trans (congrArg some (by kernel_rfl))
  f263 := Try.func82.trans (congrArg some (by kernel_rfl))
  f264 := Try.func83.trans (congrArg some (by kernel_rfl))
  f276 := Try.func88.trans (congrArg some (by kernel_rfl))
  f277 := Try.func89.trans (congrArg some (by kernel_rfl))
  t0 := Try.underlying0
  a0 := Try.isAgg0
  z0 := Try.sizeOf0
  v0 := Try.zeroValue0
  t3 := Try.underlying3
  a3 := Try.isAgg3
  z3 := Try.sizeOf3
  v3 := Try.zeroValue3
  t4 := Try.underlying4
  a4 := Try.isAgg4
  z4 := Try.sizeOf4
  v4 := Try.zeroValue4
  t5 := Try.underlying5
  a5 := Try.isAgg5
  z5 := Try.sizeOf5
  v5 := Try.zeroValue5
  t9 := Try.underlying9
  a9 := Try.isAgg9
  z9 := Try.sizeOf9
  v9 := Try.zeroValue9
  t20 := Try.underlying20
  a20 := Try.isAgg20
  z20 := Try.sizeOf20
  v20 := Try.zeroValue20
  t37 := Try.underlying28
  a37 := Try.isAgg28
  z37 := Try.sizeOf28
  v37 := Try.zeroValue28
  t46 := Try.underlying106
  a46 := Try.isAgg106
  z46 := Try.sizeOf106
  v46 := Try.zeroValue106
  t51 := Try.underlying127
  a51 := Try.isAgg127
  z51 := Try.sizeOf127
  v51 := Try.zeroValue127
  t53 := Try.underlying25
  a53 := Try.isAgg25
  z53 := Try.sizeOf25
  v53 := Try.zeroValue25
  t70 := Try.underlying118
  a70 := Try.isAgg118
  z70 := Try.sizeOf118
  v70 := Try.zeroValue118
  t72 := Try.underlying120
  a72 := Try.isAgg120
  z72 := Try.sizeOf120
  v72 := Try.zeroValue120
  t75 := Try.underlying123
  a75 := Try.isAgg123
  z75 := Try.sizeOf123
  v75 := Try.zeroValue123
  t76 := Try.underlying124
  a76 := Try.isAgg124
  z76 := Try.sizeOf124
  v76 := Try.zeroValue124
  t109 := Try.underlying115
  a109 := Try.isAgg115
  z109 := Try.sizeOf115
  v109 := Try.zeroValue115
  t127 := Try.underlying132
  a127 := Try.isAgg132
  z127 := Try.sizeOf132
  v127 := Try.zeroValue132
  t146 := Try.underlying128
  a146 := Try.isAgg128
  z146 := Try.sizeOf128
  v146 := Try.zeroValue128
  t148 := Try.underlying130
  a148 := Try.isAgg130
  z148 := Try.sizeOf130
  v148 := Try.zeroValue130
  t164 := Try.underlying134
  a164 := Try.isAgg134
  z164 := Try.sizeOf134
  v164 := Try.zeroValue134
theorem Try.extra : Builder.Extra Try.prog Try.laysRepeat_ren where
  sizeBuilder := by kernel_rfl
  liesBuilder := by kernel_rfl
  t5 := Try.laysRepeat.t5
  a5 := Try.laysRepeat.a5
  z5 := Try.laysRepeat.z5
  v5 := Try.laysRepeat.v5
  infoByte := by kernel_rfl
  cellsByte := by kernel_rfl
  sizeByte := by kernel_rfl
  neB5 := by decide
theorem Try.fRepeat : Try.laysRepeat_ren.f 105 = 63 := by kernel_rfl
theorem sim_below {c : Ctx} {w w' : World} {h : Hp} (hs : Sim (layOf Try.prog) c h w) (hb : Below w.heap.size w w') : Sim (layOf Try.prog) c h w' := by
  have hlt : ∀ {b : Nat} {o : Obj}, w.heap[b]? = some o → w'.heap[b]? = w.heap[b]? := fun {b o} ho => hb.block b (by
    rcases Nat.lt_or_ge b w.heap.size with h | h
    · exact h
    · rw [Array.getElem?_eq_none h] at ho; cases ho)
  refine ⟨fun b o hz => ?_, hs.n, fun id l hl => ?_, hs.live, hs.inj⟩
  · have := hs.z b o hz
    rw [hlt this]; exact this
  · obtain ⟨k, h1, h2, h3⟩ := hs.loc id l hl
    refine ⟨k, h1, h2, ?_⟩
    have hw : w'.heap[l.blk]? = w.heap[l.blk]? := by
      cases k with
      | cells g es => obtain ⟨_, _, _, _, us, ty, fz, h5, _⟩ := h3; exact hlt h5
      | siter s pos => exact hlt h3.2.2
      | dead => exact h3.elim
    exact h3.mono (Ctx.le_refl _) hw
theorem rep_calls {c : Ctx} {w : World} {vs : List V} {us : List Value} {h : Hp} {v : V} {h' : Hp} (hr : repV vs h = some (v, h')) (hv : RVl (layOf Try.prog) c vs us) (hs : Sim (layOf Try.prog) c h w) : CallRes Try.prog (layOf Try.prog) c w 63 us v h' := by
  unfold repV at hr
  split at hr
  case h_2 => cases hr
  rename_i s n
  split at hr
  case isFalse => cases hr
  rename_i hc
  simp only [Option.some.injEq, Prod.mk.injEq] at hr
  obtain ⟨rfl, rfl⟩ := hr
  match us, hv with
  | [ux, uy], hv =>
  obtain ⟨hx, hy, _⟩ := hv
  obtain ⟨rfl, _⟩ := RV_s.1 hx
  obtain ⟨rfl, _⟩ := RV_s.1 hy
  obtain ⟨m, rfl⟩ : ∃ m : Nat, n = m := ⟨n.toNat, by omega⟩
  obtain ⟨h0, h1, h2⟩ := hc
  rw [Int.toNat_natCast] at h2
  have hh := Any.strings_Repeat Try.laysRepeat Try.extra s m w (by omega) h2
  rw [Try.fRepeat] at hh
  unfold CallRes
  refine hh.mono fun e w' ⟨he, hb⟩ => ?_
  rw [he, Int.toNat_natCast]
  exact ⟨_, c, rfl, RV_s.2 ⟨rfl, rfl⟩, sim_below hs hb, Ctx.le_refl _, ⟨hb.os, hb.tape, hb.output, hb.size⟩⟩
theorem pr_ok : CalleesOK Try.prog (layOf Try.prog) pr := by
  intro f vs h v h' hr
  unfold pr at hr
  split at hr
  · exact ⟨⟨_, Try.func63, rfl, by kernel_rfl⟩, fun c w us hv hs => rep_calls hr hv hs⟩
  · cases hr
theorem pr_kp : KpP pr := by
  intro f vs h v h' hr base
  unfold pr at hr
  split at hr
  · unfold repV at hr
    split at hr
    · split at hr
      · cases hr; exact Kp.refl _ _
      · cases hr
    · cases hr
  · cases hr
end Go.Proofs.Ytdhgcdkinehomaa
