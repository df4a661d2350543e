/- Post: any calls, letters' bytes anywhere: the walk. Conditions: none. -/
import Derived.Test.YthhkalljgjmhdaaCS21W
import Derived.Test.YthhkalljgjmhdaaCS21T
namespace Go.Proofs.Ythhkalljgjmhdaa
open Go Go.Vm Go.Proofs Go.Cl
set_option linter.unusedSimpArgs false
set_option linter.unusedVariables false
set_option maxRecDepth 100000
/-- An ask whose letter's bytes are this slice's. -/
def AV (x : Ask21) (bv : V) : V := .st 27 [.s (.int .i64 x.kind), .s (.int .i64 x.i), LV x.l bv]
def ARs (H : Hp) (vs : List V) (l : List Ask21) : Prop := vs.length = l.length ∧ ∀ (i : Nat) (y : Ask21), l[i]? = some y → ∃ bv, vs[i]? = some (AV y bv) ∧ BR H bv y.l.bytes
/-- The last place of a heap turned: bytes elsewhere stay. -/
theorem brL {H : Hp} {T X Y x : V} {l : Bs} {g g' : Nat} (h : BR (H ++ [Blk.cells (some g) [T], Blk.cells (some g') [X]]) x l) : BR (H ++ [Blk.cells (some g) [T]] ++ [Blk.cells (some g') [Y]]) x l := by
  rcases h with h | ⟨id, off, bl, rfl, h1, h2, h3⟩
  · exact .inl h
  · refine .inr ⟨id, off, bl, rfl, ?_, h2, h3⟩
    by_cases c : id < H.length
    · rw [List.getElem?_append_left c] at h1
      rw [List.append_assoc, List.getElem?_append_left c]; exact h1
    · rw [List.getElem?_append_right (by omega)] at h1
      rw [List.append_assoc, List.getElem?_append_right (by omega)]
      match hk : id - H.length with
      | 0 => rw [hk] at h1; simp at h1
      | 1 => rw [hk] at h1; simp at h1
      | n + 2 => rw [hk] at h1; simp at h1
/-- Behind each call. -/
def plMB (h : Hp) (h0 : Hp) (x : V) (n i : Nat) (most : Int) (e : Env) (H : Hp) : Prop := e 0 = x ∧ e 1 = .s (.int .i64 most) ∧ e 8 = .s (.int .i64 (i : Nat)) ∧ ∃ id k O, e 5 = .ptr id [0] 1 ∧ PlB n H id k (e 6) (e 7) O ∧ Fw [] h H
theorem playB_ok (b : Nat) (h : Hp) (x : V) (l : List Ask21) (most : Int) (vs : List V) (hx : SR h x (some 27) vs) (har : ARs h vs l) (hw : ∀ a ∈ l, a.wf) (hl : l.length ≤ 140737488355328) :
    run fns pr b 6 [x, .s (.int .i64 most)] h = some (.s (.bool true), h) := by
  refine Vm.runP (nt := 214) rfl fit6 (by simp) ?_
  obtain ⟨v1, h1, e1, rfl, o1, f1⟩ := PNew_ok h.length h
  have hlen := fun cf base h0 => hx.o_len (cf := cf) (base := base) (h := h0)
  rw [har.1] at hlen
  simp only [B6, B6R0, B6L0, e1, go_sem, V.s.injEq, Value.bool.injEq, simprocAttr, List.append_assoc, List.length_append, Vm.get_app, Vm.set_app, Vm.get_appL, Vm.get_appL0, Vm.set_appL, Vm.set_appL0, Nat.le_refl, Nat.le_add_right, okAt]
  refine wp_for (fun n e H => ∃ (i : Nat), n = l.length - i ∧ i ≤ l.length ∧ plMB h h x h.length i most e H)
    (fun e H => ∃ id, e 5 = .ptr id [0] 1 ∧ Fw [] h H) l.length _ _ ⟨0, by omega, by omega, rfl, rfl, rfl, h.length, h.length, [], rfl, ⟨o1, Nat.le_refl _, Nat.le_refl _, by simp, by simp, h.length + 2, h.length + 1, [], ⟨.inl ⟨rfl, rfl⟩, by omega, by simp⟩, ⟨rfl, fun i y h => by simp at h⟩, ⟨.inl ⟨rfl, rfl⟩, by omega, by simp⟩⟩, f1⟩ ?_ ?_
  · rintro n e H ⟨i, rfl, hi, e0', e1', e8, id, k, O, e5, p, fw⟩
    by_cases c : i < l.length
    · have c' : (i : Int) < (l.length : Nat) := by omega
      by_cases cm : (i : Int) < most
      · have hy : l[i]? = some l[i] := List.getElem?_eq_getElem c
        have hwf := hw l[i] (List.getElem_mem c)
        obtain ⟨bv, hyv, hbv⟩ := har.2 i _ hy
        replace hbv := hbv.mono fw
        generalize l[i] = y at hy hwf hyv hbv
        have hw1 : IntKind.i64.wrap ((i : Int) + 1) = ((i + 1 : Nat) : Int) := wrap_small (by omega)
        have hxi := (hx.fw fw).o_ias (cf := run fns pr h.length) (base := h.length) (k := .i64) (i := i) (by rw [har.1]; exact c)
        have hxl := (hx.fw fw).o_ld (cf := run fns pr h.length) (base := h.length) (i := i) (v := AV y bv) hyv rfl
        obtain ⟨ms, psm, plr⟩ := p.sm
        have hml := fun h0 => psm.o_len (cf := run fns pr h.length) (base := h.length) (h := h0)
        rw [plr.1] at hml
        have nn := p.nn
        have hle : h.length ≤ H.length := nn
        obtain ⟨w, hwi⟩ : ∃ w, within y.i (-1) O.length = w := ⟨_, rfl⟩
        have pl := p.len
        have w1 : -1 ≤ w := by rw [← hwi]; exact within_ge (by omega)
        have w2 : w ≤ O.length := by rw [← hwi]; exact within_le (by omega)
        have hwt := fun h0 => Within_ok h.length h0 y.i (-1) O.length (by omega) (by omega) (by omega) hwf.i.1 hwf.i.2
        rw [hwi] at hwt
        have hye : AV y bv = .st 27 [.s (.int .i64 y.kind), .s (.int .i64 y.i), LV y.l bv] := rfl
        have hlv : (LV y.l bv).ty = some 25 := rfl
        have hls : (LV y.l bv).solid = true := rfl
        obtain ⟨T, hT⟩ : ∃ T, Blk.cells (some 27) [V.st 27 [.s (.int .i64 y.kind), .s (.int .i64 y.i), LV y.l bv]] = T := ⟨_, rfl⟩
        have fT : Fw [] H (H ++ [T]) := Fw.app _ _ _
        have pT : PlB h.length (H ++ [T]) id k (e 6) (e 7) O := p.turn (Fw.app _ _ _) (.inl rfl) (p.o.mono fT (by simp) (by simp)) pl p.byt (fun _ => rfl) rfl rfl
        have fwT := fw.trans fT
        have lT : h.length ≤ H.length + 1 := by omega
        by_cases cin : 0 ≤ w ∧ w < O.length
        · obtain ⟨w3, w4⟩ := cin
          simp only [e0', e1', e8, e5, hlen, c', cm, hxi, hxl, hle, hye, hlv, hls, hml, hwt, w3, w4, go_sem, V.s.injEq, Value.bool.injEq, simprocAttr, List.append_assoc, List.length_append, Vm.get_app, Vm.set_app, Vm.get_appL, Vm.get_appL0, Vm.set_appL, Vm.set_appL0, Nat.le_refl, Nat.le_add_right, okAt]
          simp only [hT]
          refine wpC_cutS (plMB h h x h.length i most) (fun e H he => by
            obtain ⟨e0', e1', e8, id, k, O, e5, p, fw⟩ := he
            obtain ⟨ms, q1, q2⟩ := p.sm
            have hsm := sameB_ok h.length H id k O (e 6) (e 7) ms p.o (by have := p.len; omega) q1 q2 p.sh
            simp only [e0', e1', e8, e5, hsm, hw1, plMB, go_sem, V.s.injEq, Value.bool.injEq, simprocAttr, List.append_assoc, List.length_append, Vm.get_app, Vm.set_app, Vm.get_appL, Vm.get_appL0, Vm.set_appL, Vm.set_appL0, Nat.le_refl, Nat.le_add_right, okAt]
            exact ⟨_, by omega, i + 1, rfl, by omega, rfl, id, k, O, rfl, p, fw⟩) ?_
          intro K' hK
          obtain ⟨j, rfl⟩ : ∃ j : Nat, w = j := ⟨w.toNat, by omega⟩
          have hj : j < O.length := by omega
          have hy0 : O[j]? = some O[j] := List.getElem?_eq_getElem hj
          have hgd : O.getD j default = O[j] := by simp [List.getD, hy0]
          have hha := heldAt_nat hy0
          generalize O[j] = y0 at hy0 hgd hha
          by_cases k4 : y.kind = 4
          · obtain ⟨v2, H2, q2, rfl, o2, f2⟩ := Take_ok h.length (H ++ [T]) id k O (j : Nat) pT.ii pT.kk pT.o (by omega)
            obtain ⟨ms, s1, lr, s2⟩ := pT.keep f2
            cases hb : y0.2 with
            | true =>
              rw [hb] at hha
              have tk : takes O (j : Nat) = false := by simp [takes, hha]
              simp only [tk, Bool.false_eq_true, if_false] at q2 o2
              have l2 := f2.len
              have hl2 : h.length ≤ H2.length := by simp at l2; omega
              have fZ : Fw [] H2 (H2 ++ [Blk.cells (some 25) [(⟨0, 0, 0, []⟩ : Letter).enc]]) := Fw.app _ _ _
              have t2 := s2.fw fZ
              have hhi := fun cf base => t2.o_ias (cf := cf) (base := base) (k := .i64) (i := j) (by simpa [heldV] using hj)
              have hhv := fun cf base => t2.o_ld (cf := cf) (base := base) (i := j) (v := .s (.bool true)) (by simp [heldV, hy0, hb]) rfl
              have hlt := fun h0 => lett_ok h.length h0 ⟨0, 0, 0, []⟩ ⟨0, 0, 0, []⟩
              simp only [decide_true] at hlt
              simp only [Letter.enc, List.map_nil] at q2 hlt hhi hhv
              simp only [k4, q2, hhi, hhv, hlt, hl2, e5, go_sem, V.s.injEq, Value.bool.injEq, simprocAttr, List.append_assoc, List.length_append, Vm.get_app, Vm.set_app, Vm.get_appL, Vm.get_appL0, Vm.set_appL, Vm.set_appL0, Nat.le_refl, Nat.le_add_right, okAt]
              refine hK _ _ ?_
              simp only [plMB, e0', e1', e8, e5, go_sem, V.s.injEq, Value.bool.injEq, simprocAttr, List.append_assoc, List.length_append, Vm.get_app, Vm.set_app, Vm.get_appL, Vm.get_appL0, Vm.set_appL, Vm.set_appL0, Nat.le_refl, Nat.le_add_right, okAt]
              exact ⟨id, k, O, rfl, (pT.turn f2 (.inl rfl) o2 pl p.byt (fun _ => rfl) rfl rfl).turn (Fw.app _ _ _) (.inl rfl) (o2.mono (Fw.app [] _ _) (by simp) (by simp)) pl p.byt (fun _ => rfl) rfl rfl, (fwT.new f2 (by have := p.ii; have := p.kk; simp; omega)).trans (Fw.app _ _ _)⟩
            | false =>
              rw [hb] at hha
              have tk : takes O (j : Nat) = true := by simp [takes, hha, hj]
              simp only [tk, if_true, Int.toNat_natCast, hgd] at q2 o2
              have fZ : Fw [] H2 (H2 ++ [Blk.cells (some 25) [y0.1.enc]]) := Fw.app _ _ _
              obtain ⟨bz, hmz, hbz⟩ := lr.2 j y0 hy0
              have t1 := s1.fw fZ
              have t2 := s2.fw fZ
              have l2 := f2.len
              have hl2 : h.length ≤ H2.length := by simp at l2; omega
              have hmi := fun cf base => t1.o_ias (cf := cf) (base := base) (k := .i64) (i := j) (by rw [lr.1]; exact hj)
              have hmv := fun cf base => t1.o_ld (cf := cf) (base := base) (i := j) (v := LV y0.1 bz) hmz rfl
              have hhi := fun cf base => t2.o_ias (cf := cf) (base := base) (k := .i64) (i := j) (by simpa [heldV] using hj)
              have hhv := fun cf base => t2.o_ld (cf := cf) (base := base) (i := j) (v := .s (.bool false)) (by simp [heldV, hy0, hb]) rfl
              have hlt : run fns pr h.length 11 [y0.1.enc, LV y0.1 bz] (H2 ++ [Blk.cells (some 25) [y0.1.enc]]) = some (.s (.bool true), H2 ++ [Blk.cells (some 25) [y0.1.enc]]) := by
                have := lettB_ok h.length (H2 ++ [Blk.cells (some 25) [y0.1.enc]]) y0.1 y0.1 (.imm false none (y0.1.bytes.map byteV)) bz (BR_imm _ _ _) (hbz.mono fZ)
                simp only [decide_true] at this; exact this
              have hgr : V.ground y0.1.enc = true := ground_plain _ (Letter.enc_plain _)
              have hwj : IntKind.i64.wrap ((j : Int) + 1) = ((j + 1 : Nat) : Int) := wrap_small (by omega)
              have nl : ms.length = O.length := lr.1
              have nh : (heldV O).length = O.length := by simp [heldV]
              have ma := fun cf base => t1.o_hi (cf := cf) (base := base) (k := .i64) (r := j) (by omega)
              have mb := t1.cutP (l := 0) (r := j) (by omega) (by omega)
              have mc := t1.cutP (l := j + 1) (r := ms.length) (by omega) (by omega)
              rw [List.drop_zero, Nat.sub_zero] at mb
              rw [List.take_of_length_le (by simp)] at mc
              obtain ⟨x1, G1, x2, G2, qm, a1, a2, xm, hm, fa, fb⟩ := two_appB (n := h.length) (bytes := 48) (by simp; omega) mb.2 mc.2 (by simp only [List.length_take, List.length_drop]; omega)
              have md := fun cf base => (t1.fw fa).o_lo (cf := cf) (base := base) (k := .i64) (l := j + 1) (by omega)
              have na := fun cf base => (t2.fw fb).o_hi (cf := cf) (base := base) (k := .i64) (r := j) (by omega)
              have nb := (t2.fw fb).cutP (l := 0) (r := j) (by omega) (by omega)
              have nc := (t2.fw fb).cutP (l := j + 1) (r := (heldV O).length) (by omega) (by omega)
              rw [List.drop_zero, Nat.sub_zero] at nb
              rw [List.take_of_length_le (by simp)] at nc
              obtain ⟨y1, G3, y2, G4, qh, b1, b2, xh, hh, fc, fd⟩ := two_app (bytes := 1) nb.2 nc.2 (fun z hz => held_gr O z (List.mem_of_mem_take hz)) (fun z hz => held_gr O z (List.mem_of_mem_drop hz)) (by simp; omega)
              have nd := fun cf base => ((t2.fw fb).fw fc).o_lo (cf := cf) (base := base) (k := .i64) (l := j + 1) (by omega)
              have md0 := fun cf base => t1.o_lo (cf := cf) (base := base) (k := .i64) (l := j + 1) (by omega)
              have na0 := fun cf base => t2.o_hi (cf := cf) (base := base) (k := .i64) (r := j) (by omega)
              have na1 := fun cf base => (t2.fw fa).o_hi (cf := cf) (base := base) (k := .i64) (r := j) (by omega)
              have nd0 := fun cf base => t2.o_lo (cf := cf) (base := base) (k := .i64) (l := j + 1) (by omega)
              have nd1 := fun cf base => (t2.fw fa).o_lo (cf := cf) (base := base) (k := .i64) (l := j + 1) (by omega)
              have nd2 := fun cf base => (t2.fw fb).o_lo (cf := cf) (base := base) (k := .i64) (l := j + 1) (by omega)
              have lr' := ((lr.fw fZ).er hj).fw fb
              rw [← held_er] at xh
              simp only [k4, q2, hmi, hmv, hhi, hhv, hlt, hgr, hl2, hwj, ma, a1, a2, md, md0, na, na0, na1, b1, b2, nd, nd0, nd1, nd2, or_true, e5, Letter.enc_ty, Letter.enc_solid, go_sem, V.s.injEq, Value.bool.injEq, simprocAttr, List.append_assoc, List.length_append, Vm.get_app, Vm.set_app, Vm.get_appL, Vm.get_appL0, Vm.set_appL, Vm.set_appL0, Nat.le_refl, Nat.le_add_right, okAt]
              refine hK _ _ ?_
              simp only [plMB, e0', e1', e8, e5, go_sem, V.s.injEq, Value.bool.injEq, simprocAttr, List.append_assoc, List.length_append, Vm.get_app, Vm.set_app, Vm.get_appL, Vm.get_appL0, Vm.set_appL, Vm.set_appL0, Nat.le_refl, Nat.le_add_right, okAt]
              exact ⟨id, k, _, rfl, PlB.new (by simp; omega) (o2.mono fZ (by simp) (by simp)) p.ii p.kk (by have := List.length_eraseIdx_le O j; omega) (fun y hy => p.byt y (List.mem_of_mem_eraseIdx hy)) fb fd xm lr' hm xh hh, (((fwT.new f2 (by have := p.ii; have := p.kk; simp; omega)).trans fZ).trans fb).trans fd⟩
          by_cases k5 : y.kind = 5
          · obtain ⟨v2, H2, q2, rfl, o2, f2⟩ := Take_ok h.length (H ++ [T]) id k O (j : Nat) pT.ii pT.kk pT.o (by omega)
            obtain ⟨ms, s1, lr, s2⟩ := pT.keep f2
            cases hb : y0.2 with
            | true =>
              rw [hb] at hha
              have tk : takes O (j : Nat) = false := by simp [takes, hha]
              simp only [tk, Bool.false_eq_true, if_false] at q2 o2
              have l2 := f2.len
              have hl2 : h.length ≤ H2.length := by simp at l2; omega
              have fZ : Fw [] H2 (H2 ++ [Blk.cells (some 25) [(⟨0, 0, 0, []⟩ : Letter).enc]]) := Fw.app _ _ _
              have t2 := s2.fw fZ
              have hhi := fun cf base => t2.o_ias (cf := cf) (base := base) (k := .i64) (i := j) (by simpa [heldV] using hj)
              have hhv := fun cf base => t2.o_ld (cf := cf) (base := base) (i := j) (v := .s (.bool true)) (by simp [heldV, hy0, hb]) rfl
              have hlt := fun h0 => lett_ok h.length h0 ⟨0, 0, 0, []⟩ ⟨0, 0, 0, []⟩
              simp only [decide_true] at hlt
              simp only [Letter.enc, List.map_nil] at q2 hlt hhi hhv
              simp only [k4, k5, q2, hhi, hhv, hlt, hl2, e5, go_sem, V.s.injEq, Value.bool.injEq, simprocAttr, List.append_assoc, List.length_append, Vm.get_app, Vm.set_app, Vm.get_appL, Vm.get_appL0, Vm.set_appL, Vm.set_appL0, Nat.le_refl, Nat.le_add_right, okAt]
              refine hK _ _ ?_
              simp only [plMB, e0', e1', e8, e5, go_sem, V.s.injEq, Value.bool.injEq, simprocAttr, List.append_assoc, List.length_append, Vm.get_app, Vm.set_app, Vm.get_appL, Vm.get_appL0, Vm.set_appL, Vm.set_appL0, Nat.le_refl, Nat.le_add_right, okAt]
              exact ⟨id, k, O, rfl, (pT.turn f2 (.inl rfl) o2 pl p.byt (fun _ => rfl) rfl rfl).turn (Fw.app _ _ _) (.inl rfl) (o2.mono (Fw.app [] _ _) (by simp) (by simp)) pl p.byt (fun _ => rfl) rfl rfl, (fwT.new f2 (by have := p.ii; have := p.kk; simp; omega)).trans (Fw.app _ _ _)⟩
            | false =>
              rw [hb] at hha
              have tk : takes O (j : Nat) = true := by simp [takes, hha, hj]
              simp only [tk, if_true, Int.toNat_natCast, hgd] at q2 o2
              have fZ : Fw [] H2 (H2 ++ [Blk.cells (some 25) [y0.1.enc]]) := Fw.app _ _ _
              obtain ⟨bz, hmz, hbz⟩ := lr.2 j y0 hy0
              have t1 := s1.fw fZ
              have t2 := s2.fw fZ
              have l2 := f2.len
              have hl2 : h.length ≤ H2.length := by simp at l2; omega
              have hmi := fun cf base => t1.o_ias (cf := cf) (base := base) (k := .i64) (i := j) (by rw [lr.1]; exact hj)
              have hmv := fun cf base => t1.o_ld (cf := cf) (base := base) (i := j) (v := LV y0.1 bz) hmz rfl
              have hhi := fun cf base => t2.o_ias (cf := cf) (base := base) (k := .i64) (i := j) (by simpa [heldV] using hj)
              have hhv := fun cf base => t2.o_ld (cf := cf) (base := base) (i := j) (v := .s (.bool false)) (by simp [heldV, hy0, hb]) rfl
              have hlt : run fns pr h.length 11 [y0.1.enc, LV y0.1 bz] (H2 ++ [Blk.cells (some 25) [y0.1.enc]]) = some (.s (.bool true), H2 ++ [Blk.cells (some 25) [y0.1.enc]]) := by
                have := lettB_ok h.length (H2 ++ [Blk.cells (some 25) [y0.1.enc]]) y0.1 y0.1 (.imm false none (y0.1.bytes.map byteV)) bz (BR_imm _ _ _) (hbz.mono fZ)
                simp only [decide_true] at this; exact this
              have hgr : V.ground y0.1.enc = true := ground_plain _ (Letter.enc_plain _)
              have hwj : IntKind.i64.wrap ((j : Int) + 1) = ((j + 1 : Nat) : Int) := wrap_small (by omega)
              have nl : ms.length = O.length := lr.1
              have nh : (heldV O).length = O.length := by simp [heldV]
              have ma := fun cf base => t1.o_hi (cf := cf) (base := base) (k := .i64) (r := j) (by omega)
              have mb := t1.cutP (l := 0) (r := j) (by omega) (by omega)
              have mc := t1.cutP (l := j + 1) (r := ms.length) (by omega) (by omega)
              rw [List.drop_zero, Nat.sub_zero] at mb
              rw [List.take_of_length_le (by simp)] at mc
              obtain ⟨x1, G1, x2, G2, qm, a1, a2, xm, hm, fa, fb⟩ := two_appB (n := h.length) (bytes := 48) (by simp; omega) mb.2 mc.2 (by simp only [List.length_take, List.length_drop]; omega)
              have md := fun cf base => (t1.fw fa).o_lo (cf := cf) (base := base) (k := .i64) (l := j + 1) (by omega)
              have na := fun cf base => (t2.fw fb).o_hi (cf := cf) (base := base) (k := .i64) (r := j) (by omega)
              have nb := (t2.fw fb).cutP (l := 0) (r := j) (by omega) (by omega)
              have nc := (t2.fw fb).cutP (l := j + 1) (r := (heldV O).length) (by omega) (by omega)
              rw [List.drop_zero, Nat.sub_zero] at nb
              rw [List.take_of_length_le (by simp)] at nc
              obtain ⟨y1, G3, y2, G4, qh, b1, b2, xh, hh, fc, fd⟩ := two_app (bytes := 1) nb.2 nc.2 (fun z hz => held_gr O z (List.mem_of_mem_take hz)) (fun z hz => held_gr O z (List.mem_of_mem_drop hz)) (by simp; omega)
              have nd := fun cf base => ((t2.fw fb).fw fc).o_lo (cf := cf) (base := base) (k := .i64) (l := j + 1) (by omega)
              have md0 := fun cf base => t1.o_lo (cf := cf) (base := base) (k := .i64) (l := j + 1) (by omega)
              have na0 := fun cf base => t2.o_hi (cf := cf) (base := base) (k := .i64) (r := j) (by omega)
              have na1 := fun cf base => (t2.fw fa).o_hi (cf := cf) (base := base) (k := .i64) (r := j) (by omega)
              have nd0 := fun cf base => t2.o_lo (cf := cf) (base := base) (k := .i64) (l := j + 1) (by omega)
              have nd1 := fun cf base => (t2.fw fa).o_lo (cf := cf) (base := base) (k := .i64) (l := j + 1) (by omega)
              have nd2 := fun cf base => (t2.fw fb).o_lo (cf := cf) (base := base) (k := .i64) (l := j + 1) (by omega)
              have lr' := ((lr.fw fZ).er hj).fw fb
              rw [← held_er] at xh
              simp only [k4, k5, q2, hmi, hmv, hhi, hhv, hlt, hgr, hl2, hwj, ma, a1, a2, md, md0, na, na0, na1, b1, b2, nd, nd0, nd1, nd2, or_true, e5, Letter.enc_ty, Letter.enc_solid, go_sem, V.s.injEq, Value.bool.injEq, simprocAttr, List.append_assoc, List.length_append, Vm.get_app, Vm.set_app, Vm.get_appL, Vm.get_appL0, Vm.set_appL, Vm.set_appL0, Nat.le_refl, Nat.le_add_right, okAt]
              refine hK _ _ ?_
              simp only [plMB, e0', e1', e8, e5, go_sem, V.s.injEq, Value.bool.injEq, simprocAttr, List.append_assoc, List.length_append, Vm.get_app, Vm.set_app, Vm.get_appL, Vm.get_appL0, Vm.set_appL, Vm.set_appL0, Nat.le_refl, Nat.le_add_right, okAt]
              exact ⟨id, k, _, rfl, PlB.new (by simp; omega) (o2.mono fZ (by simp) (by simp)) p.ii p.kk (by have := List.length_eraseIdx_le O j; omega) (fun y hy => p.byt y (List.mem_of_mem_eraseIdx hy)) fb fd xm lr' hm xh hh, (((fwT.new f2 (by have := p.ii; have := p.kk; simp; omega)).trans fZ).trans fb).trans fd⟩
          by_cases k6 : y.kind = 6
          · obtain ⟨v2, H2, q2, rfl, k', hk', o2, f2⟩ := Double_ok h.length (H ++ [T]) id k O (j : Nat) pT.ii pT.kk pT.o
            obtain ⟨ms, s1, lr, s2⟩ := pT.keep f2
            have l2 := f2.len
            have hl2 : h.length ≤ H2.length := by simp at l2; omega
            have hk2 : h.length ≤ k' := by have := p.kk; simp at hk'; omega
            have j0 : (0 : Int) ≤ (j : Nat) := by omega
            have j1 : (j : Int) < (O.length : Nat) := by omega
            have hby : y0.1.bytes.length ≤ 8192 := by have := p.byt y0 (List.mem_of_getElem? hy0); omega
            simp only [j0, j1, decide_true, Bool.true_and, Int.toNat_natCast, hgd, puts, hby, Bool.and_true] at q2 o2
            by_cases c64 : O.length < 64
            · have c64' : (O.length : Int) < 64 := by omega
              simp only [c64, decide_true, if_true] at q2 o2
              obtain ⟨bz, hmz, hbz⟩ := lr.2 j y0 hy0
              have hLt : (LV y0.1 bz).ty = some 25 := rfl
              have hLs : (LV y0.1 bz).solid = true := rfl
              have hmi := fun cf base => s1.o_ias (cf := cf) (base := base) (k := .i64) (i := j) (by rw [lr.1]; exact hj)
              have hmv := fun cf base => s1.o_ld (cf := cf) (base := base) (i := j) (v := LV y0.1 bz) hmz rfl
              have nl : ms.length = O.length := lr.1
              have nh : (heldV O).length = O.length := by simp [heldV]
              have gb : ∀ z ∈ [V.s (.bool false)], V.ground z = true := by intro z hz; simp at hz; subst hz; rfl
              obtain ⟨x1, G1, x2, G2, qm, a1, a2, xm, hm, fa, fb⟩ := two_appB (n := h.length) (bytes := 48) hl2 s1 (b := [LV y0.1 bz]) (y2 := .imm true (some 25) [LV y0.1 bz]) (.inl ⟨_, rfl⟩) (by simp; omega)
              have hmi1 := fun cf base => (s1.fw fa).o_ias (cf := cf) (base := base) (k := .i64) (i := j) (by rw [lr.1]; exact hj)
              have hmv1 := fun cf base => (s1.fw fa).o_ld (cf := cf) (base := base) (i := j) (v := LV y0.1 bz) hmz rfl
              obtain ⟨y1, G3, y2, G4, qh, b1, b2, xh, hh, fc, fd⟩ := two_app (bytes := 1) (s2.fw fb) (b := [V.s (.bool false)]) (y2 := .imm true none [V.s (.bool false)]) (.inl ⟨_, rfl⟩) (held_gr O) gb (by simp; omega)
              have lr' := (lr.fw fb).snoc y0.1 false bz (hbz.mono fb)
              have eh : heldV O ++ [V.s (.bool false)] = heldV (O ++ [(y0.1, false)]) := by simp [heldV]
              rw [eh] at xh
              simp only [k4, k5, k6, c64', hml, q2, hmi, hmv, hmi1, hmv1, a1, a2, b1, b2, or_true, e5, hLt, hLs, Letter.enc_ty, Letter.enc_solid, go_sem, V.s.injEq, Value.bool.injEq, simprocAttr, List.append_assoc, List.length_append, Vm.get_app, Vm.set_app, Vm.get_appL, Vm.get_appL0, Vm.set_appL, Vm.set_appL0, Nat.le_refl, Nat.le_add_right, okAt]
              refine hK _ _ ?_
              simp only [plMB, e0', e1', e8, e5, go_sem, V.s.injEq, Value.bool.injEq, simprocAttr, List.append_assoc, List.length_append, Vm.get_app, Vm.set_app, Vm.get_appL, Vm.get_appL0, Vm.set_appL, Vm.set_appL0, Nat.le_refl, Nat.le_add_right, okAt]
              exact ⟨id, k', _, rfl, PlB.new hl2 o2 p.ii hk2 (by simp; omega) (by intro z hz; rcases List.mem_append.1 hz with hz | hz; exact p.byt z hz; simp at hz; subst hz; exact p.byt y0 (List.mem_of_getElem? hy0)) fb fd xm lr' hm xh hh, ((fwT.new f2 (by have := p.ii; have := p.kk; simp; omega)).trans fb).trans fd⟩
            · have c64' : ¬ (O.length : Int) < 64 := by omega
              simp only [c64, decide_false, Bool.false_eq_true, if_false] at q2 o2
              simp only [k4, k5, k6, c64', hml, q2, e5, go_sem, V.s.injEq, Value.bool.injEq, simprocAttr, List.append_assoc, List.length_append, Vm.get_app, Vm.set_app, Vm.get_appL, Vm.get_appL0, Vm.set_appL, Vm.set_appL0, Nat.le_refl, Nat.le_add_right, okAt]
              refine hK _ _ ?_
              simp only [plMB, e0', e1', e8, e5, go_sem, V.s.injEq, Value.bool.injEq, simprocAttr, List.append_assoc, List.length_append, Vm.get_app, Vm.set_app, Vm.get_appL, Vm.get_appL0, Vm.set_appL, Vm.set_appL0, Nat.le_refl, Nat.le_add_right, okAt]
              exact ⟨id, k', O, rfl, pT.turn f2 hk' o2 pl p.byt (fun _ => rfl) rfl rfl, fwT.new f2 (by have := p.ii; have := p.kk; simp; omega)⟩
          by_cases k7 : y.kind = 7
          · obtain ⟨v2, H2, q2, rfl, o2, f2⟩ := Hold_ok h.length (H ++ [T]) id k O (j : Nat) pT.kk pT.o
            obtain ⟨ms, s1, lr, s2⟩ := pT.keep f2
            have l2 := f2.len
            have hl2 : h.length ≤ H2.length := by simp at l2; omega
            have j0 : (0 : Int) ≤ (j : Nat) := by omega
            have j1 : (j : Int) < (O.length : Nat) := by omega
            have hhi := fun cf base => pT.sh.o_ias (cf := cf) (base := base) (k := .i64) (i := j) (by simpa [heldV] using hj)
            have hhv := fun cf base => pT.sh.o_ld (cf := cf) (base := base) (i := j) (v := .s (.bool y0.2)) (by simp [heldV, hy0]) rfl
            simp only [j0, j1, decide_true, Bool.true_and, true_and, Int.toNat_natCast, hgd, hha] at q2 o2
            cases hb : y0.2 with
            | true =>
              simp only [hb, Bool.not_true, Bool.not_false, Bool.true_eq_false, Bool.false_eq_true, if_false] at q2 o2 hhv
              simp only [k4, k5, k6, k7, q2, hhi, hhv, e5, go_sem, V.s.injEq, Value.bool.injEq, simprocAttr, List.append_assoc, List.length_append, Vm.get_app, Vm.set_app, Vm.get_appL, Vm.get_appL0, Vm.set_appL, Vm.set_appL0, Nat.le_refl, Nat.le_add_right, okAt]
              refine hK _ _ ?_
              simp only [plMB, e0', e1', e8, e5, go_sem, V.s.injEq, Value.bool.injEq, simprocAttr, List.append_assoc, List.length_append, Vm.get_app, Vm.set_app, Vm.get_appL, Vm.get_appL0, Vm.set_appL, Vm.set_appL0, Nat.le_refl, Nat.le_add_right, okAt]
              exact ⟨id, k, O, rfl, pT.turn f2 (.inl rfl) o2 pl p.byt (fun _ => rfl) rfl rfl, fwT.new f2 (by have := p.ii; have := p.kk; simp; omega)⟩
            | false =>
              simp only [hb, Bool.not_true, Bool.not_false, if_true] at q2 o2 hhv
              obtain ⟨qh, hvq, gq, nq, pf⟩ := pT.flip f2 hy0 o2
              have nh : (heldV O).length = O.length := by simp [heldV]
              have hjh : j < (heldV O).length := by simpa [heldV] using hj
              have hv0 : (heldV O)[j]? = some (V.s (.bool false)) := by simp [heldV, hy0, hb]
              have hhi2 : ∀ cf base, opV cf base H2 (.ias none) [.ref qh [] none 0 O.length O.length, .s (.int .i64 (j : Nat))] = some (.ptr qh [j] O.length, H2) := fun cf base => by simp only [go_sem, simprocAttr, gq, nh, j0, j1, hjh, hj]
              rw [hvq] at hhi hhv
              simp only [k4, k5, k6, k7, q2, hhi, hhv, hhi2, e5, hvq, gq, nh, nq, hv0, j0, j1, decide_true, Bool.true_or, go_sem, V.s.injEq, Value.bool.injEq, simprocAttr, List.append_assoc, List.length_append, Vm.get_app, Vm.set_app, Vm.get_appL, Vm.get_appL0, Vm.set_appL, Vm.set_appL0, Nat.le_refl, Nat.le_add_right, okAt]
              refine hK _ _ ?_
              simp only [plMB, e0', e1', e8, e5, go_sem, V.s.injEq, Value.bool.injEq, simprocAttr, List.append_assoc, List.length_append, Vm.get_app, Vm.set_app, Vm.get_appL, Vm.get_appL0, Vm.set_appL, Vm.set_appL0, Nat.le_refl, Nat.le_add_right, okAt]
              rw [hvq] at pf ⊢
              exact ⟨id, k, _, rfl, pf, (fwT.new f2 (by have := p.ii; have := p.kk; simp; omega)).set_new nq _⟩
          by_cases k8 : y.kind = 8
          · obtain ⟨v2, H2, q2, rfl, o2, f2⟩ := Free_ok h.length (H ++ [T]) id k O (j : Nat) pT.kk pT.o
            obtain ⟨ms, s1, lr, s2⟩ := pT.keep f2
            have l2 := f2.len
            have hl2 : h.length ≤ H2.length := by simp at l2; omega
            have j0 : (0 : Int) ≤ (j : Nat) := by omega
            have j1 : (j : Int) < (O.length : Nat) := by omega
            have hhi := fun cf base => pT.sh.o_ias (cf := cf) (base := base) (k := .i64) (i := j) (by simpa [heldV] using hj)
            have hhv := fun cf base => pT.sh.o_ld (cf := cf) (base := base) (i := j) (v := .s (.bool y0.2)) (by simp [heldV, hy0]) rfl
            simp only [j0, j1, decide_true, Bool.true_and, true_and, Int.toNat_natCast, hgd, hha] at q2 o2
            cases hb : y0.2 with
            | false =>
              simp only [hb, Bool.not_true, Bool.not_false, Bool.true_eq_false, Bool.false_eq_true, if_false] at q2 o2 hhv
              simp only [k4, k5, k6, k7, k8, q2, hhi, hhv, e5, go_sem, V.s.injEq, Value.bool.injEq, simprocAttr, List.append_assoc, List.length_append, Vm.get_app, Vm.set_app, Vm.get_appL, Vm.get_appL0, Vm.set_appL, Vm.set_appL0, Nat.le_refl, Nat.le_add_right, okAt]
              refine hK _ _ ?_
              simp only [plMB, e0', e1', e8, e5, go_sem, V.s.injEq, Value.bool.injEq, simprocAttr, List.append_assoc, List.length_append, Vm.get_app, Vm.set_app, Vm.get_appL, Vm.get_appL0, Vm.set_appL, Vm.set_appL0, Nat.le_refl, Nat.le_add_right, okAt]
              exact ⟨id, k, O, rfl, pT.turn f2 (.inl rfl) o2 pl p.byt (fun _ => rfl) rfl rfl, fwT.new f2 (by have := p.ii; have := p.kk; simp; omega)⟩
            | true =>
              simp only [hb, Bool.not_true, Bool.not_false, if_true] at q2 o2 hhv
              obtain ⟨qh, hvq, gq, nq, pf⟩ := pT.flip f2 hy0 o2
              have nh : (heldV O).length = O.length := by simp [heldV]
              have hjh : j < (heldV O).length := by simpa [heldV] using hj
              have hv0 : (heldV O)[j]? = some (V.s (.bool true)) := by simp [heldV, hy0, hb]
              have hhi2 : ∀ cf base, opV cf base H2 (.ias none) [.ref qh [] none 0 O.length O.length, .s (.int .i64 (j : Nat))] = some (.ptr qh [j] O.length, H2) := fun cf base => by simp only [go_sem, simprocAttr, gq, nh, j0, j1, hjh, hj]
              rw [hvq] at hhi hhv
              simp only [k4, k5, k6, k7, k8, q2, hhi, hhv, hhi2, e5, hvq, gq, nh, nq, hv0, j0, j1, decide_true, Bool.true_or, go_sem, V.s.injEq, Value.bool.injEq, simprocAttr, List.append_assoc, List.length_append, Vm.get_app, Vm.set_app, Vm.get_appL, Vm.get_appL0, Vm.set_appL, Vm.set_appL0, Nat.le_refl, Nat.le_add_right, okAt]
              refine hK _ _ ?_
              simp only [plMB, e0', e1', e8, e5, go_sem, V.s.injEq, Value.bool.injEq, simprocAttr, List.append_assoc, List.length_append, Vm.get_app, Vm.set_app, Vm.get_appL, Vm.get_appL0, Vm.set_appL, Vm.set_appL0, Nat.le_refl, Nat.le_add_right, okAt]
              rw [hvq] at pf ⊢
              exact ⟨id, k, _, rfl, pf, (fwT.new f2 (by have := p.ii; have := p.kk; simp; omega)).set_new nq _⟩
          subst hT
          generalize y.l = yl at *; obtain ⟨lk, lf, lt, lb⟩ := yl
          have fU0 : Fw [] H (H ++ [Blk.cells (some 27) [V.st 27 [.s (.int .i64 y.kind), .s (.int .i64 y.i), LV (⟨lk, lf, lt, lb⟩ : Letter) bv]], Blk.cells (some 25) [LV (⟨lk, lf, lt, lb⟩ : Letter) bv]]) := Fw.app _ _ _
          obtain ⟨w, hcut, hw⟩ := CutB_ok h.length _ bv lb (hbv.mono fU0)
          have hbt := hbv.ty
          have hbs := hbv.solid
          have hwt1 := hw.ty
          have hws := hw.solid
          have fU : Fw [id, k] (H ++ [Blk.cells (some 27) [V.st 27 [.s (.int .i64 y.kind), .s (.int .i64 y.i), LV (⟨lk, lf, lt, lb⟩ : Letter) bv]]]) _ := Fw.app _ _ [Blk.cells (some 25) [LV (⟨lk, lf, lt, lb.take 30⟩ : Letter) w]]
          have pU := pT.turn fU (.inl rfl) (pT.o.mono (Fw.app [] _ _) (by simp) (by simp)) pl p.byt (fun _ => rfl) rfl rfl
          have hwU : BR (H ++ [Blk.cells (some 27) [V.st 27 [.s (.int .i64 y.kind), .s (.int .i64 y.i), LV (⟨lk, lf, lt, lb⟩ : Letter) bv]]] ++ [Blk.cells (some 25) [LV (⟨lk, lf, lt, lb.take 30⟩ : Letter) w]]) w (lb.take 30) := brL hw
          obtain ⟨v2, H2, q2, rfl, k', hk', o2, f2⟩ := PPutB_ok h.length _ id k O ⟨lk, lf, lt, lb.take 30⟩ w hwU pU.ii pU.kk pU.o (by simp [Letter.ok]; omega)
          have l2 := f2.len
          simp only [List.length_append, List.length_cons, List.length_nil] at l2 hk'
          have hk2 : h.length ≤ k' := by have := p.kk; omega
          have hl2 : h.length ≤ H2.length := by omega
          have hby : (lb.take 30).length ≤ 8192 := by simp; omega
          simp only [puts, hby, decide_true, Bool.and_true] at q2 o2
          obtain ⟨ms, s1, lr, s2⟩ := pU.keep f2
          have g0 : H2[H.length + 1]? = some (Blk.cells (some 25) [LV (⟨lk, lf, lt, lb.take 30⟩ : Letter) w]) := f2.old _ _ (by simp) (by have := p.o.lt; have := p.o.ltk; simp; omega)
          have hlW : h.length ≤ H.length + 1 := by omega
          by_cases c64 : O.length < 64
          · have c64' : (O.length : Int) < 64 := by omega
            simp only [c64, decide_true, if_true] at q2 o2
            have gb : ∀ z ∈ [V.s (.bool false)], V.ground z = true := by intro z hz; simp at hz; subst hz; rfl
            obtain ⟨x1, G1, x2, G2, qm, a1, a2, xm, hm, fa, fb⟩ := two_appB (n := h.length) (bytes := 48) hl2 s1 (b := [LV (⟨lk, lf, lt, lb.take 30⟩ : Letter) w]) (y2 := .imm true (some 25) [LV (⟨lk, lf, lt, lb.take 30⟩ : Letter) w]) (.inl ⟨_, rfl⟩) (by have := lr.1; simp; omega)
            have g1 := fa.old _ _ g0 (by simp)
            obtain ⟨y1, G3, y2, G4, qh, b1, b2, xh, hh, fc, fd⟩ := two_app (bytes := 1) (s2.fw fb) (b := [V.s (.bool false)]) (y2 := .imm true none [V.s (.bool false)]) (.inl ⟨_, rfl⟩) (held_gr O) gb (by simp [heldV]; omega)
            have lr' := (lr.fw fb).snoc ⟨lk, lf, lt, lb.take 30⟩ false w ((hwU.mono f2).mono fb)
            have eh : heldV O ++ [V.s (.bool false)] = heldV (O ++ [(⟨lk, lf, lt, lb.take 30⟩, false)]) := by simp [heldV]
            rw [eh] at xh
            simp only [LV] at q2 a1 a2 g0 g1 hcut
            simp only [List.append_assoc, List.cons_append, List.nil_append] at q2
            simp only [k4, k5, k6, k7, k8, LV, hcut, c64', hml, hle, lT, hlW, q2, g0, g1, a1, a2, b1, b2, hbt, hbs, hwt1, hws, or_true, decide_true, Bool.true_or, e5, go_sem, V.s.injEq, Value.bool.injEq, simprocAttr, List.append_assoc, List.length_append, Vm.get_app, Vm.set_app, Vm.get_appL, Vm.get_appL0, Vm.set_appL, Vm.set_appL0, Nat.le_refl, Nat.le_add_right, okAt]
            refine hK _ _ ?_
            simp only [plMB, e0', e1', e8, e5, go_sem, V.s.injEq, Value.bool.injEq, simprocAttr, List.append_assoc, List.length_append, Vm.get_app, Vm.set_app, Vm.get_appL, Vm.get_appL0, Vm.set_appL, Vm.set_appL0, Nat.le_refl, Nat.le_add_right, okAt]
            exact ⟨id, k', _, rfl, PlB.new hl2 o2 p.ii hk2 (by simp; omega) (by intro z hz; rcases List.mem_append.1 hz with hz | hz; exact p.byt z hz; simp only [List.mem_singleton] at hz; subst hz; simp; omega) fb fd xm lr' hm xh hh, (((fw.trans (Fw.app _ _ _)).trans (Fw.app [] _ _)).new f2 (by have := p.ii; have := p.kk; simp; omega)).trans (fb.trans fd)⟩
          · have c64' : ¬ (O.length : Int) < 64 := by omega
            simp only [c64, decide_false, Bool.false_eq_true, if_false] at q2 o2
            simp only [LV] at q2 hcut
            simp only [List.append_assoc, List.cons_append, List.nil_append] at q2
            simp only [k4, k5, k6, k7, k8, LV, hcut, c64', hml, hle, lT, hlW, q2, hbt, hbs, hwt1, hws, decide_true, Bool.true_or, e5, go_sem, V.s.injEq, Value.bool.injEq, simprocAttr, List.append_assoc, List.length_append, Vm.get_app, Vm.set_app, Vm.get_appL, Vm.get_appL0, Vm.set_appL, Vm.set_appL0, Nat.le_refl, Nat.le_add_right, okAt]
            refine hK _ _ ?_
            simp only [plMB, e0', e1', e8, e5, go_sem, V.s.injEq, Value.bool.injEq, simprocAttr, List.append_assoc, List.length_append, Vm.get_app, Vm.set_app, Vm.get_appL, Vm.get_appL0, Vm.set_appL, Vm.set_appL0, Nat.le_refl, Nat.le_add_right, okAt]
            exact ⟨id, k', O, rfl, pU.turn f2 (by simp; omega) o2 pl p.byt (fun _ => rfl) rfl rfl, ((fw.trans (Fw.app _ _ _)).trans (Fw.app [] _ _)).new f2 (by have := p.ii; have := p.kk; simp; omega)⟩
        · have hcb : (decide (0 ≤ w) && decide (w < O.length)) = false := by simpa using cin
          by_cases w3 : 0 ≤ w
          · have w4 : ¬ w < O.length := fun h => cin ⟨w3, h⟩
            simp only [e0', e1', e8, e5, hlen, c', cm, hxi, hxl, hle, hye, hlv, hls, hml, hwt, w3, w4, go_sem, V.s.injEq, Value.bool.injEq, simprocAttr, List.append_assoc, List.length_append, Vm.get_app, Vm.set_app, Vm.get_appL, Vm.get_appL0, Vm.set_appL, Vm.set_appL0, Nat.le_refl, Nat.le_add_right, okAt]
            simp only [hT]
            refine wpC_cutS (plMB h h x h.length i most) (fun e H he => by
              obtain ⟨e0', e1', e8, id, k, O, e5, p, fw⟩ := he
              obtain ⟨ms, q1, q2⟩ := p.sm
              have hsm := sameB_ok h.length H id k O (e 6) (e 7) ms p.o (by have := p.len; omega) q1 q2 p.sh
              simp only [e0', e1', e8, e5, hsm, hw1, plMB, go_sem, V.s.injEq, Value.bool.injEq, simprocAttr, List.append_assoc, List.length_append, Vm.get_app, Vm.set_app, Vm.get_appL, Vm.get_appL0, Vm.set_appL, Vm.set_appL0, Nat.le_refl, Nat.le_add_right, okAt]
              exact ⟨_, by omega, i + 1, rfl, by omega, rfl, id, k, O, rfl, p, fw⟩) ?_
            intro K' hK
            by_cases k4 : y.kind = 4
            · obtain ⟨v2, H2, q2, rfl, o2, f2⟩ := Take_ok h.length (H ++ [T]) id k O w pT.ii pT.kk pT.o (by omega)
              simp only [takes_out cin, Bool.false_eq_true, if_false] at q2 o2
              have l2 := f2.len
              have hl2 : h.length ≤ H2.length := by simp at l2; omega
              have hlt := fun h0 => lett_ok h.length h0 ⟨0, 0, 0, []⟩ ⟨0, 0, 0, []⟩
              simp only [decide_true] at hlt
              simp only [Letter.enc, List.map_nil] at q2 hlt
              simp only [k4, q2, hlt, hl2, e5, go_sem, V.s.injEq, Value.bool.injEq, simprocAttr, List.append_assoc, List.length_append, Vm.get_app, Vm.set_app, Vm.get_appL, Vm.get_appL0, Vm.set_appL, Vm.set_appL0, Nat.le_refl, Nat.le_add_right, okAt]
              refine hK _ _ ?_
              simp only [plMB, e0', e1', e8, e5, go_sem, V.s.injEq, Value.bool.injEq, simprocAttr, List.append_assoc, List.length_append, Vm.get_app, Vm.set_app, Vm.get_appL, Vm.get_appL0, Vm.set_appL, Vm.set_appL0, Nat.le_refl, Nat.le_add_right, okAt]
              exact ⟨id, k, O, rfl, (pT.turn f2 (.inl rfl) o2 pl p.byt (fun _ => rfl) rfl rfl).turn (Fw.app _ _ _) (.inl rfl) (o2.mono (Fw.app [] _ _) (by simp) (by simp)) pl p.byt (fun _ => rfl) rfl rfl, (fwT.new f2 (by have := p.ii; have := p.kk; simp; omega)).trans (Fw.app _ _ _)⟩
            by_cases k5 : y.kind = 5
            · obtain ⟨v2, H2, q2, rfl, o2, f2⟩ := Take_ok h.length (H ++ [T]) id k O w pT.ii pT.kk pT.o (by omega)
              simp only [takes_out cin, Bool.false_eq_true, if_false] at q2 o2
              have l2 := f2.len
              have hl2 : h.length ≤ H2.length := by simp at l2; omega
              have hlt := fun h0 => lett_ok h.length h0 ⟨0, 0, 0, []⟩ ⟨0, 0, 0, []⟩
              simp only [decide_true] at hlt
              simp only [Letter.enc, List.map_nil] at q2 hlt
              simp only [k4, k5, q2, hlt, hl2, e5, go_sem, V.s.injEq, Value.bool.injEq, simprocAttr, List.append_assoc, List.length_append, Vm.get_app, Vm.set_app, Vm.get_appL, Vm.get_appL0, Vm.set_appL, Vm.set_appL0, Nat.le_refl, Nat.le_add_right, okAt]
              refine hK _ _ ?_
              simp only [plMB, e0', e1', e8, e5, go_sem, V.s.injEq, Value.bool.injEq, simprocAttr, List.append_assoc, List.length_append, Vm.get_app, Vm.set_app, Vm.get_appL, Vm.get_appL0, Vm.set_appL, Vm.set_appL0, Nat.le_refl, Nat.le_add_right, okAt]
              exact ⟨id, k, O, rfl, (pT.turn f2 (.inl rfl) o2 pl p.byt (fun _ => rfl) rfl rfl).turn (Fw.app _ _ _) (.inl rfl) (o2.mono (Fw.app [] _ _) (by simp) (by simp)) pl p.byt (fun _ => rfl) rfl rfl, (fwT.new f2 (by have := p.ii; have := p.kk; simp; omega)).trans (Fw.app _ _ _)⟩
            by_cases k6 : y.kind = 6
            · obtain ⟨v2, H2, q2, rfl, k', hk', o2, f2⟩ := Double_ok h.length (H ++ [T]) id k O w pT.ii pT.kk pT.o
              simp only [heldAt_out cin, hcb, ← and_assoc, cin, false_and, Bool.false_and, Bool.false_eq_true, if_false] at q2 o2
              simp only [k4, k5, k6, q2, e5, go_sem, V.s.injEq, Value.bool.injEq, simprocAttr, List.append_assoc, List.length_append, Vm.get_app, Vm.set_app, Vm.get_appL, Vm.get_appL0, Vm.set_appL, Vm.set_appL0, Nat.le_refl, Nat.le_add_right, okAt]
              refine hK _ _ ?_
              simp only [plMB, e0', e1', e8, e5, go_sem, V.s.injEq, Value.bool.injEq, simprocAttr, List.append_assoc, List.length_append, Vm.get_app, Vm.set_app, Vm.get_appL, Vm.get_appL0, Vm.set_appL, Vm.set_appL0, Nat.le_refl, Nat.le_add_right, okAt]
              exact ⟨id, k', O, rfl, pT.turn f2 hk' o2 pl p.byt (fun _ => rfl) rfl rfl, fwT.new f2 (by have := p.ii; have := p.kk; simp; omega)⟩
            by_cases k7 : y.kind = 7
            · obtain ⟨v2, H2, q2, rfl, o2, f2⟩ := Hold_ok h.length (H ++ [T]) id k O w pT.kk pT.o
              simp only [heldAt_out cin, hcb, ← and_assoc, cin, false_and, Bool.false_and, Bool.false_eq_true, if_false] at q2 o2
              simp only [k4, k5, k6, k7, q2, e5, go_sem, V.s.injEq, Value.bool.injEq, simprocAttr, List.append_assoc, List.length_append, Vm.get_app, Vm.set_app, Vm.get_appL, Vm.get_appL0, Vm.set_appL, Vm.set_appL0, Nat.le_refl, Nat.le_add_right, okAt]
              refine hK _ _ ?_
              simp only [plMB, e0', e1', e8, e5, go_sem, V.s.injEq, Value.bool.injEq, simprocAttr, List.append_assoc, List.length_append, Vm.get_app, Vm.set_app, Vm.get_appL, Vm.get_appL0, Vm.set_appL, Vm.set_appL0, Nat.le_refl, Nat.le_add_right, okAt]
              exact ⟨id, k, O, rfl, pT.turn f2 (.inl rfl) o2 pl p.byt (fun _ => rfl) rfl rfl, fwT.new f2 (by have := p.ii; have := p.kk; simp; omega)⟩
            by_cases k8 : y.kind = 8
            · obtain ⟨v2, H2, q2, rfl, o2, f2⟩ := Free_ok h.length (H ++ [T]) id k O w pT.kk pT.o
              simp only [heldAt_out cin, hcb, ← and_assoc, cin, false_and, Bool.false_and, Bool.false_eq_true, if_false] at q2 o2
              simp only [k4, k5, k6, k7, k8, q2, e5, go_sem, V.s.injEq, Value.bool.injEq, simprocAttr, List.append_assoc, List.length_append, Vm.get_app, Vm.set_app, Vm.get_appL, Vm.get_appL0, Vm.set_appL, Vm.set_appL0, Nat.le_refl, Nat.le_add_right, okAt]
              refine hK _ _ ?_
              simp only [plMB, e0', e1', e8, e5, go_sem, V.s.injEq, Value.bool.injEq, simprocAttr, List.append_assoc, List.length_append, Vm.get_app, Vm.set_app, Vm.get_appL, Vm.get_appL0, Vm.set_appL, Vm.set_appL0, Nat.le_refl, Nat.le_add_right, okAt]
              exact ⟨id, k, O, rfl, pT.turn f2 (.inl rfl) o2 pl p.byt (fun _ => rfl) rfl rfl, fwT.new f2 (by have := p.ii; have := p.kk; simp; omega)⟩
            subst hT
            generalize y.l = yl at *; obtain ⟨lk, lf, lt, lb⟩ := yl
            have fU0 : Fw [] H (H ++ [Blk.cells (some 27) [V.st 27 [.s (.int .i64 y.kind), .s (.int .i64 y.i), LV (⟨lk, lf, lt, lb⟩ : Letter) bv]], Blk.cells (some 25) [LV (⟨lk, lf, lt, lb⟩ : Letter) bv]]) := Fw.app _ _ _
            obtain ⟨w, hcut, hw⟩ := CutB_ok h.length _ bv lb (hbv.mono fU0)
            have hbt := hbv.ty
            have hbs := hbv.solid
            have hwt1 := hw.ty
            have hws := hw.solid
            have fU : Fw [id, k] (H ++ [Blk.cells (some 27) [V.st 27 [.s (.int .i64 y.kind), .s (.int .i64 y.i), LV (⟨lk, lf, lt, lb⟩ : Letter) bv]]]) _ := Fw.app _ _ [Blk.cells (some 25) [LV (⟨lk, lf, lt, lb.take 30⟩ : Letter) w]]
            have pU := pT.turn fU (.inl rfl) (pT.o.mono (Fw.app [] _ _) (by simp) (by simp)) pl p.byt (fun _ => rfl) rfl rfl
            have hwU : BR (H ++ [Blk.cells (some 27) [V.st 27 [.s (.int .i64 y.kind), .s (.int .i64 y.i), LV (⟨lk, lf, lt, lb⟩ : Letter) bv]]] ++ [Blk.cells (some 25) [LV (⟨lk, lf, lt, lb.take 30⟩ : Letter) w]]) w (lb.take 30) := brL hw
            obtain ⟨v2, H2, q2, rfl, k', hk', o2, f2⟩ := PPutB_ok h.length _ id k O ⟨lk, lf, lt, lb.take 30⟩ w hwU pU.ii pU.kk pU.o (by simp [Letter.ok]; omega)
            have l2 := f2.len
            simp only [List.length_append, List.length_cons, List.length_nil] at l2 hk'
            have hk2 : h.length ≤ k' := by have := p.kk; omega
            have hl2 : h.length ≤ H2.length := by omega
            have hby : (lb.take 30).length ≤ 8192 := by simp; omega
            simp only [puts, hby, decide_true, Bool.and_true] at q2 o2
            obtain ⟨ms, s1, lr, s2⟩ := pU.keep f2
            have g0 : H2[H.length + 1]? = some (Blk.cells (some 25) [LV (⟨lk, lf, lt, lb.take 30⟩ : Letter) w]) := f2.old _ _ (by simp) (by have := p.o.lt; have := p.o.ltk; simp; omega)
            have hlW : h.length ≤ H.length + 1 := by omega
            by_cases c64 : O.length < 64
            · have c64' : (O.length : Int) < 64 := by omega
              simp only [c64, decide_true, if_true] at q2 o2
              have gb : ∀ z ∈ [V.s (.bool false)], V.ground z = true := by intro z hz; simp at hz; subst hz; rfl
              obtain ⟨x1, G1, x2, G2, qm, a1, a2, xm, hm, fa, fb⟩ := two_appB (n := h.length) (bytes := 48) hl2 s1 (b := [LV (⟨lk, lf, lt, lb.take 30⟩ : Letter) w]) (y2 := .imm true (some 25) [LV (⟨lk, lf, lt, lb.take 30⟩ : Letter) w]) (.inl ⟨_, rfl⟩) (by have := lr.1; simp; omega)
              have g1 := fa.old _ _ g0 (by simp)
              obtain ⟨y1, G3, y2, G4, qh, b1, b2, xh, hh, fc, fd⟩ := two_app (bytes := 1) (s2.fw fb) (b := [V.s (.bool false)]) (y2 := .imm true none [V.s (.bool false)]) (.inl ⟨_, rfl⟩) (held_gr O) gb (by simp [heldV]; omega)
              have lr' := (lr.fw fb).snoc ⟨lk, lf, lt, lb.take 30⟩ false w ((hwU.mono f2).mono fb)
              have eh : heldV O ++ [V.s (.bool false)] = heldV (O ++ [(⟨lk, lf, lt, lb.take 30⟩, false)]) := by simp [heldV]
              rw [eh] at xh
              simp only [LV] at q2 a1 a2 g0 g1 hcut
              simp only [List.append_assoc, List.cons_append, List.nil_append] at q2
              simp only [k4, k5, k6, k7, k8, LV, hcut, c64', hml, hle, lT, hlW, q2, g0, g1, a1, a2, b1, b2, hbt, hbs, hwt1, hws, or_true, decide_true, Bool.true_or, e5, go_sem, V.s.injEq, Value.bool.injEq, simprocAttr, List.append_assoc, List.length_append, Vm.get_app, Vm.set_app, Vm.get_appL, Vm.get_appL0, Vm.set_appL, Vm.set_appL0, Nat.le_refl, Nat.le_add_right, okAt]
              refine hK _ _ ?_
              simp only [plMB, e0', e1', e8, e5, go_sem, V.s.injEq, Value.bool.injEq, simprocAttr, List.append_assoc, List.length_append, Vm.get_app, Vm.set_app, Vm.get_appL, Vm.get_appL0, Vm.set_appL, Vm.set_appL0, Nat.le_refl, Nat.le_add_right, okAt]
              exact ⟨id, k', _, rfl, PlB.new hl2 o2 p.ii hk2 (by simp; omega) (by intro z hz; rcases List.mem_append.1 hz with hz | hz; exact p.byt z hz; simp only [List.mem_singleton] at hz; subst hz; simp; omega) fb fd xm lr' hm xh hh, (((fw.trans (Fw.app _ _ _)).trans (Fw.app [] _ _)).new f2 (by have := p.ii; have := p.kk; simp; omega)).trans (fb.trans fd)⟩
            · have c64' : ¬ (O.length : Int) < 64 := by omega
              simp only [c64, decide_false, Bool.false_eq_true, if_false] at q2 o2
              simp only [LV] at q2 hcut
              simp only [List.append_assoc, List.cons_append, List.nil_append] at q2
              simp only [k4, k5, k6, k7, k8, LV, hcut, c64', hml, hle, lT, hlW, q2, hbt, hbs, hwt1, hws, decide_true, Bool.true_or, e5, go_sem, V.s.injEq, Value.bool.injEq, simprocAttr, List.append_assoc, List.length_append, Vm.get_app, Vm.set_app, Vm.get_appL, Vm.get_appL0, Vm.set_appL, Vm.set_appL0, Nat.le_refl, Nat.le_add_right, okAt]
              refine hK _ _ ?_
              simp only [plMB, e0', e1', e8, e5, go_sem, V.s.injEq, Value.bool.injEq, simprocAttr, List.append_assoc, List.length_append, Vm.get_app, Vm.set_app, Vm.get_appL, Vm.get_appL0, Vm.set_appL, Vm.set_appL0, Nat.le_refl, Nat.le_add_right, okAt]
              exact ⟨id, k', O, rfl, pU.turn f2 (by simp; omega) o2 pl p.byt (fun _ => rfl) rfl rfl, ((fw.trans (Fw.app _ _ _)).trans (Fw.app [] _ _)).new f2 (by have := p.ii; have := p.kk; simp; omega)⟩
          · simp only [e0', e1', e8, e5, hlen, c', cm, hxi, hxl, hle, hye, hlv, hls, hml, hwt, w3, go_sem, V.s.injEq, Value.bool.injEq, simprocAttr, List.append_assoc, List.length_append, Vm.get_app, Vm.set_app, Vm.get_appL, Vm.get_appL0, Vm.set_appL, Vm.set_appL0, Nat.le_refl, Nat.le_add_right, okAt]
            simp only [hT]
            refine wpC_cutS (plMB h h x h.length i most) (fun e H he => by
              obtain ⟨e0', e1', e8, id, k, O, e5, p, fw⟩ := he
              obtain ⟨ms, q1, q2⟩ := p.sm
              have hsm := sameB_ok h.length H id k O (e 6) (e 7) ms p.o (by have := p.len; omega) q1 q2 p.sh
              simp only [e0', e1', e8, e5, hsm, hw1, plMB, go_sem, V.s.injEq, Value.bool.injEq, simprocAttr, List.append_assoc, List.length_append, Vm.get_app, Vm.set_app, Vm.get_appL, Vm.get_appL0, Vm.set_appL, Vm.set_appL0, Nat.le_refl, Nat.le_add_right, okAt]
              exact ⟨_, by omega, i + 1, rfl, by omega, rfl, id, k, O, rfl, p, fw⟩) ?_
            intro K' hK
            by_cases k4 : y.kind = 4
            · obtain ⟨v2, H2, q2, rfl, o2, f2⟩ := Take_ok h.length (H ++ [T]) id k O w pT.ii pT.kk pT.o (by omega)
              simp only [takes_out cin, Bool.false_eq_true, if_false] at q2 o2
              have l2 := f2.len
              have hl2 : h.length ≤ H2.length := by simp at l2; omega
              have hlt := fun h0 => lett_ok h.length h0 ⟨0, 0, 0, []⟩ ⟨0, 0, 0, []⟩
              simp only [decide_true] at hlt
              simp only [Letter.enc, List.map_nil] at q2 hlt
              simp only [k4, q2, hlt, hl2, e5, go_sem, V.s.injEq, Value.bool.injEq, simprocAttr, List.append_assoc, List.length_append, Vm.get_app, Vm.set_app, Vm.get_appL, Vm.get_appL0, Vm.set_appL, Vm.set_appL0, Nat.le_refl, Nat.le_add_right, okAt]
              refine hK _ _ ?_
              simp only [plMB, e0', e1', e8, e5, go_sem, V.s.injEq, Value.bool.injEq, simprocAttr, List.append_assoc, List.length_append, Vm.get_app, Vm.set_app, Vm.get_appL, Vm.get_appL0, Vm.set_appL, Vm.set_appL0, Nat.le_refl, Nat.le_add_right, okAt]
              exact ⟨id, k, O, rfl, (pT.turn f2 (.inl rfl) o2 pl p.byt (fun _ => rfl) rfl rfl).turn (Fw.app _ _ _) (.inl rfl) (o2.mono (Fw.app [] _ _) (by simp) (by simp)) pl p.byt (fun _ => rfl) rfl rfl, (fwT.new f2 (by have := p.ii; have := p.kk; simp; omega)).trans (Fw.app _ _ _)⟩
            by_cases k5 : y.kind = 5
            · obtain ⟨v2, H2, q2, rfl, o2, f2⟩ := Take_ok h.length (H ++ [T]) id k O w pT.ii pT.kk pT.o (by omega)
              simp only [takes_out cin, Bool.false_eq_true, if_false] at q2 o2
              have l2 := f2.len
              have hl2 : h.length ≤ H2.length := by simp at l2; omega
              have hlt := fun h0 => lett_ok h.length h0 ⟨0, 0, 0, []⟩ ⟨0, 0, 0, []⟩
              simp only [decide_true] at hlt
              simp only [Letter.enc, List.map_nil] at q2 hlt
              simp only [k4, k5, q2, hlt, hl2, e5, go_sem, V.s.injEq, Value.bool.injEq, simprocAttr, List.append_assoc, List.length_append, Vm.get_app, Vm.set_app, Vm.get_appL, Vm.get_appL0, Vm.set_appL, Vm.set_appL0, Nat.le_refl, Nat.le_add_right, okAt]
              refine hK _ _ ?_
              simp only [plMB, e0', e1', e8, e5, go_sem, V.s.injEq, Value.bool.injEq, simprocAttr, List.append_assoc, List.length_append, Vm.get_app, Vm.set_app, Vm.get_appL, Vm.get_appL0, Vm.set_appL, Vm.set_appL0, Nat.le_refl, Nat.le_add_right, okAt]
              exact ⟨id, k, O, rfl, (pT.turn f2 (.inl rfl) o2 pl p.byt (fun _ => rfl) rfl rfl).turn (Fw.app _ _ _) (.inl rfl) (o2.mono (Fw.app [] _ _) (by simp) (by simp)) pl p.byt (fun _ => rfl) rfl rfl, (fwT.new f2 (by have := p.ii; have := p.kk; simp; omega)).trans (Fw.app _ _ _)⟩
            by_cases k6 : y.kind = 6
            · obtain ⟨v2, H2, q2, rfl, k', hk', o2, f2⟩ := Double_ok h.length (H ++ [T]) id k O w pT.ii pT.kk pT.o
              simp only [heldAt_out cin, hcb, ← and_assoc, cin, false_and, Bool.false_and, Bool.false_eq_true, if_false] at q2 o2
              simp only [k4, k5, k6, q2, e5, go_sem, V.s.injEq, Value.bool.injEq, simprocAttr, List.append_assoc, List.length_append, Vm.get_app, Vm.set_app, Vm.get_appL, Vm.get_appL0, Vm.set_appL, Vm.set_appL0, Nat.le_refl, Nat.le_add_right, okAt]
              refine hK _ _ ?_
              simp only [plMB, e0', e1', e8, e5, go_sem, V.s.injEq, Value.bool.injEq, simprocAttr, List.append_assoc, List.length_append, Vm.get_app, Vm.set_app, Vm.get_appL, Vm.get_appL0, Vm.set_appL, Vm.set_appL0, Nat.le_refl, Nat.le_add_right, okAt]
              exact ⟨id, k', O, rfl, pT.turn f2 hk' o2 pl p.byt (fun _ => rfl) rfl rfl, fwT.new f2 (by have := p.ii; have := p.kk; simp; omega)⟩
            by_cases k7 : y.kind = 7
            · obtain ⟨v2, H2, q2, rfl, o2, f2⟩ := Hold_ok h.length (H ++ [T]) id k O w pT.kk pT.o
              simp only [heldAt_out cin, hcb, ← and_assoc, cin, false_and, Bool.false_and, Bool.false_eq_true, if_false] at q2 o2
              simp only [k4, k5, k6, k7, q2, e5, go_sem, V.s.injEq, Value.bool.injEq, simprocAttr, List.append_assoc, List.length_append, Vm.get_app, Vm.set_app, Vm.get_appL, Vm.get_appL0, Vm.set_appL, Vm.set_appL0, Nat.le_refl, Nat.le_add_right, okAt]
              refine hK _ _ ?_
              simp only [plMB, e0', e1', e8, e5, go_sem, V.s.injEq, Value.bool.injEq, simprocAttr, List.append_assoc, List.length_append, Vm.get_app, Vm.set_app, Vm.get_appL, Vm.get_appL0, Vm.set_appL, Vm.set_appL0, Nat.le_refl, Nat.le_add_right, okAt]
              exact ⟨id, k, O, rfl, pT.turn f2 (.inl rfl) o2 pl p.byt (fun _ => rfl) rfl rfl, fwT.new f2 (by have := p.ii; have := p.kk; simp; omega)⟩
            by_cases k8 : y.kind = 8
            · obtain ⟨v2, H2, q2, rfl, o2, f2⟩ := Free_ok h.length (H ++ [T]) id k O w pT.kk pT.o
              simp only [heldAt_out cin, hcb, ← and_assoc, cin, false_and, Bool.false_and, Bool.false_eq_true, if_false] at q2 o2
              simp only [k4, k5, k6, k7, k8, q2, e5, go_sem, V.s.injEq, Value.bool.injEq, simprocAttr, List.append_assoc, List.length_append, Vm.get_app, Vm.set_app, Vm.get_appL, Vm.get_appL0, Vm.set_appL, Vm.set_appL0, Nat.le_refl, Nat.le_add_right, okAt]
              refine hK _ _ ?_
              simp only [plMB, e0', e1', e8, e5, go_sem, V.s.injEq, Value.bool.injEq, simprocAttr, List.append_assoc, List.length_append, Vm.get_app, Vm.set_app, Vm.get_appL, Vm.get_appL0, Vm.set_appL, Vm.set_appL0, Nat.le_refl, Nat.le_add_right, okAt]
              exact ⟨id, k, O, rfl, pT.turn f2 (.inl rfl) o2 pl p.byt (fun _ => rfl) rfl rfl, fwT.new f2 (by have := p.ii; have := p.kk; simp; omega)⟩
            subst hT
            generalize y.l = yl at *; obtain ⟨lk, lf, lt, lb⟩ := yl
            have fU0 : Fw [] H (H ++ [Blk.cells (some 27) [V.st 27 [.s (.int .i64 y.kind), .s (.int .i64 y.i), LV (⟨lk, lf, lt, lb⟩ : Letter) bv]], Blk.cells (some 25) [LV (⟨lk, lf, lt, lb⟩ : Letter) bv]]) := Fw.app _ _ _
            obtain ⟨w, hcut, hw⟩ := CutB_ok h.length _ bv lb (hbv.mono fU0)
            have hbt := hbv.ty
            have hbs := hbv.solid
            have hwt1 := hw.ty
            have hws := hw.solid
            have fU : Fw [id, k] (H ++ [Blk.cells (some 27) [V.st 27 [.s (.int .i64 y.kind), .s (.int .i64 y.i), LV (⟨lk, lf, lt, lb⟩ : Letter) bv]]]) _ := Fw.app _ _ [Blk.cells (some 25) [LV (⟨lk, lf, lt, lb.take 30⟩ : Letter) w]]
            have pU := pT.turn fU (.inl rfl) (pT.o.mono (Fw.app [] _ _) (by simp) (by simp)) pl p.byt (fun _ => rfl) rfl rfl
            have hwU : BR (H ++ [Blk.cells (some 27) [V.st 27 [.s (.int .i64 y.kind), .s (.int .i64 y.i), LV (⟨lk, lf, lt, lb⟩ : Letter) bv]]] ++ [Blk.cells (some 25) [LV (⟨lk, lf, lt, lb.take 30⟩ : Letter) w]]) w (lb.take 30) := brL hw
            obtain ⟨v2, H2, q2, rfl, k', hk', o2, f2⟩ := PPutB_ok h.length _ id k O ⟨lk, lf, lt, lb.take 30⟩ w hwU pU.ii pU.kk pU.o (by simp [Letter.ok]; omega)
            have l2 := f2.len
            simp only [List.length_append, List.length_cons, List.length_nil] at l2 hk'
            have hk2 : h.length ≤ k' := by have := p.kk; omega
            have hl2 : h.length ≤ H2.length := by omega
            have hby : (lb.take 30).length ≤ 8192 := by simp; omega
            simp only [puts, hby, decide_true, Bool.and_true] at q2 o2
            obtain ⟨ms, s1, lr, s2⟩ := pU.keep f2
            have g0 : H2[H.length + 1]? = some (Blk.cells (some 25) [LV (⟨lk, lf, lt, lb.take 30⟩ : Letter) w]) := f2.old _ _ (by simp) (by have := p.o.lt; have := p.o.ltk; simp; omega)
            have hlW : h.length ≤ H.length + 1 := by omega
            by_cases c64 : O.length < 64
            · have c64' : (O.length : Int) < 64 := by omega
              simp only [c64, decide_true, if_true] at q2 o2
              have gb : ∀ z ∈ [V.s (.bool false)], V.ground z = true := by intro z hz; simp at hz; subst hz; rfl
              obtain ⟨x1, G1, x2, G2, qm, a1, a2, xm, hm, fa, fb⟩ := two_appB (n := h.length) (bytes := 48) hl2 s1 (b := [LV (⟨lk, lf, lt, lb.take 30⟩ : Letter) w]) (y2 := .imm true (some 25) [LV (⟨lk, lf, lt, lb.take 30⟩ : Letter) w]) (.inl ⟨_, rfl⟩) (by have := lr.1; simp; omega)
              have g1 := fa.old _ _ g0 (by simp)
              obtain ⟨y1, G3, y2, G4, qh, b1, b2, xh, hh, fc, fd⟩ := two_app (bytes := 1) (s2.fw fb) (b := [V.s (.bool false)]) (y2 := .imm true none [V.s (.bool false)]) (.inl ⟨_, rfl⟩) (held_gr O) gb (by simp [heldV]; omega)
              have lr' := (lr.fw fb).snoc ⟨lk, lf, lt, lb.take 30⟩ false w ((hwU.mono f2).mono fb)
              have eh : heldV O ++ [V.s (.bool false)] = heldV (O ++ [(⟨lk, lf, lt, lb.take 30⟩, false)]) := by simp [heldV]
              rw [eh] at xh
              simp only [LV] at q2 a1 a2 g0 g1 hcut
              simp only [List.append_assoc, List.cons_append, List.nil_append] at q2
              simp only [k4, k5, k6, k7, k8, LV, hcut, c64', hml, hle, lT, hlW, q2, g0, g1, a1, a2, b1, b2, hbt, hbs, hwt1, hws, or_true, decide_true, Bool.true_or, e5, go_sem, V.s.injEq, Value.bool.injEq, simprocAttr, List.append_assoc, List.length_append, Vm.get_app, Vm.set_app, Vm.get_appL, Vm.get_appL0, Vm.set_appL, Vm.set_appL0, Nat.le_refl, Nat.le_add_right, okAt]
              refine hK _ _ ?_
              simp only [plMB, e0', e1', e8, e5, go_sem, V.s.injEq, Value.bool.injEq, simprocAttr, List.append_assoc, List.length_append, Vm.get_app, Vm.set_app, Vm.get_appL, Vm.get_appL0, Vm.set_appL, Vm.set_appL0, Nat.le_refl, Nat.le_add_right, okAt]
              exact ⟨id, k', _, rfl, PlB.new hl2 o2 p.ii hk2 (by simp; omega) (by intro z hz; rcases List.mem_append.1 hz with hz | hz; exact p.byt z hz; simp only [List.mem_singleton] at hz; subst hz; simp; omega) fb fd xm lr' hm xh hh, (((fw.trans (Fw.app _ _ _)).trans (Fw.app [] _ _)).new f2 (by have := p.ii; have := p.kk; simp; omega)).trans (fb.trans fd)⟩
            · have c64' : ¬ (O.length : Int) < 64 := by omega
              simp only [c64, decide_false, Bool.false_eq_true, if_false] at q2 o2
              simp only [LV] at q2 hcut
              simp only [List.append_assoc, List.cons_append, List.nil_append] at q2
              simp only [k4, k5, k6, k7, k8, LV, hcut, c64', hml, hle, lT, hlW, q2, hbt, hbs, hwt1, hws, decide_true, Bool.true_or, e5, go_sem, V.s.injEq, Value.bool.injEq, simprocAttr, List.append_assoc, List.length_append, Vm.get_app, Vm.set_app, Vm.get_appL, Vm.get_appL0, Vm.set_appL, Vm.set_appL0, Nat.le_refl, Nat.le_add_right, okAt]
              refine hK _ _ ?_
              simp only [plMB, e0', e1', e8, e5, go_sem, V.s.injEq, Value.bool.injEq, simprocAttr, List.append_assoc, List.length_append, Vm.get_app, Vm.set_app, Vm.get_appL, Vm.get_appL0, Vm.set_appL, Vm.set_appL0, Nat.le_refl, Nat.le_add_right, okAt]
              exact ⟨id, k', O, rfl, pU.turn f2 (by simp; omega) o2 pl p.byt (fun _ => rfl) rfl rfl, ((fw.trans (Fw.app _ _ _)).trans (Fw.app [] _ _)).new f2 (by have := p.ii; have := p.kk; simp; omega)⟩
      · simp only [e0', e1', e8, e5, hlen, c', cm, go_sem, V.s.injEq, Value.bool.injEq, simprocAttr, List.append_assoc, List.length_append, Vm.get_app, Vm.set_app, Vm.get_appL, Vm.get_appL0, Vm.set_appL, Vm.set_appL0, Nat.le_refl, Nat.le_add_right, okAt]
        exact ⟨id, rfl, fw⟩
    · have c' : ¬ (i : Int) < (l.length : Nat) := by omega
      simp only [e0', e1', e8, e5, hlen, c', go_sem, V.s.injEq, Value.bool.injEq, simprocAttr, List.append_assoc, List.length_append, Vm.get_app, Vm.set_app, Vm.get_appL, Vm.get_appL0, Vm.set_appL, Vm.set_appL0, Nat.le_refl, Nat.le_add_right, okAt]
      exact ⟨id, rfl, fw⟩
  · rintro e H ⟨id, e5, fw⟩
    simp only [e5, fw.take, go_sem, V.s.injEq, Value.bool.injEq, simprocAttr, List.append_assoc, List.length_append, Vm.get_app, Vm.set_app, Vm.get_appL, Vm.get_appL0, Vm.set_appL, Vm.set_appL0, Nat.le_refl, Nat.le_add_right, okAt]
end Go.Proofs.Ythhkalljgjmhdaa
