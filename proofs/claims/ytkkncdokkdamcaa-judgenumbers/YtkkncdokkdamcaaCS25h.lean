/- Deeds are judged as the document judges. Conditions: none. -/
import Derived.Test.YtkkncdokkdamcaaCS25g
import Derived.Test.YtkkncdokkdamcaaCS25e
import Derived.Test.YtkkncdokkdamcaaCM23c
namespace Go.Proofs.Ytkkncdokkdamcaa
open Go Go.Vm Go.Proofs Go.Cl
set_option linter.unusedSimpArgs false
set_option linter.unusedVariables false
set_option maxRecDepth 100000
def plS (l : List Deed) : Nat → List Vault
  | 0 => []
  | i + 1 => (plainDo (plS l i) (l.getD i default).request).2
theorem relS {l : List Deed} (hw : ∀ x ∈ l, x.request.iD.length = 4) : ∀ i, i ≤ l.length → Rel (stI l i) (plS l i) ∧ (i < l.length → repI l i = (plainDo (plS l i) (l.getD i default).request).1) := by
  have key : ∀ i, i < l.length → (l.getD i default).request.iD.length = 4 := fun i hi => by
    rw [List.getD_eq_getElem?_getD, List.getElem?_eq_getElem hi]; exact hw _ (List.getElem_mem hi)
  have : ∀ i, i ≤ l.length → Rel (stI l i) (plS l i) := by
    intro i
    induction i with
    | zero => intro _; exact Rel.nil
    | succ i ih => intro hi; exact ((ih (by omega)).do _ (key i (by omega))).1
  exact fun i hi => ⟨this i hi, fun hlt => ((this i hi).do _ (key i hlt)).2⟩
theorem firstI_neg (rep : Nat → Reply) (l : List Deed) (i : Nat) (h : firstI rep l i < 0) : firstI rep l i = -1 := by
  cases i with
  | zero => rfl
  | succ i =>
    simp only [firstI] at h ⊢
    split
    · rename_i c; rw [if_pos c] at h; omega
    · rename_i c; rw [if_neg c] at h
      split
      · rfl
      · rename_i c2; rw [if_neg c2] at h; omega
theorem ground_R (r : Reply) : r.enc.ground = true := by
  have : r.enc.plain = true := by simp only [Reply.enc, go_sem]
  exact ground_plain _ this
theorem fldE (d : Deed) : d.enc = .st 93 [.s (.int .i64 d.member), d.request.encF false, d.reply.encF false] := rfl
theorem same5_ok (b : Nat) (h : Hp) (A : V) (l : List Deed) (sA : SR h A (some 93) (l.map Deed.enc)) (hl : l.length ≤ 1000000) (hw : ∀ x ∈ l, x.request.iD.length = 4) :
    run fns pr b 23 [A] h = some (.s (.bool true), h) := by
  refine Vm.runP (nt := 96) rfl fit23 (by simp) ?_
  have lA := fun cf base H => sA.o_len (cf := cf) (base := base) (h := H)
  simp only [List.length_map] at lA
  have ty1 : ∀ r : Reply, (Reply.encF false r).ty = some 39 := fun r => by rfl
  have so1 : ∀ r : Reply, (Reply.encF false r).solid = true := fun r => by rfl
  have hvb : (0 : Nat) = 0 := rfl
  try simp only [B23, B23R0, B23R2, B23L2, B23R4, B23L4, B23L0, go_sem, V.s.injEq, Value.bool.injEq, ↓reduceIte, Nat.reduceEqDiff, Nat.reduceBEq, Nat.reduceAdd, Nat.reduceSub, Nat.reduceLT, Nat.reduceLeDiff, Int.reduceLT, Int.reduceLE, Int.reduceEq, Int.reduceToNat, List.append_assoc, List.length_append, Vm.get_app, Vm.set_app, Vm.get_appL, Vm.get_appL0, Vm.set_appL, Vm.set_appL0, Nat.le_refl, Nat.le_add_right, okAt]
  repeat' (
    first | refine wpC_cases ?_ ?_ | refine wpU_casesT ?_ ?_ | refine wpU_casesF ?_ ?_
    all_goals intro hvc
    all_goals first | replace hvc := not_of_true hvc | replace hvc := not_of_false hvc | skip
    all_goals first | subst hvc | replace hvb := And.intro hvc hvb
    all_goals try simp only [hvb, B23, B23R0, B23R2, B23L2, B23R4, B23L4, B23L0, go_sem, V.s.injEq, Value.bool.injEq, ↓reduceIte, Nat.reduceEqDiff, Nat.reduceBEq, Nat.reduceAdd, Nat.reduceSub, Nat.reduceLT, Nat.reduceLeDiff, Int.reduceLT, Int.reduceLE, Int.reduceEq, Int.reduceToNat, List.append_assoc, List.length_append, Vm.get_app, Vm.set_app, Vm.get_appL, Vm.get_appL0, Vm.set_appL, Vm.set_appL0, Nat.le_refl, Nat.le_add_right, okAt])
  refine wp_for (fun n e H => ∃ i k y kk, n = l.length - i ∧ i ≤ l.length ∧ e 6 = .s (.int .i64 (i : Nat)) ∧ e 0 = A ∧ e 3 = .ptr h.length [0] 1 ∧ e 4 = .s (.int .i64 (firstI (repI l) l i)) ∧ e 5 = y ∧ PR5 H h.length k (plS l i) ∧ XR H (some 39) kk y (((l.take i).map Deed.reply).map Reply.enc) ∧ Fw [] h H ∧ h.length < kk ∧ h.length < H.length ∧ k ≠ kk)
    (fun e H => ∃ k y kk, e 0 = A ∧ e 3 = .ptr h.length [0] 1 ∧ e 4 = .s (.int .i64 (firstI (repI l) l l.length)) ∧ e 5 = y ∧ PR5 H h.length k (plS l l.length) ∧ XR H (some 39) kk y ((l.map Deed.reply).map Reply.enc) ∧ Fw [] h H)
    l.length _ _ ⟨0, h.length + 1, _, h.length + 2, rfl, by omega, rfl, rfl, rfl, rfl, rfl, ⟨_, get_app0 _ _, XR.nil _ _ _, by omega, fun _ => rfl⟩, XR.nil _ _ _, Fw.app _ _ _, by omega, by simp, by omega⟩ ?_ ?_
  · rintro n e H ⟨i, k, y, kk, rfl, hi, e6, e0, e3, e4, e5, pr1, xr, fw, hkk, hlH, hkne⟩
    by_cases c1 : i < l.length
    case neg =>
      have c' : ¬ (i : Int) < l.length := by omega
      obtain rfl : i = l.length := by omega
      rw [List.take_length] at xr
      have hvb : (0 : Nat) = 0 := rfl
      try simp only [e6, e0, e3, e4, e5, lA, c', go_sem, V.s.injEq, Value.bool.injEq, ↓reduceIte, Nat.reduceEqDiff, Nat.reduceBEq, Nat.reduceAdd, Nat.reduceSub, Nat.reduceLT, Nat.reduceLeDiff, Int.reduceLT, Int.reduceLE, Int.reduceEq, Int.reduceToNat, List.append_assoc, List.length_append, Vm.get_app, Vm.set_app, Vm.get_appL, Vm.get_appL0, Vm.set_appL, Vm.set_appL0, Nat.le_refl, Nat.le_add_right, okAt]
      repeat' (
        first | refine wpC_cases ?_ ?_ | refine wpU_casesT ?_ ?_ | refine wpU_casesF ?_ ?_
        all_goals intro hvc
        all_goals first | replace hvc := not_of_true hvc | replace hvc := not_of_false hvc | skip
        all_goals first | subst hvc | replace hvb := And.intro hvc hvb
        all_goals try simp only [hvb, e6, e0, e3, e4, e5, lA, c', go_sem, V.s.injEq, Value.bool.injEq, ↓reduceIte, Nat.reduceEqDiff, Nat.reduceBEq, Nat.reduceAdd, Nat.reduceSub, Nat.reduceLT, Nat.reduceLeDiff, Int.reduceLT, Int.reduceLE, Int.reduceEq, Int.reduceToNat, List.append_assoc, List.length_append, Vm.get_app, Vm.set_app, Vm.get_appL, Vm.get_appL0, Vm.set_appL, Vm.set_appL0, Nat.le_refl, Nat.le_add_right, okAt])
      all_goals exact ⟨k, y, kk, rfl, pr1, xr, fw⟩
    have c1' : (i : Int) < l.length := by omega
    have hv : l[i]? = some l[i] := List.getElem?_eq_getElem c1
    have hgd : l.getD i default = l[i] := by rw [List.getD_eq_getElem?_getD, hv]; rfl
    have hrel := relS hw i hi
    have hrp := hrel.2 c1
    have hmP : plS l (i + 1) = (plainDo (plS l i) (l[i]).request).2 := by rw [plS, hgd]
    have hfs : firstI (repI l) l (i + 1) = if 0 ≤ firstI (repI l) l i then firstI (repI l) l i else if repI l i = (l[i]).reply then -1 else (i : Int) := by rw [firstI, hgd]
    have htk : (l.take (i + 1)).map Deed.reply = (l.take i).map Deed.reply ++ [(l[i]).reply] := by rw [List.take_add_one, hv, List.map_append]; rfl
    have hq4 := hw _ (List.getElem_mem c1)
    rw [hgd] at hrp
    obtain ⟨d, hd⟩ : ∃ d, l[i] = d := ⟨_, rfl⟩
    rw [hd] at hv hmP hfs htk hq4 hrp
    have hve : (l.map Deed.enc)[i]? = some d.enc := by rw [List.getElem?_map, hv]; rfl
    rw [fldE] at hve
    have hil : i < (l.map Deed.enc).length := by simpa using c1
    have hia := fun cf base => (sA.fw fw).o_ias (cf := cf) (base := base) (k := .i64) hil
    have hfa := fun cf base => (sA.fw fw).o_fa (cf := cf) (base := base) (f := 1) hve (by simp)
    have hlf := fun cf base => (sA.fw fw).o_ldf (cf := cf) (base := base) (f := 1) (g' := some 32) hve rfl rfl
    have rel := hrel.1
    have hrt := rel.right
    have rl := rel.len
    obtain ⟨v1, HB, d1, k2, rfl, p2, fB, hk2⟩ := P5Do_ok h.length H h.length k (plS l i) d.request false (Nat.le_refl _) pr1 (by omega) (by omega) (fun v hv => by rw [(hrt v hv).2]; omega) (fun v hv => (hrt v hv).1)
    have lB := fB.len
    have fB' : Fw [] h HB := fw.new fB (by simp)
    have hlBh : h.length < HB.length := by omega
    have hia2 := fun cf base t => (sA.fw (fB'.trans (Fw.app _ HB t))).o_ias (cf := cf) (base := base) (k := .i64) hil
    have hfa2 := fun cf base t => (sA.fw (fB'.trans (Fw.app _ HB t))).o_fa (cf := cf) (base := base) (f := 2) hve (by simp)
    have hlf2 := fun cf base t => (sA.fw (fB'.trans (Fw.app _ HB t))).o_ldf (cf := cf) (base := base) (f := 2) (g' := some 39) hve rfl rfl
    have gB : ∀ k, decide (h.length ≤ HB.length + k) = true := fun k => decide_eq_true (by omega)
    have gB0 := gB 0
    rw [Nat.add_zero] at gB0
    rw [← hmP] at p2 hk2
    rw [← hrp] at d1
    have hti : ((l.take i).map Deed.reply).length ≤ 1000000 := by simp; omega
    generalize repI l i = rep at *
    obtain ⟨HD, hHD⟩ : ∃ HD : Hp, HB ++ [Blk.cells (some 39) [rep.encF false]] = HD := ⟨_, rfl⟩
    have fD : Fw [] HB HD := by rw [← hHD]; exact Fw.app _ _ _
    have lD : HD.length = HB.length + 1 := by rw [← hHD]; simp
    have hrD : HD[HB.length]? = some (Blk.cells (some 39) [rep.encF false]) := by rw [← hHD]; exact get_app0 _ _
    have hrD2 := fun t => get_old hrD t
    have hia2 := fun cf base => hia2 cf base [Blk.cells (some 39) [rep.encF false]]
    have hfa2 := fun cf base => hfa2 cf base [Blk.cells (some 39) [rep.encF false]]
    have hlf2 := fun cf base => hlf2 cf base [Blk.cells (some 39) [rep.encF false]]
    rw [hHD] at hia2 hfa2 hlf2
    have pD := p2.mono fD (by simp) (by simp)
    obtain ⟨kq, xq, hq1, hq2⟩ : ∃ kq, XR HD (some 39) kq y (((l.take i).map Deed.reply).map Reply.enc) ∧ h.length < kq ∧ kq ≠ k2 := by
      rcases xr with ⟨rfl, e⟩ | ⟨rfl, hr⟩
      · exact ⟨h.length + k2 + 1, .inl ⟨rfl, e⟩, by omega, by omega⟩
      · have := lt_of_get hr
        refine ⟨kk, .inr ⟨rfl, fD.old _ _ (fB.old _ _ hr (by simp; omega)) (by simp)⟩, hkk, ?_⟩
        rcases hk2 with ⟨rfl, _⟩ | hk2 <;> omega
    obtain ⟨y3, H3, k3, ap3, xr3, hk3, hl3, hk3', hg3, hold3⟩ := xq.pushL (n := h.length + 1) (m := 1) (ys := [d.reply.encF false]) (bytes := 72) (by omega) (by omega) rfl (fun z hz => by simp at hz; subst hz; exact ground_R d.reply) (by simp only [List.length_map] at hti ⊢; simp; omega)
    have xr3 : XR H3 (some 39) k3 y3 (((l.take (i + 1)).map Deed.reply).map Reply.enc) := by rw [htk, List.map_append]; exact xr3
    have f3 : Fw [] h H3 := (fB'.trans fD).trans' (n := 0) hg3 hold3 (by omega)
    obtain ⟨x4, z1, z2, z3, z4⟩ := pD
    obtain ⟨k4, p4, hk4⟩ : ∃ k4, PR5 H3 h.length k4 (plS l (i + 1)) ∧ k4 ≠ k3 := by
      have z1' := hold3 _ _ (by omega) z1
      rcases z2 with ⟨rfl, e⟩ | ⟨rfl, hr⟩
      · exact ⟨h.length + k3 + 1, ⟨_, z1', .inl ⟨rfl, e⟩, by omega, z4⟩, by omega⟩
      · have := lt_of_get hr
        refine ⟨k2, ⟨_, z1', .inr ⟨rfl, hold3 _ _ (fun e => hq2 e.symm) hr⟩, z3, z4⟩, ?_⟩
        rcases hk3' with rfl | hk3'
        · exact fun e => hq2 e.symm
        · omega
    have hwr : IntKind.i64.wrap ((i : Int) + 1) = ((i + 1 : Nat) : Int) := wrap_small (by omega)
    have hrr := fun h0 r s => RReplies_ok h.length h0 false false r s
    by_cases cF : firstI (repI l) l i < 0
    · have cN := firstI_neg _ _ _ cF
      rw [cN] at e4
      rw [cN, if_neg (by omega)] at hfs
      by_cases cp : rep = d.reply
      · rw [if_pos cp] at hfs
        subst cp
        have hvb : (0 : Nat) = 0 := rfl
        try simp only [e6, e0, e3, e4, e5, c1', lA, hia, hfa, hlf, d1, Reply.enc_F, ty1, so1, gB, gB0, hHD, hrD, hrD2, hia2, hfa2, hlf2, hrr, ap3, hwr, go_sem, V.s.injEq, Value.bool.injEq, ↓reduceIte, Nat.reduceEqDiff, Nat.reduceBEq, Nat.reduceAdd, Nat.reduceSub, Nat.reduceLT, Nat.reduceLeDiff, Int.reduceLT, Int.reduceLE, Int.reduceEq, Int.reduceToNat, List.append_assoc, List.length_append, Vm.get_app, Vm.set_app, Vm.get_appL, Vm.get_appL0, Vm.set_appL, Vm.set_appL0, Nat.le_refl, Nat.le_add_right, okAt]
        repeat' (
          first | refine wpC_cases ?_ ?_ | refine wpU_casesT ?_ ?_ | refine wpU_casesF ?_ ?_
          all_goals intro hvc
          all_goals first | replace hvc := not_of_true hvc | replace hvc := not_of_false hvc | skip
          all_goals first | subst hvc | replace hvb := And.intro hvc hvb
          all_goals try simp only [hvb, e6, e0, e3, e4, e5, c1', lA, hia, hfa, hlf, d1, Reply.enc_F, ty1, so1, gB, gB0, hHD, hrD, hrD2, hia2, hfa2, hlf2, hrr, ap3, hwr, go_sem, V.s.injEq, Value.bool.injEq, ↓reduceIte, Nat.reduceEqDiff, Nat.reduceBEq, Nat.reduceAdd, Nat.reduceSub, Nat.reduceLT, Nat.reduceLeDiff, Int.reduceLT, Int.reduceLE, Int.reduceEq, Int.reduceToNat, List.append_assoc, List.length_append, Vm.get_app, Vm.set_app, Vm.get_appL, Vm.get_appL0, Vm.set_appL, Vm.set_appL0, Nat.le_refl, Nat.le_add_right, okAt])
        all_goals exact ⟨l.length - (i + 1), by omega, i + 1, k4, y3, k3, rfl, by omega, rfl, by rw [hfs], rfl, p4, xr3, f3, by omega, by omega, hk4⟩
      · rw [if_neg cp] at hfs
        have hvb : (0 : Nat) = 0 := rfl
        try simp only [e6, e0, e3, e4, e5, c1', lA, hia, hfa, hlf, d1, Reply.enc_F, ty1, so1, gB, gB0, hHD, hrD, hrD2, hia2, hfa2, hlf2, hrr, cp, ap3, hwr, go_sem, V.s.injEq, Value.bool.injEq, ↓reduceIte, Nat.reduceEqDiff, Nat.reduceBEq, Nat.reduceAdd, Nat.reduceSub, Nat.reduceLT, Nat.reduceLeDiff, Int.reduceLT, Int.reduceLE, Int.reduceEq, Int.reduceToNat, List.append_assoc, List.length_append, Vm.get_app, Vm.set_app, Vm.get_appL, Vm.get_appL0, Vm.set_appL, Vm.set_appL0, Nat.le_refl, Nat.le_add_right, okAt]
        repeat' (
          first | refine wpC_cases ?_ ?_ | refine wpU_casesT ?_ ?_ | refine wpU_casesF ?_ ?_
          all_goals intro hvc
          all_goals first | replace hvc := not_of_true hvc | replace hvc := not_of_false hvc | skip
          all_goals first | subst hvc | replace hvb := And.intro hvc hvb
          all_goals try simp only [hvb, e6, e0, e3, e4, e5, c1', lA, hia, hfa, hlf, d1, Reply.enc_F, ty1, so1, gB, gB0, hHD, hrD, hrD2, hia2, hfa2, hlf2, hrr, cp, ap3, hwr, go_sem, V.s.injEq, Value.bool.injEq, ↓reduceIte, Nat.reduceEqDiff, Nat.reduceBEq, Nat.reduceAdd, Nat.reduceSub, Nat.reduceLT, Nat.reduceLeDiff, Int.reduceLT, Int.reduceLE, Int.reduceEq, Int.reduceToNat, List.append_assoc, List.length_append, Vm.get_app, Vm.set_app, Vm.get_appL, Vm.get_appL0, Vm.set_appL, Vm.set_appL0, Nat.le_refl, Nat.le_add_right, okAt])
        all_goals exact ⟨l.length - (i + 1), by omega, i + 1, k4, y3, k3, rfl, by omega, rfl, by rw [hfs], rfl, p4, xr3, f3, by omega, by omega, hk4⟩
    · rw [if_pos (by omega)] at hfs
      have hvb : (0 : Nat) = 0 := rfl
      try simp only [e6, e0, e3, e4, e5, c1', lA, hia, hfa, hlf, d1, Reply.enc_F, ty1, so1, gB, gB0, hHD, hrD, hrD2, hia2, hfa2, hlf2, cF, ap3, hwr, go_sem, V.s.injEq, Value.bool.injEq, ↓reduceIte, Nat.reduceEqDiff, Nat.reduceBEq, Nat.reduceAdd, Nat.reduceSub, Nat.reduceLT, Nat.reduceLeDiff, Int.reduceLT, Int.reduceLE, Int.reduceEq, Int.reduceToNat, List.append_assoc, List.length_append, Vm.get_app, Vm.set_app, Vm.get_appL, Vm.get_appL0, Vm.set_appL, Vm.set_appL0, Nat.le_refl, Nat.le_add_right, okAt]
      repeat' (
        first | refine wpC_cases ?_ ?_ | refine wpU_casesT ?_ ?_ | refine wpU_casesF ?_ ?_
        all_goals intro hvc
        all_goals first | replace hvc := not_of_true hvc | replace hvc := not_of_false hvc | skip
        all_goals first | subst hvc | replace hvb := And.intro hvc hvb
        all_goals try simp only [hvb, e6, e0, e3, e4, e5, c1', lA, hia, hfa, hlf, d1, Reply.enc_F, ty1, so1, gB, gB0, hHD, hrD, hrD2, hia2, hfa2, hlf2, cF, ap3, hwr, go_sem, V.s.injEq, Value.bool.injEq, ↓reduceIte, Nat.reduceEqDiff, Nat.reduceBEq, Nat.reduceAdd, Nat.reduceSub, Nat.reduceLT, Nat.reduceLeDiff, Int.reduceLT, Int.reduceLE, Int.reduceEq, Int.reduceToNat, List.append_assoc, List.length_append, Vm.get_app, Vm.set_app, Vm.get_appL, Vm.get_appL0, Vm.set_appL, Vm.set_appL0, Nat.le_refl, Nat.le_add_right, okAt])
      all_goals exact ⟨l.length - (i + 1), by omega, i + 1, k4, y3, k3, rfl, by omega, rfl, by rw [hfs], rfl, p4, xr3, f3, by omega, by omega, hk4⟩
  · rintro e H ⟨k, y, kk, e0, e3, e4, e5, pr1, xr, fw⟩
    have rel := (relS hw l.length (Nat.le_refl _)).1
    have hchk := Check_ok h.length H A l (sA.fw fw) hl hw
    have hfin := Final_ok h.length H A l (sA.fw fw) hl hw
    have hlen : (allP (stI l l.length) 16).length = (plS l l.length).length := by rw [rel.all]; exact (allA_spec rel.nd _ (Nat.le_refl _)).2.2
    have hmem : ∀ v ∈ allP (stI l l.length) 16, v ∈ plS l l.length := fun v hv => (rel.mem_all v).1 hv
    have rl := rel.len
    generalize allP (stI l l.length) 16 = vs at *
    generalize plS l l.length = pl at *
    generalize firstI (repI l) l l.length = F at *
    obtain ⟨x, z1, xp, z3, z4⟩ := pr1
    have hxl := fun cf base h0 => xp.SR.o_len (cf := cf) (base := base) (h := h0)
    have hxt := xp.ty
    simp only [List.length_map] at hxl hxt
    have hvl : (vs.map Vault.enc).length = pl.length := by rw [List.length_map, hlen]
    have hxt1 := xp.ty.1
    have hvb : (0 : Nat) = 0 := rfl
    try simp only [e0, e3, e4, e5, hchk, hfin, z1, hxl, hxt1, hvl, go_sem, V.s.injEq, Value.bool.injEq, ↓reduceIte, Nat.reduceEqDiff, Nat.reduceBEq, Nat.reduceAdd, Nat.reduceSub, Nat.reduceLT, Nat.reduceLeDiff, Int.reduceLT, Int.reduceLE, Int.reduceEq, Int.reduceToNat, List.append_assoc, List.length_append, Vm.get_app, Vm.set_app, Vm.get_appL, Vm.get_appL0, Vm.set_appL, Vm.set_appL0, Nat.le_refl, Nat.le_add_right, okAt]
    repeat' (
      first | refine wpC_cases ?_ ?_ | refine wpU_casesT ?_ ?_ | refine wpU_casesF ?_ ?_
      all_goals intro hvc
      all_goals first | replace hvc := not_of_true hvc | replace hvc := not_of_false hvc | skip
      all_goals first | subst hvc | replace hvb := And.intro hvc hvb
      all_goals try simp only [hvb, e0, e3, e4, e5, hchk, hfin, z1, hxl, hxt1, hvl, go_sem, V.s.injEq, Value.bool.injEq, ↓reduceIte, Nat.reduceEqDiff, Nat.reduceBEq, Nat.reduceAdd, Nat.reduceSub, Nat.reduceLT, Nat.reduceLeDiff, Int.reduceLT, Int.reduceLE, Int.reduceEq, Int.reduceToNat, List.append_assoc, List.length_append, Vm.get_app, Vm.set_app, Vm.get_appL, Vm.get_appL0, Vm.set_appL, Vm.set_appL0, Nat.le_refl, Nat.le_add_right, okAt])
    refine wp_for (fun n e H' => ∃ j, n = pl.length - j ∧ j ≤ pl.length ∧ e 66 = .s (.int .i64 (j : Nat)) ∧ e 65 = .s (.int .i64 (pl.length : Nat)) ∧ e 64 = .imm false (some 74) (vs.map Vault.enc) ∧ e 3 = .ptr h.length [0] 1 ∧ e 5 = y ∧ Fw [] H H')
      (fun e H' => e 5 = y ∧ Fw [] H H')
      pl.length _ _ ⟨0, rfl, by omega, rfl, rfl, rfl, e3, e5, Fw.refl _ _⟩ ?_ ?_
    · clear e0 e3 e4 e5 hchk hfin
      rintro n e H' ⟨j, rfl, hj, e66, e65, e64, e3, e5, fw2⟩
      by_cases c : j < pl.length
      · have c' : (j : Int) < pl.length := by omega
        have hv : vs[j]? = some vs[j] := List.getElem?_eq_getElem (by omega)
        have hin := hmem _ (List.getElem_mem (by omega : j < vs.length))
        obtain ⟨v, hvd⟩ : ∃ v, vs[j] = v := ⟨_, rfl⟩
        rw [hvd] at hv hin
        have hve : (vs.map Vault.enc)[j]? = some (v.encF false) := by rw [List.getElem?_map, hv]; rfl
        have sV : ∀ h0, SR h0 (.imm false (some 74) (vs.map Vault.enc)) (some 74) (vs.map Vault.enc) := fun h0 => .inl ⟨_, rfl⟩
        have hia := fun cf base => (sV H').o_ias (cf := cf) (base := base) (k := .i64) (i := j) (by simp; omega)
        have hlo := fun cf base => (sV H').o_ld (cf := cf) (base := base) hve rfl
        have hwr : IntKind.i64.wrap ((j : Int) + 1) = ((j + 1 : Nat) : Int) := wrap_small (by omega)
        have gr : ∀ k, decide (h.length ≤ H'.length + k) = true := fun k => decide_eq_true (by have := fw.len; have := fw2.len; omega)
        have gr0 := gr 0
        rw [Nat.add_zero] at gr0
        obtain ⟨HX, hHX⟩ : ∃ HX : Hp, H' ++ [Blk.cells (some 74) [v.encF false]] = HX := ⟨_, rfl⟩
        have fX : Fw [] H HX := by rw [← hHX]; exact fw2.trans (Fw.app _ _ _)
        have hvX : HX[H'.length]? = some (Blk.cells (some 74) [v.encF false]) := by rw [← hHX]; exact get_app0 _ _
        have z1X := fX.old _ _ z1 (by simp)
        have sX := xp.SR.fw fX
        have hvb : (0 : Nat) = 0 := rfl
        try simp only [e66, e65, e64, e3, e5, c', hia, hlo, encF_tyV, encF_soV, gr, gr0, hHX, go_sem, V.s.injEq, Value.bool.injEq, ↓reduceIte, Nat.reduceEqDiff, Nat.reduceBEq, Nat.reduceAdd, Nat.reduceSub, Nat.reduceLT, Nat.reduceLeDiff, Int.reduceLT, Int.reduceLE, Int.reduceEq, Int.reduceToNat, List.append_assoc, List.length_append, Vm.get_app, Vm.set_app, Vm.get_appL, Vm.get_appL0, Vm.set_appL, Vm.set_appL0, Nat.le_refl, Nat.le_add_right, okAt]
        repeat' (
          first | refine wpC_cases ?_ ?_ | refine wpU_casesT ?_ ?_ | refine wpU_casesF ?_ ?_
          all_goals intro hvc
          all_goals first | replace hvc := not_of_true hvc | replace hvc := not_of_false hvc | skip
          all_goals first | subst hvc | replace hvb := And.intro hvc hvb
          all_goals try simp only [hvb, e66, e65, e64, e3, e5, c', hia, hlo, encF_tyV, encF_soV, gr, gr0, hHX, go_sem, V.s.injEq, Value.bool.injEq, ↓reduceIte, Nat.reduceEqDiff, Nat.reduceBEq, Nat.reduceAdd, Nat.reduceSub, Nat.reduceLT, Nat.reduceLeDiff, Int.reduceLT, Int.reduceLE, Int.reduceEq, Int.reduceToNat, List.append_assoc, List.length_append, Vm.get_app, Vm.set_app, Vm.get_appL, Vm.get_appL0, Vm.set_appL, Vm.set_appL0, Nat.le_refl, Nat.le_add_right, okAt])
        refine wp_for (fun n e H'' => ∃ m, n = pl.length - m ∧ m ≤ pl.length ∧ e 11 = .s (.int .i64 (m : Nat)) ∧ e 10 = .s (.bool ((pl.take m).any fun w => decide (v = w))) ∧ e 9 = .ptr H'.length [0] 1 ∧ e 66 = .s (.int .i64 (j : Nat)) ∧ e 65 = .s (.int .i64 (pl.length : Nat)) ∧ e 64 = .imm false (some 74) (vs.map Vault.enc) ∧ e 3 = .ptr h.length [0] 1 ∧ e 5 = y ∧ H'' = HX)
          (fun e H'' => e 10 = .s (.bool true) ∧ e 66 = .s (.int .i64 (j : Nat)) ∧ e 65 = .s (.int .i64 (pl.length : Nat)) ∧ e 64 = .imm false (some 74) (vs.map Vault.enc) ∧ e 3 = .ptr h.length [0] 1 ∧ e 5 = y ∧ H'' = HX)
          pl.length _ _ ⟨0, rfl, by omega, rfl, rfl, rfl, e66, e65, e64, e3, e5, rfl⟩ ?_ ?_
        · clear e66 e65 e64 e3 e5
          rintro n e H'' ⟨m, rfl, hm, e11, e10, e9, e66, e65, e64, e3, e5, rfl⟩
          by_cases cm : m < pl.length
          · have cm' : (m : Int) < pl.length := by omega
            have hw' : pl[m]? = some pl[m] := List.getElem?_eq_getElem cm
            have hta : (pl.take (m + 1)).any (fun w => decide (v = w)) = ((pl.take m).any (fun w => decide (v = w)) || decide (v = pl[m])) := by
              rw [List.take_add_one, hw', List.any_append]; simp only [Option.toList, List.any_cons, List.any_nil, Bool.or_false]
            obtain ⟨w, hwd⟩ : ∃ w, pl[m] = w := ⟨_, rfl⟩
            rw [hwd] at hw' hta
            have hwe : (pl.map Vault.enc)[m]? = some (w.encF false) := by rw [List.getElem?_map, hw']; rfl
            have ka := fun cf base => sX.o_ias (cf := cf) (base := base) (k := .i64) (i := m) (by simpa using cm)
            have kl := fun cf base => sX.o_ld (cf := cf) (base := base) hwe rfl
            have hsm := fun h0 => rSame_ok h.length h0 false false v w
            have hwm : IntKind.i64.wrap ((m : Int) + 1) = ((m + 1 : Nat) : Int) := wrap_small (by omega)
            generalize (pl.take m).any (fun w => decide (v = w)) = B at *
            cases B
            · have hvb : (0 : Nat) = 0 := rfl
              try simp only [e11, e10, e9, e66, e65, e64, e3, e5, cm', z1X, hxl, hxt1, ka, kl, hvX, encF_tyV, encF_soV, hsm, hwm, go_sem, V.s.injEq, Value.bool.injEq, ↓reduceIte, Nat.reduceEqDiff, Nat.reduceBEq, Nat.reduceAdd, Nat.reduceSub, Nat.reduceLT, Nat.reduceLeDiff, Int.reduceLT, Int.reduceLE, Int.reduceEq, Int.reduceToNat, List.append_assoc, List.length_append, Vm.get_app, Vm.set_app, Vm.get_appL, Vm.get_appL0, Vm.set_appL, Vm.set_appL0, Nat.le_refl, Nat.le_add_right, okAt]
              repeat' (
                first | refine wpC_cases ?_ ?_ | refine wpU_casesT ?_ ?_ | refine wpU_casesF ?_ ?_
                all_goals intro hvc
                all_goals first | replace hvc := not_of_true hvc | replace hvc := not_of_false hvc | skip
                all_goals first | subst hvc | replace hvb := And.intro hvc hvb
                all_goals try simp only [hvb, e11, e10, e9, e66, e65, e64, e3, e5, cm', z1X, hxl, hxt1, ka, kl, hvX, encF_tyV, encF_soV, hsm, hwm, go_sem, V.s.injEq, Value.bool.injEq, ↓reduceIte, Nat.reduceEqDiff, Nat.reduceBEq, Nat.reduceAdd, Nat.reduceSub, Nat.reduceLT, Nat.reduceLeDiff, Int.reduceLT, Int.reduceLE, Int.reduceEq, Int.reduceToNat, List.append_assoc, List.length_append, Vm.get_app, Vm.set_app, Vm.get_appL, Vm.get_appL0, Vm.set_appL, Vm.set_appL0, Nat.le_refl, Nat.le_add_right, okAt])
              all_goals exact ⟨pl.length - (m + 1), by omega, m + 1, rfl, by omega, rfl, by rw [hta, Bool.false_or]⟩
            · have hvb : (0 : Nat) = 0 := rfl
              try simp only [e11, e10, e9, e66, e65, e64, e3, e5, cm', z1X, hxl, hxt1, ka, kl, hvX, encF_tyV, encF_soV, hsm, hwm, go_sem, V.s.injEq, Value.bool.injEq, ↓reduceIte, Nat.reduceEqDiff, Nat.reduceBEq, Nat.reduceAdd, Nat.reduceSub, Nat.reduceLT, Nat.reduceLeDiff, Int.reduceLT, Int.reduceLE, Int.reduceEq, Int.reduceToNat, List.append_assoc, List.length_append, Vm.get_app, Vm.set_app, Vm.get_appL, Vm.get_appL0, Vm.set_appL, Vm.set_appL0, Nat.le_refl, Nat.le_add_right, okAt]
              repeat' (
                first | refine wpC_cases ?_ ?_ | refine wpU_casesT ?_ ?_ | refine wpU_casesF ?_ ?_
                all_goals intro hvc
                all_goals first | replace hvc := not_of_true hvc | replace hvc := not_of_false hvc | skip
                all_goals first | subst hvc | replace hvb := And.intro hvc hvb
                all_goals try simp only [hvb, e11, e10, e9, e66, e65, e64, e3, e5, cm', z1X, hxl, hxt1, ka, kl, hvX, encF_tyV, encF_soV, hsm, hwm, go_sem, V.s.injEq, Value.bool.injEq, ↓reduceIte, Nat.reduceEqDiff, Nat.reduceBEq, Nat.reduceAdd, Nat.reduceSub, Nat.reduceLT, Nat.reduceLeDiff, Int.reduceLT, Int.reduceLE, Int.reduceEq, Int.reduceToNat, List.append_assoc, List.length_append, Vm.get_app, Vm.set_app, Vm.get_appL, Vm.get_appL0, Vm.set_appL, Vm.set_appL0, Nat.le_refl, Nat.le_add_right, okAt])
              all_goals exact ⟨pl.length - (m + 1), by omega, m + 1, rfl, by omega, rfl, by rw [hta, Bool.true_or]⟩
          · have cm' : ¬ (m : Int) < pl.length := by omega
            obtain rfl : m = pl.length := by omega
            have ht : (pl.take pl.length).any (fun w => decide (v = w)) = true := by
              rw [List.take_length, List.any_eq_true]
              exact ⟨v, hin, by simp⟩
            rw [ht] at e10
            have hvb : (0 : Nat) = 0 := rfl
            try simp only [e11, e10, e9, e66, e65, e64, e3, e5, cm', z1X, hxl, hxt1, go_sem, V.s.injEq, Value.bool.injEq, ↓reduceIte, Nat.reduceEqDiff, Nat.reduceBEq, Nat.reduceAdd, Nat.reduceSub, Nat.reduceLT, Nat.reduceLeDiff, Int.reduceLT, Int.reduceLE, Int.reduceEq, Int.reduceToNat, List.append_assoc, List.length_append, Vm.get_app, Vm.set_app, Vm.get_appL, Vm.get_appL0, Vm.set_appL, Vm.set_appL0, Nat.le_refl, Nat.le_add_right, okAt]
            repeat' (
              first | refine wpC_cases ?_ ?_ | refine wpU_casesT ?_ ?_ | refine wpU_casesF ?_ ?_
              all_goals intro hvc
              all_goals first | replace hvc := not_of_true hvc | replace hvc := not_of_false hvc | skip
              all_goals first | subst hvc | replace hvb := And.intro hvc hvb
              all_goals try simp only [hvb, e11, e10, e9, e66, e65, e64, e3, e5, cm', z1X, hxl, hxt1, go_sem, V.s.injEq, Value.bool.injEq, ↓reduceIte, Nat.reduceEqDiff, Nat.reduceBEq, Nat.reduceAdd, Nat.reduceSub, Nat.reduceLT, Nat.reduceLeDiff, Int.reduceLT, Int.reduceLE, Int.reduceEq, Int.reduceToNat, List.append_assoc, List.length_append, Vm.get_app, Vm.set_app, Vm.get_appL, Vm.get_appL0, Vm.set_appL, Vm.set_appL0, Nat.le_refl, Nat.le_add_right, okAt])
        · clear e66 e65 e64 e3 e5
          rintro e H'' ⟨e10, e66, e65, e64, e3, e5, rfl⟩
          have hvb : (0 : Nat) = 0 := rfl
          try simp only [e10, e66, e65, e64, e3, e5, hwr, go_sem, V.s.injEq, Value.bool.injEq, ↓reduceIte, Nat.reduceEqDiff, Nat.reduceBEq, Nat.reduceAdd, Nat.reduceSub, Nat.reduceLT, Nat.reduceLeDiff, Int.reduceLT, Int.reduceLE, Int.reduceEq, Int.reduceToNat, List.append_assoc, List.length_append, Vm.get_app, Vm.set_app, Vm.get_appL, Vm.get_appL0, Vm.set_appL, Vm.set_appL0, Nat.le_refl, Nat.le_add_right, okAt]
          repeat' (
            first | refine wpC_cases ?_ ?_ | refine wpU_casesT ?_ ?_ | refine wpU_casesF ?_ ?_
            all_goals intro hvc
            all_goals first | replace hvc := not_of_true hvc | replace hvc := not_of_false hvc | skip
            all_goals first | subst hvc | replace hvb := And.intro hvc hvb
            all_goals try simp only [hvb, e10, e66, e65, e64, e3, e5, hwr, go_sem, V.s.injEq, Value.bool.injEq, ↓reduceIte, Nat.reduceEqDiff, Nat.reduceBEq, Nat.reduceAdd, Nat.reduceSub, Nat.reduceLT, Nat.reduceLeDiff, Int.reduceLT, Int.reduceLE, Int.reduceEq, Int.reduceToNat, List.append_assoc, List.length_append, Vm.get_app, Vm.set_app, Vm.get_appL, Vm.get_appL0, Vm.set_appL, Vm.set_appL0, Nat.le_refl, Nat.le_add_right, okAt])
          all_goals exact ⟨pl.length - (j + 1), by omega, j + 1, rfl, by omega, rfl, fX⟩
      · have c' : ¬ (j : Int) < pl.length := by omega
        have hvb : (0 : Nat) = 0 := rfl
        try simp only [e66, e65, e64, e3, e5, c', go_sem, V.s.injEq, Value.bool.injEq, ↓reduceIte, Nat.reduceEqDiff, Nat.reduceBEq, Nat.reduceAdd, Nat.reduceSub, Nat.reduceLT, Nat.reduceLeDiff, Int.reduceLT, Int.reduceLE, Int.reduceEq, Int.reduceToNat, List.append_assoc, List.length_append, Vm.get_app, Vm.set_app, Vm.get_appL, Vm.get_appL0, Vm.set_appL, Vm.set_appL0, Nat.le_refl, Nat.le_add_right, okAt]
        repeat' (
          first | refine wpC_cases ?_ ?_ | refine wpU_casesT ?_ ?_ | refine wpU_casesF ?_ ?_
          all_goals intro hvc
          all_goals first | replace hvc := not_of_true hvc | replace hvc := not_of_false hvc | skip
          all_goals first | subst hvc | replace hvb := And.intro hvc hvb
          all_goals try simp only [hvb, e66, e65, e64, e3, e5, c', go_sem, V.s.injEq, Value.bool.injEq, ↓reduceIte, Nat.reduceEqDiff, Nat.reduceBEq, Nat.reduceAdd, Nat.reduceSub, Nat.reduceLT, Nat.reduceLeDiff, Int.reduceLT, Int.reduceLE, Int.reduceEq, Int.reduceToNat, List.append_assoc, List.length_append, Vm.get_app, Vm.set_app, Vm.get_appL, Vm.get_appL0, Vm.set_appL, Vm.set_appL0, Nat.le_refl, Nat.le_add_right, okAt])
        all_goals exact fw2
    · clear e0 e3 e4 e5
      rintro e H' ⟨e5, fw2⟩
      have hrp := replies_ok h.length H' y _ (xr.SR.fw fw2) (by simpa using hl)
      have ht := (fw.trans fw2).take
      have hvb : (0 : Nat) = 0 := rfl
      try simp only [e5, hrp, ht, go_sem, V.s.injEq, Value.bool.injEq, ↓reduceIte, Nat.reduceEqDiff, Nat.reduceBEq, Nat.reduceAdd, Nat.reduceSub, Nat.reduceLT, Nat.reduceLeDiff, Int.reduceLT, Int.reduceLE, Int.reduceEq, Int.reduceToNat, List.append_assoc, List.length_append, Vm.get_app, Vm.set_app, Vm.get_appL, Vm.get_appL0, Vm.set_appL, Vm.set_appL0, Nat.le_refl, Nat.le_add_right, okAt]
      repeat' (
        first | refine wpC_cases ?_ ?_ | refine wpU_casesT ?_ ?_ | refine wpU_casesF ?_ ?_
        all_goals intro hvc
        all_goals first | replace hvc := not_of_true hvc | replace hvc := not_of_false hvc | skip
        all_goals first | subst hvc | replace hvb := And.intro hvc hvb
        all_goals try simp only [hvb, e5, hrp, ht, go_sem, V.s.injEq, Value.bool.injEq, ↓reduceIte, Nat.reduceEqDiff, Nat.reduceBEq, Nat.reduceAdd, Nat.reduceSub, Nat.reduceLT, Nat.reduceLeDiff, Int.reduceLT, Int.reduceLE, Int.reduceEq, Int.reduceToNat, List.append_assoc, List.length_append, Vm.get_app, Vm.set_app, Vm.get_appL, Vm.get_appL0, Vm.set_appL, Vm.set_appL0, Nat.le_refl, Nat.le_add_right, okAt])
end Go.Proofs.Ytkkncdokkdamcaa
