/- Deeds against an ideal map. Conditions: none. -/
import Derived.Test.YtkkncdokkdamcaaCS25
import Derived.Test.YtkkncdokkdamcaaCM23
namespace Go.Proofs.Ytkkncdokkdamcaa
open Go Go.Vm Go.Proofs Go.Cl
set_option linter.unusedSimpArgs false
set_option linter.unusedVariables false
set_option maxRecDepth 100000
def stI (l : List Deed) : Nat → Nat → List Vault
  | 0 => fun _ => []
  | i + 1 => (idealDo (stI l i) (l.getD i default).request).2
def repI (l : List Deed) (i : Nat) : Reply := (idealDo (stI l i) (l.getD i default).request).1
/-- The first deed that is answered in another way. -/
def firstI (rep : Nat → Reply) (l : List Deed) : Nat → Int
  | 0 => -1
  | i + 1 => if 0 ≤ firstI rep l i then firstI rep l i else if rep i = (l.getD i default).reply then -1 else i
theorem firstI_stop (rep : Nat → Reply) (l : List Deed) (i : Nat) (h : firstI rep l i = -1) (hr : rep i ≠ (l.getD i default).reply) (n : Nat) (hn : i < n) : firstI rep l n = i := by
  induction n with
  | zero => omega
  | succ n ih =>
    by_cases c : i = n
    · subst c
      simp only [firstI, h, if_neg hr]
      rfl
    · have := ih (by omega)
      simp only [firstI, this]
      rw [if_pos (by omega)]
theorem MOk_nil : MOk (fun _ => []) := fun i hi => ⟨List.Pairwise.nil, by simp, by simp⟩
theorem stI_ok {l : List Deed} (hw : ∀ x ∈ l, x.request.iD.length = 4) : ∀ i, i ≤ l.length → MOk (stI l i) := by
  intro i
  induction i with
  | zero => intro _; exact MOk_nil
  | succ i ih =>
    intro hi
    refine (ih (by omega)).idealDo _ ?_
    have : i < l.length := by omega
    rw [List.getD_eq_getElem?_getD, List.getElem?_eq_getElem this]
    exact hw _ (List.getElem_mem this)
theorem Check_ok (b : Nat) (h : Hp) (x : V) (l : List Deed) (hx : SR h x (some 93) (l.map Deed.enc)) (hl : l.length ≤ 1000000) (hw : ∀ x ∈ l, x.request.iD.length = 4) :
    run fns pr b 46 [x] h = some (.s (.int .i64 (firstI (repI l) l l.length)), h) := by
  refine Vm.runP (nt := 24) rfl fit46 (by simp) ?_
  have hlx := fun cf base h0 => hx.o_len (cf := cf) (base := base) (h := h0)
  simp only [List.length_map] at hlx
  obtain ⟨v0, H0, e0', F0, rfl, m0, f0, hF0⟩ := INew_ok h.length h (Nat.le_refl _)
  have hvb : (0 : Nat) = 0 := rfl
  try simp only [B46, B46R0, B46L0, e0', hlx, go_sem, V.s.injEq, Value.bool.injEq, ↓reduceIte, Nat.reduceEqDiff, Nat.reduceBEq, Nat.reduceAdd, Nat.reduceSub, Nat.reduceLT, Nat.reduceLeDiff, Int.reduceLT, Int.reduceLE, Int.reduceEq, Int.reduceToNat, List.append_assoc, List.length_append, Vm.get_app, Vm.set_app, Vm.get_appL, Vm.get_appL0, Vm.set_appL, Vm.set_appL0, Nat.le_refl, Nat.le_add_right, okAt]
  repeat' (
    first | refine wpC_cases ?_ ?_ | refine wpU_casesT ?_ ?_ | refine wpU_casesF ?_ ?_
    all_goals intro hvc
    all_goals first | replace hvc := not_of_true hvc | replace hvc := not_of_false hvc | skip
    all_goals first | subst hvc | replace hvb := And.intro hvc hvb
    all_goals try simp only [hvb, B46, B46R0, B46L0, e0', hlx, go_sem, V.s.injEq, Value.bool.injEq, ↓reduceIte, Nat.reduceEqDiff, Nat.reduceBEq, Nat.reduceAdd, Nat.reduceSub, Nat.reduceLT, Nat.reduceLeDiff, Int.reduceLT, Int.reduceLE, Int.reduceEq, Int.reduceToNat, List.append_assoc, List.length_append, Vm.get_app, Vm.set_app, Vm.get_appL, Vm.get_appL0, Vm.set_appL, Vm.set_appL0, Nat.le_refl, Nat.le_add_right, okAt])
  refine wp_for (fun n e H => ∃ i F, n = l.length - i ∧ i ≤ l.length ∧ e 9 = .s (.int .i64 (i : Nat)) ∧ e 8 = .s (.int .i64 (l.length : Nat)) ∧ e 7 = x ∧ e 3 = .ptr h.length [0] 1 ∧ firstI (repI l) l i = -1 ∧ MR H h.length (stI l i) F ∧ Fw [] h H ∧ (∀ j ∈ F, h.length ≤ j))
    (fun e H => firstI (repI l) l l.length = -1 ∧ Fw [] h H)
    l.length _ _ ⟨0, F0, rfl, by omega, rfl, rfl, rfl, rfl, rfl, m0, f0, hF0⟩ ?_ ?_
  · rintro n e H ⟨i, F, rfl, hi, e9, e8, e7, e3, hfi, mr, fw, hF⟩
    by_cases c : i < l.length
    · have c' : (i : Int) < l.length := by omega
      have hsx := hx.fw fw
      have hia := fun cf base => hsx.o_ias (cf := cf) (base := base) (k := .i64) (i := i) (by simpa using c)
      have hlo := fun cf base => hsx.o_ld (cf := cf) (base := base) (i := i) (v := (l[i]).enc) (by simp [c]) rfl
      have hq4 : (l[i]).request.iD.length = 4 := hw _ (List.getElem_mem c)
      have hok := stI_ok hw i hi
      have hgd : l.getD i default = l[i] := by rw [List.getD_eq_getElem?_getD, List.getElem?_eq_getElem c]; rfl
      have hst : stI l (i + 1) = (idealDo (stI l i) (l[i]).request).2 := by rw [← hgd]; rfl
      have hrp : repI l i = (idealDo (stI l i) (l[i]).request).1 := by rw [← hgd]; rfl
      have hfs : firstI (repI l) l (i + 1) = if repI l i = (l[i]).reply then -1 else (i : Int) := by simp only [firstI, hfi, hgd]; rfl
      have hst2 := firstI_stop (repI l) l i hfi
      rw [hgd] at hst2
      have gr : ∀ k, decide (h.length ≤ H.length + k) = true := fun k => decide_eq_true (Nat.le_trans fw.len (Nat.le_add_right _ _))
      have gr0 := gr 0
      rw [Nat.add_zero] at gr0
      have hwr : IntKind.i64.wrap ((i : Int) + 1) = ((i + 1 : Nat) : Int) := wrap_small (by omega)
      obtain ⟨d, hd⟩ : ∃ d, l[i] = d := ⟨_, rfl⟩
      rw [hd] at hlo hq4 hst hrp hfs hst2
      obtain ⟨HA, hHA⟩ : ∃ HA : Hp, H ++ [Blk.cells (some 93) [d.enc]] = HA := ⟨_, rfl⟩
      have hqb : HA[H.length]? = some (Blk.cells (some 93) [d.enc]) := by rw [← hHA]; exact get_app0 _ _
      have fA : Fw [] H HA := by rw [← hHA]; exact Fw.app _ _ _
      have hlA : HA.length = H.length + 1 := by rw [← hHA]; simp
      have mA := mr.mono fA (by simp)
      have mlt := mr.lt
      obtain ⟨v1, HC, d1, F1, rfl, m1, fC, hF1⟩ := IDo_ok h.length HA h.length (stI l i) F d.request false hF mA hok (by omega)
      have hqb2 := fC.old _ _ hqb (fun hj => by have := mlt _ hj; omega)
      have hsm := fun h0 (a b : Reply) => sameJ_ok h.length h0 false false a b
      have fD' : Fw [] h HC := (fw.trans fA).new fC (fun j hj => .inl (hF j hj))
      have hF1' : ∀ j ∈ F1, h.length ≤ j := fun j hj => (hF1 j hj).elim (hF j) fun h' => by have := fw.len; omega
      rw [← hst] at m1
      rw [← hrp] at d1
      generalize repI l i = rep at *
      simp only [Deed.enc, Request.enc_F, Reply.enc_F] at hqb hqb2 hlo hHA d1
      have ty1 : ∀ r : Reply, (Reply.encF false r).ty = some 39 := fun r => by rfl
      have so1 : ∀ r : Reply, (Reply.encF false r).solid = true := fun r => by rfl
      by_cases p : rep = d.reply
      · rw [if_pos p] at hfs
        have hvb : (0 : Nat) = 0 := rfl
        try simp only [e9, e8, e7, e3, c', hia, hlo, hHA, d1, Request.enc_F, Reply.enc_F, hqb, hqb2, hsm, p, gr, gr0, hwr, ty1, so1, encF_tyQ, encF_soQ, go_sem, V.s.injEq, Value.bool.injEq, ↓reduceIte, Nat.reduceEqDiff, Nat.reduceBEq, Nat.reduceAdd, Nat.reduceSub, Nat.reduceLT, Nat.reduceLeDiff, Int.reduceLT, Int.reduceLE, Int.reduceEq, Int.reduceToNat, List.append_assoc, List.length_append, Vm.get_app, Vm.set_app, Vm.get_appL, Vm.get_appL0, Vm.set_appL, Vm.set_appL0, Nat.le_refl, Nat.le_add_right, okAt]
        repeat' (
          first | refine wpC_cases ?_ ?_ | refine wpU_casesT ?_ ?_ | refine wpU_casesF ?_ ?_
          all_goals intro hvc
          all_goals first | replace hvc := not_of_true hvc | replace hvc := not_of_false hvc | skip
          all_goals first | subst hvc | replace hvb := And.intro hvc hvb
          all_goals try simp only [hvb, e9, e8, e7, e3, c', hia, hlo, hHA, d1, Request.enc_F, Reply.enc_F, hqb, hqb2, hsm, p, gr, gr0, hwr, ty1, so1, encF_tyQ, encF_soQ, go_sem, V.s.injEq, Value.bool.injEq, ↓reduceIte, Nat.reduceEqDiff, Nat.reduceBEq, Nat.reduceAdd, Nat.reduceSub, Nat.reduceLT, Nat.reduceLeDiff, Int.reduceLT, Int.reduceLE, Int.reduceEq, Int.reduceToNat, List.append_assoc, List.length_append, Vm.get_app, Vm.set_app, Vm.get_appL, Vm.get_appL0, Vm.set_appL, Vm.set_appL0, Nat.le_refl, Nat.le_add_right, okAt])
        all_goals exact ⟨l.length - (i + 1), by omega, i + 1, F1, rfl, by omega, rfl, hfs, m1, fD', hF1'⟩
      · have hst2 := hst2 p l.length c
        have hvb : (0 : Nat) = 0 := rfl
        try simp only [e9, e8, e7, e3, c', hia, hlo, hHA, d1, Request.enc_F, Reply.enc_F, hqb, hqb2, hsm, p, gr, gr0, hwr, ty1, so1, encF_tyQ, encF_soQ, go_sem, V.s.injEq, Value.bool.injEq, ↓reduceIte, Nat.reduceEqDiff, Nat.reduceBEq, Nat.reduceAdd, Nat.reduceSub, Nat.reduceLT, Nat.reduceLeDiff, Int.reduceLT, Int.reduceLE, Int.reduceEq, Int.reduceToNat, List.append_assoc, List.length_append, Vm.get_app, Vm.set_app, Vm.get_appL, Vm.get_appL0, Vm.set_appL, Vm.set_appL0, Nat.le_refl, Nat.le_add_right, okAt]
        repeat' (
          first | refine wpC_cases ?_ ?_ | refine wpU_casesT ?_ ?_ | refine wpU_casesF ?_ ?_
          all_goals intro hvc
          all_goals first | replace hvc := not_of_true hvc | replace hvc := not_of_false hvc | skip
          all_goals first | subst hvc | replace hvb := And.intro hvc hvb
          all_goals try simp only [hvb, e9, e8, e7, e3, c', hia, hlo, hHA, d1, Request.enc_F, Reply.enc_F, hqb, hqb2, hsm, p, gr, gr0, hwr, ty1, so1, encF_tyQ, encF_soQ, go_sem, V.s.injEq, Value.bool.injEq, ↓reduceIte, Nat.reduceEqDiff, Nat.reduceBEq, Nat.reduceAdd, Nat.reduceSub, Nat.reduceLT, Nat.reduceLeDiff, Int.reduceLT, Int.reduceLE, Int.reduceEq, Int.reduceToNat, List.append_assoc, List.length_append, Vm.get_app, Vm.set_app, Vm.get_appL, Vm.get_appL0, Vm.set_appL, Vm.set_appL0, Nat.le_refl, Nat.le_add_right, okAt])
        all_goals exact ⟨by rw [hst2], fD'.take.symm⟩
    · have c' : ¬ (i : Int) < l.length := by omega
      have : i = l.length := by omega
      subst this
      have hvb : (0 : Nat) = 0 := rfl
      try simp only [e9, e8, e7, e3, c', go_sem, V.s.injEq, Value.bool.injEq, ↓reduceIte, Nat.reduceEqDiff, Nat.reduceBEq, Nat.reduceAdd, Nat.reduceSub, Nat.reduceLT, Nat.reduceLeDiff, Int.reduceLT, Int.reduceLE, Int.reduceEq, Int.reduceToNat, List.append_assoc, List.length_append, Vm.get_app, Vm.set_app, Vm.get_appL, Vm.get_appL0, Vm.set_appL, Vm.set_appL0, Nat.le_refl, Nat.le_add_right, okAt]
      repeat' (
        first | refine wpC_cases ?_ ?_ | refine wpU_casesT ?_ ?_ | refine wpU_casesF ?_ ?_
        all_goals intro hvc
        all_goals first | replace hvc := not_of_true hvc | replace hvc := not_of_false hvc | skip
        all_goals first | subst hvc | replace hvb := And.intro hvc hvb
        all_goals try simp only [hvb, e9, e8, e7, e3, c', go_sem, V.s.injEq, Value.bool.injEq, ↓reduceIte, Nat.reduceEqDiff, Nat.reduceBEq, Nat.reduceAdd, Nat.reduceSub, Nat.reduceLT, Nat.reduceLeDiff, Int.reduceLT, Int.reduceLE, Int.reduceEq, Int.reduceToNat, List.append_assoc, List.length_append, Vm.get_app, Vm.set_app, Vm.get_appL, Vm.get_appL0, Vm.set_appL, Vm.set_appL0, Nat.le_refl, Nat.le_add_right, okAt])
      all_goals exact ⟨hfi, fw⟩
  · rintro e H ⟨e7, fw⟩
    have ht := fw.take
    have hvb : (0 : Nat) = 0 := rfl
    try simp only [e7, ht, go_sem, V.s.injEq, Value.bool.injEq, ↓reduceIte, Nat.reduceEqDiff, Nat.reduceBEq, Nat.reduceAdd, Nat.reduceSub, Nat.reduceLT, Nat.reduceLeDiff, Int.reduceLT, Int.reduceLE, Int.reduceEq, Int.reduceToNat, List.append_assoc, List.length_append, Vm.get_app, Vm.set_app, Vm.get_appL, Vm.get_appL0, Vm.set_appL, Vm.set_appL0, Nat.le_refl, Nat.le_add_right, okAt]
    repeat' (
      first | refine wpC_cases ?_ ?_ | refine wpU_casesT ?_ ?_ | refine wpU_casesF ?_ ?_
      all_goals intro hvc
      all_goals first | replace hvc := not_of_true hvc | replace hvc := not_of_false hvc | skip
      all_goals first | subst hvc | replace hvb := And.intro hvc hvb
      all_goals try simp only [hvb, e7, ht, go_sem, V.s.injEq, Value.bool.injEq, ↓reduceIte, Nat.reduceEqDiff, Nat.reduceBEq, Nat.reduceAdd, Nat.reduceSub, Nat.reduceLT, Nat.reduceLeDiff, Int.reduceLT, Int.reduceLE, Int.reduceEq, Int.reduceToNat, List.append_assoc, List.length_append, Vm.get_app, Vm.set_app, Vm.get_appL, Vm.get_appL0, Vm.set_appL, Vm.set_appL0, Nat.le_refl, Nat.le_add_right, okAt])
theorem Final_ok (b : Nat) (h : Hp) (x : V) (l : List Deed) (hx : SR h x (some 93) (l.map Deed.enc)) (hl : l.length ≤ 1000000) (hw : ∀ x ∈ l, x.request.iD.length = 4) :
    run fns pr b 48 [x] h = some (.imm false (some 74) ((allP (stI l l.length) 16).map Vault.enc), h) := by
  refine Vm.runP (nt := 20) rfl fit48 (by simp) ?_
  have hlx := fun cf base h0 => hx.o_len (cf := cf) (base := base) (h := h0)
  simp only [List.length_map] at hlx
  obtain ⟨v0, H0, e0', F0, rfl, m0, f0, hF0⟩ := INew_ok h.length h (Nat.le_refl _)
  have hvb : (0 : Nat) = 0 := rfl
  try simp only [B48, B48R0, B48L0, e0', hlx, go_sem, V.s.injEq, Value.bool.injEq, ↓reduceIte, Nat.reduceEqDiff, Nat.reduceBEq, Nat.reduceAdd, Nat.reduceSub, Nat.reduceLT, Nat.reduceLeDiff, Int.reduceLT, Int.reduceLE, Int.reduceEq, Int.reduceToNat, List.append_assoc, List.length_append, Vm.get_app, Vm.set_app, Vm.get_appL, Vm.get_appL0, Vm.set_appL, Vm.set_appL0, Nat.le_refl, Nat.le_add_right, okAt]
  repeat' (
    first | refine wpC_cases ?_ ?_ | refine wpU_casesT ?_ ?_ | refine wpU_casesF ?_ ?_
    all_goals intro hvc
    all_goals first | replace hvc := not_of_true hvc | replace hvc := not_of_false hvc | skip
    all_goals first | subst hvc | replace hvb := And.intro hvc hvb
    all_goals try simp only [hvb, B48, B48R0, B48L0, e0', hlx, go_sem, V.s.injEq, Value.bool.injEq, ↓reduceIte, Nat.reduceEqDiff, Nat.reduceBEq, Nat.reduceAdd, Nat.reduceSub, Nat.reduceLT, Nat.reduceLeDiff, Int.reduceLT, Int.reduceLE, Int.reduceEq, Int.reduceToNat, List.append_assoc, List.length_append, Vm.get_app, Vm.set_app, Vm.get_appL, Vm.get_appL0, Vm.set_appL, Vm.set_appL0, Nat.le_refl, Nat.le_add_right, okAt])
  refine wp_for (fun n e H => ∃ i F, n = l.length - i ∧ i ≤ l.length ∧ e 9 = .s (.int .i64 (i : Nat)) ∧ e 8 = .s (.int .i64 (l.length : Nat)) ∧ e 7 = x ∧ e 3 = .ptr h.length [0] 1 ∧ MR H h.length (stI l i) F ∧ Fw [] h H ∧ (∀ j ∈ F, h.length ≤ j))
    (fun e H => ∃ F, e 3 = .ptr h.length [0] 1 ∧ MR H h.length (stI l l.length) F ∧ Fw [] h H)
    l.length _ _ ⟨0, F0, rfl, by omega, rfl, rfl, rfl, rfl, m0, f0, hF0⟩ ?_ ?_
  · rintro n e H ⟨i, F, rfl, hi, e9, e8, e7, e3, mr, fw, hF⟩
    by_cases c : i < l.length
    · have c' : (i : Int) < l.length := by omega
      have hsx := hx.fw fw
      have hia := fun cf base => hsx.o_ias (cf := cf) (base := base) (k := .i64) (i := i) (by simpa using c)
      have hlo := fun cf base => hsx.o_ld (cf := cf) (base := base) (i := i) (v := (l[i]).enc) (by simp [c]) rfl
      have hq4 : (l[i]).request.iD.length = 4 := hw _ (List.getElem_mem c)
      have hok := stI_ok hw i hi
      have hgd : l.getD i default = l[i] := by rw [List.getD_eq_getElem?_getD, List.getElem?_eq_getElem c]; rfl
      have hst : stI l (i + 1) = (idealDo (stI l i) (l[i]).request).2 := by rw [← hgd]; rfl
      have gr : ∀ k, decide (h.length ≤ H.length + k) = true := fun k => decide_eq_true (Nat.le_trans fw.len (Nat.le_add_right _ _))
      have gr0 := gr 0
      rw [Nat.add_zero] at gr0
      have hwr : IntKind.i64.wrap ((i : Int) + 1) = ((i + 1 : Nat) : Int) := wrap_small (by omega)
      obtain ⟨d, hd⟩ : ∃ d, l[i] = d := ⟨_, rfl⟩
      rw [hd] at hlo hq4 hst
      obtain ⟨HA, hHA⟩ : ∃ HA : Hp, H ++ [Blk.cells (some 93) [d.enc]] = HA := ⟨_, rfl⟩
      have hqb : HA[H.length]? = some (Blk.cells (some 93) [d.enc]) := by rw [← hHA]; exact get_app0 _ _
      have fA : Fw [] H HA := by rw [← hHA]; exact Fw.app _ _ _
      have hlA : HA.length = H.length + 1 := by rw [← hHA]; simp
      have mA := mr.mono fA (by simp)
      have mlt := mr.lt
      obtain ⟨v1, HC, d1, F1, rfl, m1, fC, hF1⟩ := IDo_ok h.length HA h.length (stI l i) F d.request false hF mA hok (by omega)
      have hqb2 := fC.old _ _ hqb (fun hj => by have := mlt _ hj; omega)
      have hsm := fun h0 (a b : Reply) => sameJ_ok h.length h0 false false a b
      have fD' : Fw [] h HC := (fw.trans fA).new fC (fun j hj => .inl (hF j hj))
      have hF1' : ∀ j ∈ F1, h.length ≤ j := fun j hj => (hF1 j hj).elim (hF j) fun h' => by have := fw.len; omega
      rw [← hst] at m1
      generalize (idealDo (stI l i) d.request).1 = rep at *
      simp only [Deed.enc, Request.enc_F, Reply.enc_F] at hqb hqb2 hlo hHA d1
      have ty1 : ∀ r : Reply, (Reply.encF false r).ty = some 39 := fun r => by rfl
      have so1 : ∀ r : Reply, (Reply.encF false r).solid = true := fun r => by rfl
      have hvb : (0 : Nat) = 0 := rfl
      try simp only [e9, e8, e7, e3, c', hia, hlo, hHA, d1, Request.enc_F, Reply.enc_F, hqb, hqb2, gr, gr0, hwr, ty1, so1, encF_tyQ, encF_soQ, go_sem, V.s.injEq, Value.bool.injEq, ↓reduceIte, Nat.reduceEqDiff, Nat.reduceBEq, Nat.reduceAdd, Nat.reduceSub, Nat.reduceLT, Nat.reduceLeDiff, Int.reduceLT, Int.reduceLE, Int.reduceEq, Int.reduceToNat, List.append_assoc, List.length_append, Vm.get_app, Vm.set_app, Vm.get_appL, Vm.get_appL0, Vm.set_appL, Vm.set_appL0, Nat.le_refl, Nat.le_add_right, okAt]
      repeat' (
        first | refine wpC_cases ?_ ?_ | refine wpU_casesT ?_ ?_ | refine wpU_casesF ?_ ?_
        all_goals intro hvc
        all_goals first | replace hvc := not_of_true hvc | replace hvc := not_of_false hvc | skip
        all_goals first | subst hvc | replace hvb := And.intro hvc hvb
        all_goals try simp only [hvb, e9, e8, e7, e3, c', hia, hlo, hHA, d1, Request.enc_F, Reply.enc_F, hqb, hqb2, gr, gr0, hwr, ty1, so1, encF_tyQ, encF_soQ, go_sem, V.s.injEq, Value.bool.injEq, ↓reduceIte, Nat.reduceEqDiff, Nat.reduceBEq, Nat.reduceAdd, Nat.reduceSub, Nat.reduceLT, Nat.reduceLeDiff, Int.reduceLT, Int.reduceLE, Int.reduceEq, Int.reduceToNat, List.append_assoc, List.length_append, Vm.get_app, Vm.set_app, Vm.get_appL, Vm.get_appL0, Vm.set_appL, Vm.set_appL0, Nat.le_refl, Nat.le_add_right, okAt])
      all_goals exact ⟨l.length - (i + 1), by omega, i + 1, F1, rfl, by omega, rfl, m1, fD', hF1'⟩
    · have c' : ¬ (i : Int) < l.length := by omega
      have : i = l.length := by omega
      subst this
      have hvb : (0 : Nat) = 0 := rfl
      try simp only [e9, e8, e7, e3, c', go_sem, V.s.injEq, Value.bool.injEq, ↓reduceIte, Nat.reduceEqDiff, Nat.reduceBEq, Nat.reduceAdd, Nat.reduceSub, Nat.reduceLT, Nat.reduceLeDiff, Int.reduceLT, Int.reduceLE, Int.reduceEq, Int.reduceToNat, List.append_assoc, List.length_append, Vm.get_app, Vm.set_app, Vm.get_appL, Vm.get_appL0, Vm.set_appL, Vm.set_appL0, Nat.le_refl, Nat.le_add_right, okAt]
      repeat' (
        first | refine wpC_cases ?_ ?_ | refine wpU_casesT ?_ ?_ | refine wpU_casesF ?_ ?_
        all_goals intro hvc
        all_goals first | replace hvc := not_of_true hvc | replace hvc := not_of_false hvc | skip
        all_goals first | subst hvc | replace hvb := And.intro hvc hvb
        all_goals try simp only [hvb, e9, e8, e7, e3, c', go_sem, V.s.injEq, Value.bool.injEq, ↓reduceIte, Nat.reduceEqDiff, Nat.reduceBEq, Nat.reduceAdd, Nat.reduceSub, Nat.reduceLT, Nat.reduceLeDiff, Int.reduceLT, Int.reduceLE, Int.reduceEq, Int.reduceToNat, List.append_assoc, List.length_append, Vm.get_app, Vm.set_app, Vm.get_appL, Vm.get_appL0, Vm.set_appL, Vm.set_appL0, Nat.le_refl, Nat.le_add_right, okAt])
      all_goals exact ⟨F, mr, fw⟩
  · rintro e H ⟨F, e3, mr, fw⟩
    have ht := fw.take
    have hal := IAll_ok h.length H h.length _ F mr (stI_ok hw _ (Nat.le_refl _))
    have hf := frz_imm h.length H false (some 74) ((allP (stI l l.length) 16).map Vault.enc) (encs_plain _)
    have hvb : (0 : Nat) = 0 := rfl
    try simp only [e3, hal, hf, ht, go_sem, V.s.injEq, Value.bool.injEq, ↓reduceIte, Nat.reduceEqDiff, Nat.reduceBEq, Nat.reduceAdd, Nat.reduceSub, Nat.reduceLT, Nat.reduceLeDiff, Int.reduceLT, Int.reduceLE, Int.reduceEq, Int.reduceToNat, List.append_assoc, List.length_append, Vm.get_app, Vm.set_app, Vm.get_appL, Vm.get_appL0, Vm.set_appL, Vm.set_appL0, Nat.le_refl, Nat.le_add_right, okAt]
    repeat' (
      first | refine wpC_cases ?_ ?_ | refine wpU_casesT ?_ ?_ | refine wpU_casesF ?_ ?_
      all_goals intro hvc
      all_goals first | replace hvc := not_of_true hvc | replace hvc := not_of_false hvc | skip
      all_goals first | subst hvc | replace hvb := And.intro hvc hvb
      all_goals try simp only [hvb, e3, hal, hf, ht, go_sem, V.s.injEq, Value.bool.injEq, ↓reduceIte, Nat.reduceEqDiff, Nat.reduceBEq, Nat.reduceAdd, Nat.reduceSub, Nat.reduceLT, Nat.reduceLeDiff, Int.reduceLT, Int.reduceLE, Int.reduceEq, Int.reduceToNat, List.append_assoc, List.length_append, Vm.get_app, Vm.set_app, Vm.get_appL, Vm.get_appL0, Vm.set_appL, Vm.set_appL0, Nat.le_refl, Nat.le_add_right, okAt])
end Go.Proofs.Ytkkncdokkdamcaa
