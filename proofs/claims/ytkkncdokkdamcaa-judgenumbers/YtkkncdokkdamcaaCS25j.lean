/- JudgeNumbers. Conditions: none. -/
import Derived.Test.YtkkncdokkdamcaaCS25h
namespace Go.Proofs.Ytkkncdokkdamcaa
open Go Go.Vm Go.Proofs Go.Cl
set_option linter.unusedSimpArgs false
set_option linter.unusedVariables false
set_option maxRecDepth 100000
theorem ground_W (x : Draw) : x.enc.ground = true := by
  have : x.enc.plain = true := by simp only [Draw.enc, Q.enc, go_sem]
  exact ground_plain _ this
def ops6 : List V := [.s (.int .i64 0), .s (.int .i64 1), .s (.int .i64 1), .s (.int .i64 2), .s (.int .i64 1), .s (.int .i64 3)]
theorem ops6_get (i : Nat) (h : i < 6) : ∃ o : Int, 0 ≤ o ∧ o ≤ 3 ∧ ops6[i]? = some (.s (.int .i64 o)) := by
  have : i = 0 ∨ i = 1 ∨ i = 2 ∨ i = 3 ∨ i = 4 ∨ i = 5 := by omega
  rcases this with h | h | h | h | h | h <;> subst h <;> exact ⟨_, by omega, by omega, rfl⟩
theorem JudgeNumbers_run (b : Nat) (h : Hp) : run fns pr b 8 [] h = some (.s (.bool true), h) := by
  refine Vm.runP (nt := 49) rfl fit8 (by simp) ?_
  have hvb : (0 : Nat) = 0 := rfl
  try simp only [B8, B8R0, B8R2, B8L2, B8L4, B8L0, go_sem, V.s.injEq, Value.bool.injEq, ↓reduceIte, Nat.reduceEqDiff, Nat.reduceBEq, Nat.reduceAdd, Nat.reduceSub, Nat.reduceLT, Nat.reduceLeDiff, Int.reduceLT, Int.reduceLE, Int.reduceEq, Int.reduceToNat, List.append_assoc, List.length_append, Vm.get_app, Vm.set_app, Vm.get_appL, Vm.get_appL0, Vm.set_appL, Vm.set_appL0, Nat.le_refl, Nat.le_add_right, okAt]
  repeat' (
    first | refine wpC_cases ?_ ?_ | refine wpU_casesT ?_ ?_ | refine wpU_casesF ?_ ?_
    all_goals intro hvc
    all_goals first | replace hvc := not_of_true hvc | replace hvc := not_of_false hvc | skip
    all_goals first | subst hvc | replace hvb := And.intro hvc hvb
    all_goals try simp only [hvb, B8, B8R0, B8R2, B8L2, B8L4, B8L0, go_sem, V.s.injEq, Value.bool.injEq, ↓reduceIte, Nat.reduceEqDiff, Nat.reduceBEq, Nat.reduceAdd, Nat.reduceSub, Nat.reduceLT, Nat.reduceLeDiff, Int.reduceLT, Int.reduceLE, Int.reduceEq, Int.reduceToNat, List.append_assoc, List.length_append, Vm.get_app, Vm.set_app, Vm.get_appL, Vm.get_appL0, Vm.set_appL, Vm.set_appL0, Nat.le_refl, Nat.le_add_right, okAt])
  refine wp_for (fun n e H => ∃ (i : Nat) (y : V) (k : Nat) (qs : List Draw), n = 40 - i ∧ i ≤ 40 ∧ e 2 = .s (.int .i64 (i : Nat)) ∧ e 1 = y ∧ XR H (some 57) k y (qs.map Draw.enc) ∧ qs.length = i ∧ (∀ x ∈ qs, x.wf) ∧ h.length ≤ k ∧ Fw [] h H)
    (fun e H => ∃ (y : V) (k : Nat) (qs : List Draw), e 1 = y ∧ XR H (some 57) k y (qs.map Draw.enc) ∧ qs.length = 40 ∧ (∀ x ∈ qs, x.wf) ∧ h.length ≤ k ∧ Fw [] h H)
    40 _ _ ⟨0, _, h.length, [], rfl, by omega, rfl, rfl, XR.nil _ _ _, rfl, by simp, Nat.le_refl _, Fw.refl _ _⟩ ?_ ?_
  · rintro n e H ⟨i, y, k, qs, rfl, hi, e2, e1, xr, hq, hw, hk, fw⟩
    by_cases c : i < 40
    · have c' : (i : Int) < 40 := by omega
      have rem : ∀ (a m : Nat), 0 < m → ∀ cf base h, opV cf base h (.bin .num .rem) [.s (.int .i64 (a : Int)), .s (.int .i64 (m : Int))] = some (.s (.int .i64 ((a % m : Nat) : Int)), h) := fun a m hm cf base h => by
        rw [o_rem cf base h .i64 _ (m : Int) (by omega), Int.tmod_eq_emod_of_nonneg (by omega)]; rfl
      have r6 := rem i 6 (by omega)
      have r5 := rem i 5 (by omega)
      have r2 := rem i 2 (by omega)
      simp only [Int.cast_ofNat_Int] at r6 r5 r2
      have hqo : ∀ cf base h, opV cf base h (.bin .num .quo) [.s (.int .i64 i), .s (.int .i64 9)] = some (.s (.int .i64 ((i / 9 : Nat) : Int)), h) := fun cf base h => by
        rw [o_quo cf base h .i64 _ 9 (by omega), Int.tdiv_eq_ediv_of_nonneg (by omega), wrap_i64 (by omega) (by omega)]; rfl
      have hwr : IntKind.i64.wrap ((i : Int) + 1) = ((i + 1 : Nat) : Int) := wrap_small (by omega)
      obtain ⟨o, ho0, ho3, hog⟩ := ops6_get (i % 6) (by omega)
      have j6 : ((i % 6 : Nat) : Int) < 6 := by omega
      have j60 : (0 : Int) ≤ ((i % 6 : Nat) : Int) := by omega
      have j6n : i % 6 < 6 := by omega
      have oty : ∀ o : Int, (V.s (.int .i64 o)).ty = none := fun _ => by rfl
      obtain ⟨q, hqd⟩ : ∃ q : Draw, (⟨⟨o, ((i % 5 : Nat) : Int), ((i % 2 : Nat) : Int), ((i / 9 : Nat) : Int), 2, 0, 0, [115]⟩, 0⟩ : Draw) = q := ⟨_, rfl⟩
      have hqw : q.wf := by rw [← hqd]; exact ⟨⟨by simp only; omega, by simp only; omega, by simp only; omega, by simp only; omega, by simp only; omega, by simp only; omega, by simp only; omega, by simp⟩, by simp only; omega⟩
      have qty : some 57 = q.enc.ty := by rfl
      have qso : q.enc.solid = true := by rfl
      have hqe : V.st 57 [.st 35 [.s (.int .i64 o), .s (.int .i64 ((i % 5 : Nat) : Int)), .s (.int .i64 ((i % 2 : Nat) : Int)), .s (.int .i64 ((i / 9 : Nat) : Int)), .s (.int .i64 2), ki, ku, .imm false none [.s (.int .u8 115)]], ki] = q.enc := by rw [← hqd]; rfl
      obtain ⟨G, hG⟩ : ∃ G : Hp, H ++ [Blk.cells none ops6, Blk.dead] = G := ⟨_, rfl⟩
      have xrG : XR G (some 57) k y (qs.map Draw.enc) := by rw [← hG]; exact xr.mono fun w hw => get_old hw _
      have fG : Fw [] h G := by rw [← hG]; exact fw.trans (Fw.app _ _ _)
      obtain ⟨y2, H2, k2, ap, xr2, hk2, hl2, _, hg2, hold2⟩ := xrG.pushL (n := h.length) (m := 1) (ys := [q.enc]) (bytes := 88) hk fG.len rfl (fun z hz => by simp at hz; subst hz; exact ground_W q) (by simp; omega)
      have xr2 : XR H2 (some 57) k2 y2 ((qs ++ [q]).map Draw.enc) := by rw [List.map_append]; exact xr2
      have f2 : Fw [] h H2 := fG.trans' (n := 0) hg2 hold2 hk
      have hGG : H ++ [Blk.cells none ops6, Blk.dead, Blk.cells (some 57) [q.enc]] = G ++ [Blk.cells (some 57) [q.enc]] := by rw [← hG]; simp
      have hGl : H.length + 2 = G.length := by rw [← hG]; simp
      simp only [ops6] at hog hGG
      have hvb : (0 : Nat) = 0 := rfl
      try simp only [B8, B8R0, B8R2, B8L2, B8L4, B8L0, e2, e1, c', r6, r5, r2, hqo, hwr, hog, j6, j60, j6n, oty, hqe, ← qty, qso, hGG, hGl, ap, Int.toNat_natCast, Int.cast_ofNat_Int, go_sem, V.s.injEq, Value.bool.injEq, ↓reduceIte, Nat.reduceEqDiff, Nat.reduceBEq, Nat.reduceAdd, Nat.reduceSub, Nat.reduceLT, Nat.reduceLeDiff, Int.reduceLT, Int.reduceLE, Int.reduceEq, Int.reduceToNat, List.append_assoc, List.length_append, Vm.get_app, Vm.set_app, Vm.get_appL, Vm.get_appL0, Vm.set_appL, Vm.set_appL0, Nat.le_refl, Nat.le_add_right, okAt]
      repeat' (
        first | refine wpC_cases ?_ ?_ | refine wpU_casesT ?_ ?_ | refine wpU_casesF ?_ ?_
        all_goals intro hvc
        all_goals first | replace hvc := not_of_true hvc | replace hvc := not_of_false hvc | skip
        all_goals first | subst hvc | replace hvb := And.intro hvc hvb
        all_goals try simp only [hvb, B8, B8R0, B8R2, B8L2, B8L4, B8L0, e2, e1, c', r6, r5, r2, hqo, hwr, hog, j6, j60, j6n, oty, hqe, ← qty, qso, hGG, hGl, ap, Int.toNat_natCast, Int.cast_ofNat_Int, go_sem, V.s.injEq, Value.bool.injEq, ↓reduceIte, Nat.reduceEqDiff, Nat.reduceBEq, Nat.reduceAdd, Nat.reduceSub, Nat.reduceLT, Nat.reduceLeDiff, Int.reduceLT, Int.reduceLE, Int.reduceEq, Int.reduceToNat, List.append_assoc, List.length_append, Vm.get_app, Vm.set_app, Vm.get_appL, Vm.get_appL0, Vm.set_appL, Vm.set_appL0, Nat.le_refl, Nat.le_add_right, okAt])
      all_goals exact ⟨40 - (i + 1), by omega, i + 1, y2, k2, qs ++ [q], rfl, by omega, rfl, rfl, xr2, by simp [hq], by intro x hx; rcases List.mem_append.1 hx with hx | hx; exact hw x hx; simp at hx; subst hx; exact hqw, hk2, f2⟩
    · have c' : ¬ (i : Int) < 40 := by omega
      have hvb : (0 : Nat) = 0 := rfl
      try simp only [B8, B8R0, B8R2, B8L2, B8L4, B8L0, e2, e1, c', go_sem, V.s.injEq, Value.bool.injEq, ↓reduceIte, Nat.reduceEqDiff, Nat.reduceBEq, Nat.reduceAdd, Nat.reduceSub, Nat.reduceLT, Nat.reduceLeDiff, Int.reduceLT, Int.reduceLE, Int.reduceEq, Int.reduceToNat, List.append_assoc, List.length_append, Vm.get_app, Vm.set_app, Vm.get_appL, Vm.get_appL0, Vm.set_appL, Vm.set_appL0, Nat.le_refl, Nat.le_add_right, okAt]
      repeat' (
        first | refine wpC_cases ?_ ?_ | refine wpU_casesT ?_ ?_ | refine wpU_casesF ?_ ?_
        all_goals intro hvc
        all_goals first | replace hvc := not_of_true hvc | replace hvc := not_of_false hvc | skip
        all_goals first | subst hvc | replace hvb := And.intro hvc hvb
        all_goals try simp only [hvb, B8, B8R0, B8R2, B8L2, B8L4, B8L0, e2, e1, c', go_sem, V.s.injEq, Value.bool.injEq, ↓reduceIte, Nat.reduceEqDiff, Nat.reduceBEq, Nat.reduceAdd, Nat.reduceSub, Nat.reduceLT, Nat.reduceLeDiff, Int.reduceLT, Int.reduceLE, Int.reduceEq, Int.reduceToNat, List.append_assoc, List.length_append, Vm.get_app, Vm.set_app, Vm.get_appL, Vm.get_appL0, Vm.set_appL, Vm.set_appL0, Nat.le_refl, Nat.le_add_right, okAt])
      all_goals exact ⟨y, k, qs, rfl, xr, by omega, hw, hk, fw⟩
  · rintro e H ⟨y, k, qs, e1, xr, hq, hw, hk, fw⟩
    have hvb : (0 : Nat) = 0 := rfl
    try simp only [e1, go_sem, V.s.injEq, Value.bool.injEq, ↓reduceIte, Nat.reduceEqDiff, Nat.reduceBEq, Nat.reduceAdd, Nat.reduceSub, Nat.reduceLT, Nat.reduceLeDiff, Int.reduceLT, Int.reduceLE, Int.reduceEq, Int.reduceToNat, List.append_assoc, List.length_append, Vm.get_app, Vm.set_app, Vm.get_appL, Vm.get_appL0, Vm.set_appL, Vm.set_appL0, Nat.le_refl, Nat.le_add_right, okAt]
    repeat' (
      first | refine wpC_cases ?_ ?_ | refine wpU_casesT ?_ ?_ | refine wpU_casesF ?_ ?_
      all_goals intro hvc
      all_goals first | replace hvc := not_of_true hvc | replace hvc := not_of_false hvc | skip
      all_goals first | subst hvc | replace hvb := And.intro hvc hvb
      all_goals try simp only [hvb, e1, go_sem, V.s.injEq, Value.bool.injEq, ↓reduceIte, Nat.reduceEqDiff, Nat.reduceBEq, Nat.reduceAdd, Nat.reduceSub, Nat.reduceLT, Nat.reduceLeDiff, Int.reduceLT, Int.reduceLE, Int.reduceEq, Int.reduceToNat, List.append_assoc, List.length_append, Vm.get_app, Vm.set_app, Vm.get_appL, Vm.get_appL0, Vm.set_appL, Vm.set_appL0, Nat.le_refl, Nat.le_add_right, okAt])
    refine wp_for (fun n e H' => ∃ i : Nat, n = 40 - i ∧ i ≤ 40 ∧ e 3 = .s (.int .i64 (i : Nat)) ∧ e 1 = y ∧ Fw [] H H')
      (fun e H' => Fw [] H H') 40 _ _ ⟨0, rfl, by omega, rfl, e1, Fw.refl _ _⟩ ?_ ?_
    · clear e1
      rintro n e H' ⟨i, rfl, hi, e3, e1, fw2⟩
      by_cases c : i < 40
      · have c' : (i : Int) < 40 := by omega
        have hwr : IntKind.i64.wrap ((i : Int) + 1) = ((i + 1 : Nat) : Int) := wrap_small (by omega)
        have hvb : (0 : Nat) = 0 := rfl
        try simp only [e3, e1, c', go_sem, V.s.injEq, Value.bool.injEq, ↓reduceIte, Nat.reduceEqDiff, Nat.reduceBEq, Nat.reduceAdd, Nat.reduceSub, Nat.reduceLT, Nat.reduceLeDiff, Int.reduceLT, Int.reduceLE, Int.reduceEq, Int.reduceToNat, List.append_assoc, List.length_append, Vm.get_app, Vm.set_app, Vm.get_appL, Vm.get_appL0, Vm.set_appL, Vm.set_appL0, Nat.le_refl, Nat.le_add_right, okAt]
        repeat' (
          first | refine wpC_cases ?_ ?_ | refine wpU_casesT ?_ ?_ | refine wpU_casesF ?_ ?_
          all_goals intro hvc
          all_goals first | replace hvc := not_of_true hvc | replace hvc := not_of_false hvc | skip
          all_goals first | subst hvc | replace hvb := And.intro hvc hvb
          all_goals try simp only [hvb, e3, e1, c', go_sem, V.s.injEq, Value.bool.injEq, ↓reduceIte, Nat.reduceEqDiff, Nat.reduceBEq, Nat.reduceAdd, Nat.reduceSub, Nat.reduceLT, Nat.reduceLeDiff, Int.reduceLT, Int.reduceLE, Int.reduceEq, Int.reduceToNat, List.append_assoc, List.length_append, Vm.get_app, Vm.set_app, Vm.get_appL, Vm.get_appL0, Vm.set_appL, Vm.set_appL0, Nat.le_refl, Nat.le_add_right, okAt])
        refine wp_for (fun n e H'' => ∃ t : Nat, n = 6 - t ∧ t ≤ 6 ∧ e 4 = .s (.int .i64 (t : Nat)) ∧ e 3 = .s (.int .i64 (i : Nat)) ∧ e 1 = y ∧ Fw [] H H'')
          (fun e H'' => e 3 = .s (.int .i64 (i : Nat)) ∧ e 1 = y ∧ Fw [] H H'') 6 _ _ ⟨0, rfl, by omega, rfl, e3, e1, fw2⟩ ?_ ?_
        · clear e1 e3
          rintro n e H'' ⟨t, rfl, ht, e4, e3, e1, fw3⟩
          by_cases d : t < 6
          · have d' : (t : Int) < 6 := by omega
            have hwt : IntKind.i64.wrap ((t : Int) + 1) = ((t + 1 : Nat) : Int) := wrap_small (by omega)
            have sx := xr.SR.fw fw3
            have hv : qs[i]? = some qs[i] := List.getElem?_eq_getElem (by omega)
            have hqi := hw _ (List.getElem_mem (by omega : i < qs.length))
            obtain ⟨q, hqd⟩ : ∃ q, qs[i] = q := ⟨_, rfl⟩
            rw [hqd] at hv hqi
            have hms : (qs.map Draw.enc).set i (.st 57 [Q.enc q.q, .s (.int .i64 (t : Nat))]) = (qs.set i ⟨q.q, (t : Nat)⟩).map Draw.enc := by rw [List.map_set]; rfl
            have hme : (qs.map Draw.enc)[i]? = some (.st 57 [Q.enc q.q, .s (.int .i64 q.turn)]) := by rw [List.getElem?_map, hv]; rfl
            have hml : (qs.map Draw.enc).length = 40 := by rw [List.length_map, hq]
            have hsl : (qs.set i ⟨q.q, (t : Nat)⟩).length = 40 := by rw [List.length_set, hq]
            have hsw : ∀ x ∈ qs.set i ⟨q.q, (t : Nat)⟩, x.wf := fun x hx => by
              rcases List.mem_or_eq_of_mem_set hx with hx | rfl
              · exact hw x hx
              · exact ⟨hqi.q, by simp only; omega⟩
            have hne : qs.map Draw.enc ≠ [] := fun e => by rw [e] at hml; simp at hml
            have ap := fun cf base => o_app_nil (cf := cf) (base := base) (bytes := 88) sx.src hne (by rw [hml]; omega)
            rw [hml] at ap
            have hmd := made_ok h.length (H'' ++ [Blk.cells (some 57) ((qs.set i ⟨q.q, (t : Nat)⟩).map Draw.enc)]) (.ref H''.length [] (some 57) 0 40 40) _ 40 (SR_ref (get_app0 _ _) (by rw [List.length_map, hsl])) (by omega) (by omega) hsw
            have hdl := madeD_len (qs.set i ⟨q.q, (t : Nat)⟩) (min (qs.set i ⟨q.q, (t : Nat)⟩).length 40)
            have hdi := madeD_id (qs.set i ⟨q.q, (t : Nat)⟩) (min (qs.set i ⟨q.q, (t : Nat)⟩).length 40)
            simp only [Int.cast_ofNat_Int] at hmd
            generalize madeD (qs.set i ⟨q.q, (t : Nat)⟩) (min (qs.set i ⟨q.q, (t : Nat)⟩).length 40) = M at *
            have hsm := fun h0 => same5_ok h.length h0 (.imm false (some 93) (M.map Deed.enc)) M (.inl ⟨false, rfl⟩) (by omega) hdi
            generalize (qs.set i ⟨q.q, (t : Nat)⟩).map Draw.enc = L' at *
            generalize qs.map Draw.enc = L at *
            have gr : ∀ k, decide (h.length ≤ H''.length + k) = true := fun k => decide_eq_true (by have := fw.len; have := fw3.len; omega)
            have gr0 := gr 0
            rw [Nat.add_zero] at gr0
            have i40 : i < 40 := c
            have c40 : (i : Int) < ((40 : Nat) : Int) := by omega
            have i0' : (0 : Int) ≤ (i : Int) := by omega
            have oty : ∀ o : Int, (V.s (.int .i64 o)).ty = none := fun _ => by rfl
            have hvb : (0 : Nat) = 0 := rfl
            try simp only [e4, e3, e1, d', ap, hml, hme, hms, c', c40, i40, i0', gr, gr0, oty, hmd, hsm, hwt, Int.toNat_natCast, go_sem, V.s.injEq, Value.bool.injEq, ↓reduceIte, Nat.reduceEqDiff, Nat.reduceBEq, Nat.reduceAdd, Nat.reduceSub, Nat.reduceLT, Nat.reduceLeDiff, Int.reduceLT, Int.reduceLE, Int.reduceEq, Int.reduceToNat, List.append_assoc, List.length_append, Vm.get_app, Vm.set_app, Vm.get_appL, Vm.get_appL0, Vm.set_appL, Vm.set_appL0, Nat.le_refl, Nat.le_add_right, okAt]
            repeat' (
              first | refine wpC_cases ?_ ?_ | refine wpU_casesT ?_ ?_ | refine wpU_casesF ?_ ?_
              all_goals intro hvc
              all_goals first | replace hvc := not_of_true hvc | replace hvc := not_of_false hvc | skip
              all_goals first | subst hvc | replace hvb := And.intro hvc hvb
              all_goals try simp only [hvb, e4, e3, e1, d', ap, hml, hme, hms, c', c40, i40, i0', gr, gr0, oty, hmd, hsm, hwt, Int.toNat_natCast, go_sem, V.s.injEq, Value.bool.injEq, ↓reduceIte, Nat.reduceEqDiff, Nat.reduceBEq, Nat.reduceAdd, Nat.reduceSub, Nat.reduceLT, Nat.reduceLeDiff, Int.reduceLT, Int.reduceLE, Int.reduceEq, Int.reduceToNat, List.append_assoc, List.length_append, Vm.get_app, Vm.set_app, Vm.get_appL, Vm.get_appL0, Vm.set_appL, Vm.set_appL0, Nat.le_refl, Nat.le_add_right, okAt])
            all_goals exact ⟨6 - (t + 1), by omega, t + 1, rfl, by omega, rfl, fw3.trans (Fw.app _ _ _)⟩
          · have d' : ¬ (t : Int) < 6 := by omega
            have hvb : (0 : Nat) = 0 := rfl
            try simp only [e4, e3, e1, d', go_sem, V.s.injEq, Value.bool.injEq, ↓reduceIte, Nat.reduceEqDiff, Nat.reduceBEq, Nat.reduceAdd, Nat.reduceSub, Nat.reduceLT, Nat.reduceLeDiff, Int.reduceLT, Int.reduceLE, Int.reduceEq, Int.reduceToNat, List.append_assoc, List.length_append, Vm.get_app, Vm.set_app, Vm.get_appL, Vm.get_appL0, Vm.set_appL, Vm.set_appL0, Nat.le_refl, Nat.le_add_right, okAt]
            repeat' (
              first | refine wpC_cases ?_ ?_ | refine wpU_casesT ?_ ?_ | refine wpU_casesF ?_ ?_
              all_goals intro hvc
              all_goals first | replace hvc := not_of_true hvc | replace hvc := not_of_false hvc | skip
              all_goals first | subst hvc | replace hvb := And.intro hvc hvb
              all_goals try simp only [hvb, e4, e3, e1, d', go_sem, V.s.injEq, Value.bool.injEq, ↓reduceIte, Nat.reduceEqDiff, Nat.reduceBEq, Nat.reduceAdd, Nat.reduceSub, Nat.reduceLT, Nat.reduceLeDiff, Int.reduceLT, Int.reduceLE, Int.reduceEq, Int.reduceToNat, List.append_assoc, List.length_append, Vm.get_app, Vm.set_app, Vm.get_appL, Vm.get_appL0, Vm.set_appL, Vm.set_appL0, Nat.le_refl, Nat.le_add_right, okAt])
            all_goals exact fw3
        · clear e1 e3
          rintro e H'' ⟨e3, e1, fw3⟩
          have hvb : (0 : Nat) = 0 := rfl
          try simp only [e3, e1, hwr, go_sem, V.s.injEq, Value.bool.injEq, ↓reduceIte, Nat.reduceEqDiff, Nat.reduceBEq, Nat.reduceAdd, Nat.reduceSub, Nat.reduceLT, Nat.reduceLeDiff, Int.reduceLT, Int.reduceLE, Int.reduceEq, Int.reduceToNat, List.append_assoc, List.length_append, Vm.get_app, Vm.set_app, Vm.get_appL, Vm.get_appL0, Vm.set_appL, Vm.set_appL0, Nat.le_refl, Nat.le_add_right, okAt]
          repeat' (
            first | refine wpC_cases ?_ ?_ | refine wpU_casesT ?_ ?_ | refine wpU_casesF ?_ ?_
            all_goals intro hvc
            all_goals first | replace hvc := not_of_true hvc | replace hvc := not_of_false hvc | skip
            all_goals first | subst hvc | replace hvb := And.intro hvc hvb
            all_goals try simp only [hvb, e3, e1, hwr, go_sem, V.s.injEq, Value.bool.injEq, ↓reduceIte, Nat.reduceEqDiff, Nat.reduceBEq, Nat.reduceAdd, Nat.reduceSub, Nat.reduceLT, Nat.reduceLeDiff, Int.reduceLT, Int.reduceLE, Int.reduceEq, Int.reduceToNat, List.append_assoc, List.length_append, Vm.get_app, Vm.set_app, Vm.get_appL, Vm.get_appL0, Vm.set_appL, Vm.set_appL0, Nat.le_refl, Nat.le_add_right, okAt])
          all_goals exact ⟨40 - (i + 1), by omega, i + 1, rfl, by omega, rfl, fw3⟩
      · have c' : ¬ (i : Int) < 40 := by omega
        have hvb : (0 : Nat) = 0 := rfl
        try simp only [e3, e1, c', go_sem, V.s.injEq, Value.bool.injEq, ↓reduceIte, Nat.reduceEqDiff, Nat.reduceBEq, Nat.reduceAdd, Nat.reduceSub, Nat.reduceLT, Nat.reduceLeDiff, Int.reduceLT, Int.reduceLE, Int.reduceEq, Int.reduceToNat, List.append_assoc, List.length_append, Vm.get_app, Vm.set_app, Vm.get_appL, Vm.get_appL0, Vm.set_appL, Vm.set_appL0, Nat.le_refl, Nat.le_add_right, okAt]
        repeat' (
          first | refine wpC_cases ?_ ?_ | refine wpU_casesT ?_ ?_ | refine wpU_casesF ?_ ?_
          all_goals intro hvc
          all_goals first | replace hvc := not_of_true hvc | replace hvc := not_of_false hvc | skip
          all_goals first | subst hvc | replace hvb := And.intro hvc hvb
          all_goals try simp only [hvb, e3, e1, c', go_sem, V.s.injEq, Value.bool.injEq, ↓reduceIte, Nat.reduceEqDiff, Nat.reduceBEq, Nat.reduceAdd, Nat.reduceSub, Nat.reduceLT, Nat.reduceLeDiff, Int.reduceLT, Int.reduceLE, Int.reduceEq, Int.reduceToNat, List.append_assoc, List.length_append, Vm.get_app, Vm.set_app, Vm.get_appL, Vm.get_appL0, Vm.set_appL, Vm.set_appL0, Nat.le_refl, Nat.le_add_right, okAt])
        all_goals exact fw2
    · clear e1
      rintro e H' fw2
      have hkn := known25_ok h.length H'
      have ht := (fw.trans fw2).take
      have hvb : (0 : Nat) = 0 := rfl
      try simp only [hkn, ht, go_sem, V.s.injEq, Value.bool.injEq, ↓reduceIte, Nat.reduceEqDiff, Nat.reduceBEq, Nat.reduceAdd, Nat.reduceSub, Nat.reduceLT, Nat.reduceLeDiff, Int.reduceLT, Int.reduceLE, Int.reduceEq, Int.reduceToNat, List.append_assoc, List.length_append, Vm.get_app, Vm.set_app, Vm.get_appL, Vm.get_appL0, Vm.set_appL, Vm.set_appL0, Nat.le_refl, Nat.le_add_right, okAt]
      repeat' (
        first | refine wpC_cases ?_ ?_ | refine wpU_casesT ?_ ?_ | refine wpU_casesF ?_ ?_
        all_goals intro hvc
        all_goals first | replace hvc := not_of_true hvc | replace hvc := not_of_false hvc | skip
        all_goals first | subst hvc | replace hvb := And.intro hvc hvb
        all_goals try simp only [hvb, hkn, ht, go_sem, V.s.injEq, Value.bool.injEq, ↓reduceIte, Nat.reduceEqDiff, Nat.reduceBEq, Nat.reduceAdd, Nat.reduceSub, Nat.reduceLT, Nat.reduceLeDiff, Int.reduceLT, Int.reduceLE, Int.reduceEq, Int.reduceToNat, List.append_assoc, List.length_append, Vm.get_app, Vm.set_app, Vm.get_appL, Vm.get_appL0, Vm.set_appL, Vm.set_appL0, Nat.le_refl, Nat.le_add_right, okAt])
end Go.Proofs.Ytkkncdokkdamcaa
