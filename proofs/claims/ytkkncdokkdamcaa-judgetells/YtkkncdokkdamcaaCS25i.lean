/- JudgeTells. Conditions: none. -/
import Derived.Test.YtkkncdokkdamcaaCS25h
namespace Go.Proofs.Ytkkncdokkdamcaa
open Go Go.Vm Go.Proofs Go.Cl
set_option linter.unusedSimpArgs false
set_option linter.unusedVariables false
set_option maxRecDepth 100000
theorem JudgeTells_run (b : Nat) (h : Hp) (l : List Draw) (lb : List Deed) (lc : List Reply) (hl : l.length ≤ 140737488351232) (hw : ∀ x ∈ l, x.wf) (hb : lb.length ≤ 140737488351232) (hbw : ∀ x ∈ lb, x.wf) (hc : lc.length ≤ 140737488351232) :
    run fns pr b 9 [.imm false (some 57) (l.map Draw.enc), .imm false (some 93) (lb.map Deed.enc), .imm false (some 39) (lc.map Reply.enc)] h = some (.s (.bool true), h) := by
  refine Vm.runP (nt := 41) rfl fit9 (by simp) ?_
  have sB : ∀ h0, SR h0 (.imm false (some 93) (lb.map Deed.enc)) (some 93) (lb.map Deed.enc) := fun h0 => .inl ⟨_, rfl⟩
  have sC : ∀ h0, SR h0 (.imm false (some 39) (lc.map Reply.enc)) (some 39) (lc.map Reply.enc) := fun h0 => .inl ⟨_, rfl⟩
  simp only [B9, go_sem, ↓reduceIte, Nat.reduceEqDiff, Nat.reduceBEq, Nat.reduceAdd, Nat.reduceSub, Nat.reduceLT, Nat.reduceLeDiff, Int.reduceLT, Int.reduceLE, Int.reduceEq, Int.reduceToNat, List.length_map]
  refine wpC_cut5 (fun e H => ∃ (f : Bool) (R : List Deed), e 1 = .imm f (some 93) (R.map Deed.enc) ∧ (R.length ≤ 6 ∧ ∀ x ∈ R, x.wf) ∧ e 0 = .imm false (some 57) (l.map Draw.enc) ∧ e 2 = .imm false (some 39) (lc.map Reply.enc) ∧ H = h) ?_ ?_
  · by_cases c : 6 < lb.length
    · have c' : (6 : Int) < (lb.length : Int) := by omega
      have hcl := fun cf base => (sB h).o_hi (cf := cf) (base := base) (k := .i64) (r := 6) (by simp; omega)
      simp only [cutP, List.drop_zero, Nat.sub_zero, ← List.map_take] at hcl
      simp only [Int.cast_ofNat_Int] at hcl
      have hvb : (0 : Nat) = 0 := rfl
      try simp only [c', hcl, go_sem, V.s.injEq, Value.bool.injEq, ↓reduceIte, Nat.reduceEqDiff, Nat.reduceBEq, Nat.reduceAdd, Nat.reduceSub, Nat.reduceLT, Nat.reduceLeDiff, Int.reduceLT, Int.reduceLE, Int.reduceEq, Int.reduceToNat, List.append_assoc, List.length_append, Vm.get_app, Vm.set_app, Vm.get_appL, Vm.get_appL0, Vm.set_appL, Vm.set_appL0, Nat.le_refl, Nat.le_add_right, okAt]
      repeat' (
        first | refine wpC_cases ?_ ?_ | refine wpU_casesT ?_ ?_ | refine wpU_casesF ?_ ?_
        all_goals intro hvc
        all_goals first | replace hvc := not_of_true hvc | replace hvc := not_of_false hvc | skip
        all_goals first | subst hvc | replace hvb := And.intro hvc hvb
        all_goals try simp only [hvb, c', hcl, go_sem, V.s.injEq, Value.bool.injEq, ↓reduceIte, Nat.reduceEqDiff, Nat.reduceBEq, Nat.reduceAdd, Nat.reduceSub, Nat.reduceLT, Nat.reduceLeDiff, Int.reduceLT, Int.reduceLE, Int.reduceEq, Int.reduceToNat, List.append_assoc, List.length_append, Vm.get_app, Vm.set_app, Vm.get_appL, Vm.get_appL0, Vm.set_appL, Vm.set_appL0, Nat.le_refl, Nat.le_add_right, okAt])
      exact ⟨_, lb.take 6, rfl, by rw [List.length_take]; omega, fun x hx => hbw x (List.mem_of_mem_take hx)⟩
    · have c' : ¬ (6 : Int) < (lb.length : Int) := by omega
      have hvb : (0 : Nat) = 0 := rfl
      try simp only [c', go_sem, V.s.injEq, Value.bool.injEq, ↓reduceIte, Nat.reduceEqDiff, Nat.reduceBEq, Nat.reduceAdd, Nat.reduceSub, Nat.reduceLT, Nat.reduceLeDiff, Int.reduceLT, Int.reduceLE, Int.reduceEq, Int.reduceToNat, List.append_assoc, List.length_append, Vm.get_app, Vm.set_app, Vm.get_appL, Vm.get_appL0, Vm.set_appL, Vm.set_appL0, Nat.le_refl, Nat.le_add_right, okAt]
      repeat' (
        first | refine wpC_cases ?_ ?_ | refine wpU_casesT ?_ ?_ | refine wpU_casesF ?_ ?_
        all_goals intro hvc
        all_goals first | replace hvc := not_of_true hvc | replace hvc := not_of_false hvc | skip
        all_goals first | subst hvc | replace hvb := And.intro hvc hvb
        all_goals try simp only [hvb, c', go_sem, V.s.injEq, Value.bool.injEq, ↓reduceIte, Nat.reduceEqDiff, Nat.reduceBEq, Nat.reduceAdd, Nat.reduceSub, Nat.reduceLT, Nat.reduceLeDiff, Int.reduceLT, Int.reduceLE, Int.reduceEq, Int.reduceToNat, List.append_assoc, List.length_append, Vm.get_app, Vm.set_app, Vm.get_appL, Vm.get_appL0, Vm.set_appL, Vm.set_appL0, Nat.le_refl, Nat.le_add_right, okAt])
      exact ⟨_, lb, rfl, by omega, hbw⟩
  rintro e H ⟨f, R, e1, ⟨hR, hRw⟩, e0, e2, rfl⟩
  simp only [go_sem, ↓reduceIte, Nat.reduceEqDiff, Nat.reduceBEq, Nat.reduceAdd, Nat.reduceSub, Nat.reduceLT, Nat.reduceLeDiff, Int.reduceLT, Int.reduceLE, Int.reduceEq, Int.reduceToNat, e0, e1, e2, List.length_map]
  refine wpC_cut5 (fun e H' => ∃ (f' : Bool) (S : List Reply), e 2 = .imm f' (some 39) (S.map Reply.enc) ∧ S.length ≤ 12 ∧ e 0 = .imm false (some 57) (l.map Draw.enc) ∧ e 1 = .imm f (some 93) (R.map Deed.enc) ∧ H' = H) ?_ ?_
  · by_cases c : 12 < lc.length
    · have c' : (12 : Int) < (lc.length : Int) := by omega
      have hcl := fun cf base => (sC H).o_hi (cf := cf) (base := base) (k := .i64) (r := 12) (by simp; omega)
      simp only [cutP, List.drop_zero, Nat.sub_zero, ← List.map_take] at hcl
      simp only [Int.cast_ofNat_Int] at hcl
      have hvb : (0 : Nat) = 0 := rfl
      try simp only [c', hcl, e0, e1, e2, go_sem, V.s.injEq, Value.bool.injEq, ↓reduceIte, Nat.reduceEqDiff, Nat.reduceBEq, Nat.reduceAdd, Nat.reduceSub, Nat.reduceLT, Nat.reduceLeDiff, Int.reduceLT, Int.reduceLE, Int.reduceEq, Int.reduceToNat, List.append_assoc, List.length_append, Vm.get_app, Vm.set_app, Vm.get_appL, Vm.get_appL0, Vm.set_appL, Vm.set_appL0, Nat.le_refl, Nat.le_add_right, okAt]
      repeat' (
        first | refine wpC_cases ?_ ?_ | refine wpU_casesT ?_ ?_ | refine wpU_casesF ?_ ?_
        all_goals intro hvc
        all_goals first | replace hvc := not_of_true hvc | replace hvc := not_of_false hvc | skip
        all_goals first | subst hvc | replace hvb := And.intro hvc hvb
        all_goals try simp only [hvb, c', hcl, e0, e1, e2, go_sem, V.s.injEq, Value.bool.injEq, ↓reduceIte, Nat.reduceEqDiff, Nat.reduceBEq, Nat.reduceAdd, Nat.reduceSub, Nat.reduceLT, Nat.reduceLeDiff, Int.reduceLT, Int.reduceLE, Int.reduceEq, Int.reduceToNat, List.append_assoc, List.length_append, Vm.get_app, Vm.set_app, Vm.get_appL, Vm.get_appL0, Vm.set_appL, Vm.set_appL0, Nat.le_refl, Nat.le_add_right, okAt])
      exact ⟨_, lc.take 12, rfl, by rw [List.length_take]; omega⟩
    · have c' : ¬ (12 : Int) < (lc.length : Int) := by omega
      have hvb : (0 : Nat) = 0 := rfl
      try simp only [c', e0, e1, e2, go_sem, V.s.injEq, Value.bool.injEq, ↓reduceIte, Nat.reduceEqDiff, Nat.reduceBEq, Nat.reduceAdd, Nat.reduceSub, Nat.reduceLT, Nat.reduceLeDiff, Int.reduceLT, Int.reduceLE, Int.reduceEq, Int.reduceToNat, List.append_assoc, List.length_append, Vm.get_app, Vm.set_app, Vm.get_appL, Vm.get_appL0, Vm.set_appL, Vm.set_appL0, Nat.le_refl, Nat.le_add_right, okAt]
      repeat' (
        first | refine wpC_cases ?_ ?_ | refine wpU_casesT ?_ ?_ | refine wpU_casesF ?_ ?_
        all_goals intro hvc
        all_goals first | replace hvc := not_of_true hvc | replace hvc := not_of_false hvc | skip
        all_goals first | subst hvc | replace hvb := And.intro hvc hvb
        all_goals try simp only [hvb, c', e0, e1, e2, go_sem, V.s.injEq, Value.bool.injEq, ↓reduceIte, Nat.reduceEqDiff, Nat.reduceBEq, Nat.reduceAdd, Nat.reduceSub, Nat.reduceLT, Nat.reduceLeDiff, Int.reduceLT, Int.reduceLE, Int.reduceEq, Int.reduceToNat, List.append_assoc, List.length_append, Vm.get_app, Vm.set_app, Vm.get_appL, Vm.get_appL0, Vm.set_appL, Vm.set_appL0, Nat.le_refl, Nat.le_add_right, okAt])
      exact ⟨_, lc, rfl, by omega⟩
  clear e0 e1 e2
  rintro e H' ⟨f', S, e2, hS, e0, e1, rfl⟩
  clear sB sC
  have hmd := made_ok H'.length H' _ l 40 (.inl ⟨false, rfl⟩) (by omega) hl hw
  have hml := madeD_len l (min l.length 40)
  have hmi := madeD_id l (min l.length 40)
  simp only [Int.cast_ofNat_Int] at hmd
  generalize madeD l (min l.length 40) = M at *
  have hM : M.length ≤ 40 := by omega
  have sM : ∀ h0, SR h0 (.imm false (some 93) (M.map Deed.enc)) (some 93) (M.map Deed.enc) := fun h0 => .inl ⟨_, rfl⟩
  have sR : ∀ h0, SR h0 (.imm f (some 93) (R.map Deed.enc)) (some 93) (R.map Deed.enc) := fun h0 => .inl ⟨_, rfl⟩
  have sS : ∀ h0, SR h0 (.imm f' (some 39) (S.map Reply.enc)) (some 39) (S.map Reply.enc) := fun h0 => .inl ⟨_, rfl⟩
  have gD : ∀ l : List Deed, ∀ z ∈ l.map Deed.enc, V.ground z = true := fun l z hz => by
    obtain ⟨r, _, rfl⟩ := List.mem_map.1 hz
    exact ground_D r
  have hRi : ∀ x ∈ R, x.request.iD.length = 4 := fun x hx => (hRw x hx).request.iD
  have s1 := same5_ok H'.length H' _ M (sM H') (by omega) hmi
  have s2 := same5_ok H'.length H' _ R (sR H') (by omega) hRi
  obtain ⟨y1, H1, k1, ap1, xr1, hk1, hl1, _, hg1, hold1⟩ := (XR.nil H' (some 93) H'.length).appL (n := H'.length) (bytes := 192) (Nat.le_refl _) (Nat.le_refl _) (sM H').src (gD M) (by simp; omega)
  obtain ⟨y2, H2, k2, ap2, xr2, hk2, hl2, _, hg2, hold2⟩ := xr1.appL (n := H'.length) (bytes := 192) hk1 hl1 (sR H1).src (gD R) (by simp; omega)
  have o2 : ∀ (j : Nat) (w : Blk), H'[j]? = some w → H2[j]? = some w := fun j w hw => by
    have := lt_of_get hw
    exact hold2 j w (by omega) (hold1 j w (by omega) hw)
  have f2 : Fw [] H' H2 := Fw.of_old (by omega) o2
  simp only [List.nil_append] at xr1 xr2
  have xr2 : XR H2 (some 93) k2 y2 ((M ++ R).map Deed.enc) := by rw [List.map_append]; exact xr2
  have s3 := same5_ok H'.length H2 _ (M ++ R) xr2.SR (by simp; omega) (fun x hx => (List.mem_append.1 hx).elim (hmi x) (hRi x))
  have rp := replies_ok H'.length H2 _ S (sS H2) (by omega)
  have kn := known25_ok H'.length H2
  have ht := f2.take
  have hvb : (0 : Nat) = 0 := rfl
  try simp only [e0, e1, e2, hmd, s1, s2, ap1, ap2, s3, rp, kn, ht, go_sem, V.s.injEq, Value.bool.injEq, ↓reduceIte, Nat.reduceEqDiff, Nat.reduceBEq, Nat.reduceAdd, Nat.reduceSub, Nat.reduceLT, Nat.reduceLeDiff, Int.reduceLT, Int.reduceLE, Int.reduceEq, Int.reduceToNat, List.append_assoc, List.length_append, Vm.get_app, Vm.set_app, Vm.get_appL, Vm.get_appL0, Vm.set_appL, Vm.set_appL0, Nat.le_refl, Nat.le_add_right, okAt]
  repeat' (
    first | refine wpC_cases ?_ ?_ | refine wpU_casesT ?_ ?_ | refine wpU_casesF ?_ ?_
    all_goals intro hvc
    all_goals first | replace hvc := not_of_true hvc | replace hvc := not_of_false hvc | skip
    all_goals first | subst hvc | replace hvb := And.intro hvc hvb
    all_goals try simp only [hvb, e0, e1, e2, hmd, s1, s2, ap1, ap2, s3, rp, kn, ht, go_sem, V.s.injEq, Value.bool.injEq, ↓reduceIte, Nat.reduceEqDiff, Nat.reduceBEq, Nat.reduceAdd, Nat.reduceSub, Nat.reduceLT, Nat.reduceLeDiff, Int.reduceLT, Int.reduceLE, Int.reduceEq, Int.reduceToNat, List.append_assoc, List.length_append, Vm.get_app, Vm.set_app, Vm.get_appL, Vm.get_appL0, Vm.set_appL, Vm.set_appL0, Nat.le_refl, Nat.le_add_right, okAt])
end Go.Proofs.Ytkkncdokkdamcaa
