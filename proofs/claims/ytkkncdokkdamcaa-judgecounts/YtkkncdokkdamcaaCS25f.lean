/- JudgeCounts. Conditions: none. -/
import Derived.Test.YtkkncdokkdamcaaCS25e
namespace Go.Proofs.Ytkkncdokkdamcaa
open Go Go.Vm Go.Proofs Go.Cl
set_option linter.unusedSimpArgs false
set_option linter.unusedVariables false
set_option maxRecDepth 100000
theorem wpC_cut {cf : CF} {base : Nat} {v : V} {a b : C} {e : Env} {h : Hp} {K : Post} (M : Env → Hp → Prop) (h1 : wpC cf base v a b e h (midK M K)) (h2 : ∀ e' h', M e' h' → K .normal e' h') : wpC cf base v a b e h K := by
  have := wp_cut (cf := cf) (base := base) (a := .cond (.c v) a b) (e := e) (h := h) M (by rw [Vm.wp_cond]; exact h1) h2
  rw [Vm.wp_cond] at this
  exact this
theorem enc_groundR (r : Reply) : r.enc.ground = true := by
  have : r.enc.plain = true := by simp only [Reply.enc, go_sem]
  exact ground_plain _ this
theorem told_app (id : Bs) (gen : Int) (a b : List Reply) : told id gen (a ++ b) = told id gen a + told id gen b := by unfold told; rw [List.countP_append]
theorem wrongs_app (id : Bs) (gen : Int) (a b : List Reply) : wrongs id gen (a ++ b) = wrongs id gen a + wrongs id gen b := by unfold wrongs; rw [List.countP_append]
theorem after_left {a : List Reply} (b : List Reply) (h : afterB a = true) : afterB (a ++ b) = true := by
  rw [afterB_iff] at *
  obtain ⟨i, x, k, y, h1, h2, h3⟩ := h
  exact ⟨i, x, k, y, by rw [List.getElem?_append_left (List.getElem?_eq_some_iff.1 h1).1]; exact h1, by rw [List.getElem?_append_left (List.getElem?_eq_some_iff.1 h2).1]; exact h2, h3⟩
theorem after_right (a : List Reply) {b : List Reply} (h : afterB b = true) : afterB (a ++ b) = true := by
  rw [afterB_iff] at *
  obtain ⟨i, x, k, y, h1, h2, h3⟩ := h
  refine ⟨a.length + i, x, a.length + k, y, by rw [List.getElem?_append_right (by omega)]; simpa using h1, by rw [List.getElem?_append_right (by omega)]; simpa using h2, ?_⟩
  simpa [hitB] using h3
theorem after_end (a b : List Reply) (id : Bs) (gen : Int) : afterB (a ++ [(⟨23, id, gen, 0, [], 0, 0⟩ : Reply)] ++ (b ++ [(⟨0, id, gen, 0, [115], 0, 0⟩ : Reply)])) = true := by
  rw [afterB_iff]
  refine ⟨a.length, ⟨23, id, gen, 0, [], 0, 0⟩, a.length + 1 + b.length, ⟨0, id, gen, 0, [115], 0, 0⟩, by simp, by rw [List.getElem?_append_right (by simp <;> omega)]; simp, ?_⟩
  simp [hitB, ofB, tellsB]
  omega
theorem JudgeCounts_run (b : Nat) (h : Hp) (la lb : List Reply) (id : Bs) (gen : Int) (ha : la.length ≤ 140737488351232) (hb : lb.length ≤ 140737488351232) :
    run fns pr b 7 [.imm false (some 39) (la.map Reply.enc), .imm false (some 39) (lb.map Reply.enc), .arr 26 (id.map byteV), .s (.int .u64 gen)] h = some (.s (.bool true), h) := by
  refine Vm.runP (nt := 98) rfl fit7 (by simp) ?_
  obtain ⟨H0, hH0⟩ : ∃ H0 : Hp, h ++ [Blk.cells (some 26) [.arr 26 (id.map byteV)]] = H0 := ⟨_, rfl⟩
  have sA : ∀ h0, SR h0 (.imm false (some 39) (la.map Reply.enc)) (some 39) (la.map Reply.enc) := fun h0 => .inl ⟨_, rfl⟩
  have sB : ∀ h0, SR h0 (.imm false (some 39) (lb.map Reply.enc)) (some 39) (lb.map Reply.enc) := fun h0 => .inl ⟨_, rfl⟩
  simp only [B7, go_sem, ↓reduceIte, Nat.reduceEqDiff, Nat.reduceBEq, Nat.reduceAdd, Nat.reduceSub, Nat.reduceLT, Nat.reduceLeDiff, Int.reduceLT, Int.reduceLE, Int.reduceEq, Int.reduceToNat, hH0, List.length_map]
  refine wpC_cut (fun e H => ∃ (f : Bool) (A : List Reply), e 0 = .imm f (some 39) (A.map Reply.enc) ∧ A.length ≤ 20 ∧ e 1 = .imm false (some 39) (lb.map Reply.enc) ∧ e 3 = .s (.int .u64 gen) ∧ e 6 = .ptr h.length [0] 1 ∧ H = H0) ?_ ?_
  · by_cases c : 20 < la.length
    · have c' : (20 : Int) < (la.length : Int) := by omega
      have hcl := fun cf base => (sA H0).o_hi (cf := cf) (base := base) (k := .i64) (r := 20) (by simp; omega)
      simp only [cutP, List.drop_zero, Nat.sub_zero, ← List.map_take] at hcl
      simp only [Int.cast_ofNat_Int] at hcl
      have hvb : (0 : Nat) = 0 := rfl
      try simp only [c', hcl, go_sem, V.s.injEq, Value.bool.injEq, ↓reduceIte, Nat.reduceEqDiff, Nat.reduceBEq, Nat.reduceAdd, Nat.reduceSub, Nat.reduceLT, Nat.reduceLeDiff, Int.reduceLT, Int.reduceLE, Int.reduceEq, Int.reduceToNat, List.append_assoc, List.length_append, Vm.get_app, Vm.set_app, Vm.get_appL, Vm.get_appL0, Vm.set_appL, Vm.set_appL0, Nat.le_refl, Nat.le_add_right, okAt]
      repeat' (
        first | refine wpC_cases ?_ ?_ | refine wpU_casesT ?_ ?_ | refine wpU_casesF ?_ ?_
        all_goals intro hvc
        all_goals first | replace hvc := not_of_true hvc | replace hvc := not_of_false hvc | skip
        all_goals first | subst hvc | replace hvb := And.intro hvc hvb
        all_goals try simp only [hvb, c', hcl, go_sem, V.s.injEq, Value.bool.injEq, ↓reduceIte, Nat.reduceEqDiff, Nat.reduceBEq, Nat.reduceAdd, Nat.reduceSub, Nat.reduceLT, Nat.reduceLeDiff, Int.reduceLT, Int.reduceLE, Int.reduceEq, Int.reduceToNat, List.append_assoc, List.length_append, Vm.get_app, Vm.set_app, Vm.get_appL, Vm.get_appL0, Vm.set_appL, Vm.set_appL0, Nat.le_refl, Nat.le_add_right, okAt])
      exact ⟨_, la.take 20, rfl, by rw [List.length_take]; omega⟩
    · have c' : ¬ (20 : Int) < (la.length : Int) := by omega
      have hvb : (0 : Nat) = 0 := rfl
      try simp only [c', go_sem, V.s.injEq, Value.bool.injEq, ↓reduceIte, Nat.reduceEqDiff, Nat.reduceBEq, Nat.reduceAdd, Nat.reduceSub, Nat.reduceLT, Nat.reduceLeDiff, Int.reduceLT, Int.reduceLE, Int.reduceEq, Int.reduceToNat, List.append_assoc, List.length_append, Vm.get_app, Vm.set_app, Vm.get_appL, Vm.get_appL0, Vm.set_appL, Vm.set_appL0, Nat.le_refl, Nat.le_add_right, okAt]
      repeat' (
        first | refine wpC_cases ?_ ?_ | refine wpU_casesT ?_ ?_ | refine wpU_casesF ?_ ?_
        all_goals intro hvc
        all_goals first | replace hvc := not_of_true hvc | replace hvc := not_of_false hvc | skip
        all_goals first | subst hvc | replace hvb := And.intro hvc hvb
        all_goals try simp only [hvb, c', go_sem, V.s.injEq, Value.bool.injEq, ↓reduceIte, Nat.reduceEqDiff, Nat.reduceBEq, Nat.reduceAdd, Nat.reduceSub, Nat.reduceLT, Nat.reduceLeDiff, Int.reduceLT, Int.reduceLE, Int.reduceEq, Int.reduceToNat, List.append_assoc, List.length_append, Vm.get_app, Vm.set_app, Vm.get_appL, Vm.get_appL0, Vm.set_appL, Vm.set_appL0, Nat.le_refl, Nat.le_add_right, okAt])
      exact ⟨_, la, rfl, by omega⟩
  rintro e H ⟨f, A, e0, hA, e1, e3, e6, rfl⟩
  simp only [go_sem, ↓reduceIte, Nat.reduceEqDiff, Nat.reduceBEq, Nat.reduceAdd, Nat.reduceSub, Nat.reduceLT, Nat.reduceLeDiff, Int.reduceLT, Int.reduceLE, Int.reduceEq, Int.reduceToNat, e0, e1, e3, e6, List.length_map]
  refine wpC_cut (fun e H' => ∃ (f' : Bool) (B : List Reply), e 1 = .imm f' (some 39) (B.map Reply.enc) ∧ B.length ≤ 20 ∧ e 0 = .imm f (some 39) (A.map Reply.enc) ∧ e 3 = .s (.int .u64 gen) ∧ e 6 = .ptr h.length [0] 1 ∧ H' = H) ?_ ?_
  · by_cases c : 20 < lb.length
    · have c' : (20 : Int) < (lb.length : Int) := by omega
      have hcl := fun cf base => (sB H).o_hi (cf := cf) (base := base) (k := .i64) (r := 20) (by simp; omega)
      simp only [cutP, List.drop_zero, Nat.sub_zero, ← List.map_take] at hcl
      simp only [Int.cast_ofNat_Int] at hcl
      have hvb : (0 : Nat) = 0 := rfl
      try simp only [c', hcl, e0, e1, e3, e6, go_sem, V.s.injEq, Value.bool.injEq, ↓reduceIte, Nat.reduceEqDiff, Nat.reduceBEq, Nat.reduceAdd, Nat.reduceSub, Nat.reduceLT, Nat.reduceLeDiff, Int.reduceLT, Int.reduceLE, Int.reduceEq, Int.reduceToNat, List.append_assoc, List.length_append, Vm.get_app, Vm.set_app, Vm.get_appL, Vm.get_appL0, Vm.set_appL, Vm.set_appL0, Nat.le_refl, Nat.le_add_right, okAt]
      repeat' (
        first | refine wpC_cases ?_ ?_ | refine wpU_casesT ?_ ?_ | refine wpU_casesF ?_ ?_
        all_goals intro hvc
        all_goals first | replace hvc := not_of_true hvc | replace hvc := not_of_false hvc | skip
        all_goals first | subst hvc | replace hvb := And.intro hvc hvb
        all_goals try simp only [hvb, c', hcl, e0, e1, e3, e6, go_sem, V.s.injEq, Value.bool.injEq, ↓reduceIte, Nat.reduceEqDiff, Nat.reduceBEq, Nat.reduceAdd, Nat.reduceSub, Nat.reduceLT, Nat.reduceLeDiff, Int.reduceLT, Int.reduceLE, Int.reduceEq, Int.reduceToNat, List.append_assoc, List.length_append, Vm.get_app, Vm.set_app, Vm.get_appL, Vm.get_appL0, Vm.set_appL, Vm.set_appL0, Nat.le_refl, Nat.le_add_right, okAt])
      exact ⟨_, lb.take 20, rfl, by rw [List.length_take]; omega⟩
    · have c' : ¬ (20 : Int) < (lb.length : Int) := by omega
      have hvb : (0 : Nat) = 0 := rfl
      try simp only [c', e0, e1, e3, e6, go_sem, V.s.injEq, Value.bool.injEq, ↓reduceIte, Nat.reduceEqDiff, Nat.reduceBEq, Nat.reduceAdd, Nat.reduceSub, Nat.reduceLT, Nat.reduceLeDiff, Int.reduceLT, Int.reduceLE, Int.reduceEq, Int.reduceToNat, List.append_assoc, List.length_append, Vm.get_app, Vm.set_app, Vm.get_appL, Vm.get_appL0, Vm.set_appL, Vm.set_appL0, Nat.le_refl, Nat.le_add_right, okAt]
      repeat' (
        first | refine wpC_cases ?_ ?_ | refine wpU_casesT ?_ ?_ | refine wpU_casesF ?_ ?_
        all_goals intro hvc
        all_goals first | replace hvc := not_of_true hvc | replace hvc := not_of_false hvc | skip
        all_goals first | subst hvc | replace hvb := And.intro hvc hvb
        all_goals try simp only [hvb, c', e0, e1, e3, e6, go_sem, V.s.injEq, Value.bool.injEq, ↓reduceIte, Nat.reduceEqDiff, Nat.reduceBEq, Nat.reduceAdd, Nat.reduceSub, Nat.reduceLT, Nat.reduceLeDiff, Int.reduceLT, Int.reduceLE, Int.reduceEq, Int.reduceToNat, List.append_assoc, List.length_append, Vm.get_app, Vm.set_app, Vm.get_appL, Vm.get_appL0, Vm.set_appL, Vm.set_appL0, Nat.le_refl, Nat.le_add_right, okAt])
      exact ⟨_, lb, rfl, by omega⟩
  clear e0 e1 e3 e6
  rintro e H' ⟨f', B, e1, hB, e0, e3, e6, rfl⟩
  clear sA sB
  have sA : ∀ h0, SR h0 (.imm f (some 39) (A.map Reply.enc)) (some 39) (A.map Reply.enc) := fun h0 => .inl ⟨_, rfl⟩
  have sB : ∀ h0, SR h0 (.imm f' (some 39) (B.map Reply.enc)) (some 39) (B.map Reply.enc) := fun h0 => .inl ⟨_, rfl⟩
  have gA : ∀ l : List Reply, ∀ z ∈ l.map Reply.enc, V.ground z = true := fun l z hz => by
    obtain ⟨r, _, rfl⟩ := List.mem_map.1 hz
    exact enc_groundR r
  obtain ⟨y1, H1, k1, ap1, xr1, hk1, hl1, _, hg1, hold1⟩ := (XR.nil H' (some 39) H'.length).appL (n := H'.length) (bytes := 72) (Nat.le_refl _) (Nat.le_refl _) (sA H').src (gA A) (by simp; omega)
  obtain ⟨y2, H2, k2, ap2, xr2, hk2, hl2, _, hg2, hold2⟩ := xr1.appL (n := H'.length) (bytes := 72) hk1 hl1 (sB H1).src (gA B) (by simp; omega)
  have o2 : ∀ (j : Nat) (w : Blk), H'[j]? = some w → H2[j]? = some w := fun j w hw => by
    have := lt_of_get hw
    exact hold2 j w (by omega) (hold1 j w (by omega) hw)
  have hid : H'[h.length]? = some (Blk.cells (some 26) [.arr 26 (id.map byteV)]) := by rw [← hH0]; exact get_app0 _ _
  have f2 : Fw [] h H2 := by
    have : Fw [] h H' := by rw [← hH0]; exact Fw.app _ _ _
    exact this.trans (Fw.of_old (by omega) o2)
  have hid2 := o2 _ _ hid
  simp only [List.nil_append] at xr1 xr2
  have xr2 : XR H2 (some 39) k2 y2 ((A ++ B).map Reply.enc) := by rw [List.map_append]; exact xr2
  have w1 := Wrongs_ok h.length H2 _ _ id gen xr2.SR (by simp; omega)
  have w2 := Wrongs_ok h.length H2 _ _ id gen (sA H2) (by omega)
  have w3 := Wrongs_ok h.length H2 _ _ id gen (sB H2) (by omega)
  have t1 := Told_ok h.length H2 _ _ id gen xr2.SR (by simp; omega)
  have t2 := Told_ok h.length H2 _ _ id gen (sA H2) (by omega)
  have t3 := Told_ok h.length H2 _ _ id gen (sB H2) (by omega)
  have a1 := After_ok h.length H2 _ _ xr2.SR (by simp; omega)
  have a2 := After_ok h.length H2 _ _ (sA H2) (by omega)
  have a3 := After_ok h.length H2 _ _ (sB H2) (by omega)
  rw [wrongs_app] at w1
  rw [told_app] at t1
  have lw2 : wrongs id gen A ≤ 20 := Nat.le_trans List.countP_le_length hA
  have lw3 : wrongs id gen B ≤ 20 := Nat.le_trans List.countP_le_length hB
  have lt2 : told id gen A ≤ 20 := Nat.le_trans List.countP_le_length hA
  have lt3 : told id gen B ≤ 20 := Nat.le_trans List.countP_le_length hB
  have z1 : IntKind.i64.wrap ((wrongs id gen A : Int) + (wrongs id gen B : Int)) = ((wrongs id gen A + wrongs id gen B : Nat) : Int) := by rw [wrap_i64 (by omega) (by omega)]; omega
  have z2 : IntKind.i64.wrap ((told id gen A : Int) + (told id gen B : Int)) = ((told id gen A + told id gen B : Nat) : Int) := by rw [wrap_i64 (by omega) (by omega)]; omega
  have hgab : (afterB A = true ∧ afterB (A ++ B) = true) ∨ (afterB A = false ∧ afterB B = true ∧ afterB (A ++ B) = true) ∨ (afterB A = false ∧ afterB B = false) := by
    cases h1 : afterB A with
    | true => exact .inl ⟨rfl, after_left B h1⟩
    | false =>
      cases h2 : afterB B with
      | true => exact .inr (.inl ⟨rfl, rfl, after_right A h2⟩)
      | false => exact .inr (.inr ⟨rfl, rfl⟩)
  have hend := after_end A B id gen
  obtain ⟨eR, heR⟩ : ∃ r : Reply, (⟨23, id, gen, 0, [], 0, 0⟩ : Reply) = r := ⟨_, rfl⟩
  obtain ⟨tR, htR⟩ : ∃ r : Reply, (⟨0, id, gen, 0, [115], 0, 0⟩ : Reply) = r := ⟨_, rfl⟩
  have hE : V.st 39 [.s (.int .i64 23), .arr 26 (id.map byteV), .s (.int .u64 gen), ki, kx, ki, ku] = eR.enc := by rw [← heR]; rfl
  have hT : V.st 39 [ki, .arr 26 (id.map byteV), .s (.int .u64 gen), ki, .imm false none [.s (.int .u8 115)], ki, ku] = tR.enc := by rw [← htR]; rfl
  rw [heR, htR] at hend
  clear heR htR
  obtain ⟨G0, hG0⟩ : ∃ G0 : Hp, H2 ++ [Blk.cells (some 39) [eR.enc], Blk.dead, Blk.cells (some 39) [tR.enc]] = G0 := ⟨_, rfl⟩
  have m0 : G0[H2.length]? = some (Blk.cells (some 39) [eR.enc]) := by rw [← hG0]; exact get_app0 _ _
  have n0 : G0[H2.length + 2]? = some (Blk.cells (some 39) [tR.enc]) := by rw [← hG0]; exact get_app _ _ 2
  have lG0 : G0.length = H2.length + 3 := by rw [← hG0]; simp
  obtain ⟨y3, G1, k3, ap3, xr3, hk3, hl3, _, hg3, hold3⟩ := (XR.nil G0 (some 39) G0.length).appL (n := G0.length) (bytes := 72) (Nat.le_refl _) (Nat.le_refl _) (sA G0).src (gA A) (by simp; omega)
  obtain ⟨y4, G2, k4, ap4, xr4, hk4, hl4, _, hg4, hold4⟩ := xr3.appL (n := G0.length) (bytes := 72) (y := .imm true (some 39) [eR.enc]) (ys := [eR.enc]) hk3 hl3 rfl (gA [eR]) (by simp; omega)
  have ap5 : ∀ cf base, opV cf base G2 (.app (some 39) 72) [.imm true (some 39) (B.map Reply.enc), .imm true (some 39) [tR.enc]] = some (.ref G2.length [] (some 39) 0 (B.length + 1) (B.length + 1), G2 ++ [Blk.cells (some 39) ((B ++ [tR]).map Reply.enc)]) := by
    intro cf base
    simp [opV, opApp, source, elems, appendV]
    omega
  have s5 : SR (G2 ++ [Blk.cells (some 39) ((B ++ [tR]).map Reply.enc)]) (.ref G2.length [] (some 39) 0 (B.length + 1) (B.length + 1)) (some 39) ((B ++ [tR]).map Reply.enc) := SR_ref (get_app0 _ _) (by simp)
  have xr4' := xr4.mono (H := G2 ++ [Blk.cells (some 39) ((B ++ [tR]).map Reply.enc)]) fun w hw => get_old hw _
  obtain ⟨y6, G4, k6, ap6, xr6, hk6, hl6, _, hg6, hold6⟩ := xr4'.appL (n := G0.length) (bytes := 72) hk4 (by simp; omega) s5.src (gA _) (by simp; omega)
  have xr6 : XR G4 (some 39) k6 y6 ((A ++ [eR] ++ (B ++ [tR])).map Reply.enc) := by simpa using xr6
  have a6 := After_ok h.length G4 _ _ xr6.SR (by simp; omega)
  rw [hend] at a6
  have k6' := known25_ok h.length G4
  have p1 : ∀ (j : Nat) (w : Blk), G0[j]? = some w → G1[j]? = some w := fun j w hw => hold3 j w (by have := lt_of_get hw; omega) hw
  have p2 : ∀ (j : Nat) (w : Blk), G0[j]? = some w → G2[j]? = some w := fun j w hw => hold4 j w (by have := lt_of_get hw; omega) (p1 j w hw)
  have m1 := p1 _ _ m0
  have n1 := p1 _ _ n0
  have m2 := p2 _ _ m0
  have n2 := p2 _ _ n0
  have nt := fun t => get_old n2 t
  have f4 : Fw [] h G4 := by
    have q0 : Fw [] h G0 := by rw [← hG0]; exact f2.trans (Fw.app _ _ _)
    have l0 := q0.len
    refine q0.trans (Fw.of_old (by simp at hg6; omega) fun j w hw => ?_)
    have := lt_of_get hw
    exact hold6 j w (by omega) (get_old (p2 j w hw) _)
  have ht4 := f4.take
  have hid3 := fun t => get_old hid2 t
  have gr : ∀ k, decide (h.length ≤ H2.length + k) = true := fun k => decide_eq_true (Nat.le_trans f2.len (Nat.le_add_right _ _))
  have gr0 := gr 0
  rw [Nat.add_zero] at gr0
  have hs3 : ∀ cf base h0, opV cf base h0 (.slc (some 39) false true true) [.imm f' (some 39) (B.map Reply.enc), .s (.int .i64 (B.length : Nat)), .s (.int .i64 (B.length : Nat))] = some (.imm true (some 39) (B.map Reply.enc), h0) := by
    intro cf base h0
    simp [opV, opSlc, lenV, natOf, slice3V]
    exact List.take_of_length_le (by simp)
  generalize afterB A = qa at *
  generalize afterB B = qb at *
  generalize afterB (A ++ B) = qc at *
  rcases hgab with ⟨rfl, rfl⟩ | ⟨rfl, rfl, rfl⟩ | ⟨rfl, rfl⟩
  all_goals
    have hvb : (0 : Nat) = 0 := rfl
    try simp only [e0, e1, e3, e6, ap1, ap2, hid2, hid3, w1, w2, w3, t1, t2, t3, a1, a2, a3, z1, z2, hE, hT, hG0, m0, n0, m1, n1, m2, n2, nt, ap3, ap4, ap5, ap6, hs3, a6, k6', ht4, enc_tyR, enc_soR, List.length_map, gr, gr0, go_sem, V.s.injEq, Value.bool.injEq, ↓reduceIte, Nat.reduceEqDiff, Nat.reduceBEq, Nat.reduceAdd, Nat.reduceSub, Nat.reduceLT, Nat.reduceLeDiff, Int.reduceLT, Int.reduceLE, Int.reduceEq, Int.reduceToNat, List.append_assoc, List.length_append, Vm.get_app, Vm.set_app, Vm.get_appL, Vm.get_appL0, Vm.set_appL, Vm.set_appL0, Nat.le_refl, Nat.le_add_right, okAt]
    repeat' (
      first | refine wpC_cases ?_ ?_ | refine wpU_casesT ?_ ?_ | refine wpU_casesF ?_ ?_
      all_goals intro hvc
      all_goals first | replace hvc := not_of_true hvc | replace hvc := not_of_false hvc | skip
      all_goals first | subst hvc | replace hvb := And.intro hvc hvb
      all_goals try simp only [hvb, e0, e1, e3, e6, ap1, ap2, hid2, hid3, w1, w2, w3, t1, t2, t3, a1, a2, a3, z1, z2, hE, hT, hG0, m0, n0, m1, n1, m2, n2, nt, ap3, ap4, ap5, ap6, hs3, a6, k6', ht4, enc_tyR, enc_soR, List.length_map, gr, gr0, go_sem, V.s.injEq, Value.bool.injEq, ↓reduceIte, Nat.reduceEqDiff, Nat.reduceBEq, Nat.reduceAdd, Nat.reduceSub, Nat.reduceLT, Nat.reduceLeDiff, Int.reduceLT, Int.reduceLE, Int.reduceEq, Int.reduceToNat, List.append_assoc, List.length_append, Vm.get_app, Vm.set_app, Vm.get_appL, Vm.get_appL0, Vm.set_appL, Vm.set_appL0, Nat.le_refl, Nat.le_add_right, okAt])
end Go.Proofs.Ytkkncdokkdamcaa
