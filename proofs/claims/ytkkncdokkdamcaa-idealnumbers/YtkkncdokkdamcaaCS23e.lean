/- IdealNumbers. Conditions: none. -/
import Derived.Test.YtkkncdokkdamcaaCS23d
namespace Go.Proofs.Ytkkncdokkdamcaa
open Go Go.Vm Go.Proofs Go.Cl
set_option linter.unusedSimpArgs false
set_option linter.unusedVariables false
set_option maxRecDepth 100000
theorem ground_Q (x : Q) : x.enc.ground = true := by
  have : x.enc.plain = true := by simp only [Q.enc, go_sem]
  exact ground_plain _ this
def opsV : List V := [.s (.int .i64 0), .s (.int .i64 1), .s (.int .i64 2), .s (.int .i64 1), .s (.int .i64 3), .s (.int .i64 0), .s (.int .i64 1)]
theorem ops_get (i : Nat) (h : i < 7) : ∃ o : Int, 0 ≤ o ∧ o ≤ 3 ∧ opsV[i]? = some (.s (.int .i64 o)) := by
  have : i = 0 ∨ i = 1 ∨ i = 2 ∨ i = 3 ∨ i = 4 ∨ i = 5 ∨ i = 6 := by omega
  rcases this with h | h | h | h | h | h | h <;> subst h <;> exact ⟨_, by omega, by omega, rfl⟩
theorem IdealNumbers_run (b : Nat) (h : Hp) : run fns pr b 5 [] h = some (.s (.bool true), h) := by
  refine Vm.runP (nt := 35) rfl fit5 (by simp) ?_
  have hvb : (0 : Nat) = 0 := rfl
  try simp only [B5, B5R0, B5L0, go_sem, V.s.injEq, Value.bool.injEq, ↓reduceIte, Nat.reduceEqDiff, Nat.reduceBEq, Nat.reduceAdd, Nat.reduceSub, Nat.reduceLT, Nat.reduceLeDiff, Int.reduceLT, Int.reduceLE, Int.reduceEq, Int.reduceToNat, List.append_assoc, List.length_append, Vm.get_app, Vm.set_app, Vm.get_appL, Vm.get_appL0, Vm.set_appL, Vm.set_appL0, Nat.le_refl, Nat.le_add_right, okAt]
  repeat' (
    first | refine wpC_cases ?_ ?_ | refine wpU_casesT ?_ ?_ | refine wpU_casesF ?_ ?_
    all_goals intro hvc
    all_goals first | replace hvc := not_of_true hvc | replace hvc := not_of_false hvc | skip
    all_goals first | subst hvc | replace hvb := And.intro hvc hvb
    all_goals try simp only [hvb, B5, B5R0, B5L0, go_sem, V.s.injEq, Value.bool.injEq, ↓reduceIte, Nat.reduceEqDiff, Nat.reduceBEq, Nat.reduceAdd, Nat.reduceSub, Nat.reduceLT, Nat.reduceLeDiff, Int.reduceLT, Int.reduceLE, Int.reduceEq, Int.reduceToNat, List.append_assoc, List.length_append, Vm.get_app, Vm.set_app, Vm.get_appL, Vm.get_appL0, Vm.set_appL, Vm.set_appL0, Nat.le_refl, Nat.le_add_right, okAt])
  refine wp_for (fun n e H => ∃ (i : Nat) (y : V) (k : Nat) (qs : List Q), n = 200 - i ∧ i ≤ 200 ∧ e 2 = .s (.int .i64 (i : Nat)) ∧ e 1 = y ∧ XR H (some 35) k y (qs.map Q.enc) ∧ qs.length = i ∧ (∀ x ∈ qs, x.wf) ∧ h.length ≤ k ∧ Fw [] h H)
    (fun e H => ∃ (y : V) (k : Nat) (qs : List Q), e 1 = y ∧ XR H (some 35) k y (qs.map Q.enc) ∧ qs.length ≤ 200 ∧ (∀ x ∈ qs, x.wf) ∧ h.length ≤ k ∧ Fw [] h H)
    200 _ _ ⟨0, _, h.length, [], rfl, by omega, rfl, rfl, XR.nil _ _ _, rfl, by simp, Nat.le_refl _, Fw.refl _ _⟩ ?_ ?_
  · rintro n e H ⟨i, y, k, qs, rfl, hi, e2, e1, xr, hq, hw, hk, fw⟩
    by_cases c : i < 200
    · have c' : (i : Int) < 200 := by omega
      have rem : ∀ (a m : Nat), 0 < m → ∀ cf base h, opV cf base h (.bin .num .rem) [.s (.int .i64 (a : Int)), .s (.int .i64 (m : Int))] = some (.s (.int .i64 ((a % m : Nat) : Int)), h) := fun a m hm cf base h => by
        rw [o_rem cf base h .i64 _ (m : Int) (by omega), Int.tmod_eq_emod_of_nonneg (by omega)]; rfl
      have r7 := rem i 7 (by omega)
      have r3 := rem i 3 (by omega)
      have r4 := rem i 4 (by omega)
      have r120 := rem (i * 5) 120 (by omega)
      simp only [Int.cast_ofNat_Int] at r7 r3 r4 r120
      have hqo : ∀ cf base h, opV cf base h (.bin .num .quo) [.s (.int .i64 i), .s (.int .i64 3)] = some (.s (.int .i64 ((i / 3 : Nat) : Int)), h) := fun cf base h => by
        rw [o_quo cf base h .i64 _ 3 (by omega), Int.tdiv_eq_ediv_of_nonneg (by omega), wrap_i64 (by omega) (by omega)]; rfl
      have w5 : IntKind.i64.wrap ((i : Int) * 5) = ((i * 5 : Nat) : Int) := by rw [wrap_i64 (by omega) (by omega)]; omega
      have w1 : IntKind.i64.wrap (1 + ((i % 3 : Nat) : Int)) = 1 + ((i % 3 : Nat) : Int) := wrap_i64 (by omega) (by omega)
      have hwr : IntKind.i64.wrap ((i : Int) + 1) = ((i + 1 : Nat) : Int) := wrap_small (by omega)
      obtain ⟨o, ho0, ho3, hog⟩ := ops_get (i % 7) (by omega)
      have j7 : ((i % 7 : Nat) : Int) < 7 := by omega
      have j70 : (0 : Int) ≤ ((i % 7 : Nat) : Int) := by omega
      have j7n : i % 7 < 7 := by omega
      have oty : ∀ o : Int, (V.s (.int .i64 o)).ty = none := fun _ => by rfl
      obtain ⟨q, hqd⟩ : ∃ q : Q, (⟨o, ((i * 5 % 120 : Nat) : Int), ((i % 3 : Nat) : Int), ((i / 3 : Nat) : Int), 1 + ((i % 3 : Nat) : Int), ((i % 4 : Nat) : Int), 0, [97, 98, 99]⟩ : Q) = q := ⟨_, rfl⟩
      have hqw : q.wf := by rw [← hqd]; exact ⟨by simp only; omega, by simp only; omega, by simp only; omega, by simp only; omega, by simp only; omega, by simp only; omega, by simp only; omega, by simp⟩
      have qty : some 35 = q.enc.ty := by rfl
      have qso : q.enc.solid = true := by rfl
      have hqe : V.st 35 [.s (.int .i64 o), .s (.int .i64 ((i * 5 % 120 : Nat) : Int)), .s (.int .i64 ((i % 3 : Nat) : Int)), .s (.int .i64 ((i / 3 : Nat) : Int)), .s (.int .i64 (1 + ((i % 3 : Nat) : Int))), .s (.int .i64 ((i % 4 : Nat) : Int)), .s (.int .u64 0), .imm false none [.s (.int .u8 97), .s (.int .u8 98), .s (.int .u8 99)]] = q.enc := by rw [← hqd]; rfl
      obtain ⟨G, hG⟩ : ∃ G : Hp, H ++ [Blk.cells none opsV, Blk.dead] = G := ⟨_, rfl⟩
      have xrG : XR G (some 35) k y (qs.map Q.enc) := by rw [← hG]; exact xr.mono fun w hw => get_old hw _
      have fG : Fw [] h G := by rw [← hG]; exact fw.trans (Fw.app _ _ _)
      obtain ⟨y2, H2, k2, ap, xr2, hk2, hl2, _, hg2, hold2⟩ := xrG.pushL (n := h.length) (m := 1) (ys := [q.enc]) (bytes := 80) hk fG.len rfl (fun z hz => by simp at hz; subst hz; exact ground_Q q) (by simp; omega)
      have xr2 : XR H2 (some 35) k2 y2 ((qs ++ [q]).map Q.enc) := by rw [List.map_append]; exact xr2
      have f2 : Fw [] h H2 := fG.trans' (n := 0) hg2 hold2 hk
      have hGG : H ++ [Blk.cells none opsV, Blk.dead, Blk.cells (some 35) [q.enc]] = G ++ [Blk.cells (some 35) [q.enc]] := by rw [← hG]; simp
      have hGl : H.length + 2 = G.length := by rw [← hG]; simp
      simp only [opsV] at hog hGG
      have hvb : (0 : Nat) = 0 := rfl
      try simp only [B5, B5R0, B5L0, e2, e1, c', r7, r3, r4, r120, hqo, w5, w1, hwr, hog, j7, j70, j7n, oty, hqe, ← qty, qso, hGG, hGl, ap, Int.toNat_natCast, Int.cast_ofNat_Int, go_sem, V.s.injEq, Value.bool.injEq, ↓reduceIte, Nat.reduceEqDiff, Nat.reduceBEq, Nat.reduceAdd, Nat.reduceSub, Nat.reduceLT, Nat.reduceLeDiff, Int.reduceLT, Int.reduceLE, Int.reduceEq, Int.reduceToNat, List.append_assoc, List.length_append, Vm.get_app, Vm.set_app, Vm.get_appL, Vm.get_appL0, Vm.set_appL, Vm.set_appL0, Nat.le_refl, Nat.le_add_right, okAt]
      repeat' (
        first | refine wpC_cases ?_ ?_ | refine wpU_casesT ?_ ?_ | refine wpU_casesF ?_ ?_
        all_goals intro hvc
        all_goals first | replace hvc := not_of_true hvc | replace hvc := not_of_false hvc | skip
        all_goals first | subst hvc | replace hvb := And.intro hvc hvb
        all_goals try simp only [hvb, B5, B5R0, B5L0, e2, e1, c', r7, r3, r4, r120, hqo, w5, w1, hwr, hog, j7, j70, j7n, oty, hqe, ← qty, qso, hGG, hGl, ap, Int.toNat_natCast, Int.cast_ofNat_Int, go_sem, V.s.injEq, Value.bool.injEq, ↓reduceIte, Nat.reduceEqDiff, Nat.reduceBEq, Nat.reduceAdd, Nat.reduceSub, Nat.reduceLT, Nat.reduceLeDiff, Int.reduceLT, Int.reduceLE, Int.reduceEq, Int.reduceToNat, List.append_assoc, List.length_append, Vm.get_app, Vm.set_app, Vm.get_appL, Vm.get_appL0, Vm.set_appL, Vm.set_appL0, Nat.le_refl, Nat.le_add_right, okAt])
      all_goals exact ⟨200 - (i + 1), by omega, i + 1, y2, k2, qs ++ [q], rfl, by omega, rfl, rfl, xr2, by simp [hq], by intro x hx; rcases List.mem_append.1 hx with hx | hx; exact hw x hx; simp at hx; subst hx; exact hqw, hk2, f2⟩
    · have c' : ¬ (i : Int) < 200 := by omega
      have hvb : (0 : Nat) = 0 := rfl
      try simp only [B5, B5R0, B5L0, e2, e1, c', go_sem, V.s.injEq, Value.bool.injEq, ↓reduceIte, Nat.reduceEqDiff, Nat.reduceBEq, Nat.reduceAdd, Nat.reduceSub, Nat.reduceLT, Nat.reduceLeDiff, Int.reduceLT, Int.reduceLE, Int.reduceEq, Int.reduceToNat, List.append_assoc, List.length_append, Vm.get_app, Vm.set_app, Vm.get_appL, Vm.get_appL0, Vm.set_appL, Vm.set_appL0, Nat.le_refl, Nat.le_add_right, okAt]
      repeat' (
        first | refine wpC_cases ?_ ?_ | refine wpU_casesT ?_ ?_ | refine wpU_casesF ?_ ?_
        all_goals intro hvc
        all_goals first | replace hvc := not_of_true hvc | replace hvc := not_of_false hvc | skip
        all_goals first | subst hvc | replace hvb := And.intro hvc hvb
        all_goals try simp only [hvb, B5, B5R0, B5L0, e2, e1, c', go_sem, V.s.injEq, Value.bool.injEq, ↓reduceIte, Nat.reduceEqDiff, Nat.reduceBEq, Nat.reduceAdd, Nat.reduceSub, Nat.reduceLT, Nat.reduceLeDiff, Int.reduceLT, Int.reduceLE, Int.reduceEq, Int.reduceToNat, List.append_assoc, List.length_append, Vm.get_app, Vm.set_app, Vm.get_appL, Vm.get_appL0, Vm.set_appL, Vm.set_appL0, Nat.le_refl, Nat.le_add_right, okAt])
      all_goals exact ⟨y, k, qs, rfl, xr, by omega, hw, hk, fw⟩
  · rintro e H ⟨y, k, qs, e1, xr, hq, hw, hk, fw⟩
    have hp := play_ok h.length H y (.imm true (some 32) []) qs [] 200 xr.SR (.inl ⟨true, rfl⟩) (by omega) (by omega) hw (by simp) (by simp)
    have hkn := known23_ok h.length H
    have ht := fw.take
    simp only [Int.cast_ofNat_Int] at hp
    have hvb : (0 : Nat) = 0 := rfl
    try simp only [e1, hp, hkn, ht, go_sem, V.s.injEq, Value.bool.injEq, ↓reduceIte, Nat.reduceEqDiff, Nat.reduceBEq, Nat.reduceAdd, Nat.reduceSub, Nat.reduceLT, Nat.reduceLeDiff, Int.reduceLT, Int.reduceLE, Int.reduceEq, Int.reduceToNat, List.append_assoc, List.length_append, Vm.get_app, Vm.set_app, Vm.get_appL, Vm.get_appL0, Vm.set_appL, Vm.set_appL0, Nat.le_refl, Nat.le_add_right, okAt]
    repeat' (
      first | refine wpC_cases ?_ ?_ | refine wpU_casesT ?_ ?_ | refine wpU_casesF ?_ ?_
      all_goals intro hvc
      all_goals first | replace hvc := not_of_true hvc | replace hvc := not_of_false hvc | skip
      all_goals first | subst hvc | replace hvb := And.intro hvc hvb
      all_goals try simp only [hvb, e1, hp, hkn, ht, go_sem, V.s.injEq, Value.bool.injEq, ↓reduceIte, Nat.reduceEqDiff, Nat.reduceBEq, Nat.reduceAdd, Nat.reduceSub, Nat.reduceLT, Nat.reduceLeDiff, Int.reduceLT, Int.reduceLE, Int.reduceEq, Int.reduceToNat, List.append_assoc, List.length_append, Vm.get_app, Vm.set_app, Vm.get_appL, Vm.get_appL0, Vm.set_appL, Vm.set_appL0, Nat.le_refl, Nat.le_add_right, okAt])
end Go.Proofs.Ytkkncdokkdamcaa
