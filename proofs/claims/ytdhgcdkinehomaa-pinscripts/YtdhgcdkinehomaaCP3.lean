/- What a person types: the document's Weak; masks. Conditions: none. -/
import Derived.Test.YtdhgcdkinehomaaCP2
namespace Go.Proofs.Ytdhgcdkinehomaa
open Go Go.Vm Go.Proofs Go.Cl
set_option linter.unusedSimpArgs false
set_option linter.unusedVariables false
set_option maxRecDepth 100000
theorem rWeak_ok (b : Nat) (h : Hp) (l : Bs) (hl : l.length ≤ 1000000) : run fns pr b 58 [txt l] h = some (.s (.bool (weak l)), h) := by
  refine Vm.runP (nt := 66) rfl fit58 (by simp) ?_
  have hsz : ((List.toArray l).size : Int) = l.length := rfl
  by_cases h4 : (l.length : Int) < 4
  · have hw : weak l = false := by have : ¬ 4 ≤ l.length := by omega
                                   simp [weak, this]
    have hvb : (0 : Nat) = 0 := rfl
    try simp only [B58, B58R0, B58L0, txt, hsz, h4, hw, go_sem, V.s.injEq, Value.bool.injEq, ↓reduceIte, Nat.reduceEqDiff, Nat.reduceBEq, Nat.reduceAdd, Nat.reduceSub, Nat.reduceLT, Nat.reduceLeDiff, Int.reduceLT, Int.reduceLE, Int.reduceEq, Int.reduceToNat, List.append_assoc, List.length_append, Vm.get_app, Vm.set_app, Vm.get_appL, Vm.get_appL0, Vm.set_appL, Vm.set_appL0, Nat.le_refl, Nat.le_add_right, okAt]
    repeat' (
      first | refine wpC_cases ?_ ?_ | refine wpU_casesT ?_ ?_ | refine wpU_casesF ?_ ?_
      all_goals intro hvc
      all_goals first | replace hvc := not_of_true hvc | replace hvc := not_of_false hvc | skip
      all_goals first | subst hvc | replace hvb := And.intro hvc hvb
      all_goals try simp only [hvb, B58, B58R0, B58L0, txt, hsz, h4, hw, go_sem, V.s.injEq, Value.bool.injEq, ↓reduceIte, Nat.reduceEqDiff, Nat.reduceBEq, Nat.reduceAdd, Nat.reduceSub, Nat.reduceLT, Nat.reduceLeDiff, Int.reduceLT, Int.reduceLE, Int.reduceEq, Int.reduceToNat, List.append_assoc, List.length_append, Vm.get_app, Vm.set_app, Vm.get_appL, Vm.get_appL0, Vm.set_appL, Vm.set_appL0, Nat.le_refl, Nat.le_add_right, okAt])
  by_cases h12 : (12 : Int) < l.length
  · have hw : weak l = false := by have : ¬ l.length ≤ 12 := by omega
                                   simp [weak, this]
    have hvb : (0 : Nat) = 0 := rfl
    try simp only [B58, B58R0, B58L0, txt, hsz, h4, h12, hw, go_sem, V.s.injEq, Value.bool.injEq, ↓reduceIte, Nat.reduceEqDiff, Nat.reduceBEq, Nat.reduceAdd, Nat.reduceSub, Nat.reduceLT, Nat.reduceLeDiff, Int.reduceLT, Int.reduceLE, Int.reduceEq, Int.reduceToNat, List.append_assoc, List.length_append, Vm.get_app, Vm.set_app, Vm.get_appL, Vm.get_appL0, Vm.set_appL, Vm.set_appL0, Nat.le_refl, Nat.le_add_right, okAt]
    repeat' (
      first | refine wpC_cases ?_ ?_ | refine wpU_casesT ?_ ?_ | refine wpU_casesF ?_ ?_
      all_goals intro hvc
      all_goals first | replace hvc := not_of_true hvc | replace hvc := not_of_false hvc | skip
      all_goals first | subst hvc | replace hvb := And.intro hvc hvb
      all_goals try simp only [hvb, B58, B58R0, B58L0, txt, hsz, h4, h12, hw, go_sem, V.s.injEq, Value.bool.injEq, ↓reduceIte, Nat.reduceEqDiff, Nat.reduceBEq, Nat.reduceAdd, Nat.reduceSub, Nat.reduceLT, Nat.reduceLeDiff, Int.reduceLT, Int.reduceLE, Int.reduceEq, Int.reduceToNat, List.append_assoc, List.length_append, Vm.get_app, Vm.set_app, Vm.get_appL, Vm.get_appL0, Vm.set_appL, Vm.set_appL0, Nat.le_refl, Nat.le_add_right, okAt])
  have hw : weak l = (digsN l l.length && (goesN l 0 l.length || goesN l 1 l.length || goesN l (-1) l.length)) := by
    have h1 : 4 ≤ l.length := by omega
    have h2 : l.length ≤ 12 := by omega
    simp [weak, h1, h2]
  have hvb : (0 : Nat) = 0 := rfl
  try simp only [B58, B58R0, B58L0, txt, hsz, h4, h12, go_sem, V.s.injEq, Value.bool.injEq, ↓reduceIte, Nat.reduceEqDiff, Nat.reduceBEq, Nat.reduceAdd, Nat.reduceSub, Nat.reduceLT, Nat.reduceLeDiff, Int.reduceLT, Int.reduceLE, Int.reduceEq, Int.reduceToNat, List.append_assoc, List.length_append, Vm.get_app, Vm.set_app, Vm.get_appL, Vm.get_appL0, Vm.set_appL, Vm.set_appL0, Nat.le_refl, Nat.le_add_right, okAt]
  repeat' (
    first | refine wpC_cases ?_ ?_ | refine wpU_casesT ?_ ?_ | refine wpU_casesF ?_ ?_
    all_goals intro hvc
    all_goals first | replace hvc := not_of_true hvc | replace hvc := not_of_false hvc | skip
    all_goals first | subst hvc | replace hvb := And.intro hvc hvb
    all_goals try simp only [hvb, B58, B58R0, B58L0, txt, hsz, h4, h12, go_sem, V.s.injEq, Value.bool.injEq, ↓reduceIte, Nat.reduceEqDiff, Nat.reduceBEq, Nat.reduceAdd, Nat.reduceSub, Nat.reduceLT, Nat.reduceLeDiff, Int.reduceLT, Int.reduceLE, Int.reduceEq, Int.reduceToNat, List.append_assoc, List.length_append, Vm.get_app, Vm.set_app, Vm.get_appL, Vm.get_appL0, Vm.set_appL, Vm.set_appL0, Nat.le_refl, Nat.le_add_right, okAt])
  refine wp_for (fun m e H => ∃ i : Nat, m = l.length - i ∧ i ≤ l.length ∧ e 6 = .s (.int .i64 i) ∧ e 0 = .s (.string ⟨l.toArray⟩) ∧ e 3 = .s (.bool (goesN l 0 i)) ∧ e 4 = .s (.bool (goesN l 1 i)) ∧ e 5 = .s (.bool (goesN l (-1) i)) ∧ H = h ∧ digsN l i = true)
    (fun e H => H = h ∧ e 3 = .s (.bool (goesN l 0 l.length)) ∧ e 4 = .s (.bool (goesN l 1 l.length)) ∧ e 5 = .s (.bool (goesN l (-1) l.length)) ∧ digsN l l.length = true)
    l.length _ _ ⟨0, by omega, by omega, rfl, rfl, rfl, rfl, rfl, rfl, rfl⟩ ?_ ?_
  · rintro m e H ⟨i, rfl, hi, e6, e0, e3, e4, e5, rfl, hg⟩
    by_cases c : i < l.length
    · have c' : (i : Int) < l.length := by omega
      have x1 := fun cf base h => o_sidxT (cf := cf) (base := base) (h := h) (k := .i64) (l := l) (i := i) c
      have hgs := digsN_succ l i
      rw [hg] at hgs
      have k1 := u8_lt (l.getD i 0)
      have hwr : IntKind.i64.wrap ((i : Int) + 1) = ((i + 1 : Nat) : Int) := wrap_small (by omega)
      by_cases d : 48 ≤ (l.getD i 0).toNat ∧ (l.getD i 0).toNat ≤ 57
      · have hg1 : digsN l (i + 1) = true := by rw [hgs, Bool.true_and, Bool.and_eq_true, decide_eq_true_eq, decide_eq_true_eq]; exact d
        have d1 : ¬ ((l.getD i 0).toNat : Int) < 48 := by omega
        have d2 : ¬ (57 : Int) < ((l.getD i 0).toNat : Int) := by omega
        have x2 := fun hh cf base h => o_sidxT (cf := cf) (base := base) (h := h) (k := .i64) (l := l) (i := i - 1) hh
        have k2 := u8_lt (l.getD (i - 1) 0)
        have q0 := goesN_succ l 0 i
        have q1 := goesN_succ l 1 i
        have q2 := goesN_succ l (-1) i
        generalize ((l.getD i 0).toNat : Int) = u at x1 d1 d2 k1 q0 q1 q2
        generalize ((l.getD (i - 1) 0).toNat : Int) = v at x2 k2 q0 q1 q2
        generalize goesN l 0 i = g0 at e3 q0
        generalize goesN l 1 i = g1 at e4 q1
        generalize goesN l (-1) i = g2 at e5 q2
        by_cases hz : i = 0
        · subst hz
          have e6 : e 6 = .s (.int .i64 0) := e6
          have x1 : ∀ cf base h, opV cf base h .sidx [.s (.string ⟨l.toArray⟩), .s (.int .i64 0)] = some (.s (.int .u8 u), h) := x1
          simp only [beq_self_eq_true, Bool.true_or, Bool.and_true] at q0 q1 q2
          have c' : (0 : Int) < l.length := c'
          have hvb : (0 : Nat) = 0 := rfl
          try simp only [e6, e0, e3, e4, e5, hsz, c', x1, d1, d2, go_sem, V.s.injEq, Value.bool.injEq, ↓reduceIte, Nat.reduceEqDiff, Nat.reduceBEq, Nat.reduceAdd, Nat.reduceSub, Nat.reduceLT, Nat.reduceLeDiff, Int.reduceLT, Int.reduceLE, Int.reduceEq, Int.reduceToNat, List.append_assoc, List.length_append, Vm.get_app, Vm.set_app, Vm.get_appL, Vm.get_appL0, Vm.set_appL, Vm.set_appL0, Nat.le_refl, Nat.le_add_right, okAt]
          repeat' (
            first | refine wpC_cases ?_ ?_ | refine wpU_casesT ?_ ?_ | refine wpU_casesF ?_ ?_
            all_goals intro hvc
            all_goals first | replace hvc := not_of_true hvc | replace hvc := not_of_false hvc | skip
            all_goals first | subst hvc | replace hvb := And.intro hvc hvb
            all_goals try simp only [hvb, e6, e0, e3, e4, e5, hsz, c', x1, d1, d2, go_sem, V.s.injEq, Value.bool.injEq, ↓reduceIte, Nat.reduceEqDiff, Nat.reduceBEq, Nat.reduceAdd, Nat.reduceSub, Nat.reduceLT, Nat.reduceLeDiff, Int.reduceLT, Int.reduceLE, Int.reduceEq, Int.reduceToNat, List.append_assoc, List.length_append, Vm.get_app, Vm.set_app, Vm.get_appL, Vm.get_appL0, Vm.set_appL, Vm.set_appL0, Nat.le_refl, Nat.le_add_right, okAt])
          all_goals exact ⟨l.length - 1, by omega, 1, rfl, by omega, rfl, by rw [q0], by rw [q1], by rw [q2], hg1⟩
        · have hi0 : (i == 0) = false := by simp [hz]
          have hi1 : (0 : Int) < i := by omega
          have x2 := x2 (by omega)
          have hsu : IntKind.i64.wrap ((i : Int) - 1) = ((i - 1 : Nat) : Int) := by rw [wrap_i64 (by omega) (by omega)]; omega
          simp only [hi0, Bool.false_or] at q0 q1 q2
          have w1 : IntKind.i64.wrap u = u := wrap_i64 (by omega) (by omega)
          have w2 : IntKind.i64.wrap v = v := wrap_i64 (by omega) (by omega)
          have w3 : IntKind.i64.wrap (u - v) = u - v := wrap_i64 (by omega) (by omega)
          have hvb : (0 : Nat) = 0 := rfl
          try simp only [e6, e0, e3, e4, e5, hsz, c', hi1, hsu, x1, x2, d1, d2, w1, w2, w3, hwr, go_sem, V.s.injEq, Value.bool.injEq, ↓reduceIte, Nat.reduceEqDiff, Nat.reduceBEq, Nat.reduceAdd, Nat.reduceSub, Nat.reduceLT, Nat.reduceLeDiff, Int.reduceLT, Int.reduceLE, Int.reduceEq, Int.reduceToNat, List.append_assoc, List.length_append, Vm.get_app, Vm.set_app, Vm.get_appL, Vm.get_appL0, Vm.set_appL, Vm.set_appL0, Nat.le_refl, Nat.le_add_right, okAt]
          repeat' (
            first | refine wpC_cases ?_ ?_ | refine wpU_casesT ?_ ?_ | refine wpU_casesF ?_ ?_
            all_goals intro hvc
            all_goals first | replace hvc := not_of_true hvc | replace hvc := not_of_false hvc | skip
            all_goals first | subst hvc | replace hvb := And.intro hvc hvb
            all_goals try simp only [hvb, e6, e0, e3, e4, e5, hsz, c', hi1, hsu, x1, x2, d1, d2, w1, w2, w3, hwr, go_sem, V.s.injEq, Value.bool.injEq, ↓reduceIte, Nat.reduceEqDiff, Nat.reduceBEq, Nat.reduceAdd, Nat.reduceSub, Nat.reduceLT, Nat.reduceLeDiff, Int.reduceLT, Int.reduceLE, Int.reduceEq, Int.reduceToNat, List.append_assoc, List.length_append, Vm.get_app, Vm.set_app, Vm.get_appL, Vm.get_appL0, Vm.set_appL, Vm.set_appL0, Nat.le_refl, Nat.le_add_right, okAt])
          all_goals exact ⟨l.length - (i + 1), by omega, i + 1, rfl, by omega, rfl, by rw [q0]; simp_all <;> rfl, by rw [q1]; simp_all <;> rfl, by rw [q2]; simp_all <;> rfl, hg1⟩
      · have hg1 : digsN l l.length = false := digsN_false (n := i + 1) (by omega) (by rw [hgs, Bool.true_and, Bool.and_eq_false_iff, decide_eq_false_iff_not, decide_eq_false_iff_not]; omega)
        rw [hg1, Bool.false_and] at hw
        by_cases d1 : ((l.getD i 0).toNat : Int) < 48
        · generalize ((l.getD i 0).toNat : Int) = u at x1 d1
          have hvb : (0 : Nat) = 0 := rfl
          try simp only [e6, e0, e3, e4, e5, hsz, c', x1, d1, hw, go_sem, V.s.injEq, Value.bool.injEq, ↓reduceIte, Nat.reduceEqDiff, Nat.reduceBEq, Nat.reduceAdd, Nat.reduceSub, Nat.reduceLT, Nat.reduceLeDiff, Int.reduceLT, Int.reduceLE, Int.reduceEq, Int.reduceToNat, List.append_assoc, List.length_append, Vm.get_app, Vm.set_app, Vm.get_appL, Vm.get_appL0, Vm.set_appL, Vm.set_appL0, Nat.le_refl, Nat.le_add_right, okAt]
          repeat' (
            first | refine wpC_cases ?_ ?_ | refine wpU_casesT ?_ ?_ | refine wpU_casesF ?_ ?_
            all_goals intro hvc
            all_goals first | replace hvc := not_of_true hvc | replace hvc := not_of_false hvc | skip
            all_goals first | subst hvc | replace hvb := And.intro hvc hvb
            all_goals try simp only [hvb, e6, e0, e3, e4, e5, hsz, c', x1, d1, hw, go_sem, V.s.injEq, Value.bool.injEq, ↓reduceIte, Nat.reduceEqDiff, Nat.reduceBEq, Nat.reduceAdd, Nat.reduceSub, Nat.reduceLT, Nat.reduceLeDiff, Int.reduceLT, Int.reduceLE, Int.reduceEq, Int.reduceToNat, List.append_assoc, List.length_append, Vm.get_app, Vm.set_app, Vm.get_appL, Vm.get_appL0, Vm.set_appL, Vm.set_appL0, Nat.le_refl, Nat.le_add_right, okAt])
        · have d2 : (57 : Int) < ((l.getD i 0).toNat : Int) := by omega
          generalize ((l.getD i 0).toNat : Int) = u at x1 d1 d2
          have hvb : (0 : Nat) = 0 := rfl
          try simp only [e6, e0, e3, e4, e5, hsz, c', x1, d1, d2, hw, go_sem, V.s.injEq, Value.bool.injEq, ↓reduceIte, Nat.reduceEqDiff, Nat.reduceBEq, Nat.reduceAdd, Nat.reduceSub, Nat.reduceLT, Nat.reduceLeDiff, Int.reduceLT, Int.reduceLE, Int.reduceEq, Int.reduceToNat, List.append_assoc, List.length_append, Vm.get_app, Vm.set_app, Vm.get_appL, Vm.get_appL0, Vm.set_appL, Vm.set_appL0, Nat.le_refl, Nat.le_add_right, okAt]
          repeat' (
            first | refine wpC_cases ?_ ?_ | refine wpU_casesT ?_ ?_ | refine wpU_casesF ?_ ?_
            all_goals intro hvc
            all_goals first | replace hvc := not_of_true hvc | replace hvc := not_of_false hvc | skip
            all_goals first | subst hvc | replace hvb := And.intro hvc hvb
            all_goals try simp only [hvb, e6, e0, e3, e4, e5, hsz, c', x1, d1, d2, hw, go_sem, V.s.injEq, Value.bool.injEq, ↓reduceIte, Nat.reduceEqDiff, Nat.reduceBEq, Nat.reduceAdd, Nat.reduceSub, Nat.reduceLT, Nat.reduceLeDiff, Int.reduceLT, Int.reduceLE, Int.reduceEq, Int.reduceToNat, List.append_assoc, List.length_append, Vm.get_app, Vm.set_app, Vm.get_appL, Vm.get_appL0, Vm.set_appL, Vm.set_appL0, Nat.le_refl, Nat.le_add_right, okAt])
    · have c' : ¬ (i : Int) < l.length := by omega
      have : i = l.length := by omega
      subst this
      have hvb : (0 : Nat) = 0 := rfl
      try simp only [e6, e0, e3, e4, e5, hsz, c', go_sem, V.s.injEq, Value.bool.injEq, ↓reduceIte, Nat.reduceEqDiff, Nat.reduceBEq, Nat.reduceAdd, Nat.reduceSub, Nat.reduceLT, Nat.reduceLeDiff, Int.reduceLT, Int.reduceLE, Int.reduceEq, Int.reduceToNat, List.append_assoc, List.length_append, Vm.get_app, Vm.set_app, Vm.get_appL, Vm.get_appL0, Vm.set_appL, Vm.set_appL0, Nat.le_refl, Nat.le_add_right, okAt]
      repeat' (
        first | refine wpC_cases ?_ ?_ | refine wpU_casesT ?_ ?_ | refine wpU_casesF ?_ ?_
        all_goals intro hvc
        all_goals first | replace hvc := not_of_true hvc | replace hvc := not_of_false hvc | skip
        all_goals first | subst hvc | replace hvb := And.intro hvc hvb
        all_goals try simp only [hvb, e6, e0, e3, e4, e5, hsz, c', go_sem, V.s.injEq, Value.bool.injEq, ↓reduceIte, Nat.reduceEqDiff, Nat.reduceBEq, Nat.reduceAdd, Nat.reduceSub, Nat.reduceLT, Nat.reduceLeDiff, Int.reduceLT, Int.reduceLE, Int.reduceEq, Int.reduceToNat, List.append_assoc, List.length_append, Vm.get_app, Vm.set_app, Vm.get_appL, Vm.get_appL0, Vm.set_appL, Vm.set_appL0, Nat.le_refl, Nat.le_add_right, okAt])
      all_goals exact hg
  · rintro e H ⟨rfl, e3, e4, e5, hg⟩
    rw [hg, Bool.true_and] at hw
    have hvb : (0 : Nat) = 0 := rfl
    try simp only [e3, e4, e5, hw, go_sem, V.s.injEq, Value.bool.injEq, ↓reduceIte, Nat.reduceEqDiff, Nat.reduceBEq, Nat.reduceAdd, Nat.reduceSub, Nat.reduceLT, Nat.reduceLeDiff, Int.reduceLT, Int.reduceLE, Int.reduceEq, Int.reduceToNat, List.append_assoc, List.length_append, Vm.get_app, Vm.set_app, Vm.get_appL, Vm.get_appL0, Vm.set_appL, Vm.set_appL0, Nat.le_refl, Nat.le_add_right, okAt]
    repeat' (
      first | refine wpC_cases ?_ ?_ | refine wpU_casesT ?_ ?_ | refine wpU_casesF ?_ ?_
      all_goals intro hvc
      all_goals first | replace hvc := not_of_true hvc | replace hvc := not_of_false hvc | skip
      all_goals first | subst hvc | replace hvb := And.intro hvc hvb
      all_goals try simp only [hvb, e3, e4, e5, hw, go_sem, V.s.injEq, Value.bool.injEq, ↓reduceIte, Nat.reduceEqDiff, Nat.reduceBEq, Nat.reduceAdd, Nat.reduceSub, Nat.reduceLT, Nat.reduceLeDiff, Int.reduceLT, Int.reduceLE, Int.reduceEq, Int.reduceToNat, List.append_assoc, List.length_append, Vm.get_app, Vm.set_app, Vm.get_appL, Vm.get_appL0, Vm.set_appL, Vm.set_appL0, Nat.le_refl, Nat.le_add_right, okAt])
    all_goals simp_all

theorem Masked_ok (b : Nat) (h : Hp) (l : Bs) (hl : l.length ≤ 1000000) : run fns pr b 34 [txt l] h = some (txt (masked l), h) := by
  refine Vm.runP (nt := 18) rfl fit34 (by simp) ?_
  have h1 := fun b h => signs_ok b h l hl
  have hle := sg_le l
  simp only [txt] at h1
  have ws : IntKind.i64.wrap (((sg l).length : Int) - 2) = ((sg l).length : Int) - 2 := wrap_i64 (by omega) (by omega)
  have hm : max 0 (((sg l).length : Int) - 2) = (((sg l).length - 2 : Nat) : Int) := by omega
  have h2 : ∀ b h, run fns pr b 63 [.s (.string ⟨#[226, 128, 162]⟩), .s (.int .i64 (((sg l).length - 2 : Nat) : Int))] h = some (.s (.string ⟨(encL (List.replicate ((sg l).length - 2) 8226)).toArray⟩), h) := fun b h => by
    have := rep_ok b h [226, 128, 162] (((sg l).length - 2 : Nat) : Int) (by omega) (by omega) (by simp)
    rw [Int.toNat_natCast, repeat_dot] at this
    exact this
  have hsr : ∀ h, SR h (.imm false none ((sg l).map runeV)) none ((sg l).map runeV) := fun h => .inl ⟨_, rfl⟩
  obtain ⟨y, hy, sy⟩ := (hsr h).lo (k := .i64) (l := (sg l).length - 2) (by simp)
  have hry : ∀ cf base, opV cf base h (.r2s false) [y] = some (.s (.string ⟨(encL ((sg l).drop ((sg l).length - 2))).toArray⟩), h) := fun cf base => o_r2sE (by rw [sy.elems, List.map_drop])
  have hm' : masked l = encL (List.replicate ((sg l).length - 2) 8226) ++ encL ((sg l).drop ((sg l).length - 2)) := by rw [masked, encL_append]
  have l1 := encL_len (List.replicate ((sg l).length - 2) 8226)
  have l2 := encL_len ((sg l).drop ((sg l).length - 2))
  simp only [List.length_replicate, List.length_drop] at l1 l2
  have had := fun cf base h => o_saddT (cf := cf) (base := base) (h := h) (encL (List.replicate ((sg l).length - 2) 8226)) (encL ((sg l).drop ((sg l).length - 2))) (by omega)
  have hvb : (0 : Nat) = 0 := rfl
  try simp only [B34, txt, h1, ws, hm, h2, hy, hry, had, hm', go_sem, V.s.injEq, Value.bool.injEq, ↓reduceIte, Nat.reduceEqDiff, Nat.reduceBEq, Nat.reduceAdd, Nat.reduceSub, Nat.reduceLT, Nat.reduceLeDiff, Int.reduceLT, Int.reduceLE, Int.reduceEq, Int.reduceToNat, List.append_assoc, List.length_append, Vm.get_app, Vm.set_app, Vm.get_appL, Vm.get_appL0, Vm.set_appL, Vm.set_appL0, Nat.le_refl, Nat.le_add_right, okAt]
  repeat' (
    first | refine wpC_cases ?_ ?_ | refine wpU_casesT ?_ ?_ | refine wpU_casesF ?_ ?_
    all_goals intro hvc
    all_goals first | replace hvc := not_of_true hvc | replace hvc := not_of_false hvc | skip
    all_goals first | subst hvc | replace hvb := And.intro hvc hvb
    all_goals try simp only [hvb, B34, txt, h1, ws, hm, h2, hy, hry, had, hm', go_sem, V.s.injEq, Value.bool.injEq, ↓reduceIte, Nat.reduceEqDiff, Nat.reduceBEq, Nat.reduceAdd, Nat.reduceSub, Nat.reduceLT, Nat.reduceLeDiff, Int.reduceLT, Int.reduceLE, Int.reduceEq, Int.reduceToNat, List.append_assoc, List.length_append, Vm.get_app, Vm.set_app, Vm.get_appL, Vm.get_appL0, Vm.set_appL, Vm.set_appL0, Nat.le_refl, Nat.le_add_right, okAt])

theorem rMasked_ok (b : Nat) (h : Hp) (l : Bs) (hl : l.length ≤ 1000000) : run fns pr b 59 [txt l] h = some (txt (masked l), h) := by
  obtain ⟨v, h', k, h1, xr, fw, hk⟩ := Signs_ok h.length h l hl
  have hle := sg_le l
  refine Vm.runP (nt := 19) rfl fit59 (by simp) ?_
  simp only [txt] at h1
  have hvb : (0 : Nat) = 0 := rfl
  try simp only [B59, B59R0, B59L0, txt, h1, go_sem, V.s.injEq, Value.bool.injEq, ↓reduceIte, Nat.reduceEqDiff, Nat.reduceBEq, Nat.reduceAdd, Nat.reduceSub, Nat.reduceLT, Nat.reduceLeDiff, Int.reduceLT, Int.reduceLE, Int.reduceEq, Int.reduceToNat, List.append_assoc, List.length_append, Vm.get_app, Vm.set_app, Vm.get_appL, Vm.get_appL0, Vm.set_appL, Vm.set_appL0, Nat.le_refl, Nat.le_add_right, okAt]
  repeat' (
    first | refine wpC_cases ?_ ?_ | refine wpU_casesT ?_ ?_ | refine wpU_casesF ?_ ?_
    all_goals intro hvc
    all_goals first | replace hvc := not_of_true hvc | replace hvc := not_of_false hvc | skip
    all_goals first | subst hvc | replace hvb := And.intro hvc hvb
    all_goals try simp only [hvb, B59, B59R0, B59L0, txt, h1, go_sem, V.s.injEq, Value.bool.injEq, ↓reduceIte, Nat.reduceEqDiff, Nat.reduceBEq, Nat.reduceAdd, Nat.reduceSub, Nat.reduceLT, Nat.reduceLeDiff, Int.reduceLT, Int.reduceLE, Int.reduceEq, Int.reduceToNat, List.append_assoc, List.length_append, Vm.get_app, Vm.set_app, Vm.get_appL, Vm.get_appL0, Vm.set_appL, Vm.set_appL0, Nat.le_refl, Nat.le_add_right, okAt])
  refine wp_for (fun m e H => ∃ i : Nat, m = (sg l).length - i ∧ i ≤ (sg l).length - 2 ∧ e 4 = .s (.int .i64 i) ∧ e 3 = v ∧ XR H none k v ((List.replicate i 8226 ++ (sg l).drop i).map runeV) ∧ Fw [] h H)
    (fun e H => e 3 = v ∧ XR H none k v ((List.replicate ((sg l).length - 2) 8226 ++ (sg l).drop ((sg l).length - 2)).map runeV) ∧ Fw [] h H)
    (sg l).length _ _ ⟨0, rfl, by omega, rfl, rfl, xr, fw⟩ ?_ ?_
  · rintro m e H ⟨i, rfl, hi, e4, e3, xr, fw⟩
    have hln := fun cf base => xr.SR.o_len (cf := cf) (base := base) (h := H)
    have hlen : (List.replicate i (8226 : Int) ++ (sg l).drop i).length = (sg l).length := by simp; omega
    simp only [List.length_map, hlen] at hln
    have w2 : IntKind.i64.wrap ((i : Int) + 2) = (i : Int) + 2 := wrap_i64 (by omega) (by omega)
    have hwr : IntKind.i64.wrap ((i : Int) + 1) = ((i + 1 : Nat) : Int) := wrap_small (by omega)
    by_cases c : i + 2 < (sg l).length
    · have c' : (i : Int) + 2 < (sg l).length := by omega
      have hia := fun cf base => xr.SR.o_ias (cf := cf) (base := base) (k := .i64) (i := i) (by simp; omega)
      obtain ⟨rfl, h0⟩ | ⟨rfl, h0⟩ := xr
      · have := congrArg List.length h0
        simp only [List.length_map, hlen, List.length_nil] at this; omega
      · have hi2 : i < (sg l).length := by omega
        simp only [List.length_map, hlen] at hia hln e3 ⊢
        have hv : ((List.replicate i (8226 : Int) ++ (sg l).drop i).map runeV)[i]? = some (runeV (sg l)[i]) := by
          rw [List.getElem?_map, List.getElem?_append_right (by simp)]
          simp [List.getElem?_drop, List.getElem?_eq_getElem hi2]
        have hst : ((List.replicate i (8226 : Int) ++ (sg l).drop i).map runeV).set i (.s (.int .i32 8226)) = (List.replicate (i + 1) (8226 : Int) ++ (sg l).drop (i + 1)).map runeV := by
          rw [show V.s (.int .i32 8226) = runeV 8226 from rfl, ← List.map_set, List.set_append_right _ _ (by simp), List.length_replicate, Nat.sub_self, List.drop_eq_getElem_cons hi2, List.set_cons_zero, List.replicate_succ', List.append_assoc]
          rfl
        have hlv : ((List.replicate i (8226 : Int) ++ (sg l).drop i).map runeV).length = (sg l).length := by rw [List.length_map, hlen]
        have hfw : Fw [] h (H.set k (.cells none ((List.replicate (i + 1) (8226 : Int) ++ (sg l).drop (i + 1)).map runeV))) := fw.set_new hk _
        have hnew := set_get h0 (b := .cells none ((List.replicate (i + 1) (8226 : Int) ++ (sg l).drop (i + 1)).map runeV))
        clear h1 xr hlen
        generalize (List.replicate i (8226 : Int) ++ (sg l).drop i).map runeV = vs at h0 hv hst hlv
        have hgr : (decide (h.length ≤ k) || (V.s (.int .i32 8226)).ground) = true := by simp [hk]
        have hvb : (0 : Nat) = 0 := rfl
        try simp only [e4, e3, hln, w2, c', hia, eltP, h0, hlv, hv, hst, runeV, hwr, hgr, go_sem, V.s.injEq, Value.bool.injEq, ↓reduceIte, Nat.reduceEqDiff, Nat.reduceBEq, Nat.reduceAdd, Nat.reduceSub, Nat.reduceLT, Nat.reduceLeDiff, Int.reduceLT, Int.reduceLE, Int.reduceEq, Int.reduceToNat, List.append_assoc, List.length_append, Vm.get_app, Vm.set_app, Vm.get_appL, Vm.get_appL0, Vm.set_appL, Vm.set_appL0, Nat.le_refl, Nat.le_add_right, okAt]
        repeat' (
          first | refine wpC_cases ?_ ?_ | refine wpU_casesT ?_ ?_ | refine wpU_casesF ?_ ?_
          all_goals intro hvc
          all_goals first | replace hvc := not_of_true hvc | replace hvc := not_of_false hvc | skip
          all_goals first | subst hvc | replace hvb := And.intro hvc hvb
          all_goals try simp only [hvb, e4, e3, hln, w2, c', hia, eltP, h0, hlv, hv, hst, runeV, hwr, hgr, go_sem, V.s.injEq, Value.bool.injEq, ↓reduceIte, Nat.reduceEqDiff, Nat.reduceBEq, Nat.reduceAdd, Nat.reduceSub, Nat.reduceLT, Nat.reduceLeDiff, Int.reduceLT, Int.reduceLE, Int.reduceEq, Int.reduceToNat, List.append_assoc, List.length_append, Vm.get_app, Vm.set_app, Vm.get_appL, Vm.get_appL0, Vm.set_appL, Vm.set_appL0, Nat.le_refl, Nat.le_add_right, okAt])
        exact ⟨(sg l).length - (i + 1), by omega, i + 1, rfl, by omega, rfl, .inr ⟨by rw [List.length_map, List.length_append, List.length_replicate, List.length_drop]; congr 1 <;> omega, hnew⟩, hfw⟩
    · have c' : ¬ (i : Int) + 2 < (sg l).length := by omega
      have : i = (sg l).length - 2 := by omega
      have hvb : (0 : Nat) = 0 := rfl
      try simp only [e4, e3, hln, w2, c', go_sem, V.s.injEq, Value.bool.injEq, ↓reduceIte, Nat.reduceEqDiff, Nat.reduceBEq, Nat.reduceAdd, Nat.reduceSub, Nat.reduceLT, Nat.reduceLeDiff, Int.reduceLT, Int.reduceLE, Int.reduceEq, Int.reduceToNat, List.append_assoc, List.length_append, Vm.get_app, Vm.set_app, Vm.get_appL, Vm.get_appL0, Vm.set_appL, Vm.set_appL0, Nat.le_refl, Nat.le_add_right, okAt]
      repeat' (
        first | refine wpC_cases ?_ ?_ | refine wpU_casesT ?_ ?_ | refine wpU_casesF ?_ ?_
        all_goals intro hvc
        all_goals first | replace hvc := not_of_true hvc | replace hvc := not_of_false hvc | skip
        all_goals first | subst hvc | replace hvb := And.intro hvc hvb
        all_goals try simp only [hvb, e4, e3, hln, w2, c', go_sem, V.s.injEq, Value.bool.injEq, ↓reduceIte, Nat.reduceEqDiff, Nat.reduceBEq, Nat.reduceAdd, Nat.reduceSub, Nat.reduceLT, Nat.reduceLeDiff, Int.reduceLT, Int.reduceLE, Int.reduceEq, Int.reduceToNat, List.append_assoc, List.length_append, Vm.get_app, Vm.set_app, Vm.get_appL, Vm.get_appL0, Vm.set_appL, Vm.set_appL0, Nat.le_refl, Nat.le_add_right, okAt])
      all_goals (subst this; exact ⟨xr, fw⟩)
  · rintro e H ⟨e3, xr, fw⟩
    have htk := fw.take
    have hry : ∀ cf base, opV cf base H (.r2s false) [v] = some (.s (.string ⟨(masked l).toArray⟩), H) := fun cf base => o_r2sE xr.els
    have hvb : (0 : Nat) = 0 := rfl
    try simp only [e3, hry, htk, go_sem, V.s.injEq, Value.bool.injEq, ↓reduceIte, Nat.reduceEqDiff, Nat.reduceBEq, Nat.reduceAdd, Nat.reduceSub, Nat.reduceLT, Nat.reduceLeDiff, Int.reduceLT, Int.reduceLE, Int.reduceEq, Int.reduceToNat, List.append_assoc, List.length_append, Vm.get_app, Vm.set_app, Vm.get_appL, Vm.get_appL0, Vm.set_appL, Vm.set_appL0, Nat.le_refl, Nat.le_add_right, okAt]
    repeat' (
      first | refine wpC_cases ?_ ?_ | refine wpU_casesT ?_ ?_ | refine wpU_casesF ?_ ?_
      all_goals intro hvc
      all_goals first | replace hvc := not_of_true hvc | replace hvc := not_of_false hvc | skip
      all_goals first | subst hvc | replace hvb := And.intro hvc hvb
      all_goals try simp only [hvb, e3, hry, htk, go_sem, V.s.injEq, Value.bool.injEq, ↓reduceIte, Nat.reduceEqDiff, Nat.reduceBEq, Nat.reduceAdd, Nat.reduceSub, Nat.reduceLT, Nat.reduceLeDiff, Int.reduceLT, Int.reduceLE, Int.reduceEq, Int.reduceToNat, List.append_assoc, List.length_append, Vm.get_app, Vm.set_app, Vm.get_appL, Vm.get_appL0, Vm.set_appL, Vm.set_appL0, Nat.le_refl, Nat.le_add_right, okAt])
end Go.Proofs.Ytdhgcdkinehomaa
