/- TableNumbers: its run. Conditions: none. -/
import Derived.Test.YtdhgcdkinehomaaCS12Q
namespace Go.Proofs.Ytdhgcdkinehomaa
open Go Go.Vm Go.Proofs Go.Cl
set_option linter.unusedSimpArgs false
set_option linter.unusedVariables false
set_option maxRecDepth 100000
/-- A value that reads as an ask, its slice in a block other than k. -/
def QR (H : Hp) (k : Nat) (y : V) : Prop := ∃ (a : Ask12) (kb n : Nat) (es : List V), y = a.encF (.ref kb [] (some 52) 0 n 5) ∧ kb ≠ k ∧ H[kb]? = some (.cells (some 52) es) ∧ es.length = 5 ∧ n ≤ 5 ∧ a.l.length = n ∧ es.take n = a.l.map KV.enc ∧ a.wf
def kv5 (i : Nat) : List KV := [⟨i, 0, 0, 0, 0, 0, 0, []⟩, ⟨(i / 2 : Nat), 0, 0, 0, 0, 0, 0, []⟩, ⟨(i / 4 : Nat), 0, 0, 0, 0, 3, 0, []⟩, ⟨0, 0, 0, 0, 0, 0, 0, []⟩, ⟨0, 0, 0, 0, 0, 0, 0, []⟩]
def ask (i : Nat) : Ask12 := ⟨(i % 6 : Nat), ⟨(i * 3 : Nat), 0, 0, i, i, i, i, []⟩, (kv5 i).take (i % 6), zeroV⟩
theorem ask_wf (i : Nat) (hi : i < 48) : (ask i).wf := by
  have hz : zeroV.wf := ⟨rfl, by decide, rfl, by decide, by decide, by decide, rfl, trivial, trivial⟩
  refine ⟨by simp only [ask]; omega, ⟨by simp only [ask]; omega, by simp only [ask]; omega, by simp only [ask]; omega, by simp only [ask]; omega, by simp only [ask]; omega, by simp only [ask]; omega, by simp only [ask]; omega, by simp [ask]⟩, ⟨by simp [ask, kv5]; omega, ?_⟩, hz⟩
  intro z hz
  have hz := List.mem_of_mem_take hz
  simp only [kv5, List.mem_cons, List.not_mem_nil, or_false] at hz
  rcases hz with rfl | rfl | rfl | rfl | rfl <;> exact ⟨by simp only; omega, by simp only; omega, by simp only; omega, by simp only; omega, by simp only; omega, by simp only; omega, by simp only; omega, by simp⟩
theorem TableNumbers_run : run fns pr 0 6 [] [] = some (.s (.bool true), []) := by
  refine Vm.runP (nt := 40) rfl fit6 (by simp) ?_
  have hvb : (0 : Nat) = 0 := rfl
  try simp only [B6, B6L0, go_sem, V.s.injEq, Value.bool.injEq, ↓reduceIte, Nat.reduceEqDiff, Nat.reduceBEq, Nat.reduceAdd, Nat.reduceSub, Nat.reduceLT, Nat.reduceLeDiff, Int.reduceLT, Int.reduceLE, Int.reduceEq, Int.reduceToNat, List.append_assoc, List.length_append, Vm.get_app, Vm.set_app, Vm.get_appL, Vm.get_appL0, Vm.set_appL, Vm.set_appL0, Nat.le_refl, Nat.le_add_right, okAt]
  repeat' (
    first | refine wpC_cases ?_ ?_ | refine wpU_casesT ?_ ?_ | refine wpU_casesF ?_ ?_
    all_goals intro hvc
    all_goals first | replace hvc := not_of_true hvc | replace hvc := not_of_false hvc | skip
    all_goals first | subst hvc | replace hvb := And.intro hvc hvb
    all_goals try simp only [hvb, B6, B6L0, go_sem, V.s.injEq, Value.bool.injEq, ↓reduceIte, Nat.reduceEqDiff, Nat.reduceBEq, Nat.reduceAdd, Nat.reduceSub, Nat.reduceLT, Nat.reduceLeDiff, Int.reduceLT, Int.reduceLE, Int.reduceEq, Int.reduceToNat, List.append_assoc, List.length_append, Vm.get_app, Vm.set_app, Vm.get_appL, Vm.get_appL0, Vm.set_appL, Vm.set_appL0, Nat.le_refl, Nat.le_add_right, okAt])
  refine wp_for (fun m e H => ∃ i : Nat, m = 48 - i ∧ i ≤ 48 ∧ e 2 = .s (.int .i64 i) ∧ ∃ ys kl x, e 1 = x ∧ LR H (some 60) kl x ys ∧ ys.length = i ∧ ∀ y ∈ ys, QR H kl y)
    (fun e H => ∃ ys kl x, e 1 = x ∧ LR H (some 60) kl x ys ∧ ys.length = 48 ∧ ∀ y ∈ ys, QR H kl y) 48 _ _ ⟨0, rfl, by omega, ?_, [], 0, .imm true (some 60) [], ?_, .inl ⟨rfl, rfl⟩, rfl, by simp⟩ ?_ ?_
  rotate_right 2
  · rintro m e H ⟨i, rfl, hi, e2, ys, kl, x, e1, lr, hyl, hq⟩
    by_cases c : i < 48
    · have c' : (i : Int) < 48 := by omega
      have hwr : IntKind.i64.wrap ((i : Int) + 1) = ((i + 1 : Nat) : Int) := wrap_small (by omega)
      have hr1 := fun cf base h => o_rem (cf := cf) (base := base) (h := h) .i64 (i : Int) 6 (by decide)
      have hr2 := fun cf base h => o_quo (cf := cf) (base := base) (h := h) .i64 (i : Int) 2 (by decide)
      have hr3 := fun cf base h => o_quo (cf := cf) (base := base) (h := h) .i64 (i : Int) 4 (by decide)
      have t1 : (i : Int).tmod 6 = ((i % 6 : Nat) : Int) := rfl
      have t2 : (i : Int).tdiv 2 = ((i / 2 : Nat) : Int) := rfl
      have t3 : (i : Int).tdiv 4 = ((i / 4 : Nat) : Int) := rfl
      rw [t1] at hr1
      rw [t2, wrap_i64 (by omega) (by omega)] at hr2
      rw [t3, wrap_i64 (by omega) (by omega)] at hr3
      have w1 : IntKind.i64.wrap ((i : Int) * 3) = ((i * 3 : Nat) : Int) := by rw [wrap_i64 (by omega) (by omega)]; omega
      have w2 : IntKind.u64.wrap (i : Int) = i := wrap_u64 (by omega) (by omega)
      have h6 : i % 6 ≤ 5 := by omega
      obtain ⟨f, hf⟩ : ∃ f, f = V.ref H.length [] (some 52) 0 (i % 6) 5 := ⟨_, rfl⟩
      have hsl := fun cf base T => slc_hi (cf := cf) (base := base) (h := H ++ .cells (some 52) ((kv5 i).map KV.enc) :: T) (g := some 52) (id := H.length) (n := 5) (r := i % 6) (k := .i64) (get_app0 _ _) (by simp [kv5]) h6
      obtain ⟨k2, lr2, hk2⟩ : ∃ k2, LR H (some 60) k2 x ys ∧ (k2 < H.length ∧ k2 = kl ∨ k2 = H.length + 2 ∧ ys = []) := by
        rcases lr with ⟨h1, h2⟩ | ⟨es, h1, h2, h3⟩
        · exact ⟨H.length + 2, .inl ⟨h1, h2⟩, .inr ⟨rfl, h2⟩⟩
        · exact ⟨kl, .inr ⟨es, h1, h2, h3⟩, .inl ⟨lt_of_get h2, rfl⟩⟩
      obtain ⟨x', H', k', hap, lr', hk', hoth⟩ := lr2.app0 (base := 0) (T := [.cells (some 52) ((kv5 i).map KV.enc), .cells (some 60) [(ask i).encF f]]) (idy := H.length + 1) (z := (ask i).encF f) (bytes := 208) (by rw [get_app]; rfl) (by simp [mayPut]) (by omega)
      have hk3 : k' = kl ∧ k' < H.length ∨ H.length < k' ∧ ys = [] ∨ H.length + 1 < k' := by
        rcases hk' with rfl | ⟨rfl, h⟩
        · rcases hk2 with ⟨h1, h2⟩ | ⟨h1, h2⟩
          · exact .inl ⟨h2, h1⟩
          · exact .inr (.inl ⟨by omega, h2⟩)
        · exact .inr (.inr (by simp))
      have hqr : ∀ y ∈ ys ++ [(ask i).encF f], QR H' k' y := by
        intro y hy
        rcases List.mem_append.1 hy with hy | hy
        · obtain ⟨a, kb, n, es, q1, q2, q3, q4⟩ := hq y hy
          have hkb := lt_of_get q3
          have hne : kb ≠ k' := by
            rcases hk3 with ⟨rfl, h⟩ | ⟨h, h'⟩ | h
            · exact q2
            · rw [h'] at hy; cases hy
            · omega
          exact ⟨a, kb, n, es, q1, hne, hoth _ _ hne (get_old q3 _), q4⟩
        · simp at hy; subst hy
          have hne : H.length ≠ k' := by omega
          exact ⟨ask i, H.length, i % 6, (kv5 i).map KV.enc, by rw [hf], hne, hoth _ _ hne (get_app0 _ _), by simp [kv5], h6, by simp [ask, kv5]; omega, by simp [ask, List.map_take], ask_wf i c⟩
      rw [hf] at hap
      simp only [kv5, ask, Ask12.encF, KV.enc, zeroV, Vault.enc, List.map_cons, List.map_nil] at hap hsl
      have hvb : (0 : Nat) = 0 := rfl
      try simp only [e2, e1, c', hr1, hr2, hr3, w1, w2, hsl, hap, hwr, zero4_a, zero16_a, go_sem, V.s.injEq, Value.bool.injEq, ↓reduceIte, Nat.reduceEqDiff, Nat.reduceBEq, Nat.reduceAdd, Nat.reduceSub, Nat.reduceLT, Nat.reduceLeDiff, Int.reduceLT, Int.reduceLE, Int.reduceEq, Int.reduceToNat, List.append_assoc, List.length_append, Vm.get_app, Vm.set_app, Vm.get_appL, Vm.get_appL0, Vm.set_appL, Vm.set_appL0, Nat.le_refl, Nat.le_add_right, okAt]
      repeat' (
        first | refine wpC_cases ?_ ?_ | refine wpU_casesT ?_ ?_ | refine wpU_casesF ?_ ?_
        all_goals intro hvc
        all_goals first | replace hvc := not_of_true hvc | replace hvc := not_of_false hvc | skip
        all_goals first | subst hvc | replace hvb := And.intro hvc hvb
        all_goals try simp only [hvb, e2, e1, c', hr1, hr2, hr3, w1, w2, hsl, hap, hwr, zero4_a, zero16_a, go_sem, V.s.injEq, Value.bool.injEq, ↓reduceIte, Nat.reduceEqDiff, Nat.reduceBEq, Nat.reduceAdd, Nat.reduceSub, Nat.reduceLT, Nat.reduceLeDiff, Int.reduceLT, Int.reduceLE, Int.reduceEq, Int.reduceToNat, List.append_assoc, List.length_append, Vm.get_app, Vm.set_app, Vm.get_appL, Vm.get_appL0, Vm.set_appL, Vm.set_appL0, Nat.le_refl, Nat.le_add_right, okAt])
      exact ⟨48 - (i + 1), by omega, i + 1, rfl, by omega, rfl, _, k', x', rfl, lr', by simp [hyl], hqr⟩
    · have c' : ¬ (i : Int) < 48 := by omega
      obtain rfl : i = 48 := by omega
      have hvb : (0 : Nat) = 0 := rfl
      try simp only [e2, e1, c', go_sem, V.s.injEq, Value.bool.injEq, ↓reduceIte, Nat.reduceEqDiff, Nat.reduceBEq, Nat.reduceAdd, Nat.reduceSub, Nat.reduceLT, Nat.reduceLeDiff, Int.reduceLT, Int.reduceLE, Int.reduceEq, Int.reduceToNat, List.append_assoc, List.length_append, Vm.get_app, Vm.set_app, Vm.get_appL, Vm.get_appL0, Vm.set_appL, Vm.set_appL0, Nat.le_refl, Nat.le_add_right, okAt]
      repeat' (
        first | refine wpC_cases ?_ ?_ | refine wpU_casesT ?_ ?_ | refine wpU_casesF ?_ ?_
        all_goals intro hvc
        all_goals first | replace hvc := not_of_true hvc | replace hvc := not_of_false hvc | skip
        all_goals first | subst hvc | replace hvb := And.intro hvc hvb
        all_goals try simp only [hvb, e2, e1, c', go_sem, V.s.injEq, Value.bool.injEq, ↓reduceIte, Nat.reduceEqDiff, Nat.reduceBEq, Nat.reduceAdd, Nat.reduceSub, Nat.reduceLT, Nat.reduceLeDiff, Int.reduceLT, Int.reduceLE, Int.reduceEq, Int.reduceToNat, List.append_assoc, List.length_append, Vm.get_app, Vm.set_app, Vm.get_appL, Vm.get_appL0, Vm.set_appL, Vm.set_appL0, Nat.le_refl, Nat.le_add_right, okAt])
      exact ⟨ys, kl, x, rfl, lr, hyl, hq⟩
  · rintro e H ⟨ys, kl, x, e1, lr, hyl, hq⟩
    have hp := play_ok 0 H x ys lr.sr (by
      intro y hy
      obtain ⟨a, kb, n, es, rfl, q2, q3, q4, q5, q6, q7, q8⟩ := hq y hy
      refine ⟨a, _, rfl, .inr ⟨kb, 0, 5, es, ?_, q3, q4, ?_, ?_⟩, q8⟩
      · rw [List.length_map, q6]
      · rw [List.length_map, q6]; omega
      · rw [List.length_map, q6]; exact q7) (by omega)
    have hk := fun h => known12_ok 0 h
    have hvb : (0 : Nat) = 0 := rfl
    try simp only [B6R0, e1, hp, hk, List.take_zero, go_sem, V.s.injEq, Value.bool.injEq, ↓reduceIte, Nat.reduceEqDiff, Nat.reduceBEq, Nat.reduceAdd, Nat.reduceSub, Nat.reduceLT, Nat.reduceLeDiff, Int.reduceLT, Int.reduceLE, Int.reduceEq, Int.reduceToNat, List.append_assoc, List.length_append, Vm.get_app, Vm.set_app, Vm.get_appL, Vm.get_appL0, Vm.set_appL, Vm.set_appL0, Nat.le_refl, Nat.le_add_right, okAt]
    repeat' (
      first | refine wpC_cases ?_ ?_ | refine wpU_casesT ?_ ?_ | refine wpU_casesF ?_ ?_
      all_goals intro hvc
      all_goals first | replace hvc := not_of_true hvc | replace hvc := not_of_false hvc | skip
      all_goals first | subst hvc | replace hvb := And.intro hvc hvb
      all_goals try simp only [hvb, B6R0, e1, hp, hk, List.take_zero, go_sem, V.s.injEq, Value.bool.injEq, ↓reduceIte, Nat.reduceEqDiff, Nat.reduceBEq, Nat.reduceAdd, Nat.reduceSub, Nat.reduceLT, Nat.reduceLeDiff, Int.reduceLT, Int.reduceLE, Int.reduceEq, Int.reduceToNat, List.append_assoc, List.length_append, Vm.get_app, Vm.set_app, Vm.get_appL, Vm.get_appL0, Vm.set_appL, Vm.set_appL0, Nat.le_refl, Nat.le_add_right, okAt])
  all_goals rfl
end Go.Proofs.Ytdhgcdkinehomaa
