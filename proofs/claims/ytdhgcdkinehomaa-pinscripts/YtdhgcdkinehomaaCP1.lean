/- What a person types: what the small functions compute. Conditions: none. -/
import Derived.Test.YtdhgcdkinehomaaCP0
namespace Go.Proofs.Ytdhgcdkinehomaa
open Go Go.Vm Go.Proofs Go.Cl
set_option linter.unusedSimpArgs false
set_option linter.unusedVariables false
set_option maxRecDepth 100000
def dg (r : Int) : Int := match digN r with | some d => d - 48 | none => if pass r = true then -2 else -1
theorem Digit_ok (b : Nat) (h : Hp) (r : Int) (h0 : -2147483648 ≤ r) (h1 : r ≤ 2147483647) : run fns pr b 74 [.s (.int .i32 r)] h = some (.s (.int .i64 (dg r)), h) := by
  refine Vm.runP (nt := 54) rfl fit74 (by simp) ?_
  by_cases c1 : 48 ≤ r ∧ r ≤ 57
  · have w1 : IntKind.i32.wrap (r - 48) = r - 48 := wrap_i32 (by omega) (by omega)
    have w2 : IntKind.i64.wrap (r - 48) = r - 48 := wrap_i64 (by omega) (by omega)
    have hd : dg r = r - 48 := by simp [dg, digN, c1]
    have ca := c1.1; have cb := c1.2
    have hvb : (0 : Nat) = 0 := rfl
    try simp only [B74, ca, cb, w1, w2, hd, go_sem, V.s.injEq, Value.bool.injEq, ↓reduceIte, Nat.reduceEqDiff, Nat.reduceBEq, Nat.reduceAdd, Nat.reduceSub, Nat.reduceLT, Nat.reduceLeDiff, Int.reduceLT, Int.reduceLE, Int.reduceEq, Int.reduceToNat, List.append_assoc, List.length_append, Vm.get_app, Vm.set_app, Vm.get_appL, Vm.get_appL0, Vm.set_appL, Vm.set_appL0, Nat.le_refl, Nat.le_add_right, okAt]
    repeat' (
      first | refine wpC_cases ?_ ?_ | refine wpU_casesT ?_ ?_ | refine wpU_casesF ?_ ?_
      all_goals intro hvc
      all_goals first | replace hvc := not_of_true hvc | replace hvc := not_of_false hvc | skip
      all_goals first | subst hvc | replace hvb := And.intro hvc hvb
      all_goals try simp only [hvb, B74, ca, cb, w1, w2, hd, go_sem, V.s.injEq, Value.bool.injEq, ↓reduceIte, Nat.reduceEqDiff, Nat.reduceBEq, Nat.reduceAdd, Nat.reduceSub, Nat.reduceLT, Nat.reduceLeDiff, Int.reduceLT, Int.reduceLE, Int.reduceEq, Int.reduceToNat, List.append_assoc, List.length_append, Vm.get_app, Vm.set_app, Vm.get_appL, Vm.get_appL0, Vm.set_appL, Vm.set_appL0, Nat.le_refl, Nat.le_add_right, okAt])
  by_cases c2 : 65296 ≤ r ∧ r ≤ 65305
  · have w1 : IntKind.i32.wrap (r - 65296) = r - 65296 := wrap_i32 (by omega) (by omega)
    have w2 : IntKind.i64.wrap (r - 65296) = r - 65296 := wrap_i64 (by omega) (by omega)
    have hd : dg r = r - 65296 := by simp only [dg, digN, c1, c2, if_true, if_false, and_self]; omega
    have ca := c2.1; have cb := c2.2
    have cc : ¬ r ≤ 57 := by omega
    have hvb : (0 : Nat) = 0 := rfl
    try simp only [B74, ca, cb, cc, w1, w2, hd, go_sem, V.s.injEq, Value.bool.injEq, ↓reduceIte, Nat.reduceEqDiff, Nat.reduceBEq, Nat.reduceAdd, Nat.reduceSub, Nat.reduceLT, Nat.reduceLeDiff, Int.reduceLT, Int.reduceLE, Int.reduceEq, Int.reduceToNat, List.append_assoc, List.length_append, Vm.get_app, Vm.set_app, Vm.get_appL, Vm.get_appL0, Vm.set_appL, Vm.set_appL0, Nat.le_refl, Nat.le_add_right, okAt]
    repeat' (
      first | refine wpC_cases ?_ ?_ | refine wpU_casesT ?_ ?_ | refine wpU_casesF ?_ ?_
      all_goals intro hvc
      all_goals first | replace hvc := not_of_true hvc | replace hvc := not_of_false hvc | skip
      all_goals first | subst hvc | replace hvb := And.intro hvc hvb
      all_goals try simp only [hvb, B74, ca, cb, cc, w1, w2, hd, go_sem, V.s.injEq, Value.bool.injEq, ↓reduceIte, Nat.reduceEqDiff, Nat.reduceBEq, Nat.reduceAdd, Nat.reduceSub, Nat.reduceLT, Nat.reduceLeDiff, Int.reduceLT, Int.reduceLE, Int.reduceEq, Int.reduceToNat, List.append_assoc, List.length_append, Vm.get_app, Vm.set_app, Vm.get_appL, Vm.get_appL0, Vm.set_appL, Vm.set_appL0, Nat.le_refl, Nat.le_add_right, okAt])
    all_goals (exfalso; simp only [decide_eq_false_iff_not] at hvb; omega)
  by_cases c3 : 1632 ≤ r ∧ r ≤ 1641
  · have w1 : IntKind.i32.wrap (r - 1632) = r - 1632 := wrap_i32 (by omega) (by omega)
    have w2 : IntKind.i64.wrap (r - 1632) = r - 1632 := wrap_i64 (by omega) (by omega)
    have hd : dg r = r - 1632 := by simp only [dg, digN, c1, c2, c3, if_true, if_false, and_self]; omega
    have ca := c3.1; have cb := c3.2
    have cc : ¬ r ≤ 57 := by omega
    have cd : ¬ 65296 ≤ r := by omega
    have hvb : (0 : Nat) = 0 := rfl
    try simp only [B74, ca, cb, cc, cd, w1, w2, hd, go_sem, V.s.injEq, Value.bool.injEq, ↓reduceIte, Nat.reduceEqDiff, Nat.reduceBEq, Nat.reduceAdd, Nat.reduceSub, Nat.reduceLT, Nat.reduceLeDiff, Int.reduceLT, Int.reduceLE, Int.reduceEq, Int.reduceToNat, List.append_assoc, List.length_append, Vm.get_app, Vm.set_app, Vm.get_appL, Vm.get_appL0, Vm.set_appL, Vm.set_appL0, Nat.le_refl, Nat.le_add_right, okAt]
    repeat' (
      first | refine wpC_cases ?_ ?_ | refine wpU_casesT ?_ ?_ | refine wpU_casesF ?_ ?_
      all_goals intro hvc
      all_goals first | replace hvc := not_of_true hvc | replace hvc := not_of_false hvc | skip
      all_goals first | subst hvc | replace hvb := And.intro hvc hvb
      all_goals try simp only [hvb, B74, ca, cb, cc, cd, w1, w2, hd, go_sem, V.s.injEq, Value.bool.injEq, ↓reduceIte, Nat.reduceEqDiff, Nat.reduceBEq, Nat.reduceAdd, Nat.reduceSub, Nat.reduceLT, Nat.reduceLeDiff, Int.reduceLT, Int.reduceLE, Int.reduceEq, Int.reduceToNat, List.append_assoc, List.length_append, Vm.get_app, Vm.set_app, Vm.get_appL, Vm.get_appL0, Vm.set_appL, Vm.set_appL0, Nat.le_refl, Nat.le_add_right, okAt])
    all_goals (exfalso; simp only [decide_eq_false_iff_not] at hvb; omega)
  by_cases c4 : 1776 ≤ r ∧ r ≤ 1785
  · have w1 : IntKind.i32.wrap (r - 1776) = r - 1776 := wrap_i32 (by omega) (by omega)
    have w2 : IntKind.i64.wrap (r - 1776) = r - 1776 := wrap_i64 (by omega) (by omega)
    have hd : dg r = r - 1776 := by simp only [dg, digN, c1, c2, c3, c4, if_true, if_false, and_self]; omega
    have ca := c4.1; have cb := c4.2
    have cc : ¬ r ≤ 57 := by omega
    have cd : ¬ 65296 ≤ r := by omega
    have ce : ¬ r ≤ 1641 := by omega
    have hvb : (0 : Nat) = 0 := rfl
    try simp only [B74, ca, cb, cc, cd, ce, w1, w2, hd, go_sem, V.s.injEq, Value.bool.injEq, ↓reduceIte, Nat.reduceEqDiff, Nat.reduceBEq, Nat.reduceAdd, Nat.reduceSub, Nat.reduceLT, Nat.reduceLeDiff, Int.reduceLT, Int.reduceLE, Int.reduceEq, Int.reduceToNat, List.append_assoc, List.length_append, Vm.get_app, Vm.set_app, Vm.get_appL, Vm.get_appL0, Vm.set_appL, Vm.set_appL0, Nat.le_refl, Nat.le_add_right, okAt]
    repeat' (
      first | refine wpC_cases ?_ ?_ | refine wpU_casesT ?_ ?_ | refine wpU_casesF ?_ ?_
      all_goals intro hvc
      all_goals first | replace hvc := not_of_true hvc | replace hvc := not_of_false hvc | skip
      all_goals first | subst hvc | replace hvb := And.intro hvc hvb
      all_goals try simp only [hvb, B74, ca, cb, cc, cd, ce, w1, w2, hd, go_sem, V.s.injEq, Value.bool.injEq, ↓reduceIte, Nat.reduceEqDiff, Nat.reduceBEq, Nat.reduceAdd, Nat.reduceSub, Nat.reduceLT, Nat.reduceLeDiff, Int.reduceLT, Int.reduceLE, Int.reduceEq, Int.reduceToNat, List.append_assoc, List.length_append, Vm.get_app, Vm.set_app, Vm.get_appL, Vm.get_appL0, Vm.set_appL, Vm.set_appL0, Nat.le_refl, Nat.le_add_right, okAt])
    all_goals (exfalso; simp only [decide_eq_false_iff_not] at hvb; omega)
  have hd : dg r = if pass r = true then -2 else -1 := by simp only [dg, digN, c1, c2, c3, c4, if_false]
  by_cases p1 : r = 32
  · subst p1
    have hvb : (0 : Nat) = 0 := rfl
    try simp only [B74, hd, go_sem, V.s.injEq, Value.bool.injEq, ↓reduceIte, Nat.reduceEqDiff, Nat.reduceBEq, Nat.reduceAdd, Nat.reduceSub, Nat.reduceLT, Nat.reduceLeDiff, Int.reduceLT, Int.reduceLE, Int.reduceEq, Int.reduceToNat, List.append_assoc, List.length_append, Vm.get_app, Vm.set_app, Vm.get_appL, Vm.get_appL0, Vm.set_appL, Vm.set_appL0, Nat.le_refl, Nat.le_add_right, okAt]
    repeat' (
      first | refine wpC_cases ?_ ?_ | refine wpU_casesT ?_ ?_ | refine wpU_casesF ?_ ?_
      all_goals intro hvc
      all_goals first | replace hvc := not_of_true hvc | replace hvc := not_of_false hvc | skip
      all_goals first | subst hvc | replace hvb := And.intro hvc hvb
      all_goals try simp only [hvb, B74, hd, go_sem, V.s.injEq, Value.bool.injEq, ↓reduceIte, Nat.reduceEqDiff, Nat.reduceBEq, Nat.reduceAdd, Nat.reduceSub, Nat.reduceLT, Nat.reduceLeDiff, Int.reduceLT, Int.reduceLE, Int.reduceEq, Int.reduceToNat, List.append_assoc, List.length_append, Vm.get_app, Vm.set_app, Vm.get_appL, Vm.get_appL0, Vm.set_appL, Vm.set_appL0, Nat.le_refl, Nat.le_add_right, okAt])
    all_goals rfl
  by_cases p2 : r = 45
  · subst p2
    have hvb : (0 : Nat) = 0 := rfl
    try simp only [B74, hd, go_sem, V.s.injEq, Value.bool.injEq, ↓reduceIte, Nat.reduceEqDiff, Nat.reduceBEq, Nat.reduceAdd, Nat.reduceSub, Nat.reduceLT, Nat.reduceLeDiff, Int.reduceLT, Int.reduceLE, Int.reduceEq, Int.reduceToNat, List.append_assoc, List.length_append, Vm.get_app, Vm.set_app, Vm.get_appL, Vm.get_appL0, Vm.set_appL, Vm.set_appL0, Nat.le_refl, Nat.le_add_right, okAt]
    repeat' (
      first | refine wpC_cases ?_ ?_ | refine wpU_casesT ?_ ?_ | refine wpU_casesF ?_ ?_
      all_goals intro hvc
      all_goals first | replace hvc := not_of_true hvc | replace hvc := not_of_false hvc | skip
      all_goals first | subst hvc | replace hvb := And.intro hvc hvb
      all_goals try simp only [hvb, B74, hd, go_sem, V.s.injEq, Value.bool.injEq, ↓reduceIte, Nat.reduceEqDiff, Nat.reduceBEq, Nat.reduceAdd, Nat.reduceSub, Nat.reduceLT, Nat.reduceLeDiff, Int.reduceLT, Int.reduceLE, Int.reduceEq, Int.reduceToNat, List.append_assoc, List.length_append, Vm.get_app, Vm.set_app, Vm.get_appL, Vm.get_appL0, Vm.set_appL, Vm.set_appL0, Nat.le_refl, Nat.le_add_right, okAt])
    all_goals rfl
  by_cases p3 : r = 160
  · subst p3
    have hvb : (0 : Nat) = 0 := rfl
    try simp only [B74, hd, go_sem, V.s.injEq, Value.bool.injEq, ↓reduceIte, Nat.reduceEqDiff, Nat.reduceBEq, Nat.reduceAdd, Nat.reduceSub, Nat.reduceLT, Nat.reduceLeDiff, Int.reduceLT, Int.reduceLE, Int.reduceEq, Int.reduceToNat, List.append_assoc, List.length_append, Vm.get_app, Vm.set_app, Vm.get_appL, Vm.get_appL0, Vm.set_appL, Vm.set_appL0, Nat.le_refl, Nat.le_add_right, okAt]
    repeat' (
      first | refine wpC_cases ?_ ?_ | refine wpU_casesT ?_ ?_ | refine wpU_casesF ?_ ?_
      all_goals intro hvc
      all_goals first | replace hvc := not_of_true hvc | replace hvc := not_of_false hvc | skip
      all_goals first | subst hvc | replace hvb := And.intro hvc hvb
      all_goals try simp only [hvb, B74, hd, go_sem, V.s.injEq, Value.bool.injEq, ↓reduceIte, Nat.reduceEqDiff, Nat.reduceBEq, Nat.reduceAdd, Nat.reduceSub, Nat.reduceLT, Nat.reduceLeDiff, Int.reduceLT, Int.reduceLE, Int.reduceEq, Int.reduceToNat, List.append_assoc, List.length_append, Vm.get_app, Vm.set_app, Vm.get_appL, Vm.get_appL0, Vm.set_appL, Vm.set_appL0, Nat.le_refl, Nat.le_add_right, okAt])
    all_goals rfl
  have hp : pass r = false := by simp [pass, p1, p2, p3]
  rw [hp] at hd
  have hvb : (0 : Nat) = 0 := rfl
  try simp only [B74, hd, p1, p2, p3, go_sem, V.s.injEq, Value.bool.injEq, ↓reduceIte, Nat.reduceEqDiff, Nat.reduceBEq, Nat.reduceAdd, Nat.reduceSub, Nat.reduceLT, Nat.reduceLeDiff, Int.reduceLT, Int.reduceLE, Int.reduceEq, Int.reduceToNat, List.append_assoc, List.length_append, Vm.get_app, Vm.set_app, Vm.get_appL, Vm.get_appL0, Vm.set_appL, Vm.set_appL0, Nat.le_refl, Nat.le_add_right, okAt]
  repeat' (
    first | refine wpC_cases ?_ ?_ | refine wpU_casesT ?_ ?_ | refine wpU_casesF ?_ ?_
    all_goals intro hvc
    all_goals first | replace hvc := not_of_true hvc | replace hvc := not_of_false hvc | skip
    all_goals first | subst hvc | replace hvb := And.intro hvc hvb
    all_goals try simp only [hvb, B74, hd, p1, p2, p3, go_sem, V.s.injEq, Value.bool.injEq, ↓reduceIte, Nat.reduceEqDiff, Nat.reduceBEq, Nat.reduceAdd, Nat.reduceSub, Nat.reduceLT, Nat.reduceLeDiff, Int.reduceLT, Int.reduceLE, Int.reduceEq, Int.reduceToNat, List.append_assoc, List.length_append, Vm.get_app, Vm.set_app, Vm.get_appL, Vm.get_appL0, Vm.set_appL, Vm.set_appL0, Nat.le_refl, Nat.le_add_right, okAt])
  all_goals first | rfl | (exfalso; simp only [decide_eq_false_iff_not, decide_eq_true_eq] at hvb; omega)
theorem Signs_ok (b : Nat) (h : Hp) (l : Bs) (hl : l.length ≤ 1000000) : ∃ v h' k, run fns pr b 60 [txt l] h = some (v, h') ∧ XR h' none k v ((sg l).map runeV) ∧ Fw [] h h' ∧ h.length ≤ k := by
  suffices hh : ∃ v h', run fns pr b 60 [txt l] h = some (v, h') ∧ ∃ k, XR h' none k v ((sg l).map runeV) ∧ Fw [] h h' ∧ h.length ≤ k by
    obtain ⟨v, h', e, k, h1⟩ := hh; exact ⟨v, h', k, e, h1⟩
  refine Vm.runQ (nt := 16) rfl fit60 (by simp) ?_
  have hvb : (0 : Nat) = 0 := rfl
  try simp only [B60, B60R0, B60L0, txt, go_sem, V.s.injEq, Value.bool.injEq, ↓reduceIte, Nat.reduceEqDiff, Nat.reduceBEq, Nat.reduceAdd, Nat.reduceSub, Nat.reduceLT, Nat.reduceLeDiff, Int.reduceLT, Int.reduceLE, Int.reduceEq, Int.reduceToNat, List.append_assoc, List.length_append, Vm.get_app, Vm.set_app, Vm.get_appL, Vm.get_appL0, Vm.set_appL, Vm.set_appL0, Nat.le_refl, Nat.le_add_right, okAt]
  repeat' (
    first | refine wpC_cases ?_ ?_ | refine wpU_casesT ?_ ?_ | refine wpU_casesF ?_ ?_
    all_goals intro hvc
    all_goals first | replace hvc := not_of_true hvc | replace hvc := not_of_false hvc | skip
    all_goals first | subst hvc | replace hvb := And.intro hvc hvb
    all_goals try simp only [hvb, B60, B60R0, B60L0, txt, go_sem, V.s.injEq, Value.bool.injEq, ↓reduceIte, Nat.reduceEqDiff, Nat.reduceBEq, Nat.reduceAdd, Nat.reduceSub, Nat.reduceLT, Nat.reduceLeDiff, Int.reduceLT, Int.reduceLE, Int.reduceEq, Int.reduceToNat, List.append_assoc, List.length_append, Vm.get_app, Vm.set_app, Vm.get_appL, Vm.get_appL0, Vm.set_appL, Vm.set_appL0, Nat.le_refl, Nat.le_add_right, okAt])
  refine wp_for (fun m e H => ∃ p k x out, m = l.length - p ∧ e 3 = x ∧ e 7 = .ptr h.length [] 0 ∧ H[h.length]? = some (.siter ⟨l.toArray⟩ p) ∧ XR H none k x (out.map runeV) ∧ Fw [] h H ∧ h.length < k ∧ out.length ≤ p ∧ sg l = out ++ sg (l.drop p))
    (fun e H => ∃ k x, e 3 = x ∧ XR H none k x ((sg l).map runeV) ∧ Fw [] h H ∧ h.length < k)
    l.length _ _ ⟨0, h.length + 1, _, [], rfl, rfl, rfl, get_app0 _ _, .inl ⟨rfl, rfl⟩, Fw.app _ _ _, by omega, by simp, by simp⟩ ?_ ?_
  · rintro m e H ⟨p, k, x, out, rfl, e3, e7, hit, xr, fw, hk, hlen, hsg⟩
    by_cases c : p < l.length
    · obtain ⟨hs1, hs2, hs3⟩ := sg_at c
      have c' : p < (List.toArray l).size := c
      generalize hr : ((Utf8.decode ⟨l.toArray⟩ p).1 : Int) = r at hs1
      generalize hw : (Utf8.decode ⟨l.toArray⟩ p).2 = w at hs1 hs2
      obtain ⟨x', H', k', hap, xr', fw', hk', hit'⟩ := xr.put (b := .siter ⟨l.toArray⟩ (p + w)) (z := runeV r) (bytes := 4) hk fw rfl (by simp; omega) (lt_of_get hit)
      simp only [runeV] at hap
      have hvb : (0 : Nat) = 0 := rfl
      try simp only [e3, e7, hit, c', hr, hw, hap, go_sem, V.s.injEq, Value.bool.injEq, ↓reduceIte, Nat.reduceEqDiff, Nat.reduceBEq, Nat.reduceAdd, Nat.reduceSub, Nat.reduceLT, Nat.reduceLeDiff, Int.reduceLT, Int.reduceLE, Int.reduceEq, Int.reduceToNat, List.append_assoc, List.length_append, Vm.get_app, Vm.set_app, Vm.get_appL, Vm.get_appL0, Vm.set_appL, Vm.set_appL0, Nat.le_refl, Nat.le_add_right, okAt]
      repeat' (
        first | refine wpC_cases ?_ ?_ | refine wpU_casesT ?_ ?_ | refine wpU_casesF ?_ ?_
        all_goals intro hvc
        all_goals first | replace hvc := not_of_true hvc | replace hvc := not_of_false hvc | skip
        all_goals first | subst hvc | replace hvb := And.intro hvc hvb
        all_goals try simp only [hvb, e3, e7, hit, c', hr, hw, hap, go_sem, V.s.injEq, Value.bool.injEq, ↓reduceIte, Nat.reduceEqDiff, Nat.reduceBEq, Nat.reduceAdd, Nat.reduceSub, Nat.reduceLT, Nat.reduceLeDiff, Int.reduceLT, Int.reduceLE, Int.reduceEq, Int.reduceToNat, List.append_assoc, List.length_append, Vm.get_app, Vm.set_app, Vm.get_appL, Vm.get_appL0, Vm.set_appL, Vm.set_appL0, Nat.le_refl, Nat.le_add_right, okAt])
      exact ⟨l.length - (p + w), by omega, p + w, k', x', out ++ [r], rfl, rfl, hit', by rw [List.map_append]; exact xr', fw', hk', by simp; omega, by rw [hsg, hs1]; simp⟩
    · have c' : ¬ p < (List.toArray l).size := c
      have hd : l.drop p = [] := List.drop_eq_nil_of_le (by omega)
      rw [hd, sg_nil, List.append_nil] at hsg
      have hvb : (0 : Nat) = 0 := rfl
      try simp only [e3, e7, hit, c', go_sem, V.s.injEq, Value.bool.injEq, ↓reduceIte, Nat.reduceEqDiff, Nat.reduceBEq, Nat.reduceAdd, Nat.reduceSub, Nat.reduceLT, Nat.reduceLeDiff, Int.reduceLT, Int.reduceLE, Int.reduceEq, Int.reduceToNat, List.append_assoc, List.length_append, Vm.get_app, Vm.set_app, Vm.get_appL, Vm.get_appL0, Vm.set_appL, Vm.set_appL0, Nat.le_refl, Nat.le_add_right, okAt]
      repeat' (
        first | refine wpC_cases ?_ ?_ | refine wpU_casesT ?_ ?_ | refine wpU_casesF ?_ ?_
        all_goals intro hvc
        all_goals first | replace hvc := not_of_true hvc | replace hvc := not_of_false hvc | skip
        all_goals first | subst hvc | replace hvb := And.intro hvc hvb
        all_goals try simp only [hvb, e3, e7, hit, c', go_sem, V.s.injEq, Value.bool.injEq, ↓reduceIte, Nat.reduceEqDiff, Nat.reduceBEq, Nat.reduceAdd, Nat.reduceSub, Nat.reduceLT, Nat.reduceLeDiff, Int.reduceLT, Int.reduceLE, Int.reduceEq, Int.reduceToNat, List.append_assoc, List.length_append, Vm.get_app, Vm.set_app, Vm.get_appL, Vm.get_appL0, Vm.set_appL, Vm.set_appL0, Nat.le_refl, Nat.le_add_right, okAt])
      exact ⟨k, x, rfl, by rw [hsg]; exact xr, fw, hk⟩
  · rintro e H ⟨k, x, e3, xr, fw, hk⟩
    have hvb : (0 : Nat) = 0 := rfl
    try simp only [e3, go_sem, V.s.injEq, Value.bool.injEq, ↓reduceIte, Nat.reduceEqDiff, Nat.reduceBEq, Nat.reduceAdd, Nat.reduceSub, Nat.reduceLT, Nat.reduceLeDiff, Int.reduceLT, Int.reduceLE, Int.reduceEq, Int.reduceToNat, List.append_assoc, List.length_append, Vm.get_app, Vm.set_app, Vm.get_appL, Vm.get_appL0, Vm.set_appL, Vm.set_appL0, Nat.le_refl, Nat.le_add_right, okAt]
    repeat' (
      first | refine wpC_cases ?_ ?_ | refine wpU_casesT ?_ ?_ | refine wpU_casesF ?_ ?_
      all_goals intro hvc
      all_goals first | replace hvc := not_of_true hvc | replace hvc := not_of_false hvc | skip
      all_goals first | subst hvc | replace hvb := And.intro hvc hvb
      all_goals try simp only [hvb, e3, go_sem, V.s.injEq, Value.bool.injEq, ↓reduceIte, Nat.reduceEqDiff, Nat.reduceBEq, Nat.reduceAdd, Nat.reduceSub, Nat.reduceLT, Nat.reduceLeDiff, Int.reduceLT, Int.reduceLE, Int.reduceEq, Int.reduceToNat, List.append_assoc, List.length_append, Vm.get_app, Vm.set_app, Vm.get_appL, Vm.get_appL0, Vm.set_appL, Vm.set_appL0, Nat.le_refl, Nat.le_add_right, okAt])
    exact ⟨k, xr, fw, by omega⟩

theorem signs_ok (b : Nat) (h : Hp) (l : Bs) (hl : l.length ≤ 1000000) : run fns pr b 62 [txt l] h = some (.imm false none ((sg l).map runeV), h) := by
  refine Vm.runP (nt := 16) rfl fit62 (by simp) ?_
  have hvb : (0 : Nat) = 0 := rfl
  try simp only [B62, B62R0, B62L0, txt, go_sem, V.s.injEq, Value.bool.injEq, ↓reduceIte, Nat.reduceEqDiff, Nat.reduceBEq, Nat.reduceAdd, Nat.reduceSub, Nat.reduceLT, Nat.reduceLeDiff, Int.reduceLT, Int.reduceLE, Int.reduceEq, Int.reduceToNat, List.append_assoc, List.length_append, Vm.get_app, Vm.set_app, Vm.get_appL, Vm.get_appL0, Vm.set_appL, Vm.set_appL0, Nat.le_refl, Nat.le_add_right, okAt]
  repeat' (
    first | refine wpC_cases ?_ ?_ | refine wpU_casesT ?_ ?_ | refine wpU_casesF ?_ ?_
    all_goals intro hvc
    all_goals first | replace hvc := not_of_true hvc | replace hvc := not_of_false hvc | skip
    all_goals first | subst hvc | replace hvb := And.intro hvc hvb
    all_goals try simp only [hvb, B62, B62R0, B62L0, txt, go_sem, V.s.injEq, Value.bool.injEq, ↓reduceIte, Nat.reduceEqDiff, Nat.reduceBEq, Nat.reduceAdd, Nat.reduceSub, Nat.reduceLT, Nat.reduceLeDiff, Int.reduceLT, Int.reduceLE, Int.reduceEq, Int.reduceToNat, List.append_assoc, List.length_append, Vm.get_app, Vm.set_app, Vm.get_appL, Vm.get_appL0, Vm.set_appL, Vm.set_appL0, Nat.le_refl, Nat.le_add_right, okAt])
  refine wp_for (fun m e H => ∃ p k x out, m = l.length - p ∧ e 3 = x ∧ e 7 = .ptr h.length [] 0 ∧ H[h.length]? = some (.siter ⟨l.toArray⟩ p) ∧ XR H none k x (out.map runeV) ∧ Fw [] h H ∧ h.length < k ∧ out.length ≤ p ∧ sg l = out ++ sg (l.drop p))
    (fun e H => ∃ k x, e 3 = x ∧ XR H none k x ((sg l).map runeV) ∧ Fw [] h H ∧ h.length < k)
    l.length _ _ ⟨0, h.length + 1, _, [], rfl, rfl, rfl, get_app0 _ _, .inl ⟨rfl, rfl⟩, Fw.app _ _ _, by omega, by simp, by simp⟩ ?_ ?_
  · rintro m e H ⟨p, k, x, out, rfl, e3, e7, hit, xr, fw, hk, hlen, hsg⟩
    by_cases c : p < l.length
    · obtain ⟨hs1, hs2, hs3⟩ := sg_at c
      have c' : p < (List.toArray l).size := c
      generalize hr : ((Utf8.decode ⟨l.toArray⟩ p).1 : Int) = r at hs1
      generalize hw : (Utf8.decode ⟨l.toArray⟩ p).2 = w at hs1 hs2
      obtain ⟨x', H', k', hap, xr', fw', hk', hit'⟩ := xr.put (b := .siter ⟨l.toArray⟩ (p + w)) (z := runeV r) (bytes := 4) hk fw rfl (by simp; omega) (lt_of_get hit)
      simp only [runeV] at hap
      have hvb : (0 : Nat) = 0 := rfl
      try simp only [e3, e7, hit, c', hr, hw, hap, go_sem, V.s.injEq, Value.bool.injEq, ↓reduceIte, Nat.reduceEqDiff, Nat.reduceBEq, Nat.reduceAdd, Nat.reduceSub, Nat.reduceLT, Nat.reduceLeDiff, Int.reduceLT, Int.reduceLE, Int.reduceEq, Int.reduceToNat, List.append_assoc, List.length_append, Vm.get_app, Vm.set_app, Vm.get_appL, Vm.get_appL0, Vm.set_appL, Vm.set_appL0, Nat.le_refl, Nat.le_add_right, okAt]
      repeat' (
        first | refine wpC_cases ?_ ?_ | refine wpU_casesT ?_ ?_ | refine wpU_casesF ?_ ?_
        all_goals intro hvc
        all_goals first | replace hvc := not_of_true hvc | replace hvc := not_of_false hvc | skip
        all_goals first | subst hvc | replace hvb := And.intro hvc hvb
        all_goals try simp only [hvb, e3, e7, hit, c', hr, hw, hap, go_sem, V.s.injEq, Value.bool.injEq, ↓reduceIte, Nat.reduceEqDiff, Nat.reduceBEq, Nat.reduceAdd, Nat.reduceSub, Nat.reduceLT, Nat.reduceLeDiff, Int.reduceLT, Int.reduceLE, Int.reduceEq, Int.reduceToNat, List.append_assoc, List.length_append, Vm.get_app, Vm.set_app, Vm.get_appL, Vm.get_appL0, Vm.set_appL, Vm.set_appL0, Nat.le_refl, Nat.le_add_right, okAt])
      exact ⟨l.length - (p + w), by omega, p + w, k', x', out ++ [r], rfl, rfl, hit', by rw [List.map_append]; exact xr', fw', hk', by simp; omega, by rw [hsg, hs1]; simp⟩
    · have c' : ¬ p < (List.toArray l).size := c
      have hd : l.drop p = [] := List.drop_eq_nil_of_le (by omega)
      rw [hd, sg_nil, List.append_nil] at hsg
      have hvb : (0 : Nat) = 0 := rfl
      try simp only [e3, e7, hit, c', go_sem, V.s.injEq, Value.bool.injEq, ↓reduceIte, Nat.reduceEqDiff, Nat.reduceBEq, Nat.reduceAdd, Nat.reduceSub, Nat.reduceLT, Nat.reduceLeDiff, Int.reduceLT, Int.reduceLE, Int.reduceEq, Int.reduceToNat, List.append_assoc, List.length_append, Vm.get_app, Vm.set_app, Vm.get_appL, Vm.get_appL0, Vm.set_appL, Vm.set_appL0, Nat.le_refl, Nat.le_add_right, okAt]
      repeat' (
        first | refine wpC_cases ?_ ?_ | refine wpU_casesT ?_ ?_ | refine wpU_casesF ?_ ?_
        all_goals intro hvc
        all_goals first | replace hvc := not_of_true hvc | replace hvc := not_of_false hvc | skip
        all_goals first | subst hvc | replace hvb := And.intro hvc hvb
        all_goals try simp only [hvb, e3, e7, hit, c', go_sem, V.s.injEq, Value.bool.injEq, ↓reduceIte, Nat.reduceEqDiff, Nat.reduceBEq, Nat.reduceAdd, Nat.reduceSub, Nat.reduceLT, Nat.reduceLeDiff, Int.reduceLT, Int.reduceLE, Int.reduceEq, Int.reduceToNat, List.append_assoc, List.length_append, Vm.get_app, Vm.set_app, Vm.get_appL, Vm.get_appL0, Vm.set_appL, Vm.set_appL0, Nat.le_refl, Nat.le_add_right, okAt])
      exact ⟨k, x, rfl, by rw [hsg]; exact xr, fw, hk⟩
  · rintro e H ⟨k, x, e3, xr, fw, hk⟩
    have hfz := xr.frz (n := h.length) (by omega) (runes_plain _)
    have htk := fw.take
    have hvb : (0 : Nat) = 0 := rfl
    try simp only [e3, hfz, htk, go_sem, V.s.injEq, Value.bool.injEq, ↓reduceIte, Nat.reduceEqDiff, Nat.reduceBEq, Nat.reduceAdd, Nat.reduceSub, Nat.reduceLT, Nat.reduceLeDiff, Int.reduceLT, Int.reduceLE, Int.reduceEq, Int.reduceToNat, List.append_assoc, List.length_append, Vm.get_app, Vm.set_app, Vm.get_appL, Vm.get_appL0, Vm.set_appL, Vm.set_appL0, Nat.le_refl, Nat.le_add_right, okAt]
    repeat' (
      first | refine wpC_cases ?_ ?_ | refine wpU_casesT ?_ ?_ | refine wpU_casesF ?_ ?_
      all_goals intro hvc
      all_goals first | replace hvc := not_of_true hvc | replace hvc := not_of_false hvc | skip
      all_goals first | subst hvc | replace hvb := And.intro hvc hvb
      all_goals try simp only [hvb, e3, hfz, htk, go_sem, V.s.injEq, Value.bool.injEq, ↓reduceIte, Nat.reduceEqDiff, Nat.reduceBEq, Nat.reduceAdd, Nat.reduceSub, Nat.reduceLT, Nat.reduceLeDiff, Int.reduceLT, Int.reduceLE, Int.reduceEq, Int.reduceToNat, List.append_assoc, List.length_append, Vm.get_app, Vm.set_app, Vm.get_appL, Vm.get_appL0, Vm.set_appL, Vm.set_appL0, Nat.le_refl, Nat.le_add_right, okAt])

theorem Count_ok (b : Nat) (h : Hp) (l : Bs) (hl : l.length ≤ 1000000) : run fns pr b 35 [txt l] h = some (.s (.int .i64 (sg l).length), h) := by
  refine Vm.runP (nt := 6) rfl fit35 (by simp) ?_
  have h1 := fun h => signs_ok h.length h l hl
  have hvb : (0 : Nat) = 0 := rfl
  try simp only [B35, h1, go_sem, V.s.injEq, Value.bool.injEq, ↓reduceIte, Nat.reduceEqDiff, Nat.reduceBEq, Nat.reduceAdd, Nat.reduceSub, Nat.reduceLT, Nat.reduceLeDiff, Int.reduceLT, Int.reduceLE, Int.reduceEq, Int.reduceToNat, List.append_assoc, List.length_append, Vm.get_app, Vm.set_app, Vm.get_appL, Vm.get_appL0, Vm.set_appL, Vm.set_appL0, Nat.le_refl, Nat.le_add_right, okAt]
  repeat' (
    first | refine wpC_cases ?_ ?_ | refine wpU_casesT ?_ ?_ | refine wpU_casesF ?_ ?_
    all_goals intro hvc
    all_goals first | replace hvc := not_of_true hvc | replace hvc := not_of_false hvc | skip
    all_goals first | subst hvc | replace hvb := And.intro hvc hvb
    all_goals try simp only [hvb, B35, h1, go_sem, V.s.injEq, Value.bool.injEq, ↓reduceIte, Nat.reduceEqDiff, Nat.reduceBEq, Nat.reduceAdd, Nat.reduceSub, Nat.reduceLT, Nat.reduceLeDiff, Int.reduceLT, Int.reduceLE, Int.reduceEq, Int.reduceToNat, List.append_assoc, List.length_append, Vm.get_app, Vm.set_app, Vm.get_appL, Vm.get_appL0, Vm.set_appL, Vm.set_appL0, Nat.le_refl, Nat.le_add_right, okAt])

theorem Normal_ok (b : Nat) (h : Hp) (l : Bs) (hl : l.length ≤ 1000000) : run fns pr b 33 [txt l] h = some (.tup [txt ((normal l).getD []), .s (.bool (normal l).isSome)], h) := by
  refine Vm.runP (nt := 45) rfl fit33 (by simp) ?_
  have hvb : (0 : Nat) = 0 := rfl
  try simp only [B33, B33R0, B33L0, txt, go_sem, V.s.injEq, Value.bool.injEq, ↓reduceIte, Nat.reduceEqDiff, Nat.reduceBEq, Nat.reduceAdd, Nat.reduceSub, Nat.reduceLT, Nat.reduceLeDiff, Int.reduceLT, Int.reduceLE, Int.reduceEq, Int.reduceToNat, List.append_assoc, List.length_append, Vm.get_app, Vm.set_app, Vm.get_appL, Vm.get_appL0, Vm.set_appL, Vm.set_appL0, Nat.le_refl, Nat.le_add_right, okAt]
  repeat' (
    first | refine wpC_cases ?_ ?_ | refine wpU_casesT ?_ ?_ | refine wpU_casesF ?_ ?_
    all_goals intro hvc
    all_goals first | replace hvc := not_of_true hvc | replace hvc := not_of_false hvc | skip
    all_goals first | subst hvc | replace hvb := And.intro hvc hvb
    all_goals try simp only [hvb, B33, B33R0, B33L0, txt, go_sem, V.s.injEq, Value.bool.injEq, ↓reduceIte, Nat.reduceEqDiff, Nat.reduceBEq, Nat.reduceAdd, Nat.reduceSub, Nat.reduceLT, Nat.reduceLeDiff, Int.reduceLT, Int.reduceLE, Int.reduceEq, Int.reduceToNat, List.append_assoc, List.length_append, Vm.get_app, Vm.set_app, Vm.get_appL, Vm.get_appL0, Vm.set_appL, Vm.set_appL0, Nat.le_refl, Nat.le_add_right, okAt])
  refine wp_for (fun m e H => ∃ p k x out, m = l.length - p ∧ e 4 = x ∧ e 10 = .ptr h.length [] 0 ∧ H[h.length]? = some (.siter ⟨l.toArray⟩ p) ∧ XR H none k x (out.map byteV) ∧ Fw [] h H ∧ h.length < k ∧ out.length ≤ p ∧ nrmL (sg l) = (nrmL (sg (l.drop p))).map (out ++ ·))
    (fun e H => ∃ k x out, e 4 = x ∧ XR H none k x (out.map byteV) ∧ Fw [] h H ∧ h.length < k ∧ nrmL (sg l) = some out)
    l.length _ _ ⟨0, h.length + 1, _, [], rfl, rfl, rfl, get_app0 _ _, .inl ⟨rfl, rfl⟩, Fw.app _ _ _, by omega, by simp, by simp⟩ ?_ ?_
  · rintro m e H ⟨p, k, x, out, rfl, e4, e10, hit, xr, fw, hk, hlen, hsg⟩
    by_cases c : p < l.length
    · obtain ⟨hs1, hs2, hs3⟩ := sg_at c
      have c' : p < (List.toArray l).size := c
      generalize hr : ((Utf8.decode ⟨l.toArray⟩ p).1 : Int) = r at hs1
      generalize hw : (Utf8.decode ⟨l.toArray⟩ p).2 = w at hs1 hs2
      have hdg := fun b h => digit_ok b h r (by omega) (by omega)
      rw [hs1] at hsg
      have fw1 : Fw [] h (H.set h.length (.siter ⟨l.toArray⟩ (p + w))) := fw.set_new (Nat.le_refl _) _
      have htk := fw1.take
      have xr1 := xr.set (j := h.length) (by omega) (.siter ⟨l.toArray⟩ (p + w))
      have hit1 : (H.set h.length (.siter ⟨l.toArray⟩ (p + w)))[h.length]? = some (.siter ⟨l.toArray⟩ (p + w)) := set_get hit
      by_cases hp : pass r = true
      · simp only [nrmL, hp, if_true] at hsg
        have fin : ∃ m, m < l.length - p ∧ ∃ p' k x' out, m = l.length - p' ∧ x = x' ∧ (H.set h.length (.siter ⟨l.toArray⟩ (p + w)))[h.length]? = some (.siter ⟨l.toArray⟩ p') ∧ XR (H.set h.length (.siter ⟨l.toArray⟩ (p + w))) none k x' (out.map byteV) ∧ Fw [] h (H.set h.length (.siter ⟨l.toArray⟩ (p + w))) ∧ h.length < k ∧ out.length ≤ p' ∧ nrmL (sg l) = (nrmL (sg (l.drop p'))).map (out ++ ·) :=
          ⟨l.length - (p + w), by omega, p + w, k, x, out, rfl, rfl, hit1, xr1, fw1, hk, by omega, hsg⟩
        have hp' : r = 32 ∨ r = 45 ∨ r = 160 := by simpa [pass, or_assoc] using hp
        clear hsg hdg hs1 hp
        rcases hp' with rfl | rfl | rfl
        · have hvb : (0 : Nat) = 0 := rfl
          try simp only [e4, e10, hit, c', hr, hw, go_sem, V.s.injEq, Value.bool.injEq, ↓reduceIte, Nat.reduceEqDiff, Nat.reduceBEq, Nat.reduceAdd, Nat.reduceSub, Nat.reduceLT, Nat.reduceLeDiff, Int.reduceLT, Int.reduceLE, Int.reduceEq, Int.reduceToNat, List.append_assoc, List.length_append, Vm.get_app, Vm.set_app, Vm.get_appL, Vm.get_appL0, Vm.set_appL, Vm.set_appL0, Nat.le_refl, Nat.le_add_right, okAt]
          repeat' (
            first | refine wpC_cases ?_ ?_ | refine wpU_casesT ?_ ?_ | refine wpU_casesF ?_ ?_
            all_goals intro hvc
            all_goals first | replace hvc := not_of_true hvc | replace hvc := not_of_false hvc | skip
            all_goals first | subst hvc | replace hvb := And.intro hvc hvb
            all_goals try simp only [hvb, e4, e10, hit, c', hr, hw, go_sem, V.s.injEq, Value.bool.injEq, ↓reduceIte, Nat.reduceEqDiff, Nat.reduceBEq, Nat.reduceAdd, Nat.reduceSub, Nat.reduceLT, Nat.reduceLeDiff, Int.reduceLT, Int.reduceLE, Int.reduceEq, Int.reduceToNat, List.append_assoc, List.length_append, Vm.get_app, Vm.set_app, Vm.get_appL, Vm.get_appL0, Vm.set_appL, Vm.set_appL0, Nat.le_refl, Nat.le_add_right, okAt])
          all_goals exact fin
        · have hvb : (0 : Nat) = 0 := rfl
          try simp only [e4, e10, hit, c', hr, hw, go_sem, V.s.injEq, Value.bool.injEq, ↓reduceIte, Nat.reduceEqDiff, Nat.reduceBEq, Nat.reduceAdd, Nat.reduceSub, Nat.reduceLT, Nat.reduceLeDiff, Int.reduceLT, Int.reduceLE, Int.reduceEq, Int.reduceToNat, List.append_assoc, List.length_append, Vm.get_app, Vm.set_app, Vm.get_appL, Vm.get_appL0, Vm.set_appL, Vm.set_appL0, Nat.le_refl, Nat.le_add_right, okAt]
          repeat' (
            first | refine wpC_cases ?_ ?_ | refine wpU_casesT ?_ ?_ | refine wpU_casesF ?_ ?_
            all_goals intro hvc
            all_goals first | replace hvc := not_of_true hvc | replace hvc := not_of_false hvc | skip
            all_goals first | subst hvc | replace hvb := And.intro hvc hvb
            all_goals try simp only [hvb, e4, e10, hit, c', hr, hw, go_sem, V.s.injEq, Value.bool.injEq, ↓reduceIte, Nat.reduceEqDiff, Nat.reduceBEq, Nat.reduceAdd, Nat.reduceSub, Nat.reduceLT, Nat.reduceLeDiff, Int.reduceLT, Int.reduceLE, Int.reduceEq, Int.reduceToNat, List.append_assoc, List.length_append, Vm.get_app, Vm.set_app, Vm.get_appL, Vm.get_appL0, Vm.set_appL, Vm.set_appL0, Nat.le_refl, Nat.le_add_right, okAt])
          all_goals exact fin
        · have hvb : (0 : Nat) = 0 := rfl
          try simp only [e4, e10, hit, c', hr, hw, go_sem, V.s.injEq, Value.bool.injEq, ↓reduceIte, Nat.reduceEqDiff, Nat.reduceBEq, Nat.reduceAdd, Nat.reduceSub, Nat.reduceLT, Nat.reduceLeDiff, Int.reduceLT, Int.reduceLE, Int.reduceEq, Int.reduceToNat, List.append_assoc, List.length_append, Vm.get_app, Vm.set_app, Vm.get_appL, Vm.get_appL0, Vm.set_appL, Vm.set_appL0, Nat.le_refl, Nat.le_add_right, okAt]
          repeat' (
            first | refine wpC_cases ?_ ?_ | refine wpU_casesT ?_ ?_ | refine wpU_casesF ?_ ?_
            all_goals intro hvc
            all_goals first | replace hvc := not_of_true hvc | replace hvc := not_of_false hvc | skip
            all_goals first | subst hvc | replace hvb := And.intro hvc hvb
            all_goals try simp only [hvb, e4, e10, hit, c', hr, hw, go_sem, V.s.injEq, Value.bool.injEq, ↓reduceIte, Nat.reduceEqDiff, Nat.reduceBEq, Nat.reduceAdd, Nat.reduceSub, Nat.reduceLT, Nat.reduceLeDiff, Int.reduceLT, Int.reduceLE, Int.reduceEq, Int.reduceToNat, List.append_assoc, List.length_append, Vm.get_app, Vm.set_app, Vm.get_appL, Vm.get_appL0, Vm.set_appL, Vm.set_appL0, Nat.le_refl, Nat.le_add_right, okAt])
          all_goals exact fin
      · have hp' : ¬ r = 32 ∧ ¬ r = 45 ∧ ¬ r = 160 := by simpa [pass, not_or, and_assoc] using hp
        obtain ⟨p1, p2, p3⟩ := hp'
        simp only [nrmL, hp, if_false] at hsg
        cases hd : digN r with
        | none =>
          rw [hd] at hsg hdg
          have hn : normal l = none := by simp [normal, hsg]
          simp only [Option.getD_none, Option.isSome_none] at hdg
          have hvb : (0 : Nat) = 0 := rfl
          try simp only [e4, e10, hit, c', hr, hw, p1, p2, p3, hdg, hn, htk, Option.getD_none, Option.isSome_none, go_sem, V.s.injEq, Value.bool.injEq, ↓reduceIte, Nat.reduceEqDiff, Nat.reduceBEq, Nat.reduceAdd, Nat.reduceSub, Nat.reduceLT, Nat.reduceLeDiff, Int.reduceLT, Int.reduceLE, Int.reduceEq, Int.reduceToNat, List.append_assoc, List.length_append, Vm.get_app, Vm.set_app, Vm.get_appL, Vm.get_appL0, Vm.set_appL, Vm.set_appL0, Nat.le_refl, Nat.le_add_right, okAt]
          repeat' (
            first | refine wpC_cases ?_ ?_ | refine wpU_casesT ?_ ?_ | refine wpU_casesF ?_ ?_
            all_goals intro hvc
            all_goals first | replace hvc := not_of_true hvc | replace hvc := not_of_false hvc | skip
            all_goals first | subst hvc | replace hvb := And.intro hvc hvb
            all_goals try simp only [hvb, e4, e10, hit, c', hr, hw, p1, p2, p3, hdg, hn, htk, Option.getD_none, Option.isSome_none, go_sem, V.s.injEq, Value.bool.injEq, ↓reduceIte, Nat.reduceEqDiff, Nat.reduceBEq, Nat.reduceAdd, Nat.reduceSub, Nat.reduceLT, Nat.reduceLeDiff, Int.reduceLT, Int.reduceLE, Int.reduceEq, Int.reduceToNat, List.append_assoc, List.length_append, Vm.get_app, Vm.set_app, Vm.get_appL, Vm.get_appL0, Vm.set_appL, Vm.set_appL0, Nat.le_refl, Nat.le_add_right, okAt])
          all_goals exact ⟨l.length - (p + w), by omega, p + w, k', x', out ++ [UInt8.ofNat d.toNat], rfl, rfl, hit', by rw [List.map_append, List.map_singleton, ← hby]; exact xr', fw', hk', by simp; omega, by rw [hsg]; cases nrmL (sg (l.drop (p + w))) <;> simp⟩
        | some d =>
          rw [hd] at hsg hdg
          simp only [Option.getD_some, Option.isSome_some] at hdg
          have hdr := digN_range hd
          have hby : (V.s (.int .u8 d)) = byteV (UInt8.ofNat d.toNat) := by
            simp only [byteV]; rw [u8n _ (by omega)]; congr 2; omega
          obtain ⟨x', H', k', hap, xr', fw', hk', hit'⟩ := xr.put (b := .siter ⟨l.toArray⟩ (p + w)) (z := .s (.int .u8 d)) (bytes := 1) hk fw rfl (by simp; omega) (lt_of_get hit)
          have hvb : (0 : Nat) = 0 := rfl
          try simp only [e4, e10, hit, c', hr, hw, p1, p2, p3, hdg, hap, go_sem, V.s.injEq, Value.bool.injEq, ↓reduceIte, Nat.reduceEqDiff, Nat.reduceBEq, Nat.reduceAdd, Nat.reduceSub, Nat.reduceLT, Nat.reduceLeDiff, Int.reduceLT, Int.reduceLE, Int.reduceEq, Int.reduceToNat, List.append_assoc, List.length_append, Vm.get_app, Vm.set_app, Vm.get_appL, Vm.get_appL0, Vm.set_appL, Vm.set_appL0, Nat.le_refl, Nat.le_add_right, okAt]
          repeat' (
            first | refine wpC_cases ?_ ?_ | refine wpU_casesT ?_ ?_ | refine wpU_casesF ?_ ?_
            all_goals intro hvc
            all_goals first | replace hvc := not_of_true hvc | replace hvc := not_of_false hvc | skip
            all_goals first | subst hvc | replace hvb := And.intro hvc hvb
            all_goals try simp only [hvb, e4, e10, hit, c', hr, hw, p1, p2, p3, hdg, hap, go_sem, V.s.injEq, Value.bool.injEq, ↓reduceIte, Nat.reduceEqDiff, Nat.reduceBEq, Nat.reduceAdd, Nat.reduceSub, Nat.reduceLT, Nat.reduceLeDiff, Int.reduceLT, Int.reduceLE, Int.reduceEq, Int.reduceToNat, List.append_assoc, List.length_append, Vm.get_app, Vm.set_app, Vm.get_appL, Vm.get_appL0, Vm.set_appL, Vm.set_appL0, Nat.le_refl, Nat.le_add_right, okAt])
          all_goals exact ⟨l.length - (p + w), by omega, p + w, k', x', out ++ [UInt8.ofNat d.toNat], rfl, rfl, hit', by rw [List.map_append, List.map_singleton, ← hby]; exact xr', fw', hk', by simp; omega, by rw [hsg]; cases nrmL (sg (l.drop (p + w))) <;> simp⟩
    · have c' : ¬ p < (List.toArray l).size := c
      have hd : l.drop p = [] := List.drop_eq_nil_of_le (by omega)
      rw [hd, sg_nil] at hsg
      simp only [nrmL, Option.map_some, List.append_nil] at hsg
      have hvb : (0 : Nat) = 0 := rfl
      try simp only [e4, e10, hit, c', go_sem, V.s.injEq, Value.bool.injEq, ↓reduceIte, Nat.reduceEqDiff, Nat.reduceBEq, Nat.reduceAdd, Nat.reduceSub, Nat.reduceLT, Nat.reduceLeDiff, Int.reduceLT, Int.reduceLE, Int.reduceEq, Int.reduceToNat, List.append_assoc, List.length_append, Vm.get_app, Vm.set_app, Vm.get_appL, Vm.get_appL0, Vm.set_appL, Vm.set_appL0, Nat.le_refl, Nat.le_add_right, okAt]
      repeat' (
        first | refine wpC_cases ?_ ?_ | refine wpU_casesT ?_ ?_ | refine wpU_casesF ?_ ?_
        all_goals intro hvc
        all_goals first | replace hvc := not_of_true hvc | replace hvc := not_of_false hvc | skip
        all_goals first | subst hvc | replace hvb := And.intro hvc hvb
        all_goals try simp only [hvb, e4, e10, hit, c', go_sem, V.s.injEq, Value.bool.injEq, ↓reduceIte, Nat.reduceEqDiff, Nat.reduceBEq, Nat.reduceAdd, Nat.reduceSub, Nat.reduceLT, Nat.reduceLeDiff, Int.reduceLT, Int.reduceLE, Int.reduceEq, Int.reduceToNat, List.append_assoc, List.length_append, Vm.get_app, Vm.set_app, Vm.get_appL, Vm.get_appL0, Vm.set_appL, Vm.set_appL0, Nat.le_refl, Nat.le_add_right, okAt])
      all_goals exact ⟨k, x, out, rfl, xr, fw, hk, hsg⟩
  · rintro e H ⟨k, x, out, e4, xr, fw, hk, hsg⟩
    have htk := fw.take
    have hln := fun cf base => xr.SR.o_len (cf := cf) (base := base) (h := H)
    have hbs : ∀ cf base, opV cf base H .b2s [x] = some (.s (.string ⟨out.toArray⟩), H) := fun cf base => by rw [o_b2sE, xr.els, b2sR_bytes]
    simp only [List.length_map] at hln
    by_cases hc : 4 ≤ out.length ∧ out.length ≤ 12
    · have hn : normal l = some out := by simp [normal, hsg, hc]
      have c1 : ¬ (out.length : Int) < 4 := by omega
      have c2 : ¬ (12 : Int) < out.length := by omega
      have hvb : (0 : Nat) = 0 := rfl
      try simp only [e4, hln, hbs, htk, c1, c2, hn, Option.getD_some, Option.isSome_some, go_sem, V.s.injEq, Value.bool.injEq, ↓reduceIte, Nat.reduceEqDiff, Nat.reduceBEq, Nat.reduceAdd, Nat.reduceSub, Nat.reduceLT, Nat.reduceLeDiff, Int.reduceLT, Int.reduceLE, Int.reduceEq, Int.reduceToNat, List.append_assoc, List.length_append, Vm.get_app, Vm.set_app, Vm.get_appL, Vm.get_appL0, Vm.set_appL, Vm.set_appL0, Nat.le_refl, Nat.le_add_right, okAt]
      repeat' (
        first | refine wpC_cases ?_ ?_ | refine wpU_casesT ?_ ?_ | refine wpU_casesF ?_ ?_
        all_goals intro hvc
        all_goals first | replace hvc := not_of_true hvc | replace hvc := not_of_false hvc | skip
        all_goals first | subst hvc | replace hvb := And.intro hvc hvb
        all_goals try simp only [hvb, e4, hln, hbs, htk, c1, c2, hn, Option.getD_some, Option.isSome_some, go_sem, V.s.injEq, Value.bool.injEq, ↓reduceIte, Nat.reduceEqDiff, Nat.reduceBEq, Nat.reduceAdd, Nat.reduceSub, Nat.reduceLT, Nat.reduceLeDiff, Int.reduceLT, Int.reduceLE, Int.reduceEq, Int.reduceToNat, List.append_assoc, List.length_append, Vm.get_app, Vm.set_app, Vm.get_appL, Vm.get_appL0, Vm.set_appL, Vm.set_appL0, Nat.le_refl, Nat.le_add_right, okAt])
    · have hn : normal l = none := by simp only [normal, hsg, Option.bind_some, hc, if_false]
      by_cases c1 : (out.length : Int) < 4
      · have hvb : (0 : Nat) = 0 := rfl
        try simp only [e4, hln, hbs, htk, c1, hn, Option.getD_none, Option.isSome_none, go_sem, V.s.injEq, Value.bool.injEq, ↓reduceIte, Nat.reduceEqDiff, Nat.reduceBEq, Nat.reduceAdd, Nat.reduceSub, Nat.reduceLT, Nat.reduceLeDiff, Int.reduceLT, Int.reduceLE, Int.reduceEq, Int.reduceToNat, List.append_assoc, List.length_append, Vm.get_app, Vm.set_app, Vm.get_appL, Vm.get_appL0, Vm.set_appL, Vm.set_appL0, Nat.le_refl, Nat.le_add_right, okAt]
        repeat' (
          first | refine wpC_cases ?_ ?_ | refine wpU_casesT ?_ ?_ | refine wpU_casesF ?_ ?_
          all_goals intro hvc
          all_goals first | replace hvc := not_of_true hvc | replace hvc := not_of_false hvc | skip
          all_goals first | subst hvc | replace hvb := And.intro hvc hvb
          all_goals try simp only [hvb, e4, hln, hbs, htk, c1, hn, Option.getD_none, Option.isSome_none, go_sem, V.s.injEq, Value.bool.injEq, ↓reduceIte, Nat.reduceEqDiff, Nat.reduceBEq, Nat.reduceAdd, Nat.reduceSub, Nat.reduceLT, Nat.reduceLeDiff, Int.reduceLT, Int.reduceLE, Int.reduceEq, Int.reduceToNat, List.append_assoc, List.length_append, Vm.get_app, Vm.set_app, Vm.get_appL, Vm.get_appL0, Vm.set_appL, Vm.set_appL0, Nat.le_refl, Nat.le_add_right, okAt])
      · have c2 : (12 : Int) < out.length := by omega
        have hvb : (0 : Nat) = 0 := rfl
        try simp only [e4, hln, hbs, htk, c1, c2, hn, Option.getD_none, Option.isSome_none, go_sem, V.s.injEq, Value.bool.injEq, ↓reduceIte, Nat.reduceEqDiff, Nat.reduceBEq, Nat.reduceAdd, Nat.reduceSub, Nat.reduceLT, Nat.reduceLeDiff, Int.reduceLT, Int.reduceLE, Int.reduceEq, Int.reduceToNat, List.append_assoc, List.length_append, Vm.get_app, Vm.set_app, Vm.get_appL, Vm.get_appL0, Vm.set_appL, Vm.set_appL0, Nat.le_refl, Nat.le_add_right, okAt]
        repeat' (
          first | refine wpC_cases ?_ ?_ | refine wpU_casesT ?_ ?_ | refine wpU_casesF ?_ ?_
          all_goals intro hvc
          all_goals first | replace hvc := not_of_true hvc | replace hvc := not_of_false hvc | skip
          all_goals first | subst hvc | replace hvb := And.intro hvc hvb
          all_goals try simp only [hvb, e4, hln, hbs, htk, c1, c2, hn, Option.getD_none, Option.isSome_none, go_sem, V.s.injEq, Value.bool.injEq, ↓reduceIte, Nat.reduceEqDiff, Nat.reduceBEq, Nat.reduceAdd, Nat.reduceSub, Nat.reduceLT, Nat.reduceLeDiff, Int.reduceLT, Int.reduceLE, Int.reduceEq, Int.reduceToNat, List.append_assoc, List.length_append, Vm.get_app, Vm.set_app, Vm.get_appL, Vm.get_appL0, Vm.set_appL, Vm.set_appL0, Nat.le_refl, Nat.le_add_right, okAt])
end Go.Proofs.Ytdhgcdkinehomaa
