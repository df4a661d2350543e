/- PinMasks: what the law runs. Conditions: none. -/
import Derived.Test.YtdhgcdkinehomaaCP4
namespace Go.Proofs.Ytdhgcdkinehomaa
open Go Go.Vm Go.Proofs Go.Cl
set_option linter.unusedSimpArgs false
set_option linter.unusedVariables false
set_option maxRecDepth 100000
theorem o_slsT {cf : CF} {base : Nat} {h : Hp} {k : IntKind} {l : Bs} {n : Nat} (hn : n ≤ l.length) : opV cf base h (.sls false true) [.s (.string ⟨l.toArray⟩), .s (.int k n)] = some (.s (.string ⟨(l.take n).toArray⟩), h) := by
  have h0 : ¬ (n : Int) < 0 := by omega
  have h1 : n ≤ (ByteArray.mk l.toArray).size := hn
  simp only [opV, opSls, splitBounds, natOf]
  simp only [h0, Int.toNat_natCast, if_true, if_false, Nat.zero_le, true_and, h1, okI, txt_cut, List.drop_zero]
  try simp [h1, okI, txt_cut]
theorem masked_sg (l : Bs) : sg (masked l) = List.replicate ((sg l).length - 2) 8226 ++ ((sg l).drop ((sg l).length - 2)).map fix := by
  rw [masked, sg_enc, List.map_append, List.map_replicate]; rfl
theorem masked_len (l : Bs) : (sg (masked l)).length = (sg l).length := by
  rw [masked_sg]; simp
theorem masked_le (l : Bs) : (masked l).length ≤ 4 * l.length := by
  have h1 := encL_len (List.replicate ((sg l).length - 2) 8226 ++ (sg l).drop ((sg l).length - 2))
  have h2 := sg_le l
  simp only [List.length_append, List.length_replicate, List.length_drop] at h1
  rw [masked]; omega
theorem PinMasks_run (a0 : ByteArray) : run fns pr 0 12 [.s (.string a0)] [] = some (.s (.bool true), []) := by
  obtain ⟨l, rfl⟩ : ∃ l : Bs, a0 = ⟨l.toArray⟩ := ⟨a0.data.toList, by simp⟩
  have hkn := fun b h => known_ok b h
  obtain ⟨L, hL⟩ : ∃ L, l.take 50 = L := ⟨_, rfl⟩
  have hL50 : L.length ≤ 50 := by rw [← hL, List.length_take]; omega
  have h1 := fun b h => Masked_ok b h L (by omega)
  have hml := masked_le L
  have h2 := fun b h => Count_ok b h (masked L) (by omega)
  have h3 := fun b h => Count_ok b h L (by omega)
  rw [masked_len] at h2
  have h4 := fun b h => Normal_ok b h L (by omega)
  simp only [txt] at h1 h2 h3 h4
  have hsz : ((List.toArray l).size : Int) = l.length := rfl
  have hle := sg_le L
  have hms := masked_sg L
  refine Vm.runP (nt := 72) rfl fit12 (by simp) ?_
  by_cases c : (50 : Int) < l.length
  case' pos =>
    have hsl := fun cf base h => o_slsT (cf := cf) (base := base) (h := h) (k := .i64) (l := l) (n := 50) (by omega)
    rw [hL] at hsl
    have hsl : ∀ cf base h, opV cf base h (.sls false true) [.s (.string ⟨l.toArray⟩), .s (.int .i64 50)] = some (.s (.string ⟨L.toArray⟩), h) := hsl
    have hvb : (0 : Nat) = 0 := rfl
    try simp only [B12, B12R0, B12L0, hsz, c, hsl, h1, h2, h3, go_sem, V.s.injEq, Value.bool.injEq, ↓reduceIte, Nat.reduceEqDiff, Nat.reduceBEq, Nat.reduceAdd, Nat.reduceSub, Nat.reduceLT, Nat.reduceLeDiff, Int.reduceLT, Int.reduceLE, Int.reduceEq, Int.reduceToNat, List.append_assoc, List.length_append, Vm.get_app, Vm.set_app, Vm.get_appL, Vm.get_appL0, Vm.set_appL, Vm.set_appL0, Nat.le_refl, Nat.le_add_right, okAt]
    repeat' (
      first | refine wpC_cases ?_ ?_ | refine wpU_casesT ?_ ?_ | refine wpU_casesF ?_ ?_
      all_goals intro hvc
      all_goals first | replace hvc := not_of_true hvc | replace hvc := not_of_false hvc | skip
      all_goals first | subst hvc | replace hvb := And.intro hvc hvb
      all_goals try simp only [hvb, B12, B12R0, B12L0, hsz, c, hsl, h1, h2, h3, go_sem, V.s.injEq, Value.bool.injEq, ↓reduceIte, Nat.reduceEqDiff, Nat.reduceBEq, Nat.reduceAdd, Nat.reduceSub, Nat.reduceLT, Nat.reduceLeDiff, Int.reduceLT, Int.reduceLE, Int.reduceEq, Int.reduceToNat, List.append_assoc, List.length_append, Vm.get_app, Vm.set_app, Vm.get_appL, Vm.get_appL0, Vm.set_appL, Vm.set_appL0, Nat.le_refl, Nat.le_add_right, okAt])
  case' neg =>
    have : L = l := by rw [← hL, List.take_of_length_le (by omega)]
    subst this
    have hvb : (0 : Nat) = 0 := rfl
    try simp only [B12, B12R0, B12L0, hsz, c, h1, h2, h3, go_sem, V.s.injEq, Value.bool.injEq, ↓reduceIte, Nat.reduceEqDiff, Nat.reduceBEq, Nat.reduceAdd, Nat.reduceSub, Nat.reduceLT, Nat.reduceLeDiff, Int.reduceLT, Int.reduceLE, Int.reduceEq, Int.reduceToNat, List.append_assoc, List.length_append, Vm.get_app, Vm.set_app, Vm.get_appL, Vm.get_appL0, Vm.set_appL, Vm.set_appL0, Nat.le_refl, Nat.le_add_right, okAt]
    repeat' (
      first | refine wpC_cases ?_ ?_ | refine wpU_casesT ?_ ?_ | refine wpU_casesF ?_ ?_
      all_goals intro hvc
      all_goals first | replace hvc := not_of_true hvc | replace hvc := not_of_false hvc | skip
      all_goals first | subst hvc | replace hvb := And.intro hvc hvb
      all_goals try simp only [hvb, B12, B12R0, B12L0, hsz, c, h1, h2, h3, go_sem, V.s.injEq, Value.bool.injEq, ↓reduceIte, Nat.reduceEqDiff, Nat.reduceBEq, Nat.reduceAdd, Nat.reduceSub, Nat.reduceLT, Nat.reduceLeDiff, Int.reduceLT, Int.reduceLE, Int.reduceEq, Int.reduceToNat, List.append_assoc, List.length_append, Vm.get_app, Vm.set_app, Vm.get_appL, Vm.get_appL0, Vm.set_appL, Vm.set_appL0, Nat.le_refl, Nat.le_add_right, okAt])
  all_goals
    refine wp_for (fun m e H => ∃ p pre, m = (masked L).length - p ∧ e 4 = .s (.int .i64 pre.length) ∧ e 24 = .ptr 0 [] 0 ∧ e 0 = .s (.string ⟨L.toArray⟩) ∧ H[0]? = some (.siter ⟨(masked L).toArray⟩ p) ∧ sg (masked L) = pre ++ sg ((masked L).drop p) ∧ pre.length ≤ p)
      (fun e H => e 0 = .s (.string ⟨L.toArray⟩))
      (masked L).length _ _ ⟨0, [], rfl, rfl, rfl, rfl, rfl, by simp, by simp⟩ ?_ ?_
    · rintro m e H ⟨p, pre, rfl, e4, e24, e0, hit, hsg, hpl⟩
      by_cases c : p < (masked L).length
      · obtain ⟨hs1, hs2, hs3⟩ := sg_at c
        have c' : p < (List.toArray (masked L)).size := c
        generalize hr : ((Utf8.decode ⟨(masked L).toArray⟩ p).1 : Int) = r at hs1
        generalize hw : (Utf8.decode ⟨(masked L).toArray⟩ p).2 = w at hs1 hs2
        rw [hs1] at hsg
        have w2 : IntKind.i64.wrap ((pre.length : Int) + 2) = (pre.length : Int) + 2 := wrap_i64 (by omega) (by omega)
        have hwr : IntKind.i64.wrap ((pre.length : Int) + 1) = ((pre.length + 1 : Nat) : Int) := wrap_small (by omega)
        have hnew := set_get hit (b := .siter ⟨(masked L).toArray⟩ (p + w))
        have hfin : sg (masked L) = (pre ++ [r]) ++ sg ((masked L).drop (p + w)) := by rw [hsg]; simp
        by_cases c2 : (pre.length : Int) + 2 < (sg L).length
        · have hr8 : r = 8226 := by
            have h5 : (sg (masked L))[pre.length]? = some r := by rw [hsg]; simp
            rw [hms, List.getElem?_append_left (by simp; omega), List.getElem?_replicate, if_pos (by omega)] at h5
            cases h5; rfl
          rw [hr8] at hr
          have hvb : (0 : Nat) = 0 := rfl
          try simp only [e4, e24, e0, hit, c', hr, hw, w2, h3, c2, hwr, go_sem, V.s.injEq, Value.bool.injEq, ↓reduceIte, Nat.reduceEqDiff, Nat.reduceBEq, Nat.reduceAdd, Nat.reduceSub, Nat.reduceLT, Nat.reduceLeDiff, Int.reduceLT, Int.reduceLE, Int.reduceEq, Int.reduceToNat, List.append_assoc, List.length_append, Vm.get_app, Vm.set_app, Vm.get_appL, Vm.get_appL0, Vm.set_appL, Vm.set_appL0, Nat.le_refl, Nat.le_add_right, okAt]
          repeat' (
            first | refine wpC_cases ?_ ?_ | refine wpU_casesT ?_ ?_ | refine wpU_casesF ?_ ?_
            all_goals intro hvc
            all_goals first | replace hvc := not_of_true hvc | replace hvc := not_of_false hvc | skip
            all_goals first | subst hvc | replace hvb := And.intro hvc hvb
            all_goals try simp only [hvb, e4, e24, e0, hit, c', hr, hw, w2, h3, c2, hwr, go_sem, V.s.injEq, Value.bool.injEq, ↓reduceIte, Nat.reduceEqDiff, Nat.reduceBEq, Nat.reduceAdd, Nat.reduceSub, Nat.reduceLT, Nat.reduceLeDiff, Int.reduceLT, Int.reduceLE, Int.reduceEq, Int.reduceToNat, List.append_assoc, List.length_append, Vm.get_app, Vm.set_app, Vm.get_appL, Vm.get_appL0, Vm.set_appL, Vm.set_appL0, Nat.le_refl, Nat.le_add_right, okAt])
          all_goals exact ⟨(masked L).length - (p + w), by omega, p + w, pre ++ [r], rfl, by simp, hnew, hfin, by simp; omega⟩
        · have hvb : (0 : Nat) = 0 := rfl
          try simp only [e4, e24, e0, hit, c', hr, hw, w2, h3, c2, hwr, go_sem, V.s.injEq, Value.bool.injEq, ↓reduceIte, Nat.reduceEqDiff, Nat.reduceBEq, Nat.reduceAdd, Nat.reduceSub, Nat.reduceLT, Nat.reduceLeDiff, Int.reduceLT, Int.reduceLE, Int.reduceEq, Int.reduceToNat, List.append_assoc, List.length_append, Vm.get_app, Vm.set_app, Vm.get_appL, Vm.get_appL0, Vm.set_appL, Vm.set_appL0, Nat.le_refl, Nat.le_add_right, okAt]
          repeat' (
            first | refine wpC_cases ?_ ?_ | refine wpU_casesT ?_ ?_ | refine wpU_casesF ?_ ?_
            all_goals intro hvc
            all_goals first | replace hvc := not_of_true hvc | replace hvc := not_of_false hvc | skip
            all_goals first | subst hvc | replace hvb := And.intro hvc hvb
            all_goals try simp only [hvb, e4, e24, e0, hit, c', hr, hw, w2, h3, c2, hwr, go_sem, V.s.injEq, Value.bool.injEq, ↓reduceIte, Nat.reduceEqDiff, Nat.reduceBEq, Nat.reduceAdd, Nat.reduceSub, Nat.reduceLT, Nat.reduceLeDiff, Int.reduceLT, Int.reduceLE, Int.reduceEq, Int.reduceToNat, List.append_assoc, List.length_append, Vm.get_app, Vm.set_app, Vm.get_appL, Vm.get_appL0, Vm.set_appL, Vm.set_appL0, Nat.le_refl, Nat.le_add_right, okAt])
          all_goals exact ⟨(masked L).length - (p + w), by omega, p + w, pre ++ [r], rfl, by simp, hnew, hfin, by simp; omega⟩
      · have c' : ¬ p < (List.toArray (masked L)).size := c
        have hvb : (0 : Nat) = 0 := rfl
        try simp only [e4, e24, e0, hit, c', go_sem, V.s.injEq, Value.bool.injEq, ↓reduceIte, Nat.reduceEqDiff, Nat.reduceBEq, Nat.reduceAdd, Nat.reduceSub, Nat.reduceLT, Nat.reduceLeDiff, Int.reduceLT, Int.reduceLE, Int.reduceEq, Int.reduceToNat, List.append_assoc, List.length_append, Vm.get_app, Vm.set_app, Vm.get_appL, Vm.get_appL0, Vm.set_appL, Vm.set_appL0, Nat.le_refl, Nat.le_add_right, okAt]
        repeat' (
          first | refine wpC_cases ?_ ?_ | refine wpU_casesT ?_ ?_ | refine wpU_casesF ?_ ?_
          all_goals intro hvc
          all_goals first | replace hvc := not_of_true hvc | replace hvc := not_of_false hvc | skip
          all_goals first | subst hvc | replace hvb := And.intro hvc hvb
          all_goals try simp only [hvb, e4, e24, e0, hit, c', go_sem, V.s.injEq, Value.bool.injEq, ↓reduceIte, Nat.reduceEqDiff, Nat.reduceBEq, Nat.reduceAdd, Nat.reduceSub, Nat.reduceLT, Nat.reduceLeDiff, Int.reduceLT, Int.reduceLE, Int.reduceEq, Int.reduceToNat, List.append_assoc, List.length_append, Vm.get_app, Vm.set_app, Vm.get_appL, Vm.get_appL0, Vm.set_appL, Vm.set_appL0, Nat.le_refl, Nat.le_add_right, okAt])
    · rintro e H e0
      cases hn : normal L with
      | none =>
        simp only [hn, Option.getD_none, Option.isSome_none] at h4
        have hvb : (0 : Nat) = 0 := rfl
        try simp only [e0, h4, hkn, go_sem, V.s.injEq, Value.bool.injEq, ↓reduceIte, Nat.reduceEqDiff, Nat.reduceBEq, Nat.reduceAdd, Nat.reduceSub, Nat.reduceLT, Nat.reduceLeDiff, Int.reduceLT, Int.reduceLE, Int.reduceEq, Int.reduceToNat, List.append_assoc, List.length_append, Vm.get_app, Vm.set_app, Vm.get_appL, Vm.get_appL0, Vm.set_appL, Vm.set_appL0, Nat.le_refl, Nat.le_add_right, okAt]
        repeat' (
          first | refine wpC_cases ?_ ?_ | refine wpU_casesT ?_ ?_ | refine wpU_casesF ?_ ?_
          all_goals intro hvc
          all_goals first | replace hvc := not_of_true hvc | replace hvc := not_of_false hvc | skip
          all_goals first | subst hvc | replace hvb := And.intro hvc hvb
          all_goals try simp only [hvb, e0, h4, hkn, go_sem, V.s.injEq, Value.bool.injEq, ↓reduceIte, Nat.reduceEqDiff, Nat.reduceBEq, Nat.reduceAdd, Nat.reduceSub, Nat.reduceLT, Nat.reduceLeDiff, Int.reduceLT, Int.reduceLE, Int.reduceEq, Int.reduceToNat, List.append_assoc, List.length_append, Vm.get_app, Vm.set_app, Vm.get_appL, Vm.get_appL0, Vm.set_appL, Vm.set_appL0, Nat.le_refl, Nat.le_add_right, okAt])
      | some d =>
        obtain ⟨d1, d2, d3, d4⟩ := normal_digits hn
        have h5 := fun b h => Normal_ok b h d (by omega)
        have h6 := fun b h => Count_ok b h d (by omega)
        rw [d2, List.length_map] at h6
        simp only [hn, d1, Option.getD_some, Option.isSome_some, txt] at h4 h5 h6
        have hsz2 : ((List.toArray d).size : Int) = d.length := rfl
        have hvb : (0 : Nat) = 0 := rfl
        try simp only [e0, h4, h5, h6, hkn, hsz2, go_sem, V.s.injEq, Value.bool.injEq, ↓reduceIte, Nat.reduceEqDiff, Nat.reduceBEq, Nat.reduceAdd, Nat.reduceSub, Nat.reduceLT, Nat.reduceLeDiff, Int.reduceLT, Int.reduceLE, Int.reduceEq, Int.reduceToNat, List.append_assoc, List.length_append, Vm.get_app, Vm.set_app, Vm.get_appL, Vm.get_appL0, Vm.set_appL, Vm.set_appL0, Nat.le_refl, Nat.le_add_right, okAt]
        repeat' (
          first | refine wpC_cases ?_ ?_ | refine wpU_casesT ?_ ?_ | refine wpU_casesF ?_ ?_
          all_goals intro hvc
          all_goals first | replace hvc := not_of_true hvc | replace hvc := not_of_false hvc | skip
          all_goals first | subst hvc | replace hvb := And.intro hvc hvb
          all_goals try simp only [hvb, e0, h4, h5, h6, hkn, hsz2, go_sem, V.s.injEq, Value.bool.injEq, ↓reduceIte, Nat.reduceEqDiff, Nat.reduceBEq, Nat.reduceAdd, Nat.reduceSub, Nat.reduceLT, Nat.reduceLeDiff, Int.reduceLT, Int.reduceLE, Int.reduceEq, Int.reduceToNat, List.append_assoc, List.length_append, Vm.get_app, Vm.set_app, Vm.get_appL, Vm.get_appL0, Vm.set_appL, Vm.set_appL0, Nat.le_refl, Nat.le_add_right, okAt])
end Go.Proofs.Ytdhgcdkinehomaa
