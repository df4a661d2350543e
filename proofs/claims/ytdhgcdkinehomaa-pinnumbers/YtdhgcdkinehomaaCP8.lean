/- PinNumbers: what the law runs. Conditions: none. -/
import Derived.Test.YtdhgcdkinehomaaCP6
namespace Go.Proofs.Ytdhgcdkinehomaa
open Go Go.Vm Go.Proofs Go.Cl
set_option linter.unusedSimpArgs false
set_option linter.unusedVariables false
set_option maxRecDepth 100000
theorem o_slsL {cf : CF} {base : Nat} {h : Hp} {k : IntKind} {l : Bs} {n : Nat} (hn : n ≤ l.length) : opV cf base h (.sls true false) [.s (.string ⟨l.toArray⟩), .s (.int k n)] = some (.s (.string ⟨(l.drop n).toArray⟩), h) := by
  have h0 : ¬ (n : Int) < 0 := by omega
  have h1 : n ≤ (ByteArray.mk l.toArray).size := hn
  have h2 : (ByteArray.mk l.toArray).size = l.length := rfl
  have h3 : (ByteArray.mk l.toArray).extract n l.length = ⟨(l.drop n).toArray⟩ := by rw [txt_cut, List.take_of_length_le (Nat.le_refl _)]
  simp only [opV, opSls, splitBounds, natOf]
  simp [h0, Int.toNat_natCast, h2, hn, okI, h3]
def rsN : List Int := [48, 65296, 1632, 1776, 32, 45, 160, 2406, 178]
def ssN : List Bs := [[], [255], [49, 50, 255, 51, 52], [49, 50, 51, 52, 224, 160], [226, 128, 162, 226, 128, 162], [48, 49, 50, 51], [57, 56, 55, 54], [56, 57, 48, 49], [49, 49, 49, 49], [48, 49, 50, 51, 52, 53, 54, 55, 56, 57, 48, 49], [48, 49, 50, 51, 52, 53, 54, 55, 56, 57], [57, 56, 55, 54, 53, 52, 51, 50, 49, 48], [48, 48, 48, 48, 48, 48, 48, 48, 48, 48, 48, 48, 48], [49, 50, 97, 52], [49, 50, 51, 52, 10]]
theorem PinNumbers_run : run fns pr 0 9 [] [] = some (.s (.bool true), []) := by
  have hkn := fun b h => known_ok b h
  refine Vm.runP (nt := 62) rfl fit9 (by simp) ?_
  have hvb : (0 : Nat) = 0 := rfl
  try simp only [B9, B9R0, B9R4, B9L4, B9L6, B9L0, B9L2, go_sem, V.s.injEq, Value.bool.injEq, ↓reduceIte, Nat.reduceEqDiff, Nat.reduceBEq, Nat.reduceAdd, Nat.reduceSub, Nat.reduceLT, Nat.reduceLeDiff, Int.reduceLT, Int.reduceLE, Int.reduceEq, Int.reduceToNat, List.append_assoc, List.length_append, Vm.get_app, Vm.set_app, Vm.get_appL, Vm.get_appL0, Vm.set_appL, Vm.set_appL0, Nat.le_refl, Nat.le_add_right, okAt]
  repeat' (
    first | refine wpC_cases ?_ ?_ | refine wpU_casesT ?_ ?_ | refine wpU_casesF ?_ ?_
    all_goals intro hvc
    all_goals first | replace hvc := not_of_true hvc | replace hvc := not_of_false hvc | skip
    all_goals first | subst hvc | replace hvb := And.intro hvc hvb
    all_goals try simp only [hvb, B9, B9R0, B9R4, B9L4, B9L6, B9L0, B9L2, go_sem, V.s.injEq, Value.bool.injEq, ↓reduceIte, Nat.reduceEqDiff, Nat.reduceBEq, Nat.reduceAdd, Nat.reduceSub, Nat.reduceLT, Nat.reduceLeDiff, Int.reduceLT, Int.reduceLE, Int.reduceEq, Int.reduceToNat, List.append_assoc, List.length_append, Vm.get_app, Vm.set_app, Vm.get_appL, Vm.get_appL0, Vm.set_appL, Vm.set_appL0, Nat.le_refl, Nat.le_add_right, okAt])
  refine wp_for (fun m e H => ∃ i : Nat, m = 9 - i ∧ i ≤ 9 ∧ e 9 = .s (.int .i64 i) ∧ e 8 = .s (.int .i64 9) ∧ e 7 = .ref 0 [] none 0 9 9 ∧ H = [.cells none (rsN.map runeV)])
    (fun e H => H = [.cells none (rsN.map runeV)])
    9 _ _ ⟨0, rfl, by omega, rfl, rfl, rfl, rfl⟩ ?_ ?_
  · rintro m e H ⟨i, rfl, hi, e9, e8, e7, hH⟩
    by_cases c : i < 9
    · have c' : (i : Int) < 9 := by omega
      have hsr : SR H (.ref 0 [] none 0 9 9) none (rsN.map runeV) := .inr ⟨0, 0, 9, _, rfl, by rw [hH]; rfl, rfl, by decide, rfl⟩
      have hia := fun cf base => hsr.o_ias (cf := cf) (base := base) (k := .i64) (i := i) c
      obtain ⟨r, hr⟩ : ∃ r, rsN[i]? = some r := ⟨_, List.getElem?_eq_getElem (show i < rsN.length from c)⟩
      have hld := fun cf base => hsr.o_ld (cf := cf) (base := base) (i := i) (v := runeV r) (by rw [List.getElem?_map, hr]; rfl) rfl
      have hwr : IntKind.i64.wrap ((i : Int) + 1) = ((i + 1 : Nat) : Int) := wrap_small (by omega)
      simp only [runeV] at hld
      have hvb : (0 : Nat) = 0 := rfl
      try simp only [e9, e8, e7, c', hia, hld, go_sem, V.s.injEq, Value.bool.injEq, ↓reduceIte, Nat.reduceEqDiff, Nat.reduceBEq, Nat.reduceAdd, Nat.reduceSub, Nat.reduceLT, Nat.reduceLeDiff, Int.reduceLT, Int.reduceLE, Int.reduceEq, Int.reduceToNat, List.append_assoc, List.length_append, Vm.get_app, Vm.set_app, Vm.get_appL, Vm.get_appL0, Vm.set_appL, Vm.set_appL0, Nat.le_refl, Nat.le_add_right, okAt]
      repeat' (
        first | refine wpC_cases ?_ ?_ | refine wpU_casesT ?_ ?_ | refine wpU_casesF ?_ ?_
        all_goals intro hvc
        all_goals first | replace hvc := not_of_true hvc | replace hvc := not_of_false hvc | skip
        all_goals first | subst hvc | replace hvb := And.intro hvc hvb
        all_goals try simp only [hvb, e9, e8, e7, c', hia, hld, go_sem, V.s.injEq, Value.bool.injEq, ↓reduceIte, Nat.reduceEqDiff, Nat.reduceBEq, Nat.reduceAdd, Nat.reduceSub, Nat.reduceLT, Nat.reduceLeDiff, Int.reduceLT, Int.reduceLE, Int.reduceEq, Int.reduceToNat, List.append_assoc, List.length_append, Vm.get_app, Vm.set_app, Vm.get_appL, Vm.get_appL0, Vm.set_appL, Vm.set_appL0, Nat.le_refl, Nat.le_add_right, okAt])
      refine wp_for (fun m e H' => ∃ d : Nat, m = 15 - d ∧ d ≤ 15 ∧ e 3 = .s (.int .i32 ((d : Int) - 2)) ∧ e 2 = .s (.int .i32 r) ∧ e 9 = .s (.int .i64 i) ∧ e 8 = .s (.int .i64 9) ∧ e 7 = .ref 0 [] none 0 9 9 ∧ H' = H)
        (fun e H' => e 9 = .s (.int .i64 i) ∧ e 8 = .s (.int .i64 9) ∧ e 7 = .ref 0 [] none 0 9 9 ∧ H' = H)
        15 _ _ ⟨0, rfl, by omega, rfl, rfl, by first | rfl | exact e9, by first | rfl | exact e8, by first | rfl | exact e7, rfl⟩ ?_ ?_
      · rintro m e H' ⟨d, rfl, hd, e3, e2, e9, e8, e7, rfl⟩
        have hwd : IntKind.i32.wrap (((d : Int) - 2) + 1) = ((d + 1 : Nat) : Int) - 2 := by rw [wrap_i32 (by omega) (by omega)]; omega
        by_cases c : d < 15
        · have c' : ((d : Int) - 2) < 13 := by omega
          have hen := enc1_len (IntKind.i32.wrap (r + ((d : Int) - 2)))
          have hr2 := fun cf base h => o_r2s1 (cf := cf) (base := base) (h := h) (IntKind.i32.wrap (r + ((d : Int) - 2)))
          generalize enc1 (IntKind.i32.wrap (r + ((d : Int) - 2))) = t at hen hr2
          have ha1 : ∀ cf base h, opV cf base h (.bin .num .add) [.s (.string ⟨#[49, 50, 51]⟩), .s (.string ⟨t.toArray⟩)] = some (.s (.string ⟨([49, 50, 51] ++ t).toArray⟩), h) := fun cf base h => o_saddT [49, 50, 51] t (by simp; omega)
          have ha2 : ∀ cf base h, opV cf base h (.bin .num .add) [.s (.string ⟨t.toArray⟩), .s (.string ⟨#[52, 53, 54, 55, 56]⟩)] = some (.s (.string ⟨(t ++ [52, 53, 54, 55, 56]).toArray⟩), h) := fun cf base h => o_saddT t [52, 53, 54, 55, 56] (by simp; omega)
          have hs1 := fun b h => same_ok b h ([49, 50, 51] ++ t) (by simp; omega)
          have hs2 := fun b h => same_ok b h (t ++ [52, 53, 54, 55, 56]) (by simp; omega)
          simp only [txt] at hs1 hs2
          generalize ([49, 50, 51] : Bs) ++ t = t1 at ha1 hs1
          generalize t ++ ([52, 53, 54, 55, 56] : Bs) = t2 at ha2 hs2
          have hvb : (0 : Nat) = 0 := rfl
          try simp only [e3, e2, c', hr2, ha1, ha2, hs1, hs2, hwd, go_sem, V.s.injEq, Value.bool.injEq, ↓reduceIte, Nat.reduceEqDiff, Nat.reduceBEq, Nat.reduceAdd, Nat.reduceSub, Nat.reduceLT, Nat.reduceLeDiff, Int.reduceLT, Int.reduceLE, Int.reduceEq, Int.reduceToNat, List.append_assoc, List.length_append, Vm.get_app, Vm.set_app, Vm.get_appL, Vm.get_appL0, Vm.set_appL, Vm.set_appL0, Nat.le_refl, Nat.le_add_right, okAt]
          repeat' (
            first | refine wpC_cases ?_ ?_ | refine wpU_casesT ?_ ?_ | refine wpU_casesF ?_ ?_
            all_goals intro hvc
            all_goals first | replace hvc := not_of_true hvc | replace hvc := not_of_false hvc | skip
            all_goals first | subst hvc | replace hvb := And.intro hvc hvb
            all_goals try simp only [hvb, e3, e2, c', hr2, ha1, ha2, hs1, hs2, hwd, go_sem, V.s.injEq, Value.bool.injEq, ↓reduceIte, Nat.reduceEqDiff, Nat.reduceBEq, Nat.reduceAdd, Nat.reduceSub, Nat.reduceLT, Nat.reduceLeDiff, Int.reduceLT, Int.reduceLE, Int.reduceEq, Int.reduceToNat, List.append_assoc, List.length_append, Vm.get_app, Vm.set_app, Vm.get_appL, Vm.get_appL0, Vm.set_appL, Vm.set_appL0, Nat.le_refl, Nat.le_add_right, okAt])
          all_goals exact ⟨15 - (d + 1), by omega, d + 1, rfl, by omega, rfl, e9, e8, e7⟩
        · have c' : ¬ ((d : Int) - 2) < 13 := by omega
          have hvb : (0 : Nat) = 0 := rfl
          try simp only [e3, e2, c', go_sem, V.s.injEq, Value.bool.injEq, ↓reduceIte, Nat.reduceEqDiff, Nat.reduceBEq, Nat.reduceAdd, Nat.reduceSub, Nat.reduceLT, Nat.reduceLeDiff, Int.reduceLT, Int.reduceLE, Int.reduceEq, Int.reduceToNat, List.append_assoc, List.length_append, Vm.get_app, Vm.set_app, Vm.get_appL, Vm.get_appL0, Vm.set_appL, Vm.set_appL0, Nat.le_refl, Nat.le_add_right, okAt]
          repeat' (
            first | refine wpC_cases ?_ ?_ | refine wpU_casesT ?_ ?_ | refine wpU_casesF ?_ ?_
            all_goals intro hvc
            all_goals first | replace hvc := not_of_true hvc | replace hvc := not_of_false hvc | skip
            all_goals first | subst hvc | replace hvb := And.intro hvc hvb
            all_goals try simp only [hvb, e3, e2, c', go_sem, V.s.injEq, Value.bool.injEq, ↓reduceIte, Nat.reduceEqDiff, Nat.reduceBEq, Nat.reduceAdd, Nat.reduceSub, Nat.reduceLT, Nat.reduceLeDiff, Int.reduceLT, Int.reduceLE, Int.reduceEq, Int.reduceToNat, List.append_assoc, List.length_append, Vm.get_app, Vm.set_app, Vm.get_appL, Vm.get_appL0, Vm.set_appL, Vm.set_appL0, Nat.le_refl, Nat.le_add_right, okAt])
          all_goals exact ⟨e9, e8, e7⟩
      · rintro e H' ⟨e9, e8, e7, rfl⟩
        have hvb : (0 : Nat) = 0 := rfl
        try simp only [e9, hwr, go_sem, V.s.injEq, Value.bool.injEq, ↓reduceIte, Nat.reduceEqDiff, Nat.reduceBEq, Nat.reduceAdd, Nat.reduceSub, Nat.reduceLT, Nat.reduceLeDiff, Int.reduceLT, Int.reduceLE, Int.reduceEq, Int.reduceToNat, List.append_assoc, List.length_append, Vm.get_app, Vm.set_app, Vm.get_appL, Vm.get_appL0, Vm.set_appL, Vm.set_appL0, Nat.le_refl, Nat.le_add_right, okAt]
        repeat' (
          first | refine wpC_cases ?_ ?_ | refine wpU_casesT ?_ ?_ | refine wpU_casesF ?_ ?_
          all_goals intro hvc
          all_goals first | replace hvc := not_of_true hvc | replace hvc := not_of_false hvc | skip
          all_goals first | subst hvc | replace hvb := And.intro hvc hvb
          all_goals try simp only [hvb, e9, hwr, go_sem, V.s.injEq, Value.bool.injEq, ↓reduceIte, Nat.reduceEqDiff, Nat.reduceBEq, Nat.reduceAdd, Nat.reduceSub, Nat.reduceLT, Nat.reduceLeDiff, Int.reduceLT, Int.reduceLE, Int.reduceEq, Int.reduceToNat, List.append_assoc, List.length_append, Vm.get_app, Vm.set_app, Vm.get_appL, Vm.get_appL0, Vm.set_appL, Vm.set_appL0, Nat.le_refl, Nat.le_add_right, okAt])
        all_goals exact ⟨9 - (i + 1), by omega, i + 1, rfl, by omega, rfl, e8, e7, hH⟩
    · have c' : ¬ (i : Int) < 9 := by omega
      have hvb : (0 : Nat) = 0 := rfl
      try simp only [e9, e8, c', go_sem, V.s.injEq, Value.bool.injEq, ↓reduceIte, Nat.reduceEqDiff, Nat.reduceBEq, Nat.reduceAdd, Nat.reduceSub, Nat.reduceLT, Nat.reduceLeDiff, Int.reduceLT, Int.reduceLE, Int.reduceEq, Int.reduceToNat, List.append_assoc, List.length_append, Vm.get_app, Vm.set_app, Vm.get_appL, Vm.get_appL0, Vm.set_appL, Vm.set_appL0, Nat.le_refl, Nat.le_add_right, okAt]
      repeat' (
        first | refine wpC_cases ?_ ?_ | refine wpU_casesT ?_ ?_ | refine wpU_casesF ?_ ?_
        all_goals intro hvc
        all_goals first | replace hvc := not_of_true hvc | replace hvc := not_of_false hvc | skip
        all_goals first | subst hvc | replace hvb := And.intro hvc hvb
        all_goals try simp only [hvb, e9, e8, c', go_sem, V.s.injEq, Value.bool.injEq, ↓reduceIte, Nat.reduceEqDiff, Nat.reduceBEq, Nat.reduceAdd, Nat.reduceSub, Nat.reduceLT, Nat.reduceLeDiff, Int.reduceLT, Int.reduceLE, Int.reduceEq, Int.reduceToNat, List.append_assoc, List.length_append, Vm.get_app, Vm.set_app, Vm.get_appL, Vm.get_appL0, Vm.set_appL, Vm.set_appL0, Nat.le_refl, Nat.le_add_right, okAt])
      all_goals exact hH
  · rintro e H hH
    have hvb : (0 : Nat) = 0 := rfl
    try simp only [hH, go_sem, V.s.injEq, Value.bool.injEq, ↓reduceIte, Nat.reduceEqDiff, Nat.reduceBEq, Nat.reduceAdd, Nat.reduceSub, Nat.reduceLT, Nat.reduceLeDiff, Int.reduceLT, Int.reduceLE, Int.reduceEq, Int.reduceToNat, List.append_assoc, List.length_append, Vm.get_app, Vm.set_app, Vm.get_appL, Vm.get_appL0, Vm.set_appL, Vm.set_appL0, Nat.le_refl, Nat.le_add_right, okAt]
    repeat' (
      first | refine wpC_cases ?_ ?_ | refine wpU_casesT ?_ ?_ | refine wpU_casesF ?_ ?_
      all_goals intro hvc
      all_goals first | replace hvc := not_of_true hvc | replace hvc := not_of_false hvc | skip
      all_goals first | subst hvc | replace hvb := And.intro hvc hvb
      all_goals try simp only [hvb, hH, go_sem, V.s.injEq, Value.bool.injEq, ↓reduceIte, Nat.reduceEqDiff, Nat.reduceBEq, Nat.reduceAdd, Nat.reduceSub, Nat.reduceLT, Nat.reduceLeDiff, Int.reduceLT, Int.reduceLE, Int.reduceEq, Int.reduceToNat, List.append_assoc, List.length_append, Vm.get_app, Vm.set_app, Vm.get_appL, Vm.get_appL0, Vm.set_appL, Vm.set_appL0, Nat.le_refl, Nat.le_add_right, okAt])
    refine wp_for (fun m e H => ∃ i : Nat, m = 15 - i ∧ i ≤ 15 ∧ e 36 = .s (.int .i64 i) ∧ e 35 = .s (.int .i64 15) ∧ e 34 = .ref 1 [] none 0 15 15 ∧ H = [.cells none (rsN.map runeV), .cells none (ssN.map txt)])
      (fun e H => True)
      15 _ _ ⟨0, rfl, by omega, rfl, rfl, rfl, rfl⟩ ?_ ?_
    · rintro m e H ⟨i, rfl, hi, e36, e35, e34, hH⟩
      by_cases c : i < 15
      · have c' : (i : Int) < 15 := by omega
        have hsr : SR H (.ref 1 [] none 0 15 15) none (ssN.map txt) := .inr ⟨1, 0, 15, _, rfl, by rw [hH]; rfl, rfl, by decide, rfl⟩
        have hia := fun cf base => hsr.o_ias (cf := cf) (base := base) (k := .i64) (i := i) c
        obtain ⟨s, hs⟩ : ∃ s, ssN[i]? = some s := ⟨_, List.getElem?_eq_getElem (show i < ssN.length from c)⟩
        have hs20 : s.length ≤ 20 := by
          have h1 : ∀ s ∈ ssN, s.length ≤ 20 := by decide
          exact h1 s (List.mem_of_getElem? hs)
        have hld := fun cf base => hsr.o_ld (cf := cf) (base := base) (i := i) (v := txt s) (by rw [List.getElem?_map, hs]; rfl) rfl
        have hwr : IntKind.i64.wrap ((i : Int) + 1) = ((i + 1 : Nat) : Int) := wrap_small (by omega)
        simp only [txt] at hld
        have hvb : (0 : Nat) = 0 := rfl
        try simp only [e36, e35, e34, c', hia, hld, go_sem, V.s.injEq, Value.bool.injEq, ↓reduceIte, Nat.reduceEqDiff, Nat.reduceBEq, Nat.reduceAdd, Nat.reduceSub, Nat.reduceLT, Nat.reduceLeDiff, Int.reduceLT, Int.reduceLE, Int.reduceEq, Int.reduceToNat, List.append_assoc, List.length_append, Vm.get_app, Vm.set_app, Vm.get_appL, Vm.get_appL0, Vm.set_appL, Vm.set_appL0, Nat.le_refl, Nat.le_add_right, okAt]
        repeat' (
          first | refine wpC_cases ?_ ?_ | refine wpU_casesT ?_ ?_ | refine wpU_casesF ?_ ?_
          all_goals intro hvc
          all_goals first | replace hvc := not_of_true hvc | replace hvc := not_of_false hvc | skip
          all_goals first | subst hvc | replace hvb := And.intro hvc hvb
          all_goals try simp only [hvb, e36, e35, e34, c', hia, hld, go_sem, V.s.injEq, Value.bool.injEq, ↓reduceIte, Nat.reduceEqDiff, Nat.reduceBEq, Nat.reduceAdd, Nat.reduceSub, Nat.reduceLT, Nat.reduceLeDiff, Int.reduceLT, Int.reduceLE, Int.reduceEq, Int.reduceToNat, List.append_assoc, List.length_append, Vm.get_app, Vm.set_app, Vm.get_appL, Vm.get_appL0, Vm.set_appL, Vm.set_appL0, Nat.le_refl, Nat.le_add_right, okAt])
        refine wp_for (fun m e H' => ∃ d : Nat, m = s.length + 1 - d ∧ d ≤ s.length + 1 ∧ e 6 = .s (.int .i64 d) ∧ e 5 = .s (.string ⟨s.toArray⟩) ∧ e 36 = .s (.int .i64 i) ∧ e 35 = .s (.int .i64 15) ∧ e 34 = .ref 1 [] none 0 15 15 ∧ H' = H)
          (fun e H' => e 36 = .s (.int .i64 i) ∧ e 35 = .s (.int .i64 15) ∧ e 34 = .ref 1 [] none 0 15 15 ∧ H' = H)
          (s.length + 1) _ _ ⟨0, rfl, by omega, rfl, rfl, by first | rfl | exact e36, by first | rfl | exact e35, by first | rfl | exact e34, rfl⟩ ?_ ?_
        · rintro m e H' ⟨d, rfl, hd, e6, e5, e36, e35, e34, rfl⟩
          have hwd : IntKind.i64.wrap ((d : Int) + 1) = ((d + 1 : Nat) : Int) := wrap_small (by omega)
          have hsz : ((List.toArray s).size : Int) = s.length := rfl
          by_cases c : d ≤ s.length
          · have c' : (d : Int) ≤ s.length := by omega
            have hc1 := fun cf base h => o_slsT (cf := cf) (base := base) (h := h) (k := .i64) (l := s) (n := d) c
            have hc2 := fun cf base h => o_slsL (cf := cf) (base := base) (h := h) (k := .i64) (l := s) (n := d) c
            have ha := fun cf base h => o_saddT (cf := cf) (base := base) (h := h) (s.drop d) s (by simp; omega)
            have hs1 := fun b h => same_ok b h (s.take d) (by simp; omega)
            have hs2 := fun b h => same_ok b h (s.drop d ++ s) (by simp; omega)
            simp only [txt] at hs1 hs2
            generalize s.drop d ++ s = t2 at ha hs2
            generalize s.drop d = t3 at hc2 ha
            generalize s.take d = t1 at hc1 hs1
            have hvb : (0 : Nat) = 0 := rfl
            try simp only [e6, e5, hsz, c', hc1, hc2, ha, hs1, hs2, hwd, go_sem, V.s.injEq, Value.bool.injEq, ↓reduceIte, Nat.reduceEqDiff, Nat.reduceBEq, Nat.reduceAdd, Nat.reduceSub, Nat.reduceLT, Nat.reduceLeDiff, Int.reduceLT, Int.reduceLE, Int.reduceEq, Int.reduceToNat, List.append_assoc, List.length_append, Vm.get_app, Vm.set_app, Vm.get_appL, Vm.get_appL0, Vm.set_appL, Vm.set_appL0, Nat.le_refl, Nat.le_add_right, okAt]
            repeat' (
              first | refine wpC_cases ?_ ?_ | refine wpU_casesT ?_ ?_ | refine wpU_casesF ?_ ?_
              all_goals intro hvc
              all_goals first | replace hvc := not_of_true hvc | replace hvc := not_of_false hvc | skip
              all_goals first | subst hvc | replace hvb := And.intro hvc hvb
              all_goals try simp only [hvb, e6, e5, hsz, c', hc1, hc2, ha, hs1, hs2, hwd, go_sem, V.s.injEq, Value.bool.injEq, ↓reduceIte, Nat.reduceEqDiff, Nat.reduceBEq, Nat.reduceAdd, Nat.reduceSub, Nat.reduceLT, Nat.reduceLeDiff, Int.reduceLT, Int.reduceLE, Int.reduceEq, Int.reduceToNat, List.append_assoc, List.length_append, Vm.get_app, Vm.set_app, Vm.get_appL, Vm.get_appL0, Vm.set_appL, Vm.set_appL0, Nat.le_refl, Nat.le_add_right, okAt])
            all_goals exact ⟨s.length + 1 - (d + 1), by omega, d + 1, rfl, by omega, rfl, e36, e35, e34⟩
          · have c' : ¬ (d : Int) ≤ s.length := by omega
            have hvb : (0 : Nat) = 0 := rfl
            try simp only [e6, e5, hsz, c', go_sem, V.s.injEq, Value.bool.injEq, ↓reduceIte, Nat.reduceEqDiff, Nat.reduceBEq, Nat.reduceAdd, Nat.reduceSub, Nat.reduceLT, Nat.reduceLeDiff, Int.reduceLT, Int.reduceLE, Int.reduceEq, Int.reduceToNat, List.append_assoc, List.length_append, Vm.get_app, Vm.set_app, Vm.get_appL, Vm.get_appL0, Vm.set_appL, Vm.set_appL0, Nat.le_refl, Nat.le_add_right, okAt]
            repeat' (
              first | refine wpC_cases ?_ ?_ | refine wpU_casesT ?_ ?_ | refine wpU_casesF ?_ ?_
              all_goals intro hvc
              all_goals first | replace hvc := not_of_true hvc | replace hvc := not_of_false hvc | skip
              all_goals first | subst hvc | replace hvb := And.intro hvc hvb
              all_goals try simp only [hvb, e6, e5, hsz, c', go_sem, V.s.injEq, Value.bool.injEq, ↓reduceIte, Nat.reduceEqDiff, Nat.reduceBEq, Nat.reduceAdd, Nat.reduceSub, Nat.reduceLT, Nat.reduceLeDiff, Int.reduceLT, Int.reduceLE, Int.reduceEq, Int.reduceToNat, List.append_assoc, List.length_append, Vm.get_app, Vm.set_app, Vm.get_appL, Vm.get_appL0, Vm.set_appL, Vm.set_appL0, Nat.le_refl, Nat.le_add_right, okAt])
            all_goals exact ⟨e36, e35, e34⟩
        · rintro e H' ⟨e36, e35, e34, rfl⟩
          have hvb : (0 : Nat) = 0 := rfl
          try simp only [e36, hwr, go_sem, V.s.injEq, Value.bool.injEq, ↓reduceIte, Nat.reduceEqDiff, Nat.reduceBEq, Nat.reduceAdd, Nat.reduceSub, Nat.reduceLT, Nat.reduceLeDiff, Int.reduceLT, Int.reduceLE, Int.reduceEq, Int.reduceToNat, List.append_assoc, List.length_append, Vm.get_app, Vm.set_app, Vm.get_appL, Vm.get_appL0, Vm.set_appL, Vm.set_appL0, Nat.le_refl, Nat.le_add_right, okAt]
          repeat' (
            first | refine wpC_cases ?_ ?_ | refine wpU_casesT ?_ ?_ | refine wpU_casesF ?_ ?_
            all_goals intro hvc
            all_goals first | replace hvc := not_of_true hvc | replace hvc := not_of_false hvc | skip
            all_goals first | subst hvc | replace hvb := And.intro hvc hvb
            all_goals try simp only [hvb, e36, hwr, go_sem, V.s.injEq, Value.bool.injEq, ↓reduceIte, Nat.reduceEqDiff, Nat.reduceBEq, Nat.reduceAdd, Nat.reduceSub, Nat.reduceLT, Nat.reduceLeDiff, Int.reduceLT, Int.reduceLE, Int.reduceEq, Int.reduceToNat, List.append_assoc, List.length_append, Vm.get_app, Vm.set_app, Vm.get_appL, Vm.get_appL0, Vm.set_appL, Vm.set_appL0, Nat.le_refl, Nat.le_add_right, okAt])
          all_goals exact ⟨15 - (i + 1), by omega, i + 1, rfl, by omega, rfl, e35, e34, hH⟩
      · have c' : ¬ (i : Int) < 15 := by omega
        have hvb : (0 : Nat) = 0 := rfl
        try simp only [e36, e35, c', go_sem, V.s.injEq, Value.bool.injEq, ↓reduceIte, Nat.reduceEqDiff, Nat.reduceBEq, Nat.reduceAdd, Nat.reduceSub, Nat.reduceLT, Nat.reduceLeDiff, Int.reduceLT, Int.reduceLE, Int.reduceEq, Int.reduceToNat, List.append_assoc, List.length_append, Vm.get_app, Vm.set_app, Vm.get_appL, Vm.get_appL0, Vm.set_appL, Vm.set_appL0, Nat.le_refl, Nat.le_add_right, okAt]
        repeat' (
          first | refine wpC_cases ?_ ?_ | refine wpU_casesT ?_ ?_ | refine wpU_casesF ?_ ?_
          all_goals intro hvc
          all_goals first | replace hvc := not_of_true hvc | replace hvc := not_of_false hvc | skip
          all_goals first | subst hvc | replace hvb := And.intro hvc hvb
          all_goals try simp only [hvb, e36, e35, c', go_sem, V.s.injEq, Value.bool.injEq, ↓reduceIte, Nat.reduceEqDiff, Nat.reduceBEq, Nat.reduceAdd, Nat.reduceSub, Nat.reduceLT, Nat.reduceLeDiff, Int.reduceLT, Int.reduceLE, Int.reduceEq, Int.reduceToNat, List.append_assoc, List.length_append, Vm.get_app, Vm.set_app, Vm.get_appL, Vm.get_appL0, Vm.set_appL, Vm.set_appL0, Nat.le_refl, Nat.le_add_right, okAt])
    · rintro e H _
      have hvb : (0 : Nat) = 0 := rfl
      try simp only [hkn, go_sem, V.s.injEq, Value.bool.injEq, ↓reduceIte, Nat.reduceEqDiff, Nat.reduceBEq, Nat.reduceAdd, Nat.reduceSub, Nat.reduceLT, Nat.reduceLeDiff, Int.reduceLT, Int.reduceLE, Int.reduceEq, Int.reduceToNat, List.append_assoc, List.length_append, Vm.get_app, Vm.set_app, Vm.get_appL, Vm.get_appL0, Vm.set_appL, Vm.set_appL0, Nat.le_refl, Nat.le_add_right, okAt]
      repeat' (
        first | refine wpC_cases ?_ ?_ | refine wpU_casesT ?_ ?_ | refine wpU_casesF ?_ ?_
        all_goals intro hvc
        all_goals first | replace hvc := not_of_true hvc | replace hvc := not_of_false hvc | skip
        all_goals first | subst hvc | replace hvb := And.intro hvc hvb
        all_goals try simp only [hvb, hkn, go_sem, V.s.injEq, Value.bool.injEq, ↓reduceIte, Nat.reduceEqDiff, Nat.reduceBEq, Nat.reduceAdd, Nat.reduceSub, Nat.reduceLT, Nat.reduceLeDiff, Int.reduceLT, Int.reduceLE, Int.reduceEq, Int.reduceToNat, List.append_assoc, List.length_append, Vm.get_app, Vm.set_app, Vm.get_appL, Vm.get_appL0, Vm.set_appL, Vm.set_appL0, Nat.le_refl, Nat.le_add_right, okAt])
end Go.Proofs.Ytdhgcdkinehomaa
