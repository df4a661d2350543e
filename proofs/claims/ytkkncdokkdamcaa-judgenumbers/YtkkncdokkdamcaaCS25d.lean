/- Replies are counted as the document counts. Conditions: none. -/
import Derived.Test.YtkkncdokkdamcaaCS25c
namespace Go.Proofs.Ytkkncdokkdamcaa
open Go Go.Vm Go.Proofs Go.Cl
set_option linter.unusedSimpArgs false
set_option linter.unusedVariables false
set_option maxRecDepth 100000
theorem replies_ok (b : Nat) (h : Hp) (x : V) (l : List Reply) (hx : SR h x (some 39) (l.map Reply.enc)) (hl : l.length ≤ 1000000) :
    run fns pr b 25 [x] h = some (.s (.bool true), h) := by
  refine Vm.runP (nt := 125) rfl fit25 (by simp) ?_
  have hlx := fun cf base h0 => hx.o_len (cf := cf) (base := base) (h := h0)
  simp only [List.length_map] at hlx
  have hvb : (0 : Nat) = 0 := rfl
  try simp only [B25, B25R0, B25L0, B25R2, B25L2, go_sem, V.s.injEq, Value.bool.injEq, ↓reduceIte, Nat.reduceEqDiff, Nat.reduceBEq, Nat.reduceAdd, Nat.reduceSub, Nat.reduceLT, Nat.reduceLeDiff, Int.reduceLT, Int.reduceLE, Int.reduceEq, Int.reduceToNat, List.append_assoc, List.length_append, Vm.get_app, Vm.set_app, Vm.get_appL, Vm.get_appL0, Vm.set_appL, Vm.set_appL0, Nat.le_refl, Nat.le_add_right, okAt]
  repeat' (
    first | refine wpC_cases ?_ ?_ | refine wpU_casesT ?_ ?_ | refine wpU_casesF ?_ ?_
    all_goals intro hvc
    all_goals first | replace hvc := not_of_true hvc | replace hvc := not_of_false hvc | skip
    all_goals first | subst hvc | replace hvb := And.intro hvc hvb
    all_goals try simp only [hvb, B25, B25R0, B25L0, B25R2, B25L2, go_sem, V.s.injEq, Value.bool.injEq, ↓reduceIte, Nat.reduceEqDiff, Nat.reduceBEq, Nat.reduceAdd, Nat.reduceSub, Nat.reduceLT, Nat.reduceLeDiff, Int.reduceLT, Int.reduceLE, Int.reduceEq, Int.reduceToNat, List.append_assoc, List.length_append, Vm.get_app, Vm.set_app, Vm.get_appL, Vm.get_appL0, Vm.set_appL, Vm.set_appL0, Nat.le_refl, Nat.le_add_right, okAt])
  refine wp_for (fun n e H => ∃ i, n = l.length - i ∧ i ≤ l.length ∧ e 0 = x ∧ e 4 = .s (.int .i64 (i : Nat)) ∧ e 3 = .s (.bool (aftI l i)) ∧ H = h)
    (fun e H => e 0 = x ∧ e 3 = .s (.bool (aftI l l.length)) ∧ H = h)
    l.length _ _ ⟨0, rfl, by omega, rfl, rfl, rfl, rfl⟩ ?_ ?_
  · rintro n e H ⟨i, rfl, hi, e0, e4, e3, rfl⟩
    by_cases c : i < l.length
    · have c' : (i : Int) < l.length := by omega
      have hv : l[i]? = some l[i] := List.getElem?_eq_getElem c
      have hd : l.getD i default = l[i] := by rw [List.getD_eq_getElem?_getD, hv]; rfl
      have hai : aftI l (i + 1) = aftK l (aftI l i) i l[i] l.length := by rw [← hd]; rfl
      obtain ⟨a, ha⟩ : ∃ a, l[i] = a := ⟨_, rfl⟩
      rw [ha] at hv hai
      have hve : (l.map Reply.enc)[i]? = some a.enc := by rw [List.getElem?_map, hv]; rfl
      rw [fldR] at hve
      have jia := fun cf base => hx.o_ias (cf := cf) (base := base) (k := .i64) (i := i) (by simpa using c)
      have jfa := fun cf base f hf => hx.o_fa (cf := cf) (base := base) (f := f) hve hf
      simp only [List.length_cons, List.length_nil] at jfa
      have jl0 := fun cf base => hx.o_ldf (cf := cf) (base := base) (f := 0) (g' := none) hve rfl rfl
      have jl1 := fun cf base => hx.o_ldf (cf := cf) (base := base) (f := 1) (g' := some 26) hve rfl rfl
      have jl2 := fun cf base => hx.o_ldf (cf := cf) (base := base) (f := 2) (g' := none) hve rfl rfl
      have jl3 := fun cf base => hx.o_ldf (cf := cf) (base := base) (f := 3) (g' := none) hve rfl rfl
      have hW := fun h0 (hh : SR h0 x (some 39) (l.map Reply.enc)) => Wrongs_ok H.length h0 x l a.iD a.gen hh hl
      have hT := fun h0 (hh : SR h0 x (some 39) (l.map Reply.enc)) => Told_ok H.length h0 x l a.iD a.gen hh hl
      have hW := hW H hx
      have hT := hT H hx
      have hwr : IntKind.i64.wrap ((i : Int) + 1) = ((i + 1 : Nat) : Int) := wrap_small (by omega)
      have hvb : (0 : Nat) = 0 := rfl
      try simp only [e0, e4, e3, c', hlx, go_sem, V.s.injEq, Value.bool.injEq, ↓reduceIte, Nat.reduceEqDiff, Nat.reduceBEq, Nat.reduceAdd, Nat.reduceSub, Nat.reduceLT, Nat.reduceLeDiff, Int.reduceLT, Int.reduceLE, Int.reduceEq, Int.reduceToNat, List.append_assoc, List.length_append, Vm.get_app, Vm.set_app, Vm.get_appL, Vm.get_appL0, Vm.set_appL, Vm.set_appL0, Nat.le_refl, Nat.le_add_right, okAt]
      repeat' (
        first | refine wpC_cases ?_ ?_ | refine wpU_casesT ?_ ?_ | refine wpU_casesF ?_ ?_
        all_goals intro hvc
        all_goals first | replace hvc := not_of_true hvc | replace hvc := not_of_false hvc | skip
        all_goals first | subst hvc | replace hvb := And.intro hvc hvb
        all_goals try simp only [hvb, e0, e4, e3, c', hlx, go_sem, V.s.injEq, Value.bool.injEq, ↓reduceIte, Nat.reduceEqDiff, Nat.reduceBEq, Nat.reduceAdd, Nat.reduceSub, Nat.reduceLT, Nat.reduceLeDiff, Int.reduceLT, Int.reduceLE, Int.reduceEq, Int.reduceToNat, List.append_assoc, List.length_append, Vm.get_app, Vm.set_app, Vm.get_appL, Vm.get_appL0, Vm.set_appL, Vm.set_appL0, Nat.le_refl, Nat.le_add_right, okAt])
      refine wp_for (fun n e H' => ∃ k, n = l.length - k ∧ k ≤ l.length ∧ e 0 = x ∧ e 4 = .s (.int .i64 (i : Nat)) ∧ e 7 = .s (.int .i64 (k : Nat)) ∧ e 5 = .s (.int .i64 (cntP (wrongP a.iD a.gen) l k : Nat)) ∧ e 6 = .s (.int .i64 (cntP (toldP a.iD a.gen) l k : Nat)) ∧ e 3 = .s (.bool (aftK l (aftI l i) i a k)) ∧ H' = H)
        (fun e H' => e 0 = x ∧ e 4 = .s (.int .i64 (i : Nat)) ∧ e 5 = .s (.int .i64 (wrongs a.iD a.gen l : Nat)) ∧ e 6 = .s (.int .i64 (told a.iD a.gen l : Nat)) ∧ e 3 = .s (.bool (aftI l (i + 1))) ∧ H' = H)
        l.length _ _ ⟨0, rfl, by omega, e0, e4, rfl, rfl, rfl, e3, rfl⟩ ?_ ?_
      · clear e0 e4 e3
        rintro n e H' ⟨k, rfl, hk, e0, e4, e7, e5, e6, e3, rfl⟩
        by_cases d : k < l.length
        · have d' : (k : Int) < l.length := by omega
          have hw : l[k]? = some l[k] := List.getElem?_eq_getElem d
          have hcw := cntP_succ (wrongP a.iD a.gen) hw
          have hct := cntP_succ (toldP a.iD a.gen) hw
          have hlw := cntP_le (wrongP a.iD a.gen) l k
          have hlt := cntP_le (toldP a.iD a.gen) l k
          have hak : aftK l (aftI l i) i a (k + 1) = (aftK l (aftI l i) i a k || hitB i k a l[k]) := by rw [aftK, hw]; rfl
          obtain ⟨r, hr⟩ : ∃ r, l[k] = r := ⟨_, rfl⟩
          simp only [hr] at hw hcw hct hak
          have hwe : (l.map Reply.enc)[k]? = some r.enc := by rw [List.getElem?_map, hw]; rfl
          rw [fldR] at hwe
          have kia := fun cf base => hx.o_ias (cf := cf) (base := base) (k := .i64) (i := k) (by simpa using d)
          have kfa := fun cf base f hf => hx.o_fa (cf := cf) (base := base) (f := f) hwe hf
          simp only [List.length_cons, List.length_nil] at kfa
          have kl0 := fun cf base => hx.o_ldf (cf := cf) (base := base) (f := 0) (g' := none) hwe rfl rfl
          have kl1 := fun cf base => hx.o_ldf (cf := cf) (base := base) (f := 1) (g' := some 26) hwe rfl rfl
          have kl2 := fun cf base => hx.o_ldf (cf := cf) (base := base) (f := 2) (g' := none) hwe rfl rfl
          have kl4 := fun cf base => hx.o_ldf (cf := cf) (base := base) (f := 4) (g' := none) hwe rfl rfl
          have hwk : IntKind.i64.wrap ((k : Int) + 1) = ((k + 1 : Nat) : Int) := wrap_small (by omega)
          have hw5 : IntKind.i64.wrap ((cntP (wrongP a.iD a.gen) l k : Int) + 1) = ((cntP (wrongP a.iD a.gen) l k + 1 : Nat) : Int) := wrap_small (by omega)
          have hw6 : IntKind.i64.wrap ((cntP (toldP a.iD a.gen) l k : Int) + 1) = ((cntP (toldP a.iD a.gen) l k + 1 : Nat) : Int) := wrap_small (by omega)
          have hz : ((0 : Int) < (r.secret.length : Int)) = (0 < r.secret.length) := propext (by omega)
          have hik : ((i : Int) < (k : Int)) = (i < k) := propext (by omega)
          have hend : ∀ (w t : Nat) (A : Bool), cntP (wrongP a.iD a.gen) l (k + 1) = w → cntP (toldP a.iD a.gen) l (k + 1) = t → aftK l (aftI l i) i a (k + 1) = A → ∃ n, n < l.length - k ∧ ∃ k', n = l.length - k' ∧ k' ≤ l.length ∧ Value.int IntKind.i64 ((k + 1 : Nat) : Int) = Value.int IntKind.i64 (k' : Int) ∧ Value.int IntKind.i64 (w : Int) = Value.int IntKind.i64 (cntP (wrongP a.iD a.gen) l k' : Nat) ∧ Value.int IntKind.i64 (t : Int) = Value.int IntKind.i64 (cntP (toldP a.iD a.gen) l k' : Nat) ∧ A = aftK l (aftI l i) i a k' :=
            fun w t A h1 h2 h3 => ⟨l.length - (k + 1), by omega, k + 1, rfl, by omega, rfl, by rw [h1], by rw [h2], by rw [h3]⟩
          simp only [wrongP] at hcw
          simp only [toldP] at hct
          simp only [hitB] at hak
          have hof : ofB r a.iD a.gen = (decide (r.iD = a.iD) && decide (r.gen = a.gen)) := rfl
          have hte : tellsB r = (decide (r.why = 0) && decide (0 < r.secret.length)) := rfl
          simp only [hof] at hcw hct hak
          simp only [hte] at hct hak
          generalize cntP (wrongP a.iD a.gen) l k = w0 at *
          generalize cntP (toldP a.iD a.gen) l k = t0 at *
          generalize aftK l (aftI l i) i a k = A0 at *
          have hvb : (0 : Nat) = 0 := rfl
          try simp only [e0, e4, e7, e5, e6, e3, d', hlx, jia, jfa, jl0, jl1, jl2, jl3, kia, kfa, kl0, kl1, kl2, kl4, o_eqaB, hwk, hw5, hw6, hz, hik, List.length_map, go_sem, V.s.injEq, Value.bool.injEq, ↓reduceIte, Nat.reduceEqDiff, Nat.reduceBEq, Nat.reduceAdd, Nat.reduceSub, Nat.reduceLT, Nat.reduceLeDiff, Int.reduceLT, Int.reduceLE, Int.reduceEq, Int.reduceToNat, List.append_assoc, List.length_append, Vm.get_app, Vm.set_app, Vm.get_appL, Vm.get_appL0, Vm.set_appL, Vm.set_appL0, Nat.le_refl, Nat.le_add_right, okAt]
          repeat' (
            first | refine wpC_cases ?_ ?_ | refine wpU_casesT ?_ ?_ | refine wpU_casesF ?_ ?_
            all_goals intro hvc
            all_goals first | replace hvc := not_of_true hvc | replace hvc := not_of_false hvc | skip
            all_goals first | subst hvc | replace hvb := And.intro hvc hvb
            all_goals try simp only [hvb, e0, e4, e7, e5, e6, e3, d', hlx, jia, jfa, jl0, jl1, jl2, jl3, kia, kfa, kl0, kl1, kl2, kl4, o_eqaB, hwk, hw5, hw6, hz, hik, List.length_map, go_sem, V.s.injEq, Value.bool.injEq, ↓reduceIte, Nat.reduceEqDiff, Nat.reduceBEq, Nat.reduceAdd, Nat.reduceSub, Nat.reduceLT, Nat.reduceLeDiff, Int.reduceLT, Int.reduceLE, Int.reduceEq, Int.reduceToNat, List.append_assoc, List.length_append, Vm.get_app, Vm.set_app, Vm.get_appL, Vm.get_appL0, Vm.set_appL, Vm.set_appL0, Nat.le_refl, Nat.le_add_right, okAt])
          all_goals refine hend _ _ _ ?_ ?_ ?_
          all_goals simp only [hcw, hct, hak]
          all_goals clear hcw hct hak hend hve hwe jia jfa jl0 jl1 jl2 jl3 kia kfa kl0 kl1 kl2 kl4 hlx hW hT hx
          all_goals simp [hvb]
        · have d' : ¬ (k : Int) < l.length := by omega
          have : k = l.length := by omega
          subst this
          rw [cntP_all] at e5 e6
          have hvb : (0 : Nat) = 0 := rfl
          try simp only [e0, e4, e7, e5, e6, e3, d', hlx, go_sem, V.s.injEq, Value.bool.injEq, ↓reduceIte, Nat.reduceEqDiff, Nat.reduceBEq, Nat.reduceAdd, Nat.reduceSub, Nat.reduceLT, Nat.reduceLeDiff, Int.reduceLT, Int.reduceLE, Int.reduceEq, Int.reduceToNat, List.append_assoc, List.length_append, Vm.get_app, Vm.set_app, Vm.get_appL, Vm.get_appL0, Vm.set_appL, Vm.set_appL0, Nat.le_refl, Nat.le_add_right, okAt]
          repeat' (
            first | refine wpC_cases ?_ ?_ | refine wpU_casesT ?_ ?_ | refine wpU_casesF ?_ ?_
            all_goals intro hvc
            all_goals first | replace hvc := not_of_true hvc | replace hvc := not_of_false hvc | skip
            all_goals first | subst hvc | replace hvb := And.intro hvc hvb
            all_goals try simp only [hvb, e0, e4, e7, e5, e6, e3, d', hlx, go_sem, V.s.injEq, Value.bool.injEq, ↓reduceIte, Nat.reduceEqDiff, Nat.reduceBEq, Nat.reduceAdd, Nat.reduceSub, Nat.reduceLT, Nat.reduceLeDiff, Int.reduceLT, Int.reduceLE, Int.reduceEq, Int.reduceToNat, List.append_assoc, List.length_append, Vm.get_app, Vm.set_app, Vm.get_appL, Vm.get_appL0, Vm.set_appL, Vm.set_appL0, Nat.le_refl, Nat.le_add_right, okAt])
          all_goals exact ⟨by rfl, by rfl, hai.symm⟩
      · clear e0 e4 e3
        rintro e H' ⟨e0, e4, e5, e6, e3, rfl⟩
        have hvb : (0 : Nat) = 0 := rfl
        try simp only [e0, e4, e5, e6, e3, jia, jfa, jl1, jl2, hW, hT, hwr, go_sem, V.s.injEq, Value.bool.injEq, ↓reduceIte, Nat.reduceEqDiff, Nat.reduceBEq, Nat.reduceAdd, Nat.reduceSub, Nat.reduceLT, Nat.reduceLeDiff, Int.reduceLT, Int.reduceLE, Int.reduceEq, Int.reduceToNat, List.append_assoc, List.length_append, Vm.get_app, Vm.set_app, Vm.get_appL, Vm.get_appL0, Vm.set_appL, Vm.set_appL0, Nat.le_refl, Nat.le_add_right, okAt]
        repeat' (
          first | refine wpC_cases ?_ ?_ | refine wpU_casesT ?_ ?_ | refine wpU_casesF ?_ ?_
          all_goals intro hvc
          all_goals first | replace hvc := not_of_true hvc | replace hvc := not_of_false hvc | skip
          all_goals first | subst hvc | replace hvb := And.intro hvc hvb
          all_goals try simp only [hvb, e0, e4, e5, e6, e3, jia, jfa, jl1, jl2, hW, hT, hwr, go_sem, V.s.injEq, Value.bool.injEq, ↓reduceIte, Nat.reduceEqDiff, Nat.reduceBEq, Nat.reduceAdd, Nat.reduceSub, Nat.reduceLT, Nat.reduceLeDiff, Int.reduceLT, Int.reduceLE, Int.reduceEq, Int.reduceToNat, List.append_assoc, List.length_append, Vm.get_app, Vm.set_app, Vm.get_appL, Vm.get_appL0, Vm.set_appL, Vm.set_appL0, Nat.le_refl, Nat.le_add_right, okAt])
        all_goals exact ⟨l.length - (i + 1), by omega, i + 1, rfl, by omega, rfl, rfl⟩
    · have c' : ¬ (i : Int) < l.length := by omega
      have : i = l.length := by omega
      subst this
      have hvb : (0 : Nat) = 0 := rfl
      try simp only [e0, e4, e3, c', hlx, go_sem, V.s.injEq, Value.bool.injEq, ↓reduceIte, Nat.reduceEqDiff, Nat.reduceBEq, Nat.reduceAdd, Nat.reduceSub, Nat.reduceLT, Nat.reduceLeDiff, Int.reduceLT, Int.reduceLE, Int.reduceEq, Int.reduceToNat, List.append_assoc, List.length_append, Vm.get_app, Vm.set_app, Vm.get_appL, Vm.get_appL0, Vm.set_appL, Vm.set_appL0, Nat.le_refl, Nat.le_add_right, okAt]
      repeat' (
        first | refine wpC_cases ?_ ?_ | refine wpU_casesT ?_ ?_ | refine wpU_casesF ?_ ?_
        all_goals intro hvc
        all_goals first | replace hvc := not_of_true hvc | replace hvc := not_of_false hvc | skip
        all_goals first | subst hvc | replace hvb := And.intro hvc hvb
        all_goals try simp only [hvb, e0, e4, e3, c', hlx, go_sem, V.s.injEq, Value.bool.injEq, ↓reduceIte, Nat.reduceEqDiff, Nat.reduceBEq, Nat.reduceAdd, Nat.reduceSub, Nat.reduceLT, Nat.reduceLeDiff, Int.reduceLT, Int.reduceLE, Int.reduceEq, Int.reduceToNat, List.append_assoc, List.length_append, Vm.get_app, Vm.set_app, Vm.get_appL, Vm.get_appL0, Vm.set_appL, Vm.set_appL0, Nat.le_refl, Nat.le_add_right, okAt])
  · rintro e H ⟨e0, e3, rfl⟩
    have haf := After_ok H.length H x l hx hl
    rw [aft_all] at e3
    have hvb : (0 : Nat) = 0 := rfl
    try simp only [e0, e3, haf, go_sem, V.s.injEq, Value.bool.injEq, ↓reduceIte, Nat.reduceEqDiff, Nat.reduceBEq, Nat.reduceAdd, Nat.reduceSub, Nat.reduceLT, Nat.reduceLeDiff, Int.reduceLT, Int.reduceLE, Int.reduceEq, Int.reduceToNat, List.append_assoc, List.length_append, Vm.get_app, Vm.set_app, Vm.get_appL, Vm.get_appL0, Vm.set_appL, Vm.set_appL0, Nat.le_refl, Nat.le_add_right, okAt]
    repeat' (
      first | refine wpC_cases ?_ ?_ | refine wpU_casesT ?_ ?_ | refine wpU_casesF ?_ ?_
      all_goals intro hvc
      all_goals first | replace hvc := not_of_true hvc | replace hvc := not_of_false hvc | skip
      all_goals first | subst hvc | replace hvb := And.intro hvc hvb
      all_goals try simp only [hvb, e0, e3, haf, go_sem, V.s.injEq, Value.bool.injEq, ↓reduceIte, Nat.reduceEqDiff, Nat.reduceBEq, Nat.reduceAdd, Nat.reduceSub, Nat.reduceLT, Nat.reduceLeDiff, Int.reduceLT, Int.reduceLE, Int.reduceEq, Int.reduceToNat, List.append_assoc, List.length_append, Vm.get_app, Vm.set_app, Vm.get_appL, Vm.get_appL0, Vm.set_appL, Vm.set_appL0, Nat.le_refl, Nat.le_add_right, okAt])
end Go.Proofs.Ytkkncdokkdamcaa
