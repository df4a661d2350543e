/- PinTells: what the law runs. Conditions: none. -/
import Derived.Test.YtdhgcdkinehomaaCP6
import Derived.Test.YtdhgcdkinehomaaCMPW
namespace Go.Proofs.Ytdhgcdkinehomaa
open Go Go.Vm Go.Proofs Go.Cl
set_option linter.unusedSimpArgs false
set_option linter.unusedVariables false
set_option maxRecDepth 100000
def sgOf (s : Sign1) : Int :=
  if s.kind % 9 ≤ 2 then 48 + s.r % 10 else if s.kind % 9 = 3 then 65296 + s.r % 10 else if s.kind % 9 = 4 then 1632 + s.r % 10 else if s.kind % 9 = 5 then 1776 + s.r % 10 else if s.kind % 9 = 6 then 32 else if s.kind % 9 = 7 then 45 else s.r
def textL (l : List Sign1) : List Int := (l.take 20).map sgOf
theorem remK (kk : IntKind) (n m : Int) (hm : 0 < m) : (∀ cf base h, opV cf base h (.bin .num .rem) [.s (.int kk n), .s (.int kk m)] = some (.s (.int kk (n.tmod m)), h)) ∧ (∀ cf base h, opV cf base h (.bin .num .rem) [.s (.int kk (n.tmod m + m)), .s (.int kk m)] = some (.s (.int kk (n % m)), h)) ∧ -m < n.tmod m ∧ n.tmod m < m ∧ 0 ≤ n % m ∧ n % m < m := by
  obtain ⟨h1, h2, h3⟩ := tm n m hm
  exact ⟨fun cf base h => o_rem cf base h kk n m (by omega), fun cf base h => by rw [o_rem cf base h kk _ m (by omega), h1], h2, h3, Int.emod_nonneg n (by omega), Int.emod_lt_of_pos n hm⟩
theorem text_ok (b : Nat) (h : Hp) (l : List Sign1) (hl : l.length ≤ 140737488351232) : run fns pr b 32 [.imm false (some 100) (l.map Sign1.enc)] h = some (txt (encL (textL l)), h) := by
  refine Vm.runP (nt := 82) rfl fit32 (by simp) ?_
  have hvb : (0 : Nat) = 0 := rfl
  try simp only [B32, B32R0, B32L0, go_sem, V.s.injEq, Value.bool.injEq, ↓reduceIte, Nat.reduceEqDiff, Nat.reduceBEq, Nat.reduceAdd, Nat.reduceSub, Nat.reduceLT, Nat.reduceLeDiff, Int.reduceLT, Int.reduceLE, Int.reduceEq, Int.reduceToNat, List.append_assoc, List.length_append, Vm.get_app, Vm.set_app, Vm.get_appL, Vm.get_appL0, Vm.set_appL, Vm.set_appL0, Nat.le_refl, Nat.le_add_right, okAt]
  repeat' (
    first | refine wpC_cases ?_ ?_ | refine wpU_casesT ?_ ?_ | refine wpU_casesF ?_ ?_
    all_goals intro hvc
    all_goals first | replace hvc := not_of_true hvc | replace hvc := not_of_false hvc | skip
    all_goals first | subst hvc | replace hvb := And.intro hvc hvb
    all_goals try simp only [hvb, B32, B32R0, B32L0, go_sem, V.s.injEq, Value.bool.injEq, ↓reduceIte, Nat.reduceEqDiff, Nat.reduceBEq, Nat.reduceAdd, Nat.reduceSub, Nat.reduceLT, Nat.reduceLeDiff, Int.reduceLT, Int.reduceLE, Int.reduceEq, Int.reduceToNat, List.append_assoc, List.length_append, Vm.get_app, Vm.set_app, Vm.get_appL, Vm.get_appL0, Vm.set_appL, Vm.set_appL0, Nat.le_refl, Nat.le_add_right, okAt])
  refine wp_for (fun m e H => ∃ i k x, m = l.length - i ∧ i ≤ l.length ∧ i ≤ 20 ∧ e 4 = .s (.int .i64 (i : Nat)) ∧ e 3 = x ∧ e 0 = .imm false (some 100) (l.map Sign1.enc) ∧ XR H none k x (((l.take i).map sgOf).map runeV) ∧ Fw [] h H ∧ h.length ≤ k)
    (fun e H => ∃ k x, e 3 = x ∧ XR H none k x ((textL l).map runeV) ∧ Fw [] h H)
    l.length _ _ ⟨0, h.length, _, rfl, by omega, by omega, rfl, rfl, rfl, .inl ⟨rfl, rfl⟩, Fw.refl _ _, Nat.le_refl _⟩ ?_ ?_
  · rintro m e H ⟨i, k, x, rfl, hil, hi20, e4, e3, e0, xr, fw, hk⟩
    by_cases c : i < l.length ∧ i < 20
    · obtain ⟨c1, c2⟩ := c
      have c1' : (i : Int) < l.length := by omega
      have c2' : (i : Int) < 20 := by omega
      have hv : l[i]? = some l[i] := List.getElem?_eq_getElem c1
      have htk : (l.take (i + 1)).map sgOf = (l.take i).map sgOf ++ [sgOf l[i]] := by rw [List.take_add_one, hv, List.map_append]; rfl
      generalize l[i] = v at hv htk
      have hsr : SR H (.imm false (some 100) (l.map Sign1.enc)) (some 100) (l.map Sign1.enc) := .inl ⟨_, rfl⟩
      have hvm : (l.map Sign1.enc)[i]? = some (.st 100 [.s (.int .i64 v.kind), .s (.int .i32 v.r)]) := by rw [List.getElem?_map, hv]; rfl
      have hia := fun cf base => hsr.o_ias (cf := cf) (base := base) (k := .i64) (i := i) (by simpa using c1)
      obtain ⟨a1, a2, a3, a4, a5, a6⟩ := remK .i32 v.r 10 (by omega)
      obtain ⟨b1, b2, b3, b4, b5, b6⟩ := remK .i64 v.kind 9 (by omega)
      have wr : IntKind.i32.wrap (v.r.tmod 10 + 10) = v.r.tmod 10 + 10 := wrap_i32 (by omega) (by omega)
      have wk : IntKind.i64.wrap (v.kind.tmod 9 + 9) = v.kind.tmod 9 + 9 := wrap_i64 (by omega) (by omega)
      have f0 := fun cf base => hsr.o_fa (cf := cf) (base := base) (f := 0) hvm (by simp)
      have f1 := fun cf base => hsr.o_fa (cf := cf) (base := base) (f := 1) hvm (by simp)
      have g0 := fun cf base => hsr.o_ldf (cf := cf) (base := base) (f := 0) (g' := none) hvm rfl rfl
      have g1 := fun cf base => hsr.o_ldf (cf := cf) (base := base) (f := 1) (g' := none) hvm rfl rfl
      have hwr : IntKind.i64.wrap ((i : Int) + 1) = ((i + 1 : Nat) : Int) := wrap_small (by omega)
      have hlen : (((l.take i).map sgOf).map runeV).length = i := by simp; omega
      obtain ⟨x', H', k', hap, xr', fw', hk', _⟩ := xr.app1 (h := h) (T := [.cells none [runeV (sgOf v)]]) (idy := H.length) (z := runeV (sgOf v)) (bytes := 4) hk fw (get_app0 _ _) rfl (by rw [hlen]; omega)
      have fin : ∃ m, m < l.length - i ∧ ∃ j k x, m = l.length - j ∧ j ≤ l.length ∧ j ≤ 20 ∧ Value.int .i64 ((i + 1 : Nat) : Int) = Value.int .i64 (j : Nat) ∧ x' = x ∧ XR H' none k x (((l.take j).map sgOf).map runeV) ∧ Fw [] h H' ∧ h.length ≤ k :=
        ⟨l.length - (i + 1), by omega, i + 1, k', x', rfl, by omega, by omega, rfl, rfl, by rw [htk, List.map_append]; exact xr', fw', by
          have := fw.len
          simp only [List.length_cons, List.length_nil] at hk'
          omega⟩
      simp only [runeV] at hap
      unfold sgOf at hap
      have hw48 : IntKind.i32.wrap (48 + v.r % 10) = 48 + v.r % 10 := wrap_i32 (by omega) (by omega)
      have hw3 : IntKind.i32.wrap (65296 + v.r % 10) = 65296 + v.r % 10 := wrap_i32 (by omega) (by omega)
      have hw4 : IntKind.i32.wrap (1632 + v.r % 10) = 1632 + v.r % 10 := wrap_i32 (by omega) (by omega)
      have hw5 : IntKind.i32.wrap (1776 + v.r % 10) = 1776 + v.r % 10 := wrap_i32 (by omega) (by omega)
      generalize v.kind % 9 = K at hap b2 b5 b6
      have hK : K = 0 ∨ K = 1 ∨ K = 2 ∨ K = 3 ∨ K = 4 ∨ K = 5 ∨ K = 6 ∨ K = 7 ∨ K = 8 := by omega
      clear hsr hvm htk xr' fw' hk' b5 b6
      rcases hK with rfl | rfl | rfl | rfl | rfl | rfl | rfl | rfl | rfl
      all_goals simp only [Int.reduceLE, Int.reduceEq, if_true, if_false] at hap
      all_goals
        have hvb : (0 : Nat) = 0 := rfl
        try simp only [e4, e3, e0, c1', c2', hia, f0, f1, g0, g1, a1, a2, b1, b2, wr, wk, hwr, hw48, hw3, hw4, hw5, hap, go_sem, V.s.injEq, Value.bool.injEq, ↓reduceIte, Nat.reduceEqDiff, Nat.reduceBEq, Nat.reduceAdd, Nat.reduceSub, Nat.reduceLT, Nat.reduceLeDiff, Int.reduceLT, Int.reduceLE, Int.reduceEq, Int.reduceToNat, List.append_assoc, List.length_append, Vm.get_app, Vm.set_app, Vm.get_appL, Vm.get_appL0, Vm.set_appL, Vm.set_appL0, Nat.le_refl, Nat.le_add_right, okAt]
        repeat' (
          first | refine wpC_cases ?_ ?_ | refine wpU_casesT ?_ ?_ | refine wpU_casesF ?_ ?_
          all_goals intro hvc
          all_goals first | replace hvc := not_of_true hvc | replace hvc := not_of_false hvc | skip
          all_goals first | subst hvc | replace hvb := And.intro hvc hvb
          all_goals try simp only [hvb, e4, e3, e0, c1', c2', hia, f0, f1, g0, g1, a1, a2, b1, b2, wr, wk, hwr, hw48, hw3, hw4, hw5, hap, go_sem, V.s.injEq, Value.bool.injEq, ↓reduceIte, Nat.reduceEqDiff, Nat.reduceBEq, Nat.reduceAdd, Nat.reduceSub, Nat.reduceLT, Nat.reduceLeDiff, Int.reduceLT, Int.reduceLE, Int.reduceEq, Int.reduceToNat, List.append_assoc, List.length_append, Vm.get_app, Vm.set_app, Vm.get_appL, Vm.get_appL0, Vm.set_appL, Vm.set_appL0, Nat.le_refl, Nat.le_add_right, okAt])
      all_goals exact fin
    · have hti : (l.take i) = l.take 20 := by
        by_cases c1 : i < l.length
        · have : i = 20 := by omega
          rw [this]
        · rw [List.take_of_length_le (by omega), List.take_of_length_le (by omega)]
      rw [hti] at xr
      by_cases c1 : (i : Int) < l.length
      · have c2 : ¬ (i : Int) < 20 := by omega
        have hvb : (0 : Nat) = 0 := rfl
        try simp only [e4, e3, e0, c1, c2, go_sem, V.s.injEq, Value.bool.injEq, ↓reduceIte, Nat.reduceEqDiff, Nat.reduceBEq, Nat.reduceAdd, Nat.reduceSub, Nat.reduceLT, Nat.reduceLeDiff, Int.reduceLT, Int.reduceLE, Int.reduceEq, Int.reduceToNat, List.append_assoc, List.length_append, Vm.get_app, Vm.set_app, Vm.get_appL, Vm.get_appL0, Vm.set_appL, Vm.set_appL0, Nat.le_refl, Nat.le_add_right, okAt]
        repeat' (
          first | refine wpC_cases ?_ ?_ | refine wpU_casesT ?_ ?_ | refine wpU_casesF ?_ ?_
          all_goals intro hvc
          all_goals first | replace hvc := not_of_true hvc | replace hvc := not_of_false hvc | skip
          all_goals first | subst hvc | replace hvb := And.intro hvc hvb
          all_goals try simp only [hvb, e4, e3, e0, c1, c2, go_sem, V.s.injEq, Value.bool.injEq, ↓reduceIte, Nat.reduceEqDiff, Nat.reduceBEq, Nat.reduceAdd, Nat.reduceSub, Nat.reduceLT, Nat.reduceLeDiff, Int.reduceLT, Int.reduceLE, Int.reduceEq, Int.reduceToNat, List.append_assoc, List.length_append, Vm.get_app, Vm.set_app, Vm.get_appL, Vm.get_appL0, Vm.set_appL, Vm.set_appL0, Nat.le_refl, Nat.le_add_right, okAt])
        all_goals exact ⟨k, x, rfl, xr, fw⟩
      · have hvb : (0 : Nat) = 0 := rfl
        try simp only [e4, e3, e0, c1, go_sem, V.s.injEq, Value.bool.injEq, ↓reduceIte, Nat.reduceEqDiff, Nat.reduceBEq, Nat.reduceAdd, Nat.reduceSub, Nat.reduceLT, Nat.reduceLeDiff, Int.reduceLT, Int.reduceLE, Int.reduceEq, Int.reduceToNat, List.append_assoc, List.length_append, Vm.get_app, Vm.set_app, Vm.get_appL, Vm.get_appL0, Vm.set_appL, Vm.set_appL0, Nat.le_refl, Nat.le_add_right, okAt]
        repeat' (
          first | refine wpC_cases ?_ ?_ | refine wpU_casesT ?_ ?_ | refine wpU_casesF ?_ ?_
          all_goals intro hvc
          all_goals first | replace hvc := not_of_true hvc | replace hvc := not_of_false hvc | skip
          all_goals first | subst hvc | replace hvb := And.intro hvc hvb
          all_goals try simp only [hvb, e4, e3, e0, c1, go_sem, V.s.injEq, Value.bool.injEq, ↓reduceIte, Nat.reduceEqDiff, Nat.reduceBEq, Nat.reduceAdd, Nat.reduceSub, Nat.reduceLT, Nat.reduceLeDiff, Int.reduceLT, Int.reduceLE, Int.reduceEq, Int.reduceToNat, List.append_assoc, List.length_append, Vm.get_app, Vm.set_app, Vm.get_appL, Vm.get_appL0, Vm.set_appL, Vm.set_appL0, Nat.le_refl, Nat.le_add_right, okAt])
        all_goals exact ⟨k, x, rfl, xr, fw⟩
  · rintro e H ⟨k, x, e3, xr, fw⟩
    have htk := fw.take
    have hry : ∀ cf base, opV cf base H (.r2s false) [x] = some (.s (.string ⟨(encL (textL l)).toArray⟩), H) := fun cf base => o_r2sE xr.els
    have hvb : (0 : Nat) = 0 := rfl
    try simp only [e3, hry, htk, go_sem, V.s.injEq, Value.bool.injEq, ↓reduceIte, Nat.reduceEqDiff, Nat.reduceBEq, Nat.reduceAdd, Nat.reduceSub, Nat.reduceLT, Nat.reduceLeDiff, Int.reduceLT, Int.reduceLE, Int.reduceEq, Int.reduceToNat, List.append_assoc, List.length_append, Vm.get_app, Vm.set_app, Vm.get_appL, Vm.get_appL0, Vm.set_appL, Vm.set_appL0, Nat.le_refl, Nat.le_add_right, okAt]
    repeat' (
      first | refine wpC_cases ?_ ?_ | refine wpU_casesT ?_ ?_ | refine wpU_casesF ?_ ?_
      all_goals intro hvc
      all_goals first | replace hvc := not_of_true hvc | replace hvc := not_of_false hvc | skip
      all_goals first | subst hvc | replace hvb := And.intro hvc hvb
      all_goals try simp only [hvb, e3, hry, htk, go_sem, V.s.injEq, Value.bool.injEq, ↓reduceIte, Nat.reduceEqDiff, Nat.reduceBEq, Nat.reduceAdd, Nat.reduceSub, Nat.reduceLT, Nat.reduceLeDiff, Int.reduceLT, Int.reduceLE, Int.reduceEq, Int.reduceToNat, List.append_assoc, List.length_append, Vm.get_app, Vm.set_app, Vm.get_appL, Vm.get_appL0, Vm.set_appL, Vm.set_appL0, Nat.le_refl, Nat.le_add_right, okAt])
    all_goals rfl
theorem textL_len (l : List Sign1) : (encL (textL l)).length ≤ 80 := by
  have := encL_len (textL l)
  have h2 : (textL l).length ≤ 20 := by simp [textL]; omega
  omega
theorem PinTells_run (a0 : ByteArray) (a1 : List Sign1) (ha : a1.length ≤ 140737488351232) : run fns pr 0 10 [.s (.string a0), .imm false (some 100) (a1.map Sign1.enc)] [] = some (.s (.bool true), []) := by
  obtain ⟨l, rfl⟩ : ∃ l : Bs, a0 = ⟨l.toArray⟩ := ⟨a0.data.toList, by simp⟩
  have hkn := fun b h => known_ok b h
  obtain ⟨L, hL⟩ : ∃ L, l.take 60 = L := ⟨_, rfl⟩
  have hL60 : L.length ≤ 60 := by rw [← hL, List.length_take]; omega
  have ht := textL_len a1
  have h1 := fun b h => same_ok b h L (by omega)
  have h2 := fun b h => text_ok b h a1 ha
  have h3 := fun b h => same_ok b h (encL (textL a1)) (by omega)
  have h4 := fun b h => same_ok b h (L ++ encL (textL a1)) (by rw [List.length_append]; omega)
  have had := fun cf base h => o_saddT (cf := cf) (base := base) (h := h) L (encL (textL a1)) (by omega)
  simp only [txt] at h1 h2 h3 h4
  have hsz : ((List.toArray l).size : Int) = l.length := rfl
  refine Vm.runP (nt := 27) rfl fit10 (by simp) ?_
  by_cases c : (60 : Int) < l.length
  · have hsl := fun cf base h => o_slsT (cf := cf) (base := base) (h := h) (k := .i64) (l := l) (n := 60) (by omega)
    rw [hL] at hsl
    have hsl : ∀ cf base h, opV cf base h (.sls false true) [.s (.string ⟨l.toArray⟩), .s (.int .i64 60)] = some (.s (.string ⟨L.toArray⟩), h) := hsl
    have hvb : (0 : Nat) = 0 := rfl
    try simp only [B10, hsz, c, hsl, h1, h2, h3, h4, had, hkn, go_sem, V.s.injEq, Value.bool.injEq, ↓reduceIte, Nat.reduceEqDiff, Nat.reduceBEq, Nat.reduceAdd, Nat.reduceSub, Nat.reduceLT, Nat.reduceLeDiff, Int.reduceLT, Int.reduceLE, Int.reduceEq, Int.reduceToNat, List.append_assoc, List.length_append, Vm.get_app, Vm.set_app, Vm.get_appL, Vm.get_appL0, Vm.set_appL, Vm.set_appL0, Nat.le_refl, Nat.le_add_right, okAt]
    repeat' (
      first | refine wpC_cases ?_ ?_ | refine wpU_casesT ?_ ?_ | refine wpU_casesF ?_ ?_
      all_goals intro hvc
      all_goals first | replace hvc := not_of_true hvc | replace hvc := not_of_false hvc | skip
      all_goals first | subst hvc | replace hvb := And.intro hvc hvb
      all_goals try simp only [hvb, B10, hsz, c, hsl, h1, h2, h3, h4, had, hkn, go_sem, V.s.injEq, Value.bool.injEq, ↓reduceIte, Nat.reduceEqDiff, Nat.reduceBEq, Nat.reduceAdd, Nat.reduceSub, Nat.reduceLT, Nat.reduceLeDiff, Int.reduceLT, Int.reduceLE, Int.reduceEq, Int.reduceToNat, List.append_assoc, List.length_append, Vm.get_app, Vm.set_app, Vm.get_appL, Vm.get_appL0, Vm.set_appL, Vm.set_appL0, Nat.le_refl, Nat.le_add_right, okAt])
  · have : L = l := by rw [← hL, List.take_of_length_le (by omega)]
    subst this
    have hvb : (0 : Nat) = 0 := rfl
    try simp only [B10, hsz, c, h1, h2, h3, h4, had, hkn, go_sem, V.s.injEq, Value.bool.injEq, ↓reduceIte, Nat.reduceEqDiff, Nat.reduceBEq, Nat.reduceAdd, Nat.reduceSub, Nat.reduceLT, Nat.reduceLeDiff, Int.reduceLT, Int.reduceLE, Int.reduceEq, Int.reduceToNat, List.append_assoc, List.length_append, Vm.get_app, Vm.set_app, Vm.get_appL, Vm.get_appL0, Vm.set_appL, Vm.set_appL0, Nat.le_refl, Nat.le_add_right, okAt]
    repeat' (
      first | refine wpC_cases ?_ ?_ | refine wpU_casesT ?_ ?_ | refine wpU_casesF ?_ ?_
      all_goals intro hvc
      all_goals first | replace hvc := not_of_true hvc | replace hvc := not_of_false hvc | skip
      all_goals first | subst hvc | replace hvb := And.intro hvc hvb
      all_goals try simp only [hvb, B10, hsz, c, h1, h2, h3, h4, had, hkn, go_sem, V.s.injEq, Value.bool.injEq, ↓reduceIte, Nat.reduceEqDiff, Nat.reduceBEq, Nat.reduceAdd, Nat.reduceSub, Nat.reduceLT, Nat.reduceLeDiff, Int.reduceLT, Int.reduceLE, Int.reduceEq, Int.reduceToNat, List.append_assoc, List.length_append, Vm.get_app, Vm.set_app, Vm.get_appL, Vm.get_appL0, Vm.set_appL, Vm.set_appL0, Nat.le_refl, Nat.le_add_right, okAt])
end Go.Proofs.Ytdhgcdkinehomaa
