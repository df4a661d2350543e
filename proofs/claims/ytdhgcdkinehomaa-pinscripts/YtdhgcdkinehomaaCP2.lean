/- What a person types: what the small functions compute, more. Conditions: none. -/
import Derived.Test.YtdhgcdkinehomaaCP1
namespace Go.Proofs.Ytdhgcdkinehomaa
open Go Go.Vm Go.Proofs Go.Cl
set_option linter.unusedSimpArgs false
set_option linter.unusedVariables false
set_option maxRecDepth 100000
theorem rNormal_ok (b : Nat) (h : Hp) (l : Bs) (hl : l.length ≤ 1000000) : run fns pr b 57 [txt l] h = some (.tup [txt ((normal l).getD []), .s (.bool (normal l).isSome)], h) := by
  refine Vm.runP (nt := 35) rfl fit57 (by simp) ?_
  have hvb : (0 : Nat) = 0 := rfl
  try simp only [B57, B57R0, B57L0, txt, go_sem, V.s.injEq, Value.bool.injEq, ↓reduceIte, Nat.reduceEqDiff, Nat.reduceBEq, Nat.reduceAdd, Nat.reduceSub, Nat.reduceLT, Nat.reduceLeDiff, Int.reduceLT, Int.reduceLE, Int.reduceEq, Int.reduceToNat, List.append_assoc, List.length_append, Vm.get_app, Vm.set_app, Vm.get_appL, Vm.get_appL0, Vm.set_appL, Vm.set_appL0, Nat.le_refl, Nat.le_add_right, okAt]
  repeat' (
    first | refine wpC_cases ?_ ?_ | refine wpU_casesT ?_ ?_ | refine wpU_casesF ?_ ?_
    all_goals intro hvc
    all_goals first | replace hvc := not_of_true hvc | replace hvc := not_of_false hvc | skip
    all_goals first | subst hvc | replace hvb := And.intro hvc hvb
    all_goals try simp only [hvb, B57, B57R0, B57L0, txt, go_sem, V.s.injEq, Value.bool.injEq, ↓reduceIte, Nat.reduceEqDiff, Nat.reduceBEq, Nat.reduceAdd, Nat.reduceSub, Nat.reduceLT, Nat.reduceLeDiff, Int.reduceLT, Int.reduceLE, Int.reduceEq, Int.reduceToNat, List.append_assoc, List.length_append, Vm.get_app, Vm.set_app, Vm.get_appL, Vm.get_appL0, Vm.set_appL, Vm.set_appL0, Nat.le_refl, Nat.le_add_right, okAt])
  refine wp_for (fun m e H => ∃ p k x out, m = l.length - p ∧ e 4 = x ∧ e 9 = .ptr h.length [] 0 ∧ H[h.length]? = some (.siter ⟨l.toArray⟩ p) ∧ XR H none k x (out.map byteV) ∧ Fw [] h H ∧ h.length < k ∧ out.length ≤ p ∧ nrmL (sg l) = (nrmL (sg (l.drop p))).map (out ++ ·))
    (fun e H => ∃ k x out, e 4 = x ∧ XR H none k x (out.map byteV) ∧ Fw [] h H ∧ h.length < k ∧ nrmL (sg l) = some out)
    l.length _ _ ⟨0, h.length + 1, _, [], rfl, rfl, rfl, get_app0 _ _, .inl ⟨rfl, rfl⟩, Fw.app _ _ _, by omega, by simp, by simp⟩ ?_ ?_
  · rintro m e H ⟨p, k, x, out, rfl, e4, e9, hit, xr, fw, hk, hlen, hsg⟩
    by_cases c : p < l.length
    · obtain ⟨hs1, hs2, hs3⟩ := sg_at c
      have c' : p < (List.toArray l).size := c
      generalize hr : ((Utf8.decode ⟨l.toArray⟩ p).1 : Int) = r at hs1
      generalize hw : (Utf8.decode ⟨l.toArray⟩ p).2 = w at hs1 hs2
      have hdg := fun b h => Digit_ok b h r (by omega) (by omega)
      rw [hs1] at hsg
      have fw1 : Fw [] h (H.set h.length (.siter ⟨l.toArray⟩ (p + w))) := fw.set_new (Nat.le_refl _) _
      have htk := fw1.take
      have xr1 := xr.set (j := h.length) (by omega) (.siter ⟨l.toArray⟩ (p + w))
      have hit1 : (H.set h.length (.siter ⟨l.toArray⟩ (p + w)))[h.length]? = some (.siter ⟨l.toArray⟩ (p + w)) := set_get hit
      have hwk : ∀ d : Int, 48 ≤ d → d ≤ 57 → IntKind.i64.wrap (48 + (d - 48)) = d := fun d _ _ => by rw [wrap_i64 (by omega) (by omega)]; omega
      have hwu : ∀ d : Int, 48 ≤ d → d ≤ 57 → IntKind.u8.wrap d = d := fun d _ _ => wrap_u8 (by omega) (by omega)
      by_cases hp : pass r = true
      · simp only [nrmL, hp, if_true] at hsg
        have hg : dg r = -2 := by simp [dg, digN_pass hp, hp]
        rw [hg] at hdg
        have hvb : (0 : Nat) = 0 := rfl
        try simp only [e4, e9, hit, c', hr, hw, hdg, go_sem, V.s.injEq, Value.bool.injEq, ↓reduceIte, Nat.reduceEqDiff, Nat.reduceBEq, Nat.reduceAdd, Nat.reduceSub, Nat.reduceLT, Nat.reduceLeDiff, Int.reduceLT, Int.reduceLE, Int.reduceEq, Int.reduceToNat, List.append_assoc, List.length_append, Vm.get_app, Vm.set_app, Vm.get_appL, Vm.get_appL0, Vm.set_appL, Vm.set_appL0, Nat.le_refl, Nat.le_add_right, okAt]
        repeat' (
          first | refine wpC_cases ?_ ?_ | refine wpU_casesT ?_ ?_ | refine wpU_casesF ?_ ?_
          all_goals intro hvc
          all_goals first | replace hvc := not_of_true hvc | replace hvc := not_of_false hvc | skip
          all_goals first | subst hvc | replace hvb := And.intro hvc hvb
          all_goals try simp only [hvb, e4, e9, hit, c', hr, hw, hdg, go_sem, V.s.injEq, Value.bool.injEq, ↓reduceIte, Nat.reduceEqDiff, Nat.reduceBEq, Nat.reduceAdd, Nat.reduceSub, Nat.reduceLT, Nat.reduceLeDiff, Int.reduceLT, Int.reduceLE, Int.reduceEq, Int.reduceToNat, List.append_assoc, List.length_append, Vm.get_app, Vm.set_app, Vm.get_appL, Vm.get_appL0, Vm.set_appL, Vm.set_appL0, Nat.le_refl, Nat.le_add_right, okAt])
        all_goals exact ⟨l.length - (p + w), by omega, p + w, k, x, out, rfl, rfl, hit1, xr1, fw1, hk, by omega, hsg⟩
      · simp only [nrmL, hp, if_false] at hsg
        cases hd : digN r with
        | none =>
          rw [hd] at hsg
          have hg : dg r = -1 := by simp [dg, hd, hp]
          rw [hg] at hdg
          have hn : normal l = none := by simp [normal, hsg]
          have hvb : (0 : Nat) = 0 := rfl
          try simp only [e4, e9, hit, c', hr, hw, hdg, hn, htk, Option.getD_none, Option.isSome_none, go_sem, V.s.injEq, Value.bool.injEq, ↓reduceIte, Nat.reduceEqDiff, Nat.reduceBEq, Nat.reduceAdd, Nat.reduceSub, Nat.reduceLT, Nat.reduceLeDiff, Int.reduceLT, Int.reduceLE, Int.reduceEq, Int.reduceToNat, List.append_assoc, List.length_append, Vm.get_app, Vm.set_app, Vm.get_appL, Vm.get_appL0, Vm.set_appL, Vm.set_appL0, Nat.le_refl, Nat.le_add_right, okAt]
          repeat' (
            first | refine wpC_cases ?_ ?_ | refine wpU_casesT ?_ ?_ | refine wpU_casesF ?_ ?_
            all_goals intro hvc
            all_goals first | replace hvc := not_of_true hvc | replace hvc := not_of_false hvc | skip
            all_goals first | subst hvc | replace hvb := And.intro hvc hvb
            all_goals try simp only [hvb, e4, e9, hit, c', hr, hw, hdg, hn, htk, Option.getD_none, Option.isSome_none, go_sem, V.s.injEq, Value.bool.injEq, ↓reduceIte, Nat.reduceEqDiff, Nat.reduceBEq, Nat.reduceAdd, Nat.reduceSub, Nat.reduceLT, Nat.reduceLeDiff, Int.reduceLT, Int.reduceLE, Int.reduceEq, Int.reduceToNat, List.append_assoc, List.length_append, Vm.get_app, Vm.set_app, Vm.get_appL, Vm.get_appL0, Vm.set_appL, Vm.set_appL0, Nat.le_refl, Nat.le_add_right, okAt])
        | some d =>
          rw [hd] at hsg
          have hg : dg r = d - 48 := by simp [dg, hd]
          rw [hg] at hdg
          have hdr := digN_range hd
          have c1 : ¬ d - 48 = -1 := by omega
          have c2 : 0 ≤ d - 48 := by omega
          have w1 := hwk d hdr.1 hdr.2
          have w2 := hwu d hdr.1 hdr.2
          have hby : (V.s (.int .u8 d)) = byteV (UInt8.ofNat d.toNat) := by
            simp only [byteV]; rw [u8n _ (by omega)]; congr 2; omega
          obtain ⟨x', H', k', hap, xr', fw', hk', hit'⟩ := xr.put (b := .siter ⟨l.toArray⟩ (p + w)) (z := .s (.int .u8 d)) (bytes := 1) hk fw rfl (by simp; omega) (lt_of_get hit)
          have hvb : (0 : Nat) = 0 := rfl
          try simp only [e4, e9, hit, c', hr, hw, hdg, hap, c1, c2, w1, w2, go_sem, V.s.injEq, Value.bool.injEq, ↓reduceIte, Nat.reduceEqDiff, Nat.reduceBEq, Nat.reduceAdd, Nat.reduceSub, Nat.reduceLT, Nat.reduceLeDiff, Int.reduceLT, Int.reduceLE, Int.reduceEq, Int.reduceToNat, List.append_assoc, List.length_append, Vm.get_app, Vm.set_app, Vm.get_appL, Vm.get_appL0, Vm.set_appL, Vm.set_appL0, Nat.le_refl, Nat.le_add_right, okAt]
          repeat' (
            first | refine wpC_cases ?_ ?_ | refine wpU_casesT ?_ ?_ | refine wpU_casesF ?_ ?_
            all_goals intro hvc
            all_goals first | replace hvc := not_of_true hvc | replace hvc := not_of_false hvc | skip
            all_goals first | subst hvc | replace hvb := And.intro hvc hvb
            all_goals try simp only [hvb, e4, e9, hit, c', hr, hw, hdg, hap, c1, c2, w1, w2, go_sem, V.s.injEq, Value.bool.injEq, ↓reduceIte, Nat.reduceEqDiff, Nat.reduceBEq, Nat.reduceAdd, Nat.reduceSub, Nat.reduceLT, Nat.reduceLeDiff, Int.reduceLT, Int.reduceLE, Int.reduceEq, Int.reduceToNat, List.append_assoc, List.length_append, Vm.get_app, Vm.set_app, Vm.get_appL, Vm.get_appL0, Vm.set_appL, Vm.set_appL0, Nat.le_refl, Nat.le_add_right, okAt])
          all_goals exact ⟨l.length - (p + w), by omega, p + w, k', x', out ++ [UInt8.ofNat d.toNat], rfl, rfl, hit', by rw [List.map_append, List.map_singleton, ← hby]; exact xr', fw', hk', by simp; omega, by rw [hsg]; cases nrmL (sg (l.drop (p + w))) <;> simp⟩
    · have c' : ¬ p < (List.toArray l).size := c
      have hd : l.drop p = [] := List.drop_eq_nil_of_le (by omega)
      rw [hd, sg_nil] at hsg
      simp only [nrmL, Option.map_some, List.append_nil] at hsg
      have hvb : (0 : Nat) = 0 := rfl
      try simp only [e4, e9, hit, c', go_sem, V.s.injEq, Value.bool.injEq, ↓reduceIte, Nat.reduceEqDiff, Nat.reduceBEq, Nat.reduceAdd, Nat.reduceSub, Nat.reduceLT, Nat.reduceLeDiff, Int.reduceLT, Int.reduceLE, Int.reduceEq, Int.reduceToNat, List.append_assoc, List.length_append, Vm.get_app, Vm.set_app, Vm.get_appL, Vm.get_appL0, Vm.set_appL, Vm.set_appL0, Nat.le_refl, Nat.le_add_right, okAt]
      repeat' (
        first | refine wpC_cases ?_ ?_ | refine wpU_casesT ?_ ?_ | refine wpU_casesF ?_ ?_
        all_goals intro hvc
        all_goals first | replace hvc := not_of_true hvc | replace hvc := not_of_false hvc | skip
        all_goals first | subst hvc | replace hvb := And.intro hvc hvb
        all_goals try simp only [hvb, e4, e9, hit, c', go_sem, V.s.injEq, Value.bool.injEq, ↓reduceIte, Nat.reduceEqDiff, Nat.reduceBEq, Nat.reduceAdd, Nat.reduceSub, Nat.reduceLT, Nat.reduceLeDiff, Int.reduceLT, Int.reduceLE, Int.reduceEq, Int.reduceToNat, List.append_assoc, List.length_append, Vm.get_app, Vm.set_app, Vm.get_appL, Vm.get_appL0, Vm.set_appL, Vm.set_appL0, Nat.le_refl, Nat.le_add_right, okAt])
      all_goals exact ⟨k, x, out, rfl, xr, fw, hk, hsg⟩
  · rintro e H ⟨k, x, out, e4, xr, fw, hk, hsg⟩
    have htk := fw.take
    have hln := fun cf base => xr.SR.o_len (cf := cf) (base := base) (h := H)
    have hbs : ∀ cf base, opV cf base H .b2s [x] = some (.s (.string ⟨out.toArray⟩), H) := fun cf base => by rw [o_b2sE, xr.els, b2sR_bytes]
    simp only [List.length_map] at hln
    by_cases hc : 4 ≤ out.length ∧ out.length ≤ 12
    · have hn : normal l = some out := by simp [normal, hsg, hc]
      have c1 : ¬ (out.length : Int) < 4 := by omega
      have c2 : ¬ (12 : Int) < out.length := by omega
      have hvb : (0 : Nat) = 0 := rfl
      try simp only [e4, hln, hbs, htk, c1, c2, hn, Option.getD_some, Option.isSome_some, go_sem, V.s.injEq, Value.bool.injEq, ↓reduceIte, Nat.reduceEqDiff, Nat.reduceBEq, Nat.reduceAdd, Nat.reduceSub, Nat.reduceLT, Nat.reduceLeDiff, Int.reduceLT, Int.reduceLE, Int.reduceEq, Int.reduceToNat, List.append_assoc, List.length_append, Vm.get_app, Vm.set_app, Vm.get_appL, Vm.get_appL0, Vm.set_appL, Vm.set_appL0, Nat.le_refl, Nat.le_add_right, okAt]
      repeat' (
        first | refine wpC_cases ?_ ?_ | refine wpU_casesT ?_ ?_ | refine wpU_casesF ?_ ?_
        all_goals intro hvc
        all_goals first | replace hvc := not_of_true hvc | replace hvc := not_of_false hvc | skip
        all_goals first | subst hvc | replace hvb := And.intro hvc hvb
        all_goals try simp only [hvb, e4, hln, hbs, htk, c1, c2, hn, Option.getD_some, Option.isSome_some, go_sem, V.s.injEq, Value.bool.injEq, ↓reduceIte, Nat.reduceEqDiff, Nat.reduceBEq, Nat.reduceAdd, Nat.reduceSub, Nat.reduceLT, Nat.reduceLeDiff, Int.reduceLT, Int.reduceLE, Int.reduceEq, Int.reduceToNat, List.append_assoc, List.length_append, Vm.get_app, Vm.set_app, Vm.get_appL, Vm.get_appL0, Vm.set_appL, Vm.set_appL0, Nat.le_refl, Nat.le_add_right, okAt])
    · have hn : normal l = none := by simp only [normal, hsg, Option.bind_some, hc, if_false]
      by_cases c1 : (out.length : Int) < 4
      · have hvb : (0 : Nat) = 0 := rfl
        try simp only [e4, hln, hbs, htk, c1, hn, Option.getD_none, Option.isSome_none, go_sem, V.s.injEq, Value.bool.injEq, ↓reduceIte, Nat.reduceEqDiff, Nat.reduceBEq, Nat.reduceAdd, Nat.reduceSub, Nat.reduceLT, Nat.reduceLeDiff, Int.reduceLT, Int.reduceLE, Int.reduceEq, Int.reduceToNat, List.append_assoc, List.length_append, Vm.get_app, Vm.set_app, Vm.get_appL, Vm.get_appL0, Vm.set_appL, Vm.set_appL0, Nat.le_refl, Nat.le_add_right, okAt]
        repeat' (
          first | refine wpC_cases ?_ ?_ | refine wpU_casesT ?_ ?_ | refine wpU_casesF ?_ ?_
          all_goals intro hvc
          all_goals first | replace hvc := not_of_true hvc | replace hvc := not_of_false hvc | skip
          all_goals first | subst hvc | replace hvb := And.intro hvc hvb
          all_goals try simp only [hvb, e4, hln, hbs, htk, c1, hn, Option.getD_none, Option.isSome_none, go_sem, V.s.injEq, Value.bool.injEq, ↓reduceIte, Nat.reduceEqDiff, Nat.reduceBEq, Nat.reduceAdd, Nat.reduceSub, Nat.reduceLT, Nat.reduceLeDiff, Int.reduceLT, Int.reduceLE, Int.reduceEq, Int.reduceToNat, List.append_assoc, List.length_append, Vm.get_app, Vm.set_app, Vm.get_appL, Vm.get_appL0, Vm.set_appL, Vm.set_appL0, Nat.le_refl, Nat.le_add_right, okAt])
      · have c2 : (12 : Int) < out.length := by omega
        have hvb : (0 : Nat) = 0 := rfl
        try simp only [e4, hln, hbs, htk, c1, c2, hn, Option.getD_none, Option.isSome_none, go_sem, V.s.injEq, Value.bool.injEq, ↓reduceIte, Nat.reduceEqDiff, Nat.reduceBEq, Nat.reduceAdd, Nat.reduceSub, Nat.reduceLT, Nat.reduceLeDiff, Int.reduceLT, Int.reduceLE, Int.reduceEq, Int.reduceToNat, List.append_assoc, List.length_append, Vm.get_app, Vm.set_app, Vm.get_appL, Vm.get_appL0, Vm.set_appL, Vm.set_appL0, Nat.le_refl, Nat.le_add_right, okAt]
        repeat' (
          first | refine wpC_cases ?_ ?_ | refine wpU_casesT ?_ ?_ | refine wpU_casesF ?_ ?_
          all_goals intro hvc
          all_goals first | replace hvc := not_of_true hvc | replace hvc := not_of_false hvc | skip
          all_goals first | subst hvc | replace hvb := And.intro hvc hvb
          all_goals try simp only [hvb, e4, hln, hbs, htk, c1, c2, hn, Option.getD_none, Option.isSome_none, go_sem, V.s.injEq, Value.bool.injEq, ↓reduceIte, Nat.reduceEqDiff, Nat.reduceBEq, Nat.reduceAdd, Nat.reduceSub, Nat.reduceLT, Nat.reduceLeDiff, Int.reduceLT, Int.reduceLE, Int.reduceEq, Int.reduceToNat, List.append_assoc, List.length_append, Vm.get_app, Vm.set_app, Vm.get_appL, Vm.get_appL0, Vm.set_appL, Vm.set_appL0, Nat.le_refl, Nat.le_add_right, okAt])

theorem o_sidxT {cf : CF} {base : Nat} {h : Hp} {k : IntKind} {l : Bs} {i : Nat} (hi : i < l.length) : opV cf base h .sidx [.s (.string ⟨l.toArray⟩), .s (.int k i)] = some (.s (.int .u8 ((l.getD i 0).toNat : Int)), h) := by
  have h0 : (0 : Int) ≤ i := by omega
  rw [o_sidx, if_pos h0, Int.toNat_natCast]
  simp only [List.toList_toArray, List.getElem?_eq_getElem hi, Option.map_some, byteV, List.getD, Option.getD_some]
theorem u8_lt (b : UInt8) : 0 ≤ (b.toNat : Int) ∧ (b.toNat : Int) < 256 := by have := b.toNat_lt; omega
theorem goes_ok (b : Nat) (h : Hp) (l : Bs) (by_ : Int) (hl : l.length ≤ 1000000) : run fns pr b 64 [txt l, .s (.int .i64 by_)] h = some (.s (.bool (goesN l by_ l.length)), h) := by
  refine Vm.runP (nt := 24) rfl fit64 (by simp) ?_
  have hvb : (0 : Nat) = 0 := rfl
  try simp only [B64, B64R0, B64L0, txt, go_sem, V.s.injEq, Value.bool.injEq, ↓reduceIte, Nat.reduceEqDiff, Nat.reduceBEq, Nat.reduceAdd, Nat.reduceSub, Nat.reduceLT, Nat.reduceLeDiff, Int.reduceLT, Int.reduceLE, Int.reduceEq, Int.reduceToNat, List.append_assoc, List.length_append, Vm.get_app, Vm.set_app, Vm.get_appL, Vm.get_appL0, Vm.set_appL, Vm.set_appL0, Nat.le_refl, Nat.le_add_right, okAt]
  repeat' (
    first | refine wpC_cases ?_ ?_ | refine wpU_casesT ?_ ?_ | refine wpU_casesF ?_ ?_
    all_goals intro hvc
    all_goals first | replace hvc := not_of_true hvc | replace hvc := not_of_false hvc | skip
    all_goals first | subst hvc | replace hvb := And.intro hvc hvb
    all_goals try simp only [hvb, B64, B64R0, B64L0, txt, go_sem, V.s.injEq, Value.bool.injEq, ↓reduceIte, Nat.reduceEqDiff, Nat.reduceBEq, Nat.reduceAdd, Nat.reduceSub, Nat.reduceLT, Nat.reduceLeDiff, Int.reduceLT, Int.reduceLE, Int.reduceEq, Int.reduceToNat, List.append_assoc, List.length_append, Vm.get_app, Vm.set_app, Vm.get_appL, Vm.get_appL0, Vm.set_appL, Vm.set_appL0, Nat.le_refl, Nat.le_add_right, okAt])
  refine wp_for (fun m e H => ∃ i : Nat, m = l.length - i ∧ 1 ≤ i ∧ i ≤ l.length + 1 ∧ e 5 = .s (.int .i64 i) ∧ e 0 = .s (.string ⟨l.toArray⟩) ∧ e 1 = .s (.int .i64 by_) ∧ H = h ∧ goesN l by_ (min i l.length) = true)
    (fun e H => H = h ∧ goesN l by_ l.length = true)
    (l.length - 1) _ _ ⟨1, rfl, by omega, by omega, rfl, rfl, rfl, rfl, ?_⟩ ?_ ?_
  · by_cases hz : l.length = 0
    · rw [hz]; rfl
    · rw [Nat.min_eq_left (by omega)]; rfl
  · rintro m e H ⟨i, rfl, hi1, hi, e5, e0, e1, rfl, hg⟩
    by_cases c : i < l.length
    · have c' : (i : Int) < l.length := by omega
      have c'' : (i : Int) < (List.toArray l).size := c'
      rw [Nat.min_eq_left (by omega)] at hg
      have hsu : IntKind.i64.wrap ((i : Int) - 1) = ((i - 1 : Nat) : Int) := by rw [wrap_i64 (by omega) (by omega)]; omega
      have x1 := fun cf base h => o_sidxT (cf := cf) (base := base) (h := h) (k := .i64) (l := l) (i := i) c
      have x2 := fun cf base h => o_sidxT (cf := cf) (base := base) (h := h) (k := .i64) (l := l) (i := i - 1) (by omega)
      have hgs := goesN_succ l by_ i
      rw [hg] at hgs
      have hi0 : (i == 0) = false := by simp; omega
      simp only [hi0, Bool.true_and, Bool.false_or] at hgs
      have k1 := u8_lt (l.getD i 0)
      have k2 := u8_lt (l.getD (i - 1) 0)
      generalize ((l.getD i 0).toNat : Int) = u at x1 hgs k1
      generalize ((l.getD (i - 1) 0).toNat : Int) = v at x2 hgs k2
      have w1 : IntKind.i64.wrap u = u := wrap_i64 (by omega) (by omega)
      have w2 : IntKind.i64.wrap v = v := wrap_i64 (by omega) (by omega)
      have w3 : IntKind.i64.wrap (u - v) = u - v := wrap_i64 (by omega) (by omega)
      have hwr : IntKind.i64.wrap ((i : Int) + 1) = ((i + 1 : Nat) : Int) := wrap_small (by omega)
      by_cases d : u - v = by_
      · have hg1 : goesN l by_ (i + 1) = true := by rw [hgs]; simp [d]
        subst d
        have hvb : (0 : Nat) = 0 := rfl
        try simp only [e5, e0, e1, c', c'', hsu, x1, x2, w1, w2, w3, hwr, go_sem, V.s.injEq, Value.bool.injEq, ↓reduceIte, Nat.reduceEqDiff, Nat.reduceBEq, Nat.reduceAdd, Nat.reduceSub, Nat.reduceLT, Nat.reduceLeDiff, Int.reduceLT, Int.reduceLE, Int.reduceEq, Int.reduceToNat, List.append_assoc, List.length_append, Vm.get_app, Vm.set_app, Vm.get_appL, Vm.get_appL0, Vm.set_appL, Vm.set_appL0, Nat.le_refl, Nat.le_add_right, okAt]
        repeat' (
          first | refine wpC_cases ?_ ?_ | refine wpU_casesT ?_ ?_ | refine wpU_casesF ?_ ?_
          all_goals intro hvc
          all_goals first | replace hvc := not_of_true hvc | replace hvc := not_of_false hvc | skip
          all_goals first | subst hvc | replace hvb := And.intro hvc hvb
          all_goals try simp only [hvb, e5, e0, e1, c', c'', hsu, x1, x2, w1, w2, w3, hwr, go_sem, V.s.injEq, Value.bool.injEq, ↓reduceIte, Nat.reduceEqDiff, Nat.reduceBEq, Nat.reduceAdd, Nat.reduceSub, Nat.reduceLT, Nat.reduceLeDiff, Int.reduceLT, Int.reduceLE, Int.reduceEq, Int.reduceToNat, List.append_assoc, List.length_append, Vm.get_app, Vm.set_app, Vm.get_appL, Vm.get_appL0, Vm.set_appL, Vm.set_appL0, Nat.le_refl, Nat.le_add_right, okAt])
        all_goals exact ⟨l.length - (i + 1), by omega, i + 1, rfl, by omega, by omega, rfl, by rw [Nat.min_eq_left (by omega)]; exact hg1⟩
      · have hg1 : goesN l by_ l.length = false := goesN_false (n := i + 1) (by omega) (by rw [hgs]; simp [d])
        have hvb : (0 : Nat) = 0 := rfl
        try simp only [e5, e0, e1, c', c'', hsu, x1, x2, w1, w2, w3, d, hg1, go_sem, V.s.injEq, Value.bool.injEq, ↓reduceIte, Nat.reduceEqDiff, Nat.reduceBEq, Nat.reduceAdd, Nat.reduceSub, Nat.reduceLT, Nat.reduceLeDiff, Int.reduceLT, Int.reduceLE, Int.reduceEq, Int.reduceToNat, List.append_assoc, List.length_append, Vm.get_app, Vm.set_app, Vm.get_appL, Vm.get_appL0, Vm.set_appL, Vm.set_appL0, Nat.le_refl, Nat.le_add_right, okAt]
        repeat' (
          first | refine wpC_cases ?_ ?_ | refine wpU_casesT ?_ ?_ | refine wpU_casesF ?_ ?_
          all_goals intro hvc
          all_goals first | replace hvc := not_of_true hvc | replace hvc := not_of_false hvc | skip
          all_goals first | subst hvc | replace hvb := And.intro hvc hvb
          all_goals try simp only [hvb, e5, e0, e1, c', c'', hsu, x1, x2, w1, w2, w3, d, hg1, go_sem, V.s.injEq, Value.bool.injEq, ↓reduceIte, Nat.reduceEqDiff, Nat.reduceBEq, Nat.reduceAdd, Nat.reduceSub, Nat.reduceLT, Nat.reduceLeDiff, Int.reduceLT, Int.reduceLE, Int.reduceEq, Int.reduceToNat, List.append_assoc, List.length_append, Vm.get_app, Vm.set_app, Vm.get_appL, Vm.get_appL0, Vm.set_appL, Vm.set_appL0, Nat.le_refl, Nat.le_add_right, okAt])
    · have c' : ¬ (i : Int) < l.length := by omega
      have c'' : ¬ (i : Int) < (List.toArray l).size := c'
      rw [Nat.min_eq_right (by omega)] at hg
      have hvb : (0 : Nat) = 0 := rfl
      try simp only [e5, e0, e1, c', c'', go_sem, V.s.injEq, Value.bool.injEq, ↓reduceIte, Nat.reduceEqDiff, Nat.reduceBEq, Nat.reduceAdd, Nat.reduceSub, Nat.reduceLT, Nat.reduceLeDiff, Int.reduceLT, Int.reduceLE, Int.reduceEq, Int.reduceToNat, List.append_assoc, List.length_append, Vm.get_app, Vm.set_app, Vm.get_appL, Vm.get_appL0, Vm.set_appL, Vm.set_appL0, Nat.le_refl, Nat.le_add_right, okAt]
      repeat' (
        first | refine wpC_cases ?_ ?_ | refine wpU_casesT ?_ ?_ | refine wpU_casesF ?_ ?_
        all_goals intro hvc
        all_goals first | replace hvc := not_of_true hvc | replace hvc := not_of_false hvc | skip
        all_goals first | subst hvc | replace hvb := And.intro hvc hvb
        all_goals try simp only [hvb, e5, e0, e1, c', c'', go_sem, V.s.injEq, Value.bool.injEq, ↓reduceIte, Nat.reduceEqDiff, Nat.reduceBEq, Nat.reduceAdd, Nat.reduceSub, Nat.reduceLT, Nat.reduceLeDiff, Int.reduceLT, Int.reduceLE, Int.reduceEq, Int.reduceToNat, List.append_assoc, List.length_append, Vm.get_app, Vm.set_app, Vm.get_appL, Vm.get_appL0, Vm.set_appL, Vm.set_appL0, Nat.le_refl, Nat.le_add_right, okAt])
      all_goals exact hg
  · rintro e H ⟨rfl, hg⟩
    have hvb : (0 : Nat) = 0 := rfl
    try simp only [hg, go_sem, V.s.injEq, Value.bool.injEq, ↓reduceIte, Nat.reduceEqDiff, Nat.reduceBEq, Nat.reduceAdd, Nat.reduceSub, Nat.reduceLT, Nat.reduceLeDiff, Int.reduceLT, Int.reduceLE, Int.reduceEq, Int.reduceToNat, List.append_assoc, List.length_append, Vm.get_app, Vm.set_app, Vm.get_appL, Vm.get_appL0, Vm.set_appL, Vm.set_appL0, Nat.le_refl, Nat.le_add_right, okAt]
    repeat' (
      first | refine wpC_cases ?_ ?_ | refine wpU_casesT ?_ ?_ | refine wpU_casesF ?_ ?_
      all_goals intro hvc
      all_goals first | replace hvc := not_of_true hvc | replace hvc := not_of_false hvc | skip
      all_goals first | subst hvc | replace hvb := And.intro hvc hvb
      all_goals try simp only [hvb, hg, go_sem, V.s.injEq, Value.bool.injEq, ↓reduceIte, Nat.reduceEqDiff, Nat.reduceBEq, Nat.reduceAdd, Nat.reduceSub, Nat.reduceLT, Nat.reduceLeDiff, Int.reduceLT, Int.reduceLE, Int.reduceEq, Int.reduceToNat, List.append_assoc, List.length_append, Vm.get_app, Vm.set_app, Vm.get_appL, Vm.get_appL0, Vm.set_appL, Vm.set_appL0, Nat.le_refl, Nat.le_add_right, okAt])

theorem Weak_ok (b : Nat) (h : Hp) (l : Bs) (hl : l.length ≤ 1000000) : run fns pr b 36 [txt l] h = some (.s (.bool (weak l)), h) := by
  refine Vm.runP (nt := 38) rfl fit36 (by simp) ?_
  have hsz : ((List.toArray l).size : Int) = l.length := rfl
  by_cases h4 : (l.length : Int) < 4
  · have hw : weak l = false := by have : ¬ 4 ≤ l.length := by omega
                                   simp [weak, this]
    have hvb : (0 : Nat) = 0 := rfl
    try simp only [B36, B36R0, B36L0, txt, hsz, h4, hw, go_sem, V.s.injEq, Value.bool.injEq, ↓reduceIte, Nat.reduceEqDiff, Nat.reduceBEq, Nat.reduceAdd, Nat.reduceSub, Nat.reduceLT, Nat.reduceLeDiff, Int.reduceLT, Int.reduceLE, Int.reduceEq, Int.reduceToNat, List.append_assoc, List.length_append, Vm.get_app, Vm.set_app, Vm.get_appL, Vm.get_appL0, Vm.set_appL, Vm.set_appL0, Nat.le_refl, Nat.le_add_right, okAt]
    repeat' (
      first | refine wpC_cases ?_ ?_ | refine wpU_casesT ?_ ?_ | refine wpU_casesF ?_ ?_
      all_goals intro hvc
      all_goals first | replace hvc := not_of_true hvc | replace hvc := not_of_false hvc | skip
      all_goals first | subst hvc | replace hvb := And.intro hvc hvb
      all_goals try simp only [hvb, B36, B36R0, B36L0, txt, hsz, h4, hw, go_sem, V.s.injEq, Value.bool.injEq, ↓reduceIte, Nat.reduceEqDiff, Nat.reduceBEq, Nat.reduceAdd, Nat.reduceSub, Nat.reduceLT, Nat.reduceLeDiff, Int.reduceLT, Int.reduceLE, Int.reduceEq, Int.reduceToNat, List.append_assoc, List.length_append, Vm.get_app, Vm.set_app, Vm.get_appL, Vm.get_appL0, Vm.set_appL, Vm.set_appL0, Nat.le_refl, Nat.le_add_right, okAt])
  by_cases h12 : (12 : Int) < l.length
  · have hw : weak l = false := by have : ¬ l.length ≤ 12 := by omega
                                   simp [weak, this]
    have hvb : (0 : Nat) = 0 := rfl
    try simp only [B36, B36R0, B36L0, txt, hsz, h4, h12, hw, go_sem, V.s.injEq, Value.bool.injEq, ↓reduceIte, Nat.reduceEqDiff, Nat.reduceBEq, Nat.reduceAdd, Nat.reduceSub, Nat.reduceLT, Nat.reduceLeDiff, Int.reduceLT, Int.reduceLE, Int.reduceEq, Int.reduceToNat, List.append_assoc, List.length_append, Vm.get_app, Vm.set_app, Vm.get_appL, Vm.get_appL0, Vm.set_appL, Vm.set_appL0, Nat.le_refl, Nat.le_add_right, okAt]
    repeat' (
      first | refine wpC_cases ?_ ?_ | refine wpU_casesT ?_ ?_ | refine wpU_casesF ?_ ?_
      all_goals intro hvc
      all_goals first | replace hvc := not_of_true hvc | replace hvc := not_of_false hvc | skip
      all_goals first | subst hvc | replace hvb := And.intro hvc hvb
      all_goals try simp only [hvb, B36, B36R0, B36L0, txt, hsz, h4, h12, hw, go_sem, V.s.injEq, Value.bool.injEq, ↓reduceIte, Nat.reduceEqDiff, Nat.reduceBEq, Nat.reduceAdd, Nat.reduceSub, Nat.reduceLT, Nat.reduceLeDiff, Int.reduceLT, Int.reduceLE, Int.reduceEq, Int.reduceToNat, List.append_assoc, List.length_append, Vm.get_app, Vm.set_app, Vm.get_appL, Vm.get_appL0, Vm.set_appL, Vm.set_appL0, Nat.le_refl, Nat.le_add_right, okAt])
  have hw : weak l = (digsN l l.length && (goesN l 0 l.length || goesN l 1 l.length || goesN l (-1) l.length)) := by
    have h1 : 4 ≤ l.length := by omega
    have h2 : l.length ≤ 12 := by omega
    simp [weak, h1, h2]
  have hvb : (0 : Nat) = 0 := rfl
  try simp only [B36, B36R0, B36L0, txt, hsz, h4, h12, go_sem, V.s.injEq, Value.bool.injEq, ↓reduceIte, Nat.reduceEqDiff, Nat.reduceBEq, Nat.reduceAdd, Nat.reduceSub, Nat.reduceLT, Nat.reduceLeDiff, Int.reduceLT, Int.reduceLE, Int.reduceEq, Int.reduceToNat, List.append_assoc, List.length_append, Vm.get_app, Vm.set_app, Vm.get_appL, Vm.get_appL0, Vm.set_appL, Vm.set_appL0, Nat.le_refl, Nat.le_add_right, okAt]
  repeat' (
    first | refine wpC_cases ?_ ?_ | refine wpU_casesT ?_ ?_ | refine wpU_casesF ?_ ?_
    all_goals intro hvc
    all_goals first | replace hvc := not_of_true hvc | replace hvc := not_of_false hvc | skip
    all_goals first | subst hvc | replace hvb := And.intro hvc hvb
    all_goals try simp only [hvb, B36, B36R0, B36L0, txt, hsz, h4, h12, go_sem, V.s.injEq, Value.bool.injEq, ↓reduceIte, Nat.reduceEqDiff, Nat.reduceBEq, Nat.reduceAdd, Nat.reduceSub, Nat.reduceLT, Nat.reduceLeDiff, Int.reduceLT, Int.reduceLE, Int.reduceEq, Int.reduceToNat, List.append_assoc, List.length_append, Vm.get_app, Vm.set_app, Vm.get_appL, Vm.get_appL0, Vm.set_appL, Vm.set_appL0, Nat.le_refl, Nat.le_add_right, okAt])
  refine wp_for (fun m e H => ∃ i : Nat, m = l.length - i ∧ i ≤ l.length ∧ e 14 = .s (.int .i64 i) ∧ e 13 = .s (.int .i64 l.length) ∧ e 0 = .s (.string ⟨l.toArray⟩) ∧ H = h ∧ digsN l i = true)
    (fun e H => H = h ∧ e 0 = .s (.string ⟨l.toArray⟩) ∧ digsN l l.length = true)
    l.length _ _ ⟨0, by omega, by omega, rfl, rfl, rfl, rfl, rfl⟩ ?_ ?_
  · rintro m e H ⟨i, rfl, hi, e14, e13, e0, rfl, hg⟩
    by_cases c : i < l.length
    · have c' : (i : Int) < l.length := by omega
      have x1 := fun cf base h => o_sidxT (cf := cf) (base := base) (h := h) (k := .i64) (l := l) (i := i) c
      have hgs := digsN_succ l i
      rw [hg] at hgs
      have k1 := u8_lt (l.getD i 0)
      have hwr : IntKind.i64.wrap ((i : Int) + 1) = ((i + 1 : Nat) : Int) := wrap_small (by omega)
      by_cases d : 48 ≤ (l.getD i 0).toNat ∧ (l.getD i 0).toNat ≤ 57
      · have hg1 : digsN l (i + 1) = true := by rw [hgs, Bool.true_and, Bool.and_eq_true, decide_eq_true_eq, decide_eq_true_eq]; exact d
        have d1 : ¬ ((l.getD i 0).toNat : Int) < 48 := by omega
        have d2 : ¬ (57 : Int) < ((l.getD i 0).toNat : Int) := by omega
        generalize ((l.getD i 0).toNat : Int) = u at x1 d1 d2
        have hvb : (0 : Nat) = 0 := rfl
        try simp only [e14, e13, e0, c', x1, d1, d2, hwr, go_sem, V.s.injEq, Value.bool.injEq, ↓reduceIte, Nat.reduceEqDiff, Nat.reduceBEq, Nat.reduceAdd, Nat.reduceSub, Nat.reduceLT, Nat.reduceLeDiff, Int.reduceLT, Int.reduceLE, Int.reduceEq, Int.reduceToNat, List.append_assoc, List.length_append, Vm.get_app, Vm.set_app, Vm.get_appL, Vm.get_appL0, Vm.set_appL, Vm.set_appL0, Nat.le_refl, Nat.le_add_right, okAt]
        repeat' (
          first | refine wpC_cases ?_ ?_ | refine wpU_casesT ?_ ?_ | refine wpU_casesF ?_ ?_
          all_goals intro hvc
          all_goals first | replace hvc := not_of_true hvc | replace hvc := not_of_false hvc | skip
          all_goals first | subst hvc | replace hvb := And.intro hvc hvb
          all_goals try simp only [hvb, e14, e13, e0, c', x1, d1, d2, hwr, go_sem, V.s.injEq, Value.bool.injEq, ↓reduceIte, Nat.reduceEqDiff, Nat.reduceBEq, Nat.reduceAdd, Nat.reduceSub, Nat.reduceLT, Nat.reduceLeDiff, Int.reduceLT, Int.reduceLE, Int.reduceEq, Int.reduceToNat, List.append_assoc, List.length_append, Vm.get_app, Vm.set_app, Vm.get_appL, Vm.get_appL0, Vm.set_appL, Vm.set_appL0, Nat.le_refl, Nat.le_add_right, okAt])
        all_goals exact ⟨l.length - (i + 1), by omega, i + 1, rfl, by omega, rfl, hg1⟩
      · have hg1 : digsN l l.length = false := digsN_false (n := i + 1) (by omega) (by rw [hgs, Bool.true_and, Bool.and_eq_false_iff, decide_eq_false_iff_not, decide_eq_false_iff_not]; omega)
        rw [hg1, Bool.false_and] at hw
        by_cases d1 : ((l.getD i 0).toNat : Int) < 48
        · generalize ((l.getD i 0).toNat : Int) = u at x1 d1
          have hvb : (0 : Nat) = 0 := rfl
          try simp only [e14, e13, e0, c', x1, d1, hw, go_sem, V.s.injEq, Value.bool.injEq, ↓reduceIte, Nat.reduceEqDiff, Nat.reduceBEq, Nat.reduceAdd, Nat.reduceSub, Nat.reduceLT, Nat.reduceLeDiff, Int.reduceLT, Int.reduceLE, Int.reduceEq, Int.reduceToNat, List.append_assoc, List.length_append, Vm.get_app, Vm.set_app, Vm.get_appL, Vm.get_appL0, Vm.set_appL, Vm.set_appL0, Nat.le_refl, Nat.le_add_right, okAt]
          repeat' (
            first | refine wpC_cases ?_ ?_ | refine wpU_casesT ?_ ?_ | refine wpU_casesF ?_ ?_
            all_goals intro hvc
            all_goals first | replace hvc := not_of_true hvc | replace hvc := not_of_false hvc | skip
            all_goals first | subst hvc | replace hvb := And.intro hvc hvb
            all_goals try simp only [hvb, e14, e13, e0, c', x1, d1, hw, go_sem, V.s.injEq, Value.bool.injEq, ↓reduceIte, Nat.reduceEqDiff, Nat.reduceBEq, Nat.reduceAdd, Nat.reduceSub, Nat.reduceLT, Nat.reduceLeDiff, Int.reduceLT, Int.reduceLE, Int.reduceEq, Int.reduceToNat, List.append_assoc, List.length_append, Vm.get_app, Vm.set_app, Vm.get_appL, Vm.get_appL0, Vm.set_appL, Vm.set_appL0, Nat.le_refl, Nat.le_add_right, okAt])
        · have d2 : (57 : Int) < ((l.getD i 0).toNat : Int) := by omega
          generalize ((l.getD i 0).toNat : Int) = u at x1 d1 d2
          have hvb : (0 : Nat) = 0 := rfl
          try simp only [e14, e13, e0, c', x1, d1, d2, hw, go_sem, V.s.injEq, Value.bool.injEq, ↓reduceIte, Nat.reduceEqDiff, Nat.reduceBEq, Nat.reduceAdd, Nat.reduceSub, Nat.reduceLT, Nat.reduceLeDiff, Int.reduceLT, Int.reduceLE, Int.reduceEq, Int.reduceToNat, List.append_assoc, List.length_append, Vm.get_app, Vm.set_app, Vm.get_appL, Vm.get_appL0, Vm.set_appL, Vm.set_appL0, Nat.le_refl, Nat.le_add_right, okAt]
          repeat' (
            first | refine wpC_cases ?_ ?_ | refine wpU_casesT ?_ ?_ | refine wpU_casesF ?_ ?_
            all_goals intro hvc
            all_goals first | replace hvc := not_of_true hvc | replace hvc := not_of_false hvc | skip
            all_goals first | subst hvc | replace hvb := And.intro hvc hvb
            all_goals try simp only [hvb, e14, e13, e0, c', x1, d1, d2, hw, go_sem, V.s.injEq, Value.bool.injEq, ↓reduceIte, Nat.reduceEqDiff, Nat.reduceBEq, Nat.reduceAdd, Nat.reduceSub, Nat.reduceLT, Nat.reduceLeDiff, Int.reduceLT, Int.reduceLE, Int.reduceEq, Int.reduceToNat, List.append_assoc, List.length_append, Vm.get_app, Vm.set_app, Vm.get_appL, Vm.get_appL0, Vm.set_appL, Vm.set_appL0, Nat.le_refl, Nat.le_add_right, okAt])
    · have c' : ¬ (i : Int) < l.length := by omega
      have : i = l.length := by omega
      subst this
      have hvb : (0 : Nat) = 0 := rfl
      try simp only [e14, e13, e0, c', go_sem, V.s.injEq, Value.bool.injEq, ↓reduceIte, Nat.reduceEqDiff, Nat.reduceBEq, Nat.reduceAdd, Nat.reduceSub, Nat.reduceLT, Nat.reduceLeDiff, Int.reduceLT, Int.reduceLE, Int.reduceEq, Int.reduceToNat, List.append_assoc, List.length_append, Vm.get_app, Vm.set_app, Vm.get_appL, Vm.get_appL0, Vm.set_appL, Vm.set_appL0, Nat.le_refl, Nat.le_add_right, okAt]
      repeat' (
        first | refine wpC_cases ?_ ?_ | refine wpU_casesT ?_ ?_ | refine wpU_casesF ?_ ?_
        all_goals intro hvc
        all_goals first | replace hvc := not_of_true hvc | replace hvc := not_of_false hvc | skip
        all_goals first | subst hvc | replace hvb := And.intro hvc hvb
        all_goals try simp only [hvb, e14, e13, e0, c', go_sem, V.s.injEq, Value.bool.injEq, ↓reduceIte, Nat.reduceEqDiff, Nat.reduceBEq, Nat.reduceAdd, Nat.reduceSub, Nat.reduceLT, Nat.reduceLeDiff, Int.reduceLT, Int.reduceLE, Int.reduceEq, Int.reduceToNat, List.append_assoc, List.length_append, Vm.get_app, Vm.set_app, Vm.get_appL, Vm.get_appL0, Vm.set_appL, Vm.set_appL0, Nat.le_refl, Nat.le_add_right, okAt])
      all_goals exact hg
  · rintro e H ⟨rfl, e0, hg⟩
    rw [hg, Bool.true_and] at hw
    have hgo := fun b h by_ => goes_ok b h l by_ hl
    simp only [txt] at hgo
    have hvb : (0 : Nat) = 0 := rfl
    try simp only [e0, hgo, hw, go_sem, V.s.injEq, Value.bool.injEq, ↓reduceIte, Nat.reduceEqDiff, Nat.reduceBEq, Nat.reduceAdd, Nat.reduceSub, Nat.reduceLT, Nat.reduceLeDiff, Int.reduceLT, Int.reduceLE, Int.reduceEq, Int.reduceToNat, List.append_assoc, List.length_append, Vm.get_app, Vm.set_app, Vm.get_appL, Vm.get_appL0, Vm.set_appL, Vm.set_appL0, Nat.le_refl, Nat.le_add_right, okAt]
    repeat' (
      first | refine wpC_cases ?_ ?_ | refine wpU_casesT ?_ ?_ | refine wpU_casesF ?_ ?_
      all_goals intro hvc
      all_goals first | replace hvc := not_of_true hvc | replace hvc := not_of_false hvc | skip
      all_goals first | subst hvc | replace hvb := And.intro hvc hvb
      all_goals try simp only [hvb, e0, hgo, hw, go_sem, V.s.injEq, Value.bool.injEq, ↓reduceIte, Nat.reduceEqDiff, Nat.reduceBEq, Nat.reduceAdd, Nat.reduceSub, Nat.reduceLT, Nat.reduceLeDiff, Int.reduceLT, Int.reduceLE, Int.reduceEq, Int.reduceToNat, List.append_assoc, List.length_append, Vm.get_app, Vm.set_app, Vm.get_appL, Vm.get_appL0, Vm.set_appL, Vm.set_appL0, Nat.le_refl, Nat.le_add_right, okAt])
    all_goals simp_all
end Go.Proofs.Ytdhgcdkinehomaa
