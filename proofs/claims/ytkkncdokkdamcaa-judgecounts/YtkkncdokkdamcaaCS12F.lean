/- Tables of vaults: Fill. Conditions: none. -/
import Derived.Test.YtkkncdokkdamcaaCS12
namespace Go.Proofs.Ytkkncdokkdamcaa
open Go Go.Vm Go.Proofs Go.Cl
set_option linter.unusedSimpArgs false
set_option linter.unusedVariables false
set_option maxRecDepth 100000
theorem TNew_eq (b : Nat) (h : Hp) : run fns pr b 26 [] h = some (.ptr h.length [0] 1, h ++ [.cells (some 99) [.st 99 [.imm true (some 74) []]]]) := by
  suffices hh : ∃ v h', run fns pr b 26 [] h = some (v, h') ∧ v = .ptr h.length [0] 1 ∧ h' = h ++ [.cells (some 99) [.st 99 [.imm true (some 74) []]]] by
    obtain ⟨v, h', e, rfl, rfl⟩ := hh; exact e
  refine Vm.runQ (nt := 3) rfl fit26 (by simp) ?_
  have hvb : (0 : Nat) = 0 := rfl
  try simp only [B26, go_sem, V.s.injEq, Value.bool.injEq, ↓reduceIte, Nat.reduceEqDiff, Nat.reduceBEq, Nat.reduceAdd, Nat.reduceSub, Nat.reduceLT, Nat.reduceLeDiff, Int.reduceLT, Int.reduceLE, Int.reduceEq, Int.reduceToNat, List.append_assoc, List.length_append, Vm.get_app, Vm.set_app, Vm.get_appL, Vm.get_appL0, Vm.set_appL, Vm.set_appL0, Nat.le_refl, Nat.le_add_right, okAt]
  repeat' (
    first | refine wpC_cases ?_ ?_ | refine wpU_casesT ?_ ?_ | refine wpU_casesF ?_ ?_
    all_goals intro hvc
    all_goals first | replace hvc := not_of_true hvc | replace hvc := not_of_false hvc | skip
    all_goals first | subst hvc | replace hvb := And.intro hvc hvb
    all_goals try simp only [hvb, B26, go_sem, V.s.injEq, Value.bool.injEq, ↓reduceIte, Nat.reduceEqDiff, Nat.reduceBEq, Nat.reduceAdd, Nat.reduceSub, Nat.reduceLT, Nat.reduceLeDiff, Int.reduceLT, Int.reduceLE, Int.reduceEq, Int.reduceToNat, List.append_assoc, List.length_append, Vm.get_app, Vm.set_app, Vm.get_appL, Vm.get_appL0, Vm.set_appL, Vm.set_appL0, Nat.le_refl, Nat.le_add_right, okAt])
theorem TFill_ok (b : Nat) (h : Hp) (t k : Nat) (old l : List Vault) (x : V) (hb : b ≤ t) (ho : TR h t k old) (hx : SR h x (some 74) (l.map Vault.enc)) (hl : l.length ≤ 1000) :
    ∃ h' k', run fns pr b 37 [.ptr t [0] 1, x] h = some (.s (.int .i64 (if rising l = true then 0 else 1)), h') ∧ TR h' t k' (if rising l = true then l else old) ∧ Fw [t] h h' ∧ (k' = k ∨ k' = t ∨ h.length ≤ k') := by
  have htl := ho.lt
  have hlx := fun cf base h0 => hx.o_len (cf := cf) (base := base) (h := h0)
  simp only [List.length_map] at hlx
  have hnew := TNew_eq b h
  suffices hh : ∃ w h', run fns pr b 37 [.ptr t [0] 1, x] h = some (w, h') ∧ ((rising l = true ∧ w = .s (.int .i64 0) ∧ ∃ k', TR h' t k' l ∧ Fw [t] h h' ∧ (k' = t ∨ h.length ≤ k')) ∨ (rising l = false ∧ w = .s (.int .i64 1) ∧ Fw [] h h')) by
    obtain ⟨w, h', e, ⟨hr, rfl, k', h1, h2, h3⟩ | ⟨hr, rfl, h1⟩⟩ := hh
    · rw [hr]; exact ⟨h', k', e, h1, h2, .inr h3⟩
    · rw [hr]; exact ⟨h', k, e, ho.mono h1 (by simp) (by simp), h1.mono (by simp), .inl rfl⟩
  refine Vm.runQ (nt := 57) rfl fit37 (by simp) ?_
  by_cases h4 : l.length ≤ 4
  case neg =>
    have h1 : (l.length : Int) > 4 := by omega
    have h2 : rising l = false := by simp [rising, h4]
    have hvb : (0 : Nat) = 0 := rfl
    try simp only [B37, B37R0, B37L0, hlx, h1, h2, go_sem, V.s.injEq, Value.bool.injEq, ↓reduceIte, Nat.reduceEqDiff, Nat.reduceBEq, Nat.reduceAdd, Nat.reduceSub, Nat.reduceLT, Nat.reduceLeDiff, Int.reduceLT, Int.reduceLE, Int.reduceEq, Int.reduceToNat, List.append_assoc, List.length_append, Vm.get_app, Vm.set_app, Vm.get_appL, Vm.get_appL0, Vm.set_appL, Vm.set_appL0, Nat.le_refl, Nat.le_add_right, okAt]
    repeat' (
      first | refine wpC_cases ?_ ?_ | refine wpU_casesT ?_ ?_ | refine wpU_casesF ?_ ?_
      all_goals intro hvc
      all_goals first | replace hvc := not_of_true hvc | replace hvc := not_of_false hvc | skip
      all_goals first | subst hvc | replace hvb := And.intro hvc hvb
      all_goals try simp only [hvb, B37, B37R0, B37L0, hlx, h1, h2, go_sem, V.s.injEq, Value.bool.injEq, ↓reduceIte, Nat.reduceEqDiff, Nat.reduceBEq, Nat.reduceAdd, Nat.reduceSub, Nat.reduceLT, Nat.reduceLeDiff, Int.reduceLT, Int.reduceLE, Int.reduceEq, Int.reduceToNat, List.append_assoc, List.length_append, Vm.get_app, Vm.set_app, Vm.get_appL, Vm.get_appL0, Vm.set_appL, Vm.set_appL0, Nat.le_refl, Nat.le_add_right, okAt])
    exact .inr (Fw.refl _ _)
  have h1 : ¬ (l.length : Int) > 4 := by omega
  have hbn : b ≤ h.length := by omega
  have tt := get_old ho.choose_spec.1
  have hvb : (0 : Nat) = 0 := rfl
  try simp only [B37, B37R0, B37L0, hlx, h1, hnew, go_sem, V.s.injEq, Value.bool.injEq, ↓reduceIte, Nat.reduceEqDiff, Nat.reduceBEq, Nat.reduceAdd, Nat.reduceSub, Nat.reduceLT, Nat.reduceLeDiff, Int.reduceLT, Int.reduceLE, Int.reduceEq, Int.reduceToNat, List.append_assoc, List.length_append, Vm.get_app, Vm.set_app, Vm.get_appL, Vm.get_appL0, Vm.set_appL, Vm.set_appL0, Nat.le_refl, Nat.le_add_right, okAt]
  repeat' (
    first | refine wpC_cases ?_ ?_ | refine wpU_casesT ?_ ?_ | refine wpU_casesF ?_ ?_
    all_goals intro hvc
    all_goals first | replace hvc := not_of_true hvc | replace hvc := not_of_false hvc | skip
    all_goals first | subst hvc | replace hvb := And.intro hvc hvb
    all_goals try simp only [hvb, B37, B37R0, B37L0, hlx, h1, hnew, go_sem, V.s.injEq, Value.bool.injEq, ↓reduceIte, Nat.reduceEqDiff, Nat.reduceBEq, Nat.reduceAdd, Nat.reduceSub, Nat.reduceLT, Nat.reduceLeDiff, Int.reduceLT, Int.reduceLE, Int.reduceEq, Int.reduceToNat, List.append_assoc, List.length_append, Vm.get_app, Vm.set_app, Vm.get_appL, Vm.get_appL0, Vm.set_appL, Vm.set_appL0, Nat.le_refl, Nat.le_add_right, okAt])
  refine wp_for (fun m e H => ∃ i : Nat, m = l.length - i ∧ i ≤ l.length ∧ e 14 = .s (.int .i64 i) ∧ e 13 = .s (.int .i64 l.length) ∧ e 12 = x ∧ e 1 = x ∧ e 0 = .ptr t [0] 1 ∧ e 5 = .ptr h.length [0] 1 ∧
      (l.take i).all rightV = true ∧ Rise (l.take i) ∧ ∃ ko out, H[h.length]? = some (.cells (some 99) [.st 99 [out]]) ∧ XR H (some 74) ko out ((l.take i).map Vault.enc) ∧ Fw [] h H ∧ h.length < ko)
    (fun e H => rising l = true ∧ e 0 = .ptr t [0] 1 ∧ e 5 = .ptr h.length [0] 1 ∧ ∃ ko out, H[h.length]? = some (.cells (some 99) [.st 99 [out]]) ∧ XR H (some 74) ko out (l.map Vault.enc) ∧ Fw [] h H ∧ h.length < ko)
    l.length _ _ ⟨0, by omega, by omega, ?_, ?_, ?_, ?_, ?_, ?_, rfl, List.Pairwise.nil, h.length + 1, .imm true (some 74) [], get_app0 _ _, .inl ⟨rfl, rfl⟩, Fw.app _ _ _, by omega⟩ ?_ ?_
  rotate_right 2
  · rintro m e H ⟨i, rfl, hi, e14, e13, e12, e1', e0', e5, ha, hri, ko, out, hn, xr, fw, hko⟩
    have hxH := hx.fw fw
    by_cases c : i < l.length
    · have c' : (i : Int) < l.length := by omega
      have hv : l[i]? = some l[i] := List.getElem?_eq_getElem c
      have htk : l.take (i + 1) = l.take i ++ [l[i]] := by rw [List.take_add_one, hv]; rfl
      have hmem : l[i] ∈ l := List.getElem_mem _
      generalize l[i] = v at hv htk hmem
      have hia := fun cf base => hxH.o_ias (cf := cf) (base := base) (k := .i64) (i := i) (by simpa using c)
      have hlo := fun cf base => hxH.o_ld (cf := cf) (base := base) (i := i) (v := v.enc) (by rw [List.getElem?_map, hv]; rfl) rfl
      have hrv := fun h0 => RightVaultF_ok b h0 false v
      simp only [← Vault.enc_F] at hrv
      have hwr : IntKind.i64.wrap ((i : Int) + 1) = ((i + 1 : Nat) : Int) := wrap_small (by omega)
      have gr := enc_ground v
      have hfl := fw.len
      have fw1 : Fw [] h (H ++ [.cells (some 74) [v.enc]]) := fw.trans (Fw.app _ _ _)
      cases hr : rightV v with
      | false =>
        have hbad : rising l = false := by
          simp only [rising, Bool.and_eq_false_iff, List.all_eq_false]
          exact .inl (.inr ⟨v, hmem, by simp [hr]⟩)
        have hvb : (0 : Nat) = 0 := rfl
        try simp only [e14, e13, e12, e1', e0', e5, c', hia, hlo, hrv, hr, gr, enc_tyV, enc_soV, go_sem, V.s.injEq, Value.bool.injEq, ↓reduceIte, Nat.reduceEqDiff, Nat.reduceBEq, Nat.reduceAdd, Nat.reduceSub, Nat.reduceLT, Nat.reduceLeDiff, Int.reduceLT, Int.reduceLE, Int.reduceEq, Int.reduceToNat, List.append_assoc, List.length_append, Vm.get_app, Vm.set_app, Vm.get_appL, Vm.get_appL0, Vm.set_appL, Vm.set_appL0, Nat.le_refl, Nat.le_add_right, okAt]
        repeat' (
          first | refine wpC_cases ?_ ?_ | refine wpU_casesT ?_ ?_ | refine wpU_casesF ?_ ?_
          all_goals intro hvc
          all_goals first | replace hvc := not_of_true hvc | replace hvc := not_of_false hvc | skip
          all_goals first | subst hvc | replace hvb := And.intro hvc hvb
          all_goals try simp only [hvb, e14, e13, e12, e1', e0', e5, c', hia, hlo, hrv, hr, gr, enc_tyV, enc_soV, go_sem, V.s.injEq, Value.bool.injEq, ↓reduceIte, Nat.reduceEqDiff, Nat.reduceBEq, Nat.reduceAdd, Nat.reduceSub, Nat.reduceLT, Nat.reduceLeDiff, Int.reduceLT, Int.reduceLE, Int.reduceEq, Int.reduceToNat, List.append_assoc, List.length_append, Vm.get_app, Vm.set_app, Vm.get_appL, Vm.get_appL0, Vm.set_appL, Vm.set_appL0, Nat.le_refl, Nat.le_add_right, okAt])
        all_goals first | exact .inr ⟨hbad, rfl, fw1⟩ | exact .inr ⟨hbad, fw1⟩ | (rw [hbad]; simp; exact fw1)
      | true =>
        have hall : (l.take (i + 1)).all rightV = true := by rw [htk, List.all_append, ha]; simp [hr]
        have how := fun h0 => town_ok b h0 false v (by have := right_secretV hr; omega)
        rw [← Vault.enc_F] at how
        obtain ⟨x', H', k', hap, xr', fw', hk', hoth⟩ := xr.app1 (h := h) (T := [.cells (some 74) [v.enc], .cells (some 74) [v.enc]]) (idy := H.length + 1) (z := v.enc) (bytes := 96) (by omega) fw (by rw [get_app]; rfl) gr (by simp; omega)
        have hn' : H'[h.length]? = some (.cells (some 99) [.st 99 [out]]) := hoth _ _ (by omega) (get_old hn _)
        have hgn := fun T => get_old hn T
        obtain ⟨ht1, ht2⟩ := xr.ty
        obtain ⟨ht3, ht4⟩ := xr'.ty
        have hdn : decide (b ≤ h.length) = true := by simp [hbn]
        have hfin : Rise (l.take (i + 1)) → ∃ m', m' < l.length - i ∧ ∃ j : Nat, m' = l.length - j ∧ j ≤ l.length ∧ ((i + 1 : Nat) : Int) = j ∧ (l.take j).all rightV = true ∧ Rise (l.take j) ∧ ∃ ko out, (H'.set h.length (.cells (some 99) [.st 99 [x']]))[h.length]? = some (.cells (some 99) [.st 99 [out]]) ∧ XR (H'.set h.length (.cells (some 99) [.st 99 [x']])) (some 74) ko out ((l.take j).map Vault.enc) ∧ Fw [] h (H'.set h.length (.cells (some 99) [.st 99 [x']])) ∧ h.length < ko := by
          intro hri'
          have hk2 : h.length < k' := by rcases hk' with rfl | hk'; exact hko; simp at hk'; omega
          refine ⟨l.length - (i + 1), by omega, i + 1, rfl, by omega, rfl, hall, hri', k', x', set_get hn', ?_, fw'.set_new (Nat.le_refl _) _, hk2⟩
          rw [htk, List.map_append]
          rcases xr' with ⟨rfl, h0⟩ | ⟨rfl, h0⟩
          · simp at h0
          · exact .inr ⟨rfl, by rw [List.getElem?_set_ne (by omega)]; exact h0⟩
        cases i with
        | zero =>
          have z : ¬ ((0 : Nat) : Int) > 0 := by decide
          have hvb : (0 : Nat) = 0 := rfl
          try simp only [e14, e13, e12, e1', e0', e5, c', hia, hlo, hrv, hr, gr, enc_tyV, enc_soV, z, how, hgn, hn, ht1, ht2, ht3, ht4, hap, hn', hdn, hwr, go_sem, V.s.injEq, Value.bool.injEq, ↓reduceIte, Nat.reduceEqDiff, Nat.reduceBEq, Nat.reduceAdd, Nat.reduceSub, Nat.reduceLT, Nat.reduceLeDiff, Int.reduceLT, Int.reduceLE, Int.reduceEq, Int.reduceToNat, List.append_assoc, List.length_append, Vm.get_app, Vm.set_app, Vm.get_appL, Vm.get_appL0, Vm.set_appL, Vm.set_appL0, Nat.le_refl, Nat.le_add_right, okAt]
          repeat' (
            first | refine wpC_cases ?_ ?_ | refine wpU_casesT ?_ ?_ | refine wpU_casesF ?_ ?_
            all_goals intro hvc
            all_goals first | replace hvc := not_of_true hvc | replace hvc := not_of_false hvc | skip
            all_goals first | subst hvc | replace hvb := And.intro hvc hvb
            all_goals try simp only [hvb, e14, e13, e12, e1', e0', e5, c', hia, hlo, hrv, hr, gr, enc_tyV, enc_soV, z, how, hgn, hn, ht1, ht2, ht3, ht4, hap, hn', hdn, hwr, go_sem, V.s.injEq, Value.bool.injEq, ↓reduceIte, Nat.reduceEqDiff, Nat.reduceBEq, Nat.reduceAdd, Nat.reduceSub, Nat.reduceLT, Nat.reduceLeDiff, Int.reduceLT, Int.reduceLE, Int.reduceEq, Int.reduceToNat, List.append_assoc, List.length_append, Vm.get_app, Vm.set_app, Vm.get_appL, Vm.get_appL0, Vm.set_appL, Vm.set_appL0, Nat.le_refl, Nat.le_add_right, okAt])
          obtain ⟨m', q1, j, q2, q3, q4, q5⟩ := hfin (by rw [htk]; simp [Rise])
          exact ⟨m', q1, j, q2, q3, congrArg _ q4, q5⟩
        | succ i =>
          have z : ((i + 1 : Nat) : Int) > 0 := by omega
          have hw : l[i]? = some l[i] := List.getElem?_eq_getElem (by omega)
          generalize l[i] = w at hw
          have hws : IntKind.i64.wrap (((i + 1 : Nat) : Int) - 1) = (i : Int) := by rw [show ((i + 1 : Nat) : Int) - 1 = i by omega, wrap_i64 (by omega) (by omega)]
          have hwe : (l.map Vault.enc)[i]? = some w.enc := by rw [List.getElem?_map, hw]; rfl
          have hib := fun cf base T => (hxH.app T).o_ias (cf := cf) (base := base) (k := .i64) (i := i) (by simp; omega)
          have fa2 := fun cf base T => (hxH.app T).o_fa (cf := cf) (base := base) (f := 0) hwe (by simp [Vault.enc])
          have sl2 := fun cf base T => (hxH.app T).o_slf (cf := cf) (base := base) (f := 0) (g' := none) hwe (by simp [Vault.enc]; exact ⟨rfl, rfl⟩)
          have el2 := fun T => SR_el_slf (hxH.app T) (f := 0) (g' := none) hwe (by simp [Vault.enc]; exact ⟨rfl, rfl⟩)
          simp only [List.length_map] at sl2 el2
          have hcr := fun x y h0 => cmp_run b x y h0
          simp only [Vault.enc] at hlo hrv how hap gr
          by_cases hc : cmpB w.iD v.iD < 0
          · have hc' : ¬ (0 ≤ cmpB w.iD v.iD) := by omega
            have hvb : (0 : Nat) = 0 := rfl
            try simp only [e14, e13, e12, e1', e0', e5, c', hia, hlo, hrv, hr, gr, z, how, hgn, hn, ht1, ht2, ht3, ht4, hap, hn', hdn, hwr, hws, hib, fa2, sl2, el2, hcr, hc', go_sem, V.s.injEq, Value.bool.injEq, ↓reduceIte, Nat.reduceEqDiff, Nat.reduceBEq, Nat.reduceAdd, Nat.reduceSub, Nat.reduceLT, Nat.reduceLeDiff, Int.reduceLT, Int.reduceLE, Int.reduceEq, Int.reduceToNat, List.append_assoc, List.length_append, Vm.get_app, Vm.set_app, Vm.get_appL, Vm.get_appL0, Vm.set_appL, Vm.set_appL0, Nat.le_refl, Nat.le_add_right, okAt]
            repeat' (
              first | refine wpC_cases ?_ ?_ | refine wpU_casesT ?_ ?_ | refine wpU_casesF ?_ ?_
              all_goals intro hvc
              all_goals first | replace hvc := not_of_true hvc | replace hvc := not_of_false hvc | skip
              all_goals first | subst hvc | replace hvb := And.intro hvc hvb
              all_goals try simp only [hvb, e14, e13, e12, e1', e0', e5, c', hia, hlo, hrv, hr, gr, z, how, hgn, hn, ht1, ht2, ht3, ht4, hap, hn', hdn, hwr, hws, hib, fa2, sl2, el2, hcr, hc', go_sem, V.s.injEq, Value.bool.injEq, ↓reduceIte, Nat.reduceEqDiff, Nat.reduceBEq, Nat.reduceAdd, Nat.reduceSub, Nat.reduceLT, Nat.reduceLeDiff, Int.reduceLT, Int.reduceLE, Int.reduceEq, Int.reduceToNat, List.append_assoc, List.length_append, Vm.get_app, Vm.set_app, Vm.get_appL, Vm.get_appL0, Vm.set_appL, Vm.set_appL0, Nat.le_refl, Nat.le_add_right, okAt])
            obtain ⟨m', q1, j, q2, q3, q4, q5⟩ := hfin (Rise_snoc hri hw hv hc)
            exact ⟨m', q1, j, q2, q3, congrArg _ q4, q5⟩
          · have hc' : 0 ≤ cmpB w.iD v.iD := by omega
            have hbad : rising l = false := by
              simp only [rising, Bool.and_eq_false_iff, decide_eq_false_iff_not]
              exact .inr (Rise_bad hw hv hc)
            have hvb : (0 : Nat) = 0 := rfl
            try simp only [e14, e13, e12, e1', e0', e5, c', hia, hlo, hrv, hr, gr, z, hws, hib, fa2, sl2, el2, hcr, hc', go_sem, V.s.injEq, Value.bool.injEq, ↓reduceIte, Nat.reduceEqDiff, Nat.reduceBEq, Nat.reduceAdd, Nat.reduceSub, Nat.reduceLT, Nat.reduceLeDiff, Int.reduceLT, Int.reduceLE, Int.reduceEq, Int.reduceToNat, List.append_assoc, List.length_append, Vm.get_app, Vm.set_app, Vm.get_appL, Vm.get_appL0, Vm.set_appL, Vm.set_appL0, Nat.le_refl, Nat.le_add_right, okAt]
            repeat' (
              first | refine wpC_cases ?_ ?_ | refine wpU_casesT ?_ ?_ | refine wpU_casesF ?_ ?_
              all_goals intro hvc
              all_goals first | replace hvc := not_of_true hvc | replace hvc := not_of_false hvc | skip
              all_goals first | subst hvc | replace hvb := And.intro hvc hvb
              all_goals try simp only [hvb, e14, e13, e12, e1', e0', e5, c', hia, hlo, hrv, hr, gr, z, hws, hib, fa2, sl2, el2, hcr, hc', go_sem, V.s.injEq, Value.bool.injEq, ↓reduceIte, Nat.reduceEqDiff, Nat.reduceBEq, Nat.reduceAdd, Nat.reduceSub, Nat.reduceLT, Nat.reduceLeDiff, Int.reduceLT, Int.reduceLE, Int.reduceEq, Int.reduceToNat, List.append_assoc, List.length_append, Vm.get_app, Vm.set_app, Vm.get_appL, Vm.get_appL0, Vm.set_appL, Vm.set_appL0, Nat.le_refl, Nat.le_add_right, okAt])
            all_goals first | exact .inr ⟨hbad, rfl, fw1⟩ | exact .inr ⟨hbad, fw1⟩ | (rw [hbad]; simp; exact fw1)
    · have c' : ¬ (i : Int) < l.length := by omega
      rw [List.take_of_length_le (by omega)] at ha hri xr
      have hq : rising l = true := by
        simp [rising, h4, ha, hri]
      have hvb : (0 : Nat) = 0 := rfl
      try simp only [e14, e13, e12, e1', e0', e5, c', go_sem, V.s.injEq, Value.bool.injEq, ↓reduceIte, Nat.reduceEqDiff, Nat.reduceBEq, Nat.reduceAdd, Nat.reduceSub, Nat.reduceLT, Nat.reduceLeDiff, Int.reduceLT, Int.reduceLE, Int.reduceEq, Int.reduceToNat, List.append_assoc, List.length_append, Vm.get_app, Vm.set_app, Vm.get_appL, Vm.get_appL0, Vm.set_appL, Vm.set_appL0, Nat.le_refl, Nat.le_add_right, okAt]
      repeat' (
        first | refine wpC_cases ?_ ?_ | refine wpU_casesT ?_ ?_ | refine wpU_casesF ?_ ?_
        all_goals intro hvc
        all_goals first | replace hvc := not_of_true hvc | replace hvc := not_of_false hvc | skip
        all_goals first | subst hvc | replace hvb := And.intro hvc hvb
        all_goals try simp only [hvb, e14, e13, e12, e1', e0', e5, c', go_sem, V.s.injEq, Value.bool.injEq, ↓reduceIte, Nat.reduceEqDiff, Nat.reduceBEq, Nat.reduceAdd, Nat.reduceSub, Nat.reduceLT, Nat.reduceLeDiff, Int.reduceLT, Int.reduceLE, Int.reduceEq, Int.reduceToNat, List.append_assoc, List.length_append, Vm.get_app, Vm.set_app, Vm.get_appL, Vm.get_appL0, Vm.set_appL, Vm.set_appL0, Nat.le_refl, Nat.le_add_right, okAt])
      exact ⟨hq, ko, out, hn, xr, fw, hko⟩
  · rintro e H ⟨hq, e0', e5, ko, out, hn, xr, fw, hko⟩
    obtain ⟨y, tt1, tt2⟩ := ho
    have tH := fw.old _ _ tt1 (by simp)
    have hdn : decide (b ≤ t) = true := by simp [hb]
    obtain ⟨ht1, ht2⟩ := xr.ty
    have hyt : y.ty = none := by rcases tt2 with ⟨rfl, _⟩ | ⟨rfl, _⟩ <;> rfl
    have hvb : (0 : Nat) = 0 := rfl
    try simp only [e0', e5, hn, tH, ht1, ht2, hdn, hyt, go_sem, V.s.injEq, Value.bool.injEq, ↓reduceIte, Nat.reduceEqDiff, Nat.reduceBEq, Nat.reduceAdd, Nat.reduceSub, Nat.reduceLT, Nat.reduceLeDiff, Int.reduceLT, Int.reduceLE, Int.reduceEq, Int.reduceToNat, List.append_assoc, List.length_append, Vm.get_app, Vm.set_app, Vm.get_appL, Vm.get_appL0, Vm.set_appL, Vm.set_appL0, Nat.le_refl, Nat.le_add_right, okAt]
    repeat' (
      first | refine wpC_cases ?_ ?_ | refine wpU_casesT ?_ ?_ | refine wpU_casesF ?_ ?_
      all_goals intro hvc
      all_goals first | replace hvc := not_of_true hvc | replace hvc := not_of_false hvc | skip
      all_goals first | subst hvc | replace hvb := And.intro hvc hvb
      all_goals try simp only [hvb, e0', e5, hn, tH, ht1, ht2, hdn, hyt, go_sem, V.s.injEq, Value.bool.injEq, ↓reduceIte, Nat.reduceEqDiff, Nat.reduceBEq, Nat.reduceAdd, Nat.reduceSub, Nat.reduceLT, Nat.reduceLeDiff, Int.reduceLT, Int.reduceLE, Int.reduceEq, Int.reduceToNat, List.append_assoc, List.length_append, Vm.get_app, Vm.set_app, Vm.get_appL, Vm.get_appL0, Vm.set_appL, Vm.set_appL0, Nat.le_refl, Nat.le_add_right, okAt])
    left
    have fwt : Fw [t] h (H.set t (.cells (some 99) [.st 99 [out]])) := (fw.mono (by simp)).trans (Fw.set (by simp) tH)
    rcases xr with ⟨rfl, h0⟩ | ⟨rfl, h0⟩
    · have : l = [] := by simpa using h0
      subst this
      first
        | exact ⟨hq, rfl, t, ⟨_, set_get tH, .inl ⟨rfl, rfl, rfl⟩⟩, fwt, .inl rfl⟩
        | exact ⟨hq, t, ⟨_, set_get tH, .inl ⟨rfl, rfl, rfl⟩⟩, fwt, .inl rfl⟩
    · have hne : t ≠ ko := by omega
      have q : TR (H.set t (.cells (some 99) [.st 99 [.ref ko [] (some 74) 0 (l.map Vault.enc).length (l.map Vault.enc).length]])) t ko l := ⟨_, set_get tH, .inr ⟨by rw [List.length_map], Ne.symm hne, by rw [List.getElem?_set_ne hne]; exact h0⟩⟩
      first
        | exact ⟨hq, rfl, ko, q, fwt, .inr (by omega)⟩
        | exact ⟨hq, ko, q, fwt, .inr (by omega)⟩
  all_goals rfl
end Go.Proofs.Ytkkncdokkdamcaa
