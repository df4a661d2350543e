/- Tables against a plain list: placed. Conditions: none. -/
import Derived.Test.YtdhgcdkinehomaaCS12L
namespace Go.Proofs.Ytdhgcdkinehomaa
open Go Go.Vm Go.Proofs Go.Cl
set_option linter.unusedSimpArgs false
set_option linter.unusedVariables false
set_option maxRecDepth 100000
def placedT (l : List Vault) (v : Vault) : List Vault := (l.filter fun w => decide (cmpB w.iD v.iD < 0)) ++ [v] ++ l.filter fun w => decide (0 < cmpB w.iD v.iD)
theorem filter_lt {l : List Vault} (hr : Rise l) (id : Bs) : (l.filter fun w => decide (cmpB w.iD id < 0)) = l.take (pos l id) := by
  induction l with
  | nil => rfl
  | cons w l ih =>
    obtain ⟨h1, h2⟩ := List.pairwise_cons.1 hr
    by_cases hw : cmpB w.iD id < 0
    · have e : pos (w :: l) id = pos l id + 1 := by simp [pos, hw]
      rw [e, List.filter_cons_of_pos (by simpa using hw), ih h2]; rfl
    · have hz : ∀ x ∈ l, ¬ cmpB x.iD id < 0 := fun x hx h => hw (cmp_trans _ _ _ (h1 x hx) h)
      have e : pos (w :: l) id = 0 := by
        rw [pos, List.countP_eq_zero]
        intro x hx
        rcases List.mem_cons.1 hx with rfl | hx
        · simpa using hw
        · simpa using hz x hx
      rw [e, List.take_zero, List.filter_eq_nil_iff]
      intro x hx
      rcases List.mem_cons.1 hx with rfl | hx
      · simpa using hw
      · simpa using hz x hx
theorem filter_gt {l : List Vault} (hr : Rise l) (id : Bs) : (l.filter fun w => decide (0 < cmpB w.iD id)) = if (l[pos l id]?).map Vault.iD = some id then l.drop (pos l id + 1) else l.drop (pos l id) := by
  induction l with
  | nil => rfl
  | cons w l ih =>
    obtain ⟨h1, h2⟩ := List.pairwise_cons.1 hr
    by_cases hw : cmpB w.iD id < 0
    · have e : pos (w :: l) id = pos l id + 1 := by simp [pos, hw]
      rw [e, List.filter_cons_of_neg (by simp; omega), ih h2]
      simp only [List.getElem?_cons_succ, List.drop_succ_cons]
    · have hz : ∀ x ∈ l, 0 < cmpB x.iD id := fun x hx => by
        have a1 := h1 x hx
        have a2 := cmp_anti x.iD id
        rcases Int.lt_or_le 0 (cmpB x.iD id) with h | h
        · exact h
        · exfalso
          rcases Int.lt_or_eq_of_le h with h | h
          · exact hw (cmp_trans _ _ _ a1 h)
          · rw [cmp_zero _ _ h] at a1; exact hw a1
      have e : pos (w :: l) id = 0 := by
        rw [pos, List.countP_eq_zero]
        intro x hx
        rcases List.mem_cons.1 hx with rfl | hx
        · simpa using hw
        · have := hz x hx; simp; omega
      have hl : l.filter (fun w => decide (0 < cmpB w.iD id)) = l := List.filter_eq_self.2 fun x hx => by simpa using hz x hx
      rw [e]
      simp only [List.getElem?_cons_zero, Option.map_some, Option.some.injEq, Nat.zero_add, List.drop_succ_cons, List.drop_zero]
      by_cases hi : w.iD = id
      · rw [if_pos hi, List.filter_cons_of_neg (by rw [hi]; simp [cmp_self]), hl]
      · rw [if_neg hi, List.filter_cons_of_pos (by
          have : cmpB w.iD id ≠ 0 := fun h => hi (cmp_zero _ _ h)
          simp; omega), hl]
theorem putT_placed {l : List Vault} {v : Vault} (hr : Rise l) (h : (putT l v).1 = 0) : (putT l v).2 = placedT l v := by
  unfold placedT
  rw [filter_lt hr, filter_gt hr]
  unfold putT at h ⊢
  split
  · rename_i h1; rw [if_pos h1] at h; cases h
  · rename_i h1
    rw [if_neg h1] at h
    split
    · rename_i h2
      have hlt : pos l v.iD < l.length := by
        cases hp : l[pos l v.iD]? with
        | none => rw [hp] at h2; cases h2
        | some w => exact (List.getElem?_eq_some_iff.1 hp).1
      rw [List.set_eq_take_append_cons_drop, if_pos hlt]; simp
    · rename_i h2
      rw [if_neg h2] at h
      split
      · rename_i h3; rw [if_pos h3] at h; cases h
      · rfl
theorem pos_eq {l : List Vault} (hr : Rise l) {j : Nat} {w : Vault} {id : Bs} (h : l[j]? = some w) (hw : w.iD = id) : pos l id = j := by
  have h1 := pos_lt (id := id) hr h
  rw [hw, cmp_self] at h1
  have h2 : ¬ j < pos l id := fun h => absurd (h1.2 h) (by decide)
  rcases Nat.lt_or_ge (pos l id) j with h3 | h3
  · have hj := (List.getElem?_eq_some_iff.1 h).1
    have hp : l[pos l id]? = some l[pos l id] := List.getElem?_eq_getElem (by omega)
    have h4 := pos_lt (id := id) hr hp
    have h5 := List.pairwise_iff_getElem.1 hr (pos l id) j (by omega) hj h3
    have h6 : l[j] = w := (List.getElem?_eq_some_iff.1 h).2
    rw [h6, hw] at h5
    exact absurd (h4.1 h5) (by omega)
  · omega
theorem place_rise {l : List Vault} (hr : Rise l) (v : Vault) : Rise (placedT l v) := by
  unfold Rise placedT
  have f1 : (l.filter fun w => decide (cmpB w.iD v.iD < 0)).Pairwise fun v w => cmpB v.iD w.iD < 0 := hr.sublist List.filter_sublist
  have f2 : (l.filter fun w => decide (0 < cmpB w.iD v.iD)).Pairwise fun v w => cmpB v.iD w.iD < 0 := hr.sublist List.filter_sublist
  refine List.pairwise_append.2 ⟨List.pairwise_append.2 ⟨f1, by simp, ?_⟩, f2, ?_⟩
  · intro a ha b hb
    simp at ha hb; subst hb; exact ha.2
  · intro a ha b hb
    have hb' : cmpB v.iD b.iD < 0 := by
      have := (List.mem_filter.1 hb).2
      have q := cmp_anti b.iD v.iD
      simp at this; omega
    rcases List.mem_append.1 ha with ha | ha
    · have := (List.mem_filter.1 ha).2
      exact cmp_trans _ _ _ (by simpa using this) hb'
    · simp at ha; subst ha; exact hb'
theorem o_sgtr_cmp (a b : Bs) (cf : CF) (base : Nat) (h : Hp) : opV cf base h (.bin .num .gtr) [.s (.string ⟨a.toArray⟩), .s (.string ⟨b.toArray⟩)] = some (.s (.bool (decide (0 < cmpB a b))), h) := by
  have : opV cf base h (.bin .num .gtr) [.s (.string ⟨a.toArray⟩), .s (.string ⟨b.toArray⟩)] = some (.s (.bool !(Op.bytesLess (ByteArray.mk a.toArray).toList (ByteArray.mk b.toArray).toList || (ByteArray.mk a.toArray).toList == (ByteArray.mk b.toArray).toList)), h) := rfl
  rw [this, toList_mk, toList_mk, less_cmp]
  have h1 : (a == b) = decide (cmpB a b = 0) := by
    rw [Bool.eq_iff_iff]; simp
    exact ⟨fun h => by rw [h]; exact cmp_self _, cmp_zero _ _⟩
  rw [h1]
  congr 4
  rw [Bool.eq_iff_iff]
  simp
  omega
theorem placed_ok (b : Nat) (h : Hp) (x : V) (l : List Vault) (v : Vault) (hx : SR h x (some 29) (l.map Vault.enc)) (hl : l.length ≤ 1000) :
    run fns pr b 55 [x, v.enc] h = some (.imm false (some 29) ((placedT l v).map Vault.enc), h) := by
  refine Vm.runP (nt := 59) rfl fit55 (by simp) ?_
  have hlx := fun cf base h0 => hx.o_len (cf := cf) (base := base) (h := h0)
  simp only [List.length_map] at hlx
  have hve : v.enc = .st 29 [.arr 23 (v.iD.map byteV), .s (.int .u64 v.gen), .arr 26 (v.pin.map byteV), .imm false none (v.secret.map byteV), .s (.int .i64 v.limit), .s (.int .i64 v.used), .arr 26 (v.owner.map byteV), .s (.bool v.gone), .s (.bool v.wiped)] := rfl
  obtain ⟨h1, hh1⟩ : ∃ h1, h1 = h ++ [.cells (some 29) [v.enc]] := ⟨_, rfl⟩
  have hx1 : SR h1 x (some 29) (l.map Vault.enc) := by rw [hh1]; exact hx.app _
  have hv1 : h1[h.length]? = some (.cells (some 29) [v.enc]) := by rw [hh1]; exact get_app0 _ _
  have hh1' := hh1.symm
  have hl1 : h1.length = h.length + 1 := by rw [hh1]; simp
  have hvb : (0 : Nat) = 0 := rfl
  try simp only [B55, B55L0, enc_tyV, enc_soV, enc_ground, hh1', go_sem, V.s.injEq, Value.bool.injEq, ↓reduceIte, Nat.reduceEqDiff, Nat.reduceBEq, Nat.reduceAdd, Nat.reduceSub, Nat.reduceLT, Nat.reduceLeDiff, Int.reduceLT, Int.reduceLE, Int.reduceEq, Int.reduceToNat, List.append_assoc, List.length_append, Vm.get_app, Vm.set_app, Vm.get_appL, Vm.get_appL0, Vm.set_appL, Vm.set_appL0, Nat.le_refl, Nat.le_add_right, okAt]
  repeat' (
    first | refine wpC_cases ?_ ?_ | refine wpU_casesT ?_ ?_ | refine wpU_casesF ?_ ?_
    all_goals intro hvc
    all_goals first | replace hvc := not_of_true hvc | replace hvc := not_of_false hvc | skip
    all_goals first | subst hvc | replace hvb := And.intro hvc hvb
    all_goals try simp only [hvb, B55, B55L0, enc_tyV, enc_soV, enc_ground, hh1', go_sem, V.s.injEq, Value.bool.injEq, ↓reduceIte, Nat.reduceEqDiff, Nat.reduceBEq, Nat.reduceAdd, Nat.reduceSub, Nat.reduceLT, Nat.reduceLeDiff, Int.reduceLT, Int.reduceLE, Int.reduceEq, Int.reduceToNat, List.append_assoc, List.length_append, Vm.get_app, Vm.set_app, Vm.get_appL, Vm.get_appL0, Vm.set_appL, Vm.set_appL0, Nat.le_refl, Nat.le_add_right, okAt])
  refine wp_for (fun m e H => ∃ i : Nat, m = l.length - i ∧ i ≤ l.length ∧ e 6 = .s (.int .i64 i) ∧ e 0 = x ∧ e 3 = .ptr h.length [0] 1 ∧ ∃ ko out, e 5 = out ∧ LR H (some 29) ko out (((l.take i).filter fun w => decide (cmpB w.iD v.iD < 0)).map Vault.enc) ∧ Fw [] h1 H ∧ h1.length ≤ ko)
    (fun e H => e 0 = x ∧ e 3 = .ptr h.length [0] 1 ∧ ∃ ko out, e 5 = out ∧ LR H (some 29) ko out ((l.filter fun w => decide (cmpB w.iD v.iD < 0)).map Vault.enc) ∧ Fw [] h1 H ∧ h1.length ≤ ko)
    l.length _ _ ⟨0, by omega, by omega, ?_, ?_, ?_, h1.length, .imm true (some 29) [], ?_, .inl ⟨rfl, rfl⟩, Fw.refl _ _, Nat.le_refl _⟩ ?_ ?_
  rotate_right 2
  · rintro m e H ⟨i, rfl, hi, e6, e0', e3, ko, out, e5, lr, fw, hko⟩
    by_cases c : i < l.length
    · have c' : (i : Int) < l.length := by omega
      have hxH := hx1.fw fw
      have hw : l[i]? = some l[i] := List.getElem?_eq_getElem c
      have htk : l.take (i + 1) = l.take i ++ [l[i]] := by rw [List.take_add_one, hw]; rfl
      generalize l[i] = w at hw htk
      have hwe : (l.map Vault.enc)[i]? = some w.enc := by rw [List.getElem?_map, hw]; rfl
      have hib := fun cf base => hxH.o_ias (cf := cf) (base := base) (k := .i64) (i := i) (by simp; omega)
      have hlo := fun cf base => hxH.o_ld (cf := cf) (base := base) (i := i) (v := w.enc) hwe rfl
      have fa2 := fun cf base => hxH.o_fa (cf := cf) (base := base) (f := 0) hwe (by simp [Vault.enc])
      have sl2 := fun cf base => hxH.o_slf (cf := cf) (base := base) (f := 0) (g' := none) hwe (by simp [Vault.enc]; exact ⟨rfl, rfl⟩)
      have el2 := SR_el_slf hxH (f := 0) (g' := none) hwe (by simp [Vault.enc]; exact ⟨rfl, rfl⟩)
      simp only [List.length_map] at sl2 el2
      have hvH := fw.old _ _ hv1 (by simp)
      rw [hve] at hvH
      have hless := less_cmp w.iD v.iD
      have hwr : IntKind.i64.wrap ((i : Int) + 1) = ((i + 1 : Nat) : Int) := wrap_small (by omega)
      have hcnt : ((l.take i).filter fun w => decide (cmpB w.iD v.iD < 0)).length ≤ i := Nat.le_trans (List.length_filter_le _ _) (by simp; omega)
      have gr := enc_ground w
      by_cases hc : cmpB w.iD v.iD < 0
      · obtain ⟨x', H', k', hap, lr', fw', hk'⟩ := lr.app1 (T := [.cells (some 29) [w.enc]]) (idy := H.length) (z := w.enc) (bytes := 96) hko fw (by rw [get_app0]; rfl) gr (by rw [List.length_map]; omega)
        have hvb : (0 : Nat) = 0 := rfl
        try simp only [e6, e0', e3, e5, hlx, c', hib, fa2, sl2, el2, hvH, o_b2sE, o_slss, toList_mk, hless, hc, hlo, enc_tyV, enc_soV, hap, hwr, go_sem, V.s.injEq, Value.bool.injEq, ↓reduceIte, Nat.reduceEqDiff, Nat.reduceBEq, Nat.reduceAdd, Nat.reduceSub, Nat.reduceLT, Nat.reduceLeDiff, Int.reduceLT, Int.reduceLE, Int.reduceEq, Int.reduceToNat, List.append_assoc, List.length_append, Vm.get_app, Vm.set_app, Vm.get_appL, Vm.get_appL0, Vm.set_appL, Vm.set_appL0, Nat.le_refl, Nat.le_add_right, okAt]
        repeat' (
          first | refine wpC_cases ?_ ?_ | refine wpU_casesT ?_ ?_ | refine wpU_casesF ?_ ?_
          all_goals intro hvc
          all_goals first | replace hvc := not_of_true hvc | replace hvc := not_of_false hvc | skip
          all_goals first | subst hvc | replace hvb := And.intro hvc hvb
          all_goals try simp only [hvb, e6, e0', e3, e5, hlx, c', hib, fa2, sl2, el2, hvH, o_b2sE, o_slss, toList_mk, hless, hc, hlo, enc_tyV, enc_soV, hap, hwr, go_sem, V.s.injEq, Value.bool.injEq, ↓reduceIte, Nat.reduceEqDiff, Nat.reduceBEq, Nat.reduceAdd, Nat.reduceSub, Nat.reduceLT, Nat.reduceLeDiff, Int.reduceLT, Int.reduceLE, Int.reduceEq, Int.reduceToNat, List.append_assoc, List.length_append, Vm.get_app, Vm.set_app, Vm.get_appL, Vm.get_appL0, Vm.set_appL, Vm.set_appL0, Nat.le_refl, Nat.le_add_right, okAt])
        exact ⟨l.length - (i + 1), by omega, i + 1, rfl, by omega, rfl, k', x', rfl, by rw [htk, List.filter_append, List.map_append, List.filter_cons_of_pos (by simpa using hc)]; exact lr', fw', hk'⟩
      · have hvb : (0 : Nat) = 0 := rfl
        try simp only [e6, e0', e3, e5, hlx, c', hib, fa2, sl2, el2, hvH, o_b2sE, o_slss, toList_mk, hless, hc, hwr, go_sem, V.s.injEq, Value.bool.injEq, ↓reduceIte, Nat.reduceEqDiff, Nat.reduceBEq, Nat.reduceAdd, Nat.reduceSub, Nat.reduceLT, Nat.reduceLeDiff, Int.reduceLT, Int.reduceLE, Int.reduceEq, Int.reduceToNat, List.append_assoc, List.length_append, Vm.get_app, Vm.set_app, Vm.get_appL, Vm.get_appL0, Vm.set_appL, Vm.set_appL0, Nat.le_refl, Nat.le_add_right, okAt]
        repeat' (
          first | refine wpC_cases ?_ ?_ | refine wpU_casesT ?_ ?_ | refine wpU_casesF ?_ ?_
          all_goals intro hvc
          all_goals first | replace hvc := not_of_true hvc | replace hvc := not_of_false hvc | skip
          all_goals first | subst hvc | replace hvb := And.intro hvc hvb
          all_goals try simp only [hvb, e6, e0', e3, e5, hlx, c', hib, fa2, sl2, el2, hvH, o_b2sE, o_slss, toList_mk, hless, hc, hwr, go_sem, V.s.injEq, Value.bool.injEq, ↓reduceIte, Nat.reduceEqDiff, Nat.reduceBEq, Nat.reduceAdd, Nat.reduceSub, Nat.reduceLT, Nat.reduceLeDiff, Int.reduceLT, Int.reduceLE, Int.reduceEq, Int.reduceToNat, List.append_assoc, List.length_append, Vm.get_app, Vm.set_app, Vm.get_appL, Vm.get_appL0, Vm.set_appL, Vm.set_appL0, Nat.le_refl, Nat.le_add_right, okAt])
        exact ⟨l.length - (i + 1), by omega, i + 1, rfl, by omega, rfl, ko, out, rfl, by rw [htk, List.filter_append, List.filter_cons_of_neg (by simpa using hc)]; simpa using lr, fw, hko⟩
    · have c' : ¬ (i : Int) < l.length := by omega
      obtain rfl : i = l.length := by omega
      rw [List.take_length] at lr
      have hvb : (0 : Nat) = 0 := rfl
      try simp only [e6, e0', e3, e5, hlx, c', go_sem, V.s.injEq, Value.bool.injEq, ↓reduceIte, Nat.reduceEqDiff, Nat.reduceBEq, Nat.reduceAdd, Nat.reduceSub, Nat.reduceLT, Nat.reduceLeDiff, Int.reduceLT, Int.reduceLE, Int.reduceEq, Int.reduceToNat, List.append_assoc, List.length_append, Vm.get_app, Vm.set_app, Vm.get_appL, Vm.get_appL0, Vm.set_appL, Vm.set_appL0, Nat.le_refl, Nat.le_add_right, okAt]
      repeat' (
        first | refine wpC_cases ?_ ?_ | refine wpU_casesT ?_ ?_ | refine wpU_casesF ?_ ?_
        all_goals intro hvc
        all_goals first | replace hvc := not_of_true hvc | replace hvc := not_of_false hvc | skip
        all_goals first | subst hvc | replace hvb := And.intro hvc hvb
        all_goals try simp only [hvb, e6, e0', e3, e5, hlx, c', go_sem, V.s.injEq, Value.bool.injEq, ↓reduceIte, Nat.reduceEqDiff, Nat.reduceBEq, Nat.reduceAdd, Nat.reduceSub, Nat.reduceLT, Nat.reduceLeDiff, Int.reduceLT, Int.reduceLE, Int.reduceEq, Int.reduceToNat, List.append_assoc, List.length_append, Vm.get_app, Vm.set_app, Vm.get_appL, Vm.get_appL0, Vm.set_appL, Vm.set_appL0, Nat.le_refl, Nat.le_add_right, okAt])
      exact ⟨ko, out, rfl, lr, fw, hko⟩
  · rintro e H ⟨e0', e3, ko, out, e5, lr, fw, hko⟩
    have hvH := fw.old _ _ hv1 (by simp)
    have gr := enc_ground v
    have hcnt : (l.filter fun w => decide (cmpB w.iD v.iD < 0)).length ≤ 1000 := Nat.le_trans (List.length_filter_le _ _) hl
    obtain ⟨y1, H1, k1, hap1, lr1, fw1, hk1⟩ := lr.app1 (T := [.cells (some 29) [v.enc]]) (idy := H.length) (z := v.enc) (bytes := 96) hko fw (by rw [get_app0]; rfl) gr (by rw [List.length_map]; omega)
    have hvb : (0 : Nat) = 0 := rfl
    try simp only [B55R0, B55L2, e0', e3, e5, hvH, enc_tyV, enc_soV, hap1, go_sem, V.s.injEq, Value.bool.injEq, ↓reduceIte, Nat.reduceEqDiff, Nat.reduceBEq, Nat.reduceAdd, Nat.reduceSub, Nat.reduceLT, Nat.reduceLeDiff, Int.reduceLT, Int.reduceLE, Int.reduceEq, Int.reduceToNat, List.append_assoc, List.length_append, Vm.get_app, Vm.set_app, Vm.get_appL, Vm.get_appL0, Vm.set_appL, Vm.set_appL0, Nat.le_refl, Nat.le_add_right, okAt]
    repeat' (
      first | refine wpC_cases ?_ ?_ | refine wpU_casesT ?_ ?_ | refine wpU_casesF ?_ ?_
      all_goals intro hvc
      all_goals first | replace hvc := not_of_true hvc | replace hvc := not_of_false hvc | skip
      all_goals first | subst hvc | replace hvb := And.intro hvc hvb
      all_goals try simp only [hvb, B55R0, B55L2, e0', e3, e5, hvH, enc_tyV, enc_soV, hap1, go_sem, V.s.injEq, Value.bool.injEq, ↓reduceIte, Nat.reduceEqDiff, Nat.reduceBEq, Nat.reduceAdd, Nat.reduceSub, Nat.reduceLT, Nat.reduceLeDiff, Int.reduceLT, Int.reduceLE, Int.reduceEq, Int.reduceToNat, List.append_assoc, List.length_append, Vm.get_app, Vm.set_app, Vm.get_appL, Vm.get_appL0, Vm.set_appL, Vm.set_appL0, Nat.le_refl, Nat.le_add_right, okAt])
    refine wp_for (fun m e H => ∃ i : Nat, m = l.length - i ∧ i ≤ l.length ∧ e 7 = .s (.int .i64 i) ∧ e 0 = x ∧ e 3 = .ptr h.length [0] 1 ∧ ∃ ko out, e 5 = out ∧ LR H (some 29) ko out ((l.filter fun w => decide (cmpB w.iD v.iD < 0)).map Vault.enc ++ [v.enc] ++ ((l.take i).filter fun w => decide (0 < cmpB w.iD v.iD)).map Vault.enc) ∧ Fw [] h1 H ∧ h1.length ≤ ko)
      (fun e H => ∃ ko out, e 5 = out ∧ LR H (some 29) ko out ((placedT l v).map Vault.enc) ∧ Fw [] h1 H ∧ h1.length ≤ ko)
      l.length _ _ ⟨0, by omega, by omega, ?_, ?_, ?_, k1, y1, ?_, by simpa using lr1, fw1, hk1⟩ ?_ ?_
    rotate_right 2
    · clear e0' e3 e5 hvH hap1 lr1 fw1 hk1 lr fw hko
      rintro m e H ⟨i, rfl, hi, e7, e0', e3, ko, out, e5, lr, fw, hko⟩
      by_cases c : i < l.length
      · have c' : (i : Int) < l.length := by omega
        have hxH := hx1.fw fw
        have hw : l[i]? = some l[i] := List.getElem?_eq_getElem c
        have htk : l.take (i + 1) = l.take i ++ [l[i]] := by rw [List.take_add_one, hw]; rfl
        generalize l[i] = w at hw htk
        have hwe : (l.map Vault.enc)[i]? = some w.enc := by rw [List.getElem?_map, hw]; rfl
        have hib := fun cf base => hxH.o_ias (cf := cf) (base := base) (k := .i64) (i := i) (by simp; omega)
        have hlo := fun cf base => hxH.o_ld (cf := cf) (base := base) (i := i) (v := w.enc) hwe rfl
        have fa2 := fun cf base => hxH.o_fa (cf := cf) (base := base) (f := 0) hwe (by simp [Vault.enc])
        have sl2 := fun cf base => hxH.o_slf (cf := cf) (base := base) (f := 0) (g' := none) hwe (by simp [Vault.enc]; exact ⟨rfl, rfl⟩)
        have el2 := SR_el_slf hxH (f := 0) (g' := none) hwe (by simp [Vault.enc]; exact ⟨rfl, rfl⟩)
        simp only [List.length_map] at sl2 el2
        have hvH := fw.old _ _ hv1 (by simp)
        rw [hve] at hvH
        have hle := o_sgtr_cmp w.iD v.iD
        have hwr : IntKind.i64.wrap ((i : Int) + 1) = ((i + 1 : Nat) : Int) := wrap_small (by omega)
        have hcnt2 : ((l.take i).filter fun w => decide (0 < cmpB w.iD v.iD)).length ≤ i := Nat.le_trans (List.length_filter_le _ _) (by simp; omega)
        have gr := enc_ground w
        by_cases hc : 0 < cmpB w.iD v.iD
        · obtain ⟨x', H', k', hap, lr', fw', hk'⟩ := lr.app1 (T := [.cells (some 29) [w.enc]]) (idy := H.length) (z := w.enc) (bytes := 96) hko fw (by rw [get_app0]; rfl) gr (by simp only [List.length_append, List.length_map, List.length_singleton]; omega)
          have hvb : (0 : Nat) = 0 := rfl
          try simp only [e7, e0', e3, e5, hlx, c', hib, fa2, sl2, el2, hvH, o_b2sE, hle, hc, hlo, enc_tyV, enc_soV, hap, hwr, go_sem, V.s.injEq, Value.bool.injEq, ↓reduceIte, Nat.reduceEqDiff, Nat.reduceBEq, Nat.reduceAdd, Nat.reduceSub, Nat.reduceLT, Nat.reduceLeDiff, Int.reduceLT, Int.reduceLE, Int.reduceEq, Int.reduceToNat, List.append_assoc, List.length_append, Vm.get_app, Vm.set_app, Vm.get_appL, Vm.get_appL0, Vm.set_appL, Vm.set_appL0, Nat.le_refl, Nat.le_add_right, okAt]
          repeat' (
            first | refine wpC_cases ?_ ?_ | refine wpU_casesT ?_ ?_ | refine wpU_casesF ?_ ?_
            all_goals intro hvc
            all_goals first | replace hvc := not_of_true hvc | replace hvc := not_of_false hvc | skip
            all_goals first | subst hvc | replace hvb := And.intro hvc hvb
            all_goals try simp only [hvb, e7, e0', e3, e5, hlx, c', hib, fa2, sl2, el2, hvH, o_b2sE, hle, hc, hlo, enc_tyV, enc_soV, hap, hwr, go_sem, V.s.injEq, Value.bool.injEq, ↓reduceIte, Nat.reduceEqDiff, Nat.reduceBEq, Nat.reduceAdd, Nat.reduceSub, Nat.reduceLT, Nat.reduceLeDiff, Int.reduceLT, Int.reduceLE, Int.reduceEq, Int.reduceToNat, List.append_assoc, List.length_append, Vm.get_app, Vm.set_app, Vm.get_appL, Vm.get_appL0, Vm.set_appL, Vm.set_appL0, Nat.le_refl, Nat.le_add_right, okAt])
          exact ⟨l.length - (i + 1), by omega, i + 1, rfl, by omega, rfl, k', x', rfl, by rw [htk, List.filter_append, List.map_append, List.filter_cons_of_pos (by simpa using hc), List.map_cons, List.filter_nil, List.map_nil]; simpa [List.append_assoc] using lr', fw', hk'⟩
        · have hvb : (0 : Nat) = 0 := rfl
          try simp only [e7, e0', e3, e5, hlx, c', hib, fa2, sl2, el2, hvH, o_b2sE, hle, hc, hwr, go_sem, V.s.injEq, Value.bool.injEq, ↓reduceIte, Nat.reduceEqDiff, Nat.reduceBEq, Nat.reduceAdd, Nat.reduceSub, Nat.reduceLT, Nat.reduceLeDiff, Int.reduceLT, Int.reduceLE, Int.reduceEq, Int.reduceToNat, List.append_assoc, List.length_append, Vm.get_app, Vm.set_app, Vm.get_appL, Vm.get_appL0, Vm.set_appL, Vm.set_appL0, Nat.le_refl, Nat.le_add_right, okAt]
          repeat' (
            first | refine wpC_cases ?_ ?_ | refine wpU_casesT ?_ ?_ | refine wpU_casesF ?_ ?_
            all_goals intro hvc
            all_goals first | replace hvc := not_of_true hvc | replace hvc := not_of_false hvc | skip
            all_goals first | subst hvc | replace hvb := And.intro hvc hvb
            all_goals try simp only [hvb, e7, e0', e3, e5, hlx, c', hib, fa2, sl2, el2, hvH, o_b2sE, hle, hc, hwr, go_sem, V.s.injEq, Value.bool.injEq, ↓reduceIte, Nat.reduceEqDiff, Nat.reduceBEq, Nat.reduceAdd, Nat.reduceSub, Nat.reduceLT, Nat.reduceLeDiff, Int.reduceLT, Int.reduceLE, Int.reduceEq, Int.reduceToNat, List.append_assoc, List.length_append, Vm.get_app, Vm.set_app, Vm.get_appL, Vm.get_appL0, Vm.set_appL, Vm.set_appL0, Nat.le_refl, Nat.le_add_right, okAt])
          exact ⟨l.length - (i + 1), by omega, i + 1, rfl, by omega, rfl, ko, out, rfl, by rw [htk, List.filter_append, List.filter_cons_of_neg (by simpa using hc)]; simpa using lr, fw, hko⟩
      · have c' : ¬ (i : Int) < l.length := by omega
        obtain rfl : i = l.length := by omega
        rw [List.take_length] at lr
        have hvb : (0 : Nat) = 0 := rfl
        try simp only [e7, e0', e3, e5, hlx, c', go_sem, V.s.injEq, Value.bool.injEq, ↓reduceIte, Nat.reduceEqDiff, Nat.reduceBEq, Nat.reduceAdd, Nat.reduceSub, Nat.reduceLT, Nat.reduceLeDiff, Int.reduceLT, Int.reduceLE, Int.reduceEq, Int.reduceToNat, List.append_assoc, List.length_append, Vm.get_app, Vm.set_app, Vm.get_appL, Vm.get_appL0, Vm.set_appL, Vm.set_appL0, Nat.le_refl, Nat.le_add_right, okAt]
        repeat' (
          first | refine wpC_cases ?_ ?_ | refine wpU_casesT ?_ ?_ | refine wpU_casesF ?_ ?_
          all_goals intro hvc
          all_goals first | replace hvc := not_of_true hvc | replace hvc := not_of_false hvc | skip
          all_goals first | subst hvc | replace hvb := And.intro hvc hvb
          all_goals try simp only [hvb, e7, e0', e3, e5, hlx, c', go_sem, V.s.injEq, Value.bool.injEq, ↓reduceIte, Nat.reduceEqDiff, Nat.reduceBEq, Nat.reduceAdd, Nat.reduceSub, Nat.reduceLT, Nat.reduceLeDiff, Int.reduceLT, Int.reduceLE, Int.reduceEq, Int.reduceToNat, List.append_assoc, List.length_append, Vm.get_app, Vm.set_app, Vm.get_appL, Vm.get_appL0, Vm.set_appL, Vm.set_appL0, Nat.le_refl, Nat.le_add_right, okAt])
        exact ⟨ko, out, rfl, by simpa [placedT] using lr, fw, hko⟩
    · clear e0' e3 e5 hvH hap1 lr1 fw1 hk1 lr fw hko
      rintro e H ⟨ko, out, e5, lr, fw, hko⟩
      have hfz := lr.frz (n := h.length) (by omega) (encs_plain _)
      have htk : H.take h.length = h := by
        have f2 : Fw [] h H := by have := Fw.app [] h [.cells (some 29) [v.enc]]; rw [← hh1] at this; exact this.trans fw
        exact f2.take
      have hvb : (0 : Nat) = 0 := rfl
      try simp only [B55R2, e5, hfz, htk, go_sem, V.s.injEq, Value.bool.injEq, ↓reduceIte, Nat.reduceEqDiff, Nat.reduceBEq, Nat.reduceAdd, Nat.reduceSub, Nat.reduceLT, Nat.reduceLeDiff, Int.reduceLT, Int.reduceLE, Int.reduceEq, Int.reduceToNat, List.append_assoc, List.length_append, Vm.get_app, Vm.set_app, Vm.get_appL, Vm.get_appL0, Vm.set_appL, Vm.set_appL0, Nat.le_refl, Nat.le_add_right, okAt]
      repeat' (
        first | refine wpC_cases ?_ ?_ | refine wpU_casesT ?_ ?_ | refine wpU_casesF ?_ ?_
        all_goals intro hvc
        all_goals first | replace hvc := not_of_true hvc | replace hvc := not_of_false hvc | skip
        all_goals first | subst hvc | replace hvb := And.intro hvc hvb
        all_goals try simp only [hvb, B55R2, e5, hfz, htk, go_sem, V.s.injEq, Value.bool.injEq, ↓reduceIte, Nat.reduceEqDiff, Nat.reduceBEq, Nat.reduceAdd, Nat.reduceSub, Nat.reduceLT, Nat.reduceLeDiff, Int.reduceLT, Int.reduceLE, Int.reduceEq, Int.reduceToNat, List.append_assoc, List.length_append, Vm.get_app, Vm.set_app, Vm.get_appL, Vm.get_appL0, Vm.set_appL, Vm.set_appL0, Nat.le_refl, Nat.le_add_right, okAt])
    all_goals simp only [go_sem, e0', e3, e5, Nat.reduceEqDiff, ↓reduceIte]
    all_goals rfl
  all_goals rfl
end Go.Proofs.Ytdhgcdkinehomaa
