/- Vaults as the statements draw them; a known run of tables. Conditions: none. -/
import Derived.Test.YtfhmclgnfabdfaaCS12F
namespace Go.Proofs.Ytfhmclgnfabdfaa
open Go Go.Vm Go.Proofs Go.Cl
set_option linter.unusedSimpArgs false
set_option linter.unusedVariables false
set_option maxRecDepth 100000
def keepV (x : KV) (id : Bs) : Vault :=
  if x.how.tmod 4 = 3 then ⟨id, 1 + x.gen.tmod 1099511627776, zero16, [], 0, 0, zero16, true, decide ((x.how.tdiv 4).tmod 2 = 1)⟩
  else ⟨id, 1 + x.gen.tmod 1099511627776, dOf x.pin, x.secret.take 64, within x.limit 1 32, within x.used 0 (within x.limit 1 32 - 1), dOf x.owner, false, false⟩
theorem KVault_ok (b : Nat) (h : Hp) (x : KV) (id : Bs) (hx : x.wf) : run fns pr b 11 [x.enc, .arr 23 (id.map byteV)] h = some ((keepV x id).enc, h) := by
  refine Vm.runP (nt := 46) rfl fit11 (by simp) ?_
  obtain ⟨w0, w1, w2, w3, w4, w5, w6, w7⟩ := hx
  have g4 := within_ge (n := x.limit) (lo := 1) (hi := 32) (by omega)
  have g5 := within_le (n := x.limit) (lo := 1) (hi := 32) (by omega)
  have e1 := fun h' => Within_ok h.length h' x.limit 1 32 (by omega) (by omega) (by omega) w3.1 w3.2
  have e2 := fun h' => Within_ok h.length h' x.used 0 (within x.limit 1 32 - 1) (by omega) (by omega) (by omega) w4.1 w4.2
  have e7 := fun h' n => D_ok h.length h' n
  have e8 := fun h' f => Cut_ok h.length h' f x.secret 64 (by omega)
  have r1 := fun cf base h x => o_rem (cf := cf) (base := base) (h := h) .i64 x 4 (by decide)
  have r2 := fun cf base h x => o_rem (cf := cf) (base := base) (h := h) .i64 x 2 (by decide)
  have r4 := fun cf base h x => o_rem (cf := cf) (base := base) (h := h) .u64 x 1099511627776 (by decide)
  have r5 := fun cf base h x => o_quo (cf := cf) (base := base) (h := h) .i64 x 4 (by decide)
  have h3 := Int.tmod_nonneg 1099511627776 w6.1
  have h4 := Int.tmod_lt_of_pos x.gen (show (0 : Int) < 1099511627776 by decide)
  have hw1 : IntKind.u64.wrap (1 + x.gen.tmod 1099511627776) = 1 + x.gen.tmod 1099511627776 := wrap_u64 (by omega) (by omega)
  have hw2 : IntKind.i64.wrap (within x.limit 1 32 - 1) = within x.limit 1 32 - 1 := wrap_i64 (by omega) (by omega)
  have hw3 : IntKind.i64.wrap (x.how.tdiv 4) = x.how.tdiv 4 := by
    have : -9223372036854775808 ≤ x.how.tdiv 4 ∧ x.how.tdiv 4 < 9223372036854775808 := by
      rcases Int.le_total 0 x.how with h0 | h0
      · rw [Int.tdiv_eq_ediv_of_nonneg h0]; omega
      · have e : x.how.tdiv 4 = -((-x.how).tdiv 4) := by rw [Int.neg_tdiv]; simp
        rw [e, Int.tdiv_eq_ediv_of_nonneg (by omega)]; omega
    exact wrap_i64 this.1 this.2
  simp only [show Int.toNat 64 = 64 from rfl] at e8
  have hlen : (x.secret.take 64).length ≤ 140737488355328 := by simp; omega
  generalize hs : x.secret.take 64 = l at e8 hlen
  unfold keepV
  rw [hs]
  by_cases hh : x.how.tmod 4 = 3
  · rw [if_pos hh]
    have hvb : (0 : Nat) = 0 := rfl
    try simp only [B11, KV.enc, Vault.enc, r1, r2, r4, r5, hw1, hw3, hh, zero4_a, zero16_a, go_sem, V.s.injEq, Value.bool.injEq, ↓reduceIte, Nat.reduceEqDiff, Nat.reduceBEq, Nat.reduceAdd, Nat.reduceSub, Nat.reduceLT, Nat.reduceLeDiff, Int.reduceLT, Int.reduceLE, Int.reduceEq, Int.reduceToNat, List.append_assoc, List.length_append, Vm.get_app, Vm.set_app, Vm.get_appL, Vm.get_appL0, Vm.set_appL, Vm.set_appL0, Nat.le_refl, Nat.le_add_right, okAt]
    repeat' (
      first | refine wpC_cases ?_ ?_ | refine wpU_casesT ?_ ?_ | refine wpU_casesF ?_ ?_
      all_goals intro hvc
      all_goals first | replace hvc := not_of_true hvc | replace hvc := not_of_false hvc | skip
      all_goals first | subst hvc | replace hvb := And.intro hvc hvb
      all_goals try simp only [hvb, B11, KV.enc, Vault.enc, r1, r2, r4, r5, hw1, hw3, hh, zero4_a, zero16_a, go_sem, V.s.injEq, Value.bool.injEq, ↓reduceIte, Nat.reduceEqDiff, Nat.reduceBEq, Nat.reduceAdd, Nat.reduceSub, Nat.reduceLT, Nat.reduceLeDiff, Int.reduceLT, Int.reduceLE, Int.reduceEq, Int.reduceToNat, List.append_assoc, List.length_append, Vm.get_app, Vm.set_app, Vm.get_appL, Vm.get_appL0, Vm.set_appL, Vm.set_appL0, Nat.le_refl, Nat.le_add_right, okAt])
  · rw [if_neg hh]
    by_cases hne : l = []
    · subst hne
      simp only [List.map_nil] at e8
      have hvb : (0 : Nat) = 0 := rfl
      try simp only [B11, KV.enc, Vault.enc, e1, e2, e7, e8, r1, r4, hw1, hw2, hh, zero4_a, zero16_a, List.map_nil, go_sem, V.s.injEq, Value.bool.injEq, ↓reduceIte, Nat.reduceEqDiff, Nat.reduceBEq, Nat.reduceAdd, Nat.reduceSub, Nat.reduceLT, Nat.reduceLeDiff, Int.reduceLT, Int.reduceLE, Int.reduceEq, Int.reduceToNat, List.append_assoc, List.length_append, Vm.get_app, Vm.set_app, Vm.get_appL, Vm.get_appL0, Vm.set_appL, Vm.set_appL0, Nat.le_refl, Nat.le_add_right, okAt]
      repeat' (
        first | refine wpC_cases ?_ ?_ | refine wpU_casesT ?_ ?_ | refine wpU_casesF ?_ ?_
        all_goals intro hvc
        all_goals first | replace hvc := not_of_true hvc | replace hvc := not_of_false hvc | skip
        all_goals first | subst hvc | replace hvb := And.intro hvc hvb
        all_goals try simp only [hvb, B11, KV.enc, Vault.enc, e1, e2, e7, e8, r1, r4, hw1, hw2, hh, zero4_a, zero16_a, List.map_nil, go_sem, V.s.injEq, Value.bool.injEq, ↓reduceIte, Nat.reduceEqDiff, Nat.reduceBEq, Nat.reduceAdd, Nat.reduceSub, Nat.reduceLT, Nat.reduceLeDiff, Int.reduceLT, Int.reduceLE, Int.reduceEq, Int.reduceToNat, List.append_assoc, List.length_append, Vm.get_app, Vm.set_app, Vm.get_appL, Vm.get_appL0, Vm.set_appL, Vm.set_appL0, Nat.le_refl, Nat.le_add_right, okAt])
    · have ha := fun cf base h f => app_bytes (cf := cf) (base := base) (h := h) (f := f) hne hlen
      have hvb : (0 : Nat) = 0 := rfl
      try simp only [B11, KV.enc, Vault.enc, e1, e2, e7, e8, r1, r4, hw1, hw2, hh, ha, zero4_a, zero16_a, go_sem, V.s.injEq, Value.bool.injEq, ↓reduceIte, Nat.reduceEqDiff, Nat.reduceBEq, Nat.reduceAdd, Nat.reduceSub, Nat.reduceLT, Nat.reduceLeDiff, Int.reduceLT, Int.reduceLE, Int.reduceEq, Int.reduceToNat, List.append_assoc, List.length_append, Vm.get_app, Vm.set_app, Vm.get_appL, Vm.get_appL0, Vm.set_appL, Vm.set_appL0, Nat.le_refl, Nat.le_add_right, okAt]
      repeat' (
        first | refine wpC_cases ?_ ?_ | refine wpU_casesT ?_ ?_ | refine wpU_casesF ?_ ?_
        all_goals intro hvc
        all_goals first | replace hvc := not_of_true hvc | replace hvc := not_of_false hvc | skip
        all_goals first | subst hvc | replace hvb := And.intro hvc hvb
        all_goals try simp only [hvb, B11, KV.enc, Vault.enc, e1, e2, e7, e8, r1, r4, hw1, hw2, hh, ha, zero4_a, zero16_a, go_sem, V.s.injEq, Value.bool.injEq, ↓reduceIte, Nat.reduceEqDiff, Nat.reduceBEq, Nat.reduceAdd, Nat.reduceSub, Nat.reduceLT, Nat.reduceLeDiff, Int.reduceLT, Int.reduceLE, Int.reduceEq, Int.reduceToNat, List.append_assoc, List.length_append, Vm.get_app, Vm.set_app, Vm.get_appL, Vm.get_appL0, Vm.set_appL, Vm.set_appL0, Nat.le_refl, Nat.le_add_right, okAt])
theorem keepV_right (x : KV) (id : Bs) (hx : x.wf) : rightV (keepV x id) = true := by
  have h3 := Int.tmod_nonneg 1099511627776 hx.gen.1
  have h4 := Int.tmod_lt_of_pos x.gen (show (0 : Int) < 1099511627776 by decide)
  have g4 := within_ge (n := x.limit) (lo := 1) (hi := 32) (by omega)
  have g5 := within_le (n := x.limit) (lo := 1) (hi := 32) (by omega)
  have g6 := within_ge (n := x.used) (lo := 0) (hi := within x.limit 1 32 - 1) (by omega)
  have g7 := within_le (n := x.used) (lo := 0) (hi := within x.limit 1 32 - 1) (by omega)
  unfold keepV
  split
  · simp [rightV]; omega
  · simp [rightV]; omega
theorem keepV_id (x : KV) (id : Bs) : (keepV x id).iD = id := by unfold keepV; split <;> rfl
theorem ids_ok (b : Nat) (h : Hp) (l : List Vault) (hl : l.length ≤ 1000) (hid : ∀ v ∈ l, ∃ x r, v.iD = x :: r) : run fns pr b 35 [.imm false (some 29) (l.map Vault.enc)] h = some (.imm false none (l.map fun v => byteV (v.iD.headD 0)), h) := by
  refine Vm.runP (nt := 21) rfl fit35 (by simp) ?_
  have hx : SR h (.imm false (some 29) (l.map Vault.enc)) (some 29) (l.map Vault.enc) := .inl ⟨_, rfl⟩
  have hvb : (0 : Nat) = 0 := rfl
  try simp only [B35, B35R0, B35L0, go_sem, V.s.injEq, Value.bool.injEq, ↓reduceIte, Nat.reduceEqDiff, Nat.reduceBEq, Nat.reduceAdd, Nat.reduceSub, Nat.reduceLT, Nat.reduceLeDiff, Int.reduceLT, Int.reduceLE, Int.reduceEq, Int.reduceToNat, List.append_assoc, List.length_append, Vm.get_app, Vm.set_app, Vm.get_appL, Vm.get_appL0, Vm.set_appL, Vm.set_appL0, Nat.le_refl, Nat.le_add_right, okAt]
  repeat' (
    first | refine wpC_cases ?_ ?_ | refine wpU_casesT ?_ ?_ | refine wpU_casesF ?_ ?_
    all_goals intro hvc
    all_goals first | replace hvc := not_of_true hvc | replace hvc := not_of_false hvc | skip
    all_goals first | subst hvc | replace hvb := And.intro hvc hvb
    all_goals try simp only [hvb, B35, B35R0, B35L0, go_sem, V.s.injEq, Value.bool.injEq, ↓reduceIte, Nat.reduceEqDiff, Nat.reduceBEq, Nat.reduceAdd, Nat.reduceSub, Nat.reduceLT, Nat.reduceLeDiff, Int.reduceLT, Int.reduceLE, Int.reduceEq, Int.reduceToNat, List.append_assoc, List.length_append, Vm.get_app, Vm.set_app, Vm.get_appL, Vm.get_appL0, Vm.set_appL, Vm.set_appL0, Nat.le_refl, Nat.le_add_right, okAt])
  refine wp_for (fun m e H => ∃ i : Nat, m = l.length - i ∧ i ≤ l.length ∧ e 4 = .s (.int .i64 i) ∧ e 0 = .imm false (some 29) (l.map Vault.enc) ∧ ∃ ko out, e 3 = out ∧ LR H none ko out ((l.take i).map fun v => byteV (v.iD.headD 0)) ∧ Fw [] h H ∧ h.length ≤ ko)
    (fun e H => ∃ ko out, e 3 = out ∧ LR H none ko out (l.map fun v => byteV (v.iD.headD 0)) ∧ Fw [] h H ∧ h.length ≤ ko) l.length _ _ ⟨0, by omega, by omega, ?_, ?_, h.length, .imm true none [], ?_, .inl ⟨rfl, rfl⟩, Fw.refl _ _, Nat.le_refl _⟩ ?_ ?_
  rotate_right 2
  · rintro m e H ⟨i, rfl, hi, e4, e0', ko, out, e3, lr, fw, hko⟩
    by_cases c : i < l.length
    · have c' : (i : Int) < l.length := by omega
      have hi0 : (0 : Int) ≤ i := by omega
      have hv : l[i]? = some l[i] := List.getElem?_eq_getElem c
      obtain ⟨y, r, hy⟩ := hid _ (List.getElem_mem c)
      have htk : l.take (i + 1) = l.take i ++ [l[i]] := by rw [List.take_add_one, hv]; rfl
      generalize l[i] = v at hv htk hy
      have hwr : IntKind.i64.wrap ((i : Int) + 1) = ((i + 1 : Nat) : Int) := wrap_small (by omega)
      obtain ⟨x', H', k', hap, lr', fw', hk'⟩ := lr.app1 (T := [.cells none [byteV y]]) (idy := H.length) (z := byteV y) (bytes := 1) hko fw (by rw [get_app0]; rfl) rfl (by simp; omega)
      have hhd : v.iD.headD 0 = y := by rw [hy]; rfl
      have hr0 : (0 : Int) < ((r.length + 1 : Nat) : Int) := by omega
      have hbs : (byteV y).ty = none := rfl
      have hvb : (0 : Nat) = 0 := rfl
      try simp only [e4, e0', e3, c', hi0, hv, hy, Vault.enc, Int.toNat_natCast, List.getElem?_map, Option.map_some, hwr, hap, List.map_cons, List.getElem?_cons_zero, List.length_cons, List.length_nil, List.length_map, hr0, go_sem, V.s.injEq, Value.bool.injEq, ↓reduceIte, Nat.reduceEqDiff, Nat.reduceBEq, Nat.reduceAdd, Nat.reduceSub, Nat.reduceLT, Nat.reduceLeDiff, Int.reduceLT, Int.reduceLE, Int.reduceEq, Int.reduceToNat, List.append_assoc, List.length_append, Vm.get_app, Vm.set_app, Vm.get_appL, Vm.get_appL0, Vm.set_appL, Vm.set_appL0, Nat.le_refl, Nat.le_add_right, okAt]
      repeat' (
        first | refine wpC_cases ?_ ?_ | refine wpU_casesT ?_ ?_ | refine wpU_casesF ?_ ?_
        all_goals intro hvc
        all_goals first | replace hvc := not_of_true hvc | replace hvc := not_of_false hvc | skip
        all_goals first | subst hvc | replace hvb := And.intro hvc hvb
        all_goals try simp only [hvb, e4, e0', e3, c', hi0, hv, hy, Vault.enc, Int.toNat_natCast, List.getElem?_map, Option.map_some, hwr, hap, List.map_cons, List.getElem?_cons_zero, List.length_cons, List.length_nil, List.length_map, hr0, go_sem, V.s.injEq, Value.bool.injEq, ↓reduceIte, Nat.reduceEqDiff, Nat.reduceBEq, Nat.reduceAdd, Nat.reduceSub, Nat.reduceLT, Nat.reduceLeDiff, Int.reduceLT, Int.reduceLE, Int.reduceEq, Int.reduceToNat, List.append_assoc, List.length_append, Vm.get_app, Vm.set_app, Vm.get_appL, Vm.get_appL0, Vm.set_appL, Vm.set_appL0, Nat.le_refl, Nat.le_add_right, okAt])
      exact ⟨l.length - (i + 1), by omega, i + 1, rfl, by omega, rfl, _, _, rfl, by rw [htk, List.map_append, List.map_cons, List.map_nil, hhd]; exact lr', fw', hk'⟩
    · have c' : ¬ (i : Int) < l.length := by omega
      obtain rfl : i = l.length := by omega
      rw [List.take_length] at lr
      have hvb : (0 : Nat) = 0 := rfl
      try simp only [e4, e0', e3, c', go_sem, V.s.injEq, Value.bool.injEq, ↓reduceIte, Nat.reduceEqDiff, Nat.reduceBEq, Nat.reduceAdd, Nat.reduceSub, Nat.reduceLT, Nat.reduceLeDiff, Int.reduceLT, Int.reduceLE, Int.reduceEq, Int.reduceToNat, List.append_assoc, List.length_append, Vm.get_app, Vm.set_app, Vm.get_appL, Vm.get_appL0, Vm.set_appL, Vm.set_appL0, Nat.le_refl, Nat.le_add_right, okAt]
      repeat' (
        first | refine wpC_cases ?_ ?_ | refine wpU_casesT ?_ ?_ | refine wpU_casesF ?_ ?_
        all_goals intro hvc
        all_goals first | replace hvc := not_of_true hvc | replace hvc := not_of_false hvc | skip
        all_goals first | subst hvc | replace hvb := And.intro hvc hvb
        all_goals try simp only [hvb, e4, e0', e3, c', go_sem, V.s.injEq, Value.bool.injEq, ↓reduceIte, Nat.reduceEqDiff, Nat.reduceBEq, Nat.reduceAdd, Nat.reduceSub, Nat.reduceLT, Nat.reduceLeDiff, Int.reduceLT, Int.reduceLE, Int.reduceEq, Int.reduceToNat, List.append_assoc, List.length_append, Vm.get_app, Vm.set_app, Vm.get_appL, Vm.get_appL0, Vm.set_appL, Vm.set_appL0, Nat.le_refl, Nat.le_add_right, okAt])
      exact ⟨ko, out, rfl, lr, fw, hko⟩
  · rintro e H ⟨ko, out, e3, lr, fw, hko⟩
    have hfz := lr.frz hko (by rw [plain_all_iff]; intro v hv; obtain ⟨w, _, rfl⟩ := List.mem_map.1 hv; rfl)
    have htk := fw.take
    have hvb : (0 : Nat) = 0 := rfl
    try simp only [e3, hfz, htk, go_sem, V.s.injEq, Value.bool.injEq, ↓reduceIte, Nat.reduceEqDiff, Nat.reduceBEq, Nat.reduceAdd, Nat.reduceSub, Nat.reduceLT, Nat.reduceLeDiff, Int.reduceLT, Int.reduceLE, Int.reduceEq, Int.reduceToNat, List.append_assoc, List.length_append, Vm.get_app, Vm.set_app, Vm.get_appL, Vm.get_appL0, Vm.set_appL, Vm.set_appL0, Nat.le_refl, Nat.le_add_right, okAt]
    repeat' (
      first | refine wpC_cases ?_ ?_ | refine wpU_casesT ?_ ?_ | refine wpU_casesF ?_ ?_
      all_goals intro hvc
      all_goals first | replace hvc := not_of_true hvc | replace hvc := not_of_false hvc | skip
      all_goals first | subst hvc | replace hvb := And.intro hvc hvb
      all_goals try simp only [hvb, e3, hfz, htk, go_sem, V.s.injEq, Value.bool.injEq, ↓reduceIte, Nat.reduceEqDiff, Nat.reduceBEq, Nat.reduceAdd, Nat.reduceSub, Nat.reduceLT, Nat.reduceLeDiff, Int.reduceLT, Int.reduceLE, Int.reduceEq, Int.reduceToNat, List.append_assoc, List.length_append, Vm.get_app, Vm.set_app, Vm.get_appL, Vm.get_appL0, Vm.set_appL, Vm.set_appL0, Nat.le_refl, Nat.le_add_right, okAt])
  all_goals rfl
/-- A vault that is gone, of a name of one byte. -/
def gv (n : Nat) : Vault := ⟨[UInt8.ofNat n, 0, 0, 0], 1, zero16, [], 0, 0, zero16, true, false⟩
def kl : Nat → List Vault
  | 0 => []
  | 1 => [gv 9]
  | 2 => [gv 8, gv 9]
  | 3 => [gv 7, gv 8, gv 9]
  | _ => [gv 6, gv 7, gv 8, gv 9]
theorem kl_put : ∀ i, i < 4 → putT (kl i) (gv (9 - i)) = (0, kl (i + 1))
  | 0, _ => by decide
  | 1, _ => by decide
  | 2, _ => by decide
  | 3, _ => by decide
theorem kl_rise : ∀ i, i ≤ 4 → Rise (kl i) ∧ (kl i).length ≤ 4
  | 0, _ => by decide
  | 1, _ => by decide
  | 2, _ => by decide
  | 3, _ => by decide
  | 4, _ => by decide
theorem kl_byte : ∀ i : Nat, i < 4 → V.s (.int .u8 (IntKind.u8.wrap (IntKind.i64.wrap (9 - (i : Int))))) = byteV (UInt8.ofNat (9 - i))
  | 0, _ => rfl
  | 1, _ => rfl
  | 2, _ => rfl
  | 3, _ => rfl
theorem known12_ok (b : Nat) (h : Hp) : run fns pr b 14 [] h = some (.s (.bool true), h) := by
  refine Vm.runP (nt := 53) rfl fit14 (by simp) ?_
  obtain ⟨v0, h0, e0', rfl, t0, f0⟩ := TNew_ok h.length h
  have hvb : (0 : Nat) = 0 := rfl
  try simp only [B14, B14R0, B14L0, e0', go_sem, V.s.injEq, Value.bool.injEq, ↓reduceIte, Nat.reduceEqDiff, Nat.reduceBEq, Nat.reduceAdd, Nat.reduceSub, Nat.reduceLT, Nat.reduceLeDiff, Int.reduceLT, Int.reduceLE, Int.reduceEq, Int.reduceToNat, List.append_assoc, List.length_append, Vm.get_app, Vm.set_app, Vm.get_appL, Vm.get_appL0, Vm.set_appL, Vm.set_appL0, Nat.le_refl, Nat.le_add_right, okAt]
  repeat' (
    first | refine wpC_cases ?_ ?_ | refine wpU_casesT ?_ ?_ | refine wpU_casesF ?_ ?_
    all_goals intro hvc
    all_goals first | replace hvc := not_of_true hvc | replace hvc := not_of_false hvc | skip
    all_goals first | subst hvc | replace hvb := And.intro hvc hvb
    all_goals try simp only [hvb, B14, B14R0, B14L0, e0', go_sem, V.s.injEq, Value.bool.injEq, ↓reduceIte, Nat.reduceEqDiff, Nat.reduceBEq, Nat.reduceAdd, Nat.reduceSub, Nat.reduceLT, Nat.reduceLeDiff, Int.reduceLT, Int.reduceLE, Int.reduceEq, Int.reduceToNat, List.append_assoc, List.length_append, Vm.get_app, Vm.set_app, Vm.get_appL, Vm.get_appL0, Vm.set_appL, Vm.set_appL0, Nat.le_refl, Nat.le_add_right, okAt])
  refine wp_for (fun m e H => ∃ i : Nat, m = 4 - i ∧ i ≤ 4 ∧ e 2 = .s (.int .i64 i) ∧ e 1 = .ptr h.length [0] 1 ∧ ∃ k, TR H h.length k (kl i) ∧ Fw [] h H ∧ h.length ≤ k)
    (fun e H => e 1 = .ptr h.length [0] 1 ∧ ∃ k, TR H h.length k (kl 4) ∧ Fw [] h H ∧ h.length ≤ k) 4 _ _ ⟨0, rfl, by omega, ?_, ?_, _, t0, f0, Nat.le_refl _⟩ ?_ ?_
  rotate_right 2
  · rintro m e H ⟨i, rfl, hi, e2, e1, k, tr, fw, hk⟩
    by_cases c : i < 4
    · have c' : (i : Int) < 4 := by omega
      obtain ⟨hr, hl⟩ := kl_rise i hi
      obtain ⟨H', k', ep, tr', fw', hk'⟩ := TPut_ok h.length H h.length k (kl i) (gv (9 - i)) (Nat.le_refl _) tr hr hl
      rw [kl_put i c] at ep tr'
      have hby := kl_byte i c
      have hfl := fw.len
      have hwr : IntKind.i64.wrap ((i : Int) + 1) = ((i + 1 : Nat) : Int) := wrap_small (by omega)
      simp only [gv, Vault.enc, List.map_cons, List.map_nil, show byteV 0 = V.s (.int .u8 0) from rfl] at ep
      have hvb : (0 : Nat) = 0 := rfl
      try simp only [e2, e1, c', hby, ep, hwr, zero16_a, byteV_ty, byteV_so, go_sem, V.s.injEq, Value.bool.injEq, ↓reduceIte, Nat.reduceEqDiff, Nat.reduceBEq, Nat.reduceAdd, Nat.reduceSub, Nat.reduceLT, Nat.reduceLeDiff, Int.reduceLT, Int.reduceLE, Int.reduceEq, Int.reduceToNat, List.append_assoc, List.length_append, Vm.get_app, Vm.set_app, Vm.get_appL, Vm.get_appL0, Vm.set_appL, Vm.set_appL0, Nat.le_refl, Nat.le_add_right, okAt]
      repeat' (
        first | refine wpC_cases ?_ ?_ | refine wpU_casesT ?_ ?_ | refine wpU_casesF ?_ ?_
        all_goals intro hvc
        all_goals first | replace hvc := not_of_true hvc | replace hvc := not_of_false hvc | skip
        all_goals first | subst hvc | replace hvb := And.intro hvc hvb
        all_goals try simp only [hvb, e2, e1, c', hby, ep, hwr, zero16_a, byteV_ty, byteV_so, go_sem, V.s.injEq, Value.bool.injEq, ↓reduceIte, Nat.reduceEqDiff, Nat.reduceBEq, Nat.reduceAdd, Nat.reduceSub, Nat.reduceLT, Nat.reduceLeDiff, Int.reduceLT, Int.reduceLE, Int.reduceEq, Int.reduceToNat, List.append_assoc, List.length_append, Vm.get_app, Vm.set_app, Vm.get_appL, Vm.get_appL0, Vm.set_appL, Vm.set_appL0, Nat.le_refl, Nat.le_add_right, okAt])
      exact ⟨4 - (i + 1), by omega, i + 1, rfl, by omega, rfl, k', tr', fw.new fw' (by intro j hj; simp at hj; rcases hj with rfl | rfl <;> left <;> omega), by omega⟩
    · have c' : ¬ (i : Int) < 4 := by omega
      obtain rfl : i = 4 := by omega
      have hvb : (0 : Nat) = 0 := rfl
      try simp only [e2, e1, c', go_sem, V.s.injEq, Value.bool.injEq, ↓reduceIte, Nat.reduceEqDiff, Nat.reduceBEq, Nat.reduceAdd, Nat.reduceSub, Nat.reduceLT, Nat.reduceLeDiff, Int.reduceLT, Int.reduceLE, Int.reduceEq, Int.reduceToNat, List.append_assoc, List.length_append, Vm.get_app, Vm.set_app, Vm.get_appL, Vm.get_appL0, Vm.set_appL, Vm.set_appL0, Nat.le_refl, Nat.le_add_right, okAt]
      repeat' (
        first | refine wpC_cases ?_ ?_ | refine wpU_casesT ?_ ?_ | refine wpU_casesF ?_ ?_
        all_goals intro hvc
        all_goals first | replace hvc := not_of_true hvc | replace hvc := not_of_false hvc | skip
        all_goals first | subst hvc | replace hvb := And.intro hvc hvb
        all_goals try simp only [hvb, e2, e1, c', go_sem, V.s.injEq, Value.bool.injEq, ↓reduceIte, Nat.reduceEqDiff, Nat.reduceBEq, Nat.reduceAdd, Nat.reduceSub, Nat.reduceLT, Nat.reduceLeDiff, Int.reduceLT, Int.reduceLE, Int.reduceEq, Int.reduceToNat, List.append_assoc, List.length_append, Vm.get_app, Vm.set_app, Vm.get_appL, Vm.get_appL0, Vm.set_appL, Vm.set_appL0, Nat.le_refl, Nat.le_add_right, okAt])
      exact ⟨k, tr, fw, hk⟩
  · rintro e H ⟨e1, k, tr, fw, hk⟩
    have hfl := fw.len
    have t5 : ∀ T, TR (H ++ T) h.length k (kl 4) := fun T => tr.mono (Fw.app [] H T) (by simp) (by simp)
    have eg := fun T => TGet_ok h.length (H ++ T) h.length k (kl 4) zero4 (t5 T) (by decide) (by decide) (by decide)
    have eg0 := TGet_ok h.length H h.length k (kl 4) zero4 tr (by decide) (by decide) (by decide)
    rw [show getT (kl 4) zero4 = none by decide] at eg0
    obtain ⟨H', k', ep, tr', fw', hk'⟩ := TPut_ok h.length (H ++ [.cells (some 29) [zeroV.enc]]) h.length k (kl 4) (gv 1) (Nat.le_refl _) (t5 _) (by decide) (by decide)
    rw [show putT (kl 4) (gv 1) = (13, kl 4) by decide] at ep tr'
    simp only [gv, Vault.enc, List.map_cons, List.map_nil, show byteV 0 = V.s (.int .u8 0) from rfl, show byteV (UInt8.ofNat 1) = V.s (.int .u8 1) from rfl] at ep
    have elen := TLen_ok h.length H' h.length k' (kl 4) tr'
    have eall := TAll_ok h.length H' h.length k' (kl 4) tr' (by decide) (by decide)
    have eids := ids_ok h.length H' (kl 4) (by decide) (by intro v hv; simp [kl] at hv; rcases hv with rfl | rfl | rfl | rfl <;> exact ⟨_, _, rfl⟩)
    rw [show ((kl 4).map fun v => byteV (v.iD.headD 0)) = [6, 7, 8, 9].map byteV from rfl] at eids
    have hb2 := fun cf base h0 => (BR_imm h0 false [6, 7, 8, 9]).o_b2s (cf := cf) (base := base)
    simp only [List.map_cons, List.map_nil] at hb2
    have f3 : Fw [] h H' := (fw.trans (Fw.app _ _ _)).new fw' (by intro j hj; simp at hj; rcases hj with rfl | rfl <;> left <;> omega)
    have htk := f3.take
    have hlen4 : (kl 4).length = 4 := rfl
    simp only [Option.getD_none, Option.isSome_none, zeroV, Vault.enc, List.map_nil] at eg0
    simp only [zeroV, Vault.enc, List.map_nil] at ep
    have h44 : decide (((4 : Nat) : Int) = 4) = true := rfl
    have hvb : (0 : Nat) = 0 := rfl
    try simp only [e1, h44, eg0, ep, elen, eall, eids, hb2, htk, hlen4, hfl, zero4_a, zero16_a, byteV_ty, byteV_so, List.length_map, go_sem, V.s.injEq, Value.bool.injEq, ↓reduceIte, Nat.reduceEqDiff, Nat.reduceBEq, Nat.reduceAdd, Nat.reduceSub, Nat.reduceLT, Nat.reduceLeDiff, Int.reduceLT, Int.reduceLE, Int.reduceEq, Int.reduceToNat, List.append_assoc, List.length_append, Vm.get_app, Vm.set_app, Vm.get_appL, Vm.get_appL0, Vm.set_appL, Vm.set_appL0, Nat.le_refl, Nat.le_add_right, okAt]
    repeat' (
      first | refine wpC_cases ?_ ?_ | refine wpU_casesT ?_ ?_ | refine wpU_casesF ?_ ?_
      all_goals intro hvc
      all_goals first | replace hvc := not_of_true hvc | replace hvc := not_of_false hvc | skip
      all_goals first | subst hvc | replace hvb := And.intro hvc hvb
      all_goals try simp only [hvb, e1, h44, eg0, ep, elen, eall, eids, hb2, htk, hlen4, hfl, zero4_a, zero16_a, byteV_ty, byteV_so, List.length_map, go_sem, V.s.injEq, Value.bool.injEq, ↓reduceIte, Nat.reduceEqDiff, Nat.reduceBEq, Nat.reduceAdd, Nat.reduceSub, Nat.reduceLT, Nat.reduceLeDiff, Int.reduceLT, Int.reduceLE, Int.reduceEq, Int.reduceToNat, List.append_assoc, List.length_append, Vm.get_app, Vm.set_app, Vm.get_appL, Vm.get_appL0, Vm.set_appL, Vm.set_appL0, Nat.le_refl, Nat.le_add_right, okAt])
  all_goals rfl
end Go.Proofs.Ytfhmclgnfabdfaa
