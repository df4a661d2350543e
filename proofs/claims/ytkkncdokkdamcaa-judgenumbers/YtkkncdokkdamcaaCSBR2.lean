/- What is left of bytes: the document's. Conditions: none. -/
import Derived.Test.YtkkncdokkdamcaaCSBR
namespace Go.Proofs.Ytkkncdokkdamcaa
open Go Go.Vm Go.Proofs Go.Cl
set_option linter.unusedSimpArgs false
set_option linter.unusedVariables false
set_option maxRecDepth 100000
theorem u8natR (n : Nat) (h : n < 256) : (UInt8.ofNat n).toNat = n := by
  rw [UInt8.toNat_ofNat']; omega
def zerR : List V := zero16.map byteV
def wvR : List V := [.s (.int .u32 1668047222), .s (.int .u32 1768383858), .s (.int .u32 1801807216), .s (.int .u32 1935763045)]
def baseR (l : Bs) (z : Nat) : Bs := l ++ [128] ++ List.replicate z 0
theorem baseR_succ (l : Bs) (z : Nat) : baseR l (z + 1) = baseR l z ++ [0] := by simp [baseR, List.replicate_succ']
theorem baseR_len (l : Bs) (z : Nat) : (baseR l z).length = l.length + 1 + z := by simp [baseR]; omega
theorem u8_modR (n : Nat) : V.s (.int .u8 (IntKind.u8.wrap (n : Int))) = byteV (UInt8.ofNat (n % 256)) := by
  have : IntKind.u8.wrap (n : Int) = (n : Int) % 256 := by
    simp only [IntKind.wrap, IntKind.bits, IntKind.signed]; rfl
  rw [this, byteV, u8natR (n % 256) (by omega)]
  congr 2
theorem frzA_bytesR (n : Nat) (h : Hp) : ∀ l : Bs, frzV.all n h (l.map byteV) = some (l.map byteV)
  | [] => frzA_nil n h
  | b :: l => by rw [List.map_cons, frzA_cons, frzA_bytesR n h l]; rfl
theorem getR2 (h : Hp) (a b : Blk) : (h ++ [a, b])[h.length]? = some a ∧ (h ++ [a, b])[h.length + 1]? = some b := by
  constructor
  · rw [List.getElem?_append_right (Nat.le_refl _)]; simp
  · rw [List.getElem?_append_right (by omega)]; simp
theorem ground_bytes (l : Bs) : ∀ z ∈ l.map byteV, V.ground z = true := by
  intro z hz
  obtain ⟨b, _, rfl⟩ := List.mem_map.1 hz
  rfl
theorem le4_take (l : Bs) : le4 (l.take 4) = le4 l := by
  simp [le4, List.getD, List.getElem?_take]
def GR (h : Hp) : Hp := h ++ [Blk.cells (some 28) [.arr 28 zerR], Blk.cells none wvR]
/-- The words after so many bytes were taken off. -/
def offW (Y : W) (i : Nat) : W := ⟨Y.a / 256 ^ min i 4, Y.b / 256 ^ (min i 8 - 4), Y.c / 256 ^ (min i 12 - 8), Y.d / 256 ^ (i - 12)⟩
theorem offW_at (Y : W) (i : Nat) (hi : i < 16) : (offW Y i).at (i / 4) = Y.at (i / 4) / 2 ^ (8 * (i % 4)) := by
  have : i = 0 ∨ i = 1 ∨ i = 2 ∨ i = 3 ∨ i = 4 ∨ i = 5 ∨ i = 6 ∨ i = 7 ∨ i = 8 ∨ i = 9 ∨ i = 10 ∨ i = 11 ∨ i = 12 ∨ i = 13 ∨ i = 14 ∨ i = 15 := by omega
  rcases this with h | h | h | h | h | h | h | h | h | h | h | h | h | h | h | h <;> subst h <;> simp [offW, W.at]
theorem offW_step (Y : W) (i : Nat) (hi : i < 16) : (offW Y i).vs.set (i / 4) (.s (.int .u32 (((offW Y i).at (i / 4) / 256 : Nat) : Int))) = (offW Y (i + 1)).vs := by
  have : i = 0 ∨ i = 1 ∨ i = 2 ∨ i = 3 ∨ i = 4 ∨ i = 5 ∨ i = 6 ∨ i = 7 ∨ i = 8 ∨ i = 9 ∨ i = 10 ∨ i = 11 ∨ i = 12 ∨ i = 13 ∨ i = 14 ∨ i = 15 := by omega
  rcases this with h | h | h | h | h | h | h | h | h | h | h | h | h | h | h | h <;> subst h <;> simp [offW, W.at, W.vs, Nat.div_div_eq_div_mul]
theorem RSum_ok (b : Nat) (h : Hp) (x : V) (l : Bs) (hb : Rd h x l) (hl : l.length ≤ 1000000) : run fns pr b 82 [x] h = some (.arr 28 ((sumB l).map byteV), h) := by
  refine Vm.runP (nt := 104) rfl fit82 (by simp) ?_
  obtain ⟨g0, g1⟩ : (GR h)[h.length]? = _ ∧ (GR h)[h.length + 1]? = _ := getR2 h (.cells (some 28) [.arr 28 zerR]) (.cells none wvR)
  have hlG : (GR h).length = h.length + 2 := by simp [GR]
  have hsx : source (GR h) x = some (none, l.map byteV) := by
    have := hb.1 (GR h) (Fw.app [] h _)
    cases x <;> first | exact this | (simp [elems] at this)
  obtain ⟨v, H1, k1, hap1, xr1, hk1, hm1, _, _, hold1⟩ := (XR.nil (GR h) none (h.length + 2)).appL (n := h.length + 2) (bytes := 1) (by omega) (by omega) hsx (ground_bytes l) (by simp; omega)
  obtain ⟨v2, H2, k2, hap2, xr2, hk2, hm2, _, _, hold2⟩ := xr1.pushL (m := 1) (ys := [byteV 128]) (bytes := 1) hk1 hm1 rfl (fun z hz => by simp at hz; subst hz; rfl) (by simp; omega)
  have g0 := hold2 _ _ (by omega) (hold1 _ _ (by omega) g0)
  have g1 := hold2 _ _ (by omega) (hold1 _ _ (by omega) g1)
  have fw : Fw [] h H2 := Fw.of_old (by omega) fun j b hj => by
    have := lt_of_get hj
    exact hold2 _ _ (by omega) (hold1 _ _ (by omega) (get_old hj _))
  have hb8 : byteV 128 = .s (.int .u8 128) := rfl
  rw [hb8] at hap2
  have xr2 : XR H2 none k2 v2 ((baseR l 0).map byteV) := by simpa [baseR] using xr2
  have hty := xr1.ty
  simp only [GR, zerR, wvR] at hap1
  have hvb : (0 : Nat) = 0 := rfl
  try simp only [B82, B82R0, B82R2, B82R4, B82R6, B82R8, B82L8, B82L6, B82L4, B82L2, B82L0, hap1, hap2, go_sem, V.s.injEq, Value.bool.injEq, ↓reduceIte, Nat.reduceEqDiff, Nat.reduceBEq, Nat.reduceAdd, Nat.reduceSub, Nat.reduceLT, Nat.reduceLeDiff, Int.reduceLT, Int.reduceLE, Int.reduceEq, Int.reduceToNat, List.append_assoc, List.length_append, Vm.get_app, Vm.set_app, Vm.get_appL, Vm.get_appL0, Vm.set_appL, Vm.set_appL0, Nat.le_refl, Nat.le_add_right, okAt]
  repeat' (
    first | refine wpC_cases ?_ ?_ | refine wpU_casesT ?_ ?_ | refine wpU_casesF ?_ ?_
    all_goals intro hvc
    all_goals first | replace hvc := not_of_true hvc | replace hvc := not_of_false hvc | skip
    all_goals first | subst hvc | replace hvb := And.intro hvc hvb
    all_goals try simp only [hvb, B82, B82R0, B82R2, B82R4, B82R6, B82R8, B82L8, B82L6, B82L4, B82L2, B82L0, hap1, hap2, go_sem, V.s.injEq, Value.bool.injEq, ↓reduceIte, Nat.reduceEqDiff, Nat.reduceBEq, Nat.reduceAdd, Nat.reduceSub, Nat.reduceLT, Nat.reduceLeDiff, Int.reduceLT, Int.reduceLE, Int.reduceEq, Int.reduceToNat, List.append_assoc, List.length_append, Vm.get_app, Vm.set_app, Vm.get_appL, Vm.get_appL0, Vm.set_appL, Vm.set_appL0, Nat.le_refl, Nat.le_add_right, okAt])
  clear hap1 hap2 hold1 hold2 hsx
  have hxl : ∀ cf base (h0 : Hp), opV cf base h0 .len [x] = some (.s (.int .i64 l.length), h0) := fun cf base h0 => Vm.o_len cf base h0 x _ hb.2
  have w1 : IntKind.u64.wrap (l.length : Int) = (l.length : Int) := wrap_u64 (by omega) (by omega)
  refine wp_for (fun m e H => ∃ z k y, m = pads l.length - z ∧ z ≤ pads l.length ∧ e 0 = x ∧ e 2 = .ptr h.length [0] 1 ∧ e 3 = .ref (h.length + 1) [] none 0 4 4 ∧ e 4 = y ∧ H[h.length]? = some (.cells (some 28) [.arr 28 zerR]) ∧ H[h.length + 1]? = some (.cells none wvR) ∧ XR H none k y ((baseR l z).map byteV) ∧ Fw [] h H ∧ h.length + 2 ≤ k ∧ h.length + 2 ≤ H.length)
    (fun e H => ∃ k y, e 0 = x ∧ e 2 = .ptr h.length [0] 1 ∧ e 3 = .ref (h.length + 1) [] none 0 4 4 ∧ e 4 = y ∧ H[h.length]? = some (.cells (some 28) [.arr 28 zerR]) ∧ H[h.length + 1]? = some (.cells none wvR) ∧ XR H none k y ((baseR l (pads l.length)).map byteV) ∧ Fw [] h H ∧ h.length + 2 ≤ k ∧ h.length + 2 ≤ H.length)
    (pads l.length) _ _ ⟨0, k2, v2, rfl, by omega, rfl, rfl, rfl, rfl, g0, g1, xr2, fw, hk2, hm2⟩ ?_ ?_
  · clear xr2 fw hk2 hm2 g0 g1 xr1 hty
    rintro m e H ⟨z, k, y, rfl, hz, e0, e2, e3, e4, hg0, hg1, xr, fw, hk, hlH⟩
    have hln := fun cf base => xr.BR.o_len (cf := cf) (base := base) (h := H)
    rw [baseR_len] at hln
    have hpd : pads l.length = (8 - (l.length + 1) % 8) % 8 := rfl
    have hrm : ∀ cf base h, opV cf base h (.bin .num .rem) [.s (.int .i64 ((l.length + 1 + z : Nat) : Int)), .s (.int .i64 8)] = some (.s (.int .i64 (((l.length + 1 + z) % 8 : Nat) : Int)), h) := fun cf base h => by
      rw [o_rem cf base h .i64 _ 8 (by omega), Int.tmod_eq_emod_of_nonneg (by omega)]; rfl
    by_cases c : z < pads l.length
    · have c' : ¬ (((l.length + 1 + z) % 8 : Nat) : Int) = 0 := by omega
      obtain ⟨x', H', k', hap, xr', hk', hl', _, hg, hold⟩ := xr.pushL (m := 1) (ys := [.s (.int .u8 0)]) (bytes := 1) hk hlH rfl (fun z hz => by simp at hz; subst hz; rfl) (by simp [baseR_len]; unfold pads at c; omega)
      have xr' : XR H' none k' x' ((baseR l (z + 1)).map byteV) := by rw [baseR_succ, List.map_append]; exact xr'
      have fw' : Fw [] h H' := fw.trans' hg hold hk
      have hvb : (0 : Nat) = 0 := rfl
      try simp only [e0, e2, e3, e4, hln, hrm, c', hap, go_sem, V.s.injEq, Value.bool.injEq, ↓reduceIte, Nat.reduceEqDiff, Nat.reduceBEq, Nat.reduceAdd, Nat.reduceSub, Nat.reduceLT, Nat.reduceLeDiff, Int.reduceLT, Int.reduceLE, Int.reduceEq, Int.reduceToNat, List.append_assoc, List.length_append, Vm.get_app, Vm.set_app, Vm.get_appL, Vm.get_appL0, Vm.set_appL, Vm.set_appL0, Nat.le_refl, Nat.le_add_right, okAt]
      repeat' (
        first | refine wpC_cases ?_ ?_ | refine wpU_casesT ?_ ?_ | refine wpU_casesF ?_ ?_
        all_goals intro hvc
        all_goals first | replace hvc := not_of_true hvc | replace hvc := not_of_false hvc | skip
        all_goals first | subst hvc | replace hvb := And.intro hvc hvb
        all_goals try simp only [hvb, e0, e2, e3, e4, hln, hrm, c', hap, go_sem, V.s.injEq, Value.bool.injEq, ↓reduceIte, Nat.reduceEqDiff, Nat.reduceBEq, Nat.reduceAdd, Nat.reduceSub, Nat.reduceLT, Nat.reduceLeDiff, Int.reduceLT, Int.reduceLE, Int.reduceEq, Int.reduceToNat, List.append_assoc, List.length_append, Vm.get_app, Vm.set_app, Vm.get_appL, Vm.get_appL0, Vm.set_appL, Vm.set_appL0, Nat.le_refl, Nat.le_add_right, okAt])
      all_goals exact ⟨pads l.length - (z + 1), by omega, z + 1, k', x', rfl, by omega, rfl, hold _ _ (by omega) hg0, hold _ _ (by omega) hg1, xr', fw', hk', hl'⟩
    · have c' : (((l.length + 1 + z) % 8 : Nat) : Int) = 0 := by omega
      have : z = pads l.length := by omega
      have hvb : (0 : Nat) = 0 := rfl
      try simp only [e0, e2, e3, e4, hln, hrm, c', go_sem, V.s.injEq, Value.bool.injEq, ↓reduceIte, Nat.reduceEqDiff, Nat.reduceBEq, Nat.reduceAdd, Nat.reduceSub, Nat.reduceLT, Nat.reduceLeDiff, Int.reduceLT, Int.reduceLE, Int.reduceEq, Int.reduceToNat, List.append_assoc, List.length_append, Vm.get_app, Vm.set_app, Vm.get_appL, Vm.get_appL0, Vm.set_appL, Vm.set_appL0, Nat.le_refl, Nat.le_add_right, okAt]
      repeat' (
        first | refine wpC_cases ?_ ?_ | refine wpU_casesT ?_ ?_ | refine wpU_casesF ?_ ?_
        all_goals intro hvc
        all_goals first | replace hvc := not_of_true hvc | replace hvc := not_of_false hvc | skip
        all_goals first | subst hvc | replace hvb := And.intro hvc hvb
        all_goals try simp only [hvb, e0, e2, e3, e4, hln, hrm, c', go_sem, V.s.injEq, Value.bool.injEq, ↓reduceIte, Nat.reduceEqDiff, Nat.reduceBEq, Nat.reduceAdd, Nat.reduceSub, Nat.reduceLT, Nat.reduceLeDiff, Int.reduceLT, Int.reduceLE, Int.reduceEq, Int.reduceToNat, List.append_assoc, List.length_append, Vm.get_app, Vm.set_app, Vm.get_appL, Vm.get_appL0, Vm.set_appL, Vm.set_appL0, Nat.le_refl, Nat.le_add_right, okAt])
      all_goals (subst this; exact ⟨k, y, rfl, hg0, hg1, xr, fw, hk, hlH⟩)
  · clear xr2 fw hk2 hm2 g0 g1 xr1 hty
    rintro e H ⟨k, y, e0, e2, e3, e4, hg0, hg1, xr, fw, hk, hlH⟩
    have hvb : (0 : Nat) = 0 := rfl
    try simp only [e0, e2, e3, e4, hxl, w1, go_sem, V.s.injEq, Value.bool.injEq, ↓reduceIte, Nat.reduceEqDiff, Nat.reduceBEq, Nat.reduceAdd, Nat.reduceSub, Nat.reduceLT, Nat.reduceLeDiff, Int.reduceLT, Int.reduceLE, Int.reduceEq, Int.reduceToNat, List.append_assoc, List.length_append, Vm.get_app, Vm.set_app, Vm.get_appL, Vm.get_appL0, Vm.set_appL, Vm.set_appL0, Nat.le_refl, Nat.le_add_right, okAt]
    repeat' (
      first | refine wpC_cases ?_ ?_ | refine wpU_casesT ?_ ?_ | refine wpU_casesF ?_ ?_
      all_goals intro hvc
      all_goals first | replace hvc := not_of_true hvc | replace hvc := not_of_false hvc | skip
      all_goals first | subst hvc | replace hvb := And.intro hvc hvb
      all_goals try simp only [hvb, e0, e2, e3, e4, hxl, w1, go_sem, V.s.injEq, Value.bool.injEq, ↓reduceIte, Nat.reduceEqDiff, Nat.reduceBEq, Nat.reduceAdd, Nat.reduceSub, Nat.reduceLT, Nat.reduceLeDiff, Int.reduceLT, Int.reduceLE, Int.reduceEq, Int.reduceToNat, List.append_assoc, List.length_append, Vm.get_app, Vm.set_app, Vm.get_appL, Vm.get_appL0, Vm.set_appL, Vm.set_appL0, Nat.le_refl, Nat.le_add_right, okAt])
    refine wp_for (fun m e H => ∃ i k y, m = 8 - i ∧ i ≤ 8 ∧ e 6 = .s (.int .i64 (i : Nat)) ∧ e 5 = .s (.int .u64 ((l.length / 2 ^ (8 * i) : Nat) : Int)) ∧ e 2 = .ptr h.length [0] 1 ∧ e 3 = .ref (h.length + 1) [] none 0 4 4 ∧ e 4 = y ∧ H[h.length]? = some (.cells (some 28) [.arr 28 zerR]) ∧ H[h.length + 1]? = some (.cells none wvR) ∧ XR H none k y ((baseR l (pads l.length) ++ len8 l.length i).map byteV) ∧ Fw [] h H ∧ h.length + 2 ≤ k ∧ h.length + 2 ≤ H.length)
      (fun e H => ∃ y, e 2 = .ptr h.length [0] 1 ∧ e 3 = .ref (h.length + 1) [] none 0 4 4 ∧ e 4 = y ∧ H[h.length]? = some (.cells (some 28) [.arr 28 zerR]) ∧ H[h.length + 1]? = some (.cells none wvR) ∧ BR H y (padded l) ∧ Fw [] h H)
      8 _ _ ⟨0, k, y, rfl, by omega, rfl, by simp; rfl, e2, e3, e4, hg0, hg1, by simpa [len8] using xr, fw, hk, hlH⟩ ?_ ?_
    · clear xr fw hk hlH hg0 hg1 e4 y k
      rintro m e H ⟨i, k, y, rfl, hi, e6, e5, e2, e3, e4, hg0, hg1, xr, fw, hk, hlH⟩
      by_cases c : i < 8
      · have c' : (i : Int) < 8 := by omega
        have hwr : IntKind.i64.wrap ((i : Int) + 1) = ((i + 1 : Nat) : Int) := wrap_small (by omega)
        have hq : ∀ cf base h, opV cf base h (.bin .num .quo) [.s (.int .u64 ((l.length / 2 ^ (8 * i) : Nat) : Int)), .s (.int .u64 256)] = some (.s (.int .u64 ((l.length / 2 ^ (8 * (i + 1)) : Nat) : Int)), h) := fun cf base h => by
          have h1 : l.length / 2 ^ (8 * i) ≤ l.length := Nat.div_le_self _ _
          have h2 : l.length / 2 ^ (8 * (i + 1)) = l.length / 2 ^ (8 * i) / 256 := by rw [Nat.div_div_eq_div_mul, show 8 * (i + 1) = 8 * i + 8 by omega, Nat.pow_add]
          rw [o_quo cf base h .u64 _ 256 (by omega), h2]
          generalize l.length / 2 ^ (8 * i) = n at h1
          rw [Int.tdiv_eq_ediv_of_nonneg (by omega), wrap_u64 (by omega) (by omega)]; rfl
        have hby : V.s (.int .u8 (IntKind.u8.wrap ((l.length / 2 ^ (8 * i) : Nat) : Int))) = byteV (UInt8.ofNat (l.length / 2 ^ (8 * i) % 256)) := u8_modR _
        obtain ⟨x', H', k', hap, xr', hk', hl', _, hg, hold⟩ := xr.pushL (m := 1) (ys := [.s (.int .u8 (IntKind.u8.wrap ((l.length / 2 ^ (8 * i) : Nat) : Int)))]) (bytes := 1) hk hlH rfl (fun z hz => by simp at hz; subst hz; rfl) (by simp [baseR_len, len8_len]; unfold pads; omega)
        have xr' : XR H' none k' x' ((baseR l (pads l.length) ++ len8 l.length (i + 1)).map byteV) := by rw [len8, ← List.append_assoc, List.map_append, List.map_singleton, ← hby]; exact xr'
        have fw' : Fw [] h H' := fw.trans' hg hold hk
        have hvb : (0 : Nat) = 0 := rfl
        try simp only [e6, e5, e2, e3, e4, c', hap, hwr, hq, go_sem, V.s.injEq, Value.bool.injEq, ↓reduceIte, Nat.reduceEqDiff, Nat.reduceBEq, Nat.reduceAdd, Nat.reduceSub, Nat.reduceLT, Nat.reduceLeDiff, Int.reduceLT, Int.reduceLE, Int.reduceEq, Int.reduceToNat, List.append_assoc, List.length_append, Vm.get_app, Vm.set_app, Vm.get_appL, Vm.get_appL0, Vm.set_appL, Vm.set_appL0, Nat.le_refl, Nat.le_add_right, okAt]
        repeat' (
          first | refine wpC_cases ?_ ?_ | refine wpU_casesT ?_ ?_ | refine wpU_casesF ?_ ?_
          all_goals intro hvc
          all_goals first | replace hvc := not_of_true hvc | replace hvc := not_of_false hvc | skip
          all_goals first | subst hvc | replace hvb := And.intro hvc hvb
          all_goals try simp only [hvb, e6, e5, e2, e3, e4, c', hap, hwr, hq, go_sem, V.s.injEq, Value.bool.injEq, ↓reduceIte, Nat.reduceEqDiff, Nat.reduceBEq, Nat.reduceAdd, Nat.reduceSub, Nat.reduceLT, Nat.reduceLeDiff, Int.reduceLT, Int.reduceLE, Int.reduceEq, Int.reduceToNat, List.append_assoc, List.length_append, Vm.get_app, Vm.set_app, Vm.get_appL, Vm.get_appL0, Vm.set_appL, Vm.set_appL0, Nat.le_refl, Nat.le_add_right, okAt])
        all_goals exact ⟨8 - (i + 1), by omega, i + 1, k', x', rfl, by omega, rfl, rfl, rfl, hold _ _ (by omega) hg0, hold _ _ (by omega) hg1, xr', fw', hk', hl'⟩
      · have c' : ¬ (i : Int) < 8 := by omega
        have : i = 8 := by omega
        have hvb : (0 : Nat) = 0 := rfl
        try simp only [e6, e5, e2, e3, e4, c', go_sem, V.s.injEq, Value.bool.injEq, ↓reduceIte, Nat.reduceEqDiff, Nat.reduceBEq, Nat.reduceAdd, Nat.reduceSub, Nat.reduceLT, Nat.reduceLeDiff, Int.reduceLT, Int.reduceLE, Int.reduceEq, Int.reduceToNat, List.append_assoc, List.length_append, Vm.get_app, Vm.set_app, Vm.get_appL, Vm.get_appL0, Vm.set_appL, Vm.set_appL0, Nat.le_refl, Nat.le_add_right, okAt]
        repeat' (
          first | refine wpC_cases ?_ ?_ | refine wpU_casesT ?_ ?_ | refine wpU_casesF ?_ ?_
          all_goals intro hvc
          all_goals first | replace hvc := not_of_true hvc | replace hvc := not_of_false hvc | skip
          all_goals first | subst hvc | replace hvb := And.intro hvc hvb
          all_goals try simp only [hvb, e6, e5, e2, e3, e4, c', go_sem, V.s.injEq, Value.bool.injEq, ↓reduceIte, Nat.reduceEqDiff, Nat.reduceBEq, Nat.reduceAdd, Nat.reduceSub, Nat.reduceLT, Nat.reduceLeDiff, Int.reduceLT, Int.reduceLE, Int.reduceEq, Int.reduceToNat, List.append_assoc, List.length_append, Vm.get_app, Vm.set_app, Vm.get_appL, Vm.get_appL0, Vm.set_appL, Vm.set_appL0, Nat.le_refl, Nat.le_add_right, okAt])
        all_goals (subst this; exact ⟨y, rfl, hg0, hg1, xr.BR, fw⟩)
    · clear xr fw hk hlH hg0 hg1 e4 y k
      rintro e H ⟨y, e2, e3, e4, hg0, hg1, br, fw⟩
      have hout : sumB l = outN (stirN (absN (padded l) ((padded l).length / 8)) 8) 16 := rfl
      have hmod := padded_mod l
      obtain ⟨N, hN⟩ : ∃ N, (padded l).length / 8 = N := ⟨_, rfl⟩
      have hlP := padded_len l
      have hpd : pads l.length < 8 := by unfold pads; omega
      generalize padded l = P at hmod hN hlP br hout
      rw [hN] at hout
      have hP8 : P.length = 8 * N := by omega
      have hvb : (0 : Nat) = 0 := rfl
      try simp only [e2, e3, e4, go_sem, V.s.injEq, Value.bool.injEq, ↓reduceIte, Nat.reduceEqDiff, Nat.reduceBEq, Nat.reduceAdd, Nat.reduceSub, Nat.reduceLT, Nat.reduceLeDiff, Int.reduceLT, Int.reduceLE, Int.reduceEq, Int.reduceToNat, List.append_assoc, List.length_append, Vm.get_app, Vm.set_app, Vm.get_appL, Vm.get_appL0, Vm.set_appL, Vm.set_appL0, Nat.le_refl, Nat.le_add_right, okAt]
      repeat' (
        first | refine wpC_cases ?_ ?_ | refine wpU_casesT ?_ ?_ | refine wpU_casesF ?_ ?_
        all_goals intro hvc
        all_goals first | replace hvc := not_of_true hvc | replace hvc := not_of_false hvc | skip
        all_goals first | subst hvc | replace hvb := And.intro hvc hvb
        all_goals try simp only [hvb, e2, e3, e4, go_sem, V.s.injEq, Value.bool.injEq, ↓reduceIte, Nat.reduceEqDiff, Nat.reduceBEq, Nat.reduceAdd, Nat.reduceSub, Nat.reduceLT, Nat.reduceLeDiff, Int.reduceLT, Int.reduceLE, Int.reduceEq, Int.reduceToNat, List.append_assoc, List.length_append, Vm.get_app, Vm.set_app, Vm.get_appL, Vm.get_appL0, Vm.set_appL, Vm.set_appL0, Nat.le_refl, Nat.le_add_right, okAt])
      refine wp_for (fun m e H => ∃ i, m = N - i ∧ i ≤ N ∧ e 7 = .s (.int .i64 ((8 * i : Nat) : Int)) ∧ e 2 = .ptr h.length [0] 1 ∧ e 3 = .ref (h.length + 1) [] none 0 4 4 ∧ e 4 = y ∧ H[h.length]? = some (.cells (some 28) [.arr 28 zerR]) ∧ H[h.length + 1]? = some (.cells none (absN P i).vs) ∧ BR H y P ∧ Fw [] h H)
        (fun e H => e 2 = .ptr h.length [0] 1 ∧ e 3 = .ref (h.length + 1) [] none 0 4 4 ∧ H[h.length]? = some (.cells (some 28) [.arr 28 zerR]) ∧ H[h.length + 1]? = some (.cells none (absN P N).vs) ∧ Fw [] h H)
        N _ _ ⟨0, rfl, by omega, rfl, e2, e3, e4, hg0, hg1, by simpa using br, fw⟩ ?_ ?_
      · clear br hg0 hg1 fw
        rintro m e H ⟨i, rfl, hi, e7, e2, e3, e4, hg0, hg1, br, fw⟩
        have hln := fun cf base => br.o_len (cf := cf) (base := base) (h := H)
        rw [hP8] at hln
        by_cases c : i < N
        · have c' : ((8 * i : Nat) : Int) < ((8 * N : Nat) : Int) := by omega
          have habs : absN P (i + 1) = abs1 (absN P i) (P.drop (8 * i)) := rfl
          have hXok := absN_ok P i
          generalize absN P i = X at hg1 habs hXok
          have hss : ∀ c, (H.set (h.length + 1) c)[h.length + 1]? = some c := fun c => set_get hg1
          have hs2 : ∀ c d, (H.set (h.length + 1) c).set (h.length + 1) d = H.set (h.length + 1) d := fun c d => List.set_set ..
          have hs0 : ∀ c, (H.set (h.length + 1) c)[h.length]? = some (.cells (some 28) [.arr 28 zerR]) := fun c => by rw [List.getElem?_set_ne (by omega)]; exact hg0
          have hfw : ∀ c, Fw [] h (H.set (h.length + 1) c) := fun c => fw.set_new (by omega) c
          have hbr : ∀ c, (∀ bl : Bs, X.vs ≠ bl.map byteV) → BR (H.set (h.length + 1) c) y P := fun c hq => br.mono (Fw.setN (S := [h.length + 1]) (by simp) hg1 hq)
          have hnb : ∀ Z : W, ∀ bl : Bs, Z.vs ≠ bl.map byteV := fun Z bl he => by
            cases bl with
            | nil => simp [W.vs] at he
            | cons b bl => simp [W.vs, byteV] at he
          have hbr := fun c => hbr c (hnb X)
          have a1 : IntKind.i64.wrap (((8 * i : Nat) : Int) + 4) = ((8 * i + 4 : Nat) : Int) := by rw [wrap_i64 (by omega) (by omega)]; omega
          have a2 : IntKind.i64.wrap (((8 * i : Nat) : Int) + 8) = ((8 * i + 8 : Nat) : Int) := by rw [wrap_i64 (by omega) (by omega)]; omega
          obtain ⟨y1, hy1, br1⟩ := br.both (k := .i64) (k' := .i64) (a := 8 * i) (r := 8 * i + 4) (by omega) (by omega)
          have hw1 := word_ok h.length H y1 _ br1 (by simp; omega)
          have ht1 : le4 ((P.drop (8 * i)).take (8 * i + 4 - 8 * i)) = le4 (P.drop (8 * i)) := by
            rw [show 8 * i + 4 - 8 * i = 4 by omega]; exact le4_take _
          rw [ht1] at hw1
          have hg1' := hg1
          simp only [W.vs] at hg1'
          have hy1' : ∀ cf base, opV cf base H (.slc none true true false) [y, .s (.int .i64 ((8 * i : Nat) : Int)), .s (.int .i64 ((8 * i + 4 : Nat) : Int))] = some (y1, H) := hy1
          obtain ⟨y2, hy2, br2⟩ := (hbr (.cells none [.s (.int .u32 (xr X.a (le4 (P.drop (8 * i))) : Nat)), .s (.int .u32 X.b), .s (.int .u32 X.c), .s (.int .u32 X.d)])).both (k := .i64) (k' := .i64) (a := 8 * i + 4) (r := 8 * i + 8) (by omega) (by omega)
          have hw2 := word_ok h.length _ y2 _ br2 (by simp; omega)
          have ht2 : le4 ((P.drop (8 * i + 4)).take (8 * i + 8 - (8 * i + 4))) = le4 ((P.drop (8 * i)).drop 4) := by
            rw [show 8 * i + 8 - (8 * i + 4) = 4 by omega, List.drop_drop]; exact le4_take _
          rw [ht2] at hw2
          obtain ⟨W1, hW1⟩ : ∃ W1 : W, (⟨xr X.a (le4 (P.drop (8 * i))), X.b, X.c, xr X.d (le4 ((P.drop (8 * i)).drop 4))⟩ : W) = W1 := ⟨_, rfl⟩
          have hab2 : absN P (i + 1) = stirW (stirW (stirW W1)) := by rw [habs, ← hW1]; rfl
          have hW1ok : W1.ok := by rw [← hW1]; exact ⟨xr_lt _ _, hXok.2.1, hXok.2.2.1, xr_lt _ _⟩
          have hW1v : [V.s (.int .u32 ((xr X.a (le4 (P.drop (8 * i))) : Nat) : Int)), .s (.int .u32 X.b), .s (.int .u32 X.c), .s (.int .u32 ((xr X.d (le4 ((P.drop (8 * i)).drop 4)) : Nat) : Int))] = W1.vs := by rw [← hW1]; rfl
          have s1 := rstir_ok h.length (H.set (h.length + 1) (.cells none W1.vs)) (h.length + 1) W1 hW1ok (hss _)
          have s2 := rstir_ok h.length (H.set (h.length + 1) (.cells none (stirW W1).vs)) (h.length + 1) (stirW W1) (stirW_ok _) (hss _)
          have s3 := rstir_ok h.length (H.set (h.length + 1) (.cells none (stirW (stirW W1)).vs)) (h.length + 1) (stirW (stirW W1)) (stirW_ok _) (hss _)
          rw [hs2] at s1 s2 s3
          have l0 : (0 : Int) < ((4 : Nat) : Int) := by decide
          have l3 : (3 : Int) < ((4 : Nat) : Int) := by decide
          have hvb : (0 : Nat) = 0 := rfl
          try simp only [e7, e2, e3, e4, hln, c', l0, l3, a1, a2, hw1, hg1', hss, hs2, hy1', hy2, hw2, xr_i, ground_orR, hW1v, s1, s2, s3, go_sem, V.s.injEq, Value.bool.injEq, ↓reduceIte, Nat.reduceEqDiff, Nat.reduceBEq, Nat.reduceAdd, Nat.reduceSub, Nat.reduceLT, Nat.reduceLeDiff, Int.reduceLT, Int.reduceLE, Int.reduceEq, Int.reduceToNat, List.append_assoc, List.length_append, Vm.get_app, Vm.set_app, Vm.get_appL, Vm.get_appL0, Vm.set_appL, Vm.set_appL0, Nat.le_refl, Nat.le_add_right, okAt]
          repeat' (
            first | refine wpC_cases ?_ ?_ | refine wpU_casesT ?_ ?_ | refine wpU_casesF ?_ ?_
            all_goals intro hvc
            all_goals first | replace hvc := not_of_true hvc | replace hvc := not_of_false hvc | skip
            all_goals first | subst hvc | replace hvb := And.intro hvc hvb
            all_goals try simp only [hvb, e7, e2, e3, e4, hln, c', l0, l3, a1, a2, hw1, hg1', hss, hs2, hy1', hy2, hw2, xr_i, ground_orR, hW1v, s1, s2, s3, go_sem, V.s.injEq, Value.bool.injEq, ↓reduceIte, Nat.reduceEqDiff, Nat.reduceBEq, Nat.reduceAdd, Nat.reduceSub, Nat.reduceLT, Nat.reduceLeDiff, Int.reduceLT, Int.reduceLE, Int.reduceEq, Int.reduceToNat, List.append_assoc, List.length_append, Vm.get_app, Vm.set_app, Vm.get_appL, Vm.get_appL0, Vm.set_appL, Vm.set_appL0, Nat.le_refl, Nat.le_add_right, okAt])
          all_goals exact ⟨N - (i + 1), by omega, i + 1, rfl, by omega, rfl, hs0 _, by rw [hab2], hbr _, hfw _⟩
        · have c' : ¬ ((8 * i : Nat) : Int) < ((8 * N : Nat) : Int) := by omega
          have : i = N := by omega
          have hvb : (0 : Nat) = 0 := rfl
          try simp only [e7, e2, e3, e4, hln, c', go_sem, V.s.injEq, Value.bool.injEq, ↓reduceIte, Nat.reduceEqDiff, Nat.reduceBEq, Nat.reduceAdd, Nat.reduceSub, Nat.reduceLT, Nat.reduceLeDiff, Int.reduceLT, Int.reduceLE, Int.reduceEq, Int.reduceToNat, List.append_assoc, List.length_append, Vm.get_app, Vm.set_app, Vm.get_appL, Vm.get_appL0, Vm.set_appL, Vm.set_appL0, Nat.le_refl, Nat.le_add_right, okAt]
          repeat' (
            first | refine wpC_cases ?_ ?_ | refine wpU_casesT ?_ ?_ | refine wpU_casesF ?_ ?_
            all_goals intro hvc
            all_goals first | replace hvc := not_of_true hvc | replace hvc := not_of_false hvc | skip
            all_goals first | subst hvc | replace hvb := And.intro hvc hvb
            all_goals try simp only [hvb, e7, e2, e3, e4, hln, c', go_sem, V.s.injEq, Value.bool.injEq, ↓reduceIte, Nat.reduceEqDiff, Nat.reduceBEq, Nat.reduceAdd, Nat.reduceSub, Nat.reduceLT, Nat.reduceLeDiff, Int.reduceLT, Int.reduceLE, Int.reduceEq, Int.reduceToNat, List.append_assoc, List.length_append, Vm.get_app, Vm.set_app, Vm.get_appL, Vm.get_appL0, Vm.set_appL, Vm.set_appL0, Nat.le_refl, Nat.le_add_right, okAt])
          all_goals (subst this; exact ⟨hg0, hg1, fw⟩)
      · clear br hg0 hg1 fw e4
        rintro e H ⟨e2, e3, hg0, hg1, fw⟩
        have hXok := absN_ok P N
        generalize absN P N = X at hg1 hout hXok
        have hvb : (0 : Nat) = 0 := rfl
        try simp only [e2, e3, go_sem, V.s.injEq, Value.bool.injEq, ↓reduceIte, Nat.reduceEqDiff, Nat.reduceBEq, Nat.reduceAdd, Nat.reduceSub, Nat.reduceLT, Nat.reduceLeDiff, Int.reduceLT, Int.reduceLE, Int.reduceEq, Int.reduceToNat, List.append_assoc, List.length_append, Vm.get_app, Vm.set_app, Vm.get_appL, Vm.get_appL0, Vm.set_appL, Vm.set_appL0, Nat.le_refl, Nat.le_add_right, okAt]
        repeat' (
          first | refine wpC_cases ?_ ?_ | refine wpU_casesT ?_ ?_ | refine wpU_casesF ?_ ?_
          all_goals intro hvc
          all_goals first | replace hvc := not_of_true hvc | replace hvc := not_of_false hvc | skip
          all_goals first | subst hvc | replace hvb := And.intro hvc hvb
          all_goals try simp only [hvb, e2, e3, go_sem, V.s.injEq, Value.bool.injEq, ↓reduceIte, Nat.reduceEqDiff, Nat.reduceBEq, Nat.reduceAdd, Nat.reduceSub, Nat.reduceLT, Nat.reduceLeDiff, Int.reduceLT, Int.reduceLE, Int.reduceEq, Int.reduceToNat, List.append_assoc, List.length_append, Vm.get_app, Vm.set_app, Vm.get_appL, Vm.get_appL0, Vm.set_appL, Vm.set_appL0, Nat.le_refl, Nat.le_add_right, okAt])
        refine wp_for (fun m e H' => ∃ j, m = 8 - j ∧ j ≤ 8 ∧ e 8 = .s (.int .i64 (j : Nat)) ∧ e 2 = .ptr h.length [0] 1 ∧ e 3 = .ref (h.length + 1) [] none 0 4 4 ∧ H'[h.length]? = some (.cells (some 28) [.arr 28 zerR]) ∧ H'[h.length + 1]? = some (.cells none (stirN X j).vs) ∧ Fw [] h H')
          (fun e H' => e 2 = .ptr h.length [0] 1 ∧ e 3 = .ref (h.length + 1) [] none 0 4 4 ∧ H'[h.length]? = some (.cells (some 28) [.arr 28 zerR]) ∧ H'[h.length + 1]? = some (.cells none (stirN X 8).vs) ∧ Fw [] h H')
          8 _ _ ⟨0, rfl, by omega, rfl, e2, e3, hg0, hg1, fw⟩ ?_ ?_
        · clear hg0 hg1 fw
          rintro m e H' ⟨j, rfl, hj, e8, e2, e3, hg0, hg1, fw⟩
          by_cases c : j < 8
          · have c' : (j : Int) < 8 := by omega
            have hst := rstir_ok h.length H' (h.length + 1) (stirN X j) (stirN_ok hXok j) hg1
            have hst : run fns pr h.length 87 [.ref (h.length + 1) [] none 0 4 4] H' = some (.tup [], H'.set (h.length + 1) (.cells none (stirN X (j + 1)).vs)) := hst
            have hss := set_get hg1 (b := .cells none (stirN X (j + 1)).vs)
            have hs0 : (H'.set (h.length + 1) (.cells none (stirN X (j + 1)).vs))[h.length]? = some (.cells (some 28) [.arr 28 zerR]) := by rw [List.getElem?_set_ne (by omega)]; exact hg0
            have hfw : Fw [] h (H'.set (h.length + 1) (.cells none (stirN X (j + 1)).vs)) := fw.set_new (by omega) _
            have hwr : IntKind.i64.wrap ((j : Int) + 1) = ((j + 1 : Nat) : Int) := wrap_small (by omega)
            have hvb : (0 : Nat) = 0 := rfl
            try simp only [e8, e2, e3, c', hst, hwr, go_sem, V.s.injEq, Value.bool.injEq, ↓reduceIte, Nat.reduceEqDiff, Nat.reduceBEq, Nat.reduceAdd, Nat.reduceSub, Nat.reduceLT, Nat.reduceLeDiff, Int.reduceLT, Int.reduceLE, Int.reduceEq, Int.reduceToNat, List.append_assoc, List.length_append, Vm.get_app, Vm.set_app, Vm.get_appL, Vm.get_appL0, Vm.set_appL, Vm.set_appL0, Nat.le_refl, Nat.le_add_right, okAt]
            repeat' (
              first | refine wpC_cases ?_ ?_ | refine wpU_casesT ?_ ?_ | refine wpU_casesF ?_ ?_
              all_goals intro hvc
              all_goals first | replace hvc := not_of_true hvc | replace hvc := not_of_false hvc | skip
              all_goals first | subst hvc | replace hvb := And.intro hvc hvb
              all_goals try simp only [hvb, e8, e2, e3, c', hst, hwr, go_sem, V.s.injEq, Value.bool.injEq, ↓reduceIte, Nat.reduceEqDiff, Nat.reduceBEq, Nat.reduceAdd, Nat.reduceSub, Nat.reduceLT, Nat.reduceLeDiff, Int.reduceLT, Int.reduceLE, Int.reduceEq, Int.reduceToNat, List.append_assoc, List.length_append, Vm.get_app, Vm.set_app, Vm.get_appL, Vm.get_appL0, Vm.set_appL, Vm.set_appL0, Nat.le_refl, Nat.le_add_right, okAt])
            all_goals exact ⟨8 - (j + 1), by omega, j + 1, rfl, by omega, rfl, hs0, hss, hfw⟩
          · have c' : ¬ (j : Int) < 8 := by omega
            have : j = 8 := by omega
            subst this
            have hvb : (0 : Nat) = 0 := rfl
            try simp only [e8, e2, e3, c', go_sem, V.s.injEq, Value.bool.injEq, ↓reduceIte, Nat.reduceEqDiff, Nat.reduceBEq, Nat.reduceAdd, Nat.reduceSub, Nat.reduceLT, Nat.reduceLeDiff, Int.reduceLT, Int.reduceLE, Int.reduceEq, Int.reduceToNat, List.append_assoc, List.length_append, Vm.get_app, Vm.set_app, Vm.get_appL, Vm.get_appL0, Vm.set_appL, Vm.set_appL0, Nat.le_refl, Nat.le_add_right, okAt]
            repeat' (
              first | refine wpC_cases ?_ ?_ | refine wpU_casesT ?_ ?_ | refine wpU_casesF ?_ ?_
              all_goals intro hvc
              all_goals first | replace hvc := not_of_true hvc | replace hvc := not_of_false hvc | skip
              all_goals first | subst hvc | replace hvb := And.intro hvc hvb
              all_goals try simp only [hvb, e8, e2, e3, c', go_sem, V.s.injEq, Value.bool.injEq, ↓reduceIte, Nat.reduceEqDiff, Nat.reduceBEq, Nat.reduceAdd, Nat.reduceSub, Nat.reduceLT, Nat.reduceLeDiff, Int.reduceLT, Int.reduceLE, Int.reduceEq, Int.reduceToNat, List.append_assoc, List.length_append, Vm.get_app, Vm.set_app, Vm.get_appL, Vm.get_appL0, Vm.set_appL, Vm.set_appL0, Nat.le_refl, Nat.le_add_right, okAt])
            all_goals exact ⟨hg0, hg1, fw⟩
        · clear hg0 hg1 fw
          rintro e H ⟨e2, e3, hg0, hg1, fw⟩
          have hYok := stirN_ok hXok 8
          generalize stirN X 8 = Y at hg1 hout hYok
          have hvb : (0 : Nat) = 0 := rfl
          try simp only [e2, e3, go_sem, V.s.injEq, Value.bool.injEq, ↓reduceIte, Nat.reduceEqDiff, Nat.reduceBEq, Nat.reduceAdd, Nat.reduceSub, Nat.reduceLT, Nat.reduceLeDiff, Int.reduceLT, Int.reduceLE, Int.reduceEq, Int.reduceToNat, List.append_assoc, List.length_append, Vm.get_app, Vm.set_app, Vm.get_appL, Vm.get_appL0, Vm.set_appL, Vm.set_appL0, Nat.le_refl, Nat.le_add_right, okAt]
          repeat' (
            first | refine wpC_cases ?_ ?_ | refine wpU_casesT ?_ ?_ | refine wpU_casesF ?_ ?_
            all_goals intro hvc
            all_goals first | replace hvc := not_of_true hvc | replace hvc := not_of_false hvc | skip
            all_goals first | subst hvc | replace hvb := And.intro hvc hvb
            all_goals try simp only [hvb, e2, e3, go_sem, V.s.injEq, Value.bool.injEq, ↓reduceIte, Nat.reduceEqDiff, Nat.reduceBEq, Nat.reduceAdd, Nat.reduceSub, Nat.reduceLT, Nat.reduceLeDiff, Int.reduceLT, Int.reduceLE, Int.reduceEq, Int.reduceToNat, List.append_assoc, List.length_append, Vm.get_app, Vm.set_app, Vm.get_appL, Vm.get_appL0, Vm.set_appL, Vm.set_appL0, Nat.le_refl, Nat.le_add_right, okAt])
          have hlo : h.length + 1 < H.length := lt_of_get hg1
          have hT : (H ++ [Blk.cells (some 28) [.arr 28 zerR]])[H.length]? = _ := get_app0 H [Blk.cells (some 28) [.arr 28 zerR]]
          obtain ⟨o, ho⟩ : ∃ o, H.length = o := ⟨_, rfl⟩
          refine wp_for (fun m e H' => ∃ i, m = 16 - i ∧ i ≤ 16 ∧ e 10 = .s (.int .i64 (i : Nat)) ∧ e 2 = .ptr h.length [0] 1 ∧ e 3 = .ref (h.length + 1) [] none 0 4 4 ∧ e 9 = .ptr o [0] 1 ∧ H'[h.length]? = some (.cells (some 28) [.arr 28 zerR]) ∧ H'[h.length + 1]? = some (.cells none (offW Y i).vs) ∧ H'[o]? = some (.cells (some 28) [.arr 28 ((outN Y i ++ List.replicate (16 - i) 0).map byteV)]) ∧ Fw [] h H')
            (fun e H' => e 2 = .ptr h.length [0] 1 ∧ e 9 = .ptr o [0] 1 ∧ H'[h.length]? = some (.cells (some 28) [.arr 28 zerR]) ∧ H'[o]? = some (.cells (some 28) [.arr 28 ((outN Y 16).map byteV)]) ∧ Fw [] h H')
            16 _ _ ⟨0, rfl, by omega, rfl, e2, e3, by rw [← ho]; rfl, get_old hg0 _, by rw [show offW Y 0 = Y by simp [offW]]; exact get_old hg1 _, by rw [← ho]; exact hT, fw.trans (Fw.app _ _ _)⟩ ?_ ?_
          · clear hT hg0 hg1 fw
            rintro m e H' ⟨i, rfl, hi, e10, e2, e3, e9, hg0, hg1, hg2, fw⟩
            by_cases c : i < 16
            · have c' : (i : Int) < 16 := by omega
              have c16 : (i : Int) < ((16 : Nat) : Int) := by omega
              have i0 : (0 : Int) ≤ (i : Int) := by omega
              have hq : ∀ cf base h, opV cf base h (.bin .num .quo) [.s (.int .i64 i), .s (.int .i64 4)] = some (.s (.int .i64 ((i / 4 : Nat) : Int)), h) := fun cf base h => by
                rw [o_quo cf base h .i64 _ 4 (by omega), Int.tdiv_eq_ediv_of_nonneg (by omega), wrap_i64 (by omega) (by omega)]; rfl
              have hYv : (offW Y i).vs[i / 4]? = some (.s (.int .u32 (((offW Y i).at (i / 4) : Nat) : Int))) := by
                have : i / 4 = 0 ∨ i / 4 = 1 ∨ i / 4 = 2 ∨ i / 4 = 3 := by omega
                rcases this with h | h | h | h <;> rw [h] <;> rfl
              have hq2 : ∀ cf base h, opV cf base h (.bin .num .quo) [.s (.int .u32 (((offW Y i).at (i / 4) : Nat) : Int)), .s (.int .u32 256)] = some (.s (.int .u32 (((offW Y i).at (i / 4) / 256 : Nat) : Int)), h) := fun cf base h => by
                have hlt : (offW Y i).at (i / 4) < 4294967296 := by
                  rw [offW_at Y i c]
                  refine Nat.lt_of_le_of_lt (Nat.div_le_self _ _) ?_
                  have : i / 4 = 0 ∨ i / 4 = 1 ∨ i / 4 = 2 ∨ i / 4 = 3 := by omega
                  rcases this with h | h | h | h <;> rw [h]
                  · exact hYok.1
                  · exact hYok.2.1
                  · exact hYok.2.2.1
                  · exact hYok.2.2.2
                generalize (offW Y i).at (i / 4) = n at hlt
                rw [o_quo cf base h .u32 _ 256 (by omega), Int.tdiv_eq_ediv_of_nonneg (by omega), wrap_u32 (by omega) (by omega)]; rfl
              have hYl : (offW Y i).vs.length = 4 := rfl
              have c4 : ((i / 4 : Nat) : Int) < 4 := by omega
              have c4' : ((i / 4 : Nat) : Int) < ((4 : Nat) : Int) := by omega
              have j0 : (0 : Int) ≤ ((i / 4 : Nat) : Int) := by omega
              have c4n : i / 4 < 4 := by omega
              have hlv : ((outN Y i ++ List.replicate (16 - i) 0).map byteV).length = 16 := by rw [List.length_map, List.length_append, outN_len, List.length_replicate]; omega
              obtain ⟨z, hz, hzt⟩ : ∃ z, ((outN Y i ++ List.replicate (16 - i) 0).map byteV)[i]? = some z ∧ z.ty = none := by
                refine ⟨byteV ((outN Y i ++ List.replicate (16 - i) 0)[i]'(by rw [List.length_map] at hlv; omega)), ?_, rfl⟩
                rw [List.getElem?_map, List.getElem?_eq_getElem (by rw [List.length_map] at hlv; omega)]; rfl
              have hst : ((outN Y i ++ List.replicate (16 - i) 0).map byteV).set i (V.s (.int .u8 (IntKind.u8.wrap (((offW Y i).at (i / 4) : Nat) : Int)))) = (outN Y (i + 1) ++ List.replicate (16 - (i + 1)) 0).map byteV := by
                rw [u8_modR, offW_at Y i c, ← List.map_set, List.set_append_right _ _ (by rw [outN_len]; exact Nat.le_refl _), outN_len, Nat.sub_self, show 16 - i = (16 - (i + 1)) + 1 by omega, List.replicate_succ, List.set_cons_zero, outN, List.append_assoc]
                rfl
              have hst2 := offW_step Y i c
              generalize (outN Y i ++ List.replicate (16 - i) 0).map byteV = vs at hg2 hlv hz hst
              generalize hvs1 : (offW Y (i + 1)).vs = vs1 at hst2
              generalize (offW Y i).vs = vs0 at hg1 hYv hYl hst2
              generalize hout1 : (outN Y (i + 1) ++ List.replicate (16 - (i + 1)) 0).map byteV = vo at hst
              have hne1 : h.length + 1 ≠ o := by omega
              have hne2 : o ≠ h.length + 1 := by omega
              have hne0 : h.length ≠ o := by omega
              have p1 : ∀ c, (H'.set o c)[h.length + 1]? = some (.cells none vs0) := fun c => by rw [List.getElem?_set_ne (by omega)]; exact hg1
              have n0 : ∀ c d, ((H'.set o c).set (h.length + 1) d)[h.length]? = some (.cells (some 28) [.arr 28 zerR]) := fun c d => by rw [List.getElem?_set_ne (by omega), List.getElem?_set_ne (by omega)]; exact hg0
              have n1 : ∀ c d, ((H'.set o c).set (h.length + 1) d)[h.length + 1]? = some d := fun c d => set_get (p1 c)
              have n2 : ∀ c d, ((H'.set o c).set (h.length + 1) d)[o]? = some c := fun c d => by rw [List.getElem?_set_ne (by omega)]; exact set_get hg2
              have nf : ∀ c d, Fw [] h ((H'.set o c).set (h.length + 1) d) := fun c d => (fw.set_new (by omega) _).set_new (by omega) _
              have hwr : IntKind.i64.wrap ((i : Int) + 1) = ((i + 1 : Nat) : Int) := wrap_small (by omega)
              have hvb : (0 : Nat) = 0 := rfl
              try simp only [e10, e2, e3, e9, c', c16, i0, hq, hq2, hYv, hYl, c4, c4', j0, c4n, hlv, hz, hzt, hst, hst2, hg0, hg1, hg2, p1, ground_orR, hwr, Int.toNat_natCast, go_sem, V.s.injEq, Value.bool.injEq, ↓reduceIte, Nat.reduceEqDiff, Nat.reduceBEq, Nat.reduceAdd, Nat.reduceSub, Nat.reduceLT, Nat.reduceLeDiff, Int.reduceLT, Int.reduceLE, Int.reduceEq, Int.reduceToNat, List.append_assoc, List.length_append, Vm.get_app, Vm.set_app, Vm.get_appL, Vm.get_appL0, Vm.set_appL, Vm.set_appL0, Nat.le_refl, Nat.le_add_right, okAt]
              repeat' (
                first | refine wpC_cases ?_ ?_ | refine wpU_casesT ?_ ?_ | refine wpU_casesF ?_ ?_
                all_goals intro hvc
                all_goals first | replace hvc := not_of_true hvc | replace hvc := not_of_false hvc | skip
                all_goals first | subst hvc | replace hvb := And.intro hvc hvb
                all_goals try simp only [hvb, e10, e2, e3, e9, c', c16, i0, hq, hq2, hYv, hYl, c4, c4', j0, c4n, hlv, hz, hzt, hst, hst2, hg0, hg1, hg2, p1, ground_orR, hwr, Int.toNat_natCast, go_sem, V.s.injEq, Value.bool.injEq, ↓reduceIte, Nat.reduceEqDiff, Nat.reduceBEq, Nat.reduceAdd, Nat.reduceSub, Nat.reduceLT, Nat.reduceLeDiff, Int.reduceLT, Int.reduceLE, Int.reduceEq, Int.reduceToNat, List.append_assoc, List.length_append, Vm.get_app, Vm.set_app, Vm.get_appL, Vm.get_appL0, Vm.set_appL, Vm.set_appL0, Nat.le_refl, Nat.le_add_right, okAt])
              all_goals exact ⟨16 - (i + 1), by omega, i + 1, rfl, by omega, rfl, n0 _ _, by rw [hvs1]; exact n1 _ _, by rw [hout1]; exact n2 _ _, nf _ _⟩
            · have c' : ¬ (i : Int) < 16 := by omega
              have : i = 16 := by omega
              subst this
              rw [Nat.sub_self, List.replicate_zero, List.append_nil] at hg2
              have hvb : (0 : Nat) = 0 := rfl
              try simp only [e10, e2, e3, e9, c', go_sem, V.s.injEq, Value.bool.injEq, ↓reduceIte, Nat.reduceEqDiff, Nat.reduceBEq, Nat.reduceAdd, Nat.reduceSub, Nat.reduceLT, Nat.reduceLeDiff, Int.reduceLT, Int.reduceLE, Int.reduceEq, Int.reduceToNat, List.append_assoc, List.length_append, Vm.get_app, Vm.set_app, Vm.get_appL, Vm.get_appL0, Vm.set_appL, Vm.set_appL0, Nat.le_refl, Nat.le_add_right, okAt]
              repeat' (
                first | refine wpC_cases ?_ ?_ | refine wpU_casesT ?_ ?_ | refine wpU_casesF ?_ ?_
                all_goals intro hvc
                all_goals first | replace hvc := not_of_true hvc | replace hvc := not_of_false hvc | skip
                all_goals first | subst hvc | replace hvb := And.intro hvc hvb
                all_goals try simp only [hvb, e10, e2, e3, e9, c', go_sem, V.s.injEq, Value.bool.injEq, ↓reduceIte, Nat.reduceEqDiff, Nat.reduceBEq, Nat.reduceAdd, Nat.reduceSub, Nat.reduceLT, Nat.reduceLeDiff, Int.reduceLT, Int.reduceLE, Int.reduceEq, Int.reduceToNat, List.append_assoc, List.length_append, Vm.get_app, Vm.set_app, Vm.get_appL, Vm.get_appL0, Vm.set_appL, Vm.set_appL0, Nat.le_refl, Nat.le_add_right, okAt])
              all_goals exact ⟨hg0, hg2, fw⟩
          · clear hT hg0 hg1 fw
            rintro e H' ⟨e2, e9, hg0, hg2, fw⟩
            have htk : ∀ c, (H'.set h.length c).take h.length = h := fun c => (fw.set_new (Nat.le_refl _) c).take
            have hss : ∀ c, (H'.set h.length c)[h.length]? = some c := fun c => set_get hg0
            rw [← hout] at hg2
            have hfz : ∀ n h, frzV.all n h ((sumB l).map byteV) = some ((sumB l).map byteV) := fun n h => frzA_bytesR n h (sumB l)
            generalize (sumB l).map byteV = ws at hg2 hfz
            have hvb : (0 : Nat) = 0 := rfl
            try simp only [e2, e9, hg0, hg2, htk, hss, ground_orR, hfz, go_sem, V.s.injEq, Value.bool.injEq, ↓reduceIte, Nat.reduceEqDiff, Nat.reduceBEq, Nat.reduceAdd, Nat.reduceSub, Nat.reduceLT, Nat.reduceLeDiff, Int.reduceLT, Int.reduceLE, Int.reduceEq, Int.reduceToNat, List.append_assoc, List.length_append, Vm.get_app, Vm.set_app, Vm.get_appL, Vm.get_appL0, Vm.set_appL, Vm.set_appL0, Nat.le_refl, Nat.le_add_right, okAt]
            repeat' (
              first | refine wpC_cases ?_ ?_ | refine wpU_casesT ?_ ?_ | refine wpU_casesF ?_ ?_
              all_goals intro hvc
              all_goals first | replace hvc := not_of_true hvc | replace hvc := not_of_false hvc | skip
              all_goals first | subst hvc | replace hvb := And.intro hvc hvb
              all_goals try simp only [hvb, e2, e9, hg0, hg2, htk, hss, ground_orR, hfz, go_sem, V.s.injEq, Value.bool.injEq, ↓reduceIte, Nat.reduceEqDiff, Nat.reduceBEq, Nat.reduceAdd, Nat.reduceSub, Nat.reduceLT, Nat.reduceLeDiff, Int.reduceLT, Int.reduceLE, Int.reduceEq, Int.reduceToNat, List.append_assoc, List.length_append, Vm.get_app, Vm.set_app, Vm.get_appL, Vm.get_appL0, Vm.set_appL, Vm.set_appL0, Nat.le_refl, Nat.le_add_right, okAt])
end Go.Proofs.Ytkkncdokkdamcaa
