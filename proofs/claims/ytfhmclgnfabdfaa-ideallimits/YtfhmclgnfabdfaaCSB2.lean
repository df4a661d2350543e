/- What is left of bytes: blend.Sum. Conditions: none. -/
import Derived.Test.YtfhmclgnfabdfaaCSB
namespace Go.Vm
set_option linter.unusedSimpArgs false
theorem XR.push {h H : Hp} {k m : Nat} {x : V} {vs : List V} {bytes : Nat} {z : V} (xr : XR H none k x vs) (hk : m ≤ k) (hm : m ≤ H.length) (hh : h.length ≤ m) (fw : Fw [] h H) (hz : z.ground = true) (hb : (vs.length + 1) * bytes ≤ 140737488355328) :
    ∃ x' H' k', (∀ cf base, opV cf base (H ++ [.cells none [z]]) (.app none bytes) [x, .ref H.length [] none 0 1 1] = some (x', H')) ∧ XR H' none k' x' (vs ++ [z]) ∧ Fw [] h H' ∧ m ≤ k' ∧ m ≤ H'.length ∧ ∀ j b, j < m → H[j]? = some b → H'[j]? = some b := by
  obtain ⟨x', H', k', h1, h2, h3, h4, h5⟩ := xr.app1 (h := h) (T := [.cells none [z]]) (idy := H.length) (z := z) (bytes := bytes) (by omega) fw (by rw [List.getElem?_append_right (Nat.le_refl _)]; simp) hz hb
  have h6 : m ≤ k' := by rcases h4 with rfl | h4 <;> omega
  refine ⟨x', H', k', h1, h2, h3, h6, ?_, fun j b hj hb => h5 j b (by omega) (get_old hb _)⟩
  rcases h2 with ⟨_, h0⟩ | ⟨_, h0⟩
  · simp at h0
  · have := lt_of_get h0; omega
end Go.Vm
namespace Go.Proofs.Ytfhmclgnfabdfaa
open Go Go.Vm Go.Proofs Go.Cl
set_option linter.unusedSimpArgs false
set_option linter.unusedVariables false
set_option maxRecDepth 100000
theorem u8nat (n : Nat) (h : n < 256) : (UInt8.ofNat n).toNat = n := by
  rw [UInt8.toNat_ofNat']; omega
theorem wrap_small2 {n : Nat} (h : n < 4611686018427387904) : IntKind.i64.wrap ((n : Int) + 1) = ((n + 1 : Nat) : Int) := by
  rw [wrap_i64 (by omega) (by omega)]; omega
def zer16 : List V := zero16.map byteV
def wv0 : List V := [.s (.int .u32 1668047222), .s (.int .u32 1768383858), .s (.int .u32 1801807216), .s (.int .u32 1935763045)]
def base1 (l : Bs) (z : Nat) : Bs := l ++ [128] ++ List.replicate z 0
theorem base1_succ (l : Bs) (z : Nat) : base1 l (z + 1) = base1 l z ++ [0] := by simp [base1, List.replicate_succ']
theorem base1_len (l : Bs) (z : Nat) : (base1 l z).length = l.length + 1 + z := by simp [base1]; omega
theorem shr64 {a k : Nat} (hk : k ≤ 64) : shrI .u64 (a : Int) (k : Int) = ((a / 2 ^ k : Nat) : Int) := by
  have h : shrI .u64 (a : Int) (k : Int) = (a : Int).fdiv (2 ^ (min ((k : Int).toNat) 64)) := rfl
  rw [h, Int.toNat_natCast, Nat.min_eq_left hk, Int.fdiv_eq_ediv_of_nonneg _ (by exact Int.le_of_lt (Int.pow_pos (by decide)))]
  simp
theorem u8_mod (n : Nat) : V.s (.int .u8 (IntKind.u8.wrap (n : Int))) = byteV (UInt8.ofNat (n % 256)) := by
  have : IntKind.u8.wrap (n : Int) = (n : Int) % 256 := by
    simp only [IntKind.wrap, IntKind.bits, IntKind.signed]; rfl
  rw [this, byteV, u8nat (n % 256) (by omega)]
  congr 2
theorem frzA_bytes (n : Nat) (h : Hp) : ∀ l : Bs, frzV.all n h (l.map byteV) = some (l.map byteV)
  | [] => frzA_nil n h
  | b :: l => by rw [List.map_cons, frzA_cons, frzA_bytes n h l]; rfl
theorem get2 (h : Hp) (a b : Blk) : (h ++ [a, b])[h.length]? = some a ∧ (h ++ [a, b])[h.length + 1]? = some b := by
  constructor
  · rw [List.getElem?_append_right (Nat.le_refl _)]; simp
  · rw [List.getElem?_append_right (by omega)]; simp
theorem clone2 (b : Nat) (h : Hp) (x : V) (l : Bs) (hb : Rd h x l) (hl : l.length ≤ 1000000) : ∃ v T, (∀ b, run fns2 pr2 b 40 [x] h = some (v, h ++ T)) ∧ XR (h ++ T) none h.length v (l.map byteV) ∧ v.ty = none ∧ v.solid = true := by
  obtain ⟨v, t, hc, hx, hcase⟩ := Vm.clone_okE (hb.1 h (Fw.refl _ _)) (by omega)
  refine ⟨v, t, fun b => ?_, ?_, ?_⟩
  · rw [run_pr fns2 pr2 rfl]; exact hc
  · rcases hcase with ⟨rfl, rfl, rfl⟩ | ⟨rfl, rfl⟩
    · exact .inl ⟨rfl, rfl⟩
    · exact .inr ⟨by rw [List.length_map], get_app0 _ _⟩
  · rcases hcase with ⟨rfl, _⟩ | ⟨rfl, _⟩ <;> exact ⟨rfl, rfl⟩
def G0 (h : Hp) : Hp := h ++ [Blk.cells (some 26) [.arr 26 zer16], Blk.cells (some 96) [.arr 96 wv0]]
theorem Sum_ok (b : Nat) (h : Hp) (x : V) (l : Bs) (hb : Rd h x l) (hl : l.length ≤ 1000000) : run fns2 pr2 b 47 [x] h = some (.arr 26 ((sumB l).map byteV), h) := by
  refine Vm.runP (nt := 76) rfl fit47 (by simp) ?_
  obtain ⟨g0, g1⟩ : (G0 h)[h.length]? = _ ∧ (G0 h)[h.length + 1]? = _ := get2 h (.cells (some 26) [.arr 26 zer16]) (.cells (some 96) [.arr 96 wv0])
  have hlG : (G0 h).length = h.length + 2 := by simp [G0]
  obtain ⟨v, T, hcl, xr, hty, hso⟩ := clone2 h.length (G0 h) x l (hb.fw (Fw.app [] h _)) hl
  have fw : Fw [] h (G0 h ++ T) := (Fw.app [] h _).trans (Fw.app [] _ _)
  have g0 := get_old g0 T
  have g1 := get_old g1 T
  have hlen : h.length + 2 ≤ (G0 h ++ T).length := by rw [List.length_append, hlG]; omega
  rw [hlG] at xr
  generalize hHH : G0 h ++ T = H at *
  simp only [G0, zer16, wv0] at hcl
  obtain ⟨x1, H1, k1, hap, xr1, fw1, hk1, hl1, hold1⟩ := xr.push (m := h.length + 2) (z := .s (.int .u8 128)) (bytes := 1) (by omega) hlen (by omega) fw rfl (by simp; omega)
  have hvb : (0 : Nat) = 0 := rfl
  try simp only [B47, B47R0, B47R2, B47R4, B47R8, B47R10, B47L10, B47L8, B47L4, B47L6, B47L2, B47L0, hcl, hty, hso, hap, go_sem, V.s.injEq, Value.bool.injEq, ↓reduceIte, Nat.reduceEqDiff, Nat.reduceBEq, Nat.reduceAdd, Nat.reduceSub, Nat.reduceLT, Nat.reduceLeDiff, Int.reduceLT, Int.reduceLE, Int.reduceEq, Int.reduceToNat, List.append_assoc, List.length_append, Vm.get_app, Vm.set_app, Vm.get_appL, Vm.get_appL0, Vm.set_appL, Vm.set_appL0, Nat.le_refl, Nat.le_add_right, okAt]
  repeat' (
    first | refine wpC_cases ?_ ?_ | refine wpU_casesT ?_ ?_ | refine wpU_casesF ?_ ?_
    all_goals intro hvc
    all_goals first | replace hvc := not_of_true hvc | replace hvc := not_of_false hvc | skip
    all_goals first | subst hvc | replace hvb := And.intro hvc hvb
    all_goals try simp only [hvb, B47, B47R0, B47R2, B47R4, B47R8, B47R10, B47L10, B47L8, B47L4, B47L6, B47L2, B47L0, hcl, hty, hso, hap, go_sem, V.s.injEq, Value.bool.injEq, ↓reduceIte, Nat.reduceEqDiff, Nat.reduceBEq, Nat.reduceAdd, Nat.reduceSub, Nat.reduceLT, Nat.reduceLeDiff, Int.reduceLT, Int.reduceLE, Int.reduceEq, Int.reduceToNat, List.append_assoc, List.length_append, Vm.get_app, Vm.set_app, Vm.get_appL, Vm.get_appL0, Vm.set_appL, Vm.set_appL0, Nat.le_refl, Nat.le_add_right, okAt])
  have hg0 := hold1 _ _ (by omega) g0
  have hg1 := hold1 _ _ (by omega) g1
  have hxl : ∀ cf base (h0 : Hp), Fw [] h h0 → opV cf base h0 .len [x] = some (.s (.int .i64 l.length), h0) := fun cf base h0 f => Vm.o_len cf base h0 x _ hb.2
  refine wp_for (fun m e H => ∃ z k y, m = pads l.length - z ∧ z ≤ pads l.length ∧ e 0 = x ∧ e 2 = .ptr h.length [0] 1 ∧ e 3 = .ptr (h.length + 1) [0] 1 ∧ e 4 = y ∧ H[h.length]? = some (.cells (some 26) [.arr 26 zer16]) ∧ H[h.length + 1]? = some (.cells (some 96) [.arr 96 wv0]) ∧ XR H none k y ((base1 l z).map byteV) ∧ Fw [] h H ∧ h.length + 2 ≤ k ∧ h.length + 2 ≤ H.length)
    (fun e H => ∃ k y, e 0 = x ∧ e 2 = .ptr h.length [0] 1 ∧ e 3 = .ptr (h.length + 1) [0] 1 ∧ e 4 = y ∧ H[h.length]? = some (.cells (some 26) [.arr 26 zer16]) ∧ H[h.length + 1]? = some (.cells (some 96) [.arr 96 wv0]) ∧ XR H none k y ((base1 l (pads l.length)).map byteV) ∧ Fw [] h H ∧ h.length + 2 ≤ k ∧ h.length + 2 ≤ H.length)
    (pads l.length) _ _ ⟨0, k1, x1, rfl, by omega, rfl, rfl, rfl, rfl, hg0, hg1, by rw [show (base1 l 0).map byteV = l.map byteV ++ [V.s (.int .u8 128)] by simp [base1]; rfl]; exact xr1, fw1, hk1, hl1⟩ ?_ ?_
  · clear hcl hHH hap xr1 fw1 hk1 hl1 hold1 hg0 hg1 xr fw g0 g1 hlen
    rintro m e H ⟨z, k, y, rfl, hz, e0, e2, e3, e4, hg0, hg1, xr, fw, hk, hlH⟩
    have hln := fun cf base => xr.BR.o_len (cf := cf) (base := base) (h := H)
    rw [base1_len] at hln
    have hpd : pads l.length = (8 - (l.length + 1) % 8) % 8 := rfl
    have hrm : ∀ cf base h, opV cf base h (.bin .num .rem) [.s (.int .i64 ((l.length + 1 + z : Nat) : Int)), .s (.int .i64 8)] = some (.s (.int .i64 (((l.length + 1 + z) % 8 : Nat) : Int)), h) := fun cf base h => by
      rw [o_rem cf base h .i64 _ 8 (by omega), Int.tmod_eq_emod_of_nonneg (by omega)]; rfl
    by_cases c : z < pads l.length
    · have c' : ¬ (((l.length + 1 + z) % 8 : Nat) : Int) = 0 := by omega
      obtain ⟨x', H', k', hap, xr', fw', hk', hl', hold⟩ := xr.push (m := h.length + 2) (z := .s (.int .u8 0)) (bytes := 1) (by omega) hlH (by omega) fw rfl (by rw [List.length_map, base1_len]; omega)
      have xr' : XR H' none k' x' ((base1 l (z + 1)).map byteV) := by rw [base1_succ, List.map_append]; exact xr'
      have hvb : (0 : Nat) = 0 := rfl
      try simp only [e0, e2, e3, e4, hln, hrm, c', hap, go_sem, V.s.injEq, Value.bool.injEq, ↓reduceIte, Nat.reduceEqDiff, Nat.reduceBEq, Nat.reduceAdd, Nat.reduceSub, Nat.reduceLT, Nat.reduceLeDiff, Int.reduceLT, Int.reduceLE, Int.reduceEq, Int.reduceToNat, List.append_assoc, List.length_append, Vm.get_app, Vm.set_app, Vm.get_appL, Vm.get_appL0, Vm.set_appL, Vm.set_appL0, Nat.le_refl, Nat.le_add_right, okAt]
      repeat' (
        first | refine wpC_cases ?_ ?_ | refine wpU_casesT ?_ ?_ | refine wpU_casesF ?_ ?_
        all_goals intro hvc
        all_goals first | replace hvc := not_of_true hvc | replace hvc := not_of_false hvc | skip
        all_goals first | subst hvc | replace hvb := And.intro hvc hvb
        all_goals try simp only [hvb, e0, e2, e3, e4, hln, hrm, c', hap, go_sem, V.s.injEq, Value.bool.injEq, ↓reduceIte, Nat.reduceEqDiff, Nat.reduceBEq, Nat.reduceAdd, Nat.reduceSub, Nat.reduceLT, Nat.reduceLeDiff, Int.reduceLT, Int.reduceLE, Int.reduceEq, Int.reduceToNat, List.append_assoc, List.length_append, Vm.get_app, Vm.set_app, Vm.get_appL, Vm.get_appL0, Vm.set_appL, Vm.set_appL0, Nat.le_refl, Nat.le_add_right, okAt])
      all_goals exact ⟨pads l.length - (z + 1), by omega, z + 1, k', x', rfl, by omega, rfl, hold _ _ (by omega) hg0, hold _ _ (by omega) hg1, xr', fw', hk', hl'⟩
    · have c' : (((l.length + 1 + z) % 8 : Nat) : Int) = 0 := by omega
      have : z = pads l.length := by omega
      have hvb : (0 : Nat) = 0 := rfl
      try simp only [e0, e2, e3, e4, hln, hrm, c', go_sem, V.s.injEq, Value.bool.injEq, ↓reduceIte, Nat.reduceEqDiff, Nat.reduceBEq, Nat.reduceAdd, Nat.reduceSub, Nat.reduceLT, Nat.reduceLeDiff, Int.reduceLT, Int.reduceLE, Int.reduceEq, Int.reduceToNat, List.append_assoc, List.length_append, Vm.get_app, Vm.set_app, Vm.get_appL, Vm.get_appL0, Vm.set_appL, Vm.set_appL0, Nat.le_refl, Nat.le_add_right, okAt]
      repeat' (
        first | refine wpC_cases ?_ ?_ | refine wpU_casesT ?_ ?_ | refine wpU_casesF ?_ ?_
        all_goals intro hvc
        all_goals first | replace hvc := not_of_true hvc | replace hvc := not_of_false hvc | skip
        all_goals first | subst hvc | replace hvb := And.intro hvc hvb
        all_goals try simp only [hvb, e0, e2, e3, e4, hln, hrm, c', go_sem, V.s.injEq, Value.bool.injEq, ↓reduceIte, Nat.reduceEqDiff, Nat.reduceBEq, Nat.reduceAdd, Nat.reduceSub, Nat.reduceLT, Nat.reduceLeDiff, Int.reduceLT, Int.reduceLE, Int.reduceEq, Int.reduceToNat, List.append_assoc, List.length_append, Vm.get_app, Vm.set_app, Vm.get_appL, Vm.get_appL0, Vm.set_appL, Vm.set_appL0, Nat.le_refl, Nat.le_add_right, okAt])
      all_goals (subst this; exact ⟨k, y, rfl, hg0, hg1, xr, fw, hk, hlH⟩)
  · clear hcl hHH hap xr1 fw1 hk1 hl1 hold1 hg0 hg1 xr fw g0 g1 hlen
    rintro e H ⟨k, y, e0, e2, e3, e4, hg0, hg1, xr, fw, hk, hlH⟩
    have hvb : (0 : Nat) = 0 := rfl
    try simp only [e0, e2, e3, e4, go_sem, V.s.injEq, Value.bool.injEq, ↓reduceIte, Nat.reduceEqDiff, Nat.reduceBEq, Nat.reduceAdd, Nat.reduceSub, Nat.reduceLT, Nat.reduceLeDiff, Int.reduceLT, Int.reduceLE, Int.reduceEq, Int.reduceToNat, List.append_assoc, List.length_append, Vm.get_app, Vm.set_app, Vm.get_appL, Vm.get_appL0, Vm.set_appL, Vm.set_appL0, Nat.le_refl, Nat.le_add_right, okAt]
    repeat' (
      first | refine wpC_cases ?_ ?_ | refine wpU_casesT ?_ ?_ | refine wpU_casesF ?_ ?_
      all_goals intro hvc
      all_goals first | replace hvc := not_of_true hvc | replace hvc := not_of_false hvc | skip
      all_goals first | subst hvc | replace hvb := And.intro hvc hvb
      all_goals try simp only [hvb, e0, e2, e3, e4, go_sem, V.s.injEq, Value.bool.injEq, ↓reduceIte, Nat.reduceEqDiff, Nat.reduceBEq, Nat.reduceAdd, Nat.reduceSub, Nat.reduceLT, Nat.reduceLeDiff, Int.reduceLT, Int.reduceLE, Int.reduceEq, Int.reduceToNat, List.append_assoc, List.length_append, Vm.get_app, Vm.set_app, Vm.get_appL, Vm.get_appL0, Vm.set_appL, Vm.set_appL0, Nat.le_refl, Nat.le_add_right, okAt])
    refine wp_for (fun m e H => ∃ i k y, m = 8 - i ∧ i ≤ 8 ∧ e 20 = .s (.int .i64 (i : Nat)) ∧ e 0 = x ∧ e 2 = .ptr h.length [0] 1 ∧ e 3 = .ptr (h.length + 1) [0] 1 ∧ e 4 = y ∧ H[h.length]? = some (.cells (some 26) [.arr 26 zer16]) ∧ H[h.length + 1]? = some (.cells (some 96) [.arr 96 wv0]) ∧ XR H none k y ((base1 l (pads l.length) ++ len8 l.length i).map byteV) ∧ Fw [] h H ∧ h.length + 2 ≤ k ∧ h.length + 2 ≤ H.length)
      (fun e H => ∃ y, e 0 = x ∧ e 2 = .ptr h.length [0] 1 ∧ e 3 = .ptr (h.length + 1) [0] 1 ∧ e 4 = y ∧ H[h.length]? = some (.cells (some 26) [.arr 26 zer16]) ∧ H[h.length + 1]? = some (.cells (some 96) [.arr 96 wv0]) ∧ BR H y (padded l) ∧ Fw [] h H)
      8 _ _ ⟨0, k, y, rfl, by omega, rfl, e0, e2, e3, e4, hg0, hg1, by simpa [len8] using xr, fw, hk, hlH⟩ ?_ ?_
    · clear xr fw hk hlH hg0 hg1 e4 y k
      rintro m e H ⟨i, k, y, rfl, hi, e20, e0, e2, e3, e4, hg0, hg1, xr, fw, hk, hlH⟩
      by_cases c : i < 8
      · have c' : (i : Int) < 8 := by omega
        have hln := fun cf base => hxl cf base H fw
        have hwr : IntKind.i64.wrap ((i : Int) + 1) = ((i + 1 : Nat) : Int) := wrap_small2 (by omega)
        have w1 : IntKind.u64.wrap (l.length : Int) = (l.length : Int) := wrap_u64 (by omega) (by omega)
        have w2 : IntKind.i64.wrap (8 * (i : Int)) = ((8 * i : Nat) : Int) := by rw [wrap_i64 (by omega) (by omega)]; omega
        have hsh : ∀ cf base h, opV cf base h (.bin .num .shr) [.s (.int .u64 (l.length : Int)), .s (.int .i64 ((8 * i : Nat) : Int))] = some (.s (.int .u64 ((l.length / 2 ^ (8 * i) : Nat) : Int)), h) := fun cf base h => by
          rw [o_shr cf base h .u64 .i64 _ _ (by omega), shr64 (by omega)]
        have hby : V.s (.int .u8 (IntKind.u8.wrap ((l.length / 2 ^ (8 * i) : Nat) : Int))) = byteV (UInt8.ofNat (l.length / 2 ^ (8 * i) % 256)) := u8_mod _
        obtain ⟨x', H', k', hap, xr', fw', hk', hl', hold⟩ := xr.push (m := h.length + 2) (z := .s (.int .u8 (IntKind.u8.wrap ((l.length / 2 ^ (8 * i) : Nat) : Int)))) (bytes := 1) (by omega) hlH (by omega) fw rfl (by rw [List.length_map, List.length_append, base1_len, len8_len]; unfold pads; omega)
        have xr' : XR H' none k' x' ((base1 l (pads l.length) ++ len8 l.length (i + 1)).map byteV) := by rw [len8, ← List.append_assoc, List.map_append, List.map_singleton, ← hby]; exact xr'
        have hvb : (0 : Nat) = 0 := rfl
        try simp only [e20, e0, e2, e3, e4, c', hln, w1, w2, hsh, hap, hwr, go_sem, V.s.injEq, Value.bool.injEq, ↓reduceIte, Nat.reduceEqDiff, Nat.reduceBEq, Nat.reduceAdd, Nat.reduceSub, Nat.reduceLT, Nat.reduceLeDiff, Int.reduceLT, Int.reduceLE, Int.reduceEq, Int.reduceToNat, List.append_assoc, List.length_append, Vm.get_app, Vm.set_app, Vm.get_appL, Vm.get_appL0, Vm.set_appL, Vm.set_appL0, Nat.le_refl, Nat.le_add_right, okAt]
        repeat' (
          first | refine wpC_cases ?_ ?_ | refine wpU_casesT ?_ ?_ | refine wpU_casesF ?_ ?_
          all_goals intro hvc
          all_goals first | replace hvc := not_of_true hvc | replace hvc := not_of_false hvc | skip
          all_goals first | subst hvc | replace hvb := And.intro hvc hvb
          all_goals try simp only [hvb, e20, e0, e2, e3, e4, c', hln, w1, w2, hsh, hap, hwr, go_sem, V.s.injEq, Value.bool.injEq, ↓reduceIte, Nat.reduceEqDiff, Nat.reduceBEq, Nat.reduceAdd, Nat.reduceSub, Nat.reduceLT, Nat.reduceLeDiff, Int.reduceLT, Int.reduceLE, Int.reduceEq, Int.reduceToNat, List.append_assoc, List.length_append, Vm.get_app, Vm.set_app, Vm.get_appL, Vm.get_appL0, Vm.set_appL, Vm.set_appL0, Nat.le_refl, Nat.le_add_right, okAt])
        all_goals exact ⟨8 - (i + 1), by omega, i + 1, k', x', rfl, by omega, rfl, rfl, hold _ _ (by omega) hg0, hold _ _ (by omega) hg1, xr', fw', hk', hl'⟩
      · have c' : ¬ (i : Int) < 8 := by omega
        have : i = 8 := by omega
        have hvb : (0 : Nat) = 0 := rfl
        try simp only [e20, e0, e2, e3, e4, c', go_sem, V.s.injEq, Value.bool.injEq, ↓reduceIte, Nat.reduceEqDiff, Nat.reduceBEq, Nat.reduceAdd, Nat.reduceSub, Nat.reduceLT, Nat.reduceLeDiff, Int.reduceLT, Int.reduceLE, Int.reduceEq, Int.reduceToNat, List.append_assoc, List.length_append, Vm.get_app, Vm.set_app, Vm.get_appL, Vm.get_appL0, Vm.set_appL, Vm.set_appL0, Nat.le_refl, Nat.le_add_right, okAt]
        repeat' (
          first | refine wpC_cases ?_ ?_ | refine wpU_casesT ?_ ?_ | refine wpU_casesF ?_ ?_
          all_goals intro hvc
          all_goals first | replace hvc := not_of_true hvc | replace hvc := not_of_false hvc | skip
          all_goals first | subst hvc | replace hvb := And.intro hvc hvb
          all_goals try simp only [hvb, e20, e0, e2, e3, e4, c', go_sem, V.s.injEq, Value.bool.injEq, ↓reduceIte, Nat.reduceEqDiff, Nat.reduceBEq, Nat.reduceAdd, Nat.reduceSub, Nat.reduceLT, Nat.reduceLeDiff, Int.reduceLT, Int.reduceLE, Int.reduceEq, Int.reduceToNat, List.append_assoc, List.length_append, Vm.get_app, Vm.set_app, Vm.get_appL, Vm.get_appL0, Vm.set_appL, Vm.set_appL0, Nat.le_refl, Nat.le_add_right, okAt])
        all_goals (subst this; exact ⟨y, rfl, hg0, hg1, xr.BR, fw⟩)
    · clear xr fw hk hlH hg0 hg1 e4 y k
      rintro e H ⟨y, e0, e2, e3, e4, hg0, hg1, br, fw⟩
      have hout : sumB l = outN (stirN (absN (padded l) ((padded l).length / 8)) 8) 16 := rfl
      have hmod := padded_mod l
      obtain ⟨N, hN⟩ : ∃ N, (padded l).length / 8 = N := ⟨_, rfl⟩
      have hlP := padded_len l
      have hpd : pads l.length < 8 := by unfold pads; omega
      generalize padded l = P at hmod hN hlP br hout
      rw [hN] at hout
      have hP8 : P.length = 8 * N := by omega
      have l0 : (0 : Int) < ((4 : Nat) : Int) := by decide
      have l3 : (3 : Int) < ((4 : Nat) : Int) := by decide
      have hvb : (0 : Nat) = 0 := rfl
      try simp only [e0, e2, e3, e4, go_sem, V.s.injEq, Value.bool.injEq, ↓reduceIte, Nat.reduceEqDiff, Nat.reduceBEq, Nat.reduceAdd, Nat.reduceSub, Nat.reduceLT, Nat.reduceLeDiff, Int.reduceLT, Int.reduceLE, Int.reduceEq, Int.reduceToNat, List.append_assoc, List.length_append, Vm.get_app, Vm.set_app, Vm.get_appL, Vm.get_appL0, Vm.set_appL, Vm.set_appL0, Nat.le_refl, Nat.le_add_right, okAt]
      repeat' (
        first | refine wpC_cases ?_ ?_ | refine wpU_casesT ?_ ?_ | refine wpU_casesF ?_ ?_
        all_goals intro hvc
        all_goals first | replace hvc := not_of_true hvc | replace hvc := not_of_false hvc | skip
        all_goals first | subst hvc | replace hvb := And.intro hvc hvb
        all_goals try simp only [hvb, e0, e2, e3, e4, go_sem, V.s.injEq, Value.bool.injEq, ↓reduceIte, Nat.reduceEqDiff, Nat.reduceBEq, Nat.reduceAdd, Nat.reduceSub, Nat.reduceLT, Nat.reduceLeDiff, Int.reduceLT, Int.reduceLE, Int.reduceEq, Int.reduceToNat, List.append_assoc, List.length_append, Vm.get_app, Vm.set_app, Vm.get_appL, Vm.get_appL0, Vm.set_appL, Vm.set_appL0, Nat.le_refl, Nat.le_add_right, okAt])
      refine wp_for (fun m e H => ∃ i y, m = N - i ∧ i ≤ N ∧ e 2 = .ptr h.length [0] 1 ∧ e 3 = .ptr (h.length + 1) [0] 1 ∧ e 4 = y ∧ H[h.length]? = some (.cells (some 26) [.arr 26 zer16]) ∧ H[h.length + 1]? = some (.cells (some 96) [.arr 96 (absN P i).vs]) ∧ BR H y (P.drop (8 * i)) ∧ Fw [] h H)
        (fun e H => e 2 = .ptr h.length [0] 1 ∧ e 3 = .ptr (h.length + 1) [0] 1 ∧ H[h.length]? = some (.cells (some 26) [.arr 26 zer16]) ∧ H[h.length + 1]? = some (.cells (some 96) [.arr 96 (absN P N).vs]) ∧ Fw [] h H)
        N _ _ ⟨0, y, rfl, by omega, e2, e3, e4, hg0, hg1, by simpa using br, fw⟩ ?_ ?_
      · clear br hg0 hg1 fw e4 y
        rintro m e H ⟨i, y, rfl, hi, e2, e3, e4, hg0, hg1, br, fw⟩
        have hln := fun cf base => br.o_len (cf := cf) (base := base) (h := H)
        have hdl : (P.drop (8 * i)).length = 8 * (N - i) := by rw [List.length_drop]; omega
        rw [hdl] at hln
        by_cases c : i < N
        · have c' : (0 : Int) < ((8 * (N - i) : Nat) : Int) := by omega
          have habs : absN P (i + 1) = abs1 (absN P i) (P.drop (8 * i)) := rfl
          have hd8 : P.drop (8 * (i + 1)) = (P.drop (8 * i)).drop 8 := by rw [List.drop_drop]; congr 1
          generalize P.drop (8 * i) = d at br hdl habs hd8
          generalize absN P i = X at hg1 habs
          have hw1 := low_ok h.length H y d br (by omega)
          have hss : ∀ c, (H.set (h.length + 1) c)[h.length + 1]? = some c := fun c => set_get hg1
          have hs0 : ∀ c, (H.set (h.length + 1) c)[h.length]? = some (.cells (some 26) [.arr 26 zer16]) := fun c => by rw [List.getElem?_set_ne (by omega)]; exact hg0
          have hfw : ∀ c, Fw [] h (H.set (h.length + 1) c) := fun c => fw.set_new (by omega) c
          have hbr : ∀ c, BR (H.set (h.length + 1) (.cells (some 96) c)) y d := fun c => br.mono (Fw.set (S := [h.length + 1]) (by simp) hg1)
          obtain ⟨y4, hy4, br4⟩ := (hbr [.arr 96 [.s (.int .u32 (xr X.a (le4 d) : Nat)), .s (.int .u32 X.b), .s (.int .u32 X.c), .s (.int .u32 X.d)]]).lo (k := .i64) (r := 4) (by omega)
          have hy4 : ∀ cf base, opV cf base (H.set (h.length + 1) (.cells (some 96) [.arr 96 [.s (.int .u32 (xr X.a (le4 d) : Nat)), .s (.int .u32 X.b), .s (.int .u32 X.c), .s (.int .u32 X.d)]])) (.slc none true false false) [y, .s (.int .i64 4)] = some (y4, _) := hy4
          have hw2 := low_ok h.length _ y4 (d.drop 4) br4 (by rw [List.length_drop]; omega)
          have hg1' := hg1
          simp only [W.vs] at hg1'
          have hvb : (0 : Nat) = 0 := rfl
          try simp only [e2, e3, e4, hln, c', hw1, hg1', hss, l0, l3, xr_i, hy4, hw2, ground_or, go_sem, V.s.injEq, Value.bool.injEq, ↓reduceIte, Nat.reduceEqDiff, Nat.reduceBEq, Nat.reduceAdd, Nat.reduceSub, Nat.reduceLT, Nat.reduceLeDiff, Int.reduceLT, Int.reduceLE, Int.reduceEq, Int.reduceToNat, List.append_assoc, List.length_append, Vm.get_app, Vm.set_app, Vm.get_appL, Vm.get_appL0, Vm.set_appL, Vm.set_appL0, Nat.le_refl, Nat.le_add_right, okAt]
          repeat' (
            first | refine wpC_cases ?_ ?_ | refine wpU_casesT ?_ ?_ | refine wpU_casesF ?_ ?_
            all_goals intro hvc
            all_goals first | replace hvc := not_of_true hvc | replace hvc := not_of_false hvc | skip
            all_goals first | subst hvc | replace hvb := And.intro hvc hvb
            all_goals try simp only [hvb, e2, e3, e4, hln, c', hw1, hg1', hss, l0, l3, xr_i, hy4, hw2, ground_or, go_sem, V.s.injEq, Value.bool.injEq, ↓reduceIte, Nat.reduceEqDiff, Nat.reduceBEq, Nat.reduceAdd, Nat.reduceSub, Nat.reduceLT, Nat.reduceLeDiff, Int.reduceLT, Int.reduceLE, Int.reduceEq, Int.reduceToNat, List.append_assoc, List.length_append, Vm.get_app, Vm.set_app, Vm.get_appL, Vm.get_appL0, Vm.set_appL, Vm.set_appL0, Nat.le_refl, Nat.le_add_right, okAt])
          obtain ⟨W1, hW1⟩ : ∃ W1 : W, (⟨xr X.a (le4 d), X.b, X.c, xr X.d (le4 (d.drop 4))⟩ : W) = W1 := ⟨_, rfl⟩
          have hab2 : absN P (i + 1) = stirN W1 3 := by rw [habs, ← hW1]; rfl
          refine wp_for (fun m e H' => ∃ j, m = 3 - j ∧ j ≤ 3 ∧ e 52 = .s (.int .i64 (j : Nat)) ∧ e 2 = .ptr h.length [0] 1 ∧ e 3 = .ptr (h.length + 1) [0] 1 ∧ e 4 = y ∧ H' = H.set (h.length + 1) (.cells (some 96) [.arr 96 (stirN W1 j).vs]))
            (fun e H' => e 2 = .ptr h.length [0] 1 ∧ e 3 = .ptr (h.length + 1) [0] 1 ∧ e 4 = y ∧ H' = H.set (h.length + 1) (.cells (some 96) [.arr 96 (stirN W1 3).vs]))
            3 _ _ ⟨0, rfl, by omega, rfl, e2, e3, e4, by rw [← hW1]; rfl⟩ ?_ ?_
          · rintro m e H' ⟨j, rfl, hj, e52, e2, e3, e4, hH'⟩
            by_cases c : j < 3
            · have c' : (j : Int) < 3 := by omega
              have hst := stir_ok h.length H' (h.length + 1) (stirN W1 j) (by rw [hH']; exact hss _)
              have hset : H'.set (h.length + 1) (.cells (some 96) [.arr 96 (stirW (stirN W1 j)).vs]) = H.set (h.length + 1) (.cells (some 96) [.arr 96 (stirN W1 (j + 1)).vs]) := by rw [hH', List.set_set]; rfl
              rw [hset] at hst
              have hwr : IntKind.i64.wrap ((j : Int) + 1) = ((j + 1 : Nat) : Int) := wrap_small2 (by omega)
              have hvb : (0 : Nat) = 0 := rfl
              try simp only [e52, e2, e3, e4, c', hst, hwr, go_sem, V.s.injEq, Value.bool.injEq, ↓reduceIte, Nat.reduceEqDiff, Nat.reduceBEq, Nat.reduceAdd, Nat.reduceSub, Nat.reduceLT, Nat.reduceLeDiff, Int.reduceLT, Int.reduceLE, Int.reduceEq, Int.reduceToNat, List.append_assoc, List.length_append, Vm.get_app, Vm.set_app, Vm.get_appL, Vm.get_appL0, Vm.set_appL, Vm.set_appL0, Nat.le_refl, Nat.le_add_right, okAt]
              repeat' (
                first | refine wpC_cases ?_ ?_ | refine wpU_casesT ?_ ?_ | refine wpU_casesF ?_ ?_
                all_goals intro hvc
                all_goals first | replace hvc := not_of_true hvc | replace hvc := not_of_false hvc | skip
                all_goals first | subst hvc | replace hvb := And.intro hvc hvb
                all_goals try simp only [hvb, e52, e2, e3, e4, c', hst, hwr, go_sem, V.s.injEq, Value.bool.injEq, ↓reduceIte, Nat.reduceEqDiff, Nat.reduceBEq, Nat.reduceAdd, Nat.reduceSub, Nat.reduceLT, Nat.reduceLeDiff, Int.reduceLT, Int.reduceLE, Int.reduceEq, Int.reduceToNat, List.append_assoc, List.length_append, Vm.get_app, Vm.set_app, Vm.get_appL, Vm.get_appL0, Vm.set_appL, Vm.set_appL0, Nat.le_refl, Nat.le_add_right, okAt])
              all_goals exact ⟨3 - (j + 1), by omega, j + 1, rfl, by omega, rfl, rfl⟩
            · have c' : ¬ (j : Int) < 3 := by omega
              have : j = 3 := by omega
              subst this
              have hvb : (0 : Nat) = 0 := rfl
              try simp only [e52, e2, e3, e4, c', go_sem, V.s.injEq, Value.bool.injEq, ↓reduceIte, Nat.reduceEqDiff, Nat.reduceBEq, Nat.reduceAdd, Nat.reduceSub, Nat.reduceLT, Nat.reduceLeDiff, Int.reduceLT, Int.reduceLE, Int.reduceEq, Int.reduceToNat, List.append_assoc, List.length_append, Vm.get_app, Vm.set_app, Vm.get_appL, Vm.get_appL0, Vm.set_appL, Vm.set_appL0, Nat.le_refl, Nat.le_add_right, okAt]
              repeat' (
                first | refine wpC_cases ?_ ?_ | refine wpU_casesT ?_ ?_ | refine wpU_casesF ?_ ?_
                all_goals intro hvc
                all_goals first | replace hvc := not_of_true hvc | replace hvc := not_of_false hvc | skip
                all_goals first | subst hvc | replace hvb := And.intro hvc hvb
                all_goals try simp only [hvb, e52, e2, e3, e4, c', go_sem, V.s.injEq, Value.bool.injEq, ↓reduceIte, Nat.reduceEqDiff, Nat.reduceBEq, Nat.reduceAdd, Nat.reduceSub, Nat.reduceLT, Nat.reduceLeDiff, Int.reduceLT, Int.reduceLE, Int.reduceEq, Int.reduceToNat, List.append_assoc, List.length_append, Vm.get_app, Vm.set_app, Vm.get_appL, Vm.get_appL0, Vm.set_appL, Vm.set_appL0, Nat.le_refl, Nat.le_add_right, okAt])
              all_goals exact hH'
          · rintro e H' ⟨e2, e3, e4, hH'⟩
            obtain ⟨y8, hy8, br8⟩ := (hbr [.arr 96 (stirN W1 3).vs]).lo (k := .i64) (r := 8) (by omega)
            have hy8 : ∀ cf base, opV cf base H' (.slc none true false false) [y, .s (.int .i64 8)] = some (y8, H') := by rw [hH']; exact hy8
            rw [← hH'] at br8
            have hvb : (0 : Nat) = 0 := rfl
            try simp only [e2, e3, e4, hy8, go_sem, V.s.injEq, Value.bool.injEq, ↓reduceIte, Nat.reduceEqDiff, Nat.reduceBEq, Nat.reduceAdd, Nat.reduceSub, Nat.reduceLT, Nat.reduceLeDiff, Int.reduceLT, Int.reduceLE, Int.reduceEq, Int.reduceToNat, List.append_assoc, List.length_append, Vm.get_app, Vm.set_app, Vm.get_appL, Vm.get_appL0, Vm.set_appL, Vm.set_appL0, Nat.le_refl, Nat.le_add_right, okAt]
            repeat' (
              first | refine wpC_cases ?_ ?_ | refine wpU_casesT ?_ ?_ | refine wpU_casesF ?_ ?_
              all_goals intro hvc
              all_goals first | replace hvc := not_of_true hvc | replace hvc := not_of_false hvc | skip
              all_goals first | subst hvc | replace hvb := And.intro hvc hvb
              all_goals try simp only [hvb, e2, e3, e4, hy8, go_sem, V.s.injEq, Value.bool.injEq, ↓reduceIte, Nat.reduceEqDiff, Nat.reduceBEq, Nat.reduceAdd, Nat.reduceSub, Nat.reduceLT, Nat.reduceLeDiff, Int.reduceLT, Int.reduceLE, Int.reduceEq, Int.reduceToNat, List.append_assoc, List.length_append, Vm.get_app, Vm.set_app, Vm.get_appL, Vm.get_appL0, Vm.set_appL, Vm.set_appL0, Nat.le_refl, Nat.le_add_right, okAt])
            all_goals exact ⟨N - (i + 1), by omega, i + 1, y8, rfl, by omega, rfl, by rw [hH']; exact hs0 _, by rw [hH', hab2]; exact hss _, by rw [hd8]; exact br8, by rw [hH']; exact hfw _⟩
        · have c' : ¬ (0 : Int) < ((8 * (N - i) : Nat) : Int) := by omega
          have : i = N := by omega
          have hvb : (0 : Nat) = 0 := rfl
          try simp only [e2, e3, e4, hln, c', go_sem, V.s.injEq, Value.bool.injEq, ↓reduceIte, Nat.reduceEqDiff, Nat.reduceBEq, Nat.reduceAdd, Nat.reduceSub, Nat.reduceLT, Nat.reduceLeDiff, Int.reduceLT, Int.reduceLE, Int.reduceEq, Int.reduceToNat, List.append_assoc, List.length_append, Vm.get_app, Vm.set_app, Vm.get_appL, Vm.get_appL0, Vm.set_appL, Vm.set_appL0, Nat.le_refl, Nat.le_add_right, okAt]
          repeat' (
            first | refine wpC_cases ?_ ?_ | refine wpU_casesT ?_ ?_ | refine wpU_casesF ?_ ?_
            all_goals intro hvc
            all_goals first | replace hvc := not_of_true hvc | replace hvc := not_of_false hvc | skip
            all_goals first | subst hvc | replace hvb := And.intro hvc hvb
            all_goals try simp only [hvb, e2, e3, e4, hln, c', go_sem, V.s.injEq, Value.bool.injEq, ↓reduceIte, Nat.reduceEqDiff, Nat.reduceBEq, Nat.reduceAdd, Nat.reduceSub, Nat.reduceLT, Nat.reduceLeDiff, Int.reduceLT, Int.reduceLE, Int.reduceEq, Int.reduceToNat, List.append_assoc, List.length_append, Vm.get_app, Vm.set_app, Vm.get_appL, Vm.get_appL0, Vm.set_appL, Vm.set_appL0, Nat.le_refl, Nat.le_add_right, okAt])
          all_goals (subst this; exact ⟨hg0, hg1, fw⟩)
      · clear br hg0 hg1 fw e4 y
        rintro e H ⟨e2, e3, hg0, hg1, fw⟩
        have hXok := absN_ok P N
        generalize absN P N = X at hg1 hout hXok
        have hss : ∀ c, (H.set (h.length + 1) c)[h.length + 1]? = some c := fun c => set_get hg1
        have hs0 : ∀ c, (H.set (h.length + 1) c)[h.length]? = some (.cells (some 26) [.arr 26 zer16]) := fun c => by rw [List.getElem?_set_ne (by omega)]; exact hg0
        have hfw : ∀ c, Fw [] h (H.set (h.length + 1) c) := fun c => fw.set_new (by omega) c
        have hvb : (0 : Nat) = 0 := rfl
        try simp only [e2, e3, go_sem, V.s.injEq, Value.bool.injEq, ↓reduceIte, Nat.reduceEqDiff, Nat.reduceBEq, Nat.reduceAdd, Nat.reduceSub, Nat.reduceLT, Nat.reduceLeDiff, Int.reduceLT, Int.reduceLE, Int.reduceEq, Int.reduceToNat, List.append_assoc, List.length_append, Vm.get_app, Vm.set_app, Vm.get_appL, Vm.get_appL0, Vm.set_appL, Vm.set_appL0, Nat.le_refl, Nat.le_add_right, okAt]
        repeat' (
          first | refine wpC_cases ?_ ?_ | refine wpU_casesT ?_ ?_ | refine wpU_casesF ?_ ?_
          all_goals intro hvc
          all_goals first | replace hvc := not_of_true hvc | replace hvc := not_of_false hvc | skip
          all_goals first | subst hvc | replace hvb := And.intro hvc hvb
          all_goals try simp only [hvb, e2, e3, go_sem, V.s.injEq, Value.bool.injEq, ↓reduceIte, Nat.reduceEqDiff, Nat.reduceBEq, Nat.reduceAdd, Nat.reduceSub, Nat.reduceLT, Nat.reduceLeDiff, Int.reduceLT, Int.reduceLE, Int.reduceEq, Int.reduceToNat, List.append_assoc, List.length_append, Vm.get_app, Vm.set_app, Vm.get_appL, Vm.get_appL0, Vm.set_appL, Vm.set_appL0, Nat.le_refl, Nat.le_add_right, okAt])
        refine wp_for (fun m e H' => ∃ j, m = 8 - j ∧ j ≤ 8 ∧ e 56 = .s (.int .i64 (j : Nat)) ∧ e 2 = .ptr h.length [0] 1 ∧ e 3 = .ptr (h.length + 1) [0] 1 ∧ H'[h.length]? = some (.cells (some 26) [.arr 26 zer16]) ∧ H'[h.length + 1]? = some (.cells (some 96) [.arr 96 (stirN X j).vs]) ∧ Fw [] h H')
          (fun e H' => e 2 = .ptr h.length [0] 1 ∧ e 3 = .ptr (h.length + 1) [0] 1 ∧ H'[h.length]? = some (.cells (some 26) [.arr 26 zer16]) ∧ H'[h.length + 1]? = some (.cells (some 96) [.arr 96 (stirN X 8).vs]) ∧ Fw [] h H')
          8 _ _ ⟨0, rfl, by omega, rfl, e2, e3, hg0, hg1, fw⟩ ?_ ?_
        · clear hss hs0 hfw hg0 hg1 fw
          rintro m e H' ⟨j, rfl, hj, e56, e2, e3, hg0, hg1, fw⟩
          by_cases c : j < 8
          · have c' : (j : Int) < 8 := by omega
            have hst := stir_ok h.length H' (h.length + 1) (stirN X j) hg1
            have hss := set_get hg1 (b := .cells (some 96) [.arr 96 (stirN X (j + 1)).vs])
            have hs0 : (H'.set (h.length + 1) (.cells (some 96) [.arr 96 (stirN X (j + 1)).vs]))[h.length]? = some (.cells (some 26) [.arr 26 zer16]) := by rw [List.getElem?_set_ne (by omega)]; exact hg0
            have hfw : Fw [] h (H'.set (h.length + 1) (.cells (some 96) [.arr 96 (stirN X (j + 1)).vs])) := fw.set_new (by omega) _
            have hst : run fns2 pr2 h.length 51 [.ptr (h.length + 1) [0] 1] H' = some (.tup [], H'.set (h.length + 1) (.cells (some 96) [.arr 96 (stirN X (j + 1)).vs])) := hst
            have hwr : IntKind.i64.wrap ((j : Int) + 1) = ((j + 1 : Nat) : Int) := wrap_small2 (by omega)
            have hvb : (0 : Nat) = 0 := rfl
            try simp only [e56, e2, e3, c', hst, hwr, go_sem, V.s.injEq, Value.bool.injEq, ↓reduceIte, Nat.reduceEqDiff, Nat.reduceBEq, Nat.reduceAdd, Nat.reduceSub, Nat.reduceLT, Nat.reduceLeDiff, Int.reduceLT, Int.reduceLE, Int.reduceEq, Int.reduceToNat, List.append_assoc, List.length_append, Vm.get_app, Vm.set_app, Vm.get_appL, Vm.get_appL0, Vm.set_appL, Vm.set_appL0, Nat.le_refl, Nat.le_add_right, okAt]
            repeat' (
              first | refine wpC_cases ?_ ?_ | refine wpU_casesT ?_ ?_ | refine wpU_casesF ?_ ?_
              all_goals intro hvc
              all_goals first | replace hvc := not_of_true hvc | replace hvc := not_of_false hvc | skip
              all_goals first | subst hvc | replace hvb := And.intro hvc hvb
              all_goals try simp only [hvb, e56, e2, e3, c', hst, hwr, go_sem, V.s.injEq, Value.bool.injEq, ↓reduceIte, Nat.reduceEqDiff, Nat.reduceBEq, Nat.reduceAdd, Nat.reduceSub, Nat.reduceLT, Nat.reduceLeDiff, Int.reduceLT, Int.reduceLE, Int.reduceEq, Int.reduceToNat, List.append_assoc, List.length_append, Vm.get_app, Vm.set_app, Vm.get_appL, Vm.get_appL0, Vm.set_appL, Vm.set_appL0, Nat.le_refl, Nat.le_add_right, okAt])
            all_goals exact ⟨8 - (j + 1), by omega, j + 1, rfl, by omega, rfl, hs0, hss, hfw⟩
          · have c' : ¬ (j : Int) < 8 := by omega
            have : j = 8 := by omega
            subst this
            have hvb : (0 : Nat) = 0 := rfl
            try simp only [e56, e2, e3, c', go_sem, V.s.injEq, Value.bool.injEq, ↓reduceIte, Nat.reduceEqDiff, Nat.reduceBEq, Nat.reduceAdd, Nat.reduceSub, Nat.reduceLT, Nat.reduceLeDiff, Int.reduceLT, Int.reduceLE, Int.reduceEq, Int.reduceToNat, List.append_assoc, List.length_append, Vm.get_app, Vm.set_app, Vm.get_appL, Vm.get_appL0, Vm.set_appL, Vm.set_appL0, Nat.le_refl, Nat.le_add_right, okAt]
            repeat' (
              first | refine wpC_cases ?_ ?_ | refine wpU_casesT ?_ ?_ | refine wpU_casesF ?_ ?_
              all_goals intro hvc
              all_goals first | replace hvc := not_of_true hvc | replace hvc := not_of_false hvc | skip
              all_goals first | subst hvc | replace hvb := And.intro hvc hvb
              all_goals try simp only [hvb, e56, e2, e3, c', go_sem, V.s.injEq, Value.bool.injEq, ↓reduceIte, Nat.reduceEqDiff, Nat.reduceBEq, Nat.reduceAdd, Nat.reduceSub, Nat.reduceLT, Nat.reduceLeDiff, Int.reduceLT, Int.reduceLE, Int.reduceEq, Int.reduceToNat, List.append_assoc, List.length_append, Vm.get_app, Vm.set_app, Vm.get_appL, Vm.get_appL0, Vm.set_appL, Vm.set_appL0, Nat.le_refl, Nat.le_add_right, okAt])
            all_goals exact ⟨hg0, hg1, fw⟩
        · clear hss hs0 hfw hg0 hg1 fw
          rintro e H ⟨e2, e3, hg0, hg1, fw⟩
          have hYok := stirN_ok hXok 8
          generalize stirN X 8 = Y at hg1 hout hYok
          have hvb : (0 : Nat) = 0 := rfl
          try simp only [e2, e3, go_sem, V.s.injEq, Value.bool.injEq, ↓reduceIte, Nat.reduceEqDiff, Nat.reduceBEq, Nat.reduceAdd, Nat.reduceSub, Nat.reduceLT, Nat.reduceLeDiff, Int.reduceLT, Int.reduceLE, Int.reduceEq, Int.reduceToNat, List.append_assoc, List.length_append, Vm.get_app, Vm.set_app, Vm.get_appL, Vm.get_appL0, Vm.set_appL, Vm.set_appL0, Nat.le_refl, Nat.le_add_right, okAt]
          repeat' (
            first | refine wpC_cases ?_ ?_ | refine wpU_casesT ?_ ?_ | refine wpU_casesF ?_ ?_
            all_goals intro hvc
            all_goals first | replace hvc := not_of_true hvc | replace hvc := not_of_false hvc | skip
            all_goals first | subst hvc | replace hvb := And.intro hvc hvb
            all_goals try simp only [hvb, e2, e3, go_sem, V.s.injEq, Value.bool.injEq, ↓reduceIte, Nat.reduceEqDiff, Nat.reduceBEq, Nat.reduceAdd, Nat.reduceSub, Nat.reduceLT, Nat.reduceLeDiff, Int.reduceLT, Int.reduceLE, Int.reduceEq, Int.reduceToNat, List.append_assoc, List.length_append, Vm.get_app, Vm.set_app, Vm.get_appL, Vm.get_appL0, Vm.set_appL, Vm.set_appL0, Nat.le_refl, Nat.le_add_right, okAt])
          have hlo : h.length + 1 < H.length := lt_of_get hg1
          have hT : (H ++ [Blk.cells (some 26) [.arr 26 zer16]])[H.length]? = _ := get_app0 H [Blk.cells (some 26) [.arr 26 zer16]]
          obtain ⟨o, ho⟩ : ∃ o, H.length = o := ⟨_, rfl⟩
          have hz16 : zer16 = (outN Y 0 ++ List.replicate 16 0).map byteV := rfl
          refine wp_for (fun m e H' => ∃ i, m = 16 - i ∧ i ≤ 16 ∧ e 60 = .s (.int .i64 (i : Nat)) ∧ e 2 = .ptr h.length [0] 1 ∧ e 3 = .ptr (h.length + 1) [0] 1 ∧ e 6 = .ptr o [0] 1 ∧ H'[h.length]? = some (.cells (some 26) [.arr 26 zer16]) ∧ H'[h.length + 1]? = some (.cells (some 96) [.arr 96 Y.vs]) ∧ H'[o]? = some (.cells (some 26) [.arr 26 ((outN Y i ++ List.replicate (16 - i) 0).map byteV)]) ∧ Fw [] h H')
            (fun e H' => e 2 = .ptr h.length [0] 1 ∧ e 6 = .ptr o [0] 1 ∧ H'[h.length]? = some (.cells (some 26) [.arr 26 zer16]) ∧ H'[o]? = some (.cells (some 26) [.arr 26 ((outN Y 16).map byteV)]) ∧ Fw [] h H')
            16 _ _ ⟨0, rfl, by omega, rfl, e2, e3, by rw [← ho]; rfl, get_old hg0 _, get_old hg1 _, by rw [← ho]; exact hT, fw.trans (Fw.app _ _ _)⟩ ?_ ?_
          · clear hT hg0 hg1 fw
            rintro m e H' ⟨i, rfl, hi, e60, e2, e3, e6, hg0, hg1, hg2, fw⟩
            by_cases c : i < 16
            · have c' : (i : Int) < 16 := by omega
              have c16 : (i : Int) < ((16 : Nat) : Int) := by omega
              have i0 : (0 : Int) ≤ (i : Int) := by omega
              have hq : ∀ cf base h, opV cf base h (.bin .num .quo) [.s (.int .i64 i), .s (.int .i64 4)] = some (.s (.int .i64 ((i / 4 : Nat) : Int)), h) := fun cf base h => by
                rw [o_quo cf base h .i64 _ 4 (by omega), Int.tdiv_eq_ediv_of_nonneg (by omega), wrap_i64 (by omega) (by omega)]; rfl
              have hr : ∀ cf base h, opV cf base h (.bin .num .rem) [.s (.int .i64 i), .s (.int .i64 4)] = some (.s (.int .i64 ((i % 4 : Nat) : Int)), h) := fun cf base h => by
                rw [o_rem cf base h .i64 _ 4 (by omega), Int.tmod_eq_emod_of_nonneg (by omega)]; rfl
              have w8 : IntKind.i64.wrap (8 * ((i % 4 : Nat) : Int)) = ((8 * (i % 4) : Nat) : Int) := by rw [wrap_i64 (by omega) (by omega)]; omega
              have hsh : ∀ cf base h, opV cf base h (.bin .num .shr) [.s (.int .u32 ((Y.at (i / 4) : Nat) : Int)), .s (.int .i64 ((8 * (i % 4) : Nat) : Int))] = some (.s (.int .u32 ((Y.at (i / 4) / 2 ^ (8 * (i % 4)) : Nat) : Int)), h) := fun cf base h => by
                rw [o_shr cf base h .u32 .i64 _ _ (by omega), shr_i (by omega)]
              have hYv : Y.vs[i / 4]? = some (.s (.int .u32 ((Y.at (i / 4) : Nat) : Int))) := by
                have : i / 4 = 0 ∨ i / 4 = 1 ∨ i / 4 = 2 ∨ i / 4 = 3 := by omega
                rcases this with h | h | h | h <;> rw [h] <;> rfl
              have hYl : Y.vs.length = 4 := rfl
              have c4 : ((i / 4 : Nat) : Int) < 4 := by omega
              have c4' : ((i / 4 : Nat) : Int) < ((4 : Nat) : Int) := by omega
              have j0 : (0 : Int) ≤ ((i / 4 : Nat) : Int) := by omega
              have c4n : i / 4 < 4 := by omega
              have hlv : ((outN Y i ++ List.replicate (16 - i) 0).map byteV).length = 16 := by rw [List.length_map, List.length_append, outN_len, List.length_replicate]; omega
              obtain ⟨z, hz, hzt⟩ : ∃ z, ((outN Y i ++ List.replicate (16 - i) 0).map byteV)[i]? = some z ∧ z.ty = none := by
                refine ⟨byteV ((outN Y i ++ List.replicate (16 - i) 0)[i]'(by rw [List.length_map] at hlv; omega)), ?_, rfl⟩
                rw [List.getElem?_map, List.getElem?_eq_getElem (by rw [List.length_map] at hlv; omega)]; rfl
              have hst : ((outN Y i ++ List.replicate (16 - i) 0).map byteV).set i (V.s (.int .u8 (IntKind.u8.wrap ((Y.at (i / 4) / 2 ^ (8 * (i % 4)) : Nat) : Int)))) = (outN Y (i + 1) ++ List.replicate (16 - (i + 1)) 0).map byteV := by
                rw [u8_mod, ← List.map_set, List.set_append_right _ _ (by rw [outN_len]; exact Nat.le_refl _), outN_len, Nat.sub_self, show 16 - i = (16 - (i + 1)) + 1 by omega, List.replicate_succ, List.set_cons_zero, outN, List.append_assoc]
                rfl
              generalize (outN Y i ++ List.replicate (16 - i) 0).map byteV = vs at hg2 hlv hz hst
              have hne1 : h.length + 1 ≠ o := by omega
              have hne0 : h.length ≠ o := by omega
              have n0 : (H'.set o (.cells (some 26) [.arr 26 ((outN Y (i + 1) ++ List.replicate (16 - (i + 1)) 0).map byteV)]))[h.length]? = some (.cells (some 26) [.arr 26 zer16]) := by rw [List.getElem?_set_ne (by omega)]; exact hg0
              have n1 : (H'.set o (.cells (some 26) [.arr 26 ((outN Y (i + 1) ++ List.replicate (16 - (i + 1)) 0).map byteV)]))[h.length + 1]? = some (.cells (some 96) [.arr 96 Y.vs]) := by rw [List.getElem?_set_ne (by omega)]; exact hg1
              have n2 := set_get hg2 (b := .cells (some 26) [.arr 26 ((outN Y (i + 1) ++ List.replicate (16 - (i + 1)) 0).map byteV)])
              have nf : Fw [] h (H'.set o (.cells (some 26) [.arr 26 ((outN Y (i + 1) ++ List.replicate (16 - (i + 1)) 0).map byteV)])) := fw.set_new (by omega) _
              have hwr : IntKind.i64.wrap ((i : Int) + 1) = ((i + 1 : Nat) : Int) := wrap_small2 (by omega)
              have hvb : (0 : Nat) = 0 := rfl
              try simp only [e60, e2, e3, e6, c', c16, i0, hq, hr, w8, hsh, hYv, hYl, c4, c4', j0, c4n, hlv, hz, hzt, hst, hg0, hg1, hg2, ground_or, hwr, Int.toNat_natCast, go_sem, V.s.injEq, Value.bool.injEq, ↓reduceIte, Nat.reduceEqDiff, Nat.reduceBEq, Nat.reduceAdd, Nat.reduceSub, Nat.reduceLT, Nat.reduceLeDiff, Int.reduceLT, Int.reduceLE, Int.reduceEq, Int.reduceToNat, List.append_assoc, List.length_append, Vm.get_app, Vm.set_app, Vm.get_appL, Vm.get_appL0, Vm.set_appL, Vm.set_appL0, Nat.le_refl, Nat.le_add_right, okAt]
              repeat' (
                first | refine wpC_cases ?_ ?_ | refine wpU_casesT ?_ ?_ | refine wpU_casesF ?_ ?_
                all_goals intro hvc
                all_goals first | replace hvc := not_of_true hvc | replace hvc := not_of_false hvc | skip
                all_goals first | subst hvc | replace hvb := And.intro hvc hvb
                all_goals try simp only [hvb, e60, e2, e3, e6, c', c16, i0, hq, hr, w8, hsh, hYv, hYl, c4, c4', j0, c4n, hlv, hz, hzt, hst, hg0, hg1, hg2, ground_or, hwr, Int.toNat_natCast, go_sem, V.s.injEq, Value.bool.injEq, ↓reduceIte, Nat.reduceEqDiff, Nat.reduceBEq, Nat.reduceAdd, Nat.reduceSub, Nat.reduceLT, Nat.reduceLeDiff, Int.reduceLT, Int.reduceLE, Int.reduceEq, Int.reduceToNat, List.append_assoc, List.length_append, Vm.get_app, Vm.set_app, Vm.get_appL, Vm.get_appL0, Vm.set_appL, Vm.set_appL0, Nat.le_refl, Nat.le_add_right, okAt])
              all_goals exact ⟨16 - (i + 1), by omega, i + 1, rfl, by omega, rfl, n0, n1, n2, nf⟩
            · have c' : ¬ (i : Int) < 16 := by omega
              have : i = 16 := by omega
              subst this
              rw [Nat.sub_self, List.replicate_zero, List.append_nil] at hg2
              have hvb : (0 : Nat) = 0 := rfl
              try simp only [e60, e2, e3, e6, c', go_sem, V.s.injEq, Value.bool.injEq, ↓reduceIte, Nat.reduceEqDiff, Nat.reduceBEq, Nat.reduceAdd, Nat.reduceSub, Nat.reduceLT, Nat.reduceLeDiff, Int.reduceLT, Int.reduceLE, Int.reduceEq, Int.reduceToNat, List.append_assoc, List.length_append, Vm.get_app, Vm.set_app, Vm.get_appL, Vm.get_appL0, Vm.set_appL, Vm.set_appL0, Nat.le_refl, Nat.le_add_right, okAt]
              repeat' (
                first | refine wpC_cases ?_ ?_ | refine wpU_casesT ?_ ?_ | refine wpU_casesF ?_ ?_
                all_goals intro hvc
                all_goals first | replace hvc := not_of_true hvc | replace hvc := not_of_false hvc | skip
                all_goals first | subst hvc | replace hvb := And.intro hvc hvb
                all_goals try simp only [hvb, e60, e2, e3, e6, c', go_sem, V.s.injEq, Value.bool.injEq, ↓reduceIte, Nat.reduceEqDiff, Nat.reduceBEq, Nat.reduceAdd, Nat.reduceSub, Nat.reduceLT, Nat.reduceLeDiff, Int.reduceLT, Int.reduceLE, Int.reduceEq, Int.reduceToNat, List.append_assoc, List.length_append, Vm.get_app, Vm.set_app, Vm.get_appL, Vm.get_appL0, Vm.set_appL, Vm.set_appL0, Nat.le_refl, Nat.le_add_right, okAt])
              all_goals exact ⟨hg0, hg2, fw⟩
          · clear hT hg0 hg1 fw
            rintro e H' ⟨e2, e6, hg0, hg2, fw⟩
            have htk : ∀ c, (H'.set h.length c).take h.length = h := fun c => (fw.set_new (Nat.le_refl _) c).take
            have hss : ∀ c, (H'.set h.length c)[h.length]? = some c := fun c => set_get hg0
            rw [← hout] at hg2
            have hlen := sumB_len l
            have hfz : ∀ n h, frzV.all n h ((sumB l).map byteV) = some ((sumB l).map byteV) := fun n h => frzA_bytes n h (sumB l)
            generalize (sumB l).map byteV = ws at hg2 hfz
            have hvb : (0 : Nat) = 0 := rfl
            try simp only [e2, e6, hg0, hg2, htk, hss, ground_or, hfz, go_sem, V.s.injEq, Value.bool.injEq, ↓reduceIte, Nat.reduceEqDiff, Nat.reduceBEq, Nat.reduceAdd, Nat.reduceSub, Nat.reduceLT, Nat.reduceLeDiff, Int.reduceLT, Int.reduceLE, Int.reduceEq, Int.reduceToNat, List.append_assoc, List.length_append, Vm.get_app, Vm.set_app, Vm.get_appL, Vm.get_appL0, Vm.set_appL, Vm.set_appL0, Nat.le_refl, Nat.le_add_right, okAt]
            repeat' (
              first | refine wpC_cases ?_ ?_ | refine wpU_casesT ?_ ?_ | refine wpU_casesF ?_ ?_
              all_goals intro hvc
              all_goals first | replace hvc := not_of_true hvc | replace hvc := not_of_false hvc | skip
              all_goals first | subst hvc | replace hvb := And.intro hvc hvb
              all_goals try simp only [hvb, e2, e6, hg0, hg2, htk, hss, ground_or, hfz, go_sem, V.s.injEq, Value.bool.injEq, ↓reduceIte, Nat.reduceEqDiff, Nat.reduceBEq, Nat.reduceAdd, Nat.reduceSub, Nat.reduceLT, Nat.reduceLeDiff, Int.reduceLT, Int.reduceLE, Int.reduceEq, Int.reduceToNat, List.append_assoc, List.length_append, Vm.get_app, Vm.set_app, Vm.get_appL, Vm.get_appL0, Vm.set_appL, Vm.set_appL0, Nat.le_refl, Nat.le_add_right, okAt])
theorem sum_calls {c : Ctx} {w : World} {vs : List V} {us : List Value} {h : Hp} {v : V} {h' : Hp} (hr : sumF vs h = some (v, h')) (hv : RVl (layOf Try.prog) c vs us) (hs : Sim (layOf Try.prog) c h w) : CallRes Try.prog (layOf Try.prog) c w 47 us v h' := by
  unfold sumF at hr
  split at hr
  case h_2 => cases hr
  rename_i x
  split at hr
  case h_2 => cases hr
  rename_i es he
  split at hr
  case h_2 => cases hr
  rename_i l hb
  split at hr
  case isFalse => cases hr
  rename_i hl
  cases hr
  have hbr : Rd h x l := Rd.mk' (by rw [he, hl.1]) hl.2.1
  exact ((run_sound lay_ok fns2_ok pr2_ok pr2_kp 0 _ _ _ _ _ (Sum_ok 0 h x l hbr hl.2.2)).2 c w us hv hs)
end Go.Proofs.Ytfhmclgnfabdfaa
