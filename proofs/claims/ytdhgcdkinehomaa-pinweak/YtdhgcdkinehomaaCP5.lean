/- PinWeak: what the law runs. Conditions: none. -/
import Derived.Test.YtdhgcdkinehomaaCP4
import Derived.Test.YtdhgcdkinehomaaCMPW
namespace Go.Proofs.Ytdhgcdkinehomaa
open Go Go.Vm Go.Proofs Go.Cl
set_option linter.unusedSimpArgs false
set_option linter.unusedVariables false
set_option maxRecDepth 100000
theorem rem_ok (n m : Int) (hm : 0 < m) (hb : m ≤ 1000000000) : (∀ cf base h, opV cf base h (.bin .num .rem) [.s (.int .i64 n), .s (.int .i64 m)] = some (.s (.int .i64 (n.tmod m)), h)) ∧ IntKind.i64.wrap (n.tmod m + m) = n.tmod m + m ∧ (∀ cf base h, opV cf base h (.bin .num .rem) [.s (.int .i64 (n.tmod m + m)), .s (.int .i64 m)] = some (.s (.int .i64 (n % m)), h)) ∧ 0 ≤ n % m ∧ n % m < m := by
  obtain ⟨h1, h2, h3⟩ := tm n m hm
  refine ⟨fun cf base h => o_rem cf base h .i64 n m (by omega), wrap_i64 (by omega) (by omega), fun cf base h => by rw [o_rem cf base h .i64 _ m (by omega), h1], Int.emod_nonneg n (by omega), Int.emod_lt_of_pos n hm⟩
theorem PinWeak_run (a0 a1 a2 a3 a4 : Int) : run fns pr 0 13 [.s (.int .i64 a0), .s (.int .i64 a1), .s (.int .i64 a2), .s (.int .i64 a3), .s (.int .i64 a4)] [] = some (.s (.bool true), []) := by
  obtain ⟨r1, r2, r3, r4, r5⟩ := rem_ok a1 8 (by omega) (by omega)
  obtain ⟨f1, f2, f3, f4, f5⟩ := rem_ok a0 10 (by omega) (by omega)
  obtain ⟨s1, s2, s3, s4, s5⟩ := rem_ok a2 3 (by omega) (by omega)
  obtain ⟨t1, t2, t3, t4, t5⟩ := rem_ok a4 10 (by omega) (by omega)
  generalize hK : a1 % 8 = K0 at r3 r4 r5
  generalize hF : a0 % 10 = F0 at f3 f4 f5
  generalize hS : a2 % 3 = S0 at s3 s4 s5
  have w2 : IntKind.i64.wrap (S0 - 1) = S0 - 1 := wrap_i64 (by omega) (by omega)
  have w1 : IntKind.i64.wrap (5 + K0) = 5 + K0 := wrap_i64 (by omega) (by omega)
  have q1 := fun cf base h => o_rem cf base h .i64 F0 3 (by omega)
  have q2 : F0.tmod 3 = F0 % 3 := Int.tmod_eq_emod_of_nonneg f4
  rw [q2] at q1
  have q3 : IntKind.i64.wrap (9 - F0 % 3) = 9 - F0 % 3 := wrap_i64 (by omega) (by omega)
  obtain ⟨S, hS'⟩ : ∃ S, S0 - 1 = S := ⟨_, rfl⟩
  rw [hS'] at w2
  have w2 : IntKind.i64.wrap (S0 - 1) = S := by rw [hS']; exact w2
  obtain ⟨F, K, hcase, hdig, hk5, hk12⟩ : ∃ (F : Int) (K : Nat), ((S = 0 ∧ F0 = F ∧ 5 + K0 = (K : Int)) ∨ (S = 1 ∧ F0 % 3 = F ∧ min (5 + K0) 8 = (K : Int)) ∨ (S = -1 ∧ 9 - F0 % 3 = F ∧ min (5 + K0) 8 = (K : Int))) ∧
      (∀ i : Nat, i < K → 0 ≤ F + S * i ∧ F + S * i ≤ 9) ∧ 5 ≤ K ∧ K ≤ 12 := by
    have : S = -1 ∨ S = 0 ∨ S = 1 := by omega
    rcases this with rfl | rfl | rfl
    · refine ⟨9 - F0 % 3, (min (5 + K0) 8).toNat, .inr (.inr ⟨rfl, rfl, by omega⟩), fun i hi => by omega, by omega, by omega⟩
    · refine ⟨F0, (5 + K0).toNat, .inl ⟨rfl, rfl, by omega⟩, fun i hi => by omega, by omega, by omega⟩
    · refine ⟨F0 % 3, (min (5 + K0) 8).toNat, .inr (.inl ⟨rfl, rfl, by omega⟩), fun i hi => by omega, by omega, by omega⟩
  have hs3 : S = 0 ∨ S = 1 ∨ S = -1 := by omega
  have hrow := rowL_row hdig
  have hwk := weak_row hrow hk5 hk12 hdig hs3
  have hF9 : 0 ≤ F ∧ F ≤ 9 := by have := hdig 0 (by omega); simp at this; exact this
  obtain ⟨i1, i2, i3, i4, i5⟩ := rem_ok a3 K (by omega) (by omega)
  generalize hI : a3 % (K : Int) = I0 at i3 i4 i5
  have mk : ∀ cf base h, opV cf base h (.mks none (.s (.int .u8 0))) [.s (.int .i64 (K : Int)), .s (.int .i64 (K : Int))] = some (.ref h.length [] none 0 K K, h ++ [.cells none (List.replicate K (.s (.int .u8 0)))]) := fun cf base h => by
    rw [o_mks, if_pos ⟨by omega, by omega⟩, if_neg (by omega), Int.toNat_natCast]
  refine Vm.runP (nt := 98) rfl fit13 (by simp) ?_
  obtain ⟨i0, hi0⟩ : ∃ i0 : Nat, I0 = i0 := ⟨I0.toNat, by omega⟩
  subst hi0
  have hi0K : i0 < K := by omega
  have w4 : IntKind.i64.wrap (48 + a4 % 10) = 48 + a4 % 10 := wrap_i64 (by omega) (by omega)
  have w5 : IntKind.u8.wrap (48 + a4 % 10) = 48 + a4 % 10 := wrap_u8 (by omega) (by omega)
  have hkn := fun b h => known_ok b h
  have w48 : IntKind.i64.wrap (48 + F) = 48 + F := wrap_i64 (by omega) (by omega)
  rcases hcase with ⟨hSe, hFe, hKe⟩ | ⟨hSe, hFe, hKe⟩ | ⟨hSe, hFe, hKe⟩
  case' inl =>
    rw [hKe] at w1
    have n1 : ¬ S = 1 := by omega
    have n2 : ¬ S = -1 := by omega
    have hvb : (0 : Nat) = 0 := rfl
    try simp only [B13, B13J0, B13R0, B13L0, r1, r2, r3, f1, f2, f3, s1, s2, s3, w1, w2, hFe, hKe, mk, n1, n2, go_sem, V.s.injEq, Value.bool.injEq, ↓reduceIte, Nat.reduceEqDiff, Nat.reduceBEq, Nat.reduceAdd, Nat.reduceSub, Nat.reduceLT, Nat.reduceLeDiff, Int.reduceLT, Int.reduceLE, Int.reduceEq, Int.reduceToNat, List.append_assoc, List.length_append, Vm.get_app, Vm.set_app, Vm.get_appL, Vm.get_appL0, Vm.set_appL, Vm.set_appL0, Nat.le_refl, Nat.le_add_right, okAt]
    repeat' (
      first | refine wpC_cases ?_ ?_ | refine wpU_casesT ?_ ?_ | refine wpU_casesF ?_ ?_
      all_goals intro hvc
      all_goals first | replace hvc := not_of_true hvc | replace hvc := not_of_false hvc | skip
      all_goals first | subst hvc | replace hvb := And.intro hvc hvb
      all_goals try simp only [hvb, B13, B13J0, B13R0, B13L0, r1, r2, r3, f1, f2, f3, s1, s2, s3, w1, w2, hFe, hKe, mk, n1, n2, go_sem, V.s.injEq, Value.bool.injEq, ↓reduceIte, Nat.reduceEqDiff, Nat.reduceBEq, Nat.reduceAdd, Nat.reduceSub, Nat.reduceLT, Nat.reduceLeDiff, Int.reduceLT, Int.reduceLE, Int.reduceEq, Int.reduceToNat, List.append_assoc, List.length_append, Vm.get_app, Vm.set_app, Vm.get_appL, Vm.get_appL0, Vm.set_appL, Vm.set_appL0, Nat.le_refl, Nat.le_add_right, okAt])
  case' inr.inl =>
    have hvb : (0 : Nat) = 0 := rfl
    try simp only [B13, B13J0, B13R0, B13L0, r1, r2, r3, f1, f2, f3, s1, s2, s3, w1, w2, q1, q3, hFe, hKe, mk, hSe, go_sem, V.s.injEq, Value.bool.injEq, ↓reduceIte, Nat.reduceEqDiff, Nat.reduceBEq, Nat.reduceAdd, Nat.reduceSub, Nat.reduceLT, Nat.reduceLeDiff, Int.reduceLT, Int.reduceLE, Int.reduceEq, Int.reduceToNat, List.append_assoc, List.length_append, Vm.get_app, Vm.set_app, Vm.get_appL, Vm.get_appL0, Vm.set_appL, Vm.set_appL0, Nat.le_refl, Nat.le_add_right, okAt]
    repeat' (
      first | refine wpC_cases ?_ ?_ | refine wpU_casesT ?_ ?_ | refine wpU_casesF ?_ ?_
      all_goals intro hvc
      all_goals first | replace hvc := not_of_true hvc | replace hvc := not_of_false hvc | skip
      all_goals first | subst hvc | replace hvb := And.intro hvc hvb
      all_goals try simp only [hvb, B13, B13J0, B13R0, B13L0, r1, r2, r3, f1, f2, f3, s1, s2, s3, w1, w2, q1, q3, hFe, hKe, mk, hSe, go_sem, V.s.injEq, Value.bool.injEq, ↓reduceIte, Nat.reduceEqDiff, Nat.reduceBEq, Nat.reduceAdd, Nat.reduceSub, Nat.reduceLT, Nat.reduceLeDiff, Int.reduceLT, Int.reduceLE, Int.reduceEq, Int.reduceToNat, List.append_assoc, List.length_append, Vm.get_app, Vm.set_app, Vm.get_appL, Vm.get_appL0, Vm.set_appL, Vm.set_appL0, Nat.le_refl, Nat.le_add_right, okAt])
  case' inr.inr =>
    rw [hFe] at q3
    have n1 : ¬ S = 1 := by omega
    have hvb : (0 : Nat) = 0 := rfl
    try simp only [B13, B13J0, B13R0, B13L0, r1, r2, r3, f1, f2, f3, s1, s2, s3, w1, w2, q1, q3, hFe, hKe, mk, n1, hSe, go_sem, V.s.injEq, Value.bool.injEq, ↓reduceIte, Nat.reduceEqDiff, Nat.reduceBEq, Nat.reduceAdd, Nat.reduceSub, Nat.reduceLT, Nat.reduceLeDiff, Int.reduceLT, Int.reduceLE, Int.reduceEq, Int.reduceToNat, List.append_assoc, List.length_append, Vm.get_app, Vm.set_app, Vm.get_appL, Vm.get_appL0, Vm.set_appL, Vm.set_appL0, Nat.le_refl, Nat.le_add_right, okAt]
    repeat' (
      first | refine wpC_cases ?_ ?_ | refine wpU_casesT ?_ ?_ | refine wpU_casesF ?_ ?_
      all_goals intro hvc
      all_goals first | replace hvc := not_of_true hvc | replace hvc := not_of_false hvc | skip
      all_goals first | subst hvc | replace hvb := And.intro hvc hvb
      all_goals try simp only [hvb, B13, B13J0, B13R0, B13L0, r1, r2, r3, f1, f2, f3, s1, s2, s3, w1, w2, q1, q3, hFe, hKe, mk, n1, hSe, go_sem, V.s.injEq, Value.bool.injEq, ↓reduceIte, Nat.reduceEqDiff, Nat.reduceBEq, Nat.reduceAdd, Nat.reduceSub, Nat.reduceLT, Nat.reduceLeDiff, Int.reduceLT, Int.reduceLE, Int.reduceEq, Int.reduceToNat, List.append_assoc, List.length_append, Vm.get_app, Vm.set_app, Vm.get_appL, Vm.get_appL0, Vm.set_appL, Vm.set_appL0, Nat.le_refl, Nat.le_add_right, okAt])
  all_goals clear hFe hKe w1 r1 r2 r3 f1 f2 f3 s1 s2 s3 w2 q1 q3 mk
  all_goals
    refine wp_for (fun m e H => ∃ i : Nat, m = K - i ∧ i ≤ K ∧ e 49 = .s (.int .i64 i) ∧ e 48 = .s (.int .i64 K) ∧ e 14 = .ref 0 [] none 0 K K ∧ e 12 = .s (.int .i64 F) ∧ e 13 = .s (.int .i64 S) ∧ e 11 = .s (.int .i64 K) ∧ e 3 = .s (.int .i64 a3) ∧ e 4 = .s (.int .i64 a4) ∧ H[0]? = some (.cells none ((rowL F S i ++ List.replicate (K - i) 0).map byteV)))
      (fun e H => e 14 = .ref 0 [] none 0 K K ∧ e 11 = .s (.int .i64 K) ∧ e 3 = .s (.int .i64 a3) ∧ e 4 = .s (.int .i64 a4) ∧ H[0]? = some (.cells none ((rowL F S K).map byteV)))
      K _ _ ⟨0, rfl, by omega, rfl, rfl, rfl, rfl, (by first | rfl | (rw [hSe]; rfl)), rfl, rfl, rfl, (by simp [rowL, byteV])⟩ ?_ ?_
    · rintro m e H ⟨i, rfl, hi, e49, e48, e14, e12, e13, e11, e3, e4, h0⟩
      by_cases c : i < K
      · have c' : (i : Int) < K := by omega
        have hdi := hdig i c
        have hset := rowL_set F S i K c
        have hlv : (rowL F S i ++ List.replicate (K - i) 0).length = K := by rw [List.length_append, rowL_len, List.length_replicate]; omega
        obtain ⟨P, hP⟩ : ∃ P, S * (i : Int) = P := ⟨_, rfl⟩
        rw [hP] at hdi hset
        have wm : IntKind.i64.wrap (S * (i : Int)) = P := by rw [hP]; exact wrap_i64 (by omega) (by omega)
        have wa : IntKind.i64.wrap (48 + F + P) = 48 + F + P := wrap_i64 (by omega) (by omega)
        have wu : IntKind.u8.wrap (48 + F + P) = 48 + F + P := wrap_u8 (by omega) (by omega)
        have hby : (V.s (.int .u8 (48 + F + P))) = byteV (UInt8.ofNat (48 + F + P).toNat) := by
          simp only [byteV]; rw [u8n _ (by omega)]; congr 2; omega
        obtain ⟨z, hv, hz⟩ : ∃ z, ((rowL F S i ++ List.replicate (K - i) 0).map byteV)[i]? = some z ∧ z.ty = none := ⟨byteV ((rowL F S i ++ List.replicate (K - i) 0)[i]'(by omega)), by rw [List.getElem?_map, List.getElem?_eq_getElem (by omega)]; rfl, rfl⟩
        have hst : ((rowL F S i ++ List.replicate (K - i) 0).map byteV).set i (V.s (.int .u8 (48 + F + P))) = (rowL F S (i + 1) ++ List.replicate (K - (i + 1)) 0).map byteV := by
          rw [hby, ← List.map_set, hset]
        have hlv' : ((rowL F S i ++ List.replicate (K - i) 0).map byteV).length = K := by rw [List.length_map, hlv]
        have hnew := set_get h0 (b := .cells none ((rowL F S (i + 1) ++ List.replicate (K - (i + 1)) 0).map byteV))
        have hgr : (decide (0 ≤ 0) || (V.s (.int .u8 (48 + F + P))).ground) = true := rfl
        have hia : ∀ cf base, opV cf base H (.ias none) [.ref 0 [] none 0 K K, .s (.int .i64 i)] = some (.ptr 0 [i] K, H) := fun cf base => by
          have hsr : SR H (.ref 0 [] none 0 K K) none ((rowL F S i ++ List.replicate (K - i) 0).map byteV) := .inr ⟨0, 0, K, _, by rw [hlv'], h0, hlv', by rw [hlv']; omega, by rw [List.drop_zero, List.take_length]⟩
          rw [hsr.o_ias (by omega)]; simp only [eltP, Nat.zero_add]
        have hwr : IntKind.i64.wrap ((i : Int) + 1) = ((i + 1 : Nat) : Int) := wrap_small (by omega)
        generalize (rowL F S i ++ List.replicate (K - i) 0).map byteV = vs at h0 hv hst hlv' hia
        have hvb : (0 : Nat) = 0 := rfl
        try simp only [e49, e48, e14, e12, e13, c', w48, wm, wa, wu, hia, h0, hlv', hv, hst, hgr, hwr, hz, go_sem, V.s.injEq, Value.bool.injEq, ↓reduceIte, Nat.reduceEqDiff, Nat.reduceBEq, Nat.reduceAdd, Nat.reduceSub, Nat.reduceLT, Nat.reduceLeDiff, Int.reduceLT, Int.reduceLE, Int.reduceEq, Int.reduceToNat, List.append_assoc, List.length_append, Vm.get_app, Vm.set_app, Vm.get_appL, Vm.get_appL0, Vm.set_appL, Vm.set_appL0, Nat.le_refl, Nat.le_add_right, okAt]
        repeat' (
          first | refine wpC_cases ?_ ?_ | refine wpU_casesT ?_ ?_ | refine wpU_casesF ?_ ?_
          all_goals intro hvc
          all_goals first | replace hvc := not_of_true hvc | replace hvc := not_of_false hvc | skip
          all_goals first | subst hvc | replace hvb := And.intro hvc hvb
          all_goals try simp only [hvb, e49, e48, e14, e12, e13, c', w48, wm, wa, wu, hia, h0, hlv', hv, hst, hgr, hwr, hz, go_sem, V.s.injEq, Value.bool.injEq, ↓reduceIte, Nat.reduceEqDiff, Nat.reduceBEq, Nat.reduceAdd, Nat.reduceSub, Nat.reduceLT, Nat.reduceLeDiff, Int.reduceLT, Int.reduceLE, Int.reduceEq, Int.reduceToNat, List.append_assoc, List.length_append, Vm.get_app, Vm.set_app, Vm.get_appL, Vm.get_appL0, Vm.set_appL, Vm.set_appL0, Nat.le_refl, Nat.le_add_right, okAt])
        all_goals exact ⟨K - (i + 1), by omega, i + 1, rfl, by omega, rfl, e11, e3, e4, hnew⟩
      · have : i = K := by omega
        subst this
        have c' : ¬ (i : Int) < (i : Int) := by omega
        rw [Nat.sub_self, List.replicate_zero, List.append_nil] at h0
        have hvb : (0 : Nat) = 0 := rfl
        try simp only [e49, e48, c', e14, e11, e3, e4, go_sem, V.s.injEq, Value.bool.injEq, ↓reduceIte, Nat.reduceEqDiff, Nat.reduceBEq, Nat.reduceAdd, Nat.reduceSub, Nat.reduceLT, Nat.reduceLeDiff, Int.reduceLT, Int.reduceLE, Int.reduceEq, Int.reduceToNat, List.append_assoc, List.length_append, Vm.get_app, Vm.set_app, Vm.get_appL, Vm.get_appL0, Vm.set_appL, Vm.set_appL0, Nat.le_refl, Nat.le_add_right, okAt]
        repeat' (
          first | refine wpC_cases ?_ ?_ | refine wpU_casesT ?_ ?_ | refine wpU_casesF ?_ ?_
          all_goals intro hvc
          all_goals first | replace hvc := not_of_true hvc | replace hvc := not_of_false hvc | skip
          all_goals first | subst hvc | replace hvb := And.intro hvc hvb
          all_goals try simp only [hvb, e49, e48, c', e14, e11, e3, e4, go_sem, V.s.injEq, Value.bool.injEq, ↓reduceIte, Nat.reduceEqDiff, Nat.reduceBEq, Nat.reduceAdd, Nat.reduceSub, Nat.reduceLT, Nat.reduceLeDiff, Int.reduceLT, Int.reduceLE, Int.reduceEq, Int.reduceToNat, List.append_assoc, List.length_append, Vm.get_app, Vm.set_app, Vm.get_appL, Vm.get_appL0, Vm.set_appL, Vm.set_appL0, Nat.le_refl, Nat.le_add_right, okAt])
        all_goals exact h0
    · rintro e H ⟨e14, e11, e3, e4, h0⟩
      have hrl := rowL_len F S K
      obtain ⟨row, hrw⟩ : ∃ row, rowL F S K = row := ⟨_, rfl⟩
      rw [hrw] at hrl hrow hwk h0
      have hsr : SR H (.ref 0 [] none 0 K K) none (row.map byteV) := .inr ⟨0, 0, K, _, by rw [List.length_map, hrl], h0, by rw [List.length_map, hrl], by rw [List.length_map, hrl]; omega, by rw [List.drop_zero, List.take_length]⟩
      have hbs : ∀ cf base, opV cf base H .b2s [.ref 0 [] none 0 K K] = some (.s (.string ⟨row.toArray⟩), H) := fun cf base => Vm.o_b2s cf base H _ none row hsr.elems
      have hW := fun b h => Weak_ok b h row (by omega)
      rw [hwk] at hW
      simp only [txt] at hW
      have hia := fun cf base => hsr.o_ias (cf := cf) (base := base) (k := .i64) (i := i0) (by rw [List.length_map, hrl]; exact hi0K)
      have hrg : row[i0]? = some (row.getD i0 0) := by rw [List.getD, List.getElem?_eq_getElem (by omega)]; rfl
      have hld := fun cf base => hsr.o_ld (cf := cf) (base := base) (i := i0) (v := byteV (row.getD i0 0)) (by rw [List.getElem?_map, hrg]; rfl) rfl
      obtain ⟨d, hd⟩ : ∃ d : UInt8, ((d.toNat : Int)) = 48 + a4 % 10 := ⟨UInt8.ofNat (48 + a4 % 10).toNat, by rw [u8n _ (by omega)]; omega⟩
      rw [← hd] at w4 w5
      have w4 : IntKind.i64.wrap (48 + a4 % 10) = (d.toNat : Int) := by rw [hd] at w4 ⊢; exact w4
      by_cases hdd : (d.toNat : Int) = ((row.getD i0 0).toNat : Int)
      · have hld2 : ∀ cf base, opV cf base H (.ld none) [eltP (.ref 0 [] none 0 K K) i0] = some (.s (.int .u8 (d.toNat : Int)), H) := fun cf base => by rw [hdd]; exact hld cf base
        have hvb : (0 : Nat) = 0 := rfl
        try simp only [e14, e11, e3, e4, hbs, hW, i1, i2, i3, t1, t2, t3, w4, w5, hia, hld2, hkn, go_sem, V.s.injEq, Value.bool.injEq, ↓reduceIte, Nat.reduceEqDiff, Nat.reduceBEq, Nat.reduceAdd, Nat.reduceSub, Nat.reduceLT, Nat.reduceLeDiff, Int.reduceLT, Int.reduceLE, Int.reduceEq, Int.reduceToNat, List.append_assoc, List.length_append, Vm.get_app, Vm.set_app, Vm.get_appL, Vm.get_appL0, Vm.set_appL, Vm.set_appL0, Nat.le_refl, Nat.le_add_right, okAt]
        repeat' (
          first | refine wpC_cases ?_ ?_ | refine wpU_casesT ?_ ?_ | refine wpU_casesF ?_ ?_
          all_goals intro hvc
          all_goals first | replace hvc := not_of_true hvc | replace hvc := not_of_false hvc | skip
          all_goals first | subst hvc | replace hvb := And.intro hvc hvb
          all_goals try simp only [hvb, e14, e11, e3, e4, hbs, hW, i1, i2, i3, t1, t2, t3, w4, w5, hia, hld2, hkn, go_sem, V.s.injEq, Value.bool.injEq, ↓reduceIte, Nat.reduceEqDiff, Nat.reduceBEq, Nat.reduceAdd, Nat.reduceSub, Nat.reduceLT, Nat.reduceLeDiff, Int.reduceLT, Int.reduceLE, Int.reduceEq, Int.reduceToNat, List.append_assoc, List.length_append, Vm.get_app, Vm.set_app, Vm.get_appL, Vm.get_appL0, Vm.set_appL, Vm.set_appL0, Nat.le_refl, Nat.le_add_right, okAt])
      · have hne : d ≠ row.getD i0 0 := fun e => hdd (by rw [e])
        have hT := weak_turn hrow hk5 hi0K hne
        have hW2 := fun b h => Weak_ok b h (row.set i0 d) (by rw [List.length_set]; omega)
        rw [hT] at hW2
        simp only [txt] at hW2
        have hst : (row.map byteV).set i0 (V.s (.int .u8 (d.toNat : Int))) = (row.set i0 d).map byteV := by rw [show V.s (.int .u8 (d.toNat : Int)) = byteV d from rfl, ← List.map_set]
        obtain ⟨z, hv, hz⟩ : ∃ z, (row.map byteV)[i0]? = some z ∧ z.ty = none := ⟨byteV (row.getD i0 0), by rw [List.getElem?_map, hrg]; rfl, rfl⟩
        have hlv' : (row.map byteV).length = K := by rw [List.length_map, hrl]
        have hgr : (decide (0 ≤ 0) || (V.s (.int .u8 (d.toNat : Int))).ground) = true := rfl
        have hnew := set_get h0 (b := .cells none ((row.set i0 d).map byteV))
        have hl2 : (row.set i0 d).length = K := by rw [List.length_set, hrl]
        have hsr2 : SR (H.set 0 (.cells none ((row.set i0 d).map byteV))) (.ref 0 [] none 0 K K) none ((row.set i0 d).map byteV) := .inr ⟨0, 0, K, _, by rw [List.length_map, hl2], hnew, by rw [List.length_map, hl2], by rw [List.length_map, hl2]; omega, by rw [List.drop_zero, List.take_length]⟩
        have hbs2 : ∀ cf base, opV cf base (H.set 0 (.cells none ((row.set i0 d).map byteV))) .b2s [.ref 0 [] none 0 K K] = some (.s (.string ⟨(row.set i0 d).toArray⟩), (H.set 0 (.cells none ((row.set i0 d).map byteV)))) := fun cf base => Vm.o_b2s cf base _ _ none (row.set i0 d) hsr2.elems
        have hia' : ∀ cf base, opV cf base H (.ias none) [.ref 0 [] none 0 K K, .s (.int .i64 i0)] = some (.ptr 0 [i0] K, H) := fun cf base => by rw [hia]; simp only [eltP, Nat.zero_add]
        have hld' : ∀ cf base, opV cf base H (.ld none) [.ptr 0 [i0] K] = some (.s (.int .u8 ((row.getD i0 0).toNat : Int)), H) := fun cf base => by
          have := hld cf base
          simpa only [eltP, Nat.zero_add, byteV] using this
        clear hia hld
        generalize (row.map byteV) = vs at h0 hst hlv' hv hsr
        have hvb : (0 : Nat) = 0 := rfl
        try simp only [e14, e11, e3, e4, hbs, hW, i1, i2, i3, t1, t2, t3, w4, w5, hia', hld', hdd, h0, hlv', hv, hst, hz, hgr, hbs2, hW2, hkn, go_sem, V.s.injEq, Value.bool.injEq, ↓reduceIte, Nat.reduceEqDiff, Nat.reduceBEq, Nat.reduceAdd, Nat.reduceSub, Nat.reduceLT, Nat.reduceLeDiff, Int.reduceLT, Int.reduceLE, Int.reduceEq, Int.reduceToNat, List.append_assoc, List.length_append, Vm.get_app, Vm.set_app, Vm.get_appL, Vm.get_appL0, Vm.set_appL, Vm.set_appL0, Nat.le_refl, Nat.le_add_right, okAt]
        repeat' (
          first | refine wpC_cases ?_ ?_ | refine wpU_casesT ?_ ?_ | refine wpU_casesF ?_ ?_
          all_goals intro hvc
          all_goals first | replace hvc := not_of_true hvc | replace hvc := not_of_false hvc | skip
          all_goals first | subst hvc | replace hvb := And.intro hvc hvb
          all_goals try simp only [hvb, e14, e11, e3, e4, hbs, hW, i1, i2, i3, t1, t2, t3, w4, w5, hia', hld', hdd, h0, hlv', hv, hst, hz, hgr, hbs2, hW2, hkn, go_sem, V.s.injEq, Value.bool.injEq, ↓reduceIte, Nat.reduceEqDiff, Nat.reduceBEq, Nat.reduceAdd, Nat.reduceSub, Nat.reduceLT, Nat.reduceLeDiff, Int.reduceLT, Int.reduceLE, Int.reduceEq, Int.reduceToNat, List.append_assoc, List.length_append, Vm.get_app, Vm.set_app, Vm.get_appL, Vm.get_appL0, Vm.set_appL, Vm.set_appL0, Nat.le_refl, Nat.le_add_right, okAt])
end Go.Proofs.Ytdhgcdkinehomaa
