/- Slots: the last of the statements' own functions. Conditions: none. -/
import Derived.Test.YteeabacgcnbnbaaCS7L
namespace Go.Proofs.Yteeabacgcnbnbaa
open Go Go.Vm Go.Proofs Go.Cl
set_option linter.unusedSimpArgs false
set_option linter.unusedVariables false

abbrev encB (z : Bs) : V := .imm false none (z.map byteV)
theorem flip_flip (L : Bs) (t : Nat) : Cl.flip (Cl.flip L t) t = L := by
  unfold Cl.flip
  by_cases h : t < L.length
  · have h1 : (L.set t (L.getD t 0 ^^^ 1)).getD t 0 = L.getD t 0 ^^^ 1 := by rw [getD_set, if_pos ⟨rfl, h⟩]
    rw [h1, List.set_set]
    have h2 : L.getD t 0 ^^^ 1 ^^^ 1 = L.getD t 0 := by rw [UInt8.xor_assoc, show (1 : UInt8) ^^^ 1 = 0 from rfl, UInt8.xor_zero]
    rw [h2, List.getD_eq_getElem?_getD, List.getElem?_eq_getElem h]
    simp
  · rw [List.set_eq_of_length_le (by simp; omega), List.set_eq_of_length_le (by omega)]
theorem flip_ne (L : Bs) (t : Nat) (h : t < L.length) : Cl.flip L t ≠ L := by
  intro he
  have h1 : (Cl.flip L t).getD t 0 = L.getD t 0 := by rw [he]
  unfold Cl.flip at h1
  rw [getD_set, if_pos ⟨rfl, h⟩] at h1
  have h2 : L.getD t 0 ^^^ (L.getD t 0 ^^^ 1) = 0 := by rw [h1, UInt8.xor_self]
  rw [← UInt8.xor_assoc, UInt8.xor_self, UInt8.zero_xor] at h2
  exact absurd h2 (by decide)

theorem SlotsTurns_run (l : List Bs) (n at_ : Int) (hl : ∀ x ∈ l, x.length ≤ 140737488351232) (hn : -9223372036854775808 ≤ n ∧ n ≤ 9223372036854775807) (ha : -9223372036854775808 ≤ at_ ∧ at_ ≤ 9223372036854775807) :
    run fns pr 0 5 [.imm false none (l.map fun z => .imm false none (z.map byteV)), .s (.int .i64 n), .s (.int .i64 at_)] [] = some (.s (.bool true), []) := by
  refine Vm.runP (nt := 146) rfl fit5 (by simp) ?_
  obtain ⟨v1, h1, e1, rfl, d1, f1⟩ := new_ok 0 []
  simp only [List.length_nil] at e1 d1
  simp only [B5, B5R0, B5L0, go_sem, ↓reduceIte, Nat.reduceEqDiff, Nat.reduceBEq, Nat.reduceAdd, Nat.reduceSub, Nat.reduceLT, Nat.reduceLeDiff, Int.reduceLT, Int.reduceLE, Int.reduceToNat, e1]
  refine wp_for (fun m e h => ∃ i : Nat, m = 10 - i ∧ i ≤ 10 ∧ i ≤ l.length ∧ e 8 = .s (.int .i64 i) ∧ e 7 = .ptr 0 [0] 1 ∧ e 0 = .imm false none (l.map fun z => .imm false none (z.map byteV)) ∧ e 1 = .s (.int .i64 n) ∧ e 2 = .s (.int .i64 at_) ∧
      ∃ D, DR h 0 D ∧ D.pend = i ∧ ∀ j, j < 10 → D.now.getD j none = if j < i then some ((l.getD j []).take 30) else none)
    (fun e h => e 7 = .ptr 0 [0] 1 ∧ e 0 = .imm false none (l.map fun z => .imm false none (z.map byteV)) ∧ e 1 = .s (.int .i64 n) ∧ e 2 = .s (.int .i64 at_) ∧
      ∃ D, DR h 0 D ∧ ∀ j, j < 10 → D.now.getD j none = if j < l.length then some ((l.getD j []).take 30) else none) 10 _ _
    ⟨0, rfl, by omega, by omega, ?_, ?_, ?_, ?_, ?_, _, d1, rfl, fun j hj => by rw [if_neg (by omega)]; simp only [Dk.new]; rw [getD_rep]⟩ ?_ ?_
  rotate_right 2
  · rintro m e h ⟨i, rfl, hi, hia, e8, e7, e0', e1', e2', D, d, hp, hD⟩
    by_cases c1 : i < l.length
    · have c1' : (i : Int) < l.length := by omega
      by_cases c2 : i < 10
      · have c2' : (i : Int) < 10 := by omega
        have hi0 : (0 : Int) ≤ i := by omega
        have hw : IntKind.i64.wrap ((i : Int) + 1) = ((i + 1 : Nat) : Int) := wrap_small (by omega)
        have hx : l[i]? = some l[i] := List.getElem?_eq_getElem c1
        have hxd : l.getD i [] = l[i] := by rw [List.getD_eq_getElem?_getD, hx]; rfl
        generalize l[i] = x at hx hxd
        have hcu := Cut_ok 0 h false x 30 (by omega)
        obtain ⟨h2, e3, d2, f2⟩ := Put_yes 0 h 0 _ (i : Int) (.imm false none ((x.take 30).map byteV)) (x.take 30) (by omega) d (BR_imm _ _ _) (by simp; omega) (by omega) hi0 c2'
        simp only [go_sem, ↓reduceIte, Nat.reduceEqDiff, Nat.reduceBEq, Nat.reduceAdd, Nat.reduceSub, Nat.reduceLT, Nat.reduceLeDiff, Int.reduceLT, Int.reduceLE, Int.reduceToNat, e8, e7, e0', e1', e2', c1', c2', hi0, hx, hcu, e3, hw]
        refine ⟨10 - (i + 1), by omega, i + 1, rfl, by omega, by omega, rfl, _, d2, by simp only [Dk.put]; omega, fun j hj => ?_⟩
        simp only [Dk.put, Int.toNat_natCast]
        rw [getD_set, d.ok.now]
        by_cases hji : i = j
        · subst hji; rw [if_pos ⟨rfl, c2⟩, if_pos (by omega), hxd]
        · rw [if_neg (fun h => hji h.1), hD j hj]
          have : j < i + 1 ↔ j < i := by omega
          simp only [this]
      · have c2' : ¬ (i : Int) < 10 := by omega
        simp only [go_sem, ↓reduceIte, Nat.reduceEqDiff, Nat.reduceBEq, Nat.reduceAdd, Nat.reduceSub, Nat.reduceLT, Nat.reduceLeDiff, Int.reduceLT, Int.reduceLE, Int.reduceToNat, e8, e7, e0', e1', e2', c1', c2']
        exact ⟨_, d, fun j hj => by rw [hD j hj, if_pos (by omega), if_pos (by omega)]⟩
    · have c1' : ¬ (i : Int) < l.length := by omega
      have : i = l.length := by omega
      subst this
      simp only [go_sem, ↓reduceIte, Nat.reduceEqDiff, Nat.reduceBEq, Nat.reduceAdd, Nat.reduceSub, Nat.reduceLT, Nat.reduceLeDiff, Int.reduceLT, Int.reduceLE, Int.reduceToNat, e8, e7, e0', e1', e2', c1']
      exact ⟨_, d, hD⟩
  · rintro e h ⟨e7, e0', e1', e2', D0, d0, hD0⟩
    obtain ⟨v2, h2, e3, rfl, d2, f2⟩ := Sync_ok 0 h 0 D0 (by omega) d0
    have hD : ∀ j, j < 10 → D0.sync.now.getD j none = if j < l.length then some ((l.getD j []).take 30) else none := hD0
    generalize D0.sync = D at *
    obtain ⟨v3, h3, e4, rfl, d3, f3⟩ := Copy_ok 0 h2 0 D (by omega) d2
    have hw0 := d2.lt
    generalize hwid : h2.length = w at *
    have D3 := d2.mono f3 (by simp)
    have hk1 := Within_ok 0 h3 n 0 9 (by omega) (by omega) (by omega) hn.1 hn.2
    have ht1 := Within_ok 0 h3 at_ 0 29 (by omega) (by omega) (by omega) ha.1 ha.2
    have k0 := within_ge (n := n) (lo := 0) (hi := 9) (by omega)
    have k9 := within_le (n := n) (lo := 0) (hi := 9) (by omega)
    have t0 := within_ge (n := at_) (lo := 0) (hi := 29) (by omega)
    obtain ⟨k, hk⟩ : ∃ k : Nat, within n 0 9 = k := ⟨(within n 0 9).toNat, by omega⟩
    obtain ⟨t, ht⟩ : ∃ t : Nat, within at_ 0 29 = t := ⟨(within at_ 0 29).toNat, by omega⟩
    rw [hk] at hk1 k9; rw [ht] at ht1
    clear hk ht k0 t0
    have hk10 : k < 10 := by omega
    have hkn : (0 : Int) ≤ k := by omega
    have htn : (0 : Int) ≤ t := by omega
    obtain ⟨v4, h4, e5, rfl, d4, f4⟩ := Turn_ok 0 h3 0 D k t (by omega) D3
    have W4 := d3.mono f4 (by simp; omega)
    have hcopy : D.copy.now = D.now := rfl
    have hlen := D3.ok.now
    -- is there such a byte?
    have hth : D.turns k t = decide (t < ((D.now.getD k none).getD []).length) := by
      rw [Bool.eq_iff_iff]; simp only [Dk.turns, Bool.and_eq_true, decide_eq_true_eq, Int.toNat_natCast]; omega
    have hcu := Cut_ok 0 h3 false (l.getD k []) 30 (by omega)
    simp only [Int.reduceToNat] at hcu
    have hlk : k < l.length → l[k]? = some (l.getD k []) := fun h => by rw [List.getD_eq_getElem?_getD, List.getElem?_eq_getElem h]; rfl
    have hDk := hD k hk10
    simp only [Int.toNat_natCast] at d4
    by_cases hthere : D.turns k t = true
    · rw [if_pos hthere] at d4
      rw [hthere] at e5
      have hlt : t < ((D.now.getD k none).getD []).length := by rw [hth] at hthere; simpa using hthere
      have ckl : k < l.length := by
        by_cases c : k < l.length
        · exact c
        · rw [hDk, if_neg c] at hlt; simp at hlt
      rw [if_pos ckl] at hDk
      have hL := hlk ckl
      have ckl' : (k : Int) < l.length := by omega
      have hL30 : (D.now.getD k none).getD [] = (l.getD k []).take 30 := by rw [hDk]; rfl
      rw [hL30] at hlt
      have hlt' : (t : Int) < ((l.getD k []).take 30).length := by omega
      have hDt : D.turn k t = { D with now := D.now.set k (some (Cl.flip ((l.getD k []).take 30) t)), lasts := D.lasts.set k (some (Cl.flip ((l.getD k []).take 30) t)) } := by
        unfold Dk.turn; rw [hL30]
      generalize hLL : (l.getD k []).take 30 = L at *
      have sd := Same_ok 0 h4 0 w _ _ d4 W4
      have hne : ((D.turn k t).now = D.copy.now) = False := by
        rw [hDt, hcopy]
        simp only [eq_iff_iff, iff_false]
        intro hq
        have : (D.now.set k (some (Cl.flip L t))).getD k none = D.now.getD k none := by rw [hq]
        rw [getD_set, if_pos ⟨rfl, by omega⟩, hDk] at this
        exact flip_ne L t hlt (Option.some.inj this)
      simp only [hne, decide_false] at sd
      simp only [go_sem, ↓reduceIte, Nat.reduceEqDiff, Nat.reduceBEq, Nat.reduceAdd, Nat.reduceSub, Nat.reduceLT, Nat.reduceLeDiff, Int.reduceLT, Int.reduceLE, Int.reduceToNat, e7, e0', e1', e2', e3, e4, hk1, ht1, ckl', hkn, hL, hcu, hlt', e5, sd]
      refine wp_for (fun m e h => ∃ i : Nat, m = 10 - i ∧ i ≤ 10 ∧ e 13 = .s (.int .i64 i) ∧ e 7 = .ptr 0 [0] 1 ∧ e 9 = .ptr w [0] 1 ∧ e 10 = .s (.int .i64 k) ∧ e 11 = .s (.int .i64 t) ∧ e 12 = .s (.bool true) ∧ h = h4)
        (fun e h => e 7 = .ptr 0 [0] 1 ∧ e 9 = .ptr w [0] 1 ∧ e 10 = .s (.int .i64 k) ∧ e 11 = .s (.int .i64 t) ∧ e 12 = .s (.bool true) ∧ h = h4) 10 _ _ ⟨0, rfl, by omega, ?_, ?_, ?_, ?_, ?_, ?_, rfl⟩ ?_ ?_
      rotate_right 2
      · rintro m e h ⟨i, rfl, hi, e13, e7, e9, e10, e11, e12, rfl⟩
        by_cases c1 : i < 10
        · have c1' : (i : Int) < 10 := by omega
          have hw : IntKind.i64.wrap ((i : Int) + 1) = ((i + 1 : Nat) : Int) := wrap_small (by omega)
          have q1 := Get_ok 0 h 0 _ i d4
          have q2 := Get_ok 0 h w _ i W4
          have hg1 : (D.turn k t).get i = (D.now.set k (some (Cl.flip L t))).getD i none := by rw [hDt]; simp [Dk.get, c1']
          have hg2 : D.copy.get i = D.now.getD i none := by simp [Dk.get, Dk.copy, c1']
          rw [hg1, getD_set] at q1; rw [hg2] at q2
          by_cases c3 : i = k
          · subst c3
            rw [if_pos ⟨rfl, by omega⟩] at q1
            rw [hDk] at q2
            have hfl : (Cl.flip L t).length = L.length := by simp [Cl.flip]
            have hx1 : (Cl.flip L t)[t]? = some (L.getD t 0 ^^^ 1) := by
              simp only [Cl.flip]; rw [List.getElem?_set_self hlt]
            have hx2 : L[t]? = some (L.getD t 0) := by rw [List.getD_eq_getElem?_getD, List.getElem?_eq_getElem hlt]; rfl
            have hx3 : xorI .u8 ((L.getD t 0 ^^^ 1 : UInt8).toNat : Int) ((L.getD t 0).toNat : Int) = 1 := by
              rw [Vm.u8_xor]
              have : L.getD t 0 ^^^ 1 ^^^ L.getD t 0 = 1 := by
                rw [UInt8.xor_comm (L.getD t 0) 1, UInt8.xor_assoc, UInt8.xor_self, UInt8.xor_zero]
              rw [this]; rfl
            simp only [go_sem, ↓reduceIte, Nat.reduceEqDiff, Nat.reduceBEq, Nat.reduceAdd, Nat.reduceSub, Nat.reduceLT, Nat.reduceLeDiff, Int.reduceLT, Int.reduceLE, Int.reduceToNat, e13, e7, e9, e10, e11, e12, c1', q1, q2, hw, hfl, hx1, hx2, htn, byteV, hx3]
            exact ⟨10 - (i + 1), by omega, i + 1, rfl, by omega, rfl⟩
          · rw [if_neg (fun h => c3 h.1.symm)] at q1
            have c3' : ¬ (i : Int) = k := by omega
            have hb2 := fun (l : Bs) cf base => o_b2s cf base h (.imm false none (l.map byteV)) none l (elems_imm h false none _)
            simp only [go_sem, ↓reduceIte, Nat.reduceEqDiff, Nat.reduceBEq, Nat.reduceAdd, Nat.reduceSub, Nat.reduceLT, Nat.reduceLeDiff, Int.reduceLT, Int.reduceLE, Int.reduceToNat, e13, e7, e9, e10, e11, e12, c1', q1, q2, hw, c3', hb2]
            exact ⟨10 - (i + 1), by omega, i + 1, rfl, by omega, rfl⟩
        · have c1' : ¬ (i : Int) < 10 := by omega
          simp only [go_sem, ↓reduceIte, Nat.reduceEqDiff, Nat.reduceBEq, Nat.reduceAdd, Nat.reduceSub, Nat.reduceLT, Nat.reduceLeDiff, Int.reduceLT, Int.reduceLE, Int.reduceToNat, e13, e7, e9, e10, e11, e12, c1']
      · rintro e h ⟨e7, e9, e10, e11, e12, rfl⟩
        obtain ⟨v5, h5, e6, rfl, d5, f5⟩ := Turn_ok 0 h 0 _ k t (by omega) d4
        have W5 := W4.mono f5 (by simp; omega)
        have hgk : ((D.turn k t).now.getD k none).getD [] = Cl.flip L t := by
          rw [hDt]; simp only; rw [getD_set, if_pos ⟨rfl, by omega⟩]; rfl
        have ht2 : (D.turn k t).turns k t = true := by
          have : (Cl.flip L t).length = L.length := by simp [Cl.flip]
          simp only [Dk.turns, Bool.and_eq_true, decide_eq_true_eq, Int.toNat_natCast, hgk]; omega
        rw [ht2] at e6
        rw [if_pos ht2] at d5
        simp only [Int.toNat_natCast] at d5
        have hback : ((D.turn k t).turn k t).now = D.now := by
          have : ((D.turn k t).turn k t).now = (D.turn k t).now.set k (some (Cl.flip (((D.turn k t).now.getD k none).getD []) t)) := rfl
          rw [this, hgk, flip_flip, hDt]
          simp only [List.set_set]
          apply List.ext_getElem?
          intro j
          rw [List.getElem?_set]
          split
          · rename_i hj; subst hj
            rw [if_pos (by omega), ← hDk, List.getD_eq_getElem?_getD, List.getElem?_eq_getElem (by omega)]; rfl
          · rfl
        have s5 := Same_ok 0 h5 0 w _ _ d5 W5
        rw [hback, hcopy] at s5
        have hkn := known7_ok 0 h5
        simp only [decide_true] at s5
        simp only [B5R2, go_sem, ↓reduceIte, Nat.reduceEqDiff, Nat.reduceBEq, Nat.reduceAdd, Nat.reduceSub, Nat.reduceLT, Nat.reduceLeDiff, Int.reduceLT, Int.reduceLE, Int.reduceToNat, e7, e9, e10, e11, e12, e6, s5, hkn]
      all_goals simp only [go_sem, ↓reduceIte, Nat.reduceEqDiff, Nat.reduceBEq, Nat.reduceAdd, Nat.reduceSub, Nat.reduceLT, Nat.reduceLeDiff, Int.reduceLT, Int.reduceLE, Int.reduceToNat, e7]
      rfl
    · rw [if_neg hthere] at d4
      simp only [Bool.not_eq_true] at hthere
      rw [hthere] at e5
      have sd := Same_ok 0 h4 0 w _ _ d4 W4
      rw [hcopy] at sd
      simp only [decide_true] at sd
      have hlt : ¬ t < ((D.now.getD k none).getD []).length := by rw [hth] at hthere; simpa using hthere
      have fin : ∀ (e : Env), e 13 = .s (.int .i64 (0 : Nat)) → e 7 = .ptr 0 [0] 1 → e 9 = .ptr w [0] 1 → e 10 = .s (.int .i64 k) → e 11 = .s (.int .i64 t) → e 12 = .s (.bool false) → ∀ K : Post,
          (∀ e h, e 7 = .ptr 0 [0] 1 ∧ e 9 = .ptr w [0] 1 ∧ e 10 = .s (.int .i64 k) ∧ e 11 = .s (.int .i64 t) ∧ e 12 = .s (.bool false) ∧ h = h4 → K .normal e h) →
          wp (run fns pr 0) 0 B5L2 e h4 (blockK 2 K) := by
        intro e e13 e7 e9 e10 e11 e12 K hK
        refine wp_for (fun m e h => ∃ i : Nat, m = 10 - i ∧ i ≤ 10 ∧ e 13 = .s (.int .i64 i) ∧ e 7 = .ptr 0 [0] 1 ∧ e 9 = .ptr w [0] 1 ∧ e 10 = .s (.int .i64 k) ∧ e 11 = .s (.int .i64 t) ∧ e 12 = .s (.bool false) ∧ h = h4)
          (fun e h => e 7 = .ptr 0 [0] 1 ∧ e 9 = .ptr w [0] 1 ∧ e 10 = .s (.int .i64 k) ∧ e 11 = .s (.int .i64 t) ∧ e 12 = .s (.bool false) ∧ h = h4) 10 _ _ ⟨0, rfl, by omega, e13, e7, e9, e10, e11, e12, rfl⟩ ?_ hK
        rintro m e h ⟨i, rfl, hi, e13, e7, e9, e10, e11, e12, rfl⟩
        by_cases c1 : i < 10
        · have c1' : (i : Int) < 10 := by omega
          have hw : IntKind.i64.wrap ((i : Int) + 1) = ((i + 1 : Nat) : Int) := wrap_small (by omega)
          have q1 := Get_ok 0 h 0 _ i d4
          have q2 := Get_ok 0 h w _ i W4
          have hg2 : D.copy.get i = D.get i := by simp [Dk.get, Dk.copy]
          rw [hg2] at q2
          have hb2 := fun (l : Bs) cf base => o_b2s cf base h (.imm false none (l.map byteV)) none l (elems_imm h false none _)
          by_cases c3 : (i : Int) = k
          · have c3' : i = k := by omega
            subst c3'
            simp only [go_sem, ↓reduceIte, Nat.reduceEqDiff, Nat.reduceBEq, Nat.reduceAdd, Nat.reduceSub, Nat.reduceLT, Nat.reduceLeDiff, Int.reduceLT, Int.reduceLE, Int.reduceToNat, e13, e7, e9, e10, e11, e12, c1', q1, q2, hw]
            exact ⟨10 - (i + 1), by omega, i + 1, rfl, by omega, rfl⟩
          · simp only [go_sem, ↓reduceIte, Nat.reduceEqDiff, Nat.reduceBEq, Nat.reduceAdd, Nat.reduceSub, Nat.reduceLT, Nat.reduceLeDiff, Int.reduceLT, Int.reduceLE, Int.reduceToNat, e13, e7, e9, e10, e11, e12, c1', q1, q2, hw, c3, hb2]
            exact ⟨10 - (i + 1), by omega, i + 1, rfl, by omega, rfl⟩
        · have c1' : ¬ (i : Int) < 10 := by omega
          simp only [go_sem, ↓reduceIte, Nat.reduceEqDiff, Nat.reduceBEq, Nat.reduceAdd, Nat.reduceSub, Nat.reduceLT, Nat.reduceLeDiff, Int.reduceLT, Int.reduceLE, Int.reduceToNat, e13, e7, e9, e10, e11, e12, c1']
      have rest : ∀ e h, e 7 = .ptr 0 [0] 1 ∧ e 9 = .ptr w [0] 1 ∧ e 10 = .s (.int .i64 k) ∧ e 11 = .s (.int .i64 t) ∧ e 12 = .s (.bool false) ∧ h = h4 →
          seqK (run fns pr 0) 0 B5R2 (retP [.t 6] 0 (.s (.bool true), [])) .normal e h := by
        rintro e h ⟨e7, e9, e10, e11, e12, rfl⟩
        obtain ⟨v5, h5, e6, rfl, d5, f5⟩ := Turn_ok 0 h 0 _ k t (by omega) d4
        have W5 := W4.mono f5 (by simp; omega)
        rw [hthere] at e6
        rw [if_neg (by rw [hthere]; simp)] at d5
        have s5 := Same_ok 0 h5 0 w _ _ d5 W5
        rw [hcopy] at s5
        have hkn := known7_ok 0 h5
        simp only [decide_true] at s5
        simp only [B5R2, go_sem, ↓reduceIte, Nat.reduceEqDiff, Nat.reduceBEq, Nat.reduceAdd, Nat.reduceSub, Nat.reduceLT, Nat.reduceLeDiff, Int.reduceLT, Int.reduceLE, Int.reduceToNat, e7, e9, e10, e11, e12, e6, s5, hkn]
      by_cases ckl : k < l.length
      · have hL := hlk ckl
        have ckl' : (k : Int) < l.length := by omega
        rw [if_pos ckl] at hDk
        have hL30 : (D.now.getD k none).getD [] = (l.getD k []).take 30 := by rw [hDk]; rfl
        rw [hL30] at hlt
        generalize hLL : (l.getD k []).take 30 = L at *
        have hlt' : ¬ (t : Int) < L.length := by omega
        simp only [go_sem, ↓reduceIte, Nat.reduceEqDiff, Nat.reduceBEq, Nat.reduceAdd, Nat.reduceSub, Nat.reduceLT, Nat.reduceLeDiff, Int.reduceLT, Int.reduceLE, Int.reduceToNat, e7, e0', e1', e2', e3, e4, hk1, ht1, ckl', hkn, hL, hcu, hlt', e5, sd]
        refine fin _ ?_ ?_ ?_ ?_ ?_ ?_ _ rest
        all_goals simp only [go_sem, ↓reduceIte, Nat.reduceEqDiff, Nat.reduceBEq, Nat.reduceAdd, Nat.reduceSub, Nat.reduceLT, Nat.reduceLeDiff, Int.reduceLT, Int.reduceLE, Int.reduceToNat, e7]
        rfl
      · have ckl' : ¬ (k : Int) < l.length := by omega
        simp only [go_sem, ↓reduceIte, Nat.reduceEqDiff, Nat.reduceBEq, Nat.reduceAdd, Nat.reduceSub, Nat.reduceLT, Nat.reduceLeDiff, Int.reduceLT, Int.reduceLE, Int.reduceToNat, e7, e0', e1', e2', e3, e4, hk1, ht1, ckl', hkn, e5, sd]
        refine fin _ ?_ ?_ ?_ ?_ ?_ ?_ _ rest
        all_goals simp only [go_sem, ↓reduceIte, Nat.reduceEqDiff, Nat.reduceBEq, Nat.reduceAdd, Nat.reduceSub, Nat.reduceLT, Nat.reduceLeDiff, Int.reduceLT, Int.reduceLE, Int.reduceToNat, e7]
        rfl
  all_goals simp only [go_sem, ↓reduceIte, Nat.reduceEqDiff, Nat.reduceBEq, Nat.reduceAdd, Nat.reduceSub, Nat.reduceLT, Nat.reduceLeDiff, Int.reduceLT, Int.reduceLE, Int.reduceToNat]
  rfl
end Go.Proofs.Yteeabacgcnbnbaa
