/- PostFull: its run. Conditions: none. -/
import Derived.Test.YteeabacgcnbnbaaCS21L
namespace Go.Proofs.Yteeabacgcnbnbaa
open Go Go.Vm Go.Proofs Go.Cl
set_option linter.unusedSimpArgs false
set_option linter.unusedVariables false

def Loose (O : List It) : Prop := ∀ x ∈ O, x.2 = false ∧ x.1.bytes.length ≤ 8192
theorem Loose.snoc {O : List It} (h : Loose O) (l : Letter) (hl : l.bytes.length ≤ 8192) : Loose (O ++ [(l, false)]) := by
  intro x hx
  rcases List.mem_append.1 hx with h' | h'
  · exact h x h'
  · simp at h'; subst h'; exact ⟨rfl, hl⟩
theorem Loose.erase {O : List It} (h : Loose O) (i : Nat) : Loose (O.eraseIdx i) := fun x hx => h x (List.mem_of_mem_eraseIdx hx)
theorem Loose.takes {O : List It} (h : Loose O) : takes O 0 = decide (0 < O.length) := by
  cases O with
  | nil => rfl
  | cons x O => have := (h x List.mem_cons_self).1; simp [Proofs.Yteeabacgcnbnbaa.takes, heldAt, this]
theorem Loose.puts {O : List It} (h : Loose O) (h0 : 0 < O.length) : puts O (O.getD 0 default).1 = decide (O.length < 64) := by
  cases O with
  | nil => simp at h0
  | cons x O => have := (h x List.mem_cons_self).2; simp [Proofs.Yteeabacgcnbnbaa.puts, this]

theorem d00 : decide ((0 : Int) = 0) = true := (rfl)
theorem d01 : decide ((0 : Int) = 1) = false := (rfl)
theorem d10 : decide ((1 : Int) = 0) = false := (rfl)
theorem d11 : decide ((1 : Int) = 1) = true := (rfl)
theorem PostFull_run (l : List Bool) (hl : l.length ≤ 140737488351232) :
    run fns pr 0 7 [.imm false none (l.map fun z => .s (.bool z))] [] = some (.s (.bool true), []) := by
  refine Vm.runP (nt := 95) rfl fit7 (by simp) ?_
  obtain ⟨v1, h1, e1, rfl, o1, f1⟩ := PNew_ok 0 []
  simp only [List.length_nil] at e1 o1
  simp only [B7, B7R0, B7L0, go_sem, ↓reduceIte, Nat.reduceEqDiff, Nat.reduceBEq, Nat.reduceAdd, Nat.reduceSub, Nat.reduceLT, Nat.reduceLeDiff, Int.reduceLT, Int.reduceLE, Int.reduceToNat, e1]
  refine wp_for (fun m e h => ∃ i : Nat, m = 60 - i ∧ i ≤ 60 ∧ e 5 = .s (.int .i64 i) ∧ e 4 = .s (.int .i64 i) ∧ e 3 = .ptr 0 [0] 1 ∧ e 0 = .imm false none (l.map fun z => .s (.bool z)) ∧
      ∃ k O, OR h 0 k O ∧ Loose O ∧ O.length = i)
    (fun e h => e 4 = .s (.int .i64 60) ∧ e 3 = .ptr 0 [0] 1 ∧ e 0 = .imm false none (l.map fun z => .s (.bool z)) ∧
      ∃ k O, OR h 0 k O ∧ Loose O ∧ O.length = 60) 60 _ _ ⟨0, rfl, by omega, ?_, ?_, ?_, ?_, _, _, o1, (fun x hx => by cases hx), rfl⟩ ?_ ?_
  rotate_right 2
  · rintro m e h ⟨i, rfl, hi, e5, e4, e3, e0', k, O, o, hf, hO⟩
    by_cases c1 : i < 60
    · have c1' : (i : Int) < 60 := by omega
      have hw : IntKind.i64.wrap ((i : Int) + 1) = ((i + 1 : Nat) : Int) := wrap_small (by omega)
      obtain ⟨h2, k', e2, hk, hbk, o2, f2⟩ := PPut_yes 0 h 0 k O ⟨0, 0, i, []⟩ (by omega) (by omega) o (by simp) (by omega)
      simp only [Letter.enc, go_sem, ↓reduceIte, Nat.reduceEqDiff, Nat.reduceBEq, Nat.reduceAdd, Nat.reduceSub, Nat.reduceLT, Nat.reduceLeDiff, Int.reduceLT, Int.reduceLE, Int.reduceToNat] at e2
      simp only [go_sem, ↓reduceIte, Nat.reduceEqDiff, Nat.reduceBEq, Nat.reduceAdd, Nat.reduceSub, Nat.reduceLT, Nat.reduceLeDiff, Int.reduceLT, Int.reduceLE, Int.reduceToNat, e5, e4, e3, e0', c1', e2, hw]
      exact ⟨60 - (i + 1), by omega, i + 1, rfl, by omega, rfl, rfl, _, _, o2, hf.snoc _ (by simp), by simp [hO]⟩
    · have c1' : ¬ (i : Int) < 60 := by omega
      obtain rfl : i = 60 := by omega
      simp only [go_sem, ↓reduceIte, Nat.reduceEqDiff, Nat.reduceBEq, Nat.reduceAdd, Nat.reduceSub, Nat.reduceLT, Nat.reduceLeDiff, Int.reduceLT, Int.reduceLE, Int.reduceToNat, e5, e4, e3, e0', c1']
      refine ⟨rfl, ?_⟩
      exact ⟨_, O, o, hf, hO⟩
  · rintro e h ⟨e4, e3, e0', k, O, o, hf, hO⟩
    simp only [go_sem, ↓reduceIte, Nat.reduceEqDiff, Nat.reduceBEq, Nat.reduceAdd, Nat.reduceSub, Nat.reduceLT, Nat.reduceLeDiff, Int.reduceLT, Int.reduceLE, Int.reduceToNat, e4, e3, e0']
    refine wp_for (fun m e h => ∃ i n : Nat, m = 60 - i ∧ i ≤ 60 ∧ i ≤ l.length ∧ n ≤ 64 ∧ e 6 = .s (.int .i64 i) ∧ e 4 = .s (.int .i64 n) ∧ e 3 = .ptr 0 [0] 1 ∧ e 0 = .imm false none (l.map fun z => .s (.bool z)) ∧
        ∃ k O, OR h 0 k O ∧ Loose O ∧ O.length = n)
      (fun e h => True) 60 _ _ ⟨0, 60, rfl, by omega, by omega, by omega, ?_, ?_, ?_, ?_, k, O, o, hf, hO⟩ ?_ ?_
    rotate_right 2
    · rintro m e h ⟨i, n, rfl, hi, hil, hn, e6, e4, e3, e0', k, O, o, hf, rfl⟩
      by_cases c1 : i < l.length
      · have c1' : (i : Int) < l.length := by omega
        by_cases c2 : i < 60
        · have c2' : (i : Int) < 60 := by omega
          have hi0 : (0 : Int) ≤ i := by omega
          have hw : IntKind.i64.wrap ((i : Int) + 1) = ((i + 1 : Nat) : Int) := wrap_small (by omega)
          have hwn : IntKind.i64.wrap ((O.length : Int) + 1) = ((O.length + 1 : Nat) : Int) := wrap_small (by omega)
          have hx : l[i]? = some l[i] := List.getElem?_eq_getElem c1
          generalize l[i] = x at hx
          have hr := fun h => o_rem (run fns pr 0) 0 h .i64 i 2 (by decide)
          have ht2 : (i : Int).tmod 2 = ((i % 2 : Nat) : Int) := by rw [Int.tmod_eq_emod_of_nonneg hi0]; omega
          cases x with
          | true =>
            by_cases cp : i % 2 = 0
            · have cp0 : ((i % 2 : Nat) : Int) = 0 := by omega
              by_cases cn : O.length < 64
              · have cn' : (O.length : Int) < 64 := by omega
                obtain ⟨h2, k', e2, hk, hbk, o2, f2⟩ := PPut_yes 0 h 0 k O ⟨0, 0, i, []⟩ (by omega) (by omega) o (by simp) cn
                simp only [Letter.enc, go_sem, ↓reduceIte, Nat.reduceEqDiff, Nat.reduceBEq, Nat.reduceAdd, Nat.reduceSub, Nat.reduceLT, Nat.reduceLeDiff, Int.reduceLT, Int.reduceLE, Int.reduceToNat] at e2
                have hle := Len_ok 0 h2 0 k' _ o2
                simp only [List.length_append, List.length_cons, List.length_nil, Nat.zero_add] at hle
                have g1 : ¬ ((O.length + 1 : Nat) : Int) > 64 := by omega
                simp only [go_sem, ↓reduceIte, Nat.reduceEqDiff, Nat.reduceBEq, Nat.reduceAdd, Nat.reduceSub, Nat.reduceLT, Nat.reduceLeDiff, Int.reduceLT, Int.reduceLE, Int.reduceToNat, e6, e4, e3, e0', B7J0, c1', c2', hi0, hx, hr, ht2, cp0, d00, d01, d10, d11, cn', e2, hwn, hle, g1, hw]
                exact ⟨60 - (i + 1), by omega, i + 1, _, rfl, by omega, by omega, by omega, rfl, rfl, _, _, o2, hf.snoc _ (by simp), by simp⟩
              · have cn' : ¬ (O.length : Int) < 64 := by omega
                obtain ⟨h2, k', e2, hk, hbk, o2, f2⟩ := PPut_no 0 h 0 k O ⟨0, 0, i, []⟩ (by omega) (by omega) o (by simp) (by simp [puts, cn])
                simp only [Letter.enc, go_sem, ↓reduceIte, Nat.reduceEqDiff, Nat.reduceBEq, Nat.reduceAdd, Nat.reduceSub, Nat.reduceLT, Nat.reduceLeDiff, Int.reduceLT, Int.reduceLE, Int.reduceToNat] at e2
                have hle := Len_ok 0 h2 0 k' _ o2
                have g1 : ¬ (O.length : Int) > 64 := by omega
                simp only [go_sem, ↓reduceIte, Nat.reduceEqDiff, Nat.reduceBEq, Nat.reduceAdd, Nat.reduceSub, Nat.reduceLT, Nat.reduceLeDiff, Int.reduceLT, Int.reduceLE, Int.reduceToNat, e6, e4, e3, e0', B7J0, c1', c2', hi0, hx, hr, ht2, cp0, d00, d01, d10, d11, cn', e2, hwn, hle, g1, hw]
                exact ⟨60 - (i + 1), by omega, i + 1, _, rfl, by omega, by omega, by omega, rfl, rfl, _, _, o2, hf, rfl⟩
            · have cp0 : ((i % 2 : Nat) : Int) = 1 := by omega
              by_cases cz : 0 < O.length
              · have cz' : (O.length : Int) > 0 := by omega
                obtain ⟨v2, h2, e2, rfl, k', hk, o2, f2⟩ := Double_ok 0 h 0 k O 0 (by omega) (by omega) o
                have hpu := hf.puts cz
                have hcond : (decide ((0 : Int) ≤ 0) && decide ((0 : Int) < O.length) && puts O (O.getD (Int.toNat 0) default).1) = decide (O.length < 64) := by
                  simp only [Int.toNat_zero, hpu]; simp; omega
                rw [hcond] at e2 o2
                have hle := Len_ok 0 h2 0 k' _ o2
                by_cases cn : O.length < 64
                · have cn' : (O.length : Int) < 64 := by omega
                  simp only [cn, decide_true, if_true] at e2 o2 hle
                  simp only [List.length_append, List.length_cons, List.length_nil, Nat.zero_add] at hle
                  have g1 : ¬ ((O.length + 1 : Nat) : Int) > 64 := by omega
                  simp only [go_sem, ↓reduceIte, Nat.reduceEqDiff, Nat.reduceBEq, Nat.reduceAdd, Nat.reduceSub, Nat.reduceLT, Nat.reduceLeDiff, Int.reduceLT, Int.reduceLE, Int.reduceToNat, e6, e4, e3, e0', B7J0, c1', c2', hi0, hx, hr, ht2, cp0, d00, d01, d10, d11, cn', cz', e2, hwn, hle, g1, hw]
                  exact ⟨60 - (i + 1), by omega, i + 1, _, rfl, by omega, by omega, by omega, rfl, rfl, _, _, o2, hf.snoc _ (by
                    cases O with
                    | nil => simp at cz
                    | cons x O => exact (hf x List.mem_cons_self).2), by simp⟩
                · have cn' : ¬ (O.length : Int) < 64 := by omega
                  simp only [cn, decide_false, Bool.false_eq_true, if_false] at e2 o2 hle
                  have g1 : ¬ (O.length : Int) > 64 := by omega
                  simp only [go_sem, ↓reduceIte, Nat.reduceEqDiff, Nat.reduceBEq, Nat.reduceAdd, Nat.reduceSub, Nat.reduceLT, Nat.reduceLeDiff, Int.reduceLT, Int.reduceLE, Int.reduceToNat, e6, e4, e3, e0', B7J0, c1', c2', hi0, hx, hr, ht2, cp0, d00, d01, d10, d11, cn', cz', e2, hwn, hle, g1, hw]
                  exact ⟨60 - (i + 1), by omega, i + 1, _, rfl, by omega, by omega, by omega, rfl, rfl, _, _, o2, hf, rfl⟩
              · have cz' : ¬ (O.length : Int) > 0 := by omega
                obtain ⟨v2, h2, e2, rfl, k', hk, o2, f2⟩ := Double_ok 0 h 0 k O 0 (by omega) (by omega) o
                have hcond : (decide ((0 : Int) ≤ 0) && decide ((0 : Int) < O.length) && puts O (O.getD (Int.toNat 0) default).1) = false := by
                  simp; omega
                rw [hcond] at e2 o2
                simp only [Bool.false_eq_true, if_false] at o2
                have cn' : (O.length : Int) < 64 := by omega
                have hle := Len_ok 0 h2 0 k' _ o2
                have g1 : ¬ (O.length : Int) > 64 := by omega
                simp only [go_sem, ↓reduceIte, Nat.reduceEqDiff, Nat.reduceBEq, Nat.reduceAdd, Nat.reduceSub, Nat.reduceLT, Nat.reduceLeDiff, Int.reduceLT, Int.reduceLE, Int.reduceToNat, e6, e4, e3, e0', B7J0, c1', c2', hi0, hx, hr, ht2, cp0, d00, d01, d10, d11, cn', cz', e2, hwn, hle, g1, hw]
                exact ⟨60 - (i + 1), by omega, i + 1, _, rfl, by omega, by omega, by omega, rfl, rfl, _, _, o2, hf, rfl⟩
          | false =>
            obtain ⟨v2, h2, e2, rfl, o2, f2⟩ := Take_ok 0 h 0 k O 0 (by omega) (by omega) o (by omega)
            rw [hf.takes] at e2 o2
            by_cases cz : 0 < O.length
            · have cz' : (O.length : Int) > 0 := by omega
              simp only [cz, decide_true, if_true, Int.toNat_zero] at e2 o2
              generalize (O.getD 0 default).1 = y at e2
              let Y : Blk := .cells (some 46) [y.enc]
              have o3 := o2.mono (Fw.app [] h2 [Y]) (by simp) (by simp)
              have hle := Len_ok 0 (h2 ++ [Y]) 0 k _ o3
              have hll : (O.eraseIdx 0).length = O.length - 1 := by rw [List.length_eraseIdx, if_pos cz]
              have hwm : IntKind.i64.wrap ((O.length : Int) - 1) = ((O.length - 1 : Nat) : Int) := by rw [show (O.length : Int) - 1 = ((O.length - 1 : Nat) : Int) by omega, wrap_i64 (by omega) (by omega)]
              rw [hll] at hle
              have g1 : ¬ ((O.length - 1 : Nat) : Int) > 64 := by omega
              have q1 := Letter.enc_ty y
              have q2 := Letter.enc_solid y
              simp only [Y] at hle
              simp only [go_sem, ↓reduceIte, Nat.reduceEqDiff, Nat.reduceBEq, Nat.reduceAdd, Nat.reduceSub, Nat.reduceLT, Nat.reduceLeDiff, Int.reduceLT, Int.reduceLE, Int.reduceToNat, List.append_assoc, List.length_append, Vm.get_app, Vm.set_app, Vm.get_appL, Vm.get_appL0, Vm.set_appL, Vm.set_appL0, Nat.le_refl, Nat.le_add_right, e6, e4, e3, e0', B7J0, c1', c2', hi0, hx, cz', e2, hwm, hle, g1, hw, q1, q2, Nat.zero_le]
              exact ⟨60 - (i + 1), by omega, i + 1, _, rfl, by omega, by omega, by omega, rfl, rfl, _, _, o3, hf.erase 0, hll⟩
            · have cz' : ¬ (O.length : Int) > 0 := by omega
              simp only [cz, decide_false, Bool.false_eq_true, if_false] at e2 o2
              let Y : Blk := .cells (some 46) [(⟨0, 0, 0, []⟩ : Letter).enc]
              have o3 := o2.mono (Fw.app [] h2 [Y]) (by simp) (by simp)
              have hle := Len_ok 0 (h2 ++ [Y]) 0 k _ o3
              have g1 : ¬ (O.length : Int) > 64 := by omega
              have q1 := Letter.enc_ty ⟨0, 0, 0, []⟩
              have q2 := Letter.enc_solid ⟨0, 0, 0, []⟩
              simp only [Y] at hle
              simp only [go_sem, ↓reduceIte, Nat.reduceEqDiff, Nat.reduceBEq, Nat.reduceAdd, Nat.reduceSub, Nat.reduceLT, Nat.reduceLeDiff, Int.reduceLT, Int.reduceLE, Int.reduceToNat, List.append_assoc, List.length_append, Vm.get_app, Vm.set_app, Vm.get_appL, Vm.get_appL0, Vm.set_appL, Vm.set_appL0, Nat.le_refl, Nat.le_add_right, e6, e4, e3, e0', B7J0, c1', c2', hi0, hx, cz', e2, hle, g1, hw, q1, q2, Nat.zero_le]
              exact ⟨60 - (i + 1), by omega, i + 1, _, rfl, by omega, by omega, by omega, rfl, rfl, _, _, o3, hf, rfl⟩
        · have c2' : ¬ (i : Int) < 60 := by omega
          simp only [go_sem, ↓reduceIte, Nat.reduceEqDiff, Nat.reduceBEq, Nat.reduceAdd, Nat.reduceSub, Nat.reduceLT, Nat.reduceLeDiff, Int.reduceLT, Int.reduceLE, Int.reduceToNat, e6, e4, e3, e0', c1', c2']
      · have c1' : ¬ (i : Int) < l.length := by omega
        simp only [go_sem, ↓reduceIte, Nat.reduceEqDiff, Nat.reduceBEq, Nat.reduceAdd, Nat.reduceSub, Nat.reduceLT, Nat.reduceLeDiff, Int.reduceLT, Int.reduceLE, Int.reduceToNat, e6, e4, e3, e0', c1']
    · rintro e h -
      simp only [B7R2, go_sem, ↓reduceIte, Nat.reduceEqDiff, Nat.reduceBEq, Nat.reduceAdd, Nat.reduceSub, Nat.reduceLT, Nat.reduceLeDiff, Int.reduceLT, Int.reduceLE, Int.reduceToNat, known21_ok]
    all_goals simp only [go_sem, ↓reduceIte, Nat.reduceEqDiff, Nat.reduceBEq, Nat.reduceAdd, Nat.reduceSub, Nat.reduceLT, Nat.reduceLeDiff, Int.reduceLT, Int.reduceLE, Int.reduceToNat, e4, e3, e0']
    all_goals rfl
  all_goals simp only [go_sem, ↓reduceIte, Nat.reduceEqDiff, Nat.reduceBEq, Nat.reduceAdd, Nat.reduceSub, Nat.reduceLT, Nat.reduceLeDiff, Int.reduceLT, Int.reduceLE, Int.reduceToNat]
  all_goals rfl
end Go.Proofs.Yteeabacgcnbnbaa
