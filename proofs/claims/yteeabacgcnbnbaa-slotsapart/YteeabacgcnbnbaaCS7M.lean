/- Slots: two more of the statements' own functions. Conditions: none. -/
import Derived.Test.YteeabacgcnbnbaaCS7L
namespace Go.Proofs.Yteeabacgcnbnbaa
open Go Go.Vm Go.Proofs Go.Cl
set_option linter.unusedSimpArgs false
set_option linter.unusedVariables false

theorem SlotsApart_run (a b : List Ask7) (ha : ∀ x ∈ a, x.wf) (hb : ∀ x ∈ b, x.wf) (hal : a.length ≤ 140737488351232) (hbl : b.length ≤ 140737488351232) :
    run fns pr 0 4 [.imm false (some 28) (a.map Ask7.enc), .imm false (some 28) (b.map Ask7.enc)] [] = some (.s (.bool true), []) := by
  refine Vm.runP (nt := 111) rfl fit4 (by simp) ?_
  obtain ⟨v1, h1, e1, rfl, d1, f1⟩ := new_ok 0 []
  simp only [List.length_nil] at e1 d1
  simp only [B4, B4R0, B4R2, B4L2, B4L0, go_sem, ↓reduceIte, Nat.reduceEqDiff, Nat.reduceBEq, Nat.reduceAdd, Nat.reduceSub, Nat.reduceLT, Nat.reduceLeDiff, Int.reduceLT, Int.reduceLE, Int.reduceToNat, e1]
  refine wp_for (fun n e h => ∃ i : Nat, n = 20 - i ∧ i ≤ 20 ∧ i ≤ a.length ∧ e 6 = .s (.int .i64 i) ∧ e 5 = .ptr 0 [0] 1 ∧ e 0 = .imm false (some 28) (a.map Ask7.enc) ∧ e 1 = .imm false (some 28) (b.map Ask7.enc) ∧
    DR h 0 (putAll (a.take i) Dk.new))
    (fun e h => e 5 = .ptr 0 [0] 1 ∧ e 1 = .imm false (some 28) (b.map Ask7.enc) ∧ ∃ D, DR h 0 D ∧ D.pend ≤ 20) 20 _ _ ⟨0, rfl, by omega, by omega, ?_, ?_, ?_, ?_, d1⟩ ?_ ?_
  rotate_right 2
  · rintro n e h ⟨i, rfl, hi, hia, e6, e5, e0', e1', d⟩
    have hp := (putAll_lasts (a.take i) Dk.new).2
    rw [List.length_take] at hp
    have hp' : (putAll (a.take i) Dk.new).pend ≤ 20 := by rw [hp]; simp [Dk.new]; omega
    by_cases c1 : i < a.length
    · have c1' : (i : Int) < a.length := by omega
      by_cases c2 : i < 20
      · have c2' : (i : Int) < 20 := by omega
        have hi0 : (0 : Int) ≤ i := by omega
        have hw : IntKind.i64.wrap ((i : Int) + 1) = ((i + 1 : Nat) : Int) := wrap_small (by omega)
        have hx : a[i]? = some a[i] := List.getElem?_eq_getElem c1
        generalize a[i] = x at hx
        have hxw := ha x (List.mem_of_getElem? hx)
        have hwi := Within_ok 0 h x.n 0 9 (by omega) (by omega) (by omega) hxw.n.1 hxw.n.2
        have hcu := Cut_ok 0 h false x.b 20 (by omega)
        have g0 := within_ge (n := x.n) (lo := 0) (hi := 9) (by omega)
        have g1 := within_le (n := x.n) (lo := 0) (hi := 9) (by omega)
        obtain ⟨h2, e3, d2, f2⟩ := Put_yes 0 h 0 _ (within x.n 0 9) (.imm false none ((x.b.take 20).map byteV)) (x.b.take 20) (by omega) d (BR_imm _ _ _) (by simp; omega) (by omega) g0 (by omega)
        simp only [go_sem, ↓reduceIte, Nat.reduceEqDiff, Nat.reduceBEq, Nat.reduceAdd, Nat.reduceSub, Nat.reduceLT, Nat.reduceLeDiff, Int.reduceLT, Int.reduceLE, Int.reduceToNat, e6, e5, e0', e1', c1', c2', hi0, hx, Ask7.enc, hwi, hcu, e3, hw]
        refine ⟨20 - (i + 1), by omega, i + 1, rfl, by omega, by omega, rfl, ?_⟩
        rw [take_snoc hx, putAll_snoc]; exact d2
      · have c2' : ¬ (i : Int) < 20 := by omega
        simp only [go_sem, ↓reduceIte, Nat.reduceEqDiff, Nat.reduceBEq, Nat.reduceAdd, Nat.reduceSub, Nat.reduceLT, Nat.reduceLeDiff, Int.reduceLT, Int.reduceLE, Int.reduceToNat, e6, e5, e0', e1', c1', c2']
        exact ⟨_, d, hp'⟩
    · have c1' : ¬ (i : Int) < a.length := by omega
      simp only [go_sem, ↓reduceIte, Nat.reduceEqDiff, Nat.reduceBEq, Nat.reduceAdd, Nat.reduceSub, Nat.reduceLT, Nat.reduceLeDiff, Int.reduceLT, Int.reduceLE, Int.reduceToNat, e6, e5, e0', e1', c1']
      exact ⟨_, d, hp'⟩
  · rintro e h ⟨e5, e1', D, d, hp⟩
    obtain ⟨v2, h2, e3, rfl, d2, f2⟩ := Copy_ok 0 h 0 D (by omega) d
    obtain ⟨v3, h3, e4, rfl, d3, f3⟩ := Copy_ok 0 h2 0 D (by omega) (d.mono f2 (by simp))
    have hc := d2.lt
    have hd0 := d.lt
    generalize hcid : h.length = c at *
    generalize heid : h2.length = q at *
    have D3 := (d.mono f2 (by simp)).mono f3 (by simp)
    have C3 := d2.mono f3 (by simp)
    have s1 := Same_ok 0 h3 c 0 _ _ C3 D3
    obtain ⟨v4, h4, e5', rfl, d4, f4⟩ := Crash_ok 0 h3 c _ 0 (by omega) C3
    have E4 := d3.mono f4 (by simp; omega)
    have D4 := D3.mono f4 (by simp; omega)
    have s2 := Same_ok 0 h4 c q _ _ d4 E4
    have q1 : (D.copy.now = D.now) = True := by simp [Dk.copy]
    have q2 : ((D.copy.crash 0).now = D.copy.now) = True := by simp [Dk.copy, Dk.crash, Dk.torn]
    simp only [q1, q2, decide_true] at s1 s2
    simp only [go_sem, ↓reduceIte, Nat.reduceEqDiff, Nat.reduceBEq, Nat.reduceAdd, Nat.reduceSub, Nat.reduceLT, Nat.reduceLeDiff, Int.reduceLT, Int.reduceLE, Int.reduceToNat, e5, e1', e3, e4, s1, e5', s2]
    refine wp_for (fun n e h => ∃ i : Nat, n = 20 - i ∧ i ≤ 20 ∧ i ≤ b.length ∧ e 9 = .s (.int .i64 i) ∧ e 5 = .ptr 0 [0] 1 ∧ e 7 = .ptr c [0] 1 ∧ e 8 = .ptr q [0] 1 ∧ e 1 = .imm false (some 28) (b.map Ask7.enc) ∧
      DR h c (D.copy.crash 0) ∧ DR h q D.copy ∧ ∃ E, DR h 0 E ∧ E.pend ≤ 20 + i)
      (fun e h => e 5 = .ptr 0 [0] 1 ∧ e 7 = .ptr c [0] 1 ∧ e 8 = .ptr q [0] 1 ∧ DR h c (D.copy.crash 0) ∧ DR h q D.copy ∧ ∃ E, DR h 0 E) 20 _ _
      ⟨0, rfl, by omega, by omega, ?_, ?_, ?_, ?_, ?_, d4, E4, D, D4, by omega⟩ ?_ ?_
    rotate_right 2
    · rintro n e h ⟨i, rfl, hi, hia, e9, e5, e7, e8, e1', dc, dq, E, d, hE⟩
      by_cases c1 : i < b.length
      · have c1' : (i : Int) < b.length := by omega
        by_cases c2 : i < 20
        · have c2' : (i : Int) < 20 := by omega
          have hi0 : (0 : Int) ≤ i := by omega
          have hw : IntKind.i64.wrap ((i : Int) + 1) = ((i + 1 : Nat) : Int) := wrap_small (by omega)
          have hx : b[i]? = some b[i] := List.getElem?_eq_getElem c1
          generalize b[i] = x at hx
          have hxw := hb x (List.mem_of_getElem? hx)
          have hwi := Within_ok 0 h x.n 0 9 (by omega) (by omega) (by omega) hxw.n.1 hxw.n.2
          have hcu := Cut_ok 0 h false x.b 20 (by omega)
          have g0 := within_ge (n := x.n) (lo := 0) (hi := 9) (by omega)
          have g1 := within_le (n := x.n) (lo := 0) (hi := 9) (by omega)
          have hrem := fun cf base h => o_rem cf base h .i64 x.kind 2 (by decide)
          by_cases c3 : x.kind.tmod 2 = 0
          · obtain ⟨h2, e3, d2, f2⟩ := Put_yes 0 h 0 _ (within x.n 0 9) (.imm false none ((x.b.take 20).map byteV)) (x.b.take 20) (by omega) d (BR_imm _ _ _) (by simp; omega) (by omega) g0 (by omega)
            simp only [go_sem, ↓reduceIte, Nat.reduceEqDiff, Nat.reduceBEq, Nat.reduceAdd, Nat.reduceSub, Nat.reduceLT, Nat.reduceLeDiff, Int.reduceLT, Int.reduceLE, Int.reduceToNat, e9, e5, e7, e8, e1', c1', c2', hi0, hx, Ask7.enc, hwi, hcu, e3, hw, hrem, c3]
            exact ⟨20 - (i + 1), by omega, i + 1, rfl, by omega, by omega, rfl, dc.mono f2 (by simp; omega), dq.mono f2 (by simp; omega), _, d2, by simp only [Dk.put]; omega⟩
          · obtain ⟨v2, h2, e3, rfl, d2, f2⟩ := Turn_ok 0 h 0 _ (within x.n 0 9) x.at_ (by omega) d
            simp only [go_sem, ↓reduceIte, Nat.reduceEqDiff, Nat.reduceBEq, Nat.reduceAdd, Nat.reduceSub, Nat.reduceLT, Nat.reduceLeDiff, Int.reduceLT, Int.reduceLE, Int.reduceToNat, e9, e5, e7, e8, e1', c1', c2', hi0, hx, Ask7.enc, hwi, hcu, e3, hw, hrem, c3]
            refine ⟨20 - (i + 1), by omega, i + 1, rfl, by omega, by omega, rfl, dc.mono f2 (by simp; omega), dq.mono f2 (by simp; omega), _, d2, ?_⟩
            split
            · simp only [Dk.turn]; omega
            · omega
        · have c2' : ¬ (i : Int) < 20 := by omega
          simp only [go_sem, ↓reduceIte, Nat.reduceEqDiff, Nat.reduceBEq, Nat.reduceAdd, Nat.reduceSub, Nat.reduceLT, Nat.reduceLeDiff, Int.reduceLT, Int.reduceLE, Int.reduceToNat, e9, e5, e7, e8, e1', c1', c2']
          exact ⟨dc, dq, E, d⟩
      · have c1' : ¬ (i : Int) < b.length := by omega
        simp only [go_sem, ↓reduceIte, Nat.reduceEqDiff, Nat.reduceBEq, Nat.reduceAdd, Nat.reduceSub, Nat.reduceLT, Nat.reduceLeDiff, Int.reduceLT, Int.reduceLE, Int.reduceToNat, e9, e5, e7, e8, e1', c1']
        exact ⟨dc, dq, E, d⟩
    · rintro e h ⟨e5, e7, e8, dc, dq, E, d⟩
      have s3 := Same_ok 0 h c q _ _ dc dq
      have s4 := Same_ok 0 h 0 0 _ _ d d
      have hk := known7_ok 0 h
      simp only [q2, decide_true] at s3 s4
      simp only [go_sem, ↓reduceIte, Nat.reduceEqDiff, Nat.reduceBEq, Nat.reduceAdd, Nat.reduceSub, Nat.reduceLT, Nat.reduceLeDiff, Int.reduceLT, Int.reduceLE, Int.reduceToNat, e5, e7, e8, s3, s4, hk]
    all_goals simp only [go_sem, ↓reduceIte, Nat.reduceEqDiff, Nat.reduceBEq, Nat.reduceAdd, Nat.reduceSub, Nat.reduceLT, Nat.reduceLeDiff, Int.reduceLT, Int.reduceLE, Int.reduceToNat, e5, e1']
    all_goals rfl
  all_goals simp only [go_sem, ↓reduceIte, Nat.reduceEqDiff, Nat.reduceBEq, Nat.reduceAdd, Nat.reduceSub, Nat.reduceLT, Nat.reduceLeDiff, Int.reduceLT, Int.reduceLE, Int.reduceToNat]
  rfl
end Go.Proofs.Yteeabacgcnbnbaa
