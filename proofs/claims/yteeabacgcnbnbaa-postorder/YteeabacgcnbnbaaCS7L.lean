/- Slots: the statements' own functions. Conditions: none. -/
import Derived.Test.YteeabacgcnbnbaaCSK
import Derived.Test.YteeabacgcnbnbaaCT
namespace Go.Proofs.Yteeabacgcnbnbaa
open Go Go.Vm Go.Proofs Go.Cl
set_option linter.unusedSimpArgs false
set_option linter.unusedVariables false

abbrev P0 (id : Nat) : V := .ptr id [0] 1
theorem Fw.d {S : List Nat} (h : Hp) (t : Hp) : Fw S h (h ++ t) := Fw.app S h t
theorem known7_ok (b : Nat) (h : Hp) : run fns pr b 18 [] h = some (.s (.bool true), h) := by
  refine Vm.runP (nt := 53) rfl fit18 (by simp) ?_
  have hb := Nat.le_refl h.length
  obtain ⟨v1, h1, e1, rfl, d1, f1⟩ := new_ok h.length h
  obtain ⟨h2, e2, d2, f2⟩ := Put_yes h.length (h1 ++ [.dead]) h.length _ 2 (.imm false none [.s (.int .u8 97), .s (.int .u8 98), .s (.int .u8 99)]) [97, 98, 99] hb (d1.mono (Fw.d (S := []) _ _) (by simp)) (.inl ⟨false, rfl⟩) (by simp) (by simp [Dk.new]) (by omega) (by omega)
  obtain ⟨h3, e3, d3, f3⟩ := Put_no h.length h2 h.length _ 99 (.imm true none []) [] hb d2 (BR_nil _ _) (by simp) (by simp [Dk.put, Dk.new]) rfl
  obtain ⟨v4, h4, e4, rfl, d4, f4⟩ := Crash_ok h.length h3 h.length _ 2 hb d3
  have e5 := Get_ok h.length h4 h.length _ 2 d4
  obtain ⟨h6, e6, d6, f6⟩ := Put_yes h.length (h4 ++ [.dead]) h.length _ 3 (.imm false none [.s (.int .u8 120)]) [120] hb (d4.mono (Fw.d (S := []) _ _) (by simp)) (.inl ⟨false, rfl⟩) (by simp) (by simp [Dk.crash]) (by omega) (by omega)
  obtain ⟨v7, h7, e7, rfl, d7, f7⟩ := Crash_ok h.length h6 h.length _ 0 hb d6
  have e8 := Get_ok h.length h7 h.length _ 3 d7
  have e9 := Pending_ok h.length h7 h.length _ d7
  have g5 : Dk.get ((Dk.new.put (Int.toNat 2) [97, 98, 99]).crash 2) 2 = some [97, 98] := by decide
  have g8 : Dk.get ((((Dk.new.put (Int.toNat 2) [97, 98, 99]).crash 2).put (Int.toNat 3) [120]).crash 0) 3 = none := by decide
  have g9 : ((((Dk.new.put (Int.toNat 2) [97, 98, 99]).crash 2).put (Int.toNat 3) [120]).crash 0).pend = 0 := by decide
  rw [g5] at e5
  rw [g8] at e8
  rw [g9] at e9
  have F : Fw [] h h7 := ((((((f1.trans (Fw.app [] h1 [.dead])).step f2 hb).step f3 hb).step f4 hb).trans (Fw.app [] h4 [.dead])).step f6 hb).step f7 hb
  have T := F.take
  have hq := fun cf base h0 => o_b2s cf base h0 _ none [97, 98] (elems_imm h0 false none _)
  simp only [go_sem, ↓reduceIte, Nat.reduceEqDiff, Nat.reduceBEq, Nat.reduceAdd, Nat.reduceSub, Nat.reduceLT, Nat.reduceLeDiff, Int.reduceLT, Int.reduceLE, Int.reduceToNat, byteV] at hq
  simp only [B18, go_sem, ↓reduceIte, Nat.reduceEqDiff, Nat.reduceBEq, Nat.reduceAdd, Nat.reduceSub, Nat.reduceLT, Nat.reduceLeDiff, Int.reduceLT, Int.reduceLE, Int.reduceToNat, e1, e2, e3, e4, e5, e6, e7, e8, e9, byteV, T, hq]
  rfl

/-- An element of a row of structs. -/
theorem get_map {α : Type} (f : α → V) {l : List α} {i : Nat} {a : α} (h : l[i]? = some a) : (l.map f)[i]? = some (f a) := by simp [h]

/-- A loop that puts what it is handed. -/
def putAll : List Ask7 → Dk → Dk
  | [], D => D
  | a :: l, D => putAll l (D.put (within a.n 0 9).toNat (a.b.take 20))
theorem putAll_snoc (l : List Ask7) (a : Ask7) (D : Dk) : putAll (l ++ [a]) D = (putAll l D).put (within a.n 0 9).toNat (a.b.take 20) := by
  induction l generalizing D with
  | nil => rfl
  | cons x l ih => simp only [List.cons_append, putAll]; exact ih _
theorem putAll_lasts (l : List Ask7) (D : Dk) : (putAll l D).lasts = D.lasts ∧ (putAll l D).pend = D.pend + l.length := by
  induction l generalizing D with
  | nil => exact ⟨rfl, rfl⟩
  | cons x l ih => obtain ⟨h1, h2⟩ := ih (D.put (within x.n 0 9).toNat (x.b.take 20)); exact ⟨h1, by simp only [putAll, h2, List.length_cons]; simp only [Dk.put]; omega⟩
theorem take_snoc {α : Type} {l : List α} {i : Nat} {a : α} (h : l[i]? = some a) : l.take (i + 1) = l.take i ++ [a] := by
  rw [List.take_add_one, h]; rfl

theorem SlotsLast_run (a b : List Ask7) (torn : Int) (ha : ∀ x ∈ a, x.wf) (hb : ∀ x ∈ b, x.wf) (hal : a.length ≤ 140737488351232) (hbl : b.length ≤ 140737488351232) (ht : -9223372036854775808 ≤ torn ∧ torn ≤ 9223372036854775807) :
    run fns pr 0 3 [.imm false (some 28) (a.map Ask7.enc), .imm false (some 28) (b.map Ask7.enc), .s (.int .i64 torn)] [] = some (.s (.bool true), []) := by
  refine Vm.runP (nt := 123) rfl fit3 (by simp) ?_
  obtain ⟨v1, h1, e1, rfl, d1, f1⟩ := new_ok 0 []
  simp only [List.length_nil] at e1 d1
  simp only [B3, B3R0, B3R2, B3R4, B3L4, B3L2, B3L0, go_sem, ↓reduceIte, Nat.reduceEqDiff, Nat.reduceBEq, Nat.reduceAdd, Nat.reduceSub, Nat.reduceLT, Nat.reduceLeDiff, Int.reduceLT, Int.reduceLE, Int.reduceToNat, e1]
  refine wp_for (fun n e h => ∃ i : Nat, n = 20 - i ∧ i ≤ 20 ∧ i ≤ a.length ∧ e 8 = .s (.int .i64 i) ∧ e 7 = .ptr 0 [0] 1 ∧ e 0 = .imm false (some 28) (a.map Ask7.enc) ∧ e 1 = .imm false (some 28) (b.map Ask7.enc) ∧ e 2 = .s (.int .i64 torn) ∧
    DR h 0 (putAll (a.take i) Dk.new))
    (fun e h => e 7 = .ptr 0 [0] 1 ∧ e 1 = .imm false (some 28) (b.map Ask7.enc) ∧ e 2 = .s (.int .i64 torn) ∧ ∃ D, DR h 0 D) 20 _ _ ⟨0, rfl, by omega, by omega, ?_, ?_, ?_, ?_, ?_, d1⟩ ?_ ?_
  rotate_right 2
  · rintro n e h ⟨i, rfl, hi, hia, e8, e7, e0', e1', e2', d⟩
    by_cases c1 : i < a.length
    · have c1' : (i : Int) < a.length := by omega
      by_cases c2 : i < 20
      · have c2' : (i : Int) < 20 := by omega
        have hi0 : (0 : Int) ≤ i := by omega
        have hw : IntKind.i64.wrap ((i : Int) + 1) = ((i + 1 : Nat) : Int) := wrap_small (by omega)
        have hx : a[i]? = some a[i] := List.getElem?_eq_getElem c1
        generalize a[i] = x at hx
        have hxw := ha x (List.mem_of_getElem? hx)
        have hwi := Within_ok 0 h x.n 0 9 (by omega) (by omega) (by omega) hxw.n.1 hxw.n.2
        have hcu := Cut_ok 0 h false x.b 20 (by omega)
        have hp := (putAll_lasts (a.take i) Dk.new).2
        rw [List.length_take] at hp
        have g0 := within_ge (n := x.n) (lo := 0) (hi := 9) (by omega)
        have g1 := within_le (n := x.n) (lo := 0) (hi := 9) (by omega)
        obtain ⟨h2, e3, d2, f2⟩ := Put_yes 0 h 0 _ (within x.n 0 9) (.imm false none ((x.b.take 20).map byteV)) (x.b.take 20) (by omega) d (BR_imm _ _ _) (by simp; omega) (by rw [hp]; simp [Dk.new]; omega) g0 (by omega)
        simp only [go_sem, ↓reduceIte, Nat.reduceEqDiff, Nat.reduceBEq, Nat.reduceAdd, Nat.reduceSub, Nat.reduceLT, Nat.reduceLeDiff, Int.reduceLT, Int.reduceLE, Int.reduceToNat, e8, e7, e0', e1', e2', c1', c2', hi0, hx, Ask7.enc, hwi, hcu, e3, hw]
        refine ⟨20 - (i + 1), by omega, i + 1, rfl, by omega, by omega, rfl, ?_⟩
        rw [take_snoc hx, putAll_snoc]; exact d2
      · have c2' : ¬ (i : Int) < 20 := by omega
        simp only [go_sem, ↓reduceIte, Nat.reduceEqDiff, Nat.reduceBEq, Nat.reduceAdd, Nat.reduceSub, Nat.reduceLT, Nat.reduceLeDiff, Int.reduceLT, Int.reduceLE, Int.reduceToNat, e8, e7, e0', e1', e2', c1', c2']
        exact ⟨_, d⟩
    · have c1' : ¬ (i : Int) < a.length := by omega
      simp only [go_sem, ↓reduceIte, Nat.reduceEqDiff, Nat.reduceBEq, Nat.reduceAdd, Nat.reduceSub, Nat.reduceLT, Nat.reduceLeDiff, Int.reduceLT, Int.reduceLE, Int.reduceToNat, e8, e7, e0', e1', e2', c1']
      exact ⟨_, d⟩
  · rintro e h ⟨e7, e1', e2', D, d⟩
    obtain ⟨v2, h2, e3, rfl, d2, f2⟩ := Sync_ok 0 h 0 D (by omega) d
    obtain ⟨v3, h3, e4, rfl, d3, f3⟩ := Copy_ok 0 h2 0 _ (by omega) d2
    have d2' := d2.mono f3 (by simp)
    have hlen := d2.lt
    simp only [go_sem, ↓reduceIte, Nat.reduceEqDiff, Nat.reduceBEq, Nat.reduceAdd, Nat.reduceSub, Nat.reduceLT, Nat.reduceLeDiff, Int.reduceLT, Int.reduceLE, Int.reduceToNat, e7, e1', e2', e3, e4]
    have hw0 : h2.length ≠ 0 := by omega
    generalize hwid : h2.length = w at *
    clear e3 e4 f2 f3 d2 hlen hwid
    refine wp_for (fun n e h => ∃ i : Nat, n = 20 - i ∧ i ≤ 20 ∧ i ≤ b.length ∧ e 12 = .s (.int .i64 i) ∧ e 7 = .ptr 0 [0] 1 ∧ e 9 = .ptr w [0] 1 ∧ e 1 = .imm false (some 28) (b.map Ask7.enc) ∧ e 2 = .s (.int .i64 torn) ∧
      DR h w D.sync.copy ∧ ∃ E last f p, DR h 0 E ∧ E.lasts = D.now ∧ E.pend = i ∧ e 10 = .s (.int .i64 last) ∧ e 11 = .imm f none ((p : Bs).map byteV) ∧ ((E.pend = 0 ∧ last = -1) ∨ (0 < E.pend ∧ last = E.at_ ∧ p = E.last)))
      (fun e h => e 7 = .ptr 0 [0] 1 ∧ e 9 = .ptr w [0] 1 ∧ e 2 = .s (.int .i64 torn) ∧
      DR h w D.sync.copy ∧ ∃ E last f p, DR h 0 E ∧ E.lasts = D.now ∧ e 10 = .s (.int .i64 last) ∧ e 11 = .imm f none ((p : Bs).map byteV) ∧ ((E.pend = 0 ∧ last = -1) ∨ (0 < E.pend ∧ last = E.at_ ∧ p = E.last))) 20 _ _
      ⟨0, rfl, by omega, by omega, ?_, ?_, ?_, ?_, ?_, d3, D.sync, -1, true, [], d2', rfl, rfl, ?_, ?_, .inl ⟨rfl, rfl⟩⟩ ?_ ?_
    rotate_right 2
    · rintro n e h ⟨i, rfl, hi, hia, e12, e7, e9, e1', e2', dw, E, last, f, p, d, hE1, hE2, e10, e11, hcase⟩
      by_cases c1 : i < b.length
      · have c1' : (i : Int) < b.length := by omega
        by_cases c2 : i < 20
        · have c2' : (i : Int) < 20 := by omega
          have hi0 : (0 : Int) ≤ i := by omega
          have hw : IntKind.i64.wrap ((i : Int) + 1) = ((i + 1 : Nat) : Int) := wrap_small (by omega)
          have hx : b[i]? = some b[i] := List.getElem?_eq_getElem c1
          generalize b[i] = x at hx
          have hxw := hb x (List.mem_of_getElem? hx)
          have hwi := Within_ok 0 h x.n 0 9 (by omega) (by omega) (by omega) hxw.n.1 hxw.n.2
          have hcu := Cut_ok 0 h false x.b 20 (by omega)
          have g0 := within_ge (n := x.n) (lo := 0) (hi := 9) (by omega)
          have g1 := within_le (n := x.n) (lo := 0) (hi := 9) (by omega)
          obtain ⟨h2, e3, d2, f2⟩ := Put_yes 0 h 0 _ (within x.n 0 9) (.imm false none ((x.b.take 20).map byteV)) (x.b.take 20) (by omega) d (BR_imm _ _ _) (by simp; omega) (by omega) g0 (by omega)
          simp only [go_sem, ↓reduceIte, Nat.reduceEqDiff, Nat.reduceBEq, Nat.reduceAdd, Nat.reduceSub, Nat.reduceLT, Nat.reduceLeDiff, Int.reduceLT, Int.reduceLE, Int.reduceToNat, e12, e7, e9, e1', e2', c1', c2', hi0, hx, Ask7.enc, hwi, hcu, e3, hw]
          refine ⟨20 - (i + 1), by omega, i + 1, rfl, by omega, by omega, rfl, dw.mono f2 (by simpa using hw0), _, _, _, _, d2, hE1, by simp [Dk.put, hE2], rfl, rfl, .inr ⟨by simp [Dk.put], by simp only [Dk.put]; omega, rfl⟩⟩
        · have c2' : ¬ (i : Int) < 20 := by omega
          simp only [go_sem, ↓reduceIte, Nat.reduceEqDiff, Nat.reduceBEq, Nat.reduceAdd, Nat.reduceSub, Nat.reduceLT, Nat.reduceLeDiff, Int.reduceLT, Int.reduceLE, Int.reduceToNat, e12, e7, e9, e1', e2', c1', c2', e10, e11]
          exact ⟨dw, E, last, f, p, d, hE1, rfl, rfl, hcase⟩
      · have c1' : ¬ (i : Int) < b.length := by omega
        simp only [go_sem, ↓reduceIte, Nat.reduceEqDiff, Nat.reduceBEq, Nat.reduceAdd, Nat.reduceSub, Nat.reduceLT, Nat.reduceLeDiff, Int.reduceLT, Int.reduceLE, Int.reduceToNat, e12, e7, e9, e1', e2', c1', e10, e11]
        exact ⟨dw, E, last, f, p, d, hE1, rfl, rfl, hcase⟩
    · rintro e h ⟨e7, e9, e2', dw, E, last, f, p, d, hE1, e10, e11, hcase⟩
      have hwt := Within_ok 0 h torn 0 30 (by omega) (by omega) (by omega) ht.1 ht.2
      have g0 := within_ge (n := torn) (lo := 0) (hi := 30) (by omega)
      generalize within torn 0 30 = t at hwt g0
      obtain ⟨v4, h4, e5, rfl, d4, f4⟩ := Crash_ok 0 h 0 _ t (by omega) d
      have dw4 := dw.mono f4 (by simpa using hw0)
      simp only [go_sem, ↓reduceIte, Nat.reduceEqDiff, Nat.reduceBEq, Nat.reduceAdd, Nat.reduceSub, Nat.reduceLT, Nat.reduceLeDiff, Int.reduceLT, Int.reduceLE, Int.reduceToNat, e7, e9, e2', e10, e11, hwt, e5]
      refine wp_for (fun n e h => ∃ i : Nat, n = 10 - i ∧ i ≤ 10 ∧ e 14 = .s (.int .i64 i) ∧ e 7 = .ptr 0 [0] 1 ∧ e 9 = .ptr w [0] 1 ∧ e 13 = .s (.int .i64 t) ∧ e 10 = .s (.int .i64 last) ∧ e 11 = .imm f none (p.map byteV) ∧ h = h4)
        (fun e h => True) 10 _ _ ⟨0, rfl, by omega, ?_, ?_, ?_, ?_, ?_, ?_, rfl⟩ ?_ ?_
      rotate_right 2
      · rintro n e h ⟨i, rfl, hi, e14, e7, e9, e13, e10, e11, rfl⟩
        by_cases c1 : i < 10
        · have c1' : (i : Int) < 10 := by omega
          have c1'' : i < 10 := c1
          have hw : IntKind.i64.wrap ((i : Int) + 1) = ((i + 1 : Nat) : Int) := wrap_small (by omega)
          have q1 := Get_ok 0 h 0 _ i d4
          have q2 := Get_ok 0 h w _ i dw4
          have hg1 : (E.crash t).get i = (E.torn t).getD i none := by simp [Dk.get, Dk.crash, c1']
          have hg2 : D.sync.copy.get i = D.now.getD i none := by simp [Dk.get, Dk.copy, Dk.sync, c1']
          rw [hg1] at q1; rw [hg2] at q2
          have hb2 := fun (l : Bs) cf base => o_b2s cf base h (.imm false none (l.map byteV)) none l (elems_imm h false none _)
          by_cases c3 : (i : Int) = last ∧ 0 < t
          · obtain ⟨c3, c4⟩ := c3
            subst c3
            rcases hcase with ⟨_, hcase⟩ | ⟨hp, hcase, rfl⟩
            · omega
            · obtain ⟨m, rfl⟩ : ∃ m : Nat, t = m := ⟨t.toNat, by omega⟩
              have hii : i = E.at_ := by omega
              have hmin : min (m : Int) (E.last.length : Int) = ((min m E.last.length : Nat) : Int) := by omega
              have ht2 : (E.torn m).getD i none = some (E.last.take m) := by
                have hat := d.ok.at_
                simp only [Dk.torn, hp, c4, and_self, if_true, Int.toNat_natCast]
                rw [getD_set, if_pos ⟨hii.symm, by rw [d.ok.lasts]; omega⟩]
              rw [ht2] at q1
              obtain ⟨y, y1, y2⟩ := (BR_imm h f E.last).hi (k := .i64) (r := min m E.last.length) (by omega)
              have hb3 := fun cf base => y2.o_b2s (cf := cf) (base := base)
              rw [← List.take_eq_take_min] at hb3
              simp only [go_sem, ↓reduceIte, Nat.reduceEqDiff, Nat.reduceBEq, Nat.reduceAdd, Nat.reduceSub, Nat.reduceLT, Nat.reduceLeDiff, Int.reduceLT, Int.reduceLE, Int.reduceToNat, e14, e7, e9, e13, e10, e11, c1', q1, q2, c4, hw, hmin, y1, hb2, hb3]
              exact ⟨10 - (i + 1), by omega, i + 1, rfl, by omega, rfl⟩
          · have ht2 : (E.torn t).getD i none = D.now.getD i none := by
              unfold Dk.torn
              split
              · rename_i hc
                rcases hcase with ⟨h0, _⟩ | ⟨hp, hcase, rfl⟩
                · omega
                · rw [getD_set, if_neg (by intro hh; apply c3; exact ⟨by rw [hcase, hh.1], hc.2⟩), hE1]
              · rw [hE1]
            rw [ht2] at q1
            by_cases c4 : (i : Int) = last
            · have c5 : ¬ 0 < t := fun h => c3 ⟨c4, h⟩
              subst c4
              simp only [go_sem, ↓reduceIte, Nat.reduceEqDiff, Nat.reduceBEq, Nat.reduceAdd, Nat.reduceSub, Nat.reduceLT, Nat.reduceLeDiff, Int.reduceLT, Int.reduceLE, Int.reduceToNat, e14, e7, e9, e13, e10, e11, c1', q1, q2, hw, c5, hb2]
              exact ⟨10 - (i + 1), by omega, i + 1, rfl, by omega, rfl⟩
            · simp only [go_sem, ↓reduceIte, Nat.reduceEqDiff, Nat.reduceBEq, Nat.reduceAdd, Nat.reduceSub, Nat.reduceLT, Nat.reduceLeDiff, Int.reduceLT, Int.reduceLE, Int.reduceToNat, e14, e7, e9, e13, e10, e11, c1', q1, q2, c4, hw, hb2]
              exact ⟨10 - (i + 1), by omega, i + 1, rfl, by omega, rfl⟩
        · have c1' : ¬ (i : Int) < 10 := by omega
          simp only [go_sem, ↓reduceIte, Nat.reduceEqDiff, Nat.reduceBEq, Nat.reduceAdd, Nat.reduceSub, Nat.reduceLT, Nat.reduceLeDiff, Int.reduceLT, Int.reduceLE, Int.reduceToNat, e14, c1']
      · intro e h _
        have hk := known7_ok 0 h
        simp only [go_sem, ↓reduceIte, Nat.reduceEqDiff, Nat.reduceBEq, Nat.reduceAdd, Nat.reduceSub, Nat.reduceLT, Nat.reduceLeDiff, Int.reduceLT, Int.reduceLE, Int.reduceToNat, hk]
      all_goals simp only [go_sem, ↓reduceIte, Nat.reduceEqDiff, Nat.reduceBEq, Nat.reduceAdd, Nat.reduceSub, Nat.reduceLT, Nat.reduceLeDiff, Int.reduceLT, Int.reduceLE, Int.reduceToNat, e7, e9, e10, e11]
      rfl
    all_goals simp only [go_sem, ↓reduceIte, Nat.reduceEqDiff, Nat.reduceBEq, Nat.reduceAdd, Nat.reduceSub, Nat.reduceLT, Nat.reduceLeDiff, Int.reduceLT, Int.reduceLE, Int.reduceToNat, e7, e1', e2']
    all_goals rfl
  all_goals simp only [go_sem, ↓reduceIte, Nat.reduceEqDiff, Nat.reduceBEq, Nat.reduceAdd, Nat.reduceSub, Nat.reduceLT, Nat.reduceLeDiff, Int.reduceLT, Int.reduceLE, Int.reduceToNat]
  rfl
end Go.Proofs.Yteeabacgcnbnbaa
