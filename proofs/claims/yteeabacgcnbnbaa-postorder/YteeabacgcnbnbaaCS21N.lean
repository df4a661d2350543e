/- PostOrder: its run. Conditions: none. -/
import Derived.Test.YteeabacgcnbnbaaCS21M
namespace Go.Proofs.Yteeabacgcnbnbaa
open Go Go.Vm Go.Proofs Go.Cl
set_option linter.unusedSimpArgs false
set_option linter.unusedVariables false

theorem stepE_t {cf : CF} {base : Nat} {e : Env} {h : Hp} (d : Option Nat) (o : Vm.O) (xs : List X) (t : Nat) (b : Bool) (hw : wantV (e t) b = some true) : stepE cf base e h ⟨d, o, xs, some (t, b)⟩ = opV cf base h o (xs.map (X.on e)) := by
  unfold stepE wantE; simp only [hw]
theorem stepE_f {cf : CF} {base : Nat} {e : Env} {h : Hp} (d : Option Nat) (o : Vm.O) (xs : List X) (t : Nat) (b : Bool) (hw : wantV (e t) b = some false) : stepE cf base e h ⟨d, o, xs, some (t, b)⟩ = some (.tup [], h) := by
  unfold stepE wantE; simp only [hw]

theorem firstFree_none {O : List It} (h : ∀ x ∈ O, x.2 = true) : ∀ i, firstFree O i = -1 := by
  induction O with
  | nil => intro i; rfl
  | cons x O ih => intro i; simp only [firstFree, h x List.mem_cons_self, if_true]; exact ih (fun y hy => h y (List.mem_cons_of_mem _ hy)) _
theorem firstFree_some {O : List It} (h : 0 < O.countP (fun x => !x.2)) : ∃ A y B, O = A ++ y :: B ∧ y.2 = false ∧ (∀ x ∈ A, x.2 = true) ∧ ∀ i, firstFree O i = ((i + A.length : Nat) : Int) := by
  induction O with
  | nil => simp at h
  | cons x O ih =>
    cases hx : x.2 with
    | false => exact ⟨[], x, O, rfl, hx, by simp, fun i => by simp [firstFree, hx]⟩
    | true =>
      rw [List.countP_cons, hx] at h
      obtain ⟨A, y, B, rfl, h1, h2, h3⟩ := ih (by simpa using h)
      refine ⟨x :: A, y, B, rfl, h1, ?_, fun i => ?_⟩
      · intro z hz
        rcases List.mem_cons.1 hz with rfl | hz
        · exact hx
        · exact h2 z hz
      · simp only [firstFree, hx, if_true, h3, List.length_cons]; omega
/-- The letter that was put as number j. -/
def pl (l : List Letter) (j : Nat) : Letter := ⟨j, 0, 0, ((l.getD j ⟨0, 0, 0, []⟩).bytes).take 20⟩
def Inr (l : List Letter) (n : Nat) (O : List It) : Prop := O.Pairwise (fun x y => x.1.kind < y.1.kind) ∧ ∀ x ∈ O, ∃ j : Nat, j < n ∧ x.1 = pl l j
theorem Inr.erase {l : List Letter} {n : Nat} {A B : List It} {y : It} (h : Inr l n (A ++ y :: B)) : Inr l n (A ++ B) :=
  ⟨h.1.sublist (by simp), fun x hx => h.2 x (by
    rcases List.mem_append.1 hx with h | h
    · exact List.mem_append_left _ h
    · exact List.mem_append_right _ (List.mem_cons_of_mem _ h))⟩
theorem Inr.after {l : List Letter} {n : Nat} {A B : List It} {y : It} (h : Inr l n (A ++ y :: B)) : ∀ x ∈ B, y.1.kind < x.1.kind := by
  have := (List.pairwise_append.1 h.1).2.1
  exact (List.pairwise_cons.1 this).1
theorem Inr.put {l : List Letter} {i : Nat} {O : List It} (h : Inr l i O) : Inr l (i + 1) (O ++ [(pl l i, false)]) := by
  refine ⟨List.pairwise_append.2 ⟨h.1, by simp, ?_⟩, fun x hx => ?_⟩
  · intro a ha b hb
    obtain ⟨j, hj, e⟩ := h.2 a ha
    simp at hb; subst hb
    rw [e]; simp [pl, hj]
  · rcases List.mem_append.1 hx with hx | hx
    · obtain ⟨j, hj, e⟩ := h.2 x hx; exact ⟨j, by omega, e⟩
    · simp at hx; subst hx; exact ⟨i, by omega, rfl⟩
theorem map_set_same {α β : Type} (f : α → β) : ∀ (O : List α) (i : Nat) (z : α), (∀ y, O[i]? = some y → f z = f y) → (O.set i z).map f = O.map f
  | [], i, z, _ => rfl
  | x :: O, 0, z, h => by simp [h x rfl]
  | x :: O, i + 1, z, h => by simp only [List.set_cons_succ, List.map_cons]; rw [map_set_same f O i z (fun y hy => h y (by simpa using hy))]
theorem Inr.of_map {l : List Letter} {n : Nat} {O O' : List It} (h : Inr l n O) (e : O'.map (·.1) = O.map (·.1)) : Inr l n O' := by
  have p : (O.map (·.1)).Pairwise (fun x y => x.kind < y.kind) := by rw [List.pairwise_map]; exact h.1
  rw [← e, List.pairwise_map] at p
  refine ⟨p, fun x hx => ?_⟩
  have : x.1 ∈ O'.map (·.1) := List.mem_map_of_mem hx
  rw [e] at this
  obtain ⟨y, hy, hyx⟩ := List.mem_map.1 this
  obtain ⟨j, hj, hj2⟩ := h.2 y hy
  exact ⟨j, hj, by rw [← hyx]; exact hj2⟩
theorem countP_set_held : ∀ (O : List It) (i : Nat) (y : It), O[i]? = some y → y.2 = false → (O.set i (y.1, true)).countP (fun x => x.2) = O.countP (fun x => x.2) + 1
  | [], i, y, h, _ => by simp at h
  | x :: O, 0, y, h, hy => by simp at h; subst h; simp [hy]
  | x :: O, i + 1, y, h, hy => by
    simp only [List.set_cons_succ, List.countP_cons]
    rw [countP_set_held O i y (by simpa using h) hy]; omega
theorem countP_not (O : List It) : O.countP (fun x => x.2) + O.countP (fun x => !x.2) = O.length := by
  induction O with
  | nil => rfl
  | cons x O ih => cases hx : x.2 <;> simp [hx] <;> omega

theorem PostOrder_run (l : List Letter) (holds : List Int) (hl : l.length ≤ 140737488351232) (hb : ∀ x ∈ l, x.wf) (hh : holds.length ≤ 140737488351232) (hw : ∀ x ∈ holds, -9223372036854775808 ≤ x ∧ x ≤ 9223372036854775807) :
    run fns pr 0 6 [.imm false (some 46) (l.map Letter.enc), .imm false none (holds.map fun z => .s (.int .i64 z))] [] = some (.s (.bool true), []) := by
  refine Vm.runP (nt := 135) rfl fit6 (by simp) ?_
  obtain ⟨v1, h1, e1, rfl, o1, f1⟩ := PNew_ok 0 []
  simp only [List.length_nil] at e1 o1
  obtain ⟨n, hn⟩ : ∃ n : Nat, n = min l.length 30 := ⟨_, rfl⟩
  have hmin : min (l.length : Int) 30 = (n : Int) := by omega
  simp only [B6, B6R0, B6L0, go_sem, ↓reduceIte, Nat.reduceEqDiff, Nat.reduceBEq, Nat.reduceAdd, Nat.reduceSub, Nat.reduceLT, Nat.reduceLeDiff, Int.reduceLT, Int.reduceLE, Int.reduceToNat, e1, hmin]
  refine wp_for (fun m e h => ∃ i : Nat, m = n - i ∧ i ≤ n ∧ e 7 = .s (.int .i64 i) ∧ e 6 = .s (.int .i64 n) ∧ e 5 = .ptr 0 [0] 1 ∧ e 0 = .imm false (some 46) (l.map Letter.enc) ∧ e 1 = .imm false none (holds.map fun z => .s (.int .i64 z)) ∧
      ∃ k O, OR h 0 k O ∧ Inr l i O ∧ O.length = i ∧ O.countP (fun x => x.2) = 0)
    (fun e h => e 6 = .s (.int .i64 n) ∧ e 5 = .ptr 0 [0] 1 ∧ e 0 = .imm false (some 46) (l.map Letter.enc) ∧ e 1 = .imm false none (holds.map fun z => .s (.int .i64 z)) ∧
      ∃ k O, OR h 0 k O ∧ Inr l n O ∧ O.length = n ∧ O.countP (fun x => x.2) = 0) n _ _ ⟨0, rfl, by omega, ?_, ?_, ?_, ?_, ?_, _, _, o1, ⟨by simp, by simp⟩, rfl, rfl⟩ ?_ ?_
  rotate_right 2
  · rintro m e h ⟨i, rfl, hi, e7, e6, e5, e0', e1', k, O, o, hr, hO, hc⟩
    by_cases c1 : i < n
    · have c1' : (i : Int) < n := by omega
      have c2' : (i : Int) < l.length := by omega
      have hi0 : (0 : Int) ≤ i := by omega
      have hwr : IntKind.i64.wrap ((i : Int) + 1) = ((i + 1 : Nat) : Int) := wrap_small (by omega)
      have hx : l[i]? = some l[i] := List.getElem?_eq_getElem (by omega)
      have hxd : l.getD i ⟨0, 0, 0, []⟩ = l[i] := by rw [List.getD_eq_getElem?_getD, hx]; rfl
      have hxm : l[i] ∈ l := List.getElem_mem _
      generalize l[i] = x at hx hxd hxm
      have hxw := hb x hxm
      have hcu := Cut_ok 0 h false x.bytes 20 (by omega)
      obtain ⟨h2, k', e2, hk, hbk, o2, f2⟩ := PPut_yes 0 h 0 k O (pl l i) (by omega) (by omega) o (by simp [pl]; omega) (by omega)
      simp only [pl, hxd, Letter.enc, go_sem, ↓reduceIte, Nat.reduceEqDiff, Nat.reduceBEq, Nat.reduceAdd, Nat.reduceSub, Nat.reduceLT, Nat.reduceLeDiff, Int.reduceLT, Int.reduceLE, Int.reduceToNat] at e2
      have q1 := Letter.enc_ty x
      simp only [Letter.enc] at q1
      simp only [go_sem, ↓reduceIte, Nat.reduceEqDiff, Nat.reduceBEq, Nat.reduceAdd, Nat.reduceSub, Nat.reduceLT, Nat.reduceLeDiff, Int.reduceLT, Int.reduceLE, Int.reduceToNat, e7, e6, e5, e0', e1', c1', c2', hi0, hx, hcu, Letter.enc, e2, hwr]
      exact ⟨n - (i + 1), by omega, i + 1, rfl, by omega, rfl, _, _, o2, by simpa [pl, hxd] using hr.put, by simp [hO], by simpa using hc⟩
    · have c1' : ¬ (i : Int) < n := by omega
      obtain rfl : i = n := by omega
      simp only [go_sem, ↓reduceIte, Nat.reduceEqDiff, Nat.reduceBEq, Nat.reduceAdd, Nat.reduceSub, Nat.reduceLT, Nat.reduceLeDiff, Int.reduceLT, Int.reduceLE, Int.reduceToNat, e7, e6, e5, e0', e1', c1']
      exact ⟨_, _, o, hr, hO, hc⟩
  · rintro e h ⟨e6, e5, e0', e1', k, O, o, hr, hO, hc⟩
    simp only [go_sem, ↓reduceIte, Nat.reduceEqDiff, Nat.reduceBEq, Nat.reduceAdd, Nat.reduceSub, Nat.reduceLT, Nat.reduceLeDiff, Int.reduceLT, Int.reduceLE, Int.reduceToNat, e6, e5, e0', e1', B6R2]
    refine wp_for (fun m e h => ∃ i held : Nat, m = 10 - i ∧ i ≤ 10 ∧ i ≤ holds.length ∧ held ≤ n ∧ e 9 = .s (.int .i64 i) ∧ e 8 = .s (.int .i64 held) ∧ e 6 = .s (.int .i64 n) ∧ e 5 = .ptr 0 [0] 1 ∧ e 0 = .imm false (some 46) (l.map Letter.enc) ∧ e 1 = .imm false none (holds.map fun z => .s (.int .i64 z)) ∧
        ∃ k O, OR h 0 k O ∧ Inr l n O ∧ O.length = n ∧ O.countP (fun x => x.2) = held)
      (fun e h => ∃ held : Nat, held ≤ n ∧ e 8 = .s (.int .i64 held) ∧ e 6 = .s (.int .i64 n) ∧ e 5 = .ptr 0 [0] 1 ∧ e 0 = .imm false (some 46) (l.map Letter.enc) ∧
        ∃ k O, OR h 0 k O ∧ Inr l n O ∧ O.length = n ∧ O.countP (fun x => x.2) = held) 10 _ _ ⟨0, 0, rfl, by omega, by omega, by omega, ?_, ?_, ?_, ?_, ?_, ?_, k, O, o, hr, hO, hc⟩ ?_ ?_
    rotate_right 2
    · clear hO hc hr o O k e6 e5 e0' e1' e h
      rintro m e h ⟨i, held, rfl, hi, hih, hhn, e9, e8, e6, e5, e0', e1', k, O, o, hr, hO, hc⟩
      by_cases c1 : i < holds.length
      · have c1' : (i : Int) < holds.length := by omega
        by_cases c2 : i < 10
        · have c2' : (i : Int) < 10 := by omega
          by_cases c3 : 0 < n
          · have c3' : (n : Int) > 0 := by omega
            have hi0 : (0 : Int) ≤ i := by omega
            have hwr : IntKind.i64.wrap ((i : Int) + 1) = ((i + 1 : Nat) : Int) := wrap_small (by omega)
            have hwh : IntKind.i64.wrap ((held : Int) + 1) = ((held + 1 : Nat) : Int) := wrap_small (by omega)
            have hwn : IntKind.i64.wrap ((n : Int) - 1) = ((n - 1 : Nat) : Int) := by rw [show (n : Int) - 1 = ((n - 1 : Nat) : Int) by omega, wrap_i64 (by omega) (by omega)]
            have hx : holds[i]? = some holds[i] := List.getElem?_eq_getElem c1
            have hxm : holds[i] ∈ holds := List.getElem_mem _
            generalize holds[i] = x at hx hxm
            have hxw := hw x hxm
            have hwi := Within_ok 0 h x 0 ((n - 1 : Nat) : Int) (by omega) (by omega) (by omega) hxw.1 hxw.2
            have w0 := within_ge (n := x) (lo := 0) (hi := ((n - 1 : Nat) : Int)) (by omega)
            have w1 := within_le (n := x) (lo := 0) (hi := ((n - 1 : Nat) : Int)) (by omega)
            obtain ⟨t, ht⟩ : ∃ t : Nat, within x 0 ((n - 1 : Nat) : Int) = t := ⟨(within x 0 ((n - 1 : Nat) : Int)).toNat, by omega⟩
            rw [ht] at hwi w1
            have htn : t < O.length := by omega
            have htn' : (t : Int) < O.length := by omega
            have ht0 : (0 : Int) ≤ t := by omega
            obtain ⟨v2, h2, e2, rfl, o2, f2⟩ := Hold_ok 0 h 0 k O t (by omega) o
            have hm : O[t]? = some O[t] := List.getElem?_eq_getElem htn
            have hgd : O.getD t default = O[t] := by rw [List.getD_eq_getElem?_getD, hm]; rfl
            generalize O[t] = y at hm hgd
            have hhe : heldAt O t = y.2 := by simp [heldAt, hm]
            simp only [ht0, htn', true_and, hhe, hgd, Int.toNat_natCast, decide_true, Bool.true_and] at e2 o2
            cases hy : y.2 with
            | false =>
              rw [hy] at e2 o2
              simp only [if_true, Bool.not_false] at e2 o2
              simp only [go_sem, ↓reduceIte, Nat.reduceEqDiff, Nat.reduceBEq, Nat.reduceAdd, Nat.reduceSub, Nat.reduceLT, Nat.reduceLeDiff, Int.reduceLT, Int.reduceLE, Int.reduceToNat, e9, e8, e6, e5, e0', e1', c1', c2', c3', hi0, hx, hwn, hwi, e2, hwh, hwr]
              have hcc := countP_set_held O t y hm hy
              have hle : (O.set t (y.1, true)).countP (fun x => x.2) ≤ (O.set t (y.1, true)).length := List.countP_le_length
              rw [List.length_set] at hle
              exact ⟨10 - (i + 1), by omega, i + 1, held + 1, rfl, by omega, by omega, by omega, rfl, rfl, _, _, o2, hr.of_map (map_set_same _ _ _ _ fun z hz => by rw [hm] at hz; cases hz; rfl), by simp [hO], by omega⟩
            | true =>
              rw [hy] at e2 o2
              simp only [Bool.true_eq_false, if_false, Bool.not_true] at e2 o2
              simp only [go_sem, ↓reduceIte, Nat.reduceEqDiff, Nat.reduceBEq, Nat.reduceAdd, Nat.reduceSub, Nat.reduceLT, Nat.reduceLeDiff, Int.reduceLT, Int.reduceLE, Int.reduceToNat, e9, e8, e6, e5, e0', e1', c1', c2', c3', hi0, hx, hwn, hwi, e2, hwr]
              exact ⟨10 - (i + 1), by omega, i + 1, held, rfl, by omega, by omega, by omega, rfl, rfl, _, _, o2, hr, hO, hc⟩
          · have c3' : ¬ (n : Int) > 0 := by omega
            simp only [go_sem, ↓reduceIte, Nat.reduceEqDiff, Nat.reduceBEq, Nat.reduceAdd, Nat.reduceSub, Nat.reduceLT, Nat.reduceLeDiff, Int.reduceLT, Int.reduceLE, Int.reduceToNat, e9, e8, e6, e5, e0', e1', c1', c2', c3']
            exact ⟨held, hhn, rfl, _, _, o, hr, hO, hc⟩
        · have c2' : ¬ (i : Int) < 10 := by omega
          simp only [go_sem, ↓reduceIte, Nat.reduceEqDiff, Nat.reduceBEq, Nat.reduceAdd, Nat.reduceSub, Nat.reduceLT, Nat.reduceLeDiff, Int.reduceLT, Int.reduceLE, Int.reduceToNat, e9, e8, e6, e5, e0', e1', c1', c2']
          exact ⟨held, hhn, rfl, _, _, o, hr, hO, hc⟩
      · have c1' : ¬ (i : Int) < holds.length := by omega
        simp only [go_sem, ↓reduceIte, Nat.reduceEqDiff, Nat.reduceBEq, Nat.reduceAdd, Nat.reduceSub, Nat.reduceLT, Nat.reduceLeDiff, Int.reduceLT, Int.reduceLE, Int.reduceToNat, e9, e8, e6, e5, e0', e1', c1']
        exact ⟨held, hhn, rfl, _, _, o, hr, hO, hc⟩
    · clear hO hc hr o O k e6 e5 e0' e1' e h
      rintro e h ⟨held, hhn, e8, e6, e5, e0', k, O, o, hr, hO, hc⟩
      have hcn := countP_not O
      simp only [go_sem, ↓reduceIte, Nat.reduceEqDiff, Nat.reduceBEq, Nat.reduceAdd, Nat.reduceSub, Nat.reduceLT, Nat.reduceLeDiff, Int.reduceLT, Int.reduceLE, Int.reduceToNat, e8, e6, e5, e0']
      refine wp_for (fun m e h => ∃ (i : Nat) (last : Int), m = n - held - i ∧ i ≤ n - held ∧ e 11 = .s (.int .i64 i) ∧ e 10 = .s (.int .i64 last) ∧ e 8 = .s (.int .i64 held) ∧ e 6 = .s (.int .i64 n) ∧ e 5 = .ptr 0 [0] 1 ∧ e 0 = .imm false (some 46) (l.map Letter.enc) ∧
          ∃ k O, OR h 0 k O ∧ Inr l n O ∧ O.countP (fun x => x.2) = held ∧ O.countP (fun x => !x.2) = n - held - i ∧ ∀ x ∈ O, x.2 = false → last < x.1.kind)
        (fun e h => e 8 = .s (.int .i64 held) ∧ e 5 = .ptr 0 [0] 1 ∧
          ∃ k O, OR h 0 k O ∧ O.length = held ∧ O.countP (fun x => !x.2) = 0) (n - held) _ _ ⟨0, -1, rfl, by omega, ?_, ?_, ?_, ?_, ?_, ?_, k, O, o, hr, hc, by omega, ?_⟩ ?_ ?_
      rotate_right 2
      · clear hcn hO hc hr o O k e8 e6 e5 e0' e h
        rintro m e h ⟨i, last, rfl, hi, e11, e10, e8, e6, e5, e0', k, O, o, hr, hc, hcf, hlast⟩
        have hcn := countP_not O
        have hwd : IntKind.i64.wrap ((n : Int) - held) = ((n - held : Nat) : Int) := by rw [show (n : Int) - held = ((n - held : Nat) : Int) by omega, wrap_i64 (by omega) (by omega)]
        by_cases c1 : i < n - held
        · have c1' : (i : Int) < ((n - held : Nat) : Int) := by omega
          have hwr : IntKind.i64.wrap ((i : Int) + 1) = ((i + 1 : Nat) : Int) := wrap_small (by omega)
          have hf := First_ok 0 h 0 k O o (by omega)
          obtain ⟨A, y, B, rfl, hy, hA, hff⟩ := firstFree_some (O := O) (by omega)
          rw [hff, Nat.zero_add] at hf
          obtain ⟨v2, h2, e2, rfl, o2, f2⟩ := Take_ok 0 h 0 k _ (A.length : Int) (by omega) (by omega) o (by omega)
          have htk : takes (A ++ y :: B) (A.length : Int) = true := by simp [takes, heldAt, hy]; omega
          have hgd : (A ++ y :: B).getD A.length default = y := by simp [List.getD_eq_getElem?_getD]
          rw [htk] at e2 o2
          simp only [if_true, Int.toNat_natCast, hgd] at e2 o2
          have her : (A ++ y :: B).eraseIdx A.length = A ++ B := by rw [List.eraseIdx_append_of_length_le (Nat.le_refl _)]; simp
          rw [her] at o2
          have hym : y ∈ A ++ y :: B := by simp
          obtain ⟨j, hj, hyp⟩ := hr.2 y hym
          have hjl := hlast y hym hy
          rw [hyp] at e2 hjl
          have hjl' : ¬ (j : Int) ≤ last := by simp only [pl] at hjl; omega
          have hjn' : ¬ (j : Int) ≥ n := by omega
          have hj0 : (0 : Int) ≤ j := by omega
          have hjl2 : (j : Int) < l.length := by omega
          have hx : l[j]? = some l[j] := List.getElem?_eq_getElem (by omega)
          have hxd : l.getD j ⟨0, 0, 0, []⟩ = l[j] := by rw [List.getD_eq_getElem?_getD, hx]; rfl
          have hxm : l[j] ∈ l := List.getElem_mem _
          generalize l[j] = x at hx hxd hxm
          have hxw := hb x hxm
          simp only [pl, hxd, Letter.enc] at e2
          let Y : Blk := .cells (some 46) [.st 46 [.s (.int .i64 j), .s (.int .i64 0), .s (.int .i64 0), .imm false none ((x.bytes.take 20).map byteV)]]
          have o3 := o2.mono (Fw.app [] h2 [Y]) (by simp) (by simp)
          have hcu := Cut_ok 0 (h2 ++ [Y]) false x.bytes 20 (by omega)
          have hb2 := fun cf base => o_b2s cf base (h2 ++ [Y]) (.imm false none ((x.bytes.take 20).map byteV)) none (x.bytes.take 20) (elems_imm (h2 ++ [Y]) false none _)
          simp only [Y] at hcu hb2
          simp only [Int.reduceToNat] at hcu
          simp only [go_sem, ↓reduceIte, Nat.reduceEqDiff, Nat.reduceBEq, Nat.reduceAdd, Nat.reduceSub, Nat.reduceLT, Nat.reduceLeDiff, Int.reduceLT, Int.reduceLE, Int.reduceToNat, List.append_assoc, List.length_append, Vm.get_app, Vm.set_app, Vm.get_appL, Vm.get_appL0, Vm.set_appL, Vm.set_appL0, Nat.le_refl, Nat.le_add_right, e11, e10, e8, e6, e5, e0', hwd, c1', hf, e2, hjl', hjn', hj0, hjl2, hx, hcu, hb2, hwr, Nat.zero_le, Letter.enc, okAt, stepE_t, stepE_f]
          have hrB := hr.after
          rw [List.countP_append, List.countP_cons, hy] at hc hcf
          refine ⟨n - held - (i + 1), by omega, i + 1, (j : Int), rfl, by omega, rfl, rfl, _, _, o3, hr.erase, by rw [List.countP_append]; simpa using hc, ?_, fun x hx hxf => ?_⟩
          · rw [List.countP_append]; simp at hcf; omega
          · rcases List.mem_append.1 hx with hx | hx
            · rw [hA x hx] at hxf; cases hxf
            · have := hrB x hx; rw [hyp] at this; exact this
        · have c1' : ¬ (i : Int) < ((n - held : Nat) : Int) := by omega
          simp only [go_sem, ↓reduceIte, Nat.reduceEqDiff, Nat.reduceBEq, Nat.reduceAdd, Nat.reduceSub, Nat.reduceLT, Nat.reduceLeDiff, Int.reduceLT, Int.reduceLE, Int.reduceToNat, e11, e10, e8, e6, e5, e0', hwd, c1']
          exact ⟨_, _, o, by omega, by omega⟩
      · clear hcn hO hc hr o O k e8 e6 e5 e0' e h
        rintro e h ⟨e8, e5, k, O, o, hO, hcf⟩
        have hall : ∀ x ∈ O, x.2 = true := fun x hx => by have := List.countP_eq_zero.1 hcf x hx; simpa using this
        have hf := First_ok 0 h 0 k O o (by omega)
        rw [firstFree_none hall] at hf
        have hle := Len_ok 0 h 0 k O o
        rw [hO] at hle
        simp only [B6R4, go_sem, ↓reduceIte, Nat.reduceEqDiff, Nat.reduceBEq, Nat.reduceAdd, Nat.reduceSub, Nat.reduceLT, Nat.reduceLeDiff, Int.reduceLT, Int.reduceLE, Int.reduceToNat, e8, e5, hf, hle]
        refine wp_for (fun m e h => ∃ i : Nat, m = held - i ∧ i ≤ held ∧ e 15 = .s (.int .i64 i) ∧ e 8 = .s (.int .i64 held) ∧ e 5 = .ptr 0 [0] 1 ∧
            ∃ k O, OR h 0 k O ∧ O.length = held ∧ ∀ (t : Nat) (y : It), O[t]? = some y → y.2 = decide (i ≤ t))
          (fun e h => e 8 = .s (.int .i64 held) ∧ e 5 = .ptr 0 [0] 1 ∧
            ∃ k O, OR h 0 k O ∧ O.length = held ∧ ∀ (t : Nat) (y : It), O[t]? = some y → y.2 = false) held _ _ ⟨0, rfl, by omega, ?_, ?_, ?_, k, O, o, hO, fun t y ht => by simp [hall y (List.mem_of_getElem? ht)]⟩ ?_ ?_
        rotate_right 2
        · clear hle hf hall hcf hO o O k e8 e5 e h
          rintro m e h ⟨i, rfl, hi, e15, e8, e5, k, O, o, hO, hp⟩
          by_cases c1 : i < held
          · have c1' : (i : Int) < held := by omega
            have hwr : IntKind.i64.wrap ((i : Int) + 1) = ((i + 1 : Nat) : Int) := wrap_small (by omega)
            obtain ⟨v2, h2, e2, rfl, o2, f2⟩ := Free_ok 0 h 0 k O i (by omega) o
            have hm : O[i]? = some O[i] := List.getElem?_eq_getElem (by omega)
            have hhe : heldAt O i = true := by
              have := hp i _ hm
              simp only [Nat.le_refl, decide_true] at this
              simp [heldAt, hm, this]
            rw [hhe] at e2 o2
            simp only [if_true, Int.toNat_natCast] at o2
            simp only [go_sem, ↓reduceIte, Nat.reduceEqDiff, Nat.reduceBEq, Nat.reduceAdd, Nat.reduceSub, Nat.reduceLT, Nat.reduceLeDiff, Int.reduceLT, Int.reduceLE, Int.reduceToNat, e15, e8, e5, c1', e2, hwr]
            refine ⟨held - (i + 1), by omega, i + 1, rfl, by omega, rfl, _, _, o2, by simp [hO], fun t y ht => ?_⟩
            rw [List.getElem?_set] at ht
            by_cases hit : i = t
            · subst hit
              rw [if_pos rfl, if_pos (by omega)] at ht
              cases ht
              simp
            · rw [if_neg hit] at ht
              rw [hp t y ht]
              simp only [decide_eq_decide]; omega
          · have c1' : ¬ (i : Int) < held := by omega
            simp only [go_sem, ↓reduceIte, Nat.reduceEqDiff, Nat.reduceBEq, Nat.reduceAdd, Nat.reduceSub, Nat.reduceLT, Nat.reduceLeDiff, Int.reduceLT, Int.reduceLE, Int.reduceToNat, e15, e8, e5, c1']
            refine ⟨_, _, o, hO, fun t y ht => ?_⟩
            have := (List.getElem?_eq_some_iff.1 ht).1
            rw [hp t y ht]; simp; omega
        · clear hle hf hall hcf hO o O k e8 e5 e h
          rintro e h ⟨e8, e5, k, O, o, hO, hp⟩
          have hf := First_ok 0 h 0 k O o (by omega)
          have hkn := known21_ok 0 h
          cases O with
          | nil =>
            obtain rfl : held = 0 := hO.symm
            simp only [firstFree] at hf
            have z1 : decide ((-1 : Int) = 0) = false := by decide
            have z2 : decide ((0 : Int) < ((0 : Nat) : Int)) = false := by decide
            simp only [B6R6, go_sem, ↓reduceIte, Nat.reduceEqDiff, Nat.reduceBEq, Nat.reduceAdd, Nat.reduceSub, Nat.reduceLT, Nat.reduceLeDiff, Int.reduceLT, Int.reduceLE, Int.reduceToNat, e8, e5, hf, hkn, z1, z2]
          | cons y O =>
            have hy := hp 0 y rfl
            have hf0 : firstFree (y :: O) 0 = 0 := by simp [firstFree, hy]
            rw [hf0] at hf
            have hhp : (held : Int) > 0 := by simp at hO; omega
            simp only [B6R6, go_sem, ↓reduceIte, Nat.reduceEqDiff, Nat.reduceBEq, Nat.reduceAdd, Nat.reduceSub, Nat.reduceLT, Nat.reduceLeDiff, Int.reduceLT, Int.reduceLE, Int.reduceToNat, e8, e5, hf, hkn, hhp]
        all_goals simp only [go_sem, ↓reduceIte, Nat.reduceEqDiff, Nat.reduceBEq, Nat.reduceAdd, Nat.reduceSub, Nat.reduceLT, Nat.reduceLeDiff, Int.reduceLT, Int.reduceLE, Int.reduceToNat, e8, e5]
        all_goals rfl
      rotate_right 1
      · intro x hx _
        obtain ⟨j, _, hj⟩ := hr.2 x hx
        rw [hj]; simp only [pl]; omega
      all_goals simp only [go_sem, ↓reduceIte, Nat.reduceEqDiff, Nat.reduceBEq, Nat.reduceAdd, Nat.reduceSub, Nat.reduceLT, Nat.reduceLeDiff, Int.reduceLT, Int.reduceLE, Int.reduceToNat, e8, e6, e5, e0']
      all_goals rfl
    all_goals simp only [go_sem, ↓reduceIte, Nat.reduceEqDiff, Nat.reduceBEq, Nat.reduceAdd, Nat.reduceSub, Nat.reduceLT, Nat.reduceLeDiff, Int.reduceLT, Int.reduceLE, Int.reduceToNat, e6, e5, e0', e1']
    all_goals rfl
  all_goals simp only [go_sem, ↓reduceIte, Nat.reduceEqDiff, Nat.reduceBEq, Nat.reduceAdd, Nat.reduceSub, Nat.reduceLT, Nat.reduceLeDiff, Int.reduceLT, Int.reduceLE, Int.reduceToNat]
  all_goals rfl
end Go.Proofs.Yteeabacgcnbnbaa
