/- Slots: what the program's functions compute. Conditions: none. -/
import Derived.Test.YteeabacgcnbnbaaCB
import Derived.Test.YteeabacgcnbnbaaCM7
namespace Go.Proofs.Yteeabacgcnbnbaa
open Go Go.Vm Go.Proofs Go.Cl
set_option linter.unusedSimpArgs false
set_option linter.unusedVariables false
/-- What is known otherwise. -/
def pr : CF := fun f vs h => match f with
  | 33 => cloneV vs h
  | _ => none
noncomputable abbrev R (b : Nat) : CF := run fns pr b

theorem clone_run (b : Nat) (vs : List V) (h : Hp) : R b 33 vs h = cloneV vs h := by
  rw [R, run_pr fns pr rfl]; rfl

theorem clone_R {b : Nat} {h : Hp} {x : V} {l : Bs} (hb : BR h x l) (hl : l.length ≤ 140737488355328) : run fns pr b 33 [x] h = some (cv h l, h ++ ct l) := by
  rw [run_pr fns pr rfl]; exact clone_eq hb hl

theorem right_ok (b : Nat) (h : Hp) (n : Int) : R b 31 [.s (.int .i64 n)] h = some (.s (.bool (decide (0 ≤ n) && decide (n < 10))), h) := by
  refine Vm.runP (nt := 9) rfl fit31 (by simp) ?_
  by_cases h0 : 0 ≤ n
  · simp only [B31, go_sem, ↓reduceIte, Nat.reduceEqDiff, Nat.reduceBEq, Nat.reduceAdd, Nat.reduceSub, Nat.reduceLT, Nat.reduceLeDiff, Int.reduceLT, Int.reduceLE, Int.reduceToNat, h0]
  · simp only [B31, go_sem, ↓reduceIte, Nat.reduceEqDiff, Nat.reduceBEq, Nat.reduceAdd, Nat.reduceSub, Nat.reduceLT, Nat.reduceLeDiff, Int.reduceLT, Int.reduceLE, Int.reduceToNat, h0]

def SlR (h : Hp) (v : V) (s : Option Bs) : Prop := ∃ x, v = .st 60 [.s (.bool s.isSome), x] ∧ BR h x (s.getD [])
def SlsR (h : Hp) (vs : List V) (ss : List (Option Bs)) : Prop := vs.length = ss.length ∧ ∀ (i : Nat) v s, vs[i]? = some v → ss[i]? = some s → SlR h v s
theorem SlR.mono {S : List Nat} {h h' : Hp} {v : V} {s : Option Bs} (hs : SlR h v s) (f : Fw S h h') : SlR h' v s := by
  obtain ⟨x, h1, h2⟩ := hs; exact ⟨x, h1, h2.mono f⟩
theorem SlsR.mono {S : List Nat} {h h' : Hp} {v : List V} {s : List (Option Bs)} (hs : SlsR h v s) (f : Fw S h h') : SlsR h' v s :=
  ⟨hs.1, fun i v s h1 h2 => (hs.2 i v s h1 h2).mono f⟩
theorem SlsR.set {h : Hp} {vs : List V} {ss : List (Option Bs)} {v : V} {s : Option Bs} (hs : SlsR h vs ss) (hv : SlR h v s) (i : Nat) : SlsR h (vs.set i v) (ss.set i s) := by
  refine ⟨by simp [hs.1], fun j w t h1 h2 => ?_⟩
  rw [List.getElem?_set] at h1 h2
  split at h1
  · rename_i he; subst he
    rw [if_pos rfl] at h2
    split at h1
    · cases h1; rw [if_pos (by rw [← hs.1]; assumption)] at h2; cases h2; exact hv
    · cases h1
  · rename_i he
    rw [if_neg he] at h2
    exact hs.2 j w t h1 h2
theorem SlsR.get {h : Hp} {vs : List V} {ss : List (Option Bs)} (hs : SlsR h vs ss) {i : Nat} (hi : i < ss.length) : ∃ x, vs[i]? = some (.st 60 [.s (.bool (ss.getD i none).isSome), x]) ∧ BR h x ((ss.getD i none).getD []) := by
  have h1 : vs[i]? = some (vs[i]'(by rw [hs.1]; exact hi)) := List.getElem?_eq_getElem (by rw [hs.1]; exact hi)
  have h2 : ss[i]? = some ss[i] := List.getElem?_eq_getElem hi
  obtain ⟨x, h3, h4⟩ := hs.2 i _ _ h1 h2
  rw [List.getD_eq_getElem?_getD, h2]
  exact ⟨x, by rw [h1, h3]; rfl, h4⟩

/-- Where a disk lies. -/
def DR (h : Hp) (id : Nat) (D : Dk) : Prop := ∃ nv lv x, h[id]? = some (.cells (some 63) [.st 63 [.arr 62 nv, .arr 62 lv, .s (.int .i64 D.pend), .s (.int .i64 D.at_), x]]) ∧
  SlsR h nv D.now ∧ SlsR h lv D.lasts ∧ BR h x D.last ∧ D.OK
theorem DR.mono {S : List Nat} {h h' : Hp} {id : Nat} {D : Dk} (hd : DR h id D) (f : Fw S h h') (hi : id ∉ S) : DR h' id D := by
  obtain ⟨nv, lv, x, h1, h2, h3, h4, h5⟩ := hd
  exact ⟨nv, lv, x, f.old _ _ h1 hi, h2.mono f, h3.mono f, h4.mono f, h5⟩
theorem DR.lt {h : Hp} {id : Nat} {D : Dk} (hd : DR h id D) : id < h.length := by
  obtain ⟨nv, lv, x, h1, _⟩ := hd; exact lt_of_get h1
theorem DR.ok {h : Hp} {id : Nat} {D : Dk} (hd : DR h id D) : D.OK := by
  obtain ⟨nv, lv, x, _, _, _, _, h⟩ := hd; exact h

def Z60 : V := .st 60 [.s (.bool false), .imm false none []]
theorem new_ok (b : Nat) (h : Hp) : ∃ v h', R b 10 [] h = some (v, h') ∧ v = .ptr h.length [0] 1 ∧ DR h' h.length Dk.new ∧ Fw [] h h' := by
  refine Vm.runQ (nt := 3) rfl fit10 (by simp) ?_
  simp only [B10, go_sem, ↓reduceIte, Nat.reduceEqDiff, Nat.reduceBEq, Nat.reduceAdd, Nat.reduceSub, Nat.reduceLT, Nat.reduceLeDiff, Int.reduceLT, Int.reduceLE, Int.reduceToNat]
  refine ⟨⟨List.replicate 10 Z60, List.replicate 10 Z60, _, get_app0 _ _, ?_, ?_, BR_nil _ _, Dk.new_ok⟩, Fw.app _ _ _⟩
  all_goals
    refine ⟨by simp [Dk.new], fun i v s h1 h2 => ?_⟩
    simp only [Dk.new, List.getElem?_replicate] at h1 h2
    split at h1
    · rename_i hi
      rw [if_pos hi] at h2
      cases h1; cases h2
      exact ⟨_, rfl, BR_nil _ _⟩
    · cases h1

theorem slot_ok (b : Nat) (h : Hp) (y : V) (l : Bs) (hb : b ≤ h.length) (hy : BR h y l) (hl : l.length ≤ 140737488355328) : ∃ v h', R b 32 [y] h = some (v, h') ∧ SlR h' v (some l) ∧ Fw [] h h' ∧
    (l ≠ [] → ∃ k, h.length ≤ k ∧ v = .st 60 [.s (.bool true), .ref k [] none 0 l.length l.length] ∧ h'[k]? = some (.cells none (l.map byteV))) := by
  refine Vm.runQ (nt := 6) rfl fit32 (by simp) ?_
  obtain ⟨x, t, hc, hx, hcase⟩ := clone_ok (h := h ++ [.cells (some 60) [Z60]]) (hy.mono (Fw.app [] _ _)) hl
  have hrun := clone_run b [y] (h ++ [.cells (some 60) [Z60]])
  rw [hc] at hrun
  unfold Z60 at hrun
  simp only [B32, go_sem, ↓reduceIte, Nat.reduceEqDiff, Nat.reduceBEq, Nat.reduceAdd, Nat.reduceSub, Nat.reduceLT, Nat.reduceLeDiff, Int.reduceLT, Int.reduceLE, Int.reduceToNat, hrun, List.append_assoc, hx.ty, hx.solid, hb]
  refine ⟨⟨x, rfl, ?_⟩, Fw.app _ _ _, fun hne => ?_⟩
  · rcases hcase with ⟨rfl, rfl, rfl⟩ | ⟨rfl, rfl⟩
    · exact BR_nil _ _
    · refine BR_ref ?_ rfl
      rw [List.length_append, get_app]; rfl
  · rcases hcase with ⟨rfl, rfl, rfl⟩ | ⟨rfl, rfl⟩
    · exact absurd rfl hne
    · refine ⟨_, ?_, rfl, ?_⟩
      · simp
      · rw [List.length_append, get_app]; rfl

theorem wrap_small {n : Nat} (h : n < 4611686018427387904) : IntKind.i64.wrap ((n : Int) + 1) = ((n + 1 : Nat) : Int) := by
  rw [wrap_i64 (by omega) (by omega)]; omega

/-- The disk's block turned: what else there is stays. -/
theorem DR.fw {h : Hp} {id : Nat} {D : Dk} (hd : DR h id D) (es : List V) : Fw [id] h (h.set id (.cells (some 63) es)) := by
  obtain ⟨nv, lv, x, hg, _⟩ := hd
  exact Fw.set (by simp) hg

theorem Put_ok (b : Nat) (h : Hp) (id : Nat) (D : Dk) (n : Int) (y : V) (l : Bs) (hb : b ≤ id) (hd : DR h id D) (hy : BR h y l) (hl : l.length ≤ 140737488355328) (hp : D.pend < 4611686018427387904) :
    ∃ v h', R b 11 [.ptr id [0] 1, .s (.int .i64 n), y] h = some (v, h') ∧ v = .s (.bool (Dk.takes n l)) ∧ DR h' id (if Dk.takes n l = true then D.put n.toNat l else D) ∧ Fw [id] h h' := by
  have hr := right_ok b h n
  have hly := fun h0 => hy.o_len (cf := run fns pr b) (base := b) (h := h0)
  refine Vm.runQ (nt := 38) rfl fit11 (by simp) ?_
  by_cases ht : Dk.takes n l = true
  · have ht' := ht
    simp only [Dk.takes, Bool.and_eq_true, decide_eq_true_eq] at ht'
    obtain ⟨⟨h0, h1⟩, h2⟩ := ht'
    obtain ⟨m, rfl⟩ : ∃ m : Nat, n = m := ⟨n.toNat, by omega⟩
    have hle : ¬ (8192 : Int) < l.length := by omega
    obtain ⟨v1, k1, e1, hs1, f1, _⟩ := slot_ok b h y l (by have := hd.lt; omega) hy hl
    have hd1 := hd.mono f1 (by simp)
    have hfw := hd1.fw
    obtain ⟨nv, lv, x, hg, r1, r2, r3, r4⟩ := hd
    have hg1 := f1.old _ _ hg (by simp)
    obtain ⟨x0, hx0, _⟩ := r1.get (i := m) (by rw [r4.now]; omega)
    have hnl : (m : Int) < nv.length := by rw [r1.1, r4.now]; omega
    obtain ⟨xs, rfl, hxs⟩ := hs1
    have hw := wrap_small hp
    have hlt1 := lt_of_get hg1
    have hx0' := r3.ty
    have hcl := fun es => clone_R (b := b) (h := k1.set id (.cells (some 63) es)) (x := y) ((hy.mono f1).mono (hfw es)) hl
    simp only [B11, go_sem, ↓reduceIte, Nat.reduceEqDiff, Nat.reduceBEq, Nat.reduceAdd, Nat.reduceSub, Nat.reduceLT, Nat.reduceLeDiff, Int.reduceLT, Int.reduceLE, Int.reduceToNat, hr, hly, h0, h1, hle, e1, hg, okAt, hg1, hnl, hx0, hb, hw, hlt1, hcl, cv_ty, cv_solid, hx0']
    have F := fun es => f1.mono (T := [id]) (by simp) |>.trans ((hfw es).trans (Fw.app [id] _ (ct l)))
    have F1 := fun es => ((hfw es).trans (Fw.app [id] _ (ct l)))
    refine ⟨by rw [ht], ?_, F _⟩
    rw [if_pos ht]
    refine ⟨_, _, _, get_old (set_get hg1) _, ((r1.mono (F _)).set ⟨xs, rfl, hxs.mono (F1 _)⟩ m), r2.mono (F _), ?_, Dk.put_ok r4 (by omega) h2⟩
    exact cv_BR' (by rw [List.length_set, List.length_set]) l
  · have ht' := ht
    simp only [Bool.not_eq_true] at ht'
    simp only [ht', Bool.false_eq_true, if_false]
    by_cases h0 : 0 ≤ n
    · by_cases h1 : n < 10
      · have hle : (8192 : Int) < l.length := by simp [Dk.takes, h0, h1] at ht'; omega
        simp only [B11, go_sem, ↓reduceIte, Nat.reduceEqDiff, Nat.reduceBEq, Nat.reduceAdd, Nat.reduceSub, Nat.reduceLT, Nat.reduceLeDiff, Int.reduceLT, Int.reduceLE, Int.reduceToNat, hr, hly, h0, h1, hle]
        exact ⟨hd, Fw.refl _ _⟩
      · simp only [B11, go_sem, ↓reduceIte, Nat.reduceEqDiff, Nat.reduceBEq, Nat.reduceAdd, Nat.reduceSub, Nat.reduceLT, Nat.reduceLeDiff, Int.reduceLT, Int.reduceLE, Int.reduceToNat, hr, hly, h0, h1]
        exact ⟨hd, Fw.refl _ _⟩
    · simp only [B11, go_sem, ↓reduceIte, Nat.reduceEqDiff, Nat.reduceBEq, Nat.reduceAdd, Nat.reduceSub, Nat.reduceLT, Nat.reduceLeDiff, Int.reduceLT, Int.reduceLE, Int.reduceToNat, hr, hly, h0]
      exact ⟨hd, Fw.refl _ _⟩

theorem Put_yes (b : Nat) (h : Hp) (id : Nat) (D : Dk) (n : Int) (y : V) (l : Bs) (hb : b ≤ id) (hd : DR h id D) (hy : BR h y l) (hl : l.length ≤ 8192) (hp : D.pend < 4611686018427387904) (h0 : 0 ≤ n) (h1 : n < 10) :
    ∃ h', run fns pr b 11 [.ptr id [0] 1, .s (.int .i64 n), y] h = some (.s (.bool true), h') ∧ DR h' id (D.put n.toNat l) ∧ Fw [id] h h' := by
  obtain ⟨v, h', e, rfl, d, f⟩ := Put_ok b h id D n y l hb hd hy (by omega) hp
  have ht : Dk.takes n l = true := by simp [Dk.takes, h0, h1, hl]
  rw [ht] at e
  rw [if_pos ht] at d
  exact ⟨h', e, d, f⟩
theorem Put_no (b : Nat) (h : Hp) (id : Nat) (D : Dk) (n : Int) (y : V) (l : Bs) (hb : b ≤ id) (hd : DR h id D) (hy : BR h y l) (hl : l.length ≤ 140737488355328) (hp : D.pend < 4611686018427387904) (h0 : Dk.takes n l = false) :
    ∃ h', run fns pr b 11 [.ptr id [0] 1, .s (.int .i64 n), y] h = some (.s (.bool false), h') ∧ DR h' id D ∧ Fw [id] h h' := by
  obtain ⟨v, h', e, rfl, d, f⟩ := Put_ok b h id D n y l hb hd hy hl hp
  rw [h0] at e
  rw [if_neg (by rw [h0]; simp)] at d
  exact ⟨h', e, d, f⟩

theorem Sync_ok (b : Nat) (h : Hp) (id : Nat) (D : Dk) (hb : b ≤ id) (hd : DR h id D) : ∃ v h', R b 14 [.ptr id [0] 1] h = some (v, h') ∧ v = .tup [] ∧ DR h' id D.sync ∧ Fw [id] h h' := by
  refine Vm.runQ (nt := 12) rfl fit14 (by simp) ?_
  have hfw := hd.fw
  obtain ⟨nv, lv, x, hg, r1, r2, r3, r4⟩ := hd
  have hlt := lt_of_get hg
  simp only [B14, go_sem, ↓reduceIte, Nat.reduceEqDiff, Nat.reduceBEq, Nat.reduceAdd, Nat.reduceSub, Nat.reduceLT, Nat.reduceLeDiff, Int.reduceLT, Int.reduceLE, Int.reduceToNat, hg, hb, hlt]
  exact ⟨⟨_, _, _, set_get hg, r1.mono (hfw _), r1.mono (hfw _), r3.mono (hfw _), Dk.sync_ok r4⟩, hfw _⟩

theorem Pending_ok (b : Nat) (h : Hp) (id : Nat) (D : Dk) (hd : DR h id D) : R b 34 [.ptr id [0] 1] h = some (.s (.int .i64 D.pend), h) := by
  refine Vm.runP (nt := 7) rfl fit34 (by simp) ?_
  obtain ⟨nv, lv, x, hg, r1, r2, r3, r4⟩ := hd
  simp only [B34, go_sem, ↓reduceIte, Nat.reduceEqDiff, Nat.reduceBEq, Nat.reduceAdd, Nat.reduceSub, Nat.reduceLT, Nat.reduceLeDiff, Int.reduceLT, Int.reduceLE, Int.reduceToNat, hg]

theorem Get_ok (b : Nat) (h : Hp) (id : Nat) (D : Dk) (n : Int) (hd : DR h id D) :
    R b 17 [.ptr id [0] 1, .s (.int .i64 n)] h = some (.tup [.imm false none (((D.get n).getD []).map byteV), .s (.bool (D.get n).isSome)], h) := by
  have hr := right_ok (h.length) h n
  refine Vm.runP (nt := 27) rfl fit17 (by simp) ?_
  obtain ⟨nv, lv, x, hg, r1, r2, r3, r4⟩ := hd
  by_cases h0 : 0 ≤ n
  · by_cases h1 : n < 10
    · obtain ⟨m, rfl⟩ : ∃ m : Nat, n = m := ⟨n.toNat, by omega⟩
      obtain ⟨x0, hx0, hb0⟩ := r1.get (i := m) (by rw [r4.now]; omega)
      have hnl : (m : Int) < nv.length := by rw [r1.1, r4.now]; omega
      have hget : D.get m = D.now.getD m none := by simp [Dk.get]; omega
      have hsm := r4.ns m
      rw [hget]
      have hx0t := hb0.ty
      cases hc : D.now.getD m none with
      | none =>
        rw [hc] at hx0
        simp only [B17, go_sem, ↓reduceIte, Nat.reduceEqDiff, Nat.reduceBEq, Nat.reduceAdd, Nat.reduceSub, Nat.reduceLT, Nat.reduceLeDiff, Int.reduceLT, Int.reduceLE, Int.reduceToNat, hr, h0, h1, hg, hx0, hnl]
      | some l =>
        rw [hc] at hx0 hb0 hsm
        have hcl := clone_R (b := h.length) hb0 (by omega)
        have hcf := cv_frz h.length h l (Nat.le_refl _)
        simp only [B17, go_sem, ↓reduceIte, Nat.reduceEqDiff, Nat.reduceBEq, Nat.reduceAdd, Nat.reduceSub, Nat.reduceLT, Nat.reduceLeDiff, Int.reduceLT, Int.reduceLE, Int.reduceToNat, hr, h0, h1, hg, hx0, hnl, hx0t, hcl, hcf]
    · have hget : D.get n = none := by simp [Dk.get]; omega
      rw [hget]
      simp only [B17, go_sem, ↓reduceIte, Nat.reduceEqDiff, Nat.reduceBEq, Nat.reduceAdd, Nat.reduceSub, Nat.reduceLT, Nat.reduceLeDiff, Int.reduceLT, Int.reduceLE, Int.reduceToNat, hr, h0, h1, hg]
  · have hget : D.get n = none := by simp [Dk.get]; omega
    rw [hget]
    simp only [B17, go_sem, ↓reduceIte, Nat.reduceEqDiff, Nat.reduceBEq, Nat.reduceAdd, Nat.reduceSub, Nat.reduceLT, Nat.reduceLeDiff, Int.reduceLT, Int.reduceLE, Int.reduceToNat, hr, h0, hg]

theorem Crash_ok (b : Nat) (h : Hp) (id : Nat) (D : Dk) (t : Int) (hb : b ≤ id) (hd : DR h id D) : ∃ v h', R b 16 [.ptr id [0] 1, .s (.int .i64 t)] h = some (v, h') ∧ v = .tup [] ∧ DR h' id (D.crash t) ∧ Fw [id] h h' := by
  refine Vm.runQ (nt := 43) rfl fit16 (by simp) ?_
  have hfw := hd.fw
  have hd0 := hd
  obtain ⟨nv, lv, x, hg, r1, r2, r3, r4⟩ := hd
  have hlt := lt_of_get hg
  have hx0' := r3.ty
  -- the state behind the first statement
  let es : List V := [.st 63 [.arr 62 lv, .arr 62 lv, .s (.int .i64 D.pend), .s (.int .i64 D.at_), x]]
  let h1 := h.set id (.cells (some 63) es)
  have d1 : DR h1 id { D with now := D.lasts } := ⟨_, _, _, set_get hg, r2.mono (hfw _), r2.mono (hfw _), r3.mono (hfw _), ⟨r4.lasts, r4.lasts, r4.at_, r4.ls, r4.ls, r4.last⟩⟩
  by_cases hp : 0 < D.pend
  · by_cases ht : 0 < t
    · obtain ⟨m, rfl⟩ : ∃ m : Nat, t = m := ⟨t.toNat, by omega⟩
      have hp' : (0 : Int) < D.pend := by omega
      have hmin : min (m : Int) (D.last.length : Int) = ((min m D.last.length : Nat) : Int) := by omega
      have hb1 : BR h1 x D.last := r3.mono (hfw es)
      have hl1 := fun h0 => hb1.o_len (cf := run fns pr b) (base := b) (h := h0)
      obtain ⟨y, hy, hyb⟩ := hb1.hi (k := .i64) (r := min m D.last.length) (Nat.min_le_right _ _)
      have hll := r4.last
      obtain ⟨v2, h2, e2, ⟨xs, rfl, hxs⟩, f2, _⟩ := slot_ok b h1 y _ (by have := hd0.lt; simp [h1]; omega) hyb (by simp; omega)
      have d2 := d1.mono f2 (by simp)
      have hfw2 := d2.fw
      have hg2 := f2.old _ _ (set_get hg) (by simp)
      have hlt2 := lt_of_get hg2
      have hat := r4.at_
      obtain ⟨x0, hx0, _⟩ := r2.get (i := D.at_) (by rw [r4.lasts]; omega)
      have hnl : (D.at_ : Int) < lv.length := by rw [r2.1, r4.lasts]; omega
      have hn0 : (0 : Int) ≤ D.at_ := by omega
      simp only [h1, es] at hy e2 hg2
      simp only [B16, go_sem, ↓reduceIte, Nat.reduceEqDiff, Nat.reduceBEq, Nat.reduceAdd, Nat.reduceSub, Nat.reduceLT, Nat.reduceLeDiff, Int.reduceLT, Int.reduceLE, Int.reduceToNat, hg, hb, hlt, hp', ht, hx0', hl1, hmin, hy, e2, okAt, hg2, hx0, hnl, hlt2, hn0]
      have G := fun es' => ((hfw es).trans (f2.mono (T := [id]) (by simp))).trans (hfw2 es')
      have d3 := (⟨_, _, _, set_get hg2, ((r2.mono (G _)).set ⟨xs, rfl, hxs.mono (hfw2 _)⟩ D.at_), r2.mono (G _), r3.mono (G _),
        ⟨by simp [r4.lasts], r4.lasts, r4.at_, small_set r4.ls _ (by simp; omega), r4.ls, r4.last⟩⟩ : DR (h2.set id (.cells (some 63) [.st 63 [.arr 62 (lv.set D.at_ (.st 60 [.s (.bool true), xs])), .arr 62 lv, .s (.int .i64 D.pend), .s (.int .i64 D.at_), x]])) id ⟨D.lasts.set D.at_ (some (D.last.take (min m D.last.length))), D.lasts, D.pend, D.at_, D.last⟩)
      obtain ⟨v4, h4, e4, rfl, d4, f4⟩ := Sync_ok b _ id _ hb d3
      simp only [go_sem, ↓reduceIte, Nat.reduceEqDiff, Nat.reduceBEq, Nat.reduceAdd, Nat.reduceSub, Nat.reduceLT, Nat.reduceLeDiff, Int.reduceLT, Int.reduceLE, Int.reduceToNat, e4]
      refine ⟨?_, (G _).trans f4⟩
      have : D.crash m = Dk.sync ⟨D.lasts.set D.at_ (some (D.last.take (min m D.last.length))), D.lasts, D.pend, D.at_, D.last⟩ := by
        have : D.last.take (min m D.last.length) = D.last.take m := by rw [← List.take_eq_take_min]
        simp only [Dk.crash, Dk.torn, Dk.sync, hp, ht, and_self, if_true, Int.toNat_natCast, this]
      rw [this]; exact d4
    · obtain ⟨v2, h2, e2, rfl, d2, f2⟩ := Sync_ok b h1 id _ hb d1
      have hp' : (0 : Int) < D.pend := by omega
      simp only [h1, es] at e2
      simp only [B16, go_sem, ↓reduceIte, Nat.reduceEqDiff, Nat.reduceBEq, Nat.reduceAdd, Nat.reduceSub, Nat.reduceLT, Nat.reduceLeDiff, Int.reduceLT, Int.reduceLE, Int.reduceToNat, hg, hb, hlt, hp', ht, e2]
      refine ⟨?_, (hfw es).trans f2⟩
      have : D.crash t = Dk.sync { D with now := D.lasts } := by simp [Dk.crash, Dk.torn, Dk.sync, ht]
      rw [this]; exact d2
  · obtain ⟨v2, h2, e2, rfl, d2, f2⟩ := Sync_ok b h1 id _ hb d1
    have hp' : ¬ (0 : Int) < D.pend := by omega
    simp only [h1, es] at e2
    simp only [B16, go_sem, ↓reduceIte, Nat.reduceEqDiff, Nat.reduceBEq, Nat.reduceAdd, Nat.reduceSub, Nat.reduceLT, Nat.reduceLeDiff, Int.reduceLT, Int.reduceLE, Int.reduceToNat, hg, hb, hlt, hp', e2]
    refine ⟨?_, (hfw es).trans f2⟩
    have : D.crash t = Dk.sync { D with now := D.lasts } := by simp [Dk.crash, Dk.torn, Dk.sync, hp]
    rw [this]; exact d2

theorem Copy_ok (b : Nat) (h : Hp) (id : Nat) (D : Dk) (hb : b ≤ h.length) (hd : DR h id D) : ∃ v h', R b 15 [.ptr id [0] 1] h = some (v, h') ∧ v = .ptr h.length [0] 1 ∧ DR h' h.length D.copy ∧ Fw [] h h' := by
  refine Vm.runQ (nt := 29) rfl fit15 (by simp) ?_
  obtain ⟨v1, h1, e1, rfl, d1, f1⟩ := new_ok b h
  have hid := hd.lt
  have hd1 := hd.mono f1 (by simp)
  have hl1 := d1.lt
  obtain ⟨nv, lv, x, hg, r1, r2, r3, r4⟩ := hd1
  simp only [B15, B15R0, B15L0, go_sem, ↓reduceIte, Nat.reduceEqDiff, Nat.reduceBEq, Nat.reduceAdd, Nat.reduceSub, Nat.reduceLT, Nat.reduceLeDiff, Int.reduceLT, Int.reduceLE, Int.reduceToNat, e1, hg]
  refine wp_while (fun n e h' => ∃ i, n = 10 - i ∧ i ≤ 10 ∧ e 11 = .s (.int .i64 (i : Nat)) ∧ e 10 = .arr 62 nv ∧ e 3 = .ptr h.length [0] 1 ∧ Fw [h.length] h1 h' ∧
    ∃ l, DR h' h.length ⟨l, List.replicate 10 none, 0, 0, []⟩ ∧ ∀ j, j < 10 → l.getD j none = if j < i then D.now.getD j none else none) ?_ 10 _ _ ⟨0, rfl, by omega, ?_, ?_, ?_, Fw.refl _ _, _, d1, fun j hj => by rw [getD_rep]; simp⟩
  · rintro n e h' ⟨i, rfl, hi, e11, e10, e3, f2, l, d2, hl⟩
    have hb' : b ≤ h'.length := Nat.le_trans hb (Nat.le_of_lt d2.lt)
    by_cases hlt : i < 10
    · have hlt' : (i : Int) < 10 := by omega
      have hi0 : (0 : Int) ≤ i := by omega
      have hw : IntKind.i64.wrap ((i : Int) + 1) = ((i + 1 : Nat) : Int) := wrap_small (by omega)
      obtain ⟨x0, hx0, hb0⟩ := (r1.mono f2).get (i := i) (by rw [r4.now]; omega)
      have hxt := hb0.ty
      cases hc : D.now.getD i none with
      | none =>
        rw [hc] at hx0
        simp only [go_sem, ↓reduceIte, Nat.reduceEqDiff, Nat.reduceBEq, Nat.reduceAdd, Nat.reduceSub, Nat.reduceLT, Nat.reduceLeDiff, Int.reduceLT, Int.reduceLE, Int.reduceToNat, e11, e10, e3, hlt', hi0, hx0, hb', hxt, hw]
        refine ⟨10 - (i + 1), by omega, i + 1, rfl, by omega, rfl, f2.trans (Fw.app _ _ _), l, d2.mono (Fw.app [] _ _) (by simp), fun j hj => ?_⟩
        rw [hl j hj]
        by_cases hji : j = i
        · subst hji; rw [if_neg (by omega), if_pos (by omega), hc]
        · have : j < i + 1 ↔ j < i := by omega
          simp only [this]
      | some l0 =>
        rw [hc] at hx0 hb0
        have hsm := r4.ns i
        rw [hc] at hsm
        let es : List V := [.st 60 [.s (.bool true), x0]]
        obtain ⟨v3, h3, e3', ⟨xs, rfl, hxs⟩, f3, _⟩ := slot_ok b (h' ++ [.cells (some 60) es]) x0 l0 (by simp; omega) (hb0.mono (Fw.app [] _ _)) (by simp at hsm; omega)
        have d3 := (d2.mono (Fw.app [] h' [.cells (some 60) es]) (by simp)).mono f3 (by simp)
        have d3' := d2.mono (Fw.app [] h' [.cells (some 60) es]) (by simp)
        have hfw3 := d3.fw
        obtain ⟨nv3, lv3, x3, hg3, p1, p2, p3, p4⟩ := d3'
        have hg3' := f3.old _ _ hg3 (by simp)
        have hlt3 := lt_of_get hg3'
        have hlt2 := d2.lt
        obtain ⟨y0, hy0, _⟩ := p1.get (i := i) (by rw [p4.now]; omega)
        have hnl : (i : Int) < nv3.length := by rw [p1.1, p4.now]; omega
        have hlen3 := f3.len
        simp only [es] at e3' hg3
        simp only [go_sem, ↓reduceIte, Nat.reduceEqDiff, Nat.reduceBEq, Nat.reduceAdd, Nat.reduceSub, Nat.reduceLT, Nat.reduceLeDiff, Int.reduceLT, Int.reduceLE, Int.reduceToNat, e11, e10, e3, hlt', hi0, hx0, hb', hxt, hw, e3', okAt, hg3, hg3', hy0, hnl, hlt3, hb, List.length_append]
        have F4 := fun es' => (f2.trans (((Fw.app [h.length] h' _).trans (f3.mono (by simp))).trans (hfw3 es')))
        have F5 := fun es' => ((f3.mono (T := [h.length]) (by simp)).trans (hfw3 es'))
        refine ⟨10 - (i + 1), by omega, i + 1, rfl, by omega, rfl, F4 _, l.set i (some l0), ⟨_, _, _, set_get hg3', (p1.mono (F5 _)).set ⟨xs, rfl, hxs.mono (hfw3 _)⟩ i, p2.mono (F5 _), p3.mono (F5 _), ?_⟩, fun j hj => ?_⟩
        · exact ⟨by simpa using p4.now, p4.lasts, p4.at_, small_set p4.ns i (by simpa using hsm), p4.ls, p4.last⟩
        · rw [getD_set, p4.now]
          by_cases hji : i = j
          · subst hji; rw [if_pos ⟨rfl, hlt⟩, if_pos (by omega), hc]
          · have : j < i + 1 ↔ j < i := by omega
            rw [if_neg (fun h => hji h.1), hl j hj]
            simp only [this]
    · have hlt' : ¬ (i : Int) < 10 := by omega
      have hi10 : i = 10 := by omega
      subst hi10
      obtain ⟨v5, h5, e5, rfl, d5, f5⟩ := Sync_ok b h' h.length _ hb d2
      simp only [go_sem, ↓reduceIte, Nat.reduceEqDiff, Nat.reduceBEq, Nat.reduceAdd, Nat.reduceSub, Nat.reduceLT, Nat.reduceLeDiff, Int.reduceLT, Int.reduceLE, Int.reduceToNat, e11, e10, e3, hlt', e5]
      refine ⟨?_, f1.new (f2.trans f5) (by simp)⟩
      have hc : D.copy = Dk.sync ⟨l, List.replicate 10 none, 0, 0, []⟩ := by
        have : l = D.now := by
          refine List.ext_getElem (by rw [d2.ok.now, r4.now]) fun j h1 h2 => ?_
          have h3 := hl j (by rw [d2.ok.now] at h1; exact h1)
          have h4 : j < 10 := by rw [d2.ok.now] at h1; exact h1
          rw [if_pos h4, List.getD_eq_getElem?_getD, List.getD_eq_getElem?_getD, List.getElem?_eq_getElem h1, List.getElem?_eq_getElem h2] at h3
          exact h3
        rw [this]; rfl
      rw [hc]; exact d5
  all_goals simp only [go_sem, ↓reduceIte, Nat.reduceEqDiff, Nat.reduceBEq, Nat.reduceAdd, Nat.reduceSub, Nat.reduceLT, Nat.reduceLeDiff, Int.reduceLT, Int.reduceLE, Int.reduceToNat]
  rfl

theorem Turn_ok (b : Nat) (h : Hp) (id : Nat) (D : Dk) (n k : Int) (hb : b ≤ id) (hd : DR h id D) : ∃ v h', R b 20 [.ptr id [0] 1, .s (.int .i64 n), .s (.int .i64 k)] h = some (v, h') ∧ v = .s (.bool (D.turns n k)) ∧ DR h' id (if D.turns n k = true then D.turn n.toNat k.toNat else D) ∧ Fw [id] h h' := by
  have hr := right_ok b h n
  refine Vm.runQ (nt := 62) rfl fit20 (by simp) ?_
  have hd0 := hd
  obtain ⟨nv, lv, x, hg, r1, r2, r3, r4⟩ := hd
  have hlt := lt_of_get hg
  by_cases h0 : 0 ≤ n
  · by_cases h1 : n < 10
    · obtain ⟨m, rfl⟩ : ∃ m : Nat, n = m := ⟨n.toNat, by omega⟩
      obtain ⟨x0, hx0, hb0⟩ := r1.get (i := m) (by rw [r4.now]; omega)
      have hx0t := hb0.ty
      have hnl : (m : Int) < nv.length := by rw [r1.1, r4.now]; omega
      have hll : (m : Int) < lv.length := by rw [r2.1, r4.lasts]; omega
      have hlen := fun h0 => hb0.o_len (cf := run fns pr b) (base := b) (h := h0)
      by_cases hk0 : 0 ≤ k
      · have hk0' : ¬ k < 0 := by omega
        obtain ⟨j, rfl⟩ : ∃ j : Nat, k = j := ⟨k.toNat, by omega⟩
        have hsm := r4.ns m
        have htu : D.turn m j = { D with now := D.now.set m (some (flip ((D.now.getD m none).getD []) j)), lasts := D.lasts.set m (some (flip ((D.now.getD m none).getD []) j)) } := rfl
        have htr : D.turns m j = decide (j < ((D.now.getD m none).getD []).length) := by
          rw [Bool.eq_iff_iff]; simp only [Dk.turns, Bool.and_eq_true, decide_eq_true_eq, Int.toNat_natCast]; omega
        simp only [Int.toNat_natCast, htu, htr]
        generalize (D.now.getD m none).getD [] = L at *
        by_cases hk1 : j < L.length
        · have hk1' : ¬ (L.length : Int) ≤ j := by omega
          obtain ⟨v2, h2, e2, hs2, f2, hne⟩ := slot_ok b h x0 _ (by omega) hb0 (by omega)
          obtain ⟨c, hc1, rfl, hc2⟩ := hne (by intro he; rw [he] at hk1; simp at hk1)
          have hg2 := f2.old _ _ hg (by simp)
          have hlt2 := lt_of_get hg2
          have hltc := lt_of_get hc2
          have hci : c ≠ id := by omega
          have hic : id ≠ c := by omega
          have hnm : m < nv.length := by omega
          have hlj : L[j]? = some (L.getD j 0) := by rw [List.getD_eq_getElem?_getD, List.getElem?_eq_getElem hk1]; rfl
          have hk1n : (j : Int) < (L.length : Int) := by omega
          have hj0 : (0 : Int) ≤ j := by omega
          have hbc : b ≤ c := by omega
          obtain ⟨y0, hy0, _⟩ := r2.get (i := m) (by rw [r4.lasts]; omega)
          simp only [B20, go_sem, ↓reduceIte, Nat.reduceEqDiff, Nat.reduceBEq, Nat.reduceAdd, Nat.reduceSub, Nat.reduceLT, Nat.reduceLeDiff, Int.reduceLT, Int.reduceLE, Int.reduceToNat, hr, h0, h1, hg, hnl, hx0, hk0', hx0t, hlen, hk1', e2, okAt, hg2, hlt2, hb, hnm, hci, hic, hc2, hltc, hlj, hk1, hk1n, hj0, byteV, u8_xor1, hbc, hll, hy0]
          have g1 : Fw [id] h (h2.set id (.cells (some 63) [])) := (f2.mono (by simp)).trans (Fw.set (by simp) hg2)
          have G : ∀ es es' bl, Fw [id] h (((h2.set id (.cells (some 63) es)).set c bl).set id (.cells (some 63) es')) := fun es es' bl => by
            refine Fw.trans (Fw.set_new ((f2.mono (by simp)).trans (Fw.set (by simp) hg2)) hc1 bl) (Fw.set (es := es) (by simp) ?_)
            rw [List.getElem?_set_ne hci]; exact set_get hg2
          have hbl : (L.map byteV).set j (V.s (Value.int IntKind.u8 ↑(L.getD j 0 ^^^ 1).toNat)) = (Cl.flip L j).map byteV := by
            rw [Cl.flip, List.map_set]; rfl
          rw [hbl]
          refine ⟨⟨_, _, _, set_get (b' := .cells (some 63) _) (by rw [List.getElem?_set_ne hci]; exact set_get hg2), (r1.mono (G _ _ _)).set (s := some (Cl.flip L j)) ⟨_, rfl, ?_⟩ m, (r2.mono (G _ _ _)).set (s := some (Cl.flip L j)) ⟨_, rfl, ?_⟩ m, r3.mono (G _ _ _),
            ⟨by simp [r4.now], by simp [r4.lasts], r4.at_, small_set r4.ns m (by simp [Cl.flip]; omega), small_set r4.ls m (by simp [Cl.flip]; omega), r4.last⟩⟩, G _ _ _⟩
          all_goals
            refine BR_ref ?_ (by simp [Cl.flip])
            rw [List.getElem?_set_ne hic]
            exact set_get (b' := .cells none (L.map byteV)) (by rw [List.getElem?_set_ne hic]; exact hc2)
        · have hk1' : (L.length : Int) ≤ j := by omega
          simp only [B20, go_sem, ↓reduceIte, Nat.reduceEqDiff, Nat.reduceBEq, Nat.reduceAdd, Nat.reduceSub, Nat.reduceLT, Nat.reduceLeDiff, Int.reduceLT, Int.reduceLE, Int.reduceToNat, hr, h0, h1, hg, hnl, hx0, hk0', hx0t, hlen, hk1', hk1]
          exact ⟨hd0, Fw.refl _ _⟩
      · have hk0' : k < 0 := by omega
        have ht : D.turns m k = false := by simp [Dk.turns, hk0]
        simp only [B20, go_sem, ↓reduceIte, Nat.reduceEqDiff, Nat.reduceBEq, Nat.reduceAdd, Nat.reduceSub, Nat.reduceLT, Nat.reduceLeDiff, Int.reduceLT, Int.reduceLE, Int.reduceToNat, hr, h0, h1, hk0', ht]
        exact ⟨hd0, Fw.refl _ _⟩
    · have ht : D.turns n k = false := by simp [Dk.turns, h1]
      simp only [B20, go_sem, ↓reduceIte, Nat.reduceEqDiff, Nat.reduceBEq, Nat.reduceAdd, Nat.reduceSub, Nat.reduceLT, Nat.reduceLeDiff, Int.reduceLT, Int.reduceLE, Int.reduceToNat, hr, h0, h1, ht]
      exact ⟨hd0, Fw.refl _ _⟩
  · have ht : D.turns n k = false := by simp [Dk.turns, h0]
    simp only [B20, go_sem, ↓reduceIte, Nat.reduceEqDiff, Nat.reduceBEq, Nat.reduceAdd, Nat.reduceSub, Nat.reduceLT, Nat.reduceLeDiff, Int.reduceLT, Int.reduceLE, Int.reduceToNat, hr, h0, ht]
    exact ⟨hd0, Fw.refl _ _⟩

theorem Equal_ok (b : Nat) (h : Hp) (x y : V) (l m : Bs) (hx : BR h x l) (hy : BR h y m) : R b 35 [x, y] h = some (.s (.bool (decide (l = m))), h) := by
  refine Vm.runP (nt := 10) rfl fit35 (by simp) ?_
  have h1 := hx.o_b2s (cf := run fns pr h.length) (base := h.length)
  have h2 := hy.o_b2s (cf := run fns pr h.length) (base := h.length)
  have : (decide ((⟨l.toArray⟩ : ByteArray) = ⟨m.toArray⟩)) = decide (l = m) := by
    rw [decide_eq_decide]; simp
  simp only [B35, go_sem, ↓reduceIte, Nat.reduceEqDiff, Nat.reduceBEq, Nat.reduceAdd, Nat.reduceSub, Nat.reduceLT, Nat.reduceLeDiff, Int.reduceLT, Int.reduceLE, Int.reduceToNat, h1, h2, this]

def Dk.same (D E : Dk) : Bool := decide (D.now = E.now)
theorem Same_ok (b : Nat) (h : Hp) (i j : Nat) (D E : Dk) (hd : DR h i D) (he : DR h j E) : R b 19 [.ptr i [0] 1, .ptr j [0] 1] h = some (.s (.bool (decide (D.now = E.now))), h) := by
  refine Vm.runP (nt := 49) rfl fit19 (by simp) ?_
  obtain ⟨nv, lv, x, hg, r1, r2, r3, r4⟩ := hd
  obtain ⟨nv', lv', x', hg', r1', r2', r3', r4'⟩ := he
  simp only [B19, B19R0, B19L0, go_sem, ↓reduceIte, Nat.reduceEqDiff, Nat.reduceBEq, Nat.reduceAdd, Nat.reduceSub, Nat.reduceLT, Nat.reduceLeDiff, Int.reduceLT, Int.reduceLE, Int.reduceToNat]
  refine wp_while (fun n e h' => ∃ i', n = 10 - i' ∧ i' ≤ 10 ∧ h' = h ∧ e 12 = .s (.int .i64 (i' : Nat)) ∧ e 0 = .ptr i [0] 1 ∧ e 1 = .ptr j [0] 1 ∧ ∀ k, k < i' → D.now.getD k none = E.now.getD k none) ?_ 10 _ _ ⟨0, rfl, by omega, rfl, ?_, ?_, ?_, by omega⟩
  · rintro n e h' ⟨k, rfl, hk, rfl, e12, e0', e1', hall⟩
    by_cases hlt : k < 10
    · have hlt' : (k : Int) < 10 := by omega
      have hk0 : (0 : Int) ≤ k := by omega
      obtain ⟨x0, hx0, hb0⟩ := r1.get (i := k) (by rw [r4.now]; omega)
      obtain ⟨y0, hy0, hc0⟩ := r1'.get (i := k) (by rw [r4'.now]; omega)
      have hnl : (k : Int) < nv.length := by rw [r1.1, r4.now]; omega
      have hnl' : (k : Int) < nv'.length := by rw [r1'.1, r4'.now]; omega
      have hxt := hb0.ty
      have hyt := hc0.ty
      have heq := Equal_ok h'.length h' x0 y0 _ _ hb0 hc0
      have hw : IntKind.i64.wrap ((k : Int) + 1) = ((k + 1 : Nat) : Int) := wrap_small (by omega)
      by_cases hq : D.now.getD k none = E.now.getD k none
      · rw [hq] at heq hx0
        simp only [decide_true] at heq
        simp only [go_sem, ↓reduceIte, Nat.reduceEqDiff, Nat.reduceBEq, Nat.reduceAdd, Nat.reduceSub, Nat.reduceLT, Nat.reduceLeDiff, Int.reduceLT, Int.reduceLE, Int.reduceToNat, e12, e0', e1', hlt', hk0, hg, hg', hx0, hy0, hnl, hnl', hxt, hyt, heq, hw]
        refine ⟨10 - (k + 1), by omega, k + 1, rfl, by omega, rfl, fun i hi => ?_⟩
        by_cases hik : i = k
        · rw [hik]; exact hq
        · exact hall i (by omega)
      · have hne : ¬ D.now = E.now := fun h => hq (by rw [h])
        simp only [hne, decide_false]
        cases ha : D.now.getD k none <;> cases hb : E.now.getD k none <;> rw [ha, hb] at hq <;> rw [ha] at hx0 heq <;> rw [hb] at hy0 heq
        · exact absurd rfl hq
        · simp only [go_sem, ↓reduceIte, Nat.reduceEqDiff, Nat.reduceBEq, Nat.reduceAdd, Nat.reduceSub, Nat.reduceLT, Nat.reduceLeDiff, Int.reduceLT, Int.reduceLE, Int.reduceToNat, e12, e0', e1', hlt', hk0, hg, hg', hx0, hy0, hnl, hnl', hxt, hyt, heq, hw]
        · simp only [go_sem, ↓reduceIte, Nat.reduceEqDiff, Nat.reduceBEq, Nat.reduceAdd, Nat.reduceSub, Nat.reduceLT, Nat.reduceLeDiff, Int.reduceLT, Int.reduceLE, Int.reduceToNat, e12, e0', e1', hlt', hk0, hg, hg', hx0, hy0, hnl, hnl', hxt, hyt, heq, hw]
        · rename_i l1 l2
          have hq' : ¬ l1 = l2 := fun h => hq (by rw [h])
          simp only [go_sem, ↓reduceIte, Nat.reduceEqDiff, Nat.reduceBEq, Nat.reduceAdd, Nat.reduceSub, Nat.reduceLT, Nat.reduceLeDiff, Int.reduceLT, Int.reduceLE, Int.reduceToNat, e12, e0', e1', hlt', hk0, hg, hg', hx0, hy0, hnl, hnl', hxt, hyt, hw] at heq ⊢
          simp only [go_sem, ↓reduceIte, Nat.reduceEqDiff, Nat.reduceBEq, Nat.reduceAdd, Nat.reduceSub, Nat.reduceLT, Nat.reduceLeDiff, Int.reduceLT, Int.reduceLE, Int.reduceToNat, heq, hq']
    · have hlt' : ¬ (k : Int) < 10 := by omega
      have hall' : D.now = E.now := by
        refine List.ext_getElem (by rw [r4.now, r4'.now]) fun i h1 h2 => ?_
        have h3 := hall i (by rw [r4.now] at h1; omega)
        rw [List.getD_eq_getElem?_getD, List.getD_eq_getElem?_getD, List.getElem?_eq_getElem h1, List.getElem?_eq_getElem h2] at h3
        exact h3
      simp only [go_sem, ↓reduceIte, Nat.reduceEqDiff, Nat.reduceBEq, Nat.reduceAdd, Nat.reduceSub, Nat.reduceLT, Nat.reduceLeDiff, Int.reduceLT, Int.reduceLE, Int.reduceToNat, e12, e0', e1', hlt', hall']
  all_goals simp only [go_sem, ↓reduceIte, Nat.reduceEqDiff, Nat.reduceBEq, Nat.reduceAdd, Nat.reduceSub, Nat.reduceLT, Nat.reduceLeDiff, Int.reduceLT, Int.reduceLE, Int.reduceToNat]
  rfl
end Go.Proofs.Yteeabacgcnbnbaa
