/- Post: an office beside rows of letters whose bytes stand anywhere. Conditions: none. -/
import Derived.Test.YthhkalljgjmhdaaCS21V
namespace Go.Proofs.Ythhkalljgjmhdaa
open Go Go.Vm Go.Proofs Go.Cl
set_option linter.unusedSimpArgs false
set_option linter.unusedVariables false
set_option maxRecDepth 100000
theorem _root_.Go.Vm.XR.appB {n : Nat} {H : Hp} {g : Option Nat} {k : Nat} {x y : V} {vs ys : List V} {bytes : Nat} (xr : XR H g k x vs) (hk : n ≤ k) (hm : n ≤ H.length) (hs : source H y = some (g, ys)) (hb : (vs.length + ys.length) * bytes ≤ 140737488355328) :
    ∃ x' H' k', (∀ cf, opV cf n H (.app g bytes) [x, y] = some (x', H')) ∧ XR H' g k' x' (vs ++ ys) ∧ n ≤ k' ∧ n ≤ H'.length ∧ (k' = k ∨ H.length ≤ k') ∧ H.length ≤ H'.length ∧ (∀ (j : Nat) (b : Blk), j ≠ k → H[j]? = some b → H'[j]? = some b) := by
  by_cases hne : ys = []
  · subst hne
    refine ⟨x, H, k, fun cf => o_app_none hs xr.SR.len, by simpa using xr, hk, hm, .inl rfl, Nat.le_refl _, fun _ _ _ h => h⟩
  · have hma : ∀ z ∈ ys, mayPut n k z = true := fun z h => by simp [mayPut, hk]
    rcases xr with ⟨rfl, rfl⟩ | ⟨rfl, h1⟩
    · exact ⟨_, H ++ [.cells g ys], H.length, fun cf => o_app_nil hs hne (by simpa using hb), .inr ⟨rfl, get_app0 _ _⟩, hm, by simp; omega, .inr (Nat.le_refl _), by simp, fun j b _ hj => get_old hj _⟩
    · refine ⟨_, H.set k (.cells g (vs ++ ys)), k, fun cf => o_app_grow h1 hs hne hma hb, .inr ⟨by simp, set_get h1⟩, hk, by simpa using hm, .inl rfl, by simp, fun j b hj hb' => by rw [List.getElem?_set_ne (Ne.symm hj)]; exact hb'⟩
/-- Two rows one behind the other, as a row of its own. -/
theorem two_appB {n : Nat} {H : Hp} {g : Option Nat} {y1 y2 : V} {a b : List V} {bytes : Nat} (hn : n ≤ H.length) (s1 : SR H y1 g a) (s2 : SR H y2 g b) (hb : (a.length + b.length) * bytes ≤ 140737488355328) :
    ∃ x1 H1 x2 H2 q, (∀ cf, opV cf n H (.app g bytes) [.imm true g [], y1] = some (x1, H1)) ∧ (∀ cf, opV cf n H1 (.app g bytes) [x1, y2] = some (x2, H2)) ∧ XR H2 g q x2 (a ++ b) ∧ H.length ≤ q ∧ Fw [] H H1 ∧ Fw [] H H2 := by
  obtain ⟨x1, H1, q1, a1, a2, a3, a4, a5, a6, a7⟩ := (XR.nil H g H.length).appB (n := n) (bytes := bytes) hn hn s1.src (by have : a.length * bytes ≤ (a.length + b.length) * bytes := Nat.mul_le_mul_right _ (by omega); simp; omega)
  have n0 : ∀ (j : Nat) (b : Blk), H[j]? = some b → j ≠ H.length := fun j b h e => by have := lt_of_get h; omega
  have f1 : Fw [] H H1 := old_fw a6 fun j b h => a7 j b (n0 j b h) h
  have s2' := s2.fw f1
  have hq : H.length ≤ q1 := by rcases a5 with rfl | a5 <;> omega
  obtain ⟨x2, H2, q2, b1, b2, b3, b4, b5, b6, b7⟩ := a2.appB (n := n) (bytes := bytes) a3 a4 s2'.src (by simpa using hb)
  have hl1 := f1.len
  refine ⟨x1, H1, x2, H2, q2, a1, b1, by simpa using b2, by rcases b5 with rfl | b5 <;> omega, f1, old_fw (by omega) fun j b h => b7 j b (fun e => ?_) (f1.old _ _ h (by simp))⟩
  have := lt_of_get h; omega
/-- Rows of letters, wherever their bytes stand. -/
def LRs (H : Hp) (ms : List V) (O : List It) : Prop := ms.length = O.length ∧ ∀ (i : Nat) (y : It), O[i]? = some y → ∃ bv, ms[i]? = some (LV y.1 bv) ∧ BR H bv y.1.bytes
theorem LRs.fw {S : List Nat} {H H' : Hp} {ms : List V} {O : List It} (l : LRs H ms O) (f : Fw S H H') : LRs H' ms O := ⟨l.1, fun i y h => by obtain ⟨bv, h1, h2⟩ := l.2 i y h; exact ⟨bv, h1, h2.mono f⟩⟩
theorem LRs.turn {H : Hp} {ms : List V} {O O' : List It} (l : LRs H ms O) (e : letsV O' = letsV O) (e2 : ∀ i : Nat, (O'[i]?).map (·.1) = (O[i]?).map (·.1)) : LRs H ms O' := by
  refine ⟨by rw [l.1]; have := congrArg List.length e; simpa [letsV] using this.symm, fun i y h => ?_⟩
  have := e2 i
  rw [h] at this
  cases h2 : O[i]? with
  | none => rw [h2] at this; simp at this
  | some z =>
    rw [h2] at this
    have hz : z.1 = y.1 := by simpa using this.symm
    obtain ⟨bv, a, b⟩ := l.2 i z h2
    rw [hz] at a b; exact ⟨bv, a, b⟩
theorem LRs.er {H : Hp} {ms : List V} {O : List It} (l : LRs H ms O) {j : Nat} (hj : j < O.length) : LRs H (ms.take j ++ ms.drop (j + 1)) (O.eraseIdx j) := by
  rw [← List.eraseIdx_eq_take_drop_succ]
  refine ⟨by rw [List.length_eraseIdx, List.length_eraseIdx, l.1], fun i y h => ?_⟩
  rw [List.getElem?_eraseIdx] at h ⊢
  split at h
  · rename_i c; rw [if_pos c]; exact l.2 i y h
  · rename_i c; rw [if_neg c]; exact l.2 _ y h
theorem LRs.snoc {H : Hp} {ms : List V} {O : List It} (l : LRs H ms O) (x : Letter) (b : Bool) (bv : V) (hb : BR H bv x.bytes) : LRs H (ms ++ [LV x bv]) (O ++ [(x, b)]) := by
  refine ⟨by simp [l.1], fun i y h => ?_⟩
  by_cases c : i < O.length
  · rw [List.getElem?_append_left c] at h; rw [List.getElem?_append_left (by rw [l.1]; exact c)]; exact l.2 i y h
  · rw [List.getElem?_append_right (by omega)] at h
    have hi : i - O.length = 0 := by
      have := (List.getElem?_eq_some_iff.1 h).1; simp at this; omega
    rw [hi] at h; simp at h; subst h
    rw [List.getElem?_append_right (by rw [l.1]; omega), l.1, hi]
    exact ⟨bv, rfl, hb⟩
theorem sameB_ok (b : Nat) (h : Hp) (id k : Nat) (O : List It) (m hv : V) (ms : List V) (ho : OR h id k O) (hmax : O.length ≤ 1000) (hm : SR h m (some 25) ms) (hms : LRs h ms O) (hh : SR h hv none (heldV O)) :
    run fns pr b 16 [.ptr id [0] 1, m, hv] h = some (.s (.bool true), h) := by
  refine Vm.runP (nt := 110) rfl fit16 (by simp) ?_
  have hal := All_ok h.length h id k O ho hmax
  have hle := Len_ok h.length h id k O ho
  have hmn := fun cf base h0 => hm.o_len (cf := cf) (base := base) (h := h0)
  have hla := fun cf base h0 => o_len cf base h0 (.imm false (some 25) (O.map fun x => x.1.enc)) O.length (by simp [lenV])
  rw [hms.1] at hmn
  simp only [B16, B16R0, B16L0, hal, hle, hmn, hla, not_true_eq_false, not_false_eq_true, decide_true, decide_false, go_sem, V.s.injEq, Value.bool.injEq, simprocAttr, List.append_assoc, List.length_append, Vm.get_app, Vm.set_app, Vm.get_appL, Vm.get_appL0, Vm.set_appL, Vm.set_appL0, Nat.le_refl, Nat.le_add_right, okAt]
  refine wp_for (fun n e H => ∃ (i : Nat), n = O.length - i ∧ i ≤ O.length ∧ e 9 = .s (.int .i64 (i : Nat)) ∧ e 0 = .ptr id [0] 1 ∧ e 1 = m ∧ e 2 = hv ∧ e 8 = .imm false (some 25) (O.map fun x => x.1.enc) ∧ e 7 = .s (.int .i64 (firstFree (O.take i) 0)) ∧ Fw [] h H)
    (fun e H => e 0 = .ptr id [0] 1 ∧ e 1 = m ∧ e 2 = hv ∧ e 7 = .s (.int .i64 (firstFree O 0)) ∧ Fw [] h H) O.length _ _ ⟨0, by omega, by omega, rfl, rfl, rfl, rfl, rfl, rfl, Fw.refl _ _⟩ ?_ ?_
  · rintro n e H ⟨i, rfl, hi, e9, e0', e1, e2, e8, e7, fw⟩
    by_cases c : i < O.length
    · have c' : (i : Int) < (O.length : Nat) := by omega
      have hw : IntKind.i64.wrap ((i : Int) + 1) = ((i + 1 : Nat) : Int) := wrap_small (by omega)
      have hy : O[i]? = some O[i] := List.getElem?_eq_getElem c
      have ht : O.take (i + 1) = O.take i ++ [O[i]] := by rw [List.take_succ_eq_append_getElem c]
      have hf := firstFree_snoc O[i] (O.take i) 0
      rw [← ht] at hf
      have hgd : O.getD i default = O[i] := by simp [List.getD, hy]
      generalize O[i] = y at hy ht hf hgd
      have o1 := ho.mono fw (by simp) (by simp)
      have hat := At_ok h.length H id k O (i : Nat) o1
      have i0 : (0 : Int) ≤ (i : Nat) := by omega
      simp only [i0, if_true, c', decide_true, Bool.and_self, Int.toNat_natCast, hy, Option.map_some, Option.getD_some] at hat
      obtain ⟨bv, hmv, hbv⟩ := hms.2 i y hy
      have hlt : ∀ T, run fns pr h.length 11 [y.1.enc, LV y.1 bv] (H ++ [T]) = some (.s (.bool true), H ++ [T]) := fun T => by
        have := lettB_ok h.length (H ++ [T]) y.1 y.1 (.imm false none (y.1.bytes.map byteV)) bv (BR_imm _ _ _) (hbv.mono (fw.trans (Fw.app [] H [T])))
        simp only [decide_true] at this; exact this
      have hhe := fun T => Held_ok h.length (H ++ [T]) id k O (i : Nat) (o1.mono (Fw.app [] H _) (by simp) (by simp))
      rw [heldAt_nat hy] at hhe
      have hmi := fun T cf base => (hm.fw (fw.trans (Fw.app [] H [T]))).o_ias (cf := cf) (base := base) (k := .i64) (i := i) (by rw [hms.1]; exact c)
      have hml := fun T cf base => (hm.fw (fw.trans (Fw.app [] H [T]))).o_ld (cf := cf) (base := base) (i := i) (v := LV y.1 bv) hmv rfl
      have hhi := fun T cf base => (hh.fw (fw.trans (Fw.app [] H [T]))).o_ias (cf := cf) (base := base) (k := .i64) (i := i) (by simpa [heldV] using c)
      have hhl := fun T cf base => (hh.fw (fw.trans (Fw.app [] H [T]))).o_ld (cf := cf) (base := base) (i := i) (v := .s (.bool y.2)) (by simp [heldV, hy]) rfl
      have hsa := fun H0 => SR.o_ias (h := H0) (x := .imm false (some 25) (O.map fun x => x.1.enc)) (g := some 25) (vs := O.map fun x => x.1.enc) (.inl ⟨_, rfl⟩) (k := .i64) (i := i) (cf := run fns pr h.length) (base := h.length) (by simpa using c)
      have hsl := fun H0 => SR.o_ld (h := H0) (x := .imm false (some 25) (O.map fun x => x.1.enc)) (g := some 25) (vs := O.map fun x => x.1.enc) (.inl ⟨_, rfl⟩) (i := i) (cf := run fns pr h.length) (base := h.length) (v := y.1.enc) (by simp [hy]) (Letter.enc_ty _)
      have hne : (y.2 != y.2) = false := by simp
      have hz := firstFree_ge (O.take i) 0
      have hgr : V.ground y.1.enc = true := ground_plain _ (Letter.enc_plain _)
      have hfi : ∀ z : Int, firstFree (O.take (i + 1)) 0 = z → ∃ m, m < O.length - i ∧ ∃ i', m = O.length - i' ∧ i' ≤ O.length ∧ Value.int .i64 ((i + 1 : Nat) : Int) = Value.int .i64 (i' : Nat) ∧ Value.int .i64 z = Value.int .i64 (firstFree (O.take i') 0) ∧ Fw [] h (H ++ [.cells (some 25) [y.1.enc]]) :=
        fun z hz => ⟨_, by omega, i + 1, rfl, by omega, rfl, by rw [hz], fw.trans (Fw.app _ _ _)⟩
      by_cases cf : firstFree (O.take i) 0 < 0
      · cases hb : y.2 with
        | true =>
          rw [hb] at hhe hhl
          have := hfi _ (by rw [hf, if_pos cf, hb, if_pos rfl]; omega : _ = firstFree (O.take i) 0)
          simp only [e9, e0', e1, e2, e8, e7, c', hat, hlt, hhe, hmi, hml, hmn, hhi, hhl, hsa, hsl, hw, cf, hgr, Letter.enc_ty, Letter.enc_solid, go_sem, V.s.injEq, Value.bool.injEq, simprocAttr, List.append_assoc, List.length_append, Vm.get_app, Vm.set_app, Vm.get_appL, Vm.get_appL0, Vm.set_appL, Vm.set_appL0, Nat.le_refl, Nat.le_add_right, okAt]
          exact this
        | false =>
          rw [hb] at hhe hhl
          have := hfi _ (by rw [hf, if_pos cf, hb, if_neg (by simp)]; simp; omega : _ = ((i : Nat) : Int))
          simp only [e9, e0', e1, e2, e8, e7, c', hat, hlt, hhe, hmi, hml, hmn, hhi, hhl, hsa, hsl, hw, cf, hgr, Letter.enc_ty, Letter.enc_solid, go_sem, V.s.injEq, Value.bool.injEq, simprocAttr, List.append_assoc, List.length_append, Vm.get_app, Vm.set_app, Vm.get_appL, Vm.get_appL0, Vm.set_appL, Vm.set_appL0, Nat.le_refl, Nat.le_add_right, okAt]
          exact this
      · have := hfi _ (by rw [hf, if_neg cf] : _ = firstFree (O.take i) 0)
        have hbn : (y.2 == y.2) = true := by simp
        simp only [e9, e0', e1, e2, e8, e7, c', hat, hlt, hhe, hmi, hml, hmn, hhi, hhl, hsa, hsl, hw, cf, hbn, hgr, Letter.enc_ty, Letter.enc_solid, go_sem, V.s.injEq, Value.bool.injEq, simprocAttr, List.append_assoc, List.length_append, Vm.get_app, Vm.set_app, Vm.get_appL, Vm.get_appL0, Vm.set_appL, Vm.set_appL0, Nat.le_refl, Nat.le_add_right, okAt]
        exact this
    · have c' : ¬ (i : Int) < (O.length : Nat) := by omega
      simp only [e9, e0', e1, e2, e8, e7, c', hmn, go_sem, V.s.injEq, Value.bool.injEq, simprocAttr, List.append_assoc, List.length_append, Vm.get_app, Vm.set_app, Vm.get_appL, Vm.get_appL0, Vm.set_appL, Vm.set_appL0, Nat.le_refl, Nat.le_add_right, okAt]
      rw [List.take_of_length_le (by omega)]
      exact ⟨rfl, fw⟩
  · rintro e H ⟨e0', e1, e2, e7, fw⟩
    have l := fw.len
    have o1 := ho.mono fw (by simp) (by simp)
    have hat := At_ok h.length H id k O (O.length : Nat) o1
    have l0 : (0 : Int) ≤ (O.length : Nat) := by omega
    simp only [l0, if_true, Int.lt_irrefl, decide_true, decide_false, Bool.and_false, Int.toNat_natCast, List.getElem?_eq_none (Nat.le_refl _), Option.map_none, Option.getD_none] at hat
    have o2 := fun T => ho.mono (fw.trans (Fw.app [] H [T])) (by simp) (by simp)
    have hfi := fun T => First_ok h.length (H ++ [T]) id k O (o2 T) (by omega)
    have hh1 := fun T => Held_ok h.length (H ++ [T]) id k O (-1) (o2 T)
    have hh2 := fun T => Held_ok h.length (H ++ [T]) id k O (O.length : Nat) (o2 T)
    have a1 : heldAt O (-1) = false := rfl
    have a2 : heldAt O (O.length : Nat) = false := by simp [heldAt]
    rw [a1] at hh1; rw [a2] at hh2
    have ft := fun T => (fw.trans (Fw.app [] H [T])).take
    simp only [e0', e1, e2, e7, hat, hfi, hh1, hh2, hmn, ft, l, Letter.enc, go_sem, V.s.injEq, Value.bool.injEq, simprocAttr, List.append_assoc, List.length_append, Vm.get_app, Vm.set_app, Vm.get_appL, Vm.get_appL0, Vm.set_appL, Vm.set_appL0, Nat.le_refl, Nat.le_add_right, okAt]
/-- An office beside plain rows. -/
structure PlB (n : Nat) (H : Hp) (id k : Nat) (m hv : V) (O : List It) : Prop where
  o : OR H id k O
  ii : n ≤ id
  kk : n ≤ k
  len : O.length ≤ 64
  byt : ∀ y ∈ O, y.1.bytes.length ≤ 30
  rows : ∃ qm qh ms, Rw n H (some 25) qm m ms [id, k, qh] ∧ LRs H ms O ∧ Rw n H none qh hv (heldV O) [id, k]
theorem PlB.sm {n : Nat} {H : Hp} {id k : Nat} {m hv : V} {O : List It} (p : PlB n H id k m hv O) : ∃ ms, SR H m (some 25) ms ∧ LRs H ms O := by obtain ⟨_, _, ms, r, l, _⟩ := p.rows; exact ⟨ms, r.1.SR, l⟩
theorem PlB.sh {n : Nat} {H : Hp} {id k : Nat} {m hv : V} {O : List It} (p : PlB n H id k m hv O) : SR H hv none (heldV O) := by obtain ⟨_, _, _, _, _, r⟩ := p.rows; exact r.1.SR
theorem PlB.nn {n : Nat} {H : Hp} {id k : Nat} {m hv : V} {O : List It} (p : PlB n H id k m hv O) : n ≤ H.length := by have := p.o.lt; have := p.ii; omega
theorem PlB.keep {n : Nat} {H H' : Hp} {id k : Nat} {m hv : V} {O : List It} (p : PlB n H id k m hv O) (f : Fw [id, k] H H') : ∃ ms, SR H' m (some 25) ms ∧ LRs H' ms O ∧ SR H' hv none (heldV O) := by
  obtain ⟨qm, qh, ms, r1, lr, r2⟩ := p.rows
  exact ⟨ms, (r1.1.mono fun b h => f.old _ _ h (by have := r1.2.2; simp at this ⊢; omega)).SR, lr.fw f, (r2.1.mono fun b h => f.old _ _ h r2.2.2).SR⟩
/-- What the office does to its own places leaves the rows. -/
theorem PlB.turn {n : Nat} {H H' : Hp} {id k k' : Nat} {m hv : V} {O O' : List It} (p : PlB n H id k m hv O) (f : Fw [id, k] H H') (hk : k' = k ∨ H.length ≤ k') (o : OR H' id k' O') (hl : O'.length ≤ 64) (hb : ∀ y ∈ O', y.1.bytes.length ≤ 30) (e1 : ∀ i : Nat, (O'[i]?).map (·.1) = (O[i]?).map (·.1)) (e0 : letsV O' = letsV O) (e2 : heldV O' = heldV O) : PlB n H' id k' m hv O' := by
  have hn := p.nn
  obtain ⟨qm, qh, ms, r1, lr, r2⟩ := p.rows
  obtain ⟨qh', h1, r2'⟩ := r2.step hn (fun j b hj h => f.old j b h hj) [id, k'] (by simp; rcases hk with rfl | hk <;> simp [*])
  obtain ⟨qm', h2, r1'⟩ := r1.step hn (fun j b hj h => f.old j b h (by simp at hj ⊢; omega)) [id, k', qh'] (by simp; rcases hk with rfl | hk <;> rcases h1 with rfl | h1 <;> simp [*])
  exact ⟨o, p.ii, by have := p.kk; omega, hl, hb, qm', qh', ms, r1', (lr.fw f).turn e0 e1, by rw [e2]; exact r2'⟩
/-- New rows instead. -/
theorem PlB.new {n : Nat} {H H1 H2 : Hp} {id k qm qh : Nat} {m hv : V} {O : List It} (hn : n ≤ H.length) (o : OR H id k O) (hi : n ≤ id) (hk : n ≤ k) (hl : O.length ≤ 64) (hb : ∀ y ∈ O, y.1.bytes.length ≤ 30) (f1 : Fw [] H H1) (f2 : Fw [] H1 H2)
    {ms : List V} (xm : XR H1 (some 25) qm m ms) (lr : LRs H1 ms O) (hm : H.length ≤ qm) (xh : XR H2 none qh hv (heldV O)) (hh : H1.length ≤ qh) : PlB n H2 id k m hv O := by
  have l1 := o.lt; have l2 := o.ltk
  have l3 := f1.len; have l4 := f2.len
  have r0 : Rw n H1 (some 25) qm m ms [id, k] := ⟨xm, by omega, by simp; omega⟩
  obtain ⟨qm', h2, r1'⟩ := r0.step (by omega) (fun j b hj h => f2.old j b h (by simp)) [id, k, qh] (by simp; omega)
  exact ⟨o.mono (f1.trans f2) (by simp) (by simp), hi, hk, hl, hb, qm', qh, ms, r1', lr.fw f2, xh, by omega, by simp; omega⟩
/-- One letter is held, or freed. -/
theorem PlB.flip {n : Nat} {H H' : Hp} {id k j : Nat} {m hv : V} {O : List It} {y : It} {b : Bool} (p : PlB n H id k m hv O) (f : Fw [id, k] H H') (hy : O[j]? = some y) (o : OR H' id k (O.set j (y.1, b))) :
    ∃ qh, hv = .ref qh [] none 0 O.length O.length ∧ H'[qh]? = some (.cells none (heldV O)) ∧ n ≤ qh ∧ PlB n (H'.set qh (.cells none ((heldV O).set j (.s (.bool b))))) id k m hv (O.set j (y.1, b)) := by
  have hn := p.nn
  have hj := (List.getElem?_eq_some_iff.1 hy).1
  obtain ⟨qm, qh, ms, r1, lr, r2⟩ := p.rows
  obtain ⟨x2, h2, h3⟩ := r2
  rcases x2 with ⟨_, x2⟩ | ⟨rfl, x2⟩
  · have : O.length = 0 := by simpa [heldV] using congrArg List.length x2
    omega
  have g := f.old _ _ x2 h3
  simp only [List.mem_cons, List.not_mem_nil, or_false, not_or] at h3
  have lq := lt_of_get x2
  obtain ⟨qm', h4, r1'⟩ := r1.step hn (fun j b hj h => f.old j b h (by simp at hj ⊢; omega)) [id, k, qh] (by simp)
  have fs := Fw.setN (S := [qh]) (k := .cells none ((heldV O).set j (.s (.bool b)))) (by simp) g (held_nb hj)
  have el : letsV (O.set j (y.1, b)) = letsV O := map_set_same21 _ _ _ _ fun z hz => by rw [hy] at hz; cases hz; rfl
  have ei : ∀ i : Nat, ((O.set j (y.1, b))[i]?).map (·.1) = (O[i]?).map (·.1) := fun i => by
    rw [List.getElem?_set]
    split
    · rename_i c; subst c; rw [hy]; simp [hj]
    · rfl
  have eh : heldV (O.set j (y.1, b)) = (heldV O).set j (.s (.bool b)) := by simp [heldV, List.map_set]
  refine ⟨qh, by simp [heldV], g, h2, o.mono fs (by simp; exact fun h => h3.1 h.symm) (by simp; exact fun h => h3.2 h.symm), p.ii, p.kk, by simpa using p.len, fun z hz => ?_, qm', qh, ms, ⟨?_, r1'.2.1, r1'.2.2⟩, ((lr.fw f).turn el ei).fw fs, ⟨.inr ⟨by simp [heldV], by rw [eh]; exact set_get g⟩, h2, by simp; exact h3⟩⟩
  · rcases List.mem_or_eq_of_mem_set hz with hz | rfl
    · exact p.byt z hz
    · exact p.byt y (List.mem_of_getElem? hy)
  · exact r1'.1.set (fun e => r1'.2.2 (by simp [e])) _
end Go.Proofs.Ythhkalljgjmhdaa
