/- Post: an office is held against plain rows. Conditions: none. -/
import Derived.Test.YthhkalljgjmhdaaCS21P
import Derived.Test.YthhkalljgjmhdaaCVc
namespace Go.Proofs.Ythhkalljgjmhdaa
open Go Go.Vm Go.Proofs Go.Cl
set_option linter.unusedSimpArgs false
set_option linter.unusedVariables false
set_option maxRecDepth 100000

theorem firstFree_snoc (y : It) : ∀ (A : List It) (j : Nat), firstFree (A ++ [y]) j = if firstFree A j < 0 then (if y.2 = true then -1 else ((j + A.length : Nat) : Int)) else firstFree A j
  | [], j => by simp [firstFree]
  | x :: A, j => by
    cases hx : x.2 with
    | true =>
      have := firstFree_snoc y A (j + 1)
      have e : j + 1 + A.length = j + (A.length + 1) := by omega
      simp only [List.cons_append, firstFree, hx, if_true, this, List.length_cons, e]
    | false =>
      have : ¬ ((j : Int) < 0) := by omega
      simp [firstFree, hx, this]
theorem firstFree_ge : ∀ (A : List It) (j : Nat), firstFree A j = -1 ∨ 0 ≤ firstFree A j
  | [], _ => .inl rfl
  | x :: A, j => by
    cases hx : x.2 with
    | true => simp only [firstFree, hx, if_true]; exact firstFree_ge A _
    | false => simp [firstFree, hx]
def letsV (O : List It) : List V := O.map fun x => x.1.enc
def heldV (O : List It) : List V := O.map fun x => .s (.bool x.2)
theorem heldAt_nat {O : List It} {i : Nat} {y : It} (h : O[i]? = some y) : heldAt O (i : Nat) = y.2 := by
  simp [heldAt, h]
theorem same_ok (b : Nat) (h : Hp) (id k : Nat) (O : List It) (m hv : V) (ho : OR h id k O) (hmax : O.length ≤ 1000) (hm : SR h m (some 25) (letsV O)) (hh : SR h hv none (heldV O)) :
    run fns pr b 16 [.ptr id [0] 1, m, hv] h = some (.s (.bool true), h) := by
  refine Vm.runP (nt := 110) rfl fit16 (by simp) ?_
  have hal := All_ok h.length h id k O ho hmax
  have hle := Len_ok h.length h id k O ho
  have hmn := fun cf base h0 => hm.o_len (cf := cf) (base := base) (h := h0)
  have hla := fun cf base h0 => o_len cf base h0 (.imm false (some 25) (O.map fun x => x.1.enc)) O.length (by simp [lenV])
  simp only [letsV, List.length_map] at hmn
  simp only [B16, B16R0, B16L0, hal, hle, hmn, hla, not_true_eq_false, not_false_eq_true, decide_true, decide_false, go_sem, V.s.injEq, Value.bool.injEq, simprocAttr, List.append_assoc, List.length_append, Vm.get_app, Vm.set_app, Vm.get_appL, Vm.get_appL0, Vm.set_appL, Vm.set_appL0, Nat.le_refl, Nat.le_add_right, okAt]
  refine wp_for (fun n e H => ∃ (i : Nat), n = O.length - i ∧ i ≤ O.length ∧ e 9 = .s (.int .i64 (i : Nat)) ∧ e 0 = .ptr id [0] 1 ∧ e 1 = m ∧ e 2 = hv ∧ e 8 = .imm false (some 25) (O.map fun x => x.1.enc) ∧ e 7 = .s (.int .i64 (firstFree (O.take i) 0)) ∧ Fw [] h H)
    (fun e H => e 0 = .ptr id [0] 1 ∧ e 1 = m ∧ e 2 = hv ∧ e 7 = .s (.int .i64 (firstFree O 0)) ∧ Fw [] h H) O.length _ _ ⟨0, by omega, by omega, rfl, rfl, rfl, rfl, rfl, rfl, Fw.refl _ _⟩ ?_ ?_
  · rintro n e H ⟨i, rfl, hi, e9, e0', e1, e2, e8, e7, fw⟩
    by_cases c : i < O.length
    · have c' : (i : Int) < (O.length : Nat) := by omega
      have hw : IntKind.i64.wrap ((i : Int) + 1) = ((i + 1 : Nat) : Int) := wrap_small (by omega)
      have hy : O[i]? = some O[i] := List.getElem?_eq_getElem c
      have ht : O.take (i + 1) = O.take i ++ [O[i]] := by rw [List.take_succ_eq_append_getElem c]
      have hf := firstFree_snoc O[i] (O.take i) 0
      rw [← ht] at hf
      have hgd : O.getD i default = O[i] := by simp [List.getD, hy]
      generalize O[i] = y at hy ht hf hgd
      have o1 := ho.mono fw (by simp) (by simp)
      have hat := At_ok h.length H id k O (i : Nat) o1
      have i0 : (0 : Int) ≤ (i : Nat) := by omega
      simp only [i0, if_true, c', decide_true, Bool.and_self, Int.toNat_natCast, hy, Option.map_some, Option.getD_some] at hat
      have hlt := fun h0 => lett_ok h.length h0 y.1 y.1
      simp only [decide_true] at hlt
      have hhe := fun T => Held_ok h.length (H ++ [T]) id k O (i : Nat) (o1.mono (Fw.app [] H _) (by simp) (by simp))
      rw [heldAt_nat hy] at hhe
      have hmi := fun T cf base => (hm.fw (fw.trans (Fw.app [] H [T]))).o_ias (cf := cf) (base := base) (k := .i64) (i := i) (by simpa [letsV] using c)
      have hml := fun T cf base => (hm.fw (fw.trans (Fw.app [] H [T]))).o_ld (cf := cf) (base := base) (i := i) (v := y.1.enc) (by simp [letsV, hy]) (Letter.enc_ty _)
      have hhi := fun T cf base => (hh.fw (fw.trans (Fw.app [] H [T]))).o_ias (cf := cf) (base := base) (k := .i64) (i := i) (by simpa [heldV] using c)
      have hhl := fun T cf base => (hh.fw (fw.trans (Fw.app [] H [T]))).o_ld (cf := cf) (base := base) (i := i) (v := .s (.bool y.2)) (by simp [heldV, hy]) rfl
      have hsa := fun H0 => SR.o_ias (h := H0) (x := .imm false (some 25) (O.map fun x => x.1.enc)) (g := some 25) (vs := O.map fun x => x.1.enc) (.inl ⟨_, rfl⟩) (k := .i64) (i := i) (cf := run fns pr h.length) (base := h.length) (by simpa using c)
      have hsl := fun H0 => SR.o_ld (h := H0) (x := .imm false (some 25) (O.map fun x => x.1.enc)) (g := some 25) (vs := O.map fun x => x.1.enc) (.inl ⟨_, rfl⟩) (i := i) (cf := run fns pr h.length) (base := h.length) (v := y.1.enc) (by simp [hy]) (Letter.enc_ty _)
      have hne : (y.2 != y.2) = false := by simp
      have hz := firstFree_ge (O.take i) 0
      have hgr : V.ground y.1.enc = true := ground_plain _ (Letter.enc_plain _)
      have hfi : ∀ z : Int, firstFree (O.take (i + 1)) 0 = z → ∃ m, m < O.length - i ∧ ∃ i', m = O.length - i' ∧ i' ≤ O.length ∧ Value.int .i64 ((i + 1 : Nat) : Int) = Value.int .i64 (i' : Nat) ∧ Value.int .i64 z = Value.int .i64 (firstFree (O.take i') 0) ∧ Fw [] h (H ++ [.cells (some 25) [y.1.enc]]) :=
        fun z hz => ⟨_, by omega, i + 1, rfl, by omega, rfl, by rw [hz], fw.trans (Fw.app _ _ _)⟩
      by_cases cf : firstFree (O.take i) 0 < 0
      · cases hb : y.2 with
        | true =>
          rw [hb] at hhe hhl
          have := hfi _ (by rw [hf, if_pos cf, hb, if_pos rfl]; omega : _ = firstFree (O.take i) 0)
          simp only [e9, e0', e1, e2, e8, e7, c', hat, hlt, hhe, hmi, hml, hmn, hhi, hhl, hsa, hsl, hw, cf, hgr, Letter.enc_ty, Letter.enc_solid, go_sem, V.s.injEq, Value.bool.injEq, simprocAttr, List.append_assoc, List.length_append, Vm.get_app, Vm.set_app, Vm.get_appL, Vm.get_appL0, Vm.set_appL, Vm.set_appL0, Nat.le_refl, Nat.le_add_right, okAt]
          exact this
        | false =>
          rw [hb] at hhe hhl
          have := hfi _ (by rw [hf, if_pos cf, hb, if_neg (by simp)]; simp; omega : _ = ((i : Nat) : Int))
          simp only [e9, e0', e1, e2, e8, e7, c', hat, hlt, hhe, hmi, hml, hmn, hhi, hhl, hsa, hsl, hw, cf, hgr, Letter.enc_ty, Letter.enc_solid, go_sem, V.s.injEq, Value.bool.injEq, simprocAttr, List.append_assoc, List.length_append, Vm.get_app, Vm.set_app, Vm.get_appL, Vm.get_appL0, Vm.set_appL, Vm.set_appL0, Nat.le_refl, Nat.le_add_right, okAt]
          exact this
      · have := hfi _ (by rw [hf, if_neg cf] : _ = firstFree (O.take i) 0)
        have hbn : (y.2 == y.2) = true := by simp
        simp only [e9, e0', e1, e2, e8, e7, c', hat, hlt, hhe, hmi, hml, hmn, hhi, hhl, hsa, hsl, hw, cf, hbn, hgr, Letter.enc_ty, Letter.enc_solid, go_sem, V.s.injEq, Value.bool.injEq, simprocAttr, List.append_assoc, List.length_append, Vm.get_app, Vm.set_app, Vm.get_appL, Vm.get_appL0, Vm.set_appL, Vm.set_appL0, Nat.le_refl, Nat.le_add_right, okAt]
        exact this
    · have c' : ¬ (i : Int) < (O.length : Nat) := by omega
      simp only [e9, e0', e1, e2, e8, e7, c', hmn, go_sem, V.s.injEq, Value.bool.injEq, simprocAttr, List.append_assoc, List.length_append, Vm.get_app, Vm.set_app, Vm.get_appL, Vm.get_appL0, Vm.set_appL, Vm.set_appL0, Nat.le_refl, Nat.le_add_right, okAt]
      rw [List.take_of_length_le (by omega)]
      exact ⟨rfl, fw⟩
  · rintro e H ⟨e0', e1, e2, e7, fw⟩
    have l := fw.len
    have o1 := ho.mono fw (by simp) (by simp)
    have hat := At_ok h.length H id k O (O.length : Nat) o1
    have l0 : (0 : Int) ≤ (O.length : Nat) := by omega
    simp only [l0, if_true, Int.lt_irrefl, decide_true, decide_false, Bool.and_false, Int.toNat_natCast, List.getElem?_eq_none (Nat.le_refl _), Option.map_none, Option.getD_none] at hat
    have o2 := fun T => ho.mono (fw.trans (Fw.app [] H [T])) (by simp) (by simp)
    have hfi := fun T => First_ok h.length (H ++ [T]) id k O (o2 T) (by omega)
    have hh1 := fun T => Held_ok h.length (H ++ [T]) id k O (-1) (o2 T)
    have hh2 := fun T => Held_ok h.length (H ++ [T]) id k O (O.length : Nat) (o2 T)
    have a1 : heldAt O (-1) = false := rfl
    have a2 : heldAt O (O.length : Nat) = false := by simp [heldAt]
    rw [a1] at hh1; rw [a2] at hh2
    have ft := fun T => (fw.trans (Fw.app [] H [T])).take
    simp only [e0', e1, e2, e7, hat, hfi, hh1, hh2, hmn, ft, l, Letter.enc, go_sem, V.s.injEq, Value.bool.injEq, simprocAttr, List.append_assoc, List.length_append, Vm.get_app, Vm.set_app, Vm.get_appL, Vm.get_appL0, Vm.set_appL, Vm.set_appL0, Nat.le_refl, Nat.le_add_right, okAt]
end Go.Proofs.Ythhkalljgjmhdaa
