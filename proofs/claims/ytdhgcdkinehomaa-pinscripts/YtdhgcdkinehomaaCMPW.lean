/- Rows of digits that are weak, plain data. Conditions: none. -/
import Derived.Test.YtdhgcdkinehomaaCMP
namespace Go.Cl
open Go
set_option linter.unusedVariables false
set_option linter.unusedSimpArgs false
theorem goesN_iff {d : Bs} {b : Int} {n : Nat} : goesN d b n = true ↔ ∀ i, 1 ≤ i → i < n → ((d.getD i 0).toNat : Int) - ((d.getD (i - 1) 0).toNat : Int) = b := by
  simp only [goesN, List.all_eq_true, List.mem_range, Bool.or_eq_true, beq_iff_eq]
  exact ⟨fun h i h1 h2 => (h i h2).resolve_left (by omega), fun h i h2 => by
    by_cases h0 : i = 0
    · exact .inl h0
    · exact .inr (h i (by omega) h2)⟩
theorem digsN_iff {d : Bs} {n : Nat} : digsN d n = true ↔ ∀ i, i < n → 48 ≤ (d.getD i 0).toNat ∧ (d.getD i 0).toNat ≤ 57 := by
  simp only [digsN, List.all_eq_true, List.mem_range, Bool.and_eq_true, decide_eq_true_eq]
/-- A row of digits, each so much more than the one ahead. -/
def isRow (l : Bs) (k : Nat) (f s : Int) : Prop := l.length = k ∧ ∀ i : Nat, i < k → ((l.getD i 0).toNat : Int) = 48 + f + s * i
theorem weak_row {l : Bs} {k : Nat} {f s : Int} (h : isRow l k f s) (h1 : 5 ≤ k) (h2 : k ≤ 12) (hd : ∀ i : Nat, i < k → 0 ≤ f + s * i ∧ f + s * i ≤ 9) (hs : s = 0 ∨ s = 1 ∨ s = -1) : weak l = true := by
  have hg : goesN l s l.length = true := by
    rw [goesN_iff, h.1]
    intro i h3 h4
    rw [h.2 i h4, h.2 (i - 1) (by omega)]
    have : (i : Int) = ((i - 1 : Nat) : Int) + 1 := by omega
    rw [this, Int.mul_add]; omega
  have hdg : digsN l l.length = true := by
    rw [digsN_iff, h.1]
    intro i h3
    have h4 := h.2 i h3
    have h5 := hd i h3
    omega
  have h3 : 4 ≤ l.length := by rw [h.1]; omega
  have h4 : l.length ≤ 12 := by rw [h.1]; omega
  rcases hs with rfl | rfl | rfl <;> simp [weak, h3, h4, hg, hdg]
theorem weak_turn {l : Bs} {k : Nat} {f s : Int} (h : isRow l k f s) (h1 : 5 ≤ k) {i : Nat} (hi : i < k) {d : UInt8} (hd : d ≠ l.getD i 0) : weak (l.set i d) = false := by
  rw [← Bool.not_eq_true]
  intro hw
  have hne : (d.toNat : Int) ≠ ((l.getD i 0).toNat : Int) := fun e => hd (UInt8.toNat_inj.1 (by omega))
  have hget : ∀ j, (l.set i d).getD j 0 = if j = i then d else l.getD j 0 := by
    intro j
    simp only [List.getD, List.getElem?_set]
    by_cases hj : i = j
    · subst hj; simp [h.1, hi]
    · simp [hj, Ne.symm hj]
  have hlen : (l.set i d).length = k := by rw [List.length_set, h.1]
  have hc : ∃ c, goesN (l.set i d) c k = true := by
    simp only [weak, hlen, Bool.and_eq_true, Bool.or_eq_true] at hw
    rcases hw.2 with (h2 | h2) | h2
    · exact ⟨_, h2⟩
    · exact ⟨_, h2⟩
    · exact ⟨_, h2⟩
  obtain ⟨c, hc⟩ := hc
  rw [goesN_iff] at hc
  have step : ∀ j : Nat, 1 ≤ j → j < k → ((l.getD j 0).toNat : Int) - ((l.getD (j - 1) 0).toNat : Int) = s := by
    intro j h3 h4
    rw [h.2 j h4, h.2 (j - 1) (by omega)]
    have : (j : Int) = ((j - 1 : Nat) : Int) + 1 := by omega
    rw [this, Int.mul_add]; omega
  have hcs : c = s := by
    obtain ⟨j, h3, h4, h5, h6⟩ : ∃ j, 1 ≤ j ∧ j < k ∧ j ≠ i ∧ j - 1 ≠ i := by
      by_cases h0 : i = 0
      · exact ⟨2, by omega, by omega, by omega, by omega⟩
      by_cases h0 : i = 1
      · exact ⟨3, by omega, by omega, by omega, by omega⟩
      · exact ⟨1, by omega, by omega, by omega, by omega⟩
    have h7 := hc j h3 h4
    rw [hget, hget, if_neg h5, if_neg h6, step j h3 h4] at h7
    exact h7.symm
  subst hcs
  by_cases h0 : i = 0
  · subst h0
    have h7 := hc 1 (by omega) (by omega)
    have h8 := step 1 (by omega) (by omega)
    rw [hget, hget, if_neg (by omega), if_pos (by omega)] at h7
    simp only [Nat.sub_self] at h8
    omega
  · have h7 := hc i (by omega) hi
    have h8 := step i (by omega) hi
    rw [hget, hget, if_pos rfl, if_neg (by omega)] at h7
    omega
theorem tm (n m : Int) (hm : 0 < m) : (n.tmod m + m).tmod m = n % m ∧ -m < n.tmod m ∧ n.tmod m < m := by
  have h1 : n.tmod m < m := Int.tmod_lt_of_pos n hm
  have h2 : -m < n.tmod m := by
    rcases Int.le_total 0 n with h | h
    · have := Int.tmod_nonneg m h; omega
    · have h3 := Int.tmod_lt_of_pos (-n) hm
      rw [Int.neg_tmod] at h3; omega
  refine ⟨?_, h2, h1⟩
  rw [Int.tmod_eq_emod_of_nonneg (by omega), Int.add_emod_right]
  rw [Int.emod_def (n.tmod m) m]
  have h3 := Int.tmod_def n m
  have h4 : n % m = n.tmod m % m := by
    conv => lhs; rw [← Int.tmod_add_mul_tdiv n m]
    rw [Int.add_mul_emod_self_left]
  rw [h4, Int.emod_def (n.tmod m) m]
/-- A row, made. -/
def rowL (f s : Int) (i : Nat) : Bs := (List.range i).map fun (j : Nat) => UInt8.ofNat (48 + f + s * (j : Int)).toNat
theorem rowL_len (f s : Int) (i : Nat) : (rowL f s i).length = i := by simp [rowL]
theorem rowL_row {f s : Int} {k : Nat} (hd : ∀ i : Nat, i < k → 0 ≤ f + s * i ∧ f + s * i ≤ 9) : isRow (rowL f s k) k f s := by
  refine ⟨rowL_len f s k, fun i hi => ?_⟩
  have := hd i hi
  simp only [rowL, List.getD, List.getElem?_map, List.getElem?_range hi, Option.map_some, Option.getD_some]
  rw [UInt8.toNat_ofNat']; omega
theorem rowL_set (f s : Int) (i k : Nat) (hi : i < k) : (rowL f s i ++ List.replicate (k - i) 0).set i (UInt8.ofNat (48 + f + s * (i : Int)).toNat) = rowL f s (i + 1) ++ List.replicate (k - (i + 1)) 0 := by
  rw [List.set_append_right _ _ (by rw [rowL_len]; exact Nat.le_refl _), rowL_len, Nat.sub_self]
  have : k - i = (k - (i + 1)) + 1 := by omega
  rw [this, List.replicate_succ, List.set_cons_zero]
  simp [rowL, List.range_succ]
end Go.Cl
