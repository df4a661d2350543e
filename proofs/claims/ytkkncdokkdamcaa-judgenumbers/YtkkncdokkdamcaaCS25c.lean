/- What is counted in replies, against the document. Conditions: none. -/
import Derived.Test.YtkkncdokkdamcaaCS25
namespace Go.Proofs.Ytkkncdokkdamcaa
open Go Go.Vm Go.Proofs Go.Cl
set_option linter.unusedSimpArgs false
set_option linter.unusedVariables false
set_option maxRecDepth 100000
theorem fldR (r : Reply) : r.enc = .st 39 [.s (.int .i64 r.why), .arr 26 (r.iD.map byteV), .s (.int .u64 r.gen), .s (.int .i64 r.left), .imm false none (r.secret.map byteV), .s (.int .i64 r.client), .s (.int .u64 r.num)] := rfl
/-- A secret that is told behind a last guess. -/
def hitB (i k : Nat) (a r : Reply) : Bool := ofB r a.iD a.gen && (tellsB r && (decide (i < k) && (decide (a.why = 23) && decide (a.left = 0))))
def aftK (l : List Reply) (x : Bool) (i : Nat) (a : Reply) : Nat → Bool
  | 0 => x
  | k + 1 => aftK l x i a k || ((l[k]?).map (hitB i k a)).getD false
def aftI (l : List Reply) : Nat → Bool
  | 0 => false
  | i + 1 => aftK l (aftI l i) i (l.getD i default) l.length
theorem aftK_iff (l : List Reply) (x : Bool) (i : Nat) (a : Reply) (n : Nat) : aftK l x i a n = true ↔ x = true ∨ ∃ k r, k < n ∧ l[k]? = some r ∧ hitB i k a r = true := by
  induction n with
  | zero => simp [aftK]
  | succ n ih =>
    simp only [aftK, Bool.or_eq_true, ih]
    constructor
    · rintro ((h | ⟨k, r, h1, h2⟩) | h)
      · exact .inl h
      · exact .inr ⟨k, r, by omega, h2⟩
      · cases hn : l[n]? with
        | none => rw [hn] at h; simp at h
        | some r => rw [hn] at h; exact .inr ⟨n, r, by omega, hn, by simpa using h⟩
    · rintro (h | ⟨k, r, h1, h2, h3⟩)
      · exact .inl (.inl h)
      · by_cases c : k = n
        · subst c; right; rw [h2]; simpa using h3
        · exact .inl (.inr ⟨k, r, by omega, h2, h3⟩)
theorem aftI_iff (l : List Reply) (n : Nat) (hn : n ≤ l.length) : aftI l n = true ↔ ∃ i a k r, i < n ∧ l[i]? = some a ∧ l[k]? = some r ∧ hitB i k a r = true := by
  induction n with
  | zero => simp [aftI]
  | succ n ih =>
    have hg : l[n]? = some l[n] := List.getElem?_eq_getElem (by omega)
    have hd : l.getD n default = l[n] := by rw [List.getD_eq_getElem?_getD, hg]; rfl
    simp only [aftI, aftK_iff, ih (by omega), hd]
    constructor
    · rintro (⟨i, a, k, r, h1, h2⟩ | ⟨k, r, h1, h2⟩)
      · exact ⟨i, a, k, r, by omega, h2⟩
      · exact ⟨n, _, k, r, by omega, hg, h2⟩
    · rintro ⟨i, a, k, r, h1, h2, h3, h4⟩
      by_cases c : i = n
      · subst c
        rw [hg] at h2; cases h2
        refine .inr ⟨k, r, ?_, h3, h4⟩
        exact Nat.lt_of_not_le fun h => by rw [List.getElem?_eq_none h] at h3; cases h3
      · exact .inl ⟨i, a, k, r, by omega, h2, h3, h4⟩
theorem told_pos (id : Bs) (gen : Int) (l : List Reply) : 0 < told id gen l ↔ ∃ r ∈ l, (ofB r id gen && tellsB r) = true := by
  unfold told
  rw [List.countP_pos_iff]
theorem afterB_iff (l : List Reply) : afterB l = true ↔ ∃ i a k r, l[i]? = some a ∧ l[k]? = some r ∧ hitB i k a r = true := by
  induction l with
  | nil => simp [afterB]
  | cons b l ih =>
    simp only [afterB, Bool.or_eq_true, ih, Bool.and_eq_true, decide_eq_true_eq, told_pos]
    constructor
    · rintro (⟨⟨h1, h2⟩, r, h3, h4, h5⟩ | ⟨i, a, k, r, h1, h2, h3⟩)
      · obtain ⟨j, hj⟩ := List.getElem?_of_mem h3
        exact ⟨0, b, j + 1, r, rfl, hj, by simp [hitB, h1, h2, h4, h5]⟩
      · refine ⟨i + 1, a, k + 1, r, h1, h2, ?_⟩
        simp only [hitB, Nat.add_lt_add_iff_right] at h3 ⊢; exact h3
    · rintro ⟨i, a, k, r, h1, h2, h3⟩
      simp only [hitB, Bool.and_eq_true, decide_eq_true_eq] at h3
      obtain ⟨g1, g2, g3, g4, g5⟩ := h3
      cases k with
      | zero => omega
      | succ k =>
        cases i with
        | zero => cases h1; exact .inl ⟨⟨g4, g5⟩, r, List.mem_of_getElem? h2, g1, g2⟩
        | succ i => exact .inr ⟨i, a, k, r, h1, h2, by simp [hitB, g1, g2, g4, g5]; omega⟩
theorem aft_all (l : List Reply) : aftI l l.length = afterB l := by
  rw [Bool.eq_iff_iff, aftI_iff l _ (Nat.le_refl _), afterB_iff]
  constructor
  · rintro ⟨i, a, k, r, h1, h2⟩; exact ⟨i, a, k, r, h2⟩
  · rintro ⟨i, a, k, r, h2, h3⟩
    exact ⟨i, a, k, r, Nat.lt_of_not_le fun h => (by rw [List.getElem?_eq_none h] at h2; cases h2), h2, h3⟩
end Go.Proofs.Ytkkncdokkdamcaa
