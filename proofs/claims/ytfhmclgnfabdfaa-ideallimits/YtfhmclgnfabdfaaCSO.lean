/- The order of bytes; where a name stands in a rising row. Conditions: none. -/
import Derived.Test.YtfhmclgnfabdfaaCS11K
namespace Go.Proofs.Ytfhmclgnfabdfaa
open Go Go.Vm Go.Proofs Go.Cl
set_option linter.unusedSimpArgs false
set_option linter.unusedVariables false
set_option maxRecDepth 100000
abbrev cmpB (a b : Bs) : Int := Lib.compareBytes a b
theorem cmp_self : ∀ a : Bs, cmpB a a = 0
  | [] => rfl
  | x :: a => by simp only [cmpB, Lib.compareBytes, UInt8.lt_irrefl, if_false]; exact cmp_self a
theorem cmp_zero : ∀ a b : Bs, cmpB a b = 0 → a = b
  | [], [], _ => rfl
  | [], _ :: _, h => by simp [cmpB, Lib.compareBytes] at h
  | _ :: _, [], h => by simp [cmpB, Lib.compareBytes] at h
  | x :: a, y :: b, h => by
    simp only [cmpB, Lib.compareBytes] at h
    split at h
    · cases h
    · split at h
      · cases h
      · rename_i h1 h2
        rw [UInt8.lt_iff_toNat_lt] at h1 h2
        have : x = y := UInt8.toNat_inj.1 (by omega)
        rw [this, cmp_zero a b h]
theorem cmp_anti : ∀ a b : Bs, cmpB a b = - cmpB b a
  | [], [] => rfl
  | [], _ :: _ => rfl
  | _ :: _, [] => rfl
  | x :: a, y :: b => by
    have ih := cmp_anti a b
    simp only [cmpB] at ih
    simp only [cmpB, Lib.compareBytes, UInt8.lt_iff_toNat_lt]
    by_cases h1 : x.toNat < y.toNat
    · rw [if_pos h1, if_neg (by omega), if_pos h1]
    · by_cases h2 : y.toNat < x.toNat
      · rw [if_neg h1, if_pos h2, if_pos h2]; rfl
      · rw [if_neg h1, if_neg h2, if_neg h2, if_neg h1]; exact ih
theorem cmp_trans : ∀ a b c : Bs, cmpB a b < 0 → cmpB b c < 0 → cmpB a c < 0
  | [], [], _, h, _ => by simp [cmpB, Lib.compareBytes] at h
  | [], _ :: _, [], _, h => by simp [cmpB, Lib.compareBytes] at h
  | [], _ :: _, _ :: _, _, _ => by simp [cmpB, Lib.compareBytes]
  | _ :: _, [], _, h, _ => by simp [cmpB, Lib.compareBytes] at h
  | _ :: _, _ :: _, [], _, h => by simp [cmpB, Lib.compareBytes] at h
  | x :: a, y :: b, z :: c, h1, h2 => by
    have ih := cmp_trans a b c
    simp only [cmpB] at ih
    simp only [cmpB, Lib.compareBytes, UInt8.lt_iff_toNat_lt] at h1 h2 ⊢
    split at h1
    · split at h2
      · rw [if_pos (by omega)]; decide
      · split at h2
        · cases h2
        · rw [if_pos (by omega)]; decide
    · split at h1
      · cases h1
      · split at h2
        · rw [if_pos (by omega)]; decide
        · split at h2
          · cases h2
          · rw [if_neg (by omega), if_neg (by omega)]; exact ih h1 h2
/-- Rising names. -/
def Rise (l : List Vault) : Prop := l.Pairwise fun v w => cmpB v.iD w.iD < 0
/-- Where a name stands, or would. -/
def pos (l : List Vault) (id : Bs) : Nat := l.countP fun v => decide (cmpB v.iD id < 0)
theorem pos_le (l : List Vault) (id : Bs) : pos l id ≤ l.length := List.countP_le_length
theorem pos_lt {id : Bs} : ∀ {l : List Vault}, Rise l → ∀ {i : Nat} {v : Vault}, l[i]? = some v → (cmpB v.iD id < 0 ↔ i < pos l id)
  | [], _, i, v, h => by simp at h
  | w :: l, hr, i, v, h => by
    obtain ⟨h1, h2⟩ := List.pairwise_cons.1 hr
    simp only [pos, List.countP_cons]
    by_cases hw : cmpB w.iD id < 0
    · simp only [hw, decide_true, if_true]
      cases i with
      | zero => simp at h; subst h; simp [hw]
      | succ i =>
        have := pos_lt (id := id) h2 (by simpa using h)
        rw [this]; unfold pos; omega
    · simp only [hw, decide_false, Bool.false_eq_true, if_false, Nat.add_zero]
      have hz : pos l id = 0 := by
        rw [pos, List.countP_eq_zero]
        intro x hx
        have h3 := h1 x hx
        simp only [decide_eq_true_eq]
        intro h4
        exact hw (cmp_trans _ _ _ h3 h4)
      unfold pos at hz
      rw [hz]
      cases i with
      | zero => simp at h; subst h; simp [hw]
      | succ i =>
        have h3 := h1 v (List.mem_of_getElem? (by simpa using h))
        constructor
        · intro h4; exact absurd (cmp_trans _ _ _ h3 h4) hw
        · omega
end Go.Proofs.Ytfhmclgnfabdfaa
