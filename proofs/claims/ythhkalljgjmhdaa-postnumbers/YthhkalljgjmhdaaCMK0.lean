/- Small things that the statements use, as plain data. Conditions: none. -/
import Derived.Test.YthhkalljgjmhdaaCVc
namespace Go.Cl
set_option linter.unusedVariables false
/-- Bytes. -/
abbrev Bs := List UInt8

/-- A number brought into lo .. hi. -/
def within (n lo hi : Int) : Int := if lo ≤ n ∧ n ≤ hi then n else lo + n % (hi - lo + 1)
theorem within_ge {n lo hi : Int} (h : lo ≤ hi) : lo ≤ within n lo hi := by
  unfold within
  split
  · omega
  · have := Int.emod_nonneg n (show hi - lo + 1 ≠ 0 by omega); omega
theorem within_le {n lo hi : Int} (h : lo ≤ hi) : within n lo hi ≤ hi := by
  unfold within
  split
  · omega
  · have := Int.emod_lt_of_pos n (show 0 < hi - lo + 1 by omega); omega
theorem tmod_pos {n m : Int} (hm : 0 < m) : n % m = if n.tmod m < 0 then n.tmod m + m else n.tmod m := by
  rw [Int.emod_eq_tmod]
  by_cases h : 0 ≤ n
  · have h1 : (0 ≤ n ∨ m ∣ n) := .inl h
    rw [if_pos h1]
    have := Int.tmod_nonneg m h
    rw [if_neg (by omega)]; omega
  · by_cases hd : m ∣ n
    · rw [if_pos (.inr hd), Int.tmod_eq_zero_of_dvd hd]; simp
    · rw [if_neg (by simp [h, hd])]
      have h2 : n.tmod m ≠ 0 := fun e => hd (Int.dvd_of_tmod_eq_zero e)
      have h3 : n.tmod m ≤ 0 := by
        have := Int.tmod_nonneg m (show 0 ≤ -n by omega)
        rw [Int.neg_tmod] at this; omega
      rw [if_pos (by omega)]
      have : (m.natAbs : Int) = m := by omega
      rw [this]

end Go.Cl
