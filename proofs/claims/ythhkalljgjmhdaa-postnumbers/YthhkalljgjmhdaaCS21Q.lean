/- Post: an office is held against plain rows. Conditions: none. -/
import Derived.Test.YthhkalljgjmhdaaCS21P
import Derived.Test.YthhkalljgjmhdaaCVc
namespace Go.Proofs.Ythhkalljgjmhdaa
open Go Go.Vm Go.Proofs Go.Cl
set_option linter.unusedSimpArgs false
set_option linter.unusedVariables false
set_option maxRecDepth 100000

theorem firstFree_snoc (y : It) : ∀ (A : List It) (j : Nat), firstFree (A ++ [y]) j = if firstFree A j < 0 then (if y.2 = true then -1 else ((j + A.length : Nat) : Int)) else firstFree A j
  | [], j => by simp [firstFree]
  | x :: A, j => by
    cases hx : x.2 with
    | true =>
      have := firstFree_snoc y A (j + 1)
      have e : j + 1 + A.length = j + (A.length + 1) := by omega
      simp only [List.cons_append, firstFree, hx, if_true, this, List.length_cons, e]
    | false =>
      have : ¬ ((j : Int) < 0) := by omega
      simp [firstFree, hx, this]
theorem firstFree_ge : ∀ (A : List It) (j : Nat), firstFree A j = -1 ∨ 0 ≤ firstFree A j
  | [], _ => .inl rfl
  | x :: A, j => by
    cases hx : x.2 with
    | true => simp only [firstFree, hx, if_true]; exact firstFree_ge A _
    | false => simp [firstFree, hx]
def letsV (O : List It) : List V := O.map fun x => x.1.enc
def heldV (O : List It) : List V := O.map fun x => .s (.bool x.2)
theorem heldAt_nat {O : List It} {i : Nat} {y : It} (h : O[i]? = some y) : heldAt O (i : Nat) = y.2 := by
  simp [heldAt, h]
end Go.Proofs.Ythhkalljgjmhdaa
