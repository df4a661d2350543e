/- A plain list's vault that was found. Conditions: none. -/
import Derived.Test.YtkkncdokkdamcaaCM23b
namespace Go.Proofs.Ytkkncdokkdamcaa
open Go Go.Vm Go.Proofs Go.Cl
set_option linter.unusedSimpArgs false
set_option linter.unusedVariables false
theorem fld0 (v : Vault) : v.enc = .st 74 [.arr 26 (v.iD.map byteV), .s (.int .u64 v.gen), .arr 28 (v.pin.map byteV), .imm false none (v.secret.map byteV), .s (.int .i64 v.limit), .s (.int .i64 v.used), .arr 28 (v.owner.map byteV), .s (.bool v.gone), .s (.bool v.wiped)] := rfl
/-- The vault that was found. -/
def atK (pl : List Vault) (k : Int) : Vault := (((pl[k.toNat]?).filter fun _ => decide (0 ≤ k))).getD zeroV
theorem atK_neg (pl : List Vault) {k : Int} (h : k < 0) : atK pl k = zeroV := by
  have : decide (0 ≤ k) = false := by simp; omega
  unfold atK
  rw [this]
  cases pl[k.toNat]? <;> rfl
theorem atK_nat {pl : List Vault} {j : Nat} {v : Vault} (h : pl[j]? = some v) : atK pl j = v := by
  unfold atK
  simp [h, Option.filter]
theorem Rel.right {ls : Nat → List Vault} {pl : List Vault} (r : Rel ls pl) : ∀ v ∈ pl, rightV v = true ∧ v.iD.length = 4 := fun v hv => by
  have := (r.mem _ (shardOf_lt v.iD) v).2 ⟨hv, rfl⟩
  exact ⟨((r.ok _ (shardOf_lt _)).2.2 v this).1, ((r.ok _ (shardOf_lt _)).2.2 v this).2.2⟩
theorem Rel.at {ls : Nat → List Vault} {pl : List Vault} (r : Rel ls pl) (id : Bs) : (getT (ls (shardOf id)) id).getD zeroV = atK pl (lastI pl id pl.length) ∧ ((getT (ls (shardOf id)) id).isSome = decide (0 ≤ lastI pl id pl.length)) := by
  rcases r.get id with ⟨h1, h2⟩ | ⟨j, v, h1, h2, h3, h4⟩
  · rw [h1, h2, atK_neg _ (by omega)]; exact ⟨rfl, rfl⟩
  · rw [h1, h4, atK_nat h2]; exact ⟨rfl, by simp⟩
end Go.Proofs.Ytkkncdokkdamcaa
