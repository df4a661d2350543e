/- VaultGens: its run. Conditions: none. -/
import Derived.Test.YtfhmclgnfabdfaaCS11K
namespace Go.Proofs.Ytfhmclgnfabdfaa
open Go Go.Vm Go.Proofs Go.Cl
set_option linter.unusedSimpArgs false
set_option linter.unusedVariables false
set_option maxRecDepth 100000
theorem keepQ_right (x : Q) (hx : x.wf) (id : Bs) : rightQ { keepQ x with iD := id } = true := by
  obtain ⟨h1, h2, h3, h4, h5, h6, h7, h8, h9⟩ := keepQ_facts x hx
  have hop : (keepQ x).op = 1 ∨ (keepQ x).op = 2 ∨ (keepQ x).op = 3 ∨ (keepQ x).op = 4 := by omega
  have g4 := within_ge (n := x.limit) (lo := 1) (hi := 32) (by omega)
  have g5 := within_le (n := x.limit) (lo := 1) (hi := 32) (by omega)
  have hw : whoB (keepQ x).client (keepQ x).num = true := by simp [whoB, h4, h5, h6]
  have e1 : ∀ n, (keepQ x).op = n → (1 + (within x.op 0 1048576).tmod 4) = n := fun n h => h
  rcases hop with h | h | h | h
  · have := e1 _ h
    simp only [rightQ, hw, h]
    simp [keepQ, this, g4, g5]; omega
  · have := e1 _ h
    simp only [rightQ, hw, h]
    simp [keepQ, this]
  · have := e1 _ h
    simp only [rightQ, hw, h]
    simp [keepQ, this, g4, g5]; omega
  · have := e1 _ h
    simp only [rightQ, hw, h]
    simp [keepQ, this]
/-- A vault that is right, or none. -/
def okV (id : Bs) (v : Vault) : Prop := v = zeroV ∨ rightV v = true ∧ v.iD = id
def id7 : Bs := [7, 0, 0, 0]
end Go.Proofs.Ytfhmclgnfabdfaa
