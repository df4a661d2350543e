/- Go's structs as plain data. Conditions: none. -/
import Derived.Test.YthhkalljgjmhdaaCVc
import Derived.Test.YthhkalljgjmhdaaCB
namespace Go.Proofs.Ythhkalljgjmhdaa
open Go Go.Vm Go.Proofs
set_option linter.unusedVariables false
set_option maxRecDepth 100000
/-- api.Letter -/
structure Letter where
  kind : Int
  from_ : Int
  to_ : Int
  bytes : (List UInt8)
  deriving DecidableEq, Inhabited
def Letter.enc (a : Letter) : V := .st 25 [.s (.int .i64 a.kind), .s (.int .i64 a.from_), .s (.int .i64 a.to_), .imm false none (a.bytes.map byteV)]
structure Letter.wf (a : Letter) : Prop where
  kind : -9223372036854775808 ≤ a.kind ∧ a.kind ≤ 9223372036854775807
  from_ : -9223372036854775808 ≤ a.from_ ∧ a.from_ ≤ 9223372036854775807
  to_ : -9223372036854775808 ≤ a.to_ ∧ a.to_ ≤ 9223372036854775807
  bytes : a.bytes.length ≤ 140737488351232
theorem Letter.of (n : Nat) {v : V} (h : HasTy Try.prog (n + 3) 26 v) : ∃ a : Letter, v = a.enc ∧ a.wf := by
  obtain ⟨vs, rfl, hl, hf⟩ := of_struct h Try.underlying26
  match vs, hl with
  | [x0, x1, x2, x3], _ =>
    obtain ⟨a0, rfl, w0⟩ := of_i64 (n := n + 1) (hf 0 _ x0 rfl rfl) Try.underlying3
    obtain ⟨a1, rfl, w1⟩ := of_i64 (n := n + 1) (hf 1 _ x1 rfl rfl) Try.underlying3
    obtain ⟨a2, rfl, w2⟩ := of_i64 (n := n + 1) (hf 2 _ x2 rfl rfl) Try.underlying3
    obtain ⟨a3, rfl, w3⟩ := of_bytes (n := n + 0) (hf 3 _ x3 rfl rfl) Try.underlying24 Try.underlying5 (by kernel_rfl)
    exact ⟨⟨a0, a1, a2, a3⟩, rfl, ⟨w0, w1, w2, w3⟩⟩
/-- clavigerlaw21.Ask -/
structure Ask21 where
  kind : Int
  i : Int
  l : Letter
  deriving DecidableEq, Inhabited
def Ask21.enc (a : Ask21) : V := .st 27 [.s (.int .i64 a.kind), .s (.int .i64 a.i), Letter.enc a.l]
structure Ask21.wf (a : Ask21) : Prop where
  kind : -9223372036854775808 ≤ a.kind ∧ a.kind ≤ 9223372036854775807
  i : -9223372036854775808 ≤ a.i ∧ a.i ≤ 9223372036854775807
  l : a.l.wf
theorem Ask21.of (n : Nat) {v : V} (h : HasTy Try.prog (n + 4) 28 v) : ∃ a : Ask21, v = a.enc ∧ a.wf := by
  obtain ⟨vs, rfl, hl, hf⟩ := of_struct h Try.underlying28
  match vs, hl with
  | [x0, x1, x2], _ =>
    obtain ⟨a0, rfl, w0⟩ := of_i64 (n := n + 2) (hf 0 _ x0 rfl rfl) Try.underlying3
    obtain ⟨a1, rfl, w1⟩ := of_i64 (n := n + 2) (hf 1 _ x1 rfl rfl) Try.underlying3
    obtain ⟨a2, rfl, w2⟩ := Letter.of _ (hf 2 _ x2 rfl rfl)
    exact ⟨⟨a0, a1, a2⟩, rfl, ⟨w0, w1, w2⟩⟩
end Go.Proofs.Ythhkalljgjmhdaa
