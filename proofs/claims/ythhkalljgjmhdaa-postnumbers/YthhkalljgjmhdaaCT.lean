/- Go's structs as plain data. Conditions: none. -/
import Derived.Test.YthhkalljgjmhdaaCVc
import Derived.Test.YthhkalljgjmhdaaCB
namespace Go.Proofs.Ythhkalljgjmhdaa
open Go Go.Vm Go.Proofs
set_option linter.unusedVariables false
set_option maxRecDepth 100000
/-- api.Letter -/
structure Letter where
  kind : Int
  from_ : Int
  to_ : Int
  bytes : (List UInt8)
  deriving DecidableEq, Inhabited
def Letter.enc (a : Letter) : V := .st 25 [.s (.int .i64 a.kind), .s (.int .i64 a.from_), .s (.int .i64 a.to_), .imm false none (a.bytes.map byteV)]
structure Letter.wf (a : Letter) : Prop where
  kind : -9223372036854775808 ≤ a.kind ∧ a.kind ≤ 9223372036854775807
  from_ : -9223372036854775808 ≤ a.from_ ∧ a.from_ ≤ 9223372036854775807
  to_ : -9223372036854775808 ≤ a.to_ ∧ a.to_ ≤ 9223372036854775807
  bytes : a.bytes.length ≤ 140737488351232
/-- clavigerlaw21.Ask -/
structure Ask21 where
  kind : Int
  i : Int
  l : Letter
  deriving DecidableEq, Inhabited
def Ask21.enc (a : Ask21) : V := .st 27 [.s (.int .i64 a.kind), .s (.int .i64 a.i), Letter.enc a.l]
structure Ask21.wf (a : Ask21) : Prop where
  kind : -9223372036854775808 ≤ a.kind ∧ a.kind ≤ 9223372036854775807
  i : -9223372036854775808 ≤ a.i ∧ a.i ≤ 9223372036854775807
  l : a.l.wf
end Go.Proofs.Ythhkalljgjmhdaa
