/- Go's structs as plain data. Conditions: none. -/
import Derived.Test.YtkkncdokkdamcaaCVc
import Derived.Test.YtkkncdokkdamcaaCB
namespace Go.Proofs.Ytkkncdokkdamcaa
open Go Go.Vm Go.Proofs
set_option linter.unusedVariables false
set_option maxRecDepth 100000
/-- clavigerkeep.Q -/
structure Q where
  op : Int
  iD : Int
  pin : Int
  owner : Int
  limit : Int
  client : Int
  num : Int
  secret : (List UInt8)
  deriving DecidableEq, Inhabited
def Q.enc (a : Q) : V := .st 35 [.s (.int .i64 a.op), .s (.int .i64 a.iD), .s (.int .i64 a.pin), .s (.int .i64 a.owner), .s (.int .i64 a.limit), .s (.int .i64 a.client), .s (.int .u64 a.num), .imm false none (a.secret.map byteV)]
structure Q.wf (a : Q) : Prop where
  op : -9223372036854775808 ≤ a.op ∧ a.op ≤ 9223372036854775807
  iD : -9223372036854775808 ≤ a.iD ∧ a.iD ≤ 9223372036854775807
  pin : -9223372036854775808 ≤ a.pin ∧ a.pin ≤ 9223372036854775807
  owner : -9223372036854775808 ≤ a.owner ∧ a.owner ≤ 9223372036854775807
  limit : -9223372036854775808 ≤ a.limit ∧ a.limit ≤ 9223372036854775807
  client : -9223372036854775808 ≤ a.client ∧ a.client ≤ 9223372036854775807
  num : 0 ≤ a.num ∧ a.num ≤ 18446744073709551615
  secret : a.secret.length ≤ 140737488351232
/-- api.Vault -/
structure Vault where
  iD : (List UInt8)
  gen : Int
  pin : (List UInt8)
  secret : (List UInt8)
  limit : Int
  used : Int
  owner : (List UInt8)
  gone : Bool
  wiped : Bool
  deriving DecidableEq, Inhabited
def Vault.enc (a : Vault) : V := .st 74 [.arr 26 (a.iD.map byteV), .s (.int .u64 a.gen), .arr 28 (a.pin.map byteV), .imm false none (a.secret.map byteV), .s (.int .i64 a.limit), .s (.int .i64 a.used), .arr 28 (a.owner.map byteV), .s (.bool a.gone), .s (.bool a.wiped)]
structure Vault.wf (a : Vault) : Prop where
  iD : a.iD.length = 4
  gen : 0 ≤ a.gen ∧ a.gen ≤ 18446744073709551615
  pin : a.pin.length = 16
  secret : a.secret.length ≤ 140737488351232
  limit : -9223372036854775808 ≤ a.limit ∧ a.limit ≤ 9223372036854775807
  used : -9223372036854775808 ≤ a.used ∧ a.used ≤ 9223372036854775807
  owner : a.owner.length = 16
  gone : True
  wiped : True
/-- api.Request -/
structure Request where
  op : Int
  iD : (List UInt8)
  pin : (List UInt8)
  secret : (List UInt8)
  limit : Int
  owner : (List UInt8)
  key_ : (List UInt8)
  client : Int
  num : Int
  deriving DecidableEq, Inhabited
def Request.enc (a : Request) : V := .st 32 [.s (.int .i64 a.op), .arr 26 (a.iD.map byteV), .arr 28 (a.pin.map byteV), .imm false none (a.secret.map byteV), .s (.int .i64 a.limit), .arr 28 (a.owner.map byteV), .arr 28 (a.key_.map byteV), .s (.int .i64 a.client), .s (.int .u64 a.num)]
structure Request.wf (a : Request) : Prop where
  op : -9223372036854775808 ≤ a.op ∧ a.op ≤ 9223372036854775807
  iD : a.iD.length = 4
  pin : a.pin.length = 16
  secret : a.secret.length ≤ 140737488351232
  limit : -9223372036854775808 ≤ a.limit ∧ a.limit ≤ 9223372036854775807
  owner : a.owner.length = 16
  key_ : a.key_.length = 16
  client : -9223372036854775808 ≤ a.client ∧ a.client ≤ 9223372036854775807
  num : 0 ≤ a.num ∧ a.num ≤ 18446744073709551615
/-- api.Reply -/
structure Reply where
  why : Int
  iD : (List UInt8)
  gen : Int
  left : Int
  secret : (List UInt8)
  client : Int
  num : Int
  deriving DecidableEq, Inhabited
def Reply.enc (a : Reply) : V := .st 39 [.s (.int .i64 a.why), .arr 26 (a.iD.map byteV), .s (.int .u64 a.gen), .s (.int .i64 a.left), .imm false none (a.secret.map byteV), .s (.int .i64 a.client), .s (.int .u64 a.num)]
structure Reply.wf (a : Reply) : Prop where
  why : -9223372036854775808 ≤ a.why ∧ a.why ≤ 9223372036854775807
  iD : a.iD.length = 4
  gen : 0 ≤ a.gen ∧ a.gen ≤ 18446744073709551615
  left : -9223372036854775808 ≤ a.left ∧ a.left ≤ 9223372036854775807
  secret : a.secret.length ≤ 140737488351232
  client : -9223372036854775808 ≤ a.client ∧ a.client ≤ 9223372036854775807
  num : 0 ≤ a.num ∧ a.num ≤ 18446744073709551615
/-- clavigerlaw25.Draw -/
structure Draw where
  q : Q
  turn : Int
  deriving DecidableEq, Inhabited
def Draw.enc (a : Draw) : V := .st 57 [Q.enc a.q, .s (.int .i64 a.turn)]
structure Draw.wf (a : Draw) : Prop where
  q : a.q.wf
  turn : -9223372036854775808 ≤ a.turn ∧ a.turn ≤ 9223372036854775807
/-- desk.Deed -/
structure Deed where
  member : Int
  request : Request
  reply : Reply
  deriving DecidableEq, Inhabited
def Deed.enc (a : Deed) : V := .st 93 [.s (.int .i64 a.member), Request.enc a.request, Reply.enc a.reply]
structure Deed.wf (a : Deed) : Prop where
  member : -9223372036854775808 ≤ a.member ∧ a.member ≤ 9223372036854775807
  request : a.request.wf
  reply : a.reply.wf
end Go.Proofs.Ytkkncdokkdamcaa
