/- Go's structs as plain data. Conditions: none. -/
import Derived.Test.YtfhmclgnfabdfaaCVc
import Derived.Test.YtfhmclgnfabdfaaCB
namespace Go.Proofs.Ytfhmclgnfabdfaa
open Go Go.Vm Go.Proofs
set_option linter.unusedVariables false
set_option maxRecDepth 100000
/-- clavigerkeep.Q -/
structure Q where
  op : Int
  iD : Int
  pin : Int
  owner : Int
  limit : Int
  client : Int
  num : Int
  secret : (List UInt8)
  deriving DecidableEq, Inhabited
def Q.enc (a : Q) : V := .st 35 [.s (.int .i64 a.op), .s (.int .i64 a.iD), .s (.int .i64 a.pin), .s (.int .i64 a.owner), .s (.int .i64 a.limit), .s (.int .i64 a.client), .s (.int .u64 a.num), .imm false none (a.secret.map byteV)]
structure Q.wf (a : Q) : Prop where
  op : -9223372036854775808 ≤ a.op ∧ a.op ≤ 9223372036854775807
  iD : -9223372036854775808 ≤ a.iD ∧ a.iD ≤ 9223372036854775807
  pin : -9223372036854775808 ≤ a.pin ∧ a.pin ≤ 9223372036854775807
  owner : -9223372036854775808 ≤ a.owner ∧ a.owner ≤ 9223372036854775807
  limit : -9223372036854775808 ≤ a.limit ∧ a.limit ≤ 9223372036854775807
  client : -9223372036854775808 ≤ a.client ∧ a.client ≤ 9223372036854775807
  num : 0 ≤ a.num ∧ a.num ≤ 18446744073709551615
  secret : a.secret.length ≤ 140737488351232
theorem Q.of (n : Nat) {v : V} (h : HasTy Try.prog (n + 3) 36 v) : ∃ a : Q, v = a.enc ∧ a.wf := by
  obtain ⟨vs, rfl, hl, hf⟩ := of_struct h Try.underlying36
  match vs, hl with
  | [x0, x1, x2, x3, x4, x5, x6, x7], _ =>
    obtain ⟨a0, rfl, w0⟩ := of_i64 (n := n + 1) (hf 0 _ x0 rfl rfl) Try.underlying3
    obtain ⟨a1, rfl, w1⟩ := of_i64 (n := n + 1) (hf 1 _ x1 rfl rfl) Try.underlying3
    obtain ⟨a2, rfl, w2⟩ := of_i64 (n := n + 1) (hf 2 _ x2 rfl rfl) Try.underlying3
    obtain ⟨a3, rfl, w3⟩ := of_i64 (n := n + 1) (hf 3 _ x3 rfl rfl) Try.underlying3
    obtain ⟨a4, rfl, w4⟩ := of_i64 (n := n + 1) (hf 4 _ x4 rfl rfl) Try.underlying3
    obtain ⟨a5, rfl, w5⟩ := of_i64 (n := n + 1) (hf 5 _ x5 rfl rfl) Try.underlying3
    obtain ⟨a6, rfl, w6⟩ := of_u64 (n := n + 1) (hf 6 _ x6 rfl rfl) Try.underlying25
    obtain ⟨a7, rfl, w7⟩ := of_bytes (n := n + 0) (hf 7 _ x7 rfl rfl) Try.underlying28 Try.underlying5 (by kernel_rfl)
    exact ⟨⟨a0, a1, a2, a3, a4, a5, a6, a7⟩, rfl, ⟨w0, w1, w2, w3, w4, w5, w6, w7⟩⟩
/-- clavigerkeep.V -/
structure KV where
  iD : Int
  pin : Int
  owner : Int
  limit : Int
  used : Int
  how : Int
  gen : Int
  secret : (List UInt8)
  deriving DecidableEq, Inhabited
def KV.enc (a : KV) : V := .st 51 [.s (.int .i64 a.iD), .s (.int .i64 a.pin), .s (.int .i64 a.owner), .s (.int .i64 a.limit), .s (.int .i64 a.used), .s (.int .i64 a.how), .s (.int .u64 a.gen), .imm false none (a.secret.map byteV)]
structure KV.wf (a : KV) : Prop where
  iD : -9223372036854775808 ≤ a.iD ∧ a.iD ≤ 9223372036854775807
  pin : -9223372036854775808 ≤ a.pin ∧ a.pin ≤ 9223372036854775807
  owner : -9223372036854775808 ≤ a.owner ∧ a.owner ≤ 9223372036854775807
  limit : -9223372036854775808 ≤ a.limit ∧ a.limit ≤ 9223372036854775807
  used : -9223372036854775808 ≤ a.used ∧ a.used ≤ 9223372036854775807
  how : -9223372036854775808 ≤ a.how ∧ a.how ≤ 9223372036854775807
  gen : 0 ≤ a.gen ∧ a.gen ≤ 18446744073709551615
  secret : a.secret.length ≤ 140737488351232
theorem KV.of (n : Nat) {v : V} (h : HasTy Try.prog (n + 3) 52 v) : ∃ a : KV, v = a.enc ∧ a.wf := by
  obtain ⟨vs, rfl, hl, hf⟩ := of_struct h Try.underlying52
  match vs, hl with
  | [x0, x1, x2, x3, x4, x5, x6, x7], _ =>
    obtain ⟨a0, rfl, w0⟩ := of_i64 (n := n + 1) (hf 0 _ x0 rfl rfl) Try.underlying3
    obtain ⟨a1, rfl, w1⟩ := of_i64 (n := n + 1) (hf 1 _ x1 rfl rfl) Try.underlying3
    obtain ⟨a2, rfl, w2⟩ := of_i64 (n := n + 1) (hf 2 _ x2 rfl rfl) Try.underlying3
    obtain ⟨a3, rfl, w3⟩ := of_i64 (n := n + 1) (hf 3 _ x3 rfl rfl) Try.underlying3
    obtain ⟨a4, rfl, w4⟩ := of_i64 (n := n + 1) (hf 4 _ x4 rfl rfl) Try.underlying3
    obtain ⟨a5, rfl, w5⟩ := of_i64 (n := n + 1) (hf 5 _ x5 rfl rfl) Try.underlying3
    obtain ⟨a6, rfl, w6⟩ := of_u64 (n := n + 1) (hf 6 _ x6 rfl rfl) Try.underlying25
    obtain ⟨a7, rfl, w7⟩ := of_bytes (n := n + 0) (hf 7 _ x7 rfl rfl) Try.underlying28 Try.underlying5 (by kernel_rfl)
    exact ⟨⟨a0, a1, a2, a3, a4, a5, a6, a7⟩, rfl, ⟨w0, w1, w2, w3, w4, w5, w6, w7⟩⟩
/-- api.Vault -/
structure Vault where
  iD : (List UInt8)
  gen : Int
  pin : (List UInt8)
  secret : (List UInt8)
  limit : Int
  used : Int
  owner : (List UInt8)
  gone : Bool
  wiped : Bool
  deriving DecidableEq, Inhabited
def Vault.enc (a : Vault) : V := .st 29 [.arr 23 (a.iD.map byteV), .s (.int .u64 a.gen), .arr 26 (a.pin.map byteV), .imm false none (a.secret.map byteV), .s (.int .i64 a.limit), .s (.int .i64 a.used), .arr 26 (a.owner.map byteV), .s (.bool a.gone), .s (.bool a.wiped)]
structure Vault.wf (a : Vault) : Prop where
  iD : a.iD.length = 4
  gen : 0 ≤ a.gen ∧ a.gen ≤ 18446744073709551615
  pin : a.pin.length = 16
  secret : a.secret.length ≤ 140737488351232
  limit : -9223372036854775808 ≤ a.limit ∧ a.limit ≤ 9223372036854775807
  used : -9223372036854775808 ≤ a.used ∧ a.used ≤ 9223372036854775807
  owner : a.owner.length = 16
  gone : True
  wiped : True
theorem Vault.of (n : Nat) {v : V} (h : HasTy Try.prog (n + 3) 30 v) : ∃ a : Vault, v = a.enc ∧ a.wf := by
  obtain ⟨vs, rfl, hl, hf⟩ := of_struct h Try.underlying30
  match vs, hl with
  | [x0, x1, x2, x3, x4, x5, x6, x7, x8], _ =>
    obtain ⟨a0, rfl, w0⟩ := of_arr8 (n := n + 0) (hf 0 _ x0 rfl rfl) Try.underlying24 Try.underlying5
    obtain ⟨a1, rfl, w1⟩ := of_u64 (n := n + 1) (hf 1 _ x1 rfl rfl) Try.underlying25
    obtain ⟨a2, rfl, w2⟩ := of_arr8 (n := n + 0) (hf 2 _ x2 rfl rfl) Try.underlying27 Try.underlying5
    obtain ⟨a3, rfl, w3⟩ := of_bytes (n := n + 0) (hf 3 _ x3 rfl rfl) Try.underlying28 Try.underlying5 (by kernel_rfl)
    obtain ⟨a4, rfl, w4⟩ := of_i64 (n := n + 1) (hf 4 _ x4 rfl rfl) Try.underlying3
    obtain ⟨a5, rfl, w5⟩ := of_i64 (n := n + 1) (hf 5 _ x5 rfl rfl) Try.underlying3
    obtain ⟨a6, rfl, w6⟩ := of_arr8 (n := n + 0) (hf 6 _ x6 rfl rfl) Try.underlying27 Try.underlying5
    obtain ⟨a7, rfl, w7⟩ := (of_bool (n := n + 1) (hf 7 _ x7 rfl rfl) Try.underlying4).imp fun _ h => And.intro h trivial
    obtain ⟨a8, rfl, w8⟩ := (of_bool (n := n + 1) (hf 8 _ x8 rfl rfl) Try.underlying4).imp fun _ h => And.intro h trivial
    exact ⟨⟨a0, a1, a2, a3, a4, a5, a6, a7, a8⟩, rfl, ⟨w0, w1, w2, w3, w4, w5, w6, w7, w8⟩⟩
/-- api.Request -/
structure Request where
  op : Int
  iD : (List UInt8)
  pin : (List UInt8)
  secret : (List UInt8)
  limit : Int
  owner : (List UInt8)
  key_ : (List UInt8)
  client : Int
  num : Int
  deriving DecidableEq, Inhabited
def Request.enc (a : Request) : V := .st 32 [.s (.int .i64 a.op), .arr 23 (a.iD.map byteV), .arr 26 (a.pin.map byteV), .imm false none (a.secret.map byteV), .s (.int .i64 a.limit), .arr 26 (a.owner.map byteV), .arr 26 (a.key_.map byteV), .s (.int .i64 a.client), .s (.int .u64 a.num)]
structure Request.wf (a : Request) : Prop where
  op : -9223372036854775808 ≤ a.op ∧ a.op ≤ 9223372036854775807
  iD : a.iD.length = 4
  pin : a.pin.length = 16
  secret : a.secret.length ≤ 140737488351232
  limit : -9223372036854775808 ≤ a.limit ∧ a.limit ≤ 9223372036854775807
  owner : a.owner.length = 16
  key_ : a.key_.length = 16
  client : -9223372036854775808 ≤ a.client ∧ a.client ≤ 9223372036854775807
  num : 0 ≤ a.num ∧ a.num ≤ 18446744073709551615
theorem Request.of (n : Nat) {v : V} (h : HasTy Try.prog (n + 3) 33 v) : ∃ a : Request, v = a.enc ∧ a.wf := by
  obtain ⟨vs, rfl, hl, hf⟩ := of_struct h Try.underlying33
  match vs, hl with
  | [x0, x1, x2, x3, x4, x5, x6, x7, x8], _ =>
    obtain ⟨a0, rfl, w0⟩ := of_i64 (n := n + 1) (hf 0 _ x0 rfl rfl) Try.underlying3
    obtain ⟨a1, rfl, w1⟩ := of_arr8 (n := n + 0) (hf 1 _ x1 rfl rfl) Try.underlying24 Try.underlying5
    obtain ⟨a2, rfl, w2⟩ := of_arr8 (n := n + 0) (hf 2 _ x2 rfl rfl) Try.underlying27 Try.underlying5
    obtain ⟨a3, rfl, w3⟩ := of_bytes (n := n + 0) (hf 3 _ x3 rfl rfl) Try.underlying28 Try.underlying5 (by kernel_rfl)
    obtain ⟨a4, rfl, w4⟩ := of_i64 (n := n + 1) (hf 4 _ x4 rfl rfl) Try.underlying3
    obtain ⟨a5, rfl, w5⟩ := of_arr8 (n := n + 0) (hf 5 _ x5 rfl rfl) Try.underlying27 Try.underlying5
    obtain ⟨a6, rfl, w6⟩ := of_arr8 (n := n + 0) (hf 6 _ x6 rfl rfl) Try.underlying27 Try.underlying5
    obtain ⟨a7, rfl, w7⟩ := of_i64 (n := n + 1) (hf 7 _ x7 rfl rfl) Try.underlying3
    obtain ⟨a8, rfl, w8⟩ := of_u64 (n := n + 1) (hf 8 _ x8 rfl rfl) Try.underlying25
    exact ⟨⟨a0, a1, a2, a3, a4, a5, a6, a7, a8⟩, rfl, ⟨w0, w1, w2, w3, w4, w5, w6, w7, w8⟩⟩
/-- api.Reply -/
structure Reply where
  why : Int
  iD : (List UInt8)
  gen : Int
  left : Int
  secret : (List UInt8)
  client : Int
  num : Int
  deriving DecidableEq, Inhabited
def Reply.enc (a : Reply) : V := .st 38 [.s (.int .i64 a.why), .arr 23 (a.iD.map byteV), .s (.int .u64 a.gen), .s (.int .i64 a.left), .imm false none (a.secret.map byteV), .s (.int .i64 a.client), .s (.int .u64 a.num)]
structure Reply.wf (a : Reply) : Prop where
  why : -9223372036854775808 ≤ a.why ∧ a.why ≤ 9223372036854775807
  iD : a.iD.length = 4
  gen : 0 ≤ a.gen ∧ a.gen ≤ 18446744073709551615
  left : -9223372036854775808 ≤ a.left ∧ a.left ≤ 9223372036854775807
  secret : a.secret.length ≤ 140737488351232
  client : -9223372036854775808 ≤ a.client ∧ a.client ≤ 9223372036854775807
  num : 0 ≤ a.num ∧ a.num ≤ 18446744073709551615
theorem Reply.of (n : Nat) {v : V} (h : HasTy Try.prog (n + 3) 39 v) : ∃ a : Reply, v = a.enc ∧ a.wf := by
  obtain ⟨vs, rfl, hl, hf⟩ := of_struct h Try.underlying39
  match vs, hl with
  | [x0, x1, x2, x3, x4, x5, x6], _ =>
    obtain ⟨a0, rfl, w0⟩ := of_i64 (n := n + 1) (hf 0 _ x0 rfl rfl) Try.underlying37
    obtain ⟨a1, rfl, w1⟩ := of_arr8 (n := n + 0) (hf 1 _ x1 rfl rfl) Try.underlying24 Try.underlying5
    obtain ⟨a2, rfl, w2⟩ := of_u64 (n := n + 1) (hf 2 _ x2 rfl rfl) Try.underlying25
    obtain ⟨a3, rfl, w3⟩ := of_i64 (n := n + 1) (hf 3 _ x3 rfl rfl) Try.underlying3
    obtain ⟨a4, rfl, w4⟩ := of_bytes (n := n + 0) (hf 4 _ x4 rfl rfl) Try.underlying28 Try.underlying5 (by kernel_rfl)
    obtain ⟨a5, rfl, w5⟩ := of_i64 (n := n + 1) (hf 5 _ x5 rfl rfl) Try.underlying3
    obtain ⟨a6, rfl, w6⟩ := of_u64 (n := n + 1) (hf 6 _ x6 rfl rfl) Try.underlying25
    exact ⟨⟨a0, a1, a2, a3, a4, a5, a6⟩, rfl, ⟨w0, w1, w2, w3, w4, w5, w6⟩⟩
end Go.Proofs.Ytfhmclgnfabdfaa
