/-
  No cell of these rows narrows 'for every input' (looked for: loops, veiled, ifaces, maps, wideKeys, modest, calm, conditions, laid).
  DERIVED. THE GIVEN ROWS OF THIS SEAT. 3 by the template 'for every input the law returns true; each argument reads behind the call as it read before'; 0 by the template 'total and deterministic' (their statements: YtfhmclgnfabdfaaTotals.lean).
  GIVEN WITH THE SEED: the statements are not yours to turn. If you find one false, say at which input.
  Laid BY PROGRAM, IN A SANDBOX (cutbox-rows.mjs): the forced cells as the released guide's own fill.sh prints them over the translation 4109d4668272052e… (all of the seat's roots in one cut). By AI agents, Wed Nov 11 2026. No macro, syntax, notation, axiom, sorry.
-/
import Derived.Test.YtfhmclgnfabdfaaChecked
import GoSem.Claim
import GoSem.ClaimJoined
import GoSem.ClaimMapViews
import Derived.JoinedTies
import Derived.KernelRfl
namespace Go.Proofs.Ytfhmclgnfabdfaa
/- THE CELL 'sum', in the pinned program and in every row, IS THE sha256 OF THE DUMP (.gsa) THAT YtfhmclgnfabdfaaProg.lean LOADS. Nothing in Lean hashes anything: it is a label: what it is worth is what the hold of that sum in a sandbox is worth. -/
noncomputable def Try.pinned : Pinned := { name := "ytfhmclgnfabdfaa", sum := "4109d4668272052ed07698dc1b8bbc7dcb3943787b7eb08fdd0604871967745a", checked := Try.checked }
namespace Rows
def none {H : Type} : Left H := { results := [], args := [] }

/-- 'clavigerlaw11.VaultLimit': WHATEVER THE INPUT: true; the input reads as it did. -/
def vaultLimitSpec : ChangeSpec := { name := "vaultLimit", fn := fun _ => fun
  | [d] => { results := [.lit (.bool true)], args := [d] }
  | _ => none }
def vaultLimitRow : OpenClaim := { program := "ytfhmclgnfabdfaa", sum := "4109d4668272052ed07698dc1b8bbc7dcb3943787b7eb08fdd0604871967745a", func := "claviger/clavigerlaw11.VaultLimit", spec := "vaultLimit", plainKeys := false, apart := false }
def VaultLimitSaid : Prop := vaultLimitRow.holds Try.pinned (OpenSpec.ofChange vaultLimitSpec)

/-- ITS FALSE NEIGHBOUR: 'it returns false'. Refute it at one input. -/
def vaultLimitWrong : ChangeSpec := { name := "vaultLimit", fn := fun _ => fun
  | [d] => { results := [.lit (.bool false)], args := [d] }
  | _ => none }
def VaultLimitWrongFalsely : Prop := vaultLimitRow.holds Try.pinned (OpenSpec.ofChange vaultLimitWrong)

/-- 'clavigerlaw12.TableOrder': WHATEVER THE INPUT: true; the input reads as it did. -/
def tableOrderSpec : ChangeSpec := { name := "tableOrder", fn := fun _ => fun
  | [d1, d2] => { results := [.lit (.bool true)], args := [d1, d2] }
  | _ => none }
def tableOrderRow : OpenClaim := { program := "ytfhmclgnfabdfaa", sum := "4109d4668272052ed07698dc1b8bbc7dcb3943787b7eb08fdd0604871967745a", func := "claviger/clavigerlaw12.TableOrder", spec := "tableOrder", inPlace := ["internal/bytealg.Compare", "slices.overlaps[claviger/api.Vault]"], unfollowed := true, recurses := true, plainKeys := false, apart := false }
def TableOrderSaid : Prop := tableOrderRow.holds Try.pinned (OpenSpec.ofChange tableOrderSpec)

/-- ITS FALSE NEIGHBOUR: 'it returns false'. Refute it at one input. -/
def tableOrderWrong : ChangeSpec := { name := "tableOrder", fn := fun _ => fun
  | [d1, d2] => { results := [.lit (.bool false)], args := [d1, d2] }
  | _ => none }
def TableOrderWrongFalsely : Prop := tableOrderRow.holds Try.pinned (OpenSpec.ofChange tableOrderWrong)

/-- 'clavigerlaw23.IdealLimits': WHATEVER THE INPUT: true; the input reads as it did. -/
def idealLimitsSpec : ChangeSpec := { name := "idealLimits", fn := fun _ => fun
  | [d] => { results := [.lit (.bool true)], args := [d] }
  | _ => none }
def idealLimitsRow : OpenClaim := { program := "ytfhmclgnfabdfaa", sum := "4109d4668272052ed07698dc1b8bbc7dcb3943787b7eb08fdd0604871967745a", func := "claviger/clavigerlaw23.IdealLimits", spec := "idealLimits", inPlace := ["internal/bytealg.Compare", "slices.overlaps[claviger/api.Vault]"], unfollowed := true, recurses := true, plainKeys := false, apart := false }
def IdealLimitsSaid : Prop := idealLimitsRow.holds Try.pinned (OpenSpec.ofChange idealLimitsSpec)

/-- ITS FALSE NEIGHBOUR: 'it returns false'. Refute it at one input. -/
def idealLimitsWrong : ChangeSpec := { name := "idealLimits", fn := fun _ => fun
  | [d] => { results := [.lit (.bool false)], args := [d] }
  | _ => none }
def IdealLimitsWrongFalsely : Prop := idealLimitsRow.holds Try.pinned (OpenSpec.ofChange idealLimitsWrong)

/- THE SECOND FORM. 'bulk': how many values and letters a reading holds, each counted each time it is reached (what is shared counts as often as it is met; a slice's spare places count too). A statement '..UptoSaid' is the law's where the arguments, and the package variables that the reading takes, are together of bulk at most 1048576: NARROWER than '..Said'. Prove '..Said' where nothing that the law and all that it calls make is longer than what came in: it says more and counts as full. Else prove '..UptoSaid'. A law counts once. -/
mutual
def uptoBulk {H : Type} : DataW H → Nat
  | .lit (.string bytes) => bytes.length + 1
  | .lit _ => 1
  | .nil => 1
  | .ptr d => uptoBulk d + 1
  | .slice elems spare => uptoBulkAll elems + uptoBulkAll spare + 1
  | .agg parts => uptoBulkAll parts + 1
  | .iface _ d => uptoBulk d + 1
  | .map entries => uptoBulkEntries entries + 1
  | .held _ => 1
def uptoBulkAll {H : Type} : List (DataW H) → Nat
  | [] => 0
  | d :: r => uptoBulk d + uptoBulkAll r
def uptoBulkEntries {H : Type} : List (Lit × DataW H) → Nat
  | [] => 0
  | x :: r => uptoBulkEntry x + uptoBulkEntries r
def uptoBulkEntry {H : Type} : Lit × DataW H → Nat
  | (.string bytes, d) => bytes.length + uptoBulk d + 1
  | (_, d) => uptoBulk d + 1
 end
def uptoSmall : (H : Type) → List (DataW H) → Bool := fun _ ds => decide (uptoBulkAll ds ≤ 1048576)
def OpenSpec.upto (s : _root_.Go.ChangeSpec) : _root_.Go.OpenSpec := { _root_.Go.OpenSpec.ofChange s with cond := some uptoSmall }

/-- 'clavigerlaw11.VaultLimit', WHERE WHAT IT READS IS OF BULK AT MOST 1048576: true; the input reads as it did. -/
def vaultLimitUptoRow : OpenClaim := { program := "ytfhmclgnfabdfaa", sum := "4109d4668272052ed07698dc1b8bbc7dcb3943787b7eb08fdd0604871967745a", func := "claviger/clavigerlaw11.VaultLimit", spec := "vaultLimit", plainKeys := false, apart := false, narrowed := true }
def VaultLimitUptoSaid : Prop := vaultLimitUptoRow.holds Try.pinned (OpenSpec.upto vaultLimitSpec)

/-- 'clavigerlaw12.TableOrder', WHERE WHAT IT READS IS OF BULK AT MOST 1048576: true; the input reads as it did. -/
def tableOrderUptoRow : OpenClaim := { program := "ytfhmclgnfabdfaa", sum := "4109d4668272052ed07698dc1b8bbc7dcb3943787b7eb08fdd0604871967745a", func := "claviger/clavigerlaw12.TableOrder", spec := "tableOrder", inPlace := ["internal/bytealg.Compare", "slices.overlaps[claviger/api.Vault]"], unfollowed := true, recurses := true, plainKeys := false, apart := false, narrowed := true }
def TableOrderUptoSaid : Prop := tableOrderUptoRow.holds Try.pinned (OpenSpec.upto tableOrderSpec)

/-- 'clavigerlaw23.IdealLimits', WHERE WHAT IT READS IS OF BULK AT MOST 1048576: true; the input reads as it did. -/
def idealLimitsUptoRow : OpenClaim := { program := "ytfhmclgnfabdfaa", sum := "4109d4668272052ed07698dc1b8bbc7dcb3943787b7eb08fdd0604871967745a", func := "claviger/clavigerlaw23.IdealLimits", spec := "idealLimits", inPlace := ["internal/bytealg.Compare", "slices.overlaps[claviger/api.Vault]"], unfollowed := true, recurses := true, plainKeys := false, apart := false, narrowed := true }
def IdealLimitsUptoSaid : Prop := idealLimitsUptoRow.holds Try.pinned (OpenSpec.upto idealLimitsSpec)

end Rows
end Go.Proofs.Ytfhmclgnfabdfaa
