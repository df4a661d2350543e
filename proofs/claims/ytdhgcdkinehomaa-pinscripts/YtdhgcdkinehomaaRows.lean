/-
  No cell of these rows narrows 'for every input' (looked for: loops, veiled, ifaces, maps, wideKeys, modest, calm, conditions, laid).
  DERIVED. THE GIVEN ROWS OF THIS SEAT. 11 by the template 'for every input the law returns true; each argument reads behind the call as it read before'; 0 by the template 'total and deterministic' (their statements: YtdhgcdkinehomaaTotals.lean).
  GIVEN WITH THE SEED: the statements are not yours to turn. If you find one false, say at which input.
  Laid BY PROGRAM, IN A SANDBOX (cutbox-rows.mjs): the forced cells as the released guide's own fill.sh prints them over the translation 4474bd84031fd7c6… (all of the seat's roots in one cut). By AI agents, Wed Nov 11 2026. No macro, syntax, notation, axiom, sorry.
-/
import Derived.Test.YtdhgcdkinehomaaChecked
import GoSem.Claim
import GoSem.ClaimJoined
import GoSem.ClaimMapViews
import Derived.JoinedTies
import Derived.KernelRfl
namespace Go.Proofs.Ytdhgcdkinehomaa
/- THE CELL 'sum', in the pinned program and in every row, IS THE sha256 OF THE DUMP (.gsa) THAT YtdhgcdkinehomaaProg.lean LOADS. Nothing in Lean hashes anything: it is a label: what it is worth is what the hold of that sum in a sandbox is worth. -/
noncomputable def Try.pinned : Pinned := { name := "ytdhgcdkinehomaa", sum := "4474bd84031fd7c64a3286ec465964bd2facab0967e309fcc1abb96b84696b66", checked := Try.checked }
namespace Rows
def none {H : Type} : Left H := { results := [], args := [] }

/-- 'clavigerlaw11.VaultLimit': WHATEVER THE INPUT: true; the input reads as it did. -/
def vaultLimitSpec : ChangeSpec := { name := "vaultLimit", fn := fun _ => fun
  | [d] => { results := [.lit (.bool true)], args := [d] }
  | _ => none }
def vaultLimitRow : OpenClaim := { program := "ytdhgcdkinehomaa", sum := "4474bd84031fd7c64a3286ec465964bd2facab0967e309fcc1abb96b84696b66", func := "claviger/clavigerlaw11.VaultLimit", spec := "vaultLimit", plainKeys := false, apart := false }
def VaultLimitSaid : Prop := vaultLimitRow.holds Try.pinned (OpenSpec.ofChange vaultLimitSpec)

/-- ITS FALSE NEIGHBOUR: 'it returns false'. Refute it at one input. -/
def vaultLimitWrong : ChangeSpec := { name := "vaultLimit", fn := fun _ => fun
  | [d] => { results := [.lit (.bool false)], args := [d] }
  | _ => none }
def VaultLimitWrongFalsely : Prop := vaultLimitRow.holds Try.pinned (OpenSpec.ofChange vaultLimitWrong)

/-- 'clavigerlaw11.VaultGens': WHATEVER THE INPUT: true; the input reads as it did. -/
def vaultGensSpec : ChangeSpec := { name := "vaultGens", fn := fun _ => fun
  | [d] => { results := [.lit (.bool true)], args := [d] }
  | _ => none }
def vaultGensRow : OpenClaim := { program := "ytdhgcdkinehomaa", sum := "4474bd84031fd7c64a3286ec465964bd2facab0967e309fcc1abb96b84696b66", func := "claviger/clavigerlaw11.VaultGens", spec := "vaultGens", plainKeys := false, apart := false }
def VaultGensSaid : Prop := vaultGensRow.holds Try.pinned (OpenSpec.ofChange vaultGensSpec)

/-- ITS FALSE NEIGHBOUR: 'it returns false'. Refute it at one input. -/
def vaultGensWrong : ChangeSpec := { name := "vaultGens", fn := fun _ => fun
  | [d] => { results := [.lit (.bool false)], args := [d] }
  | _ => none }
def VaultGensWrongFalsely : Prop := vaultGensRow.holds Try.pinned (OpenSpec.ofChange vaultGensWrong)

/-- 'clavigerlaw12.TableOrder': WHATEVER THE INPUT: true; the input reads as it did. -/
def tableOrderSpec : ChangeSpec := { name := "tableOrder", fn := fun _ => fun
  | [d1, d2] => { results := [.lit (.bool true)], args := [d1, d2] }
  | _ => none }
def tableOrderRow : OpenClaim := { program := "ytdhgcdkinehomaa", sum := "4474bd84031fd7c64a3286ec465964bd2facab0967e309fcc1abb96b84696b66", func := "claviger/clavigerlaw12.TableOrder", spec := "tableOrder", inPlace := ["internal/bytealg.Compare", "slices.overlaps[claviger/api.Vault]"], unfollowed := true, recurses := true, plainKeys := false, apart := false }
def TableOrderSaid : Prop := tableOrderRow.holds Try.pinned (OpenSpec.ofChange tableOrderSpec)

/-- ITS FALSE NEIGHBOUR: 'it returns false'. Refute it at one input. -/
def tableOrderWrong : ChangeSpec := { name := "tableOrder", fn := fun _ => fun
  | [d1, d2] => { results := [.lit (.bool false)], args := [d1, d2] }
  | _ => none }
def TableOrderWrongFalsely : Prop := tableOrderRow.holds Try.pinned (OpenSpec.ofChange tableOrderWrong)

/-- 'clavigerlaw12.TableNumbers': WHATEVER THE INPUT: true; the input reads as it did. -/
def tableNumbersSpec : ChangeSpec := { name := "tableNumbers", fn := fun _ => fun
  | [] => { results := [.lit (.bool true)], args := [] }
  | _ => none }
def tableNumbersRow : OpenClaim := { program := "ytdhgcdkinehomaa", sum := "4474bd84031fd7c64a3286ec465964bd2facab0967e309fcc1abb96b84696b66", func := "claviger/clavigerlaw12.TableNumbers", spec := "tableNumbers", inPlace := ["internal/bytealg.Compare", "slices.overlaps[claviger/api.Vault]"], unfollowed := true, recurses := true, plainKeys := false, apart := false }
def TableNumbersSaid : Prop := tableNumbersRow.holds Try.pinned (OpenSpec.ofChange tableNumbersSpec)

/-- ITS FALSE NEIGHBOUR: 'it returns false'. Refute it at one input. -/
def tableNumbersWrong : ChangeSpec := { name := "tableNumbers", fn := fun _ => fun
  | [] => { results := [.lit (.bool false)], args := [] }
  | _ => none }
def TableNumbersWrongFalsely : Prop := tableNumbersRow.holds Try.pinned (OpenSpec.ofChange tableNumbersWrong)

/-- 'clavigerlaw12.TablePlays': WHATEVER THE INPUT: true; the input reads as it did. -/
def tablePlaysSpec : ChangeSpec := { name := "tablePlays", fn := fun _ => fun
  | [d] => { results := [.lit (.bool true)], args := [d] }
  | _ => none }
def tablePlaysRow : OpenClaim := { program := "ytdhgcdkinehomaa", sum := "4474bd84031fd7c64a3286ec465964bd2facab0967e309fcc1abb96b84696b66", func := "claviger/clavigerlaw12.TablePlays", spec := "tablePlays", inPlace := ["internal/bytealg.Compare", "slices.overlaps[claviger/api.Vault]"], unfollowed := true, recurses := true, plainKeys := false, apart := false }
def TablePlaysSaid : Prop := tablePlaysRow.holds Try.pinned (OpenSpec.ofChange tablePlaysSpec)

/-- ITS FALSE NEIGHBOUR: 'it returns false'. Refute it at one input. -/
def tablePlaysWrong : ChangeSpec := { name := "tablePlays", fn := fun _ => fun
  | [d] => { results := [.lit (.bool false)], args := [d] }
  | _ => none }
def TablePlaysWrongFalsely : Prop := tablePlaysRow.holds Try.pinned (OpenSpec.ofChange tablePlaysWrong)

/-- 'clavigerlaw12.TableFills': WHATEVER THE INPUT: true; the input reads as it did. -/
def tableFillsSpec : ChangeSpec := { name := "tableFills", fn := fun _ => fun
  | [d1, d2] => { results := [.lit (.bool true)], args := [d1, d2] }
  | _ => none }
def tableFillsRow : OpenClaim := { program := "ytdhgcdkinehomaa", sum := "4474bd84031fd7c64a3286ec465964bd2facab0967e309fcc1abb96b84696b66", func := "claviger/clavigerlaw12.TableFills", spec := "tableFills", inPlace := ["internal/bytealg.Compare", "slices.overlaps[claviger/api.Vault]"], unfollowed := true, recurses := true, plainKeys := false, apart := false }
def TableFillsSaid : Prop := tableFillsRow.holds Try.pinned (OpenSpec.ofChange tableFillsSpec)

/-- ITS FALSE NEIGHBOUR: 'it returns false'. Refute it at one input. -/
def tableFillsWrong : ChangeSpec := { name := "tableFills", fn := fun _ => fun
  | [d1, d2] => { results := [.lit (.bool false)], args := [d1, d2] }
  | _ => none }
def TableFillsWrongFalsely : Prop := tableFillsRow.holds Try.pinned (OpenSpec.ofChange tableFillsWrong)

/-- 'clavigerlaw1.PinNumbers': WHATEVER THE INPUT: true; the input reads as it did. -/
def pinNumbersSpec : ChangeSpec := { name := "pinNumbers", fn := fun _ => fun
  | [] => { results := [.lit (.bool true)], args := [] }
  | _ => none }
def pinNumbersRow : OpenClaim := { program := "ytdhgcdkinehomaa", sum := "4474bd84031fd7c64a3286ec465964bd2facab0967e309fcc1abb96b84696b66", func := "claviger/clavigerlaw1.PinNumbers", spec := "pinNumbers", inPlace := ["internal/abi.NoEscape", "internal/bytealg.MakeNoZero"], plainKeys := false, apart := false }
def PinNumbersSaid : Prop := pinNumbersRow.holds Try.pinned (OpenSpec.ofChange pinNumbersSpec)

/-- ITS FALSE NEIGHBOUR: 'it returns false'. Refute it at one input. -/
def pinNumbersWrong : ChangeSpec := { name := "pinNumbers", fn := fun _ => fun
  | [] => { results := [.lit (.bool false)], args := [] }
  | _ => none }
def PinNumbersWrongFalsely : Prop := pinNumbersRow.holds Try.pinned (OpenSpec.ofChange pinNumbersWrong)

/-- 'clavigerlaw1.PinTells': WHATEVER THE INPUT: true; the input reads as it did. -/
def pinTellsSpec : ChangeSpec := { name := "pinTells", fn := fun _ => fun
  | [d1, d2] => { results := [.lit (.bool true)], args := [d1, d2] }
  | _ => none }
def pinTellsRow : OpenClaim := { program := "ytdhgcdkinehomaa", sum := "4474bd84031fd7c64a3286ec465964bd2facab0967e309fcc1abb96b84696b66", func := "claviger/clavigerlaw1.PinTells", spec := "pinTells", inPlace := ["internal/abi.NoEscape", "internal/bytealg.MakeNoZero"], plainKeys := false, apart := false }
def PinTellsSaid : Prop := pinTellsRow.holds Try.pinned (OpenSpec.ofChange pinTellsSpec)

/-- ITS FALSE NEIGHBOUR: 'it returns false'. Refute it at one input. -/
def pinTellsWrong : ChangeSpec := { name := "pinTells", fn := fun _ => fun
  | [d1, d2] => { results := [.lit (.bool false)], args := [d1, d2] }
  | _ => none }
def PinTellsWrongFalsely : Prop := pinTellsRow.holds Try.pinned (OpenSpec.ofChange pinTellsWrong)

/-- 'clavigerlaw1.PinScripts': WHATEVER THE INPUT: true; the input reads as it did. -/
def pinScriptsSpec : ChangeSpec := { name := "pinScripts", fn := fun _ => fun
  | [d1, d2] => { results := [.lit (.bool true)], args := [d1, d2] }
  | _ => none }
def pinScriptsRow : OpenClaim := { program := "ytdhgcdkinehomaa", sum := "4474bd84031fd7c64a3286ec465964bd2facab0967e309fcc1abb96b84696b66", func := "claviger/clavigerlaw1.PinScripts", spec := "pinScripts", inPlace := ["internal/abi.NoEscape", "internal/bytealg.MakeNoZero"], plainKeys := false, apart := false }
def PinScriptsSaid : Prop := pinScriptsRow.holds Try.pinned (OpenSpec.ofChange pinScriptsSpec)

/-- ITS FALSE NEIGHBOUR: 'it returns false'. Refute it at one input. -/
def pinScriptsWrong : ChangeSpec := { name := "pinScripts", fn := fun _ => fun
  | [d1, d2] => { results := [.lit (.bool false)], args := [d1, d2] }
  | _ => none }
def PinScriptsWrongFalsely : Prop := pinScriptsRow.holds Try.pinned (OpenSpec.ofChange pinScriptsWrong)

/-- 'clavigerlaw1.PinMasks': WHATEVER THE INPUT: true; the input reads as it did. -/
def pinMasksSpec : ChangeSpec := { name := "pinMasks", fn := fun _ => fun
  | [d] => { results := [.lit (.bool true)], args := [d] }
  | _ => none }
def pinMasksRow : OpenClaim := { program := "ytdhgcdkinehomaa", sum := "4474bd84031fd7c64a3286ec465964bd2facab0967e309fcc1abb96b84696b66", func := "claviger/clavigerlaw1.PinMasks", spec := "pinMasks", inPlace := ["internal/abi.NoEscape", "internal/bytealg.MakeNoZero"], plainKeys := false, apart := false }
def PinMasksSaid : Prop := pinMasksRow.holds Try.pinned (OpenSpec.ofChange pinMasksSpec)

/-- ITS FALSE NEIGHBOUR: 'it returns false'. Refute it at one input. -/
def pinMasksWrong : ChangeSpec := { name := "pinMasks", fn := fun _ => fun
  | [d] => { results := [.lit (.bool false)], args := [d] }
  | _ => none }
def PinMasksWrongFalsely : Prop := pinMasksRow.holds Try.pinned (OpenSpec.ofChange pinMasksWrong)

/-- 'clavigerlaw1.PinWeak': WHATEVER THE INPUT: true; the input reads as it did. -/
def pinWeakSpec : ChangeSpec := { name := "pinWeak", fn := fun _ => fun
  | [d1, d2, d3, d4, d5] => { results := [.lit (.bool true)], args := [d1, d2, d3, d4, d5] }
  | _ => none }
def pinWeakRow : OpenClaim := { program := "ytdhgcdkinehomaa", sum := "4474bd84031fd7c64a3286ec465964bd2facab0967e309fcc1abb96b84696b66", func := "claviger/clavigerlaw1.PinWeak", spec := "pinWeak", inPlace := ["internal/abi.NoEscape", "internal/bytealg.MakeNoZero"], plainKeys := false, apart := false }
def PinWeakSaid : Prop := pinWeakRow.holds Try.pinned (OpenSpec.ofChange pinWeakSpec)

/-- ITS FALSE NEIGHBOUR: 'it returns false'. Refute it at one input. -/
def pinWeakWrong : ChangeSpec := { name := "pinWeak", fn := fun _ => fun
  | [d1, d2, d3, d4, d5] => { results := [.lit (.bool false)], args := [d1, d2, d3, d4, d5] }
  | _ => none }
def PinWeakWrongFalsely : Prop := pinWeakRow.holds Try.pinned (OpenSpec.ofChange pinWeakWrong)

/- THE SECOND FORM. 'bulk': how many values and letters a reading holds, each counted each time it is reached (what is shared counts as often as it is met; a slice's spare places count too). A statement '..UptoSaid' is the law's where the arguments, and the package variables that the reading takes, are together of bulk at most 1048576: NARROWER than '..Said'. Prove '..Said' where nothing that the law and all that it calls make is longer than what came in: it says more and counts as full. Else prove '..UptoSaid'. A law counts once. -/
mutual
def uptoBulk {H : Type} : DataW H → Nat
  | .lit (.string bytes) => bytes.length + 1
  | .lit _ => 1
  | .nil => 1
  | .ptr d => uptoBulk d + 1
  | .slice elems spare => uptoBulkAll elems + uptoBulkAll spare + 1
  | .agg parts => uptoBulkAll parts + 1
  | .iface _ d => uptoBulk d + 1
  | .map entries => uptoBulkEntries entries + 1
  | .held _ => 1
def uptoBulkAll {H : Type} : List (DataW H) → Nat
  | [] => 0
  | d :: r => uptoBulk d + uptoBulkAll r
def uptoBulkEntries {H : Type} : List (Lit × DataW H) → Nat
  | [] => 0
  | x :: r => uptoBulkEntry x + uptoBulkEntries r
def uptoBulkEntry {H : Type} : Lit × DataW H → Nat
  | (.string bytes, d) => bytes.length + uptoBulk d + 1
  | (_, d) => uptoBulk d + 1
 end
def uptoSmall : (H : Type) → List (DataW H) → Bool := fun _ ds => decide (uptoBulkAll ds ≤ 1048576)
def OpenSpec.upto (s : _root_.Go.ChangeSpec) : _root_.Go.OpenSpec := { _root_.Go.OpenSpec.ofChange s with cond := some uptoSmall }

/-- 'clavigerlaw11.VaultLimit', WHERE WHAT IT READS IS OF BULK AT MOST 1048576: true; the input reads as it did. -/
def vaultLimitUptoRow : OpenClaim := { program := "ytdhgcdkinehomaa", sum := "4474bd84031fd7c64a3286ec465964bd2facab0967e309fcc1abb96b84696b66", func := "claviger/clavigerlaw11.VaultLimit", spec := "vaultLimit", plainKeys := false, apart := false, narrowed := true }
def VaultLimitUptoSaid : Prop := vaultLimitUptoRow.holds Try.pinned (OpenSpec.upto vaultLimitSpec)

/-- 'clavigerlaw11.VaultGens', WHERE WHAT IT READS IS OF BULK AT MOST 1048576: true; the input reads as it did. -/
def vaultGensUptoRow : OpenClaim := { program := "ytdhgcdkinehomaa", sum := "4474bd84031fd7c64a3286ec465964bd2facab0967e309fcc1abb96b84696b66", func := "claviger/clavigerlaw11.VaultGens", spec := "vaultGens", plainKeys := false, apart := false, narrowed := true }
def VaultGensUptoSaid : Prop := vaultGensUptoRow.holds Try.pinned (OpenSpec.upto vaultGensSpec)

/-- 'clavigerlaw12.TableOrder', WHERE WHAT IT READS IS OF BULK AT MOST 1048576: true; the input reads as it did. -/
def tableOrderUptoRow : OpenClaim := { program := "ytdhgcdkinehomaa", sum := "4474bd84031fd7c64a3286ec465964bd2facab0967e309fcc1abb96b84696b66", func := "claviger/clavigerlaw12.TableOrder", spec := "tableOrder", inPlace := ["internal/bytealg.Compare", "slices.overlaps[claviger/api.Vault]"], unfollowed := true, recurses := true, plainKeys := false, apart := false, narrowed := true }
def TableOrderUptoSaid : Prop := tableOrderUptoRow.holds Try.pinned (OpenSpec.upto tableOrderSpec)

/-- 'clavigerlaw12.TableNumbers', WHERE WHAT IT READS IS OF BULK AT MOST 1048576: true; the input reads as it did. -/
def tableNumbersUptoRow : OpenClaim := { program := "ytdhgcdkinehomaa", sum := "4474bd84031fd7c64a3286ec465964bd2facab0967e309fcc1abb96b84696b66", func := "claviger/clavigerlaw12.TableNumbers", spec := "tableNumbers", inPlace := ["internal/bytealg.Compare", "slices.overlaps[claviger/api.Vault]"], unfollowed := true, recurses := true, plainKeys := false, apart := false, narrowed := true }
def TableNumbersUptoSaid : Prop := tableNumbersUptoRow.holds Try.pinned (OpenSpec.upto tableNumbersSpec)

/-- 'clavigerlaw12.TablePlays', WHERE WHAT IT READS IS OF BULK AT MOST 1048576: true; the input reads as it did. -/
def tablePlaysUptoRow : OpenClaim := { program := "ytdhgcdkinehomaa", sum := "4474bd84031fd7c64a3286ec465964bd2facab0967e309fcc1abb96b84696b66", func := "claviger/clavigerlaw12.TablePlays", spec := "tablePlays", inPlace := ["internal/bytealg.Compare", "slices.overlaps[claviger/api.Vault]"], unfollowed := true, recurses := true, plainKeys := false, apart := false, narrowed := true }
def TablePlaysUptoSaid : Prop := tablePlaysUptoRow.holds Try.pinned (OpenSpec.upto tablePlaysSpec)

/-- 'clavigerlaw12.TableFills', WHERE WHAT IT READS IS OF BULK AT MOST 1048576: true; the input reads as it did. -/
def tableFillsUptoRow : OpenClaim := { program := "ytdhgcdkinehomaa", sum := "4474bd84031fd7c64a3286ec465964bd2facab0967e309fcc1abb96b84696b66", func := "claviger/clavigerlaw12.TableFills", spec := "tableFills", inPlace := ["internal/bytealg.Compare", "slices.overlaps[claviger/api.Vault]"], unfollowed := true, recurses := true, plainKeys := false, apart := false, narrowed := true }
def TableFillsUptoSaid : Prop := tableFillsUptoRow.holds Try.pinned (OpenSpec.upto tableFillsSpec)

/-- 'clavigerlaw1.PinNumbers', WHERE WHAT IT READS IS OF BULK AT MOST 1048576: true; the input reads as it did. -/
def pinNumbersUptoRow : OpenClaim := { program := "ytdhgcdkinehomaa", sum := "4474bd84031fd7c64a3286ec465964bd2facab0967e309fcc1abb96b84696b66", func := "claviger/clavigerlaw1.PinNumbers", spec := "pinNumbers", inPlace := ["internal/abi.NoEscape", "internal/bytealg.MakeNoZero"], plainKeys := false, apart := false, narrowed := true }
def PinNumbersUptoSaid : Prop := pinNumbersUptoRow.holds Try.pinned (OpenSpec.upto pinNumbersSpec)

/-- 'clavigerlaw1.PinTells', WHERE WHAT IT READS IS OF BULK AT MOST 1048576: true; the input reads as it did. -/
def pinTellsUptoRow : OpenClaim := { program := "ytdhgcdkinehomaa", sum := "4474bd84031fd7c64a3286ec465964bd2facab0967e309fcc1abb96b84696b66", func := "claviger/clavigerlaw1.PinTells", spec := "pinTells", inPlace := ["internal/abi.NoEscape", "internal/bytealg.MakeNoZero"], plainKeys := false, apart := false, narrowed := true }
def PinTellsUptoSaid : Prop := pinTellsUptoRow.holds Try.pinned (OpenSpec.upto pinTellsSpec)

/-- 'clavigerlaw1.PinScripts', WHERE WHAT IT READS IS OF BULK AT MOST 1048576: true; the input reads as it did. -/
def pinScriptsUptoRow : OpenClaim := { program := "ytdhgcdkinehomaa", sum := "4474bd84031fd7c64a3286ec465964bd2facab0967e309fcc1abb96b84696b66", func := "claviger/clavigerlaw1.PinScripts", spec := "pinScripts", inPlace := ["internal/abi.NoEscape", "internal/bytealg.MakeNoZero"], plainKeys := false, apart := false, narrowed := true }
def PinScriptsUptoSaid : Prop := pinScriptsUptoRow.holds Try.pinned (OpenSpec.upto pinScriptsSpec)

/-- 'clavigerlaw1.PinMasks', WHERE WHAT IT READS IS OF BULK AT MOST 1048576: true; the input reads as it did. -/
def pinMasksUptoRow : OpenClaim := { program := "ytdhgcdkinehomaa", sum := "4474bd84031fd7c64a3286ec465964bd2facab0967e309fcc1abb96b84696b66", func := "claviger/clavigerlaw1.PinMasks", spec := "pinMasks", inPlace := ["internal/abi.NoEscape", "internal/bytealg.MakeNoZero"], plainKeys := false, apart := false, narrowed := true }
def PinMasksUptoSaid : Prop := pinMasksUptoRow.holds Try.pinned (OpenSpec.upto pinMasksSpec)

/-- 'clavigerlaw1.PinWeak', WHERE WHAT IT READS IS OF BULK AT MOST 1048576: true; the input reads as it did. -/
def pinWeakUptoRow : OpenClaim := { program := "ytdhgcdkinehomaa", sum := "4474bd84031fd7c64a3286ec465964bd2facab0967e309fcc1abb96b84696b66", func := "claviger/clavigerlaw1.PinWeak", spec := "pinWeak", inPlace := ["internal/abi.NoEscape", "internal/bytealg.MakeNoZero"], plainKeys := false, apart := false, narrowed := true }
def PinWeakUptoSaid : Prop := pinWeakUptoRow.holds Try.pinned (OpenSpec.upto pinWeakSpec)

end Rows
end Go.Proofs.Ytdhgcdkinehomaa
