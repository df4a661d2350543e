/-
  No cell of these rows narrows 'for every input' (looked for: loops, veiled, ifaces, maps, wideKeys, modest, calm, conditions, laid).
  DERIVED. THE GIVEN ROWS OF THIS SEAT. 7 by the template 'for every input the law returns true; each argument reads behind the call as it read before'; 0 by the template 'total and deterministic' (their statements: YtkkncdokkdamcaaTotals.lean).
  GIVEN WITH THE SEED: the statements are not yours to turn. If you find one false, say at which input.
  Laid BY PROGRAM, IN A SANDBOX (cutbox-rows.mjs): the forced cells as the released guide's own fill.sh prints them over the translation 4eb5f7b54092b928… (all of the seat's roots in one cut). By AI agents, Wed Nov 11 2026. No macro, syntax, notation, axiom, sorry.
-/
import Derived.Test.YtkkncdokkdamcaaChecked
import GoSem.Claim
import GoSem.ClaimJoined
import GoSem.ClaimMapViews
import Derived.JoinedTies
import Derived.KernelRfl
namespace Go.Proofs.Ytkkncdokkdamcaa
/- THE CELL 'sum', in the pinned program and in every row, IS THE sha256 OF THE DUMP (.gsa) THAT YtkkncdokkdamcaaProg.lean LOADS. Nothing in Lean hashes anything: it is a label: what it is worth is what the hold of that sum in a sandbox is worth. -/
noncomputable def Try.pinned : Pinned := { name := "ytkkncdokkdamcaa", sum := "4eb5f7b54092b9282e4fe238517830c06dd9f0b1beabfcdaf4fc309afe28250d", checked := Try.checked }
namespace Rows
def none {H : Type} : Left H := { results := [], args := [] }

/-- 'clavigerlaw23.IdealLimits': WHATEVER THE INPUT: true; the input reads as it did. -/
def idealLimitsSpec : ChangeSpec := { name := "idealLimits", fn := fun _ => fun
  | [d] => { results := [.lit (.bool true)], args := [d] }
  | _ => none }
def idealLimitsRow : OpenClaim := { program := "ytkkncdokkdamcaa", sum := "4eb5f7b54092b9282e4fe238517830c06dd9f0b1beabfcdaf4fc309afe28250d", func := "claviger/clavigerlaw23.IdealLimits", spec := "idealLimits", inPlace := ["internal/bytealg.Compare", "slices.overlaps[claviger/api.Vault]"], unfollowed := true, recurses := true, plainKeys := false, apart := false }
def IdealLimitsSaid : Prop := idealLimitsRow.holds Try.pinned (OpenSpec.ofChange idealLimitsSpec)

/-- ITS FALSE NEIGHBOUR: 'it returns false'. Refute it at one input. -/
def idealLimitsWrong : ChangeSpec := { name := "idealLimits", fn := fun _ => fun
  | [d] => { results := [.lit (.bool false)], args := [d] }
  | _ => none }
def IdealLimitsWrongFalsely : Prop := idealLimitsRow.holds Try.pinned (OpenSpec.ofChange idealLimitsWrong)

/-- 'clavigerlaw23.IdealCopies': WHATEVER THE INPUT: true; the input reads as it did. -/
def idealCopiesSpec : ChangeSpec := { name := "idealCopies", fn := fun _ => fun
  | [d1, d2] => { results := [.lit (.bool true)], args := [d1, d2] }
  | _ => none }
def idealCopiesRow : OpenClaim := { program := "ytkkncdokkdamcaa", sum := "4eb5f7b54092b9282e4fe238517830c06dd9f0b1beabfcdaf4fc309afe28250d", func := "claviger/clavigerlaw23.IdealCopies", spec := "idealCopies", inPlace := ["internal/bytealg.Compare", "slices.overlaps[claviger/api.Vault]"], unfollowed := true, recurses := true, plainKeys := false, apart := false }
def IdealCopiesSaid : Prop := idealCopiesRow.holds Try.pinned (OpenSpec.ofChange idealCopiesSpec)

/-- ITS FALSE NEIGHBOUR: 'it returns false'. Refute it at one input. -/
def idealCopiesWrong : ChangeSpec := { name := "idealCopies", fn := fun _ => fun
  | [d1, d2] => { results := [.lit (.bool false)], args := [d1, d2] }
  | _ => none }
def IdealCopiesWrongFalsely : Prop := idealCopiesRow.holds Try.pinned (OpenSpec.ofChange idealCopiesWrong)

/-- 'clavigerlaw23.IdealNumbers': WHATEVER THE INPUT: true; the input reads as it did. -/
def idealNumbersSpec : ChangeSpec := { name := "idealNumbers", fn := fun _ => fun
  | [] => { results := [.lit (.bool true)], args := [] }
  | _ => none }
def idealNumbersRow : OpenClaim := { program := "ytkkncdokkdamcaa", sum := "4eb5f7b54092b9282e4fe238517830c06dd9f0b1beabfcdaf4fc309afe28250d", func := "claviger/clavigerlaw23.IdealNumbers", spec := "idealNumbers", inPlace := ["internal/bytealg.Compare", "slices.overlaps[claviger/api.Vault]"], unfollowed := true, recurses := true, plainKeys := false, apart := false }
def IdealNumbersSaid : Prop := idealNumbersRow.holds Try.pinned (OpenSpec.ofChange idealNumbersSpec)

/-- ITS FALSE NEIGHBOUR: 'it returns false'. Refute it at one input. -/
def idealNumbersWrong : ChangeSpec := { name := "idealNumbers", fn := fun _ => fun
  | [] => { results := [.lit (.bool false)], args := [] }
  | _ => none }
def IdealNumbersWrongFalsely : Prop := idealNumbersRow.holds Try.pinned (OpenSpec.ofChange idealNumbersWrong)

/-- 'clavigerlaw23.IdealPlays': WHATEVER THE INPUT: true; the input reads as it did. -/
def idealPlaysSpec : ChangeSpec := { name := "idealPlays", fn := fun _ => fun
  | [d1, d2] => { results := [.lit (.bool true)], args := [d1, d2] }
  | _ => none }
def idealPlaysRow : OpenClaim := { program := "ytkkncdokkdamcaa", sum := "4eb5f7b54092b9282e4fe238517830c06dd9f0b1beabfcdaf4fc309afe28250d", func := "claviger/clavigerlaw23.IdealPlays", spec := "idealPlays", inPlace := ["internal/bytealg.Compare", "slices.overlaps[claviger/api.Vault]"], unfollowed := true, recurses := true, plainKeys := false, apart := false }
def IdealPlaysSaid : Prop := idealPlaysRow.holds Try.pinned (OpenSpec.ofChange idealPlaysSpec)

/-- ITS FALSE NEIGHBOUR: 'it returns false'. Refute it at one input. -/
def idealPlaysWrong : ChangeSpec := { name := "idealPlays", fn := fun _ => fun
  | [d1, d2] => { results := [.lit (.bool false)], args := [d1, d2] }
  | _ => none }
def IdealPlaysWrongFalsely : Prop := idealPlaysRow.holds Try.pinned (OpenSpec.ofChange idealPlaysWrong)

/-- 'clavigerlaw25.JudgeCounts': WHATEVER THE INPUT: true; the input reads as it did. -/
def judgeCountsSpec : ChangeSpec := { name := "judgeCounts", fn := fun _ => fun
  | [d1, d2, d3, d4] => { results := [.lit (.bool true)], args := [d1, d2, d3, d4] }
  | _ => none }
def judgeCountsRow : OpenClaim := { program := "ytkkncdokkdamcaa", sum := "4eb5f7b54092b9282e4fe238517830c06dd9f0b1beabfcdaf4fc309afe28250d", func := "claviger/clavigerlaw25.JudgeCounts", spec := "judgeCounts", inPlace := ["internal/bytealg.Compare", "slices.overlaps[claviger/api.Vault]"], unfollowed := true, recurses := true, plainKeys := false, apart := false }
def JudgeCountsSaid : Prop := judgeCountsRow.holds Try.pinned (OpenSpec.ofChange judgeCountsSpec)

/-- ITS FALSE NEIGHBOUR: 'it returns false'. Refute it at one input. -/
def judgeCountsWrong : ChangeSpec := { name := "judgeCounts", fn := fun _ => fun
  | [d1, d2, d3, d4] => { results := [.lit (.bool false)], args := [d1, d2, d3, d4] }
  | _ => none }
def JudgeCountsWrongFalsely : Prop := judgeCountsRow.holds Try.pinned (OpenSpec.ofChange judgeCountsWrong)

/-- 'clavigerlaw25.JudgeNumbers': WHATEVER THE INPUT: true; the input reads as it did. -/
def judgeNumbersSpec : ChangeSpec := { name := "judgeNumbers", fn := fun _ => fun
  | [] => { results := [.lit (.bool true)], args := [] }
  | _ => none }
def judgeNumbersRow : OpenClaim := { program := "ytkkncdokkdamcaa", sum := "4eb5f7b54092b9282e4fe238517830c06dd9f0b1beabfcdaf4fc309afe28250d", func := "claviger/clavigerlaw25.JudgeNumbers", spec := "judgeNumbers", inPlace := ["internal/bytealg.Compare", "slices.overlaps[claviger/api.Vault]"], unfollowed := true, recurses := true, plainKeys := false, apart := false }
def JudgeNumbersSaid : Prop := judgeNumbersRow.holds Try.pinned (OpenSpec.ofChange judgeNumbersSpec)

/-- ITS FALSE NEIGHBOUR: 'it returns false'. Refute it at one input. -/
def judgeNumbersWrong : ChangeSpec := { name := "judgeNumbers", fn := fun _ => fun
  | [] => { results := [.lit (.bool false)], args := [] }
  | _ => none }
def JudgeNumbersWrongFalsely : Prop := judgeNumbersRow.holds Try.pinned (OpenSpec.ofChange judgeNumbersWrong)

/-- 'clavigerlaw25.JudgeTells': WHATEVER THE INPUT: true; the input reads as it did. -/
def judgeTellsSpec : ChangeSpec := { name := "judgeTells", fn := fun _ => fun
  | [d1, d2, d3] => { results := [.lit (.bool true)], args := [d1, d2, d3] }
  | _ => none }
def judgeTellsRow : OpenClaim := { program := "ytkkncdokkdamcaa", sum := "4eb5f7b54092b9282e4fe238517830c06dd9f0b1beabfcdaf4fc309afe28250d", func := "claviger/clavigerlaw25.JudgeTells", spec := "judgeTells", inPlace := ["internal/bytealg.Compare", "slices.overlaps[claviger/api.Vault]"], unfollowed := true, recurses := true, plainKeys := false, apart := false }
def JudgeTellsSaid : Prop := judgeTellsRow.holds Try.pinned (OpenSpec.ofChange judgeTellsSpec)

/-- ITS FALSE NEIGHBOUR: 'it returns false'. Refute it at one input. -/
def judgeTellsWrong : ChangeSpec := { name := "judgeTells", fn := fun _ => fun
  | [d1, d2, d3] => { results := [.lit (.bool false)], args := [d1, d2, d3] }
  | _ => none }
def JudgeTellsWrongFalsely : Prop := judgeTellsRow.holds Try.pinned (OpenSpec.ofChange judgeTellsWrong)

/- THE SECOND FORM. 'bulk': how many values and letters a reading holds, each counted each time it is reached (what is shared counts as often as it is met; a slice's spare places count too). A statement '..UptoSaid' is the law's where the arguments, and the package variables that the reading takes, are together of bulk at most 1048576: NARROWER than '..Said'. Prove '..Said' where nothing that the law and all that it calls make is longer than what came in: it says more and counts as full. Else prove '..UptoSaid'. A law counts once. -/
mutual
def uptoBulk {H : Type} : DataW H → Nat
  | .lit (.string bytes) => bytes.length + 1
  | .lit _ => 1
  | .nil => 1
  | .ptr d => uptoBulk d + 1
  | .slice elems spare => uptoBulkAll elems + uptoBulkAll spare + 1
  | .agg parts => uptoBulkAll parts + 1
  | .iface _ d => uptoBulk d + 1
  | .map entries => uptoBulkEntries entries + 1
  | .held _ => 1
def uptoBulkAll {H : Type} : List (DataW H) → Nat
  | [] => 0
  | d :: r => uptoBulk d + uptoBulkAll r
def uptoBulkEntries {H : Type} : List (Lit × DataW H) → Nat
  | [] => 0
  | x :: r => uptoBulkEntry x + uptoBulkEntries r
def uptoBulkEntry {H : Type} : Lit × DataW H → Nat
  | (.string bytes, d) => bytes.length + uptoBulk d + 1
  | (_, d) => uptoBulk d + 1
 end
def uptoSmall : (H : Type) → List (DataW H) → Bool := fun _ ds => decide (uptoBulkAll ds ≤ 1048576)
def OpenSpec.upto (s : _root_.Go.ChangeSpec) : _root_.Go.OpenSpec := { _root_.Go.OpenSpec.ofChange s with cond := some uptoSmall }

/-- 'clavigerlaw23.IdealLimits', WHERE WHAT IT READS IS OF BULK AT MOST 1048576: true; the input reads as it did. -/
def idealLimitsUptoRow : OpenClaim := { program := "ytkkncdokkdamcaa", sum := "4eb5f7b54092b9282e4fe238517830c06dd9f0b1beabfcdaf4fc309afe28250d", func := "claviger/clavigerlaw23.IdealLimits", spec := "idealLimits", inPlace := ["internal/bytealg.Compare", "slices.overlaps[claviger/api.Vault]"], unfollowed := true, recurses := true, plainKeys := false, apart := false, narrowed := true }
def IdealLimitsUptoSaid : Prop := idealLimitsUptoRow.holds Try.pinned (OpenSpec.upto idealLimitsSpec)

/-- 'clavigerlaw23.IdealCopies', WHERE WHAT IT READS IS OF BULK AT MOST 1048576: true; the input reads as it did. -/
def idealCopiesUptoRow : OpenClaim := { program := "ytkkncdokkdamcaa", sum := "4eb5f7b54092b9282e4fe238517830c06dd9f0b1beabfcdaf4fc309afe28250d", func := "claviger/clavigerlaw23.IdealCopies", spec := "idealCopies", inPlace := ["internal/bytealg.Compare", "slices.overlaps[claviger/api.Vault]"], unfollowed := true, recurses := true, plainKeys := false, apart := false, narrowed := true }
def IdealCopiesUptoSaid : Prop := idealCopiesUptoRow.holds Try.pinned (OpenSpec.upto idealCopiesSpec)

/-- 'clavigerlaw23.IdealNumbers', WHERE WHAT IT READS IS OF BULK AT MOST 1048576: true; the input reads as it did. -/
def idealNumbersUptoRow : OpenClaim := { program := "ytkkncdokkdamcaa", sum := "4eb5f7b54092b9282e4fe238517830c06dd9f0b1beabfcdaf4fc309afe28250d", func := "claviger/clavigerlaw23.IdealNumbers", spec := "idealNumbers", inPlace := ["internal/bytealg.Compare", "slices.overlaps[claviger/api.Vault]"], unfollowed := true, recurses := true, plainKeys := false, apart := false, narrowed := true }
def IdealNumbersUptoSaid : Prop := idealNumbersUptoRow.holds Try.pinned (OpenSpec.upto idealNumbersSpec)

/-- 'clavigerlaw23.IdealPlays', WHERE WHAT IT READS IS OF BULK AT MOST 1048576: true; the input reads as it did. -/
def idealPlaysUptoRow : OpenClaim := { program := "ytkkncdokkdamcaa", sum := "4eb5f7b54092b9282e4fe238517830c06dd9f0b1beabfcdaf4fc309afe28250d", func := "claviger/clavigerlaw23.IdealPlays", spec := "idealPlays", inPlace := ["internal/bytealg.Compare", "slices.overlaps[claviger/api.Vault]"], unfollowed := true, recurses := true, plainKeys := false, apart := false, narrowed := true }
def IdealPlaysUptoSaid : Prop := idealPlaysUptoRow.holds Try.pinned (OpenSpec.upto idealPlaysSpec)

/-- 'clavigerlaw25.JudgeCounts', WHERE WHAT IT READS IS OF BULK AT MOST 1048576: true; the input reads as it did. -/
def judgeCountsUptoRow : OpenClaim := { program := "ytkkncdokkdamcaa", sum := "4eb5f7b54092b9282e4fe238517830c06dd9f0b1beabfcdaf4fc309afe28250d", func := "claviger/clavigerlaw25.JudgeCounts", spec := "judgeCounts", inPlace := ["internal/bytealg.Compare", "slices.overlaps[claviger/api.Vault]"], unfollowed := true, recurses := true, plainKeys := false, apart := false, narrowed := true }
def JudgeCountsUptoSaid : Prop := judgeCountsUptoRow.holds Try.pinned (OpenSpec.upto judgeCountsSpec)

/-- 'clavigerlaw25.JudgeNumbers', WHERE WHAT IT READS IS OF BULK AT MOST 1048576: true; the input reads as it did. -/
def judgeNumbersUptoRow : OpenClaim := { program := "ytkkncdokkdamcaa", sum := "4eb5f7b54092b9282e4fe238517830c06dd9f0b1beabfcdaf4fc309afe28250d", func := "claviger/clavigerlaw25.JudgeNumbers", spec := "judgeNumbers", inPlace := ["internal/bytealg.Compare", "slices.overlaps[claviger/api.Vault]"], unfollowed := true, recurses := true, plainKeys := false, apart := false, narrowed := true }
def JudgeNumbersUptoSaid : Prop := judgeNumbersUptoRow.holds Try.pinned (OpenSpec.upto judgeNumbersSpec)

/-- 'clavigerlaw25.JudgeTells', WHERE WHAT IT READS IS OF BULK AT MOST 1048576: true; the input reads as it did. -/
def judgeTellsUptoRow : OpenClaim := { program := "ytkkncdokkdamcaa", sum := "4eb5f7b54092b9282e4fe238517830c06dd9f0b1beabfcdaf4fc309afe28250d", func := "claviger/clavigerlaw25.JudgeTells", spec := "judgeTells", inPlace := ["internal/bytealg.Compare", "slices.overlaps[claviger/api.Vault]"], unfollowed := true, recurses := true, plainKeys := false, apart := false, narrowed := true }
def JudgeTellsUptoSaid : Prop := judgeTellsUptoRow.holds Try.pinned (OpenSpec.upto judgeTellsSpec)

end Rows
end Go.Proofs.Ytkkncdokkdamcaa
