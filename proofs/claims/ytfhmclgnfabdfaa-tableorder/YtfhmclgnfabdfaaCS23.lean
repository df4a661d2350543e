/- The ideal map: sixteen tables. Conditions: none. -/
import Derived.Test.YtfhmclgnfabdfaaCS12F
namespace Go.Vm
set_option linter.unusedVariables false
end Go.Vm
namespace Go.Proofs.Ytfhmclgnfabdfaa
open Go Go.Vm Go.Proofs Go.Cl
set_option linter.unusedSimpArgs false
set_option linter.unusedVariables false
set_option maxRecDepth 100000
/-- The shard of a name. -/
def shardOf (id : Bs) : Nat := ((sumB id).getD 0 0).toNat % 16
theorem shardOf_lt (id : Bs) : shardOf id < 16 := Nat.mod_lt _ (by decide)
end Go.Proofs.Ytfhmclgnfabdfaa
