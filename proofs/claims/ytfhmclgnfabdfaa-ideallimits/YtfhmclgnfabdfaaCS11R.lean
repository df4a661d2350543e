/- One vault, as the document says. Conditions: none. -/
import Derived.Test.YtfhmclgnfabdfaaCS11
namespace Go.Proofs.Ytfhmclgnfabdfaa
open Go Go.Vm Go.Proofs Go.Cl
set_option linter.unusedSimpArgs false
set_option linter.unusedVariables false
set_option maxRecDepth 100000
end Go.Proofs.Ytfhmclgnfabdfaa
