/- Package frac: sums and products. -/
import Derived.Test.YtebghnhocigmlaaGreatDoorB09
namespace Go.Ab
open Go.Proofs
set_option linter.unusedSectionVars false
set_option linter.unusedVariables false
set_option linter.unusedSimpArgs false
variable [Base]
end Go.Ab
