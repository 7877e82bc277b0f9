/- The reference's numbers: long division. -/
import Derived.Test.YtebghnhocigmlaaGreatDoorB04
set_option linter.unusedSectionVars false
set_option linter.unusedVariables false
set_option linter.unusedSimpArgs false
namespace Go.Ab
open Go.Proofs
variable [Base]
end Go.Ab
