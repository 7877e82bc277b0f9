/- The reference's numbers: long division. -/
import Derived.Test.YtebghnhocigmlaaGreatDoorB05
namespace Go.Ab
open Go.Proofs
set_option linter.unusedSectionVars false
set_option linter.unusedVariables false
set_option linter.unusedSimpArgs false
variable [Base]
end Go.Ab
