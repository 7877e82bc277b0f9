/- Package frac: sums and products. -/
import Derived.Test.YtijejidpcfgioaaGreatDoorB09
namespace Go.Ab
open Go.Proofs
set_option linter.unusedSectionVars false
set_option linter.unusedVariables false
set_option linter.unusedSimpArgs false
variable [Base]
theorem add_whole {x y : Rat} (h1 : x.den = 1) (h2 : y.den = 1) : x + y = ((x.num + y.num : Int) : Rat) := by
  rw [Rat.add_def', h1, h2, Int.natCast_one, Int.mul_one, Int.mul_one, Nat.mul_one, Rat.mkRat_one]
end Go.Ab
