/- Package frac: sums and products. -/
import Derived.Test.YtghaepkgceaboaaGreatDoorB11
namespace Go.Ab
open Go.Proofs
set_option linter.unusedSectionVars false
set_option linter.unusedVariables false
set_option linter.unusedSimpArgs false
variable [Base]
theorem fr_cells (x : Rat) : [lit (.int .i64 (r0 x)), lit (.int .i64 (r1 x)), r2 x] = if small x then [lit (.int .i64 x.num), lit (.int .i64 (x.den - 1)), lit (.pointer none)] else [lit (.int .i64 0), lit (.int .i64 0), pt [lit (.bool (decide (x.num < 0))), nat x.num.natAbs, nat x.den]] := by
  split
  · rename_i h; rw [r0_s h, r1_s h, r2_s h]
  · rename_i h; rw [r0_b h, r1_b h, r2_b h]
/-- the sum of two short rationals, as the program adds them -/
theorem add_parts (x y : Rat) : x + y = mkRat (x.num * y.den + y.num * x.den) (x.den * y.den) := Rat.add_def' x y
theorem add_whole {x y : Rat} (h1 : x.den = 1) (h2 : y.den = 1) : x + y = ((x.num + y.num : Int) : Rat) := by
  rw [Rat.add_def', h1, h2, Int.natCast_one, Int.mul_one, Int.mul_one, Nat.mul_one, Rat.mkRat_one]
end Go.Ab
