/- Texts laid one behind the other: RefD, Bits, FracA. -/
import Derived.Test.YtebghnhocigmlaaGreatDoorB04
import Derived.Test.YtebghnhocigmlaaGreatDoorB03
set_option linter.unusedSectionVars false
set_option linter.unusedVariables false
set_option linter.unusedSimpArgs false
namespace Go.Ab
open Go.Proofs
variable [Base]
def small (x : Rat) : Prop := x.num.natAbs < 4611686018427387904 ∧ x.den < 4611686018427387904
instance (x : Rat) : Decidable (small x) := by unfold small; infer_instance
def r0 (x : Rat) : Int := if small x then x.num else 0
def r1 (x : Rat) : Int := if small x then x.den - 1 else 0
def r2 (x : Rat) : SV := if small x then lit (.pointer none) else pt [lit (.bool (decide (x.num < 0))), nat x.num.natAbs, nat x.den]
instance (x : Rat) : CO (r2 x) [r2 x] := by unfold r2; split <;> infer_instance
abbrev fr (x : Rat) : SV := ag [lit (.int .i64 (r0 x)), lit (.int .i64 (r1 x)), r2 x]
theorem r0_s {x : Rat} (h : small x) : r0 x = x.num := if_pos h
theorem r1_s {x : Rat} (h : small x) : r1 x = x.den - 1 := if_pos h
theorem r2_s {x : Rat} (h : small x) : r2 x = lit (.pointer none) := if_pos h
theorem r0_b {x : Rat} (h : ¬small x) : r0 x = 0 := if_neg h
theorem r1_b {x : Rat} (h : ¬small x) : r1 x = 0 := if_neg h
theorem r2_b {x : Rat} (h : ¬small x) : r2 x = pt [lit (.bool (decide (x.num < 0))), nat x.num.natAbs, nat x.den] := if_neg h
theorem fr_s {x : Rat} (h : small x) : fr x = ag [lit (.int .i64 x.num), lit (.int .i64 (x.den - 1)), lit (.pointer none)] := by rw [fr, r0_s h, r1_s h, r2_s h]
theorem fr_b {x : Rat} (h : ¬small x) : fr x = ag [lit (.int .i64 0), lit (.int .i64 0), pt [lit (.bool (decide (x.num < 0))), nat x.num.natAbs, nat x.den]] := by rw [fr, r0_b h, r1_b h, r2_b h]
theorem mk_num (a : Int) {d : Nat} (h : d ≠ 0) : (mkRat a d).num = a / (Int.gcd a d : Nat) ∧ (mkRat a d).den = d / Int.gcd a d := by
  rw [Rat.mkRat_def, dif_neg h, Rat.normalize_eq]
  exact ⟨rfl, rfl⟩
end Go.Ab
