/- EvalRefuses: for every input the law returns true, and the arguments read afterwards as they read before; the card ties the listed variables to the program's text. No condition. -/
import Derived.Test.YthinbooccdccfaaGreatDoorB33
import Derived.Test.YthinbooccdccfaaGreatDoorCards
import Derived.Test.YthinbooccdccfaaGreatDoorTie
set_option linter.unusedSectionVars false
set_option linter.unusedVariables false
set_option linter.unusedSimpArgs false
namespace Go.Proofs.YthinbooccdccfaaGreatDoor
open Go.ChangeShapes Go.WideShapes Go.ChangeAt Go.RowKit Go.Ab
set_option maxHeartbeats 40000000 in
theorem evalRefuses_closed : joinedFacts Tryz.prog 3 Tryz.f3 (OpenSpec.ofChange Rows.evalRefusesSpec).bare Rows.evalRefusesRow = true := by
  unfold joinedFacts
  simp only [Bool.and_eq_true]
  repeat' apply And.intro
  all_goals (as_aux_lemma => kernel_rfl)
end Go.Proofs.YthinbooccdccfaaGreatDoor
