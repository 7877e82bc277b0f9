/- EvalMakes: for every input the law returns true, and the arguments read afterwards as they read before; the card ties the listed variables to the program's text. No condition. -/
import Derived.Test.YtpeidlcjlfkpcaaGreatDoorEvalMakesRowA
import Derived.Test.YtpeidlcjlfkpcaaGreatDoorEvalMakesRowB
import Derived.Test.YtpeidlcjlfkpcaaGreatDoorCards
import Derived.Test.YtpeidlcjlfkpcaaGreatDoorTie
set_option linter.unusedSectionVars false
set_option linter.unusedVariables false
set_option linter.unusedSimpArgs false
namespace Go.Proofs.YtpeidlcjlfkpcaaGreatDoor
open Go.ChangeShapes Go.WideShapes Go.ChangeAt Go.RowKit Go.Ab
theorem evalMakes_said : Rows.EvalMakesSaid :=
  OpenClaim.holds_of_cond 3 Tryz.f3 rfl rfl rfl rfl rfl rfl rfl ⟨rfl, rfl, rfl, rfl, rfl⟩ rfl rfl rfl rfl rfl (by kernel_rfl) Tryz.func3 evalMakes_closed
    (of_decide_eq_true (by kernel_rfl)) (by unfold Func.isWrapper; rw [if_neg (of_decide_eq_false (by kernel_rfl))]; exact ⟨rfl, rfl⟩)
    (fun os started H enc _ F => by rw [OpenClaim.pre_eq_preRow]; exact evalMakes_lifted os started H enc F)
theorem evalMakes_holds : Rows.EvalMakesCardSaid :=
  Claim7.holds_tied_plain_at .later [] _ _ _ _ evalMakes_said (fun _ h => by cases h) (by as_aux_lemma => kernel_rfl) (fun _ h => by cases h) evalMakes_row_tie rfl ⟨rfl, rfl⟩ (by as_aux_lemma => kernel_rfl) rfl evalMakes_plain (by as_aux_lemma => kernel_rfl)
end Go.Proofs.YtpeidlcjlfkpcaaGreatDoor
