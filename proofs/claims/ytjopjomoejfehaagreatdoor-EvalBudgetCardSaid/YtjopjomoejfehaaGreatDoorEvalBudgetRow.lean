/- EvalBudget: for every input the law returns true, and the arguments read afterwards as they read before; the card ties the listed variables to the program's text. No condition. -/
import Derived.Test.YtjopjomoejfehaaGreatDoorEvalBudgetRowA
import Derived.Test.YtjopjomoejfehaaGreatDoorEvalBudgetRowB
import Derived.Test.YtjopjomoejfehaaGreatDoorCards
import Derived.Test.YtjopjomoejfehaaGreatDoorTie
set_option linter.unusedSectionVars false
set_option linter.unusedVariables false
set_option linter.unusedSimpArgs false
namespace Go.Proofs.YtjopjomoejfehaaGreatDoor
open Go.ChangeShapes Go.WideShapes Go.ChangeAt Go.RowKit Go.Ab
theorem evalBudget_said : Rows.EvalBudgetSaid :=
  OpenClaim.holds_of_cond 3 Tryz.f3 rfl rfl rfl rfl rfl rfl rfl ⟨rfl, rfl, rfl, rfl, rfl⟩ rfl rfl rfl rfl rfl (by kernel_rfl) Tryz.func3 evalBudget_closed
    (of_decide_eq_true (by kernel_rfl)) (by unfold Func.isWrapper; rw [if_neg (of_decide_eq_false (by kernel_rfl))]; exact ⟨rfl, rfl⟩)
    (fun os started H enc _ F => by rw [OpenClaim.pre_eq_preRow]; exact evalBudget_lifted os started H enc F)
theorem evalBudget_holds : Rows.EvalBudgetCardSaid :=
  Claim7.holds_tied_plain_at .later [] _ _ _ _ evalBudget_said (fun _ h => by cases h) (by as_aux_lemma => kernel_rfl) (fun _ h => by cases h) evalBudget_row_tie rfl ⟨rfl, rfl⟩ (by as_aux_lemma => kernel_rfl) rfl evalBudget_plain (by as_aux_lemma => kernel_rfl)
end Go.Proofs.YtjopjomoejfehaaGreatDoor
