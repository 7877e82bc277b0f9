/- EvalMakes: the closed facts. -/
import Derived.Test.YtpeidlcjlfkpcaaGreatDoorCards
import Derived.Test.YtpeidlcjlfkpcaaGreatDoorTie
set_option linter.unusedSectionVars false
set_option linter.unusedVariables false
set_option linter.unusedSimpArgs false
namespace Go.Proofs.YtpeidlcjlfkpcaaGreatDoor
set_option maxHeartbeats 40000000 in
theorem evalMakes_closed : joinedFacts Tryz.prog 3 Tryz.f3 (OpenSpec.ofChange Rows.evalMakesSpec).bare Rows.evalMakesRow = true := by
  unfold joinedFacts
  simp only [Bool.and_eq_true]
  repeat' apply And.intro
  all_goals (as_aux_lemma => kernel_rfl)
theorem evalMakes_plain (f : FuncId) (fn : Func) (hf : Tryz.pinned.checked.prog.funcNamed "bspregion/bspregionlaw32.EvalMakes" = some f) (hfn : Tryz.pinned.checked.prog.funcs[f]? = some fn) :
    true = Tryz.pinned.checked.prog.looks [] ∧ ∀ (j : Nat) t, fn.params[j]? = some t → Tryz.pinned.checked.prog.wantsStandIn t = false := by
  obtain rfl : f = 3 := Option.some.inj ((show Tryz.prog.funcNamed "bspregion/bspregionlaw32.EvalMakes" = some 3 by kernel_rfl).symm.trans hf) |>.symm
  obtain rfl : fn = Tryz.f3 := (Option.some.inj (Tryz.func3.symm.trans hfn)).symm
  refine ⟨by kernel_rfl, fun j t ht => ?_⟩
  rw [Tryz.params3] at ht
  have ht : t = 22 ∨ t = 3 := by simpa using Array.mem_of_getElem? ht
  rcases ht with rfl | rfl
  · exact (show Tryz.prog.wantsStandIn 22 = false by kernel_rfl)
  · exact (show Tryz.prog.wantsStandIn 3 = false by kernel_rfl)
end Go.Proofs.YtpeidlcjlfkpcaaGreatDoor
