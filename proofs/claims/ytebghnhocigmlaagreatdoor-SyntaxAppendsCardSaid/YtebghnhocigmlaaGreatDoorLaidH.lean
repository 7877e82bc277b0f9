/- What the handle of the type error in a row's list gives a walk. -/
import Derived.Test.YtebghnhocigmlaaGreatDoorB25
import Derived.Test.YtebghnhocigmlaaGreatDoorRows
namespace Go.Ab
open Go.Proofs
set_option linter.unusedSectionVars false
set_option linter.unusedVariables false
set_option linter.unusedSimpArgs false
variable [Base]
theorem errT_rows : ((List.range (Tryz.prog).types.size).filter fun t => (Tryz.prog).rowNamed t [101, 114, 114, 111, 114]) = [25] := by kernel_rfl
theorem errT_head {W : World} (h : handlesMet Tryz.prog [("errors.errorType", Go.Proofs.YtebghnhocigmlaaGreatDoor.Rows.laid_errors_errorType)] W) : ∃ (T : TypeId) (fz : Nat × Nat), W.heap[0]? = some (.cells #[errT] T fz) := by
  obtain ⟨name, u, ty, e1, e2, e3, e4, e5⟩ := h _ (List.mem_singleton.2 rfl)
  have en : name = [101, 114, 114, 111, 114] := (Option.some.inj e1).symm
  subst en
  obtain rfl := Option.some.inj ((show _ = some 128 by kernel_rfl).symm.trans e2)
  have hm : ty ∈ (List.range (Tryz.prog).types.size).filter fun t => (Tryz.prog).rowNamed t [101, 114, 114, 111, 114] := List.mem_filter.2 ⟨List.mem_range.2 e3, e4⟩
  rw [errT_rows] at hm
  obtain rfl := List.mem_singleton.1 hm
  have hG : (Tryz.prog).globalNamed "errors.errorType" = some 0 := by kernel_rfl
  unfold World.var? at e5
  rw [hG] at e5
  simp only [Option.bind_some] at e5
  cases hh : W.heap[0]? with
  | none => rw [hh] at e5; cases e5
  | some o =>
    rw [hh] at e5
    cases o with
    | cells cs T fz =>
      simp only [Option.some.injEq] at e5
      subst e5
      exact ⟨T, fz, rfl⟩
    | _ => cases e5
end Go.Ab
