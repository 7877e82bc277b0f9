/- Texts laid one behind the other: ExprOpen, OpenB. -/
import Derived.Test.YtebghnhocigmlaaGreatDoorB11
import Derived.Test.YtebghnhocigmlaaGreatDoorB25
namespace Go.Ab
open Go.Proofs
set_option linter.unusedSectionVars false
set_option linter.unusedVariables false
set_option linter.unusedSimpArgs false
variable [Base]
open Go.ChangeShapes Go.WideShapes Go.ChangeAt Go.RowKit
section
variable {H : Type} {enc : TypeId × Value → H} {W : World} {sp : Nat → Bool} {held : Bool}
end
def Nd.raw (n : Nd) : Prop := ((D n.a.n ∧ D n.a.d) ∧ (D n.b.n ∧ D n.b.d) ∧ (D n.c.n ∧ D n.c.d) ∧ (D n.e.n ∧ D n.e.d)) ∧ n.nm.length ≤ 9223372036854775807 ∧ (i64R n.k ∧ i64R n.op ∧ i64R n.x ∧ i64R n.y)
theorem gstr_l {l : List SV} (h : GStr l) : ∃ s : List UInt8, s.length ≤ 9223372036854775807 ∧ l = [str s] := by
  obtain ⟨s, hs, rfl⟩ := h
  refine ⟨s.data.toList, ?_, ?_⟩
  · have : s.data.toList.length = s.size := by rw [Array.length_toList]; rfl
    rw [this]
    simp only [maxLen] at hs
    omega
  · show _ = [lit (.string ⟨s.data.toList.toArray⟩)]
    rw [Array.toArray_toList]
end Go.Ab
namespace Go.Ab
open Go.Proofs
set_option linter.unusedSectionVars false
set_option linter.unusedVariables false
set_option linter.unusedSimpArgs false
variable [Base]
open Go.ChangeShapes Go.WideShapes Go.ChangeAt Go.RowKit
end Go.Ab
