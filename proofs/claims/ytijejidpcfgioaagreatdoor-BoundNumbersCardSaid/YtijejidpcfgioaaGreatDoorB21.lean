/- Texts laid one behind the other: LaidKit, ExprOpen. -/
import Derived.Test.YtijejidpcfgioaaGreatDoorB12
import Derived.Test.YtijejidpcfgioaaGreatDoorB20
import Derived.Stop.LaidErr
import Derived.LaidMore
import Derived.Deep.DeepHandedRow
import Derived.Deep.DeepWitnessRowRef
import Derived.Test.YtijejidpcfgioaaGreatDoorB13
/- Rows that list package variables: what the list says to the abstract machine. -/
namespace Go.Ab
open Go.Proofs
set_option linter.unusedSectionVars false
set_option linter.unusedVariables false
set_option linter.unusedSimpArgs false
variable [Base]
open Go.ChangeShapes Go.WideShapes Go.ChangeAt Go.RowKit
theorem starE : "*" ++ "errors.errorString" = "*errors.errorString" := by decide
theorem rowE (u : TypeId) (h : (Tryz.prog).typeName? 3 u = some "*errors.errorString") : u = 330 :=
  typeName_ptr_named (nm := "errors.errorString") (by rw [starE]; kernel_rfl) (by kernel_rfl) (by decide) u (by rw [starE]; exact h)
/-- a listed sentinel, at the head of a list -/
theorem sent_head {n : String} {text : List UInt8} {r : List (String × DataW Unit)} {W : World} {g : Nat} (h : laidMet Tryz.prog ((n, .iface "*errors.errorString" (.ptr (.agg [.lit (.string text)]))) :: r) W)
    (hg : (Tryz.prog).globalNamed n = some g) (ht : ((Tryz.prog).globals[g]?).map (·.type) = some 38) : ∃ (a : Addr) (T : TypeId) (fz : Nat × Nat), W.heap[g]? = some (.cells #[.iface 330 (.pointer (some a))] T fz) := by
  obtain ⟨a, s, hv, _⟩ := laid_sentinel (tp := 330) h hg ht Tryz.underlying38 rowE Tryz.underlying330 Tryz.underlying332 rfl rfl Tryz.underlying9 (by kernel_rfl) (by kernel_rfl)
  unfold World.var? at hv
  rw [hg] at hv
  simp only [Option.bind_some] at hv
  cases hh : W.heap[g]? with
  | none => rw [hh] at hv; cases hv
  | some o =>
    rw [hh] at hv
    cases o with
    | cells cs T fz =>
      simp only [Option.some.injEq] at hv
      subst hv
      exact ⟨a, T, fz, rfl⟩
    | _ => cases hv
/-- the memory of a call, for a whole law -/
abbrev baseOf (W : World) : Base := ⟨memOf W⟩
end Go.Ab
/- Reading a list of parts of expressions: what the abstract machine says of it. -/
namespace Go.Ab
open Go.Proofs
set_option linter.unusedSectionVars false
set_option linter.unusedVariables false
set_option linter.unusedSimpArgs false
variable [Base]
open Go.ChangeShapes Go.WideShapes Go.ChangeAt Go.RowKit
section
variable {H : Type} {enc : TypeId × Value → H} {W : World} {sp : Nat → Bool} {held : Bool}
end
/-- a part as it may be read -/
def Nd.raw (n : Nd) : Prop := ((D n.a.n ∧ D n.a.d) ∧ (D n.b.n ∧ D n.b.d) ∧ (D n.c.n ∧ D n.c.d) ∧ (D n.e.n ∧ D n.e.d)) ∧ n.nm.length ≤ 9223372036854775807 ∧ (i64R n.k ∧ i64R n.op ∧ i64R n.x ∧ i64R n.y)
theorem gint_i64 {l : List SV} (h : GInt .i64 l) : ∃ z, i64R z ∧ l = [lit (.int .i64 z)] := by
  obtain ⟨z, hz, rfl⟩ := h
  refine ⟨z, ?_, rfl⟩
  simp only [Lit.wf, IntKind.min, IntKind.max, IntKind.signed, IntKind.bits, Bool.and_eq_true, decide_eq_true_eq] at hz
  unfold i64R
  simp at hz
  omega
end Go.Ab
