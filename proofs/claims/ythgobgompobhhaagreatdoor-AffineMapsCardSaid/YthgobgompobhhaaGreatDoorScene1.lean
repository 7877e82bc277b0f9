/- The scenes: how long numbers are. -/
import Derived.Test.YthgobgompobhhaaGreatDoorLoop
import Derived.Test.YthgobgompobhhaaGreatDoorRef1
namespace Go.Ab
open Go.Proofs
set_option linter.unusedSectionVars false
variable [Base]
abbrev qcells (r : RQ) : List SV := [lit (.bool r.s), dg r.n, dg r.d]
def RQ.short (n : Nat) (r : RQ) : Prop := r.n.length ≤ n ∧ r.d.length ≤ n
instance (n : Nat) (r : RQ) : Decidable (r.short n) := by unfold RQ.short; infer_instance
theorem qcells_len (r : RQ) : (qcells r).length = 3 := rfl
theorem take_snoc {α : Type} {l : List α} {k : Nat} {a : α} (h : l[k]? = some a) : l.take (k + 1) = l.take k ++ [a] := by
  obtain ⟨h1, h2⟩ := List.getElem?_eq_some_iff.1 h
  rw [List.take_succ_eq_append_getElem h1, h2]
abbrev pcells (p : RQ × RQ) : List SV := [lit (.bool p.1.s), dg p.1.n, dg p.1.d, lit (.bool p.2.s), dg p.2.n, dg p.2.d]
theorem pcells_len (p : RQ × RQ) : (pcells p).length = 6 := rfl
end Go.Ab
