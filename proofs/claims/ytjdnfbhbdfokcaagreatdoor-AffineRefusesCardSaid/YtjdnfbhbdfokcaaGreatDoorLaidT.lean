/- What the table of powers of ten in a row's list gives a walk. -/
import Derived.Test.YtjdnfbhbdfokcaaGreatDoorB22
import Derived.Test.YtjdnfbhbdfokcaaGreatDoorB18
import Derived.Lib.LaidTab
import Derived.Test.YtjdnfbhbdfokcaaGreatDoorRows
set_option linter.unusedSectionVars false
set_option linter.unusedVariables false
set_option linter.unusedSimpArgs false
namespace Go.Ab
open Go.Proofs
variable [Base]
theorem pow_head {n : String} {r : List (String × DataW Unit)} {W : World} (h : laidMet Tryz.prog ((n, Go.Proofs.YtjdnfbhbdfokcaaGreatDoor.Rows.laid_internal_strconv_uint64pow10) :: r) W) (hn : (Tryz.prog).globalNamed n = some 5) :
    ∃ (T : TypeId) (fz : Nat × Nat), W.heap[5]? = some (.cells (Lib.pow10Tab.map fun z => Value.int .u64 z).toArray T fz) := by
  have e : (Go.Proofs.YtjdnfbhbdfokcaaGreatDoor.Rows.laid_internal_strconv_uint64pow10 : DataW Unit) = Lib.tabData .u64 Lib.pow10Tab := by kernel_rfl
  rw [e] at h
  have ht := Lib.tabIs_of_head (t := 397) (e := 209) (n := 20) hn (by kernel_rfl) Tryz.underlying397 Tryz.underlying209 (by kernel_rfl) (by kernel_rfl) h
  unfold Lib.TabIs World.var? at ht
  rw [hn] at ht
  simp only [Option.bind_some] at ht
  cases hh : W.heap[5]? with
  | none => rw [hh] at ht; cases ht
  | some o =>
    rw [hh] at ht
    cases o with
    | cells cs T fz =>
      simp only [Option.some.injEq] at ht
      subst ht
      exact ⟨T, fz, rfl⟩
    | _ => cases ht
end Go.Ab
