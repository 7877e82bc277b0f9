/- The rows of this seat's laws: what is common to them. -/
import Derived.Test.YthgobgompobhhaaGreatDoorScene1
import Derived.Test.YthgobgompobhhaaGreatDoorOpen
import Derived.WalkKit
namespace Go.Ab
open Go.Proofs
set_option linter.unusedSectionVars false
variable [Base]
open Go.ChangeShapes Go.WideShapes Go.ChangeAt Go.RowKit
theorem agg_of {m : Mem} {svs : List SV} {v : Value} (h : All2 m svs v.cells.toList) (hl : 2 ≤ svs.length) : (ag svs).p m v := by
  have hlen := h.length
  unfold ag
  cases v with
  | agg arr => exact ⟨arr, rfl, h⟩
  | _ => simp [Value.cells] at hlen; omega
theorem calls_of {P : Program} {f : FuncId} {args : List SV} {W : World} {vs : List Value} (hB : Base.mem.le (memOf W)) (h : Pu P f args (lit (.bool true))) (ha : ArgsOk (memOf W) args vs) :
    Calls P f vs.toArray W fun e w' => e = .returned (.bool true) ∧ Below W.heap.size W w' := by
  unfold Pu at h
  refine (h.2 _ W vs (memOf_in W hB) ha).mono ?_
  rintro e w' ⟨v, m', rfl, hv, _, hr⟩
  rw [lit_p] at hv
  subst hv
  exact ⟨rfl, hr.os, hr.tape, hr.output, hr.size, fun k hk => hr.block k hk (by simp)⟩
theorem own0 : ownKnob Tryz.prog.godebug = none := by kernel_rfl
theorem laidOut0 : laidOutB Tryz.prog = true := by kernel_rfl
section
variable {H : Type} {enc : TypeId × Value → H} {W : World} {sp : Nat → Bool} {held : Bool}
abbrev GI : List SV → Prop := Cat [GBool, GNat]
abbrev GR : List SV → Prop := Cat [GI, GNat]
theorem opn_nat0 : Opn enc Tryz.prog W sp held 37 GNat := opn_nat (by kernel_rfl)
theorem opn_int0 : Opn enc Tryz.prog W sp held 39 GI := opn_struct Tryz.underlying39 (by kernel_rfl) (.cons opn_bool (.cons opn_nat0 .nil))
theorem opn_rat0 : Opn enc Tryz.prog W sp held 41 GR := opn_struct Tryz.underlying41 (by kernel_rfl) (.cons opn_int0 (.cons opn_nat0 .nil))
end
theorem cat_rat {l : List SV} (h : GR l) : ∃ r : RQ, (D r.n ∧ D r.d) ∧ l = qcells r := by
  cases h with
  | cons h k => cases h with
    | cons hb hk => cases hk with
      | cons hn hz => cases hz; cases k with
        | cons hd hz => cases hz
                        obtain ⟨b, rfl⟩ := hb
                        obtain ⟨xs, hx, rfl⟩ := hn
                        obtain ⟨ys, hy, rfl⟩ := hd
                        exact ⟨⟨b, xs, ys⟩, ⟨hx, hy⟩, rfl⟩
end Go.Ab
