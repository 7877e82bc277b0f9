/- EvalBudget: for every input the law returns true, and the arguments read afterwards as they read before; the card ties the listed variables to the program's text. No condition. -/
import Derived.Test.YtjopjomoejfehaaGreatDoorB41
import Derived.Test.YtjopjomoejfehaaGreatDoorCards
import Derived.Test.YtjopjomoejfehaaGreatDoorTie
set_option linter.unusedSectionVars false
set_option linter.unusedVariables false
set_option linter.unusedSimpArgs false
namespace Go.Proofs.YtjopjomoejfehaaGreatDoor
open Go.ChangeShapes Go.WideShapes Go.ChangeAt Go.RowKit Go.Ab
instance (priority := low) rowBase : Base := ⟨fun _ => none⟩
abbrev evalBudgetLaid : List (String × DataW Unit) := Rows.evalBudgetRow.laid
theorem evalBudget_door (os : Os) : laidMetH Tryz.prog evalBudgetLaid ((World.doorLaid Tryz.prog 400 os).forCall (fun _ _ => 0) ⟨#[], #[.slice none 0 0], []⟩).memory :=
  laidMetH_of_parts3 (fuel := 8) (laidMet_of_run' 8 (by kernel_rfl) (by kernel_rfl)) (by kernel_rfl) (by kernel_rfl)
theorem evalBudget_reads (os : Os) {H : Type} (enc : TypeId × Value → H) : ∃ places, DataW.whole enc Tryz.prog ((World.doorLaid Tryz.prog 400 os).forCall (fun _ _ => 0) ⟨#[], #[.slice none 0 0], []⟩).memory Tryz.f3.params.toList Rows.evalBudgetSpec.vars false (#[.slice none 0 0] : Array Value).toList 8 = some ([.nil], [], places) :=
  ⟨[], by kernel_rfl⟩
theorem evalBudget_pick : evalBudgetLaid.filter (fun e => e.1 == "bspregion/api.ErrName" || e.1 == "bspregion/api.ErrRange") = [("bspregion/api.ErrName", Rows.laid_bspregion_api_ErrName), ("bspregion/api.ErrRange", Rows.laid_bspregion_api_ErrRange)] := by kernel_rfl
theorem evalBudget_dis {W : World} (hL : laidMet Tryz.prog evalBudgetLaid W) : @Dis (C5 W) 1 0 := by
  have h := laidMet.filter (fun e => e.1 == "bspregion/api.ErrName" || e.1 == "bspregion/api.ErrRange") hL
  rw [evalBudget_pick] at h
  exact Ma h (by kernel_rfl) (by kernel_rfl) (by kernel_rfl) (by kernel_rfl)
set_option maxRecDepth 100000 in
theorem evalBudget_lifted (os : Os) (started : os.Started) (H : Type) (enc : TypeId × Value → H) (F : Stop.Interp) :
    ReturnsInHanded {} Tryz.checked os 3 .any ((OpenSpec.ofChange Rows.evalBudgetSpec).preRow enc Tryz.prog Tryz.f3 Rows.evalBudgetRow.domain false Rows.evalBudgetRow.laid) (((OpenSpec.ofChange Rows.evalBudgetSpec).at F).post enc Tryz.prog Tryz.f3 false true false false) := by
  obtain ⟨places, hx⟩ := evalBudget_reads os enc
  refine returnsInHanded_of_row (C := Tryz.checked) (s := OpenSpec.ofChange Rows.evalBudgetSpec) So started (by kernel_rfl) Tryz.func3
    (witness_row_atRef (enc := enc) (C := Tryz.checked) false (World.doorLaid Tryz.prog 400 os) #[.slice none 0 0] rfl (by kernel_rfl) (by kernel_rfl) (by kernel_rfl)
      (OpenSpec.preRow_of_cond 8 hx (by kernel_rfl) (fun k hk => by cases hk) (by kernel_rfl) (evalBudget_door os))) ?_
  intro W base args ds gs before hval hW _ _ _ hL _ _
  have hW' := hW
  obtain ⟨p, q, hA0, hV, rfl, hfz, hnd⟩ := hW
  have hA : DataW.TrodAll enc Tryz.prog W 0 (fun _ => true) true Tryz.f3.params.toList args.toList ds p := hA0
  rw [Tryz.params3] at hA hval
  obtain ⟨v0, vs0, d0, ds0, p0, q0, hargs, rfl, rfl, h0, r0⟩ := trodAll_cons hA
  obtain ⟨rfl, rfl, rfl⟩ := trodAll_nil r0
  obtain rfl : args = #[v0] := by cases args; simp_all
  obtain ⟨rfl, rfl⟩ := trodVars_none hV
  have k0 := h0
  obtain ⟨sa0, sn0, sc0, rfl⟩ := okWide_slice Tryz.underlying22 (hval 0 22 v0 rfl rfl)
  have lt0 : ∀ x ∈ p0, x.block < W.heap.size := by obtain ⟨m, hm⟩ := k0; exact DataW.trod_lt m _ _ _ hm
  obtain ⟨n0, h0⟩ := h0
  obtain ⟨s0, ⟨zs0, hz0, hl0, rfl⟩, a0⟩ := KX (T := 22) (k := .i64) (by kernel_rfl) _ _ _ h0
  rw [MakeChecks.laidMetH_plain _ _ _ (by kernel_rfl)] at hL
  letI : Base := C5 W
  haveI : iO 3 := ⟨n8 hL (by kernel_rfl) (by kernel_rfl)⟩
  haveI : iO 0 := ⟨n8 hL.tail.tail (by kernel_rfl) (by kernel_rfl)⟩
  haveI : iO 5 := ⟨n8 hL.tail (by kernel_rfl) (by kernel_rfl)⟩
  haveI : iO 4 := ⟨n8 hL.tail.tail.tail.tail (by kernel_rfl) (by kernel_rfl)⟩
  haveI : iO 1 := ⟨n8 hL.tail.tail.tail.tail.tail (by kernel_rfl) (by kernel_rfl)⟩
  haveI : iO 2 := ⟨n8 hL.tail.tail.tail (by kernel_rfl) (by kernel_rfl)⟩
  haveI : Dis 1 0 := evalBudget_dis hL
  have hp := LV zs0 hl0
  have hc := Mj (W := W) (vs := [.slice sa0 sn0 sc0]) (Mem.le_refl _) hp ⟨a0.1.1, trivial⟩
  clear hA0 hval
  refine Calls.mono hc fun e W' ⟨he, bel⟩ => ?_
  subst he
  exact ⟨_, rfl, _, _, _, [], _, [], hW', trodAll_mk1 (shut_bool Tryz.underlying4 _), (trodAll_cons_mk (Below.trod Lo (by kernel_rfl) (of_decide_eq_true (by kernel_rfl)) k0 bel lt0) trodAll_mk0), rfl, bel.frame _, fun h => by cases h⟩
end Go.Proofs.YtjopjomoejfehaaGreatDoor
