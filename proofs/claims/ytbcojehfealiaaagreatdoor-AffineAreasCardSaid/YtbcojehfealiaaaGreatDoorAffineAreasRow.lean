/- AffineAreas: for every input the law returns true, and the arguments read afterwards as they read before; the card ties the listed variables to the program's text. No condition. -/
import Derived.Test.YtbcojehfealiaaaGreatDoorB39
import Derived.Test.YtbcojehfealiaaaGreatDoorCards
import Derived.Test.YtbcojehfealiaaaGreatDoorTie
set_option linter.unusedSectionVars false
set_option linter.unusedVariables false
set_option linter.unusedSimpArgs false
namespace Go.Proofs.YtbcojehfealiaaaGreatDoor
open Go.ChangeShapes Go.WideShapes Go.ChangeAt Go.RowKit Go.Ab
instance (priority := low) rowBase : Base := ⟨fun _ => none⟩
abbrev affineAreasLaid : List (String × DataW Unit) := Rows.affineAreasRow.laid
theorem affineAreas_door (os : Os) : laidMetH Tryz.prog affineAreasLaid ((World.doorLaid Tryz.prog 400 os).forCall (fun _ _ => 0) ⟨#[], #[.slice none 0 0], []⟩).memory :=
  laidMetH_of_parts3 (fuel := 8) (laidMet_of_run' 8 (by kernel_rfl) (by kernel_rfl)) (by kernel_rfl) (by kernel_rfl)
theorem affineAreas_reads (os : Os) {H : Type} (enc : TypeId × Value → H) : ∃ places, DataW.whole enc Tryz.prog ((World.doorLaid Tryz.prog 400 os).forCall (fun _ _ => 0) ⟨#[], #[.slice none 0 0], []⟩).memory Tryz.f3.params.toList Rows.affineAreasSpec.vars false (#[.slice none 0 0] : Array Value).toList 8 = some ([.nil], [], places) :=
  ⟨[], by kernel_rfl⟩
set_option maxRecDepth 100000 in
theorem affineAreas_lifted (os : Os) (started : os.Started) (H : Type) (enc : TypeId × Value → H) (F : Stop.Interp) :
    ReturnsInHanded {} Tryz.checked os 3 .any ((OpenSpec.ofChange Rows.affineAreasSpec).preRow enc Tryz.prog Tryz.f3 Rows.affineAreasRow.domain false Rows.affineAreasRow.laid) (((OpenSpec.ofChange Rows.affineAreasSpec).at F).post enc Tryz.prog Tryz.f3 false true false false) := by
  obtain ⟨places, hx⟩ := affineAreas_reads os enc
  refine returnsInHanded_of_row (C := Tryz.checked) (s := OpenSpec.ofChange Rows.affineAreasSpec) LQ started (by kernel_rfl) Tryz.func3
    (witness_row_atRef (enc := enc) (C := Tryz.checked) false (World.doorLaid Tryz.prog 400 os) #[.slice none 0 0] rfl (by kernel_rfl) (by kernel_rfl) (by kernel_rfl)
      (OpenSpec.preRow_of_cond 8 hx (by kernel_rfl) (fun k hk => by cases hk) (by kernel_rfl) (affineAreas_door os))) ?_
  intro W base args ds gs before hval hW _ _ _ hL _ _
  have hW' := hW
  obtain ⟨p, q, hA0, hV, rfl, hfz, hnd⟩ := hW
  have hA : DataW.TrodAll enc Tryz.prog W 0 (fun _ => true) true Tryz.f3.params.toList args.toList ds p := hA0
  rw [Tryz.params3] at hA hval
  obtain ⟨v0, vs0, d0, ds0, p0, q0, hargs, rfl, rfl, h0, r0⟩ := trodAll_cons hA
  obtain ⟨rfl, rfl, rfl⟩ := trodAll_nil r0
  obtain rfl : args = #[v0] := by cases args; simp_all
  obtain ⟨rfl, rfl⟩ := trodVars_none hV
  have k0 := h0
  obtain ⟨sa0, sn0, sc0, rfl⟩ := okWide_slice Tryz.underlying22 (hval 0 22 v0 rfl rfl)
  have lt0 : ∀ x ∈ p0, x.block < W.heap.size := by obtain ⟨m, hm⟩ := k0; exact DataW.trod_lt m _ _ _ hm
  obtain ⟨n0, h0⟩ := h0
  obtain ⟨s0, ⟨zs0, hz0, hl0, rfl⟩, a0⟩ := EJ (T := 22) (k := .i64) (by kernel_rfl) _ _ _ h0
  rw [MakeChecks.laidMetH_plain _ _ _ (by kernel_rfl)] at hL
  letI : Base := KE W
  haveI : J6 1 := ⟨BP hL.tail.tail (by kernel_rfl) (by kernel_rfl)⟩
  have hp := Gi zs0 hl0
  have hc := G7 (W := W) (vs := [.slice sa0 sn0 sc0]) (Mem.le_refl _) hp ⟨a0.1.1, trivial⟩
  clear hA0 hval
  refine Calls.mono hc fun e W' ⟨he, bel⟩ => ?_
  subst he
  exact ⟨_, rfl, _, _, _, [], _, [], hW', trodAll_mk1 (shut_bool Tryz.underlying4 _), (trodAll_cons_mk (Below.trod Fo (by kernel_rfl) (of_decide_eq_true (by kernel_rfl)) k0 bel lt0) trodAll_mk0), rfl, bel.frame _, fun h => by cases h⟩
set_option maxHeartbeats 40000000 in
theorem affineAreas_closed : joinedFacts Tryz.prog 3 Tryz.f3 (OpenSpec.ofChange Rows.affineAreasSpec).bare Rows.affineAreasRow = true := by
  unfold joinedFacts
  simp only [Bool.and_eq_true]
  repeat' apply And.intro
  all_goals (as_aux_lemma => kernel_rfl)
theorem affineAreas_said : Rows.AffineAreasSaid :=
  OpenClaim.holds_of_cond 3 Tryz.f3 rfl rfl rfl rfl rfl rfl rfl ⟨rfl, rfl, rfl, rfl, rfl⟩ rfl rfl rfl rfl rfl (by kernel_rfl) Tryz.func3 affineAreas_closed
    (of_decide_eq_true (by kernel_rfl)) (by unfold Func.isWrapper; rw [if_neg (of_decide_eq_false (by kernel_rfl))]; exact ⟨rfl, rfl⟩)
    (fun os started H enc _ F => by rw [OpenClaim.pre_eq_preRow]; exact affineAreas_lifted os started H enc F)
theorem affineAreas_plain (f : FuncId) (fn : Func) (hf : Tryz.pinned.checked.prog.funcNamed "bspregion/bspregionlaw26.AffineAreas" = some f) (hfn : Tryz.pinned.checked.prog.funcs[f]? = some fn) :
    false = Tryz.pinned.checked.prog.looks [] ∧ ∀ (j : Nat) t, fn.params[j]? = some t → Tryz.pinned.checked.prog.wantsStandIn t = false := by
  obtain rfl : f = 3 := Option.some.inj ((show Tryz.prog.funcNamed "bspregion/bspregionlaw26.AffineAreas" = some 3 by kernel_rfl).symm.trans hf) |>.symm
  obtain rfl : fn = Tryz.f3 := (Option.some.inj (Tryz.func3.symm.trans hfn)).symm
  refine ⟨by kernel_rfl, fun j t ht => ?_⟩
  rw [Tryz.params3] at ht
  have ht : t = 22 := by simpa using Array.mem_of_getElem? ht
  subst ht
  exact (show Tryz.prog.wantsStandIn 22 = false by kernel_rfl)
theorem affineAreas_holds : Rows.AffineAreasCardSaid :=
  Claim7.holds_tied_plain_at .later [] _ _ _ _ affineAreas_said (fun _ h => by cases h) (by kernel_rfl) (fun _ h => by cases h) affineAreas_row_tie rfl ⟨rfl, rfl⟩ (by kernel_rfl) rfl affineAreas_plain (by kernel_rfl)
end Go.Proofs.YtbcojehfealiaaaGreatDoor
