/- PrinterExprs: for every list of ints the law returns true, and the list reads afterwards as it read before; the card ties the two listed variables (api.ErrInvalid, api.ErrLimit) to the program's text. No condition. -/
import Derived.Test.YtghaepkgceaboaaGreatDoorB23
import Derived.Test.YtghaepkgceaboaaGreatDoorCards
import Derived.Test.YtghaepkgceaboaaGreatDoorTie
namespace Go.Proofs.YtghaepkgceaboaaGreatDoor
open Go.ChangeShapes Go.WideShapes Go.ChangeAt Go.RowKit Go.Ab
instance (priority := low) rowBase : Base := ⟨fun _ => none⟩
abbrev exprsLaid : List (String × DataW Unit) := Rows.printerExprsRow.laid
theorem exprs_door (os : Os) : laidMetH Tryz.prog exprsLaid ((World.doorLaid Tryz.prog 100 os).forCall (fun _ _ => 0) ⟨#[], #[.slice none 0 0], []⟩).memory :=
  laidMetH_of_parts3 (fuel := 8) (laidMet_of_run' 8 (by kernel_rfl) (by kernel_rfl)) (by kernel_rfl) (by kernel_rfl)
theorem exprs_reads (os : Os) {H : Type} (enc : TypeId × Value → H) : ∃ places, DataW.whole enc Tryz.prog ((World.doorLaid Tryz.prog 100 os).forCall (fun _ _ => 0) ⟨#[], #[.slice none 0 0], []⟩).memory Tryz.f4.params.toList Rows.printerExprsSpec.vars false #[Value.slice none 0 0].toList 8 = some ([.nil], [], places) :=
  ⟨[], by kernel_rfl⟩
set_option maxRecDepth 100000 in
theorem exprs_lifted (os : Os) (started : os.Started) (H : Type) (enc : TypeId × Value → H) (F : Stop.Interp) :
    ReturnsInHanded {} Tryz.checked os 4 .any ((OpenSpec.ofChange Rows.printerExprsSpec).preRow enc Tryz.prog Tryz.f4 Rows.printerExprsRow.domain false Rows.printerExprsRow.laid) (((OpenSpec.ofChange Rows.printerExprsSpec).at F).post enc Tryz.prog Tryz.f4 false true false false) := by
  obtain ⟨places, hx⟩ := exprs_reads os enc
  refine returnsInHanded_of_row (C := Tryz.checked) (s := OpenSpec.ofChange Rows.printerExprsSpec) own0 started (by kernel_rfl) Tryz.func4
    (witness_row_atRef (enc := enc) (C := Tryz.checked) false (World.doorLaid Tryz.prog 100 os) #[.slice none 0 0] rfl (by kernel_rfl) (by kernel_rfl) (by kernel_rfl)
      (OpenSpec.preRow_of_cond 8 hx (by kernel_rfl) (fun k hk => by cases hk) (by kernel_rfl) (exprs_door os))) ?_
  intro W base args ds gs before hval hW _ _ _ hL _ _
  have hW' := hW
  obtain ⟨p, q, hA0, hV, rfl, hfz, hnd⟩ := hW
  have hA : DataW.TrodAll enc Tryz.prog W 0 (fun _ => true) true Tryz.f4.params.toList args.toList ds p := hA0
  rw [Tryz.params4] at hA hval
  obtain ⟨v0, vs0, d0, ds0, p0, q0, hargs, rfl, rfl, h0, r0⟩ := trodAll_cons hA
  obtain ⟨rfl, rfl, rfl⟩ := trodAll_nil r0
  obtain rfl : args = #[v0] := by cases args; simp_all
  obtain ⟨rfl, rfl⟩ := trodVars_none hV
  have k0 := h0
  obtain ⟨sa, sn, sc, rfl⟩ := okWide_slice Tryz.underlying43 (hval 0 43 v0 rfl rfl)
  have lt0 : ∀ x ∈ p0, x.block < W.heap.size := by obtain ⟨m, hm⟩ := k0; exact DataW.trod_lt m _ _ _ hm
  obtain ⟨n0, h0⟩ := h0
  obtain ⟨s0, ⟨zs, hz, hl, rfl⟩, a0⟩ := opn_ints (T := 43) (k := .i64) (by kernel_rfl) _ _ _ h0
  rw [MakeChecks.laidMetH_plain _ _ _ (by kernel_rfl)] at hL
  letI : Base := baseOf W
  haveI : Sent 0 := ⟨sent_head hL (by kernel_rfl) (by kernel_rfl)⟩
  have hp := exprs_pu zs hl
  have hc := calls_of (W := W) (vs := [.slice sa sn sc]) (Mem.le_refl _) hp ⟨a0.1.1, trivial⟩
  clear hA0 hval
  refine Calls.mono hc fun e W' ⟨he, bel⟩ => ?_
  subst he
  exact ⟨_, rfl, _, _, _, [], _, [], hW', trodAll_mk1 (shut_bool Tryz.underlying4 _), (trodAll_cons_mk (Below.trod laidOut0 (by kernel_rfl) (of_decide_eq_true (by kernel_rfl)) k0 bel lt0) trodAll_mk0), rfl, bel.frame _, fun h => by cases h⟩
set_option maxHeartbeats 40000000 in
theorem exprs_closed : joinedFacts Tryz.prog 4 Tryz.f4 (OpenSpec.ofChange Rows.printerExprsSpec).bare Rows.printerExprsRow = true := by
  unfold joinedFacts
  simp only [Bool.and_eq_true]
  repeat' apply And.intro
  all_goals (as_aux_lemma => kernel_rfl)
theorem printerExprs_said : Rows.PrinterExprsSaid :=
  OpenClaim.holds_of_cond 4 Tryz.f4 rfl rfl rfl rfl rfl rfl rfl ⟨rfl, rfl, rfl, rfl, rfl⟩ rfl rfl rfl rfl rfl (by kernel_rfl) Tryz.func4 exprs_closed
    (of_decide_eq_true (by kernel_rfl)) (by unfold Func.isWrapper; rw [if_neg (of_decide_eq_false (by kernel_rfl))]; exact ⟨rfl, rfl⟩)
    (fun os started H enc _ F => by rw [OpenClaim.pre_eq_preRow]; exact exprs_lifted os started H enc F)
theorem exprs_plain (f : FuncId) (fn : Func) (hf : Tryz.pinned.checked.prog.funcNamed "bspregion/bspregionlaw13.PrinterExprs" = some f) (hfn : Tryz.pinned.checked.prog.funcs[f]? = some fn) :
    true = Tryz.pinned.checked.prog.looks [] ∧ ∀ (j : Nat) t, fn.params[j]? = some t → Tryz.pinned.checked.prog.wantsStandIn t = false := by
  obtain rfl : f = 4 := Option.some.inj ((show Tryz.prog.funcNamed "bspregion/bspregionlaw13.PrinterExprs" = some 4 by kernel_rfl).symm.trans hf) |>.symm
  obtain rfl : fn = Tryz.f4 := (Option.some.inj (Tryz.func4.symm.trans hfn)).symm
  refine ⟨by kernel_rfl, fun j t ht => ?_⟩
  rw [Tryz.params4] at ht
  obtain rfl : t = 43 := by simpa using Array.mem_of_getElem? ht
  exact (show Tryz.prog.wantsStandIn 43 = false by kernel_rfl)
theorem printerExprs_holds : Rows.PrinterExprsCardSaid :=
  Claim7.holds_tied_plain_at .later [] _ _ _ _ printerExprs_said (fun _ h => by cases h) (by kernel_rfl) (fun _ h => by cases h) printerExprs_row_tie rfl ⟨rfl, rfl⟩ (by kernel_rfl) rfl exprs_plain (by kernel_rfl)
end Go.Proofs.YtghaepkgceaboaaGreatDoor
