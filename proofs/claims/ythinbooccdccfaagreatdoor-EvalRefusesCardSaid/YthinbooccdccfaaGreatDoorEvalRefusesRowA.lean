/- EvalRefuses: for every input the law returns true, and the arguments read afterwards as they read before; the card ties the listed variables to the program's text. No condition. -/
import Derived.Test.YthinbooccdccfaaGreatDoorB33
import Derived.Test.YthinbooccdccfaaGreatDoorCards
import Derived.Test.YthinbooccdccfaaGreatDoorTie
set_option linter.unusedSectionVars false
set_option linter.unusedVariables false
set_option linter.unusedSimpArgs false
namespace Go.Proofs.YthinbooccdccfaaGreatDoor
open Go.ChangeShapes Go.WideShapes Go.ChangeAt Go.RowKit Go.Ab
instance (priority := low) rowBase : Base := ⟨fun _ => none⟩
abbrev evalRefusesLaid : List (String × DataW Unit) := Rows.evalRefusesRow.laid
theorem evalRefuses_door (os : Os) : laidMetH Tryz.prog evalRefusesLaid ((World.doorLaid Tryz.prog 400 os).forCall (fun _ _ => 0) ⟨#[], #[.slice none 0 0, .bool false, .bool false], []⟩).memory :=
  laidMetH_of_parts3 (fuel := 8) (laidMet_of_run' 8 (by kernel_rfl) (by kernel_rfl)) (by kernel_rfl) (by kernel_rfl)
theorem evalRefuses_reads (os : Os) {H : Type} (enc : TypeId × Value → H) : ∃ places, DataW.whole enc Tryz.prog ((World.doorLaid Tryz.prog 400 os).forCall (fun _ _ => 0) ⟨#[], #[.slice none 0 0, .bool false, .bool false], []⟩).memory Tryz.f3.params.toList Rows.evalRefusesSpec.vars false (#[.slice none 0 0, .bool false, .bool false] : Array Value).toList 8 = some ([.nil, .lit (.bool false), .lit (.bool false)], [], places) :=
  ⟨[], by kernel_rfl⟩
theorem er_pick_n : evalRefusesLaid.filter (fun e => e.1 == "bspregion/api.ErrInvalid" || e.1 == "bspregion/api.ErrName") = [("bspregion/api.ErrInvalid", Rows.laid_bspregion_api_ErrInvalid), ("bspregion/api.ErrName", Rows.laid_bspregion_api_ErrName)] := by kernel_rfl
theorem er_pick_r : evalRefusesLaid.filter (fun e => e.1 == "bspregion/api.ErrInvalid" || e.1 == "bspregion/api.ErrRange") = [("bspregion/api.ErrInvalid", Rows.laid_bspregion_api_ErrInvalid), ("bspregion/api.ErrRange", Rows.laid_bspregion_api_ErrRange)] := by kernel_rfl
theorem er_pick_b : evalRefusesLaid.filter (fun e => e.1 == "bspregion/api.ErrInvalid" || e.1 == "bspregion/api.ErrBudget") = [("bspregion/api.ErrInvalid", Rows.laid_bspregion_api_ErrInvalid), ("bspregion/api.ErrBudget", Rows.laid_bspregion_api_ErrBudget)] := by kernel_rfl
theorem er_kinds {W : World} (hL : laidMet Tryz.prog evalRefusesLaid W) : @Kinds (baseOf W) 0 1 2 3 := by
  have hn := laidMet.filter (fun e => e.1 == "bspregion/api.ErrInvalid" || e.1 == "bspregion/api.ErrName") hL
  have hr := laidMet.filter (fun e => e.1 == "bspregion/api.ErrInvalid" || e.1 == "bspregion/api.ErrRange") hL
  have hb := laidMet.filter (fun e => e.1 == "bspregion/api.ErrInvalid" || e.1 == "bspregion/api.ErrBudget") hL
  rw [er_pick_n] at hn
  rw [er_pick_r] at hr
  rw [er_pick_b] at hb
  exact @Kinds.mk (baseOf W) _ _ _ _ (dis_pair hn (by kernel_rfl) (by kernel_rfl) (by kernel_rfl) (by kernel_rfl)) (dis_pair hr (by kernel_rfl) (by kernel_rfl) (by kernel_rfl) (by kernel_rfl)) (dis_pair hb (by kernel_rfl) (by kernel_rfl) (by kernel_rfl) (by kernel_rfl))
set_option maxRecDepth 100000 in
theorem evalRefuses_lifted (os : Os) (started : os.Started) (H : Type) (enc : TypeId × Value → H) (F : Stop.Interp) :
    ReturnsInHanded {} Tryz.checked os 3 .any ((OpenSpec.ofChange Rows.evalRefusesSpec).preRow enc Tryz.prog Tryz.f3 Rows.evalRefusesRow.domain false Rows.evalRefusesRow.laid) (((OpenSpec.ofChange Rows.evalRefusesSpec).at F).post enc Tryz.prog Tryz.f3 false true false false) := by
  obtain ⟨places, hx⟩ := evalRefuses_reads os enc
  refine returnsInHanded_of_row (C := Tryz.checked) (s := OpenSpec.ofChange Rows.evalRefusesSpec) own0 started (by kernel_rfl) Tryz.func3
    (witness_row_atRef (enc := enc) (C := Tryz.checked) false (World.doorLaid Tryz.prog 400 os) #[.slice none 0 0, .bool false, .bool false] rfl (by kernel_rfl) (by kernel_rfl) (by kernel_rfl)
      (OpenSpec.preRow_of_cond 8 hx (by kernel_rfl) (fun k hk => by cases hk) (by kernel_rfl) (evalRefuses_door os))) ?_
  intro W base args ds gs before hval hW _ _ _ hL _ _
  have hW' := hW
  obtain ⟨p, q, hA0, hV, rfl, hfz, hnd⟩ := hW
  have hA : DataW.TrodAll enc Tryz.prog W 0 (fun _ => true) true Tryz.f3.params.toList args.toList ds p := hA0
  rw [Tryz.params3] at hA hval
  obtain ⟨v0, vs0, d0, ds0, p0, q0, hargs, rfl, rfl, h0, r0⟩ := trodAll_cons hA
  obtain ⟨v1, vs1, d1, ds1, p1, q1, rfl, rfl, rfl, h1, r1⟩ := trodAll_cons r0
  obtain ⟨v2, vs2, d2, ds2, p2, q2, rfl, rfl, rfl, h2, r2⟩ := trodAll_cons r1
  obtain ⟨rfl, rfl, rfl⟩ := trodAll_nil r2
  obtain rfl : args = #[v0, v1, v2] := by cases args; simp_all
  obtain ⟨rfl, rfl⟩ := trodVars_none hV
  have k0 := h0
  obtain ⟨sa0, sn0, sc0, rfl⟩ := okWide_slice Tryz.underlying22 (hval 0 22 v0 rfl rfl)
  have lt0 : ∀ x ∈ p0, x.block < W.heap.size := by obtain ⟨m, hm⟩ := k0; exact DataW.trod_lt m _ _ _ hm
  obtain ⟨n0, h0⟩ := h0
  obtain ⟨s0, g0, a0⟩ := opn_exprs _ _ _ h0
  obtain ⟨ns0, hraw0, hlen0, rfl⟩ := gsl_exprs g0
  have k1 := h1
  obtain ⟨y1, rfl⟩ := okWide_bool Tryz.underlying4 (hval 1 4 v1 rfl rfl)
  have lt1 : ∀ x ∈ p1, x.block < W.heap.size := by obtain ⟨m, hm⟩ := k1; exact DataW.trod_lt m _ _ _ hm
  obtain ⟨n1, h1⟩ := h1
  obtain ⟨s1, ⟨b1, rfl⟩, a1⟩ := opn_bool (T := 4) _ _ _ h1
  have k2 := h2
  obtain ⟨y2, rfl⟩ := okWide_bool Tryz.underlying4 (hval 2 4 v2 rfl rfl)
  have lt2 : ∀ x ∈ p2, x.block < W.heap.size := by obtain ⟨m, hm⟩ := k2; exact DataW.trod_lt m _ _ _ hm
  obtain ⟨n2, h2⟩ := h2
  obtain ⟨s2, ⟨b2, rfl⟩, a2⟩ := opn_bool (T := 4) _ _ _ h2
  rw [MakeChecks.laidMetH_plain _ _ _ (by kernel_rfl)] at hL
  letI : Base := baseOf W
  haveI : Sent 0 := ⟨sent_head hL (by kernel_rfl) (by kernel_rfl)⟩
  haveI : Sent 1 := ⟨sent_head hL.tail.tail (by kernel_rfl) (by kernel_rfl)⟩
  haveI : Sent 5 := ⟨sent_head hL.tail (by kernel_rfl) (by kernel_rfl)⟩
  haveI : Sent 6 := ⟨sent_head hL.tail.tail.tail.tail (by kernel_rfl) (by kernel_rfl)⟩
  haveI : Sent 2 := ⟨sent_head hL.tail.tail.tail.tail.tail (by kernel_rfl) (by kernel_rfl)⟩
  haveI : Sent 3 := ⟨sent_head hL.tail.tail.tail (by kernel_rfl) (by kernel_rfl)⟩
  haveI : Kinds 0 1 2 3 := er_kinds hL
  have hp := erefuses_pu ns0 hlen0 (fun n hn => (hraw0 n hn).1) (fun n hn => (hraw0 n hn).2.1) b1 b2
  have hc := calls_of (W := W) (vs := [.slice sa0 sn0 sc0, .bool y1, .bool y2]) (Mem.le_refl _) hp ⟨a0.1.1, a1.1.1, a2.1.1, trivial⟩
  clear hA0 hval
  refine Calls.mono hc fun e W' ⟨he, bel⟩ => ?_
  subst he
  exact ⟨_, rfl, _, _, _, [], _, [], hW', trodAll_mk1 (shut_bool Tryz.underlying4 _), (trodAll_cons_mk (Below.trod laidOut0 (by kernel_rfl) (of_decide_eq_true (by kernel_rfl)) k0 bel lt0) (trodAll_cons_mk (Below.trod laidOut0 (by kernel_rfl) (of_decide_eq_true (by kernel_rfl)) k1 bel lt1) (trodAll_cons_mk (Below.trod laidOut0 (by kernel_rfl) (of_decide_eq_true (by kernel_rfl)) k2 bel lt2) trodAll_mk0))), rfl, bel.frame _, fun h => by cases h⟩
end Go.Proofs.YthinbooccdccfaaGreatDoor
