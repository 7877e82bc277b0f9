/- AffineRefuses: for every input the law returns true, and the arguments read afterwards as they read before; the card ties the listed variables to the program's text. No condition. -/
import Derived.Test.YtjdnfbhbdfokcaaGreatDoorB22
import Derived.Test.YtjdnfbhbdfokcaaGreatDoorLaidT
import Derived.Test.YtjdnfbhbdfokcaaGreatDoorCards
import Derived.Test.YtjdnfbhbdfokcaaGreatDoorTie
set_option linter.unusedSectionVars false
set_option linter.unusedVariables false
set_option linter.unusedSimpArgs false
namespace Go.Proofs.YtjdnfbhbdfokcaaGreatDoor
open Go.ChangeShapes Go.WideShapes Go.ChangeAt Go.RowKit Go.Ab
instance (priority := low) rowBase : Base := ⟨fun _ => none⟩
abbrev affineRefusesLaid : List (String × DataW Unit) := Rows.affineRefusesRow.laid
theorem affineRefuses_door (os : Os) : laidMetH Tryz.prog affineRefusesLaid ((World.doorLaid Tryz.prog 400 os).forCall (fun _ _ => 0) ⟨#[], #[.slice none 0 0, .agg #[.bool false, .slice none 0 0, .bool false, .slice none 0 0, .bool false, .slice none 0 0], .bool false], []⟩).memory :=
  laidMetH_of_parts3 (fuel := 8) (laidMet_of_run' 8 (by kernel_rfl) (by kernel_rfl)) (by kernel_rfl) (by kernel_rfl)
theorem affineRefuses_reads (os : Os) {H : Type} (enc : TypeId × Value → H) : ∃ places, DataW.whole enc Tryz.prog ((World.doorLaid Tryz.prog 400 os).forCall (fun _ _ => 0) ⟨#[], #[.slice none 0 0, .agg #[.bool false, .slice none 0 0, .bool false, .slice none 0 0, .bool false, .slice none 0 0], .bool false], []⟩).memory Tryz.f3.params.toList Rows.affineRefusesSpec.vars false (#[.slice none 0 0, .agg #[.bool false, .slice none 0 0, .bool false, .slice none 0 0, .bool false, .slice none 0 0], .bool false] : Array Value).toList 8 = some ([.nil, .agg [.agg [.lit (.bool false), .nil], .agg [.lit (.bool false), .nil], .agg [.lit (.bool false), .nil]], .lit (.bool false)], [], places) :=
  ⟨[], by kernel_rfl⟩
set_option maxRecDepth 100000 in
theorem affineRefuses_lifted (os : Os) (started : os.Started) (H : Type) (enc : TypeId × Value → H) (F : Stop.Interp) :
    ReturnsInHanded {} Tryz.checked os 3 .any ((OpenSpec.ofChange Rows.affineRefusesSpec).preRow enc Tryz.prog Tryz.f3 Rows.affineRefusesRow.domain false Rows.affineRefusesRow.laid) (((OpenSpec.ofChange Rows.affineRefusesSpec).at F).post enc Tryz.prog Tryz.f3 false true false false) := by
  obtain ⟨places, hx⟩ := affineRefuses_reads os enc
  refine returnsInHanded_of_row (C := Tryz.checked) (s := OpenSpec.ofChange Rows.affineRefusesSpec) own0 started (by kernel_rfl) Tryz.func3
    (witness_row_atRef (enc := enc) (C := Tryz.checked) false (World.doorLaid Tryz.prog 400 os) #[.slice none 0 0, .agg #[.bool false, .slice none 0 0, .bool false, .slice none 0 0, .bool false, .slice none 0 0], .bool false] rfl (by kernel_rfl) (by kernel_rfl) (by kernel_rfl)
      (OpenSpec.preRow_of_cond 8 hx (by kernel_rfl) (fun k hk => by cases hk) (by kernel_rfl) (affineRefuses_door os))) ?_
  intro W base args ds gs before hval hW _ _ _ hL _ _
  have hW' := hW
  obtain ⟨p, q, hA0, hV, rfl, hfz, hnd⟩ := hW
  have hA : DataW.TrodAll enc Tryz.prog W 0 (fun _ => true) true Tryz.f3.params.toList args.toList ds p := hA0
  rw [Tryz.params3] at hA hval
  obtain ⟨v0, vs0, d0, ds0, p0, q0, hargs, rfl, rfl, h0, r0⟩ := trodAll_cons hA
  obtain ⟨v1, vs1, d1, ds1, p1, q1, rfl, rfl, rfl, h1, r1⟩ := trodAll_cons r0
  obtain ⟨v2, vs2, d2, ds2, p2, q2, rfl, rfl, rfl, h2, r2⟩ := trodAll_cons r1
  obtain ⟨rfl, rfl, rfl⟩ := trodAll_nil r2
  obtain rfl : args = #[v0, v1, v2] := by cases args; simp_all
  obtain ⟨rfl, rfl⟩ := trodVars_none hV
  have k0 := h0
  obtain ⟨sa0, sn0, sc0, rfl⟩ := okWide_slice Tryz.underlying23 (hval 0 23 v0 rfl rfl)
  have lt0 : ∀ x ∈ p0, x.block < W.heap.size := by obtain ⟨m, hm⟩ := k0; exact DataW.trod_lt m _ _ _ hm
  obtain ⟨n0, h0⟩ := h0
  obtain ⟨s0, g0, a0⟩ := opn_ring _ _ _ h0
  obtain ⟨ps0, hD0, hlen0, rfl⟩ := gsl_ring g0
  have k1 := h1
  have lt1 : ∀ x ∈ p1, x.block < W.heap.size := by obtain ⟨m, hm⟩ := k1; exact DataW.trod_lt m _ _ _ hm
  obtain ⟨n1, h1⟩ := h1
  obtain ⟨s1, g1, a1⟩ := opn_line _ _ _ h1
  obtain ⟨rl1, dx1, dy1, dz1, rfl⟩ := cat_line g1
  have k2 := h2
  obtain ⟨y2, rfl⟩ := okWide_bool Tryz.underlying4 (hval 2 4 v2 rfl rfl)
  have lt2 : ∀ x ∈ p2, x.block < W.heap.size := by obtain ⟨m, hm⟩ := k2; exact DataW.trod_lt m _ _ _ hm
  obtain ⟨n2, h2⟩ := h2
  obtain ⟨s2, ⟨b2, rfl⟩, a2⟩ := opn_bool (T := 4) _ _ _ h2
  rw [MakeChecks.laidMetH_plain _ _ _ (by kernel_rfl)] at hL
  letI : Base := baseOf W
  haveI : PowTab := ⟨pow_head hL.tail.tail (by kernel_rfl)⟩
  haveI : Sent 0 := ⟨sent_head hL.tail.tail.tail (by kernel_rfl) (by kernel_rfl)⟩
  haveI : Sent 3 := ⟨sent_head hL.tail.tail.tail.tail (by kernel_rfl) (by kernel_rfl)⟩
  haveI : Sent 1 := ⟨sent_head hL.tail.tail.tail.tail.tail (by kernel_rfl) (by kernel_rfl)⟩
  have hp := refuses26_pu ps0 hlen0 hD0 rl1 dx1 dy1 dz1 b2
  have hc := calls_of (W := W) (vs := [.slice sa0 sn0 sc0, v1, .bool y2]) (Mem.le_refl _) hp ⟨a0.1.1, agg_of a1 (by simp), a2.1.1, trivial⟩
  clear hA0 hval
  refine Calls.mono hc fun e W' ⟨he, bel⟩ => ?_
  subst he
  exact ⟨_, rfl, _, _, _, [], _, [], hW', trodAll_mk1 (shut_bool Tryz.underlying4 _), (trodAll_cons_mk (Below.trod laidOut0 (by kernel_rfl) (of_decide_eq_true (by kernel_rfl)) k0 bel lt0) (trodAll_cons_mk (Below.trod laidOut0 (by kernel_rfl) (of_decide_eq_true (by kernel_rfl)) k1 bel lt1) (trodAll_cons_mk (Below.trod laidOut0 (by kernel_rfl) (of_decide_eq_true (by kernel_rfl)) k2 bel lt2) trodAll_mk0))), rfl, bel.frame _, fun h => by cases h⟩
set_option maxHeartbeats 40000000 in
theorem affineRefuses_closed : joinedFacts Tryz.prog 3 Tryz.f3 (OpenSpec.ofChange Rows.affineRefusesSpec).bare Rows.affineRefusesRow = true := by
  unfold joinedFacts
  simp only [Bool.and_eq_true]
  repeat' apply And.intro
  all_goals (as_aux_lemma => kernel_rfl)
theorem affineRefuses_said : Rows.AffineRefusesSaid :=
  OpenClaim.holds_of_cond 3 Tryz.f3 rfl rfl rfl rfl rfl rfl rfl ⟨rfl, rfl, rfl, rfl, rfl⟩ rfl rfl rfl rfl rfl (by kernel_rfl) Tryz.func3 affineRefuses_closed
    (of_decide_eq_true (by kernel_rfl)) (by unfold Func.isWrapper; rw [if_neg (of_decide_eq_false (by kernel_rfl))]; exact ⟨rfl, rfl⟩)
    (fun os started H enc _ F => by rw [OpenClaim.pre_eq_preRow]; exact affineRefuses_lifted os started H enc F)
theorem affineRefuses_plain (f : FuncId) (fn : Func) (hf : Tryz.pinned.checked.prog.funcNamed "bspregion/bspregionlaw26.AffineRefuses" = some f) (hfn : Tryz.pinned.checked.prog.funcs[f]? = some fn) :
    true = Tryz.pinned.checked.prog.looks [] ∧ ∀ (j : Nat) t, fn.params[j]? = some t → Tryz.pinned.checked.prog.wantsStandIn t = false := by
  obtain rfl : f = 3 := Option.some.inj ((show Tryz.prog.funcNamed "bspregion/bspregionlaw26.AffineRefuses" = some 3 by kernel_rfl).symm.trans hf) |>.symm
  obtain rfl : fn = Tryz.f3 := (Option.some.inj (Tryz.func3.symm.trans hfn)).symm
  refine ⟨by kernel_rfl, fun j t ht => ?_⟩
  rw [Tryz.params3] at ht
  have ht : t = 23 ∨ t = 29 ∨ t = 4 := by simpa using Array.mem_of_getElem? ht
  rcases ht with rfl | rfl | rfl
  · exact (show Tryz.prog.wantsStandIn 23 = false by kernel_rfl)
  · exact (show Tryz.prog.wantsStandIn 29 = false by kernel_rfl)
  · exact (show Tryz.prog.wantsStandIn 4 = false by kernel_rfl)
theorem affineRefuses_holds : Rows.AffineRefusesCardSaid :=
  Claim7.holds_tied_plain_at .later [] _ _ _ _ affineRefuses_said (fun _ h => by cases h) (by kernel_rfl) (fun _ h => by cases h) affineRefuses_row_tie rfl ⟨rfl, rfl⟩ (by kernel_rfl) rfl affineRefuses_plain (by kernel_rfl)
end Go.Proofs.YtjdnfbhbdfokcaaGreatDoor
