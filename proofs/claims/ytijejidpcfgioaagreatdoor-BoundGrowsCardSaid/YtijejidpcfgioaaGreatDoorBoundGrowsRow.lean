/- BoundGrows: for every input the law returns true, and the arguments read afterwards as they read before; the card ties the listed variables to the program's text. No condition. -/
import Derived.Test.YtijejidpcfgioaaGreatDoorB29
import Derived.Test.YtijejidpcfgioaaGreatDoorB27
import Derived.Test.YtijejidpcfgioaaGreatDoorCards
import Derived.Test.YtijejidpcfgioaaGreatDoorTie
namespace Go.Proofs.YtijejidpcfgioaaGreatDoor
open Go.ChangeShapes Go.WideShapes Go.ChangeAt Go.RowKit Go.Ab
instance (priority := low) rowBase : Base := ⟨fun _ => none⟩
abbrev boundGrowsLaid : List (String × DataW Unit) := Rows.boundGrowsRow.laid
theorem boundGrows_door (os : Os) : laidMetH Tryz.prog boundGrowsLaid ((World.doorLaid Tryz.prog 400 os).forCall (fun _ _ => 0) ⟨#[], #[.slice none 0 0, .slice none 0 0, .int .u8 0], []⟩).memory :=
  laidMetH_of_parts3 (fuel := 8) (laidMet_of_run' 8 (by kernel_rfl) (by kernel_rfl)) (by kernel_rfl) (by kernel_rfl)
theorem boundGrows_reads (os : Os) {H : Type} (enc : TypeId × Value → H) : ∃ places, DataW.whole enc Tryz.prog ((World.doorLaid Tryz.prog 400 os).forCall (fun _ _ => 0) ⟨#[], #[.slice none 0 0, .slice none 0 0, .int .u8 0], []⟩).memory Tryz.f7.params.toList Rows.boundGrowsSpec.vars false (#[.slice none 0 0, .slice none 0 0, .int .u8 0] : Array Value).toList 8 = some ([.nil, .nil, .lit (.int .u8 0)], [], places) :=
  ⟨[], by kernel_rfl⟩
set_option maxRecDepth 100000 in
theorem boundGrows_lifted (os : Os) (started : os.Started) (H : Type) (enc : TypeId × Value → H) (F : Stop.Interp) :
    ReturnsInHanded {} Tryz.checked os 7 .any ((OpenSpec.ofChange Rows.boundGrowsSpec).preRow enc Tryz.prog Tryz.f7 Rows.boundGrowsRow.domain false Rows.boundGrowsRow.laid) (((OpenSpec.ofChange Rows.boundGrowsSpec).at F).post enc Tryz.prog Tryz.f7 false true false false) := by
  obtain ⟨places, hx⟩ := boundGrows_reads os enc
  refine returnsInHanded_of_row (C := Tryz.checked) (s := OpenSpec.ofChange Rows.boundGrowsSpec) own0 started (by kernel_rfl) Tryz.func7
    (witness_row_atRef (enc := enc) (C := Tryz.checked) false (World.doorLaid Tryz.prog 400 os) #[.slice none 0 0, .slice none 0 0, .int .u8 0] rfl (by kernel_rfl) (by kernel_rfl) (by kernel_rfl)
      (OpenSpec.preRow_of_cond 8 hx (by kernel_rfl) (fun k hk => by cases hk) (by kernel_rfl) (boundGrows_door os))) ?_
  intro W base args ds gs before hval hW _ _ _ hL _ _
  have hW' := hW
  obtain ⟨p, q, hA0, hV, rfl, hfz, hnd⟩ := hW
  have hA : DataW.TrodAll enc Tryz.prog W 0 (fun _ => true) true Tryz.f7.params.toList args.toList ds p := hA0
  rw [Tryz.params7] at hA hval
  obtain ⟨v0, vs0, d0, ds0, p0, q0, hargs, rfl, rfl, h0, r0⟩ := trodAll_cons hA
  obtain ⟨v1, vs1, d1, ds1, p1, q1, rfl, rfl, rfl, h1, r1⟩ := trodAll_cons r0
  obtain ⟨v2, vs2, d2, ds2, p2, q2, rfl, rfl, rfl, h2, r2⟩ := trodAll_cons r1
  obtain ⟨rfl, rfl, rfl⟩ := trodAll_nil r2
  obtain rfl : args = #[v0, v1, v2] := by cases args; simp_all
  obtain ⟨rfl, rfl⟩ := trodVars_none hV
  have k0 := h0
  obtain ⟨sa0, sn0, sc0, rfl⟩ := okWide_slice Tryz.underlying42 (hval 0 42 v0 rfl rfl)
  have lt0 : ∀ x ∈ p0, x.block < W.heap.size := by obtain ⟨m, hm⟩ := k0; exact DataW.trod_lt m _ _ _ hm
  obtain ⟨n0, h0⟩ := h0
  obtain ⟨s0, ⟨zs0, hz0, hl0, rfl⟩, a0⟩ := opn_ints (T := 42) (k := .i64) (by kernel_rfl) _ _ _ h0
  have k1 := h1
  obtain ⟨sa1, sn1, sc1, rfl⟩ := okWide_slice Tryz.underlying42 (hval 1 42 v1 rfl rfl)
  have lt1 : ∀ x ∈ p1, x.block < W.heap.size := by obtain ⟨m, hm⟩ := k1; exact DataW.trod_lt m _ _ _ hm
  obtain ⟨n1, h1⟩ := h1
  obtain ⟨s1, ⟨zs1, hz1, hl1, rfl⟩, a1⟩ := opn_ints (T := 42) (k := .i64) (by kernel_rfl) _ _ _ h1
  have k2 := h2
  obtain ⟨y2, rfl⟩ := okWide_int Tryz.underlying5 (hval 2 5 v2 rfl rfl)
  have lt2 : ∀ x ∈ p2, x.block < W.heap.size := by obtain ⟨m, hm⟩ := k2; exact DataW.trod_lt m _ _ _ hm
  obtain ⟨n2, h2⟩ := h2
  obtain ⟨s2, g2, a2⟩ := opn_int (T := 5) (k := .u8) _ _ _ h2
  obtain ⟨z2, hz2, rfl⟩ := gint_u8 g2
  rw [MakeChecks.laidMetH_plain _ _ _ (by kernel_rfl)] at hL
  letI : Base := baseOf W
  haveI : Sent 0 := ⟨sent_head hL (by kernel_rfl) (by kernel_rfl)⟩
  haveI : Sent 1 := ⟨sent_head hL.tail.tail (by kernel_rfl) (by kernel_rfl)⟩
  haveI : Sent 5 := ⟨sent_head hL.tail (by kernel_rfl) (by kernel_rfl)⟩
  haveI : Sent 4 := ⟨sent_head hL.tail.tail.tail (by kernel_rfl) (by kernel_rfl)⟩
  have hp := bgrows_pu zs0 hl0 zs1 (ints_i64 hz1) hl1 z2 hz2
  have hc := calls_of (W := W) (vs := [.slice sa0 sn0 sc0, .slice sa1 sn1 sc1, .int .u8 y2]) (Mem.le_refl _) hp ⟨a0.1.1, a1.1.1, a2.1.1, trivial⟩
  clear hA0 hval
  refine Calls.mono hc fun e W' ⟨he, bel⟩ => ?_
  subst he
  exact ⟨_, rfl, _, _, _, [], _, [], hW', trodAll_mk1 (shut_bool Tryz.underlying4 _), (trodAll_cons_mk (Below.trod laidOut0 (by kernel_rfl) (of_decide_eq_true (by kernel_rfl)) k0 bel lt0) (trodAll_cons_mk (Below.trod laidOut0 (by kernel_rfl) (of_decide_eq_true (by kernel_rfl)) k1 bel lt1) (trodAll_cons_mk (Below.trod laidOut0 (by kernel_rfl) (of_decide_eq_true (by kernel_rfl)) k2 bel lt2) trodAll_mk0))), rfl, bel.frame _, fun h => by cases h⟩
set_option maxHeartbeats 40000000 in
theorem boundGrows_closed : joinedFacts Tryz.prog 7 Tryz.f7 (OpenSpec.ofChange Rows.boundGrowsSpec).bare Rows.boundGrowsRow = true := by
  unfold joinedFacts
  simp only [Bool.and_eq_true]
  repeat' apply And.intro
  all_goals (as_aux_lemma => kernel_rfl)
theorem boundGrows_said : Rows.BoundGrowsSaid :=
  OpenClaim.holds_of_cond 7 Tryz.f7 rfl rfl rfl rfl rfl rfl rfl ⟨rfl, rfl, rfl, rfl, rfl⟩ rfl rfl rfl rfl rfl (by kernel_rfl) Tryz.func7 boundGrows_closed
    (of_decide_eq_true (by kernel_rfl)) (by unfold Func.isWrapper; rw [if_neg (of_decide_eq_false (by kernel_rfl))]; exact ⟨rfl, rfl⟩)
    (fun os started H enc _ F => by rw [OpenClaim.pre_eq_preRow]; exact boundGrows_lifted os started H enc F)
theorem boundGrows_plain (f : FuncId) (fn : Func) (hf : Tryz.pinned.checked.prog.funcNamed "bspregion/bspregionlaw31.BoundGrows" = some f) (hfn : Tryz.pinned.checked.prog.funcs[f]? = some fn) :
    true = Tryz.pinned.checked.prog.looks [] ∧ ∀ (j : Nat) t, fn.params[j]? = some t → Tryz.pinned.checked.prog.wantsStandIn t = false := by
  obtain rfl : f = 7 := Option.some.inj ((show Tryz.prog.funcNamed "bspregion/bspregionlaw31.BoundGrows" = some 7 by kernel_rfl).symm.trans hf) |>.symm
  obtain rfl : fn = Tryz.f7 := (Option.some.inj (Tryz.func7.symm.trans hfn)).symm
  refine ⟨by kernel_rfl, fun j t ht => ?_⟩
  rw [Tryz.params7] at ht
  have ht : t = 42 ∨ t = 42 ∨ t = 5 := by simpa using Array.mem_of_getElem? ht
  rcases ht with rfl | rfl | rfl
  · exact (show Tryz.prog.wantsStandIn 42 = false by kernel_rfl)
  · exact (show Tryz.prog.wantsStandIn 42 = false by kernel_rfl)
  · exact (show Tryz.prog.wantsStandIn 5 = false by kernel_rfl)
theorem boundGrows_holds : Rows.BoundGrowsCardSaid :=
  Claim7.holds_tied_plain_at .later [] _ _ _ _ boundGrows_said (fun _ h => by cases h) (by kernel_rfl) (fun _ h => by cases h) boundGrows_row_tie rfl ⟨rfl, rfl⟩ (by kernel_rfl) rfl boundGrows_plain (by kernel_rfl)
end Go.Proofs.YtijejidpcfgioaaGreatDoor
