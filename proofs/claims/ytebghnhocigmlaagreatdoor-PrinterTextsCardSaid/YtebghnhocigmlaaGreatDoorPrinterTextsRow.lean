/- PrinterTexts: for every input the law returns true, and the arguments read afterwards as they read before; the card ties the listed variables to the program's text. No condition. -/
import Derived.Test.YtebghnhocigmlaaGreatDoorB20
import Derived.Test.YtebghnhocigmlaaGreatDoorLaidT
import Derived.Test.YtebghnhocigmlaaGreatDoorCards
import Derived.Test.YtebghnhocigmlaaGreatDoorTie
set_option linter.unusedSectionVars false
set_option linter.unusedVariables false
set_option linter.unusedSimpArgs false
namespace Go.Proofs.YtebghnhocigmlaaGreatDoor
open Go.ChangeShapes Go.WideShapes Go.ChangeAt Go.RowKit Go.Ab
instance (priority := low) rowBase : Base := ⟨fun _ => none⟩
abbrev printerTextsLaid : List (String × DataW Unit) := Rows.printerTextsRow.laid
theorem printerTexts_door (os : Os) : laidMetH Tryz.prog printerTextsLaid ((World.doorLaid Tryz.prog 400 os).forCall (fun _ _ => 0) ⟨#[], #[.string ⟨#[]⟩], []⟩).memory :=
  laidMetH_of_parts3 (fuel := 8) (laidMet_of_run' 8 (by kernel_rfl) (by kernel_rfl)) (by kernel_rfl) (by kernel_rfl)
theorem printerTexts_reads (os : Os) {H : Type} (enc : TypeId × Value → H) : ∃ places, DataW.whole enc Tryz.prog ((World.doorLaid Tryz.prog 400 os).forCall (fun _ _ => 0) ⟨#[], #[.string ⟨#[]⟩], []⟩).memory Tryz.f5.params.toList Rows.printerTextsSpec.vars false (#[.string ⟨#[]⟩] : Array Value).toList 8 = some ([.lit (.string [])], [], places) :=
  ⟨[], by kernel_rfl⟩
set_option maxRecDepth 100000 in
theorem printerTexts_lifted (os : Os) (started : os.Started) (H : Type) (enc : TypeId × Value → H) (F : Stop.Interp) :
    ReturnsInHanded {} Tryz.checked os 5 .any ((OpenSpec.ofChange Rows.printerTextsSpec).preRow enc Tryz.prog Tryz.f5 Rows.printerTextsRow.domain false Rows.printerTextsRow.laid) (((OpenSpec.ofChange Rows.printerTextsSpec).at F).post enc Tryz.prog Tryz.f5 false true false false) := by
  obtain ⟨places, hx⟩ := printerTexts_reads os enc
  refine returnsInHanded_of_row (C := Tryz.checked) (s := OpenSpec.ofChange Rows.printerTextsSpec) own0 started (by kernel_rfl) Tryz.func5
    (witness_row_atRef (enc := enc) (C := Tryz.checked) false (World.doorLaid Tryz.prog 400 os) #[.string ⟨#[]⟩] rfl (by kernel_rfl) (by kernel_rfl) (by kernel_rfl)
      (OpenSpec.preRow_of_cond 8 hx (by kernel_rfl) (fun k hk => by cases hk) (by kernel_rfl) (printerTexts_door os))) ?_
  intro W base args ds gs before hval hW _ _ _ hL _ _
  have hW' := hW
  obtain ⟨p, q, hA0, hV, rfl, hfz, hnd⟩ := hW
  have hA : DataW.TrodAll enc Tryz.prog W 0 (fun _ => true) true Tryz.f5.params.toList args.toList ds p := hA0
  rw [Tryz.params5] at hA hval
  obtain ⟨v0, vs0, d0, ds0, p0, q0, hargs, rfl, rfl, h0, r0⟩ := trodAll_cons hA
  obtain ⟨rfl, rfl, rfl⟩ := trodAll_nil r0
  obtain rfl : args = #[v0] := by cases args; simp_all
  obtain ⟨rfl, rfl⟩ := trodVars_none hV
  have k0 := h0
  obtain ⟨y0, rfl⟩ := okWide_string Tryz.underlying9 (hval 0 9 v0 rfl rfl)
  have lt0 : ∀ x ∈ p0, x.block < W.heap.size := by obtain ⟨m, hm⟩ := k0; exact DataW.trod_lt m _ _ _ hm
  obtain ⟨n0, h0⟩ := h0
  obtain ⟨s0, g0, a0⟩ := opn_str (T := 9) _ _ _ h0
  obtain ⟨l0, hl0, rfl⟩ := gstr_l g0
  rw [MakeChecks.laidMetH_plain _ _ _ (by kernel_rfl)] at hL
  letI : Base := baseOf W
  haveI : Sent 2 := ⟨sent_head hL.tail.tail.tail (by kernel_rfl) (by kernel_rfl)⟩
  haveI : Sent 4 := ⟨sent_head hL.tail.tail.tail.tail (by kernel_rfl) (by kernel_rfl)⟩
  haveI : Sent 3 := ⟨sent_head hL.tail.tail.tail.tail.tail (by kernel_rfl) (by kernel_rfl)⟩
  haveI : Sent 5 := ⟨sent_head hL.tail.tail.tail.tail.tail.tail (by kernel_rfl) (by kernel_rfl)⟩
  haveI : Sent 7 := ⟨sent_head hL.tail.tail.tail.tail.tail.tail.tail (by kernel_rfl) (by kernel_rfl)⟩
  haveI : PowTab := ⟨pow_head hL.tail.tail (by kernel_rfl)⟩
  have hp := ptexts_pu l0 hl0
  have hc := calls_of (W := W) (vs := [.string y0]) (Mem.le_refl _) hp ⟨a0.1.1, trivial⟩
  clear hA0 hval
  refine Calls.mono hc fun e W' ⟨he, bel⟩ => ?_
  subst he
  exact ⟨_, rfl, _, _, _, [], _, [], hW', trodAll_mk1 (shut_bool Tryz.underlying4 _), (trodAll_cons_mk (Below.trod laidOut0 (by kernel_rfl) (of_decide_eq_true (by kernel_rfl)) k0 bel lt0) trodAll_mk0), rfl, bel.frame _, fun h => by cases h⟩
set_option maxHeartbeats 40000000 in
theorem printerTexts_closed : joinedFacts Tryz.prog 5 Tryz.f5 (OpenSpec.ofChange Rows.printerTextsSpec).bare Rows.printerTextsRow = true := by
  unfold joinedFacts
  simp only [Bool.and_eq_true]
  repeat' apply And.intro
  all_goals (as_aux_lemma => kernel_rfl)
theorem printerTexts_said : Rows.PrinterTextsSaid :=
  OpenClaim.holds_of_cond 5 Tryz.f5 rfl rfl rfl rfl rfl rfl rfl ⟨rfl, rfl, rfl, rfl, rfl⟩ rfl rfl rfl rfl rfl (by kernel_rfl) Tryz.func5 printerTexts_closed
    (of_decide_eq_true (by kernel_rfl)) (by unfold Func.isWrapper; rw [if_neg (of_decide_eq_false (by kernel_rfl))]; exact ⟨rfl, rfl⟩)
    (fun os started H enc _ F => by rw [OpenClaim.pre_eq_preRow]; exact printerTexts_lifted os started H enc F)
theorem printerTexts_plain (f : FuncId) (fn : Func) (hf : Tryz.pinned.checked.prog.funcNamed "bspregion/bspregionlaw13.PrinterTexts" = some f) (hfn : Tryz.pinned.checked.prog.funcs[f]? = some fn) :
    true = Tryz.pinned.checked.prog.looks [] ∧ ∀ (j : Nat) t, fn.params[j]? = some t → Tryz.pinned.checked.prog.wantsStandIn t = false := by
  obtain rfl : f = 5 := Option.some.inj ((show Tryz.prog.funcNamed "bspregion/bspregionlaw13.PrinterTexts" = some 5 by kernel_rfl).symm.trans hf) |>.symm
  obtain rfl : fn = Tryz.f5 := (Option.some.inj (Tryz.func5.symm.trans hfn)).symm
  refine ⟨by kernel_rfl, fun j t ht => ?_⟩
  rw [Tryz.params5] at ht
  have ht : t = 9 := by simpa using Array.mem_of_getElem? ht
  subst ht
  exact (show Tryz.prog.wantsStandIn 9 = false by kernel_rfl)
theorem printerTexts_holds : Rows.PrinterTextsCardSaid :=
  Claim7.holds_tied_plain_at .later [] _ _ _ _ printerTexts_said (fun _ h => by cases h) (by kernel_rfl) (fun _ h => by cases h) printerTexts_row_tie rfl ⟨rfl, rfl⟩ (by kernel_rfl) rfl printerTexts_plain (by kernel_rfl)
end Go.Proofs.YtebghnhocigmlaaGreatDoor
