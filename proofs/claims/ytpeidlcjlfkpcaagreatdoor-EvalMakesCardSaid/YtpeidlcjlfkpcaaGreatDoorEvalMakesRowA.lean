/- EvalMakes: for every input the law returns true, and the arguments read afterwards as they read before; the card ties the listed variables to the program's text. No condition. -/
import Derived.Test.YtpeidlcjlfkpcaaGreatDoorB42
import Derived.Test.YtpeidlcjlfkpcaaGreatDoorLaidH
import Derived.Test.YtpeidlcjlfkpcaaGreatDoorCards
import Derived.Test.YtpeidlcjlfkpcaaGreatDoorTie
set_option linter.unusedSectionVars false
set_option linter.unusedVariables false
set_option linter.unusedSimpArgs false
namespace Go.Proofs.YtpeidlcjlfkpcaaGreatDoor
open Go.ChangeShapes Go.WideShapes Go.ChangeAt Go.RowKit Go.Ab
instance (priority := low) rowBase : Base := ⟨fun _ => none⟩
abbrev evalMakesLaid : List (String × DataW Unit) := Rows.evalMakesRow.laid
theorem evalMakes_door (os : Os) : laidMetH Tryz.prog evalMakesLaid ((World.doorLaid Tryz.prog 400 os).forCall (fun _ _ => 0) ⟨#[], #[.slice none 0 0, .int .i64 0], []⟩).memory :=
  laidMetH_of_parts3 (fuel := 8) (laidMet_of_run' 8 (by kernel_rfl) (by kernel_rfl)) (by kernel_rfl) (by kernel_rfl)
theorem evalMakes_reads (os : Os) {H : Type} (enc : TypeId × Value → H) : ∃ places, DataW.whole enc Tryz.prog ((World.doorLaid Tryz.prog 400 os).forCall (fun _ _ => 0) ⟨#[], #[.slice none 0 0, .int .i64 0], []⟩).memory Tryz.f3.params.toList Rows.evalMakesSpec.vars false (#[.slice none 0 0, .int .i64 0] : Array Value).toList 8 = some ([.nil, .lit (.int .i64 0)], [], places) :=
  ⟨[], by kernel_rfl⟩
set_option maxRecDepth 100000 in
theorem evalMakes_lifted (os : Os) (started : os.Started) (H : Type) (enc : TypeId × Value → H) (F : Stop.Interp) :
    ReturnsInHanded {} Tryz.checked os 3 .any ((OpenSpec.ofChange Rows.evalMakesSpec).preRow enc Tryz.prog Tryz.f3 Rows.evalMakesRow.domain false Rows.evalMakesRow.laid) (((OpenSpec.ofChange Rows.evalMakesSpec).at F).post enc Tryz.prog Tryz.f3 false true false false) := by
  obtain ⟨places, hx⟩ := evalMakes_reads os enc
  refine returnsInHanded_of_row (C := Tryz.checked) (s := OpenSpec.ofChange Rows.evalMakesSpec) TA started (by kernel_rfl) Tryz.func3
    (witness_row_atRef (enc := enc) (C := Tryz.checked) false (World.doorLaid Tryz.prog 400 os) #[.slice none 0 0, .int .i64 0] rfl (by kernel_rfl) (by kernel_rfl) (by kernel_rfl)
      (OpenSpec.preRow_of_cond 8 hx (by kernel_rfl) (fun k hk => by cases hk) (by kernel_rfl) (evalMakes_door os))) ?_
  intro W base args ds gs before hval hW _ _ _ hL _ _
  have hW' := hW
  obtain ⟨p, q, hA0, hV, rfl, hfz, hnd⟩ := hW
  have hA : DataW.TrodAll enc Tryz.prog W 0 (fun _ => true) true Tryz.f3.params.toList args.toList ds p := hA0
  rw [Tryz.params3] at hA hval
  obtain ⟨v0, vs0, d0, ds0, p0, q0, hargs, rfl, rfl, h0, r0⟩ := trodAll_cons hA
  obtain ⟨v1, vs1, d1, ds1, p1, q1, rfl, rfl, rfl, h1, r1⟩ := trodAll_cons r0
  obtain ⟨rfl, rfl, rfl⟩ := trodAll_nil r1
  obtain rfl : args = #[v0, v1] := by cases args; simp_all
  obtain ⟨rfl, rfl⟩ := trodVars_none hV
  have k0 := h0
  obtain ⟨sa0, sn0, sc0, rfl⟩ := okWide_slice Tryz.underlying22 (hval 0 22 v0 rfl rfl)
  have lt0 : ∀ x ∈ p0, x.block < W.heap.size := by obtain ⟨m, hm⟩ := k0; exact DataW.trod_lt m _ _ _ hm
  obtain ⟨n0, h0⟩ := h0
  obtain ⟨s0, ⟨zs0, hz0, hl0, rfl⟩, a0⟩ := Dm (T := 22) (k := .i64) (by kernel_rfl) _ _ _ h0
  have k1 := h1
  obtain ⟨y1, rfl⟩ := okWide_int Tryz.underlying3 (hval 1 3 v1 rfl rfl)
  have lt1 : ∀ x ∈ p1, x.block < W.heap.size := by obtain ⟨m, hm⟩ := k1; exact DataW.trod_lt m _ _ _ hm
  obtain ⟨n1, h1⟩ := h1
  obtain ⟨s1, g1, a1⟩ := oC (T := 3) (k := .i64) _ _ _ h1
  obtain ⟨z1, hz1, rfl⟩ := oc g1
  have hL2 : laidMet Tryz.prog (Rows.evalMakesRow.laid.drop 1) W ∧ handlesMet Tryz.prog [("errors.errorType", Rows.laid_errors_errorType)] W := hL
  replace hL := hL2.1
  letI : Base := S1 W
  haveI : iF 0 := ⟨ng hL (by kernel_rfl) (by kernel_rfl)⟩
  haveI : iF 6 := ⟨ng hL.tail.tail.tail (by kernel_rfl) (by kernel_rfl)⟩
  haveI : iF 2 := ⟨ng hL.tail (by kernel_rfl) (by kernel_rfl)⟩
  haveI : iF 3 := ⟨ng hL.tail.tail.tail.tail.tail.tail (by kernel_rfl) (by kernel_rfl)⟩
  haveI : iF 4 := ⟨ng hL.tail.tail.tail.tail.tail.tail.tail (by kernel_rfl) (by kernel_rfl)⟩
  haveI : iF 8 := ⟨ng hL.tail.tail.tail.tail.tail (by kernel_rfl) (by kernel_rfl)⟩
  haveI : GV 1 errT := ⟨Jq hL2.2⟩
  have hp := PM zs0 hl0 z1 hz1
  have hc := N4 (W := W) (vs := [.slice sa0 sn0 sc0, .int .i64 y1]) (Mem.le_refl _) hp ⟨a0.1.1, a1.1.1, trivial⟩
  clear hA0 hval
  refine Calls.mono hc fun e W' ⟨he, bel⟩ => ?_
  subst he
  exact ⟨_, rfl, _, _, _, [], _, [], hW', trodAll_mk1 (shut_bool Tryz.underlying4 _), (trodAll_cons_mk (Below.trod DI (by kernel_rfl) (of_decide_eq_true (by kernel_rfl)) k0 bel lt0) (trodAll_cons_mk (Below.trod DI (by kernel_rfl) (of_decide_eq_true (by kernel_rfl)) k1 bel lt1) trodAll_mk0)), rfl, bel.frame _, fun h => by cases h⟩
end Go.Proofs.YtpeidlcjlfkpcaaGreatDoor
