/- AffineRough: for every map and every point the law returns true, and both read afterwards as they read before. No condition. -/
import Derived.Test.YtkhhdjbdeajlgaaGreatRough
import Derived.Test.YtkhhdjbdeajlgaaGreatRowKit
import Derived.Test.YtkhhdjbdeajlgaaGreatRows
namespace Go.Proofs.YtkhhdjbdeajlgaaGreat
open Go.ChangeShapes Go.WideShapes Go.ChangeAt Go.RowKit Go.Ab
theorem opn_map {H : Type} {enc : TypeId × Value → H} {W : World} {sp : Nat → Bool} {held : Bool} : Opn enc Tryz.prog W sp held 29 (Cat [GR, GR, GR, GR, GR, GR]) :=
  opn_struct Tryz.underlying29 (by kernel_rfl) (.cons opn_rat0 (.cons opn_rat0 (.cons opn_rat0 (.cons opn_rat0 (.cons opn_rat0 (.cons opn_rat0 .nil))))))
theorem opn_point {H : Type} {enc : TypeId × Value → H} {W : World} {sp : Nat → Bool} {held : Bool} : Opn enc Tryz.prog W sp held 31 (Cat [GR, GR]) :=
  opn_struct Tryz.underlying31 (by kernel_rfl) (.cons opn_rat0 (.cons opn_rat0 .nil))
theorem cat_point {l : List SV} (h : Cat [GR, GR] l) : ∃ x y : RQ, (D x.n ∧ D x.d) ∧ (D y.n ∧ D y.d) ∧ l = qcells x ++ qcells y := by
  cases h with
  | cons h1 k => cases k with
    | cons h2 k => cases k
                   obtain ⟨x, hx, rfl⟩ := cat_rat h1
                   obtain ⟨y, hy, rfl⟩ := cat_rat h2
                   exact ⟨x, y, hx, hy, rfl⟩
theorem cat_map {l : List SV} (h : Cat [GR, GR, GR, GR, GR, GR] l) : ∃ m : M6 RQ, (∀ r ∈ mlist m, D r.n ∧ D r.d) ∧ l = qcells m.a ++ (qcells m.b ++ (qcells m.c ++ (qcells m.d ++ (qcells m.e ++ (qcells m.f ++ []))))) := by
  cases h with
  | cons h1 k => cases k with
    | cons h2 k => cases k with
      | cons h3 k => cases k with
        | cons h4 k => cases k with
          | cons h5 k => cases k with
            | cons h6 k => cases k
                           obtain ⟨a, ha, rfl⟩ := cat_rat h1
                           obtain ⟨b, hb, rfl⟩ := cat_rat h2
                           obtain ⟨c, hc, rfl⟩ := cat_rat h3
                           obtain ⟨d, hd, rfl⟩ := cat_rat h4
                           obtain ⟨e, he, rfl⟩ := cat_rat h5
                           obtain ⟨f, hf, rfl⟩ := cat_rat h6
                           refine ⟨⟨a, b, c, d, e, f⟩, fun r hr => ?_, rfl⟩
                           simp only [List.mem_cons, List.not_mem_nil, or_false] at hr
                           rcases hr with rfl | rfl | rfl | rfl | rfl | rfl <;> assumption
set_option maxRecDepth 100000 in
theorem rough_lifted (os : Os) (started : os.Started) (H : Type) (enc : TypeId × Value → H) :
    ReturnsInHanded {} Tryz.checked os 3 .any (Rows.affineRoughSpec.pre6 enc Tryz.prog Tryz.f3 Rows.affineRoughRow.domain false) (Rows.affineRoughSpec.post enc Tryz.prog Tryz.f3 false true false false) := by
  refine returnsInHanded_of_change (C := Tryz.checked) own0 started (by kernel_rfl) Tryz.func3
    (ChangeSpec.witness6 (enc := enc) (C := Tryz.checked) false ⟨#[], #[.agg #[.bool false, .slice none 0 0, .slice none 0 0, .bool false, .slice none 0 0, .slice none 0 0, .bool false, .slice none 0 0, .slice none 0 0, .bool false, .slice none 0 0, .slice none 0 0, .bool false, .slice none 0 0, .slice none 0 0, .bool false, .slice none 0 0, .slice none 0 0], .agg #[.bool false, .slice none 0 0, .slice none 0 0, .bool false, .slice none 0 0, .slice none 0 0]], []⟩ 8 (by kernel_rfl) (by kernel_rfl) (by kernel_rfl) (by kernel_rfl)) ?_
  intro W base args ds gs before hval0 hW hcnd _
  have hW' := hW
  obtain ⟨p, q, hA0, hV, rfl, hfz, hnd⟩ := hW
  have hA : DataW.TrodAll enc Tryz.prog W 0 (fun _ => true) true Tryz.f3.params.toList args.toList ds p := hA0
  rw [Tryz.params3] at hA
  obtain ⟨v0, vs0, d0, ds0, p0, q0, hargs, rfl, rfl, h0, r0⟩ := trodAll_cons hA
  obtain ⟨v1, vs1, d1, ds1, p1, q1, rfl, rfl, rfl, h1, r1⟩ := trodAll_cons r0
  obtain ⟨rfl, rfl, rfl⟩ := trodAll_nil r1
  obtain rfl : args = #[v0, v1] := by cases args; simp_all
  obtain ⟨rfl, rfl⟩ := trodVars_none hV
  have k0 := h0
  have k1 := h1
  have lt0 : ∀ x ∈ p0, x.block < W.heap.size := by obtain ⟨m, hm⟩ := k0; exact DataW.trod_lt m _ _ _ hm
  have lt1 : ∀ x ∈ p1, x.block < W.heap.size := by obtain ⟨m, hm⟩ := k1; exact DataW.trod_lt m _ _ _ hm
  obtain ⟨n0, h0⟩ := h0
  obtain ⟨n1, h1⟩ := h1
  obtain ⟨s0, g0, a0⟩ := opn_map _ _ _ h0
  obtain ⟨s1, g1, a1⟩ := opn_point _ _ _ h1
  obtain ⟨m, hm, rfl⟩ := cat_map g0
  obtain ⟨x, y, hx, hy, rfl⟩ := cat_point g1
  have hp := rough_pu m x y hm hx hy
  have hc := calls_of (W := W) (vs := [v0, v1]) hp ⟨agg_of a0 (by simp), agg_of a1 (by simp), trivial⟩
  clear hA0 hval0
  refine Calls.mono hc fun e W' ⟨he, bel⟩ => ?_
  subst he
  exact ⟨_, rfl, _, _, _, [], _, [], hW', trodAll_mk1 (shut_bool Tryz.underlying4 _), (trodAll_cons_mk (Below.trod laidOut0 (by kernel_rfl) (of_decide_eq_true (by kernel_rfl)) k0 bel lt0) (trodAll_cons_mk (Below.trod laidOut0 (by kernel_rfl) (of_decide_eq_true (by kernel_rfl)) k1 bel lt1) trodAll_mk0)), rfl, bel.frame _, fun h => by cases h⟩
theorem affineRough_holds : Rows.AffineRoughSaid :=
  OpenClaim.holds_of_wide 3 Tryz.f3 rfl rfl rfl rfl rfl rfl rfl ⟨rfl, rfl, rfl, rfl, rfl⟩ rfl rfl rfl rfl rfl (by kernel_rfl) Tryz.func3 (by kernel_rfl)
    (of_decide_eq_true (by kernel_rfl)) (by unfold Func.isWrapper; rw [if_neg (of_decide_eq_false (by kernel_rfl))]; exact ⟨rfl, rfl⟩)
    (fun os started H enc _ => rough_lifted os started H enc)
end Go.Proofs.YtkhhdjbdeajlgaaGreat
