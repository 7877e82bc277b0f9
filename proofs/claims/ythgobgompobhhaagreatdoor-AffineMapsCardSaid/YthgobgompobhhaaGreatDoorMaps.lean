/- The law AffineMaps, walked: it returns true. -/
import Derived.Test.YthgobgompobhhaaGreatDoorAffC
namespace Go.Ab
open Go.Proofs
set_option linter.unusedSectionVars false
variable [Base]
theorem M6.le.le_mono {m : M6 Rat} {L L' : Nat} (h : m.le L) (k : L ≤ L') : m.le L' := ⟨Nat.le_trans h.a k, Nat.le_trans h.b k, Nat.le_trans h.c k, Nat.le_trans h.d k, Nat.le_trans h.e k, Nat.le_trans h.f k⟩
theorem vector_le {m : M6 Rat} {L : Nat} (h : m.le L) {x y : Rat} (hx : ht x ≤ L) (hy : ht y ≤ L) : ht (m.a * x + m.b * y) ≤ 4 * L + 3 ∧ ht (m.d * x + m.e * y) ≤ 4 * L + 3 := by
  obtain ⟨ha, hb, hc, hd, he, hf⟩ := h
  have h1 := ht_mul m.a x
  have h2 := ht_mul m.b y
  have h3 := ht_mul m.d x
  have h4 := ht_mul m.e y
  have h5 := ht_add (m.a * x) (m.b * y)
  have h6 := ht_add (m.d * x) (m.e * y)
  exact ⟨by omega, by omega⟩
theorem apply_le {m : M6 Rat} {L : Nat} (h : m.le L) {x y : Rat} (hx : ht x ≤ L) (hy : ht y ≤ L) : ht (m.a * x + m.b * y + m.c) ≤ 5 * L + 4 ∧ ht (m.d * x + m.e * y + m.f) ≤ 5 * L + 4 := by
  have hv := vector_le h hx hy
  obtain ⟨ha, hb, hc, hd, he, hf⟩ := h
  have h5 := ht_add (m.a * x + m.b * y) m.c
  have h6 := ht_add (m.d * x + m.e * y) m.f
  exact ⟨by omega, by omega⟩
set_option maxRecDepth 20000 in
set_option maxHeartbeats 4000000 in
theorem maps_pu (zs : List Int) (hz : zs.length ≤ 9223372036854775807) [Sent 0] : Pu Tryz.prog 3 [nsl .i64 zs] (lit (.bool true)) := by
  have hk : (zs.take (min zs.length 400)).length ≤ 400 := by simp; omega
  have hnew := new_pu zs hz
  generalize zs.take (min zs.length 400) = ys at *
  have hmap := tmap_pu ys hk
  have hpt := tpoint_pu ys hk
  clear hz
  refine Pu.intro Tryz.func3 rfl (by kernel_rfl) fun C => ?_
  repeat (refine A1 ⟨?_⟩; intros)
  refine WPL.callN hnew rfl rfl fun b => ?_
  repeat (refine A1 ⟨?_⟩; intros)
  refine Wtx hmap List.mem_cons_self fun ma => ?_
  repeat (refine A1 ⟨?_⟩; intros)
  refine Wtx hmap List.mem_cons_self fun mb => ?_
  repeat (refine A1 ⟨?_⟩; intros)
  refine Wtx hpt List.mem_cons_self fun p => ?_
  obtain ⟨a, ha⟩ := ma
  obtain ⟨b', hb⟩ := mb
  obtain ⟨⟨x, y⟩, hx, hy⟩ := p
  simp only at hx hy
  simp only []
  clear hmap hpt hnew hk
  have h0 := ht_zero
  have h1 := ht_one
  have hid : (⟨1, 0, 0, 0, 1, 0⟩ : M6 Rat).le 10 := ⟨by simp only; omega, by simp only; omega, by simp only; omega, by simp only; omega, by simp only; omega, by simp only; omega⟩
  have htr : (⟨1, 0, x, 0, 1, y⟩ : M6 Rat).le 10 := ⟨by simp only; omega, by simp only; omega, by simp only; omega, by simp only; omega, by simp only; omega, by simp only; omega⟩
  have hcm := M6.comp_le ha hb
  have hde := M6.det_ht ha
  have hve := vector_le ha hx hy
  have hap := apply_le ha hx hy
  have c1 := writeM_pu ha (by omega)
  have c2 := writeM_pu hb (by omega)
  have c3 := anorm_pu (M6.of_ok ha) (by omega)
  rw [M6.of_v] at c3
  have c4 := sameM_pu ha (by omega)
  have c5 := identity_pu
  have c6 := writeM_pu hid (by omega)
  simp only [rm] at c6
  have c6' := c6.arg (l' := [ag [lit (.bool (decide ((1 : Rat).num < 0))), nat (1 : Rat).num.natAbs, dg (dden (1 : Rat).den), lit (.bool false), lit (.slice none 0 0), lit (.slice none 0 0), lit (.bool false), lit (.slice none 0 0), lit (.slice none 0 0),
    lit (.bool false), lit (.slice none 0 0), lit (.slice none 0 0), lit (.bool (decide ((1 : Rat).num < 0))), nat (1 : Rat).num.natAbs, dg (dden (1 : Rat).den), lit (.bool false), lit (.slice none 0 0), lit (.slice none 0 0)]])
    ⟨Le.ag (by repeat (first | exact trivial | refine ⟨?_, ?_⟩ | exact Le.refl _ | exact leN0 | exact leD0)), trivial⟩
  have c7 := sameM_pu hid (by omega)
  have c8 := toP_pu x y (by omega) (by omega)
  have c9 := translation_pu x y (by omega) (by omega)
  have c10 := writeM_pu htr (by omega)
  have c10' := c10.arg (l' := [ag [lit (.bool (decide ((1 : Rat).num < 0))), nat (1 : Rat).num.natAbs, dg (dden (1 : Rat).den), lit (.bool false), lit (.slice none 0 0), lit (.slice none 0 0), lit (.bool (decide (x.num < 0))), nat x.num.natAbs, dg (dden x.den),
    lit (.bool false), lit (.slice none 0 0), lit (.slice none 0 0), lit (.bool (decide ((1 : Rat).num < 0))), nat (1 : Rat).num.natAbs, dg (dden (1 : Rat).den), lit (.bool (decide (y.num < 0))), nat y.num.natAbs, dg (dden y.den)]])
    ⟨Le.ag (by repeat (first | exact trivial | refine ⟨?_, ?_⟩ | exact Le.refl _ | exact leN0 | exact leD0)), trivial⟩
  have c11 := sameM_pu htr (by omega)
  have c12 := aDet_q (ha.le_mono (by omega))
  have c13 := mdet_pu ha (by omega)
  rw [Rat.mul_comm a.b a.d] at c13
  have c14 := toQ_pu a.det (by omega)
  have c15 := sameq_pu a.det (by omega)
  have c16 := aApply_q (ha.le_mono (by omega)) (x := x) (y := y) (by omega) (by omega)
  have c17 := mapply_pu ha (by omega) x y hx hy
  have c18 := toP_pu (a.a * x + a.b * y + a.c) (a.d * x + a.e * y + a.f) (by omega) (by omega)
  have c19 := sameP_pu (a.a * x + a.b * y + a.c) (a.d * x + a.e * y + a.f) (by omega) (by omega)
  have c20 := aVector_q (ha.le_mono (by omega)) (x := x) (y := y) (by omega) (by omega)
  have c21 := mvector_pu ha (by omega) x y hx hy
  have c22 := toP_pu (a.a * x + a.b * y) (a.d * x + a.e * y) (by omega) (by omega)
  have c23 := sameP_pu (a.a * x + a.b * y) (a.d * x + a.e * y) (by omega) (by omega)
  have c24 := compose_q (ha.le_mono (by omega)) (hb.le_mono (by omega))
  have c25 := mafter_pu ha hb (by omega)
  have c26 := writeM_pu hcm (by omega)
  have c27 := sameM_pu hcm (by omega)
  have c28 := rs_pu a.det (by omega)
  rw [show a.a * a.e - a.d * a.b = a.det from rfl] at c12 c13
  clear hap hve hde h0 h1 hid htr hcm c6 c10
  by_cases hz : a.det = 0
  · have d1 := invert_f ha (by omega) hz
    have hs : a.det.num.sign = 0 := by rw [hz]; rfl
    rw [hs] at c28
    have d2 := is_pu 0
    repeat (first | (refine A1 ⟨?_⟩; intros) | (refine Wcx (c1) ?_) | (refine Wdcx (c1) ?_) | (refine Wcgx (c1) ?_) | (refine Wdcgx (c1) ?_) | (refine Wcx (c2) ?_) | (refine Wdcx (c2) ?_) | (refine Wcgx (c2) ?_) | (refine Wdcgx (c2) ?_) | (refine Wcx (c3) ?_) | (refine Wdcx (c3) ?_) | (refine Wcgx (c3) ?_) | (refine Wdcgx (c3) ?_) | (refine Wcx (c4) ?_) | (refine Wdcx (c4) ?_) | (refine Wcgx (c4) ?_) | (refine Wdcgx (c4) ?_) | (refine Wcx (c5) ?_) | (refine Wdcx (c5) ?_) | (refine Wcgx (c5) ?_) | (refine Wdcgx (c5) ?_) | (refine Wcx (rof1) ?_) | (refine Wdcx (rof1) ?_) | (refine Wcgx (rof1) ?_) | (refine Wdcgx (rof1) ?_) | (refine Wcx (c6') ?_) | (refine Wdcx (c6') ?_) | (refine Wcgx (c6') ?_) | (refine Wdcgx (c6') ?_) | (refine Wcx (c7) ?_) | (refine Wdcx (c7) ?_) | (refine Wcgx (c7) ?_) | (refine Wdcgx (c7) ?_) | (refine Wcx (c8) ?_) | (refine Wdcx (c8) ?_) | (refine Wcgx (c8) ?_) | (refine Wdcgx (c8) ?_) | (refine Wcx (c9) ?_) | (refine Wdcx (c9) ?_) | (refine Wcgx (c9) ?_) | (refine Wdcgx (c9) ?_) | (refine Wcx (c10') ?_) | (refine Wdcx (c10') ?_) | (refine Wcgx (c10') ?_) | (refine Wdcgx (c10') ?_) | (refine Wcx (c11) ?_) | (refine Wdcx (c11) ?_) | (refine Wcgx (c11) ?_) | (refine Wdcgx (c11) ?_) | (refine Wcx (c12) ?_) | (refine Wdcx (c12) ?_) | (refine Wcgx (c12) ?_) | (refine Wdcgx (c12) ?_) | (refine Wcx (c13) ?_) | (refine Wdcx (c13) ?_) | (refine Wcgx (c13) ?_) | (refine Wdcgx (c13) ?_) | (refine Wcx (c14) ?_) | (refine Wdcx (c14) ?_) | (refine Wcgx (c14) ?_) | (refine Wdcgx (c14) ?_) | (refine Wcx (c15) ?_) | (refine Wdcx (c15) ?_) | (refine Wcgx (c15) ?_) | (refine Wdcgx (c15) ?_) | (refine Wcx (c16) ?_) | (refine Wdcx (c16) ?_) | (refine Wcgx (c16) ?_) | (refine Wdcgx (c16) ?_) | (refine Wcx (c17) ?_) | (refine Wdcx (c17) ?_) | (refine Wcgx (c17) ?_) | (refine Wdcgx (c17) ?_) | (refine Wcx (c18) ?_) | (refine Wdcx (c18) ?_) | (refine Wcgx (c18) ?_) | (refine Wdcgx (c18) ?_) | (refine Wcx (c19) ?_) | (refine Wdcx (c19) ?_) | (refine Wcgx (c19) ?_) | (refine Wdcgx (c19) ?_) | (refine Wcx (c20) ?_) | (refine Wdcx (c20) ?_) | (refine Wcgx (c20) ?_) | (refine Wdcgx (c20) ?_) | (refine Wcx (c21) ?_) | (refine Wdcx (c21) ?_) | (refine Wcgx (c21) ?_) | (refine Wdcgx (c21) ?_) | (refine Wcx (c22) ?_) | (refine Wdcx (c22) ?_) | (refine Wcgx (c22) ?_) | (refine Wdcgx (c22) ?_) | (refine Wcx (c23) ?_) | (refine Wdcx (c23) ?_) | (refine Wcgx (c23) ?_) | (refine Wdcgx (c23) ?_) | (refine Wcx (c24) ?_) | (refine Wdcx (c24) ?_) | (refine Wcgx (c24) ?_) | (refine Wdcgx (c24) ?_) | (refine Wcx (c25) ?_) | (refine Wdcx (c25) ?_) | (refine Wcgx (c25) ?_) | (refine Wdcgx (c25) ?_) | (refine Wcx (c26) ?_) | (refine Wdcx (c26) ?_) | (refine Wcgx (c26) ?_) | (refine Wdcgx (c26) ?_) | (refine Wcx (c27) ?_) | (refine Wdcx (c27) ?_) | (refine Wcgx (c27) ?_) | (refine Wdcgx (c27) ?_) | (refine Wcx (d1) ?_) | (refine Wdcx (d1) ?_) | (refine Wcgx (d1) ?_) | (refine Wdcgx (d1) ?_) | (refine Wcx (c28) ?_) | (refine Wdcx (c28) ?_) | (refine Wcgx (c28) ?_) | (refine Wdcgx (c28) ?_) | (refine Wcx (known26) ?_) | (refine Wdcx (known26) ?_) | (refine Wcgx (known26) ?_) | (refine Wdcgx (known26) ?_) | (refine Wcx (d2) ?_) | (refine Wdcx (d2) ?_) | (refine Wcgx (d2) ?_) | (refine Wdcgx (d2) ?_))
    ((first | refine endR ?_ | refine endN ?_); exact end1 (RV.tmp rfl) (Le.refl _))
  · have d1 := invert_t ha (by omega) hz
    have hs : a.det.num.sign ≠ 0 := fun e => hz (Rat.num_eq_zero.1 (Int.sign_eq_zero_iff_zero.1 e))
    have d2 := minvert_pu ha (by omega) hz
    have hin := M6.inv_le ha
    have d3 := writeM_pu hin (by omega)
    have d4 := sameM_pu hin (by omega)
    clear hin
    generalize a.det.num.sign = s at *
    repeat (first | (refine A1 ⟨?_⟩; intros) | (refine Wcx (c1) ?_) | (refine Wdcx (c1) ?_) | (refine Wcgx (c1) ?_) | (refine Wdcgx (c1) ?_) | (refine Wcx (c2) ?_) | (refine Wdcx (c2) ?_) | (refine Wcgx (c2) ?_) | (refine Wdcgx (c2) ?_) | (refine Wcx (c3) ?_) | (refine Wdcx (c3) ?_) | (refine Wcgx (c3) ?_) | (refine Wdcgx (c3) ?_) | (refine Wcx (c4) ?_) | (refine Wdcx (c4) ?_) | (refine Wcgx (c4) ?_) | (refine Wdcgx (c4) ?_) | (refine Wcx (c5) ?_) | (refine Wdcx (c5) ?_) | (refine Wcgx (c5) ?_) | (refine Wdcgx (c5) ?_) | (refine Wcx (rof1) ?_) | (refine Wdcx (rof1) ?_) | (refine Wcgx (rof1) ?_) | (refine Wdcgx (rof1) ?_) | (refine Wcx (c6') ?_) | (refine Wdcx (c6') ?_) | (refine Wcgx (c6') ?_) | (refine Wdcgx (c6') ?_) | (refine Wcx (c7) ?_) | (refine Wdcx (c7) ?_) | (refine Wcgx (c7) ?_) | (refine Wdcgx (c7) ?_) | (refine Wcx (c8) ?_) | (refine Wdcx (c8) ?_) | (refine Wcgx (c8) ?_) | (refine Wdcgx (c8) ?_) | (refine Wcx (c9) ?_) | (refine Wdcx (c9) ?_) | (refine Wcgx (c9) ?_) | (refine Wdcgx (c9) ?_) | (refine Wcx (c10') ?_) | (refine Wdcx (c10') ?_) | (refine Wcgx (c10') ?_) | (refine Wdcgx (c10') ?_) | (refine Wcx (c11) ?_) | (refine Wdcx (c11) ?_) | (refine Wcgx (c11) ?_) | (refine Wdcgx (c11) ?_) | (refine Wcx (c12) ?_) | (refine Wdcx (c12) ?_) | (refine Wcgx (c12) ?_) | (refine Wdcgx (c12) ?_) | (refine Wcx (c13) ?_) | (refine Wdcx (c13) ?_) | (refine Wcgx (c13) ?_) | (refine Wdcgx (c13) ?_) | (refine Wcx (c14) ?_) | (refine Wdcx (c14) ?_) | (refine Wcgx (c14) ?_) | (refine Wdcgx (c14) ?_) | (refine Wcx (c15) ?_) | (refine Wdcx (c15) ?_) | (refine Wcgx (c15) ?_) | (refine Wdcgx (c15) ?_) | (refine Wcx (c16) ?_) | (refine Wdcx (c16) ?_) | (refine Wcgx (c16) ?_) | (refine Wdcgx (c16) ?_) | (refine Wcx (c17) ?_) | (refine Wdcx (c17) ?_) | (refine Wcgx (c17) ?_) | (refine Wdcgx (c17) ?_) | (refine Wcx (c18) ?_) | (refine Wdcx (c18) ?_) | (refine Wcgx (c18) ?_) | (refine Wdcgx (c18) ?_) | (refine Wcx (c19) ?_) | (refine Wdcx (c19) ?_) | (refine Wcgx (c19) ?_) | (refine Wdcgx (c19) ?_) | (refine Wcx (c20) ?_) | (refine Wdcx (c20) ?_) | (refine Wcgx (c20) ?_) | (refine Wdcgx (c20) ?_) | (refine Wcx (c21) ?_) | (refine Wdcx (c21) ?_) | (refine Wcgx (c21) ?_) | (refine Wdcgx (c21) ?_) | (refine Wcx (c22) ?_) | (refine Wdcx (c22) ?_) | (refine Wcgx (c22) ?_) | (refine Wdcgx (c22) ?_) | (refine Wcx (c23) ?_) | (refine Wdcx (c23) ?_) | (refine Wcgx (c23) ?_) | (refine Wdcgx (c23) ?_) | (refine Wcx (c24) ?_) | (refine Wdcx (c24) ?_) | (refine Wcgx (c24) ?_) | (refine Wdcgx (c24) ?_) | (refine Wcx (c25) ?_) | (refine Wdcx (c25) ?_) | (refine Wcgx (c25) ?_) | (refine Wdcgx (c25) ?_) | (refine Wcx (c26) ?_) | (refine Wdcx (c26) ?_) | (refine Wcgx (c26) ?_) | (refine Wdcgx (c26) ?_) | (refine Wcx (c27) ?_) | (refine Wdcx (c27) ?_) | (refine Wcgx (c27) ?_) | (refine Wdcgx (c27) ?_) | (refine Wcx (d1) ?_) | (refine Wdcx (d1) ?_) | (refine Wcgx (d1) ?_) | (refine Wdcgx (d1) ?_) | (refine Wcx (c28) ?_) | (refine Wdcx (c28) ?_) | (refine Wcgx (c28) ?_) | (refine Wdcgx (c28) ?_) | (refine Wcx (known26) ?_) | (refine Wdcx (known26) ?_) | (refine Wcgx (known26) ?_) | (refine Wdcgx (known26) ?_) | (refine Wcx (d2) ?_) | (refine Wdcx (d2) ?_) | (refine Wcgx (d2) ?_) | (refine Wdcgx (d2) ?_) | (refine Wcx (d3) ?_) | (refine Wdcx (d3) ?_) | (refine Wcgx (d3) ?_) | (refine Wdcgx (d3) ?_) | (refine Wcx (d4) ?_) | (refine Wdcx (d4) ?_) | (refine Wcgx (d4) ?_) | (refine Wdcgx (d4) ?_))
    ((first | refine endR ?_ | refine endN ?_); exact end1 (RV.tmp rfl) (Le.refl _))
end Go.Ab
