/- Package affine: Invert; the reference's After, Invert. -/
import Derived.Test.YthgobgompobhhaaGreatDoorAffB
import Derived.Test.YthgobgompobhhaaGreatDoorTape
namespace Go.Ab
open Go.Proofs
set_option linter.unusedSectionVars false
variable [Base]
theorem regular_f {m : M6 Rat} {L : Nat} (h : m.le L) (hL : L ≤ 100000) (h0 : m.det = 0) [Sent 0] : Pu Tryz.prog 69 [mq m] (Ab.tup [mf m, lit (sent 0)]) := by
  have hd := adet_pu h (by omega)
  have ho := aof_q (m := m) ⟨Nat.le_trans h.a (by omega), Nat.le_trans h.b (by omega), Nat.le_trans h.c (by omega), Nat.le_trans h.d (by omega), Nat.le_trans h.e (by omega), Nat.le_trans h.f (by omega)⟩
  have hz := zero_pu m.det
  rw [show m.a * m.e - m.d * m.b = m.det from rfl] at hd
  rw [decide_eq_true (Rat.num_eq_zero.2 h0)] at hz
  refine Pu.intro Tryz.func69 rfl (by kernel_rfl) fun C => ?_
  repeat (first | (refine A1 ⟨?_⟩; intros) | (refine Wcx (ho) ?_) | (refine Wdcx (ho) ?_) | (refine Wcgx (ho) ?_) | (refine Wdcgx (ho) ?_) | (refine Wcx (hd) ?_) | (refine Wdcx (hd) ?_) | (refine Wcgx (hd) ?_) | (refine Wdcgx (hd) ?_) | (refine Wcx (hz) ?_) | (refine Wdcx (hz) ?_) | (refine Wcgx (hz) ?_) | (refine Wdcgx (hz) ?_))
  repeat' (first | (refine A1 ⟨?_⟩; intros) | exact WPI.nil | refine And.intro ?_ ?_)
  all_goals ((first | refine endR ?_ | refine endN ?_); exact end2 (RV.cellA rfl (by (first | exact List.mem_cons_self | exact (List.mem_cons_of_mem _ List.mem_cons_self) | exact (List.mem_cons_of_mem _ (List.mem_cons_of_mem _ List.mem_cons_self)) | exact (List.mem_cons_of_mem _ (List.mem_cons_of_mem _ (List.mem_cons_of_mem _ List.mem_cons_self))) | exact (List.mem_cons_of_mem _ (List.mem_cons_of_mem _ (List.mem_cons_of_mem _ (List.mem_cons_of_mem _ List.mem_cons_self)))) | exact (List.mem_cons_of_mem _ (List.mem_cons_of_mem _ (List.mem_cons_of_mem _ (List.mem_cons_of_mem _ (List.mem_cons_of_mem _ List.mem_cons_self))))) | exact (List.mem_cons_of_mem _ (List.mem_cons_of_mem _ (List.mem_cons_of_mem _ (List.mem_cons_of_mem _ (List.mem_cons_of_mem _ (List.mem_cons_of_mem _ List.mem_cons_self)))))) | exact (List.mem_cons_of_mem _ (List.mem_cons_of_mem _ (List.mem_cons_of_mem _ (List.mem_cons_of_mem _ (List.mem_cons_of_mem _ (List.mem_cons_of_mem _ (List.mem_cons_of_mem _ List.mem_cons_self))))))))) (by (first | (simp only [List.drop_succ_cons, List.drop_zero, List.drop_nil, List.take_succ_cons, List.take_zero, List.take_nil, Nat.zero_add, Nat.add_zero, Nat.reduceAdd]; done) | (simp only [List.drop_succ_cons, List.drop_zero, List.drop_nil, List.take_succ_cons, List.take_zero, List.take_nil, Nat.zero_add, Nat.add_zero, Nat.reduceAdd]; exact rfl) | exact rfl)) rfl) (RV.tmp rfl) (Le.refl _))
theorem regular_t {m : M6 Rat} {L : Nat} (h : m.le L) (hL : L ≤ 100000) (h0 : m.det ≠ 0) : Pu Tryz.prog 69 [mq m] (Ab.tup [mf m, lit .nilIface]) := by
  have hd := adet_pu h (by omega)
  have ho := aof_q (m := m) ⟨Nat.le_trans h.a (by omega), Nat.le_trans h.b (by omega), Nat.le_trans h.c (by omega), Nat.le_trans h.d (by omega), Nat.le_trans h.e (by omega), Nat.le_trans h.f (by omega)⟩
  have hz := zero_pu m.det
  rw [show m.a * m.e - m.d * m.b = m.det from rfl] at hd
  rw [decide_eq_false (fun e => h0 (Rat.num_eq_zero.1 e))] at hz
  refine Pu.intro Tryz.func69 rfl (by kernel_rfl) fun C => ?_
  repeat (first | (refine A1 ⟨?_⟩; intros) | (refine Wcx (ho) ?_) | (refine Wdcx (ho) ?_) | (refine Wcgx (ho) ?_) | (refine Wdcgx (ho) ?_) | (refine Wcx (hd) ?_) | (refine Wdcx (hd) ?_) | (refine Wcgx (hd) ?_) | (refine Wdcgx (hd) ?_) | (refine Wcx (hz) ?_) | (refine Wdcx (hz) ?_) | (refine Wcgx (hz) ?_) | (refine Wdcgx (hz) ?_))
  ((first | refine endR ?_ | refine endN ?_); exact end2 (RV.cellA rfl (by (first | exact List.mem_cons_self | exact (List.mem_cons_of_mem _ List.mem_cons_self) | exact (List.mem_cons_of_mem _ (List.mem_cons_of_mem _ List.mem_cons_self)) | exact (List.mem_cons_of_mem _ (List.mem_cons_of_mem _ (List.mem_cons_of_mem _ List.mem_cons_self))) | exact (List.mem_cons_of_mem _ (List.mem_cons_of_mem _ (List.mem_cons_of_mem _ (List.mem_cons_of_mem _ List.mem_cons_self)))) | exact (List.mem_cons_of_mem _ (List.mem_cons_of_mem _ (List.mem_cons_of_mem _ (List.mem_cons_of_mem _ (List.mem_cons_of_mem _ List.mem_cons_self))))) | exact (List.mem_cons_of_mem _ (List.mem_cons_of_mem _ (List.mem_cons_of_mem _ (List.mem_cons_of_mem _ (List.mem_cons_of_mem _ (List.mem_cons_of_mem _ List.mem_cons_self)))))) | exact (List.mem_cons_of_mem _ (List.mem_cons_of_mem _ (List.mem_cons_of_mem _ (List.mem_cons_of_mem _ (List.mem_cons_of_mem _ (List.mem_cons_of_mem _ (List.mem_cons_of_mem _ List.mem_cons_self))))))))) (by (first | (simp only [List.drop_succ_cons, List.drop_zero, List.drop_nil, List.take_succ_cons, List.take_zero, List.take_nil, Nat.zero_add, Nat.add_zero, Nat.reduceAdd]; done) | (simp only [List.drop_succ_cons, List.drop_zero, List.drop_nil, List.take_succ_cons, List.take_zero, List.take_nil, Nat.zero_add, Nat.add_zero, Nat.reduceAdd]; exact rfl) | exact rfl)) rfl) (RV.tmp rfl) (Le.refl _))
/-- a map all of whose numbers are zero values -/
abbrev mz : SV := ag [lit (.bool false), lit (.slice none 0 0), lit (.slice none 0 0), lit (.bool false), lit (.slice none 0 0), lit (.slice none 0 0), lit (.bool false), lit (.slice none 0 0), lit (.slice none 0 0), lit (.bool false), lit (.slice none 0 0), lit (.slice none 0 0), lit (.bool false), lit (.slice none 0 0), lit (.slice none 0 0), lit (.bool false), lit (.slice none 0 0), lit (.slice none 0 0)]
theorem invert_f {m : M6 Rat} {L : Nat} (h : m.le L) (hL : L ≤ 100000) (h0 : m.det = 0) [Sent 0] : Pu Tryz.prog 27 [mq m] (Ab.tup [mz, lit (sent 0)]) := by
  have hr := regular_f h hL h0
  refine Pu.intro Tryz.func27 rfl (by kernel_rfl) fun C => ?_
  repeat (first | (refine A1 ⟨?_⟩; intros) | (refine Wcx (hr) ?_) | (refine Wdcx (hr) ?_) | (refine Wcgx (hr) ?_) | (refine Wdcgx (hr) ?_))
  ((first | refine endR ?_ | refine endN ?_); exact end2 (RV.cellA rfl (by (first | exact List.mem_cons_self | exact (List.mem_cons_of_mem _ List.mem_cons_self) | exact (List.mem_cons_of_mem _ (List.mem_cons_of_mem _ List.mem_cons_self)) | exact (List.mem_cons_of_mem _ (List.mem_cons_of_mem _ (List.mem_cons_of_mem _ List.mem_cons_self))) | exact (List.mem_cons_of_mem _ (List.mem_cons_of_mem _ (List.mem_cons_of_mem _ (List.mem_cons_of_mem _ List.mem_cons_self)))) | exact (List.mem_cons_of_mem _ (List.mem_cons_of_mem _ (List.mem_cons_of_mem _ (List.mem_cons_of_mem _ (List.mem_cons_of_mem _ List.mem_cons_self))))) | exact (List.mem_cons_of_mem _ (List.mem_cons_of_mem _ (List.mem_cons_of_mem _ (List.mem_cons_of_mem _ (List.mem_cons_of_mem _ (List.mem_cons_of_mem _ List.mem_cons_self)))))) | exact (List.mem_cons_of_mem _ (List.mem_cons_of_mem _ (List.mem_cons_of_mem _ (List.mem_cons_of_mem _ (List.mem_cons_of_mem _ (List.mem_cons_of_mem _ (List.mem_cons_of_mem _ List.mem_cons_self))))))))) (by (first | (simp only [List.drop_succ_cons, List.drop_zero, List.drop_nil, List.take_succ_cons, List.take_zero, List.take_nil, Nat.zero_add, Nat.add_zero, Nat.reduceAdd]; done) | (simp only [List.drop_succ_cons, List.drop_zero, List.drop_nil, List.take_succ_cons, List.take_zero, List.take_nil, Nat.zero_add, Nat.add_zero, Nat.reduceAdd]; exact rfl) | exact rfl)) rfl) (RV.tmp rfl) (Le.refl _))
theorem invert_t {m : M6 Rat} {L : Nat} (h : m.le L) (hL : L ≤ 1000) (h0 : m.det ≠ 0) : Pu Tryz.prog 27 [mq m] (Ab.tup [mq m.inv, lit .nilIface]) := by
  have hr := regular_t h (by omega) h0
  have hi := inverse_pu h hL
  have hw := awrite_pu (M6.inv_le h) (by omega)
  refine Pu.intro Tryz.func27 rfl (by kernel_rfl) fun C => ?_
  repeat (first | (refine A1 ⟨?_⟩; intros) | (refine Wcx (hr) ?_) | (refine Wdcx (hr) ?_) | (refine Wcgx (hr) ?_) | (refine Wdcgx (hr) ?_) | (refine Wcx (hi) ?_) | (refine Wdcx (hi) ?_) | (refine Wcgx (hi) ?_) | (refine Wdcgx (hi) ?_) | (refine Wcx (hw) ?_) | (refine Wdcx (hw) ?_) | (refine Wcgx (hw) ?_) | (refine Wdcgx (hw) ?_))
  ((first | refine endR ?_ | refine endN ?_); exact end2 (RV.cellA rfl (by (first | exact List.mem_cons_self | exact (List.mem_cons_of_mem _ List.mem_cons_self) | exact (List.mem_cons_of_mem _ (List.mem_cons_of_mem _ List.mem_cons_self)) | exact (List.mem_cons_of_mem _ (List.mem_cons_of_mem _ (List.mem_cons_of_mem _ List.mem_cons_self))) | exact (List.mem_cons_of_mem _ (List.mem_cons_of_mem _ (List.mem_cons_of_mem _ (List.mem_cons_of_mem _ List.mem_cons_self)))) | exact (List.mem_cons_of_mem _ (List.mem_cons_of_mem _ (List.mem_cons_of_mem _ (List.mem_cons_of_mem _ (List.mem_cons_of_mem _ List.mem_cons_self))))) | exact (List.mem_cons_of_mem _ (List.mem_cons_of_mem _ (List.mem_cons_of_mem _ (List.mem_cons_of_mem _ (List.mem_cons_of_mem _ (List.mem_cons_of_mem _ List.mem_cons_self)))))) | exact (List.mem_cons_of_mem _ (List.mem_cons_of_mem _ (List.mem_cons_of_mem _ (List.mem_cons_of_mem _ (List.mem_cons_of_mem _ (List.mem_cons_of_mem _ (List.mem_cons_of_mem _ List.mem_cons_self))))))))) (by (first | (simp only [List.drop_succ_cons, List.drop_zero, List.drop_nil, List.take_succ_cons, List.take_zero, List.take_nil, Nat.zero_add, Nat.add_zero, Nat.reduceAdd]; done) | (simp only [List.drop_succ_cons, List.drop_zero, List.drop_nil, List.take_succ_cons, List.take_zero, List.take_nil, Nat.zero_add, Nat.add_zero, Nat.reduceAdd]; exact rfl) | exact rfl)) rfl) (RV.tmp rfl) (Le.refl _))
theorem mafter_pu {m n : M6 Rat} {L : Nat} (hm : m.le L) (hn : n.le L) (hL : L ≤ 100000) : Pu Tryz.prog 26 [rm m, rm n] (rm (m.comp n)) := by
  have v1 := mvector_pu hm hL n.a n.d hn.a hn.d
  have v2 := mvector_pu hm hL n.b n.e hn.b hn.e
  have v3 := mapply_pu hm hL n.c n.f hn.c hn.f
  refine Pu.intro Tryz.func26 rfl (by kernel_rfl) fun C => ?_
  repeat (first | (refine A1 ⟨?_⟩; intros) | (refine Wcx (v1) ?_) | (refine Wdcx (v1) ?_) | (refine Wcgx (v1) ?_) | (refine Wdcgx (v1) ?_) | (refine Wcx (v2) ?_) | (refine Wdcx (v2) ?_) | (refine Wcgx (v2) ?_) | (refine Wdcgx (v2) ?_) | (refine Wcx (v3) ?_) | (refine Wdcx (v3) ?_) | (refine Wcgx (v3) ?_) | (refine Wdcgx (v3) ?_))
  ((first | refine endR ?_ | refine endN ?_); refine end1 (RV.cellA rfl (by (first | exact List.mem_cons_self | exact (List.mem_cons_of_mem _ List.mem_cons_self) | exact (List.mem_cons_of_mem _ (List.mem_cons_of_mem _ List.mem_cons_self)) | exact (List.mem_cons_of_mem _ (List.mem_cons_of_mem _ (List.mem_cons_of_mem _ List.mem_cons_self))) | exact (List.mem_cons_of_mem _ (List.mem_cons_of_mem _ (List.mem_cons_of_mem _ (List.mem_cons_of_mem _ List.mem_cons_self)))) | exact (List.mem_cons_of_mem _ (List.mem_cons_of_mem _ (List.mem_cons_of_mem _ (List.mem_cons_of_mem _ (List.mem_cons_of_mem _ List.mem_cons_self))))) | exact (List.mem_cons_of_mem _ (List.mem_cons_of_mem _ (List.mem_cons_of_mem _ (List.mem_cons_of_mem _ (List.mem_cons_of_mem _ (List.mem_cons_of_mem _ List.mem_cons_self)))))) | exact (List.mem_cons_of_mem _ (List.mem_cons_of_mem _ (List.mem_cons_of_mem _ (List.mem_cons_of_mem _ (List.mem_cons_of_mem _ (List.mem_cons_of_mem _ (List.mem_cons_of_mem _ List.mem_cons_self))))))))) (by (first | (simp only [List.drop_succ_cons, List.drop_zero, List.drop_nil, List.take_succ_cons, List.take_zero, List.take_nil, Nat.zero_add, Nat.add_zero, Nat.reduceAdd]; done) | (simp only [List.drop_succ_cons, List.drop_zero, List.drop_nil, List.take_succ_cons, List.take_zero, List.take_nil, Nat.zero_add, Nat.add_zero, Nat.reduceAdd]; exact rfl) | exact rfl)) rfl) (Le.refl _))
theorem minvert_pu {m : M6 Rat} {L : Nat} (h : m.le L) (hL : L ≤ 1000) (h0 : m.det ≠ 0) : Pu Tryz.prog 31 [rm m] (rm m.inv) := by
  have hd0 := M6.det_ht h
  have hi := ht_inv m.det
  have hd := mdet_pu h (by omega)
  rw [Rat.mul_comm m.b m.d, show m.a * m.e - m.d * m.b = m.det from rfl] at hd
  have hn0 : m.det.num ≠ 0 := fun e => h0 (Rat.num_eq_zero.1 e)
  obtain ⟨ha, hb, hc, hd', he, hf⟩ := h
  have o1 := rover_pu m.e m.det (by omega) (by omega) hn0
  have o2 := rover_pu m.b m.det (by omega) (by omega) hn0
  have o3 := rover_pu m.d m.det (by omega) (by omega) hn0
  have o4 := rover_pu m.a m.det (by omega) (by omega) hn0
  rw [Rat.div_def] at o1 o2 o3 o4
  have l1 := ht_mul m.e m.det⁻¹
  have l2 := ht_mul m.d m.det⁻¹
  have l3 := ht_mul m.b m.det⁻¹
  have l4 := ht_mul m.a m.det⁻¹
  have p2 := ropp_pu (m.b * m.det⁻¹) (by omega)
  have p3 := ropp_pu (m.d * m.det⁻¹) (by omega)
  rw [← Rat.neg_mul] at p2 p3
  have m2 := ht_neg (m.b * m.det⁻¹)
  have m3 := ht_neg (m.d * m.det⁻¹)
  rw [← Rat.neg_mul] at m2 m3
  have h00 := ht_zero
  have v := mvector_pu (m := ⟨m.e * m.det⁻¹, -m.b * m.det⁻¹, 0, -m.d * m.det⁻¹, m.a * m.det⁻¹, 0⟩) (L := 10000) ⟨by simp only; omega, by simp only; omega, by simp only; omega, by simp only; omega, by simp only; omega, by simp only; omega⟩ (by omega) m.c m.f (by omega) (by omega)
  have k1 := ht_mul (m.e * m.det⁻¹) m.c
  have k2 := ht_mul (-m.b * m.det⁻¹) m.f
  have k3 := ht_mul (-m.d * m.det⁻¹) m.c
  have k4 := ht_mul (m.a * m.det⁻¹) m.f
  have k5 := ht_add (m.e * m.det⁻¹ * m.c) (-m.b * m.det⁻¹ * m.f)
  have k6 := ht_add (-m.d * m.det⁻¹ * m.c) (m.a * m.det⁻¹ * m.f)
  have q1 := ropp_pu (m.e * m.det⁻¹ * m.c + -m.b * m.det⁻¹ * m.f) (by omega)
  have q2 := ropp_pu (-m.d * m.det⁻¹ * m.c + m.a * m.det⁻¹ * m.f) (by omega)
  have v' := v.arg (l' := [ag [lit (.bool (decide ((m.e * m.det⁻¹).num < 0))), nat (m.e * m.det⁻¹).num.natAbs, dg (dden (m.e * m.det⁻¹).den), lit (.bool (decide ((-m.b * m.det⁻¹).num < 0))), nat (-m.b * m.det⁻¹).num.natAbs, dg (dden (-m.b * m.det⁻¹).den), lit (.bool false), lit (.slice none 0 0), lit (.slice none 0 0),
    lit (.bool (decide ((-m.d * m.det⁻¹).num < 0))), nat (-m.d * m.det⁻¹).num.natAbs, dg (dden (-m.d * m.det⁻¹).den), lit (.bool (decide ((m.a * m.det⁻¹).num < 0))), nat (m.a * m.det⁻¹).num.natAbs, dg (dden (m.a * m.det⁻¹).den), lit (.bool false), lit (.slice none 0 0), lit (.slice none 0 0)], rp m.c m.f])
    ⟨Le.ag (by repeat (first | exact trivial | refine ⟨?_, ?_⟩ | exact Le.refl _ | exact leN0 | exact leD0)), Le.refl _, trivial⟩
  clear k1 k2 k3 k4 k5 k6 l1 l2 l3 l4 hd0 hi m2 m3 v
  refine Pu.intro Tryz.func31 rfl (by kernel_rfl) fun C => ?_
  repeat (first | (refine A1 ⟨?_⟩; intros) | (refine Wcx (hd) ?_) | (refine Wdcx (hd) ?_) | (refine Wcgx (hd) ?_) | (refine Wdcgx (hd) ?_) | (refine Wcx (o1) ?_) | (refine Wdcx (o1) ?_) | (refine Wcgx (o1) ?_) | (refine Wdcgx (o1) ?_) | (refine Wcx (o2) ?_) | (refine Wdcx (o2) ?_) | (refine Wcgx (o2) ?_) | (refine Wdcgx (o2) ?_) | (refine Wcx (p2) ?_) | (refine Wdcx (p2) ?_) | (refine Wcgx (p2) ?_) | (refine Wdcgx (p2) ?_) | (refine Wcx (o3) ?_) | (refine Wdcx (o3) ?_) | (refine Wcgx (o3) ?_) | (refine Wdcgx (o3) ?_) | (refine Wcx (p3) ?_) | (refine Wdcx (p3) ?_) | (refine Wcgx (p3) ?_) | (refine Wdcgx (p3) ?_) | (refine Wcx (o4) ?_) | (refine Wdcx (o4) ?_) | (refine Wcgx (o4) ?_) | (refine Wdcgx (o4) ?_) | (refine Wcx (v') ?_) | (refine Wdcx (v') ?_) | (refine Wcgx (v') ?_) | (refine Wdcgx (v') ?_) | (refine Wcx (q1) ?_) | (refine Wdcx (q1) ?_) | (refine Wcgx (q1) ?_) | (refine Wdcgx (q1) ?_) | (refine Wcx (q2) ?_) | (refine Wdcx (q2) ?_) | (refine Wcgx (q2) ?_) | (refine Wdcgx (q2) ?_))
  ((first | refine endR ?_ | refine endN ?_); refine end1 (RV.cellA rfl (by (first | exact List.mem_cons_self | exact (List.mem_cons_of_mem _ List.mem_cons_self) | exact (List.mem_cons_of_mem _ (List.mem_cons_of_mem _ List.mem_cons_self)) | exact (List.mem_cons_of_mem _ (List.mem_cons_of_mem _ (List.mem_cons_of_mem _ List.mem_cons_self))) | exact (List.mem_cons_of_mem _ (List.mem_cons_of_mem _ (List.mem_cons_of_mem _ (List.mem_cons_of_mem _ List.mem_cons_self)))) | exact (List.mem_cons_of_mem _ (List.mem_cons_of_mem _ (List.mem_cons_of_mem _ (List.mem_cons_of_mem _ (List.mem_cons_of_mem _ List.mem_cons_self))))) | exact (List.mem_cons_of_mem _ (List.mem_cons_of_mem _ (List.mem_cons_of_mem _ (List.mem_cons_of_mem _ (List.mem_cons_of_mem _ (List.mem_cons_of_mem _ List.mem_cons_self)))))) | exact (List.mem_cons_of_mem _ (List.mem_cons_of_mem _ (List.mem_cons_of_mem _ (List.mem_cons_of_mem _ (List.mem_cons_of_mem _ (List.mem_cons_of_mem _ (List.mem_cons_of_mem _ List.mem_cons_self))))))))) (by (first | (simp only [List.drop_succ_cons, List.drop_zero, List.drop_nil, List.take_succ_cons, List.take_zero, List.take_nil, Nat.zero_add, Nat.add_zero, Nat.reduceAdd]; done) | (simp only [List.drop_succ_cons, List.drop_zero, List.drop_nil, List.take_succ_cons, List.take_zero, List.take_nil, Nat.zero_add, Nat.add_zero, Nat.reduceAdd]; exact rfl) | exact rfl)) rfl) (Le.refl _))
end Go.Ab
