/- Package affine: Translation; the law AffineRough, walked. -/
import Derived.Test.YthgobgompobhhaaGreatDoorRef4
import Derived.Test.YthgobgompobhhaaGreatDoorScene1
namespace Go.Ab
open Go.Proofs
set_option linter.unusedSectionVars false
variable [Base]
theorem small0 : small 0 := by unfold small; rw [show (0 : Rat).num = 0 from rfl, show (0 : Rat).den = 1 from rfl]; omega
theorem r0_zero : r0 0 = 0 := r0_s small0
theorem r1_zero : r1 0 = 0 := (if_pos small0).trans (by rw [show (0 : Rat).den = 1 from rfl]; rfl)
theorem r2_zero : r2 0 = lit (.pointer none) := if_pos small0
theorem ht_zero : ht 0 = 1 := by
  unfold ht il
  rw [show (0 : Rat).num = 0 from rfl, show (0 : Rat).den = 1 from rfl, show (0 : Int).natAbs = 0 from rfl, dgs_zero, dgs_one]; rfl
theorem ptOf_q (x y : Rat) (hx : ht x ≤ 100000) (hy : ht y ≤ 100000) : Pu Tryz.prog 54 [pq x y] (pp x y) := by
  have := ptOf_pu (RQ.of_ok hx) (RQ.of_ok hy) (by omega)
  rwa [RQ.of_v, RQ.of_v] at this
theorem fint1 : Pu Tryz.prog 53 [lit (.int .i64 1)] (fr 1) := fint_pu 1 (by omega) (by omega)
theorem translation_pu (x y : Rat) (hx : ht x ≤ 10000) (hy : ht y ≤ 10000) : Pu Tryz.prog 14 [pq x y] (mq ⟨1, 0, x, 0, 1, y⟩) := by
  have h0 := ht_zero
  have h1 := ht_one
  have hw := awrite_pu (m := ⟨1, 0, x, 0, 1, y⟩) (L := 10000) ⟨by simp only; omega, by simp only; omega, hx, by simp only; omega, by simp only; omega, hy⟩ (by omega)
  simp only [mf, r0_zero, r1_zero, r2_zero] at hw
  refine Pu.intro Tryz.func14 rfl (by kernel_rfl) fun C => ?_
  repeat (first | (refine A1 ⟨?_⟩; intros) | (refine Wcx (fint1) ?_) | (refine Wdcx (fint1) ?_) | (refine Wcgx (fint1) ?_) | (refine Wdcgx (fint1) ?_) | (refine Wcx (ptOf_q x y (by omega) (by omega)) ?_) | (refine Wdcx (ptOf_q x y (by omega) (by omega)) ?_) | (refine Wcgx (ptOf_q x y (by omega) (by omega)) ?_) | (refine Wdcgx (ptOf_q x y (by omega) (by omega)) ?_) | (refine Wcx (hw) ?_) | (refine Wdcx (hw) ?_) | (refine Wcgx (hw) ?_) | (refine Wdcgx (hw) ?_))
  ((first | refine endR ?_ | refine endN ?_); refine end1 (RV.cellA rfl (by (first | exact List.mem_cons_self | exact (List.mem_cons_of_mem _ List.mem_cons_self) | exact (List.mem_cons_of_mem _ (List.mem_cons_of_mem _ List.mem_cons_self)) | exact (List.mem_cons_of_mem _ (List.mem_cons_of_mem _ (List.mem_cons_of_mem _ List.mem_cons_self))) | exact (List.mem_cons_of_mem _ (List.mem_cons_of_mem _ (List.mem_cons_of_mem _ (List.mem_cons_of_mem _ List.mem_cons_self)))) | exact (List.mem_cons_of_mem _ (List.mem_cons_of_mem _ (List.mem_cons_of_mem _ (List.mem_cons_of_mem _ (List.mem_cons_of_mem _ List.mem_cons_self))))) | exact (List.mem_cons_of_mem _ (List.mem_cons_of_mem _ (List.mem_cons_of_mem _ (List.mem_cons_of_mem _ (List.mem_cons_of_mem _ (List.mem_cons_of_mem _ List.mem_cons_self)))))) | exact (List.mem_cons_of_mem _ (List.mem_cons_of_mem _ (List.mem_cons_of_mem _ (List.mem_cons_of_mem _ (List.mem_cons_of_mem _ (List.mem_cons_of_mem _ (List.mem_cons_of_mem _ List.mem_cons_self))))))))) (by (first | (simp only [List.drop_succ_cons, List.drop_zero, List.drop_nil, List.take_succ_cons, List.take_zero, List.take_nil, Nat.zero_add, Nat.add_zero, Nat.reduceAdd]; done) | (simp only [List.drop_succ_cons, List.drop_zero, List.drop_nil, List.take_succ_cons, List.take_zero, List.take_nil, Nat.zero_add, Nat.add_zero, Nat.reduceAdd]; exact rfl) | exact rfl)) rfl) (Le.refl _))
theorem sameq1 (x : Rat) (h : ht x ≤ 1000000) : Pu Tryz.prog 16 [q x, q x] (lit (.bool true)) := sameq_pu x (by omega)
/-- a rational of package api, read by the reference -/
theorem q_of (x : Rat) (h : ht x ≤ 100000) : Pu Tryz.prog 34 [q x] (rq x) := by
  have := q_pu (RQ.of_ok h) (by omega)
  rwa [RQ.of_v] at this
def M6.of (m : M6 Rat) : M6 RQ := ⟨RQ.of m.a, RQ.of m.b, RQ.of m.c, RQ.of m.d, RQ.of m.e, RQ.of m.f⟩
theorem M6.of_v (m : M6 Rat) : m.of.v = m := by
  unfold M6.of M6.v
  simp only [RQ.of_v]
theorem M6.of_ok {m : M6 Rat} {L : Nat} (h : m.le L) : m.of.ok L := ⟨RQ.of_ok h.a, RQ.of_ok h.b, RQ.of_ok h.c, RQ.of_ok h.d, RQ.of_ok h.e, RQ.of_ok h.f⟩
theorem aDet_q {m : M6 Rat} (h : m.le 10000) : Pu Tryz.prog 17 [mq m] (q (m.a * m.e - m.d * m.b)) := by
  have := aDet_pu (M6.of_ok h) (by omega)
  rwa [M6.of_v] at this
theorem aApply_q {m : M6 Rat} (h : m.le 10000) {x y : Rat} (hx : ht x ≤ 10000) (hy : ht y ≤ 10000) : Pu Tryz.prog 21 [mq m, pq x y] (pq (m.a * x + m.b * y + m.c) (m.d * x + m.e * y + m.f)) := by
  have := aApply_pu (M6.of_ok h) (by omega) (RQ.of_ok hx) (RQ.of_ok hy)
  rwa [M6.of_v, RQ.of_v, RQ.of_v] at this
theorem ht_small (z : Int) (h : z.natAbs < 4294967296) : ht (z : Rat) ≤ 1 := by
  unfold ht
  rw [Rat.num_intCast, Rat.den_intCast, dgs_one]
  have : il z ≤ 1 := len_le (k := 1) (by simpa using h)
  simp; omega
theorem known26 : Pu Tryz.prog 29 [] (lit (.bool true)) := by
  have h0 := ht_zero
  have h1 := ht_one
  have h2 : ht 2 ≤ 1 := ht_small 2 (by omega)
  have h3 : ht 3 ≤ 1 := ht_small 3 (by omega)
  have h4 : ht 4 ≤ 1 := ht_small 4 (by omega)
  have a1 : Pu Tryz.prog 72 [lit (.int .i64 2), lit (.int .i64 3)] (rp 2 3) := xy_pu 2 3 (by omega) (by omega) (by omega) (by omega)
  have a2 : Pu Tryz.prog 72 [lit (.int .i64 1), lit (.int .i64 1)] (rp 1 1) := xy_pu 1 1 (by omega) (by omega) (by omega) (by omega)
  have a3 : Pu Tryz.prog 72 [lit (.int .i64 3), lit (.int .i64 4)] (rp 3 4) := xy_pu 3 4 (by omega) (by omega) (by omega) (by omega)
  have b1 := toP_pu 2 3 (by omega) (by omega)
  have b2 := toP_pu 1 1 (by omega) (by omega)
  have b3 := toP_pu 3 4 (by omega) (by omega)
  have hm : (⟨1, 0, 2, 0, 1, 3⟩ : M6 Rat).le 10000 := ⟨by simp only; omega, by simp only; omega, by simp only; omega, by simp only; omega, by simp only; omega, by simp only; omega⟩
  have c1 := translation_pu 2 3 (by omega) (by omega)
  have d1 := aDet_q hm
  simp only [show (1 : Rat) * 1 - 0 * 0 = 1 from by decide +kernel] at d1
  have d2 := aApply_q hm (x := 1) (y := 1) (by omega) (by omega)
  simp only [show (1 : Rat) * 1 + 0 * 1 + 2 = 3 from by decide +kernel, show (0 : Rat) * 1 + 1 * 1 + 3 = 4 from by decide +kernel] at d2
  have e1 := q_of 1 (by omega)
  have f1 := rc_pu 1 1 (by omega) (by omega)
  rw [show ((1 : Rat) - 1).num.sign = 0 from by decide +kernel] at f1
  have g1 := sameP_pu 3 4 (by omega) (by omega)
  refine Pu.intro Tryz.func29 rfl (by kernel_rfl) fun C => ?_
  repeat (first | (refine A1 ⟨?_⟩; intros) | (refine Wcx (a1) ?_) | (refine Wdcx (a1) ?_) | (refine Wcgx (a1) ?_) | (refine Wdcgx (a1) ?_) | (refine Wcx (a2) ?_) | (refine Wdcx (a2) ?_) | (refine Wcgx (a2) ?_) | (refine Wdcgx (a2) ?_) | (refine Wcx (a3) ?_) | (refine Wdcx (a3) ?_) | (refine Wcgx (a3) ?_) | (refine Wdcgx (a3) ?_) | (refine Wcx (b1) ?_) | (refine Wdcx (b1) ?_) | (refine Wcgx (b1) ?_) | (refine Wdcgx (b1) ?_) | (refine Wcx (b2) ?_) | (refine Wdcx (b2) ?_) | (refine Wcgx (b2) ?_) | (refine Wdcgx (b2) ?_) | (refine Wcx (b3) ?_) | (refine Wdcx (b3) ?_) | (refine Wcgx (b3) ?_) | (refine Wdcgx (b3) ?_) | (refine Wcx (c1) ?_) | (refine Wdcx (c1) ?_) | (refine Wcgx (c1) ?_) | (refine Wdcgx (c1) ?_) | (refine Wcx (d1) ?_) | (refine Wdcx (d1) ?_) | (refine Wcgx (d1) ?_) | (refine Wdcgx (d1) ?_) | (refine Wcx (d2) ?_) | (refine Wdcx (d2) ?_) | (refine Wcgx (d2) ?_) | (refine Wdcgx (d2) ?_) | (refine Wcx (e1) ?_) | (refine Wdcx (e1) ?_) | (refine Wcgx (e1) ?_) | (refine Wdcgx (e1) ?_) | (refine Wcx (rof1) ?_) | (refine Wdcx (rof1) ?_) | (refine Wcgx (rof1) ?_) | (refine Wdcgx (rof1) ?_) | (refine Wcx (f1) ?_) | (refine Wdcx (f1) ?_) | (refine Wcgx (f1) ?_) | (refine Wdcgx (f1) ?_) | (refine Wcx (g1) ?_) | (refine Wdcx (g1) ?_) | (refine Wcgx (g1) ?_) | (refine Wdcgx (g1) ?_))
  ((first | refine endR ?_ | refine endN ?_); exact end1 (RV.tmp rfl) (Le.refl _))
end Go.Ab
