/- The reference's rationals: sums and products. -/
import Derived.Test.YthgobgompobhhaaGreatDoorRefE
import Derived.Test.YthgobgompobhhaaGreatDoorFracD
namespace Go.Ab
open Go.Proofs
set_option linter.unusedSectionVars false
variable [Base]
theorem rq_int (z : Int) : rq (z : Rat) = ag [lit (.bool (decide (z < 0))), nat z.natAbs, dg []] := by
  rw [rq, Rat.num_intCast, Rat.den_intCast, dden_one]
theorem rof_pu (z : Int) (h0 : -9223372036854775808 ≤ z) (h1 : z ≤ 9223372036854775807) : Pu Tryz.prog 13 [lit (.int .i64 z)] (rq (z : Rat)) := by
  rw [rq_int]
  refine Pu.intro Tryz.func13 rfl (by kernel_rfl) fun C => ?_
  repeat (refine A1 ⟨?_⟩; intros)
  refine Wc (rint_pu z h0 h1) ?_
  repeat (refine A1 ⟨?_⟩; intros)
  refine endR (end1 (RV.cellA rfl List.mem_cons_self rfl rfl) (Le.ag ⟨Le.refl _, Le.refl _, le_nil, trivial⟩))
theorem rs_pu (x : Rat) (h : ht x ≤ 10000000) : Pu Tryz.prog 28 [rq x] (lit (.int .i64 x.num.sign)) := by
  have b1 := ht_num x
  have hb : (dgs x.num.natAbs).length ≤ 1000000000 := by have : il x.num = (dgs x.num.natAbs).length := rfl; omega
  refine Pu.intro Tryz.func28 rfl (by kernel_rfl) fun C => ?_
  repeat (refine A1 ⟨?_⟩; intros)
  refine Wc (rsign_int x.num hb) ?_
  repeat (refine A1 ⟨?_⟩; intros)
  ((first | refine endR ?_ | refine endN ?_); exact end1 (RV.tmp rfl) (Le.refl _))
theorem ropp_pu (x : Rat) (h : ht x ≤ 10000000) : Pu Tryz.prog 77 [rq x] (rq (-x)) := by
  have b1 := ht_num x
  have hb : (dgs x.num.natAbs).length ≤ 1000000000 := by have : il x.num = (dgs x.num.natAbs).length := rfl; omega
  rw [show rq (-x) = ag [lit (.bool (decide (-x.num < 0))), nat (-x.num).natAbs, dg (dden x.den)] from by rw [rq, Rat.neg_num, Rat.neg_den]]
  refine Pu.intro Tryz.func77 rfl (by kernel_rfl) fun C => ?_
  repeat (refine A1 ⟨?_⟩; intros)
  refine Wdc (rminus_int x.num hb) ?_
  repeat (refine A1 ⟨?_⟩; intros)
  ((first | refine endR ?_ | refine endN ?_); refine end1 (RV.cellA rfl (by (first | exact List.mem_cons_self | exact (List.mem_cons_of_mem _ List.mem_cons_self) | exact (List.mem_cons_of_mem _ (List.mem_cons_of_mem _ List.mem_cons_self)) | exact (List.mem_cons_of_mem _ (List.mem_cons_of_mem _ (List.mem_cons_of_mem _ List.mem_cons_self))) | exact (List.mem_cons_of_mem _ (List.mem_cons_of_mem _ (List.mem_cons_of_mem _ (List.mem_cons_of_mem _ List.mem_cons_self)))) | exact (List.mem_cons_of_mem _ (List.mem_cons_of_mem _ (List.mem_cons_of_mem _ (List.mem_cons_of_mem _ (List.mem_cons_of_mem _ List.mem_cons_self))))) | exact (List.mem_cons_of_mem _ (List.mem_cons_of_mem _ (List.mem_cons_of_mem _ (List.mem_cons_of_mem _ (List.mem_cons_of_mem _ (List.mem_cons_of_mem _ List.mem_cons_self)))))) | exact (List.mem_cons_of_mem _ (List.mem_cons_of_mem _ (List.mem_cons_of_mem _ (List.mem_cons_of_mem _ (List.mem_cons_of_mem _ (List.mem_cons_of_mem _ (List.mem_cons_of_mem _ List.mem_cons_self))))))))) (by (first | (simp only [List.drop_succ_cons, List.drop_zero, List.drop_nil, List.take_succ_cons, List.take_zero, List.take_nil, Nat.zero_add, Nat.add_zero, Nat.reduceAdd]; done) | (simp only [List.drop_succ_cons, List.drop_zero, List.drop_nil, List.take_succ_cons, List.take_zero, List.take_nil, Nat.zero_add, Nat.add_zero, Nat.reduceAdd]; exact rfl) | exact rfl)) rfl) (Le.refl _))
theorem dden_len {d : Nat} (h : d ≠ 0) : d ≠ 1 → (dden d).length ≠ 0 := fun h1 => by rw [dden_ne h1]; exact dgs_ne_nil h
theorem dden_len1 {d : Nat} (h : d = 1) : (dden d).length = 0 := by rw [h, dden_one]; rfl
theorem dden_le (d : Nat) : (dden d).length ≤ (dgs d).length := by unfold dden; split <;> simp
theorem times_whole {x y : Rat} (h1 : x.den = 1) (h2 : y.den = 1) : x * y = ((x.num * y.num : Int) : Rat) := by
  rw [Rat.mul_def', h1, h2, Nat.mul_one, Rat.mkRat_one]
theorem rtimes_pu (x y : Rat) (hx : ht x ≤ 3000000) (hy : ht y ≤ 3000000) : Pu Tryz.prog 63 [rq x, rq y] (rq (x * y)) := by
  have n1 := ht_num x
  have n2 := ht_num y
  have d1 := ht_den x
  have d2 := ht_den y
  have m1 := il_mul x.num y.num
  have m2 := dlen_mul x.den y.den
  have l1 := dden_le x.den
  have l2 := dden_le y.den
  have mi := rmul_int x.num y.num (show il x.num ≤ 100000000 by omega) (show il y.num ≤ 100000000 by omega)
  have fr := rfrac_pu (x.num * y.num) (x.den * y.den) (by omega) (by omega) (Nat.mul_ne_zero x.den_nz y.den_nz)
  by_cases hx1 : x.den = 1
  · have k1 := dden_len1 hx1
    by_cases hy1 : y.den = 1
    · have k2 := dden_len1 hy1
      rw [times_whole hx1 hy1, rq_int]
      refine Pu.intro Tryz.func63 rfl (by kernel_rfl) fun C => ?_
      repeat (refine A1 ⟨?_⟩; intros)
      refine Wc mi ?_
      repeat (refine A1 ⟨?_⟩; intros)
      refine endR (end1 (RV.cellA rfl List.mem_cons_self rfl rfl) (Le.ag ⟨Le.refl _, Le.refl _, le_nil, trivial⟩))
    · have k2 := dden_len y.den_nz hy1
      rw [Rat.mul_def']
      refine Pu.intro Tryz.func63 rfl (by kernel_rfl) fun C => ?_
      repeat (refine A1 ⟨?_⟩; intros)
      refine Wdc mi ?_
      repeat (refine A1 ⟨?_⟩; intros)
      refine Wdc (rden_pu x) ?_
      repeat (refine A1 ⟨?_⟩; intros)
      refine Wdc (rden_pu y) ?_
      repeat (refine A1 ⟨?_⟩; intros)
      refine Wdc (rprod_pu x.den y.den (by omega) (by omega)) ?_
      repeat (refine A1 ⟨?_⟩; intros)
      refine Wdc fr ?_
      repeat (refine A1 ⟨?_⟩; intros)
      ((first | refine endR ?_ | refine endN ?_); refine end1 (RV.cellA rfl (by (first | exact List.mem_cons_self | exact (List.mem_cons_of_mem _ List.mem_cons_self) | exact (List.mem_cons_of_mem _ (List.mem_cons_of_mem _ List.mem_cons_self)) | exact (List.mem_cons_of_mem _ (List.mem_cons_of_mem _ (List.mem_cons_of_mem _ List.mem_cons_self))) | exact (List.mem_cons_of_mem _ (List.mem_cons_of_mem _ (List.mem_cons_of_mem _ (List.mem_cons_of_mem _ List.mem_cons_self)))) | exact (List.mem_cons_of_mem _ (List.mem_cons_of_mem _ (List.mem_cons_of_mem _ (List.mem_cons_of_mem _ (List.mem_cons_of_mem _ List.mem_cons_self))))) | exact (List.mem_cons_of_mem _ (List.mem_cons_of_mem _ (List.mem_cons_of_mem _ (List.mem_cons_of_mem _ (List.mem_cons_of_mem _ (List.mem_cons_of_mem _ List.mem_cons_self)))))) | exact (List.mem_cons_of_mem _ (List.mem_cons_of_mem _ (List.mem_cons_of_mem _ (List.mem_cons_of_mem _ (List.mem_cons_of_mem _ (List.mem_cons_of_mem _ (List.mem_cons_of_mem _ List.mem_cons_self))))))))) (by (first | (simp only [List.drop_succ_cons, List.drop_zero, List.drop_nil, List.take_succ_cons, List.take_zero, List.take_nil, Nat.zero_add, Nat.add_zero, Nat.reduceAdd]; done) | (simp only [List.drop_succ_cons, List.drop_zero, List.drop_nil, List.take_succ_cons, List.take_zero, List.take_nil, Nat.zero_add, Nat.add_zero, Nat.reduceAdd]; exact rfl) | exact rfl)) rfl) (Le.refl _))
  · have k1 := dden_len x.den_nz hx1
    rw [Rat.mul_def']
    refine Pu.intro Tryz.func63 rfl (by kernel_rfl) fun C => ?_
    repeat (refine A1 ⟨?_⟩; intros)
    refine Wdc mi ?_
    repeat (refine A1 ⟨?_⟩; intros)
    refine Wdc (rden_pu x) ?_
    repeat (refine A1 ⟨?_⟩; intros)
    refine Wdc (rden_pu y) ?_
    repeat (refine A1 ⟨?_⟩; intros)
    refine Wdc (rprod_pu x.den y.den (by omega) (by omega)) ?_
    repeat (refine A1 ⟨?_⟩; intros)
    refine Wdc fr ?_
    repeat (refine A1 ⟨?_⟩; intros)
    ((first | refine endR ?_ | refine endN ?_); refine end1 (RV.cellA rfl (by (first | exact List.mem_cons_self | exact (List.mem_cons_of_mem _ List.mem_cons_self) | exact (List.mem_cons_of_mem _ (List.mem_cons_of_mem _ List.mem_cons_self)) | exact (List.mem_cons_of_mem _ (List.mem_cons_of_mem _ (List.mem_cons_of_mem _ List.mem_cons_self))) | exact (List.mem_cons_of_mem _ (List.mem_cons_of_mem _ (List.mem_cons_of_mem _ (List.mem_cons_of_mem _ List.mem_cons_self)))) | exact (List.mem_cons_of_mem _ (List.mem_cons_of_mem _ (List.mem_cons_of_mem _ (List.mem_cons_of_mem _ (List.mem_cons_of_mem _ List.mem_cons_self))))) | exact (List.mem_cons_of_mem _ (List.mem_cons_of_mem _ (List.mem_cons_of_mem _ (List.mem_cons_of_mem _ (List.mem_cons_of_mem _ (List.mem_cons_of_mem _ List.mem_cons_self)))))) | exact (List.mem_cons_of_mem _ (List.mem_cons_of_mem _ (List.mem_cons_of_mem _ (List.mem_cons_of_mem _ (List.mem_cons_of_mem _ (List.mem_cons_of_mem _ (List.mem_cons_of_mem _ List.mem_cons_self))))))))) (by (first | (simp only [List.drop_succ_cons, List.drop_zero, List.drop_nil, List.take_succ_cons, List.take_zero, List.take_nil, Nat.zero_add, Nat.add_zero, Nat.reduceAdd]; done) | (simp only [List.drop_succ_cons, List.drop_zero, List.drop_nil, List.take_succ_cons, List.take_zero, List.take_nil, Nat.zero_add, Nat.add_zero, Nat.reduceAdd]; exact rfl) | exact rfl)) rfl) (Le.refl _))
set_option maxHeartbeats 1000000 in
theorem rplus_pu (x y : Rat) (hx : ht x ≤ 3000000) (hy : ht y ≤ 3000000) : Pu Tryz.prog 68 [rq x, rq y] (rq (x + y)) := by
  have n1 := ht_num x
  have n2 := ht_num y
  have d1 := ht_den x
  have d2 := ht_den y
  have m1 := il_mul x.num y.den
  have m2 := il_mul y.num x.den
  have m3 := il_add (x.num * y.den) (y.num * x.den)
  have m4 := dlen_mul x.den y.den
  rw [il_nat] at m1 m2
  have l1 := dden_le x.den
  have l2 := dden_le y.den
  have mi1 := rmul_int x.num y.den (show il x.num ≤ 100000000 by omega) (show (dgs y.den).length ≤ 100000000 by omega)
  have mi2 := rmul_int y.num x.den (show il y.num ≤ 100000000 by omega) (show (dgs x.den).length ≤ 100000000 by omega)
  rw [← sv_nat] at mi1 mi2
  have ai := radd_int (x.num * y.den) (y.num * x.den) (show il _ ≤ 100000000 by omega) (show il _ ≤ 100000000 by omega)
  have aw := radd_int x.num y.num (show il _ ≤ 100000000 by omega) (show il _ ≤ 100000000 by omega)
  have fr := rfrac_pu (x.num * y.den + y.num * x.den) (x.den * y.den) (by omega) (by omega) (Nat.mul_ne_zero x.den_nz y.den_nz)
  by_cases hx1 : x.den = 1
  · have k1 := dden_len1 hx1
    by_cases hy1 : y.den = 1
    · have k2 := dden_len1 hy1
      rw [add_whole hx1 hy1, rq_int]
      refine Pu.intro Tryz.func68 rfl (by kernel_rfl) fun C => ?_
      repeat (refine A1 ⟨?_⟩; intros)
      refine Wc aw ?_
      repeat (refine A1 ⟨?_⟩; intros)
      refine endR (end1 (RV.cellA rfl List.mem_cons_self rfl rfl) (Le.ag ⟨Le.refl _, Le.refl _, le_nil, trivial⟩))
    · have k2 := dden_len y.den_nz hy1
      rw [Rat.add_def']
      refine Pu.intro Tryz.func68 rfl (by kernel_rfl) fun C => ?_
      repeat (refine A1 ⟨?_⟩; intros)
      refine Wdc (rden_pu y) ?_
      repeat (refine A1 ⟨?_⟩; intros)
      refine Wdc (rmake_pu false y.den (by omega)) ?_
      repeat (refine A1 ⟨?_⟩; intros)
      refine Wdc mi1 ?_
      repeat (refine A1 ⟨?_⟩; intros)
      refine Wdc (rden_pu x) ?_
      repeat (refine A1 ⟨?_⟩; intros)
      refine Wdc (rmake_pu false x.den (by omega)) ?_
      repeat (refine A1 ⟨?_⟩; intros)
      refine Wdc mi2 ?_
      repeat (refine A1 ⟨?_⟩; intros)
      refine Wdc ai ?_
      repeat (refine A1 ⟨?_⟩; intros)
      refine Wdc (rden_pu x) ?_
      repeat (refine A1 ⟨?_⟩; intros)
      refine Wdc (rden_pu y) ?_
      repeat (refine A1 ⟨?_⟩; intros)
      refine Wdc (rprod_pu x.den y.den (by omega) (by omega)) ?_
      repeat (refine A1 ⟨?_⟩; intros)
      refine Wdc fr ?_
      repeat (refine A1 ⟨?_⟩; intros)
      ((first | refine endR ?_ | refine endN ?_); refine end1 (RV.cellA rfl (by (first | exact List.mem_cons_self | exact (List.mem_cons_of_mem _ List.mem_cons_self) | exact (List.mem_cons_of_mem _ (List.mem_cons_of_mem _ List.mem_cons_self)) | exact (List.mem_cons_of_mem _ (List.mem_cons_of_mem _ (List.mem_cons_of_mem _ List.mem_cons_self))) | exact (List.mem_cons_of_mem _ (List.mem_cons_of_mem _ (List.mem_cons_of_mem _ (List.mem_cons_of_mem _ List.mem_cons_self)))) | exact (List.mem_cons_of_mem _ (List.mem_cons_of_mem _ (List.mem_cons_of_mem _ (List.mem_cons_of_mem _ (List.mem_cons_of_mem _ List.mem_cons_self))))) | exact (List.mem_cons_of_mem _ (List.mem_cons_of_mem _ (List.mem_cons_of_mem _ (List.mem_cons_of_mem _ (List.mem_cons_of_mem _ (List.mem_cons_of_mem _ List.mem_cons_self)))))) | exact (List.mem_cons_of_mem _ (List.mem_cons_of_mem _ (List.mem_cons_of_mem _ (List.mem_cons_of_mem _ (List.mem_cons_of_mem _ (List.mem_cons_of_mem _ (List.mem_cons_of_mem _ List.mem_cons_self))))))))) (by (first | (simp only [List.drop_succ_cons, List.drop_zero, List.drop_nil, List.take_succ_cons, List.take_zero, List.take_nil, Nat.zero_add, Nat.add_zero, Nat.reduceAdd]; done) | (simp only [List.drop_succ_cons, List.drop_zero, List.drop_nil, List.take_succ_cons, List.take_zero, List.take_nil, Nat.zero_add, Nat.add_zero, Nat.reduceAdd]; exact rfl) | exact rfl)) rfl) (Le.refl _))
  · have k1 := dden_len x.den_nz hx1
    rw [Rat.add_def']
    refine Pu.intro Tryz.func68 rfl (by kernel_rfl) fun C => ?_
    repeat (refine A1 ⟨?_⟩; intros)
    refine Wdc (rden_pu y) ?_
    repeat (refine A1 ⟨?_⟩; intros)
    refine Wdc (rmake_pu false y.den (by omega)) ?_
    repeat (refine A1 ⟨?_⟩; intros)
    refine Wdc mi1 ?_
    repeat (refine A1 ⟨?_⟩; intros)
    refine Wdc (rden_pu x) ?_
    repeat (refine A1 ⟨?_⟩; intros)
    refine Wdc (rmake_pu false x.den (by omega)) ?_
    repeat (refine A1 ⟨?_⟩; intros)
    refine Wdc mi2 ?_
    repeat (refine A1 ⟨?_⟩; intros)
    refine Wdc ai ?_
    repeat (refine A1 ⟨?_⟩; intros)
    refine Wdc (rden_pu x) ?_
    repeat (refine A1 ⟨?_⟩; intros)
    refine Wdc (rden_pu y) ?_
    repeat (refine A1 ⟨?_⟩; intros)
    refine Wdc (rprod_pu x.den y.den (by omega) (by omega)) ?_
    repeat (refine A1 ⟨?_⟩; intros)
    refine Wdc fr ?_
    repeat (refine A1 ⟨?_⟩; intros)
    ((first | refine endR ?_ | refine endN ?_); refine end1 (RV.cellA rfl (by (first | exact List.mem_cons_self | exact (List.mem_cons_of_mem _ List.mem_cons_self) | exact (List.mem_cons_of_mem _ (List.mem_cons_of_mem _ List.mem_cons_self)) | exact (List.mem_cons_of_mem _ (List.mem_cons_of_mem _ (List.mem_cons_of_mem _ List.mem_cons_self))) | exact (List.mem_cons_of_mem _ (List.mem_cons_of_mem _ (List.mem_cons_of_mem _ (List.mem_cons_of_mem _ List.mem_cons_self)))) | exact (List.mem_cons_of_mem _ (List.mem_cons_of_mem _ (List.mem_cons_of_mem _ (List.mem_cons_of_mem _ (List.mem_cons_of_mem _ List.mem_cons_self))))) | exact (List.mem_cons_of_mem _ (List.mem_cons_of_mem _ (List.mem_cons_of_mem _ (List.mem_cons_of_mem _ (List.mem_cons_of_mem _ (List.mem_cons_of_mem _ List.mem_cons_self)))))) | exact (List.mem_cons_of_mem _ (List.mem_cons_of_mem _ (List.mem_cons_of_mem _ (List.mem_cons_of_mem _ (List.mem_cons_of_mem _ (List.mem_cons_of_mem _ (List.mem_cons_of_mem _ List.mem_cons_self))))))))) (by (first | (simp only [List.drop_succ_cons, List.drop_zero, List.drop_nil, List.take_succ_cons, List.take_zero, List.take_nil, Nat.zero_add, Nat.add_zero, Nat.reduceAdd]; done) | (simp only [List.drop_succ_cons, List.drop_zero, List.drop_nil, List.take_succ_cons, List.take_zero, List.take_nil, Nat.zero_add, Nat.add_zero, Nat.reduceAdd]; exact rfl) | exact rfl)) rfl) (Le.refl _))
theorem rqsub_pu (x y : Rat) (hx : ht x ≤ 3000000) (hy : ht y ≤ 3000000) : Pu Tryz.prog 62 [rq x, rq y] (rq (x - y)) := by
  rw [Rat.sub_eq_add_neg]
  refine Pu.intro Tryz.func62 rfl (by kernel_rfl) fun C => ?_
  repeat (refine A1 ⟨?_⟩; intros)
  refine Wdc (ropp_pu y (by omega)) ?_
  repeat (refine A1 ⟨?_⟩; intros)
  refine Wdc (rplus_pu x (-y) hx (by rw [ht_neg]; exact hy)) ?_
  repeat (refine A1 ⟨?_⟩; intros)
  ((first | refine endR ?_ | refine endN ?_); refine end1 (RV.cellA rfl (by (first | exact List.mem_cons_self | exact (List.mem_cons_of_mem _ List.mem_cons_self) | exact (List.mem_cons_of_mem _ (List.mem_cons_of_mem _ List.mem_cons_self)) | exact (List.mem_cons_of_mem _ (List.mem_cons_of_mem _ (List.mem_cons_of_mem _ List.mem_cons_self))) | exact (List.mem_cons_of_mem _ (List.mem_cons_of_mem _ (List.mem_cons_of_mem _ (List.mem_cons_of_mem _ List.mem_cons_self)))) | exact (List.mem_cons_of_mem _ (List.mem_cons_of_mem _ (List.mem_cons_of_mem _ (List.mem_cons_of_mem _ (List.mem_cons_of_mem _ List.mem_cons_self))))) | exact (List.mem_cons_of_mem _ (List.mem_cons_of_mem _ (List.mem_cons_of_mem _ (List.mem_cons_of_mem _ (List.mem_cons_of_mem _ (List.mem_cons_of_mem _ List.mem_cons_self)))))) | exact (List.mem_cons_of_mem _ (List.mem_cons_of_mem _ (List.mem_cons_of_mem _ (List.mem_cons_of_mem _ (List.mem_cons_of_mem _ (List.mem_cons_of_mem _ (List.mem_cons_of_mem _ List.mem_cons_self))))))))) (by (first | (simp only [List.drop_succ_cons, List.drop_zero, List.drop_nil, List.take_succ_cons, List.take_zero, List.take_nil, Nat.zero_add, Nat.add_zero, Nat.reduceAdd]; done) | (simp only [List.drop_succ_cons, List.drop_zero, List.drop_nil, List.take_succ_cons, List.take_zero, List.take_nil, Nat.zero_add, Nat.add_zero, Nat.reduceAdd]; exact rfl) | exact rfl)) rfl) (Le.refl _))
theorem rc_pu (x y : Rat) (hx : ht x ≤ 3000000) (hy : ht y ≤ 3000000) : Pu Tryz.prog 73 [rq x, rq y] (lit (.int .i64 (x - y).num.sign)) := by
  have h := ht_sub x y
  refine Pu.intro Tryz.func73 rfl (by kernel_rfl) fun C => ?_
  repeat (refine A1 ⟨?_⟩; intros)
  refine Wc (rqsub_pu x y hx hy) ?_
  repeat (refine A1 ⟨?_⟩; intros)
  refine Wc (rs_pu (x - y) (by omega)) ?_
  repeat (refine A1 ⟨?_⟩; intros)
  ((first | refine endR ?_ | refine endN ?_); exact end1 (RV.tmp rfl) (Le.refl _))
end Go.Ab
