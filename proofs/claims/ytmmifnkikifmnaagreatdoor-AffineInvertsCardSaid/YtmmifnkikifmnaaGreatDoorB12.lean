/- Texts laid one behind the other: RefF, Geo. -/
import Derived.Test.YtmmifnkikifmnaaGreatDoorB10
import Derived.Test.YtmmifnkikifmnaaGreatDoorFracD
/- The reference's rationals: sums and products. -/
namespace Go.Ab
open Go.Proofs
set_option linter.unusedSectionVars false
set_option linter.unusedVariables false
set_option linter.unusedSimpArgs false
variable [Base]
theorem rq_int (z : Int) : rq (z : Rat) = ag [lit (.bool (decide (z < 0))), nat z.natAbs, dg []] := by
  rw [rq, Rat.num_intCast, Rat.den_intCast, dden_one]
theorem rof_pu (z : Int) (h0 : -9223372036854775808 ≤ z) (h1 : z ≤ 9223372036854775807) : Pu Tryz.prog 50 [lit (.int .i64 z)] (rq (z : Rat)) := by
  rw [rq_int]
  refine Pu.intro Tryz.func50 rfl (by kernel_rfl) fun C => ?_
  repeat (refine A1 ⟨?_⟩; intros)
  refine Wc (rint_pu z h0 h1) ?_
  repeat (refine A1 ⟨?_⟩; intros)
  refine endR (end1 (RV.cellA rfl List.mem_cons_self rfl rfl) (Le.ag ⟨Le.refl _, Le.refl _, le_nil, trivial⟩))
theorem rs_pu (x : Rat) (h : ht x ≤ 10000000) : Pu Tryz.prog 20 [rq x] (lit (.int .i64 x.num.sign)) := by
  have b1 := ht_num x
  have hb : (dgs x.num.natAbs).length ≤ 1000000000 := by have : il x.num = (dgs x.num.natAbs).length := rfl; omega
  refine Pu.intro Tryz.func20 rfl (by kernel_rfl) fun C => ?_
  repeat (refine A1 ⟨?_⟩; intros)
  refine Wc (rsign_int x.num hb) ?_
  repeat (refine A1 ⟨?_⟩; intros)
  ((first | refine endR ?_ | refine endN ?_); exact end1 (RV.tmp rfl) (Le.refl _))
theorem ropp_pu (x : Rat) (h : ht x ≤ 10000000) : Pu Tryz.prog 135 [rq x] (rq (-x)) := by
  have b1 := ht_num x
  have hb : (dgs x.num.natAbs).length ≤ 1000000000 := by have : il x.num = (dgs x.num.natAbs).length := rfl; omega
  rw [show rq (-x) = ag [lit (.bool (decide (-x.num < 0))), nat (-x.num).natAbs, dg (dden x.den)] from by rw [rq, Rat.neg_num, Rat.neg_den]]
  refine Pu.intro Tryz.func135 rfl (by kernel_rfl) fun C => ?_
  repeat (refine A1 ⟨?_⟩; intros)
  refine Wdc (rminus_int x.num hb) ?_
  repeat (refine A1 ⟨?_⟩; intros)
  ((first | refine endR ?_ | refine endN ?_); refine end1 (RV.cellA rfl (by (first | exact List.mem_cons_self | exact (List.mem_cons_of_mem _ List.mem_cons_self) | exact (List.mem_cons_of_mem _ (List.mem_cons_of_mem _ List.mem_cons_self)) | exact (List.mem_cons_of_mem _ (List.mem_cons_of_mem _ (List.mem_cons_of_mem _ List.mem_cons_self))) | exact (List.mem_cons_of_mem _ (List.mem_cons_of_mem _ (List.mem_cons_of_mem _ (List.mem_cons_of_mem _ List.mem_cons_self)))) | exact (List.mem_cons_of_mem _ (List.mem_cons_of_mem _ (List.mem_cons_of_mem _ (List.mem_cons_of_mem _ (List.mem_cons_of_mem _ List.mem_cons_self))))) | exact (List.mem_cons_of_mem _ (List.mem_cons_of_mem _ (List.mem_cons_of_mem _ (List.mem_cons_of_mem _ (List.mem_cons_of_mem _ (List.mem_cons_of_mem _ List.mem_cons_self)))))) | exact (List.mem_cons_of_mem _ (List.mem_cons_of_mem _ (List.mem_cons_of_mem _ (List.mem_cons_of_mem _ (List.mem_cons_of_mem _ (List.mem_cons_of_mem _ (List.mem_cons_of_mem _ List.mem_cons_self))))))))) (by (first | (simp only [List.drop_succ_cons, List.drop_zero, List.drop_nil, List.take_succ_cons, List.take_zero, List.take_nil, Nat.zero_add, Nat.add_zero, Nat.reduceAdd]; done) | (simp only [List.drop_succ_cons, List.drop_zero, List.drop_nil, List.take_succ_cons, List.take_zero, List.take_nil, Nat.zero_add, Nat.add_zero, Nat.reduceAdd]; exact rfl) | exact rfl)) rfl) (Le.refl _))
theorem dden_len {d : Nat} (h : d ≠ 0) : d ≠ 1 → (dden d).length ≠ 0 := fun h1 => by rw [dden_ne h1]; exact dgs_ne_nil h
theorem dden_len1 {d : Nat} (h : d = 1) : (dden d).length = 0 := by rw [h, dden_one]; rfl
theorem dden_le (d : Nat) : (dden d).length ≤ (dgs d).length := by unfold dden; split <;> simp
theorem times_whole {x y : Rat} (h1 : x.den = 1) (h2 : y.den = 1) : x * y = ((x.num * y.num : Int) : Rat) := by
  rw [Rat.mul_def', h1, h2, Nat.mul_one, Rat.mkRat_one]
theorem rtimes_pu (x y : Rat) (hx : ht x ≤ 3000000) (hy : ht y ≤ 3000000) : Pu Tryz.prog 90 [rq x, rq y] (rq (x * y)) := by
  have n1 := ht_num x
  have n2 := ht_num y
  have d1 := ht_den x
  have d2 := ht_den y
  have m1 := il_mul x.num y.num
  have m2 := dlen_mul x.den y.den
  have l1 := dden_le x.den
  have l2 := dden_le y.den
  have mi := rmul_int x.num y.num (show il x.num ≤ 100000000 by omega) (show il y.num ≤ 100000000 by omega)
  have fr := rfrac_pu (x.num * y.num) (x.den * y.den) (by omega) (by omega) (Nat.mul_ne_zero x.den_nz y.den_nz)
  by_cases hx1 : x.den = 1
  · have k1 := dden_len1 hx1
    by_cases hy1 : y.den = 1
    · have k2 := dden_len1 hy1
      rw [times_whole hx1 hy1, rq_int]
      refine Pu.intro Tryz.func90 rfl (by kernel_rfl) fun C => ?_
      repeat (refine A1 ⟨?_⟩; intros)
      refine Wc mi ?_
      repeat (refine A1 ⟨?_⟩; intros)
      refine endR (end1 (RV.cellA rfl List.mem_cons_self rfl rfl) (Le.ag ⟨Le.refl _, Le.refl _, le_nil, trivial⟩))
    · have k2 := dden_len y.den_nz hy1
      rw [Rat.mul_def']
      refine Pu.intro Tryz.func90 rfl (by kernel_rfl) fun C => ?_
      repeat (refine A1 ⟨?_⟩; intros)
      refine Wdc mi ?_
      repeat (refine A1 ⟨?_⟩; intros)
      refine Wdc (rden_pu x) ?_
      repeat (refine A1 ⟨?_⟩; intros)
      refine Wdc (rden_pu y) ?_
      repeat (refine A1 ⟨?_⟩; intros)
      refine Wdc (rprod_pu x.den y.den (by omega) (by omega)) ?_
      repeat (refine A1 ⟨?_⟩; intros)
      refine Wdc fr ?_
      repeat (refine A1 ⟨?_⟩; intros)
      ((first | refine endR ?_ | refine endN ?_); refine end1 (RV.cellA rfl (by (first | exact List.mem_cons_self | exact (List.mem_cons_of_mem _ List.mem_cons_self) | exact (List.mem_cons_of_mem _ (List.mem_cons_of_mem _ List.mem_cons_self)) | exact (List.mem_cons_of_mem _ (List.mem_cons_of_mem _ (List.mem_cons_of_mem _ List.mem_cons_self))) | exact (List.mem_cons_of_mem _ (List.mem_cons_of_mem _ (List.mem_cons_of_mem _ (List.mem_cons_of_mem _ List.mem_cons_self)))) | exact (List.mem_cons_of_mem _ (List.mem_cons_of_mem _ (List.mem_cons_of_mem _ (List.mem_cons_of_mem _ (List.mem_cons_of_mem _ List.mem_cons_self))))) | exact (List.mem_cons_of_mem _ (List.mem_cons_of_mem _ (List.mem_cons_of_mem _ (List.mem_cons_of_mem _ (List.mem_cons_of_mem _ (List.mem_cons_of_mem _ List.mem_cons_self)))))) | exact (List.mem_cons_of_mem _ (List.mem_cons_of_mem _ (List.mem_cons_of_mem _ (List.mem_cons_of_mem _ (List.mem_cons_of_mem _ (List.mem_cons_of_mem _ (List.mem_cons_of_mem _ List.mem_cons_self))))))))) (by (first | (simp only [List.drop_succ_cons, List.drop_zero, List.drop_nil, List.take_succ_cons, List.take_zero, List.take_nil, Nat.zero_add, Nat.add_zero, Nat.reduceAdd]; done) | (simp only [List.drop_succ_cons, List.drop_zero, List.drop_nil, List.take_succ_cons, List.take_zero, List.take_nil, Nat.zero_add, Nat.add_zero, Nat.reduceAdd]; exact rfl) | exact rfl)) rfl) (Le.refl _))
  · have k1 := dden_len x.den_nz hx1
    rw [Rat.mul_def']
    refine Pu.intro Tryz.func90 rfl (by kernel_rfl) fun C => ?_
    repeat (refine A1 ⟨?_⟩; intros)
    refine Wdc mi ?_
    repeat (refine A1 ⟨?_⟩; intros)
    refine Wdc (rden_pu x) ?_
    repeat (refine A1 ⟨?_⟩; intros)
    refine Wdc (rden_pu y) ?_
    repeat (refine A1 ⟨?_⟩; intros)
    refine Wdc (rprod_pu x.den y.den (by omega) (by omega)) ?_
    repeat (refine A1 ⟨?_⟩; intros)
    refine Wdc fr ?_
    repeat (refine A1 ⟨?_⟩; intros)
    ((first | refine endR ?_ | refine endN ?_); refine end1 (RV.cellA rfl (by (first | exact List.mem_cons_self | exact (List.mem_cons_of_mem _ List.mem_cons_self) | exact (List.mem_cons_of_mem _ (List.mem_cons_of_mem _ List.mem_cons_self)) | exact (List.mem_cons_of_mem _ (List.mem_cons_of_mem _ (List.mem_cons_of_mem _ List.mem_cons_self))) | exact (List.mem_cons_of_mem _ (List.mem_cons_of_mem _ (List.mem_cons_of_mem _ (List.mem_cons_of_mem _ List.mem_cons_self)))) | exact (List.mem_cons_of_mem _ (List.mem_cons_of_mem _ (List.mem_cons_of_mem _ (List.mem_cons_of_mem _ (List.mem_cons_of_mem _ List.mem_cons_self))))) | exact (List.mem_cons_of_mem _ (List.mem_cons_of_mem _ (List.mem_cons_of_mem _ (List.mem_cons_of_mem _ (List.mem_cons_of_mem _ (List.mem_cons_of_mem _ List.mem_cons_self)))))) | exact (List.mem_cons_of_mem _ (List.mem_cons_of_mem _ (List.mem_cons_of_mem _ (List.mem_cons_of_mem _ (List.mem_cons_of_mem _ (List.mem_cons_of_mem _ (List.mem_cons_of_mem _ List.mem_cons_self))))))))) (by (first | (simp only [List.drop_succ_cons, List.drop_zero, List.drop_nil, List.take_succ_cons, List.take_zero, List.take_nil, Nat.zero_add, Nat.add_zero, Nat.reduceAdd]; done) | (simp only [List.drop_succ_cons, List.drop_zero, List.drop_nil, List.take_succ_cons, List.take_zero, List.take_nil, Nat.zero_add, Nat.add_zero, Nat.reduceAdd]; exact rfl) | exact rfl)) rfl) (Le.refl _))
set_option maxHeartbeats 1000000 in
theorem rplus_pu (x y : Rat) (hx : ht x ≤ 3000000) (hy : ht y ≤ 3000000) : Pu Tryz.prog 136 [rq x, rq y] (rq (x + y)) := by
  have n1 := ht_num x
  have n2 := ht_num y
  have d1 := ht_den x
  have d2 := ht_den y
  have m1 := il_mul x.num y.den
  have m2 := il_mul y.num x.den
  have m3 := il_add (x.num * y.den) (y.num * x.den)
  have m4 := dlen_mul x.den y.den
  rw [il_nat] at m1 m2
  have l1 := dden_le x.den
  have l2 := dden_le y.den
  have mi1 := rmul_int x.num y.den (show il x.num ≤ 100000000 by omega) (show (dgs y.den).length ≤ 100000000 by omega)
  have mi2 := rmul_int y.num x.den (show il y.num ≤ 100000000 by omega) (show (dgs x.den).length ≤ 100000000 by omega)
  rw [← sv_nat] at mi1 mi2
  have ai := radd_int (x.num * y.den) (y.num * x.den) (show il _ ≤ 100000000 by omega) (show il _ ≤ 100000000 by omega)
  have aw := radd_int x.num y.num (show il _ ≤ 100000000 by omega) (show il _ ≤ 100000000 by omega)
  have fr := rfrac_pu (x.num * y.den + y.num * x.den) (x.den * y.den) (by omega) (by omega) (Nat.mul_ne_zero x.den_nz y.den_nz)
  by_cases hx1 : x.den = 1
  · have k1 := dden_len1 hx1
    by_cases hy1 : y.den = 1
    · have k2 := dden_len1 hy1
      rw [add_whole hx1 hy1, rq_int]
      refine Pu.intro Tryz.func136 rfl (by kernel_rfl) fun C => ?_
      repeat (refine A1 ⟨?_⟩; intros)
      refine Wc aw ?_
      repeat (refine A1 ⟨?_⟩; intros)
      refine endR (end1 (RV.cellA rfl List.mem_cons_self rfl rfl) (Le.ag ⟨Le.refl _, Le.refl _, le_nil, trivial⟩))
    · have k2 := dden_len y.den_nz hy1
      rw [Rat.add_def']
      refine Pu.intro Tryz.func136 rfl (by kernel_rfl) fun C => ?_
      repeat (refine A1 ⟨?_⟩; intros)
      refine Wdc (rden_pu y) ?_
      repeat (refine A1 ⟨?_⟩; intros)
      refine Wdc (rmake_pu false y.den (by omega)) ?_
      repeat (refine A1 ⟨?_⟩; intros)
      refine Wdc mi1 ?_
      repeat (refine A1 ⟨?_⟩; intros)
      refine Wdc (rden_pu x) ?_
      repeat (refine A1 ⟨?_⟩; intros)
      refine Wdc (rmake_pu false x.den (by omega)) ?_
      repeat (refine A1 ⟨?_⟩; intros)
      refine Wdc mi2 ?_
      repeat (refine A1 ⟨?_⟩; intros)
      refine Wdc ai ?_
      repeat (refine A1 ⟨?_⟩; intros)
      refine Wdc (rden_pu x) ?_
      repeat (refine A1 ⟨?_⟩; intros)
      refine Wdc (rden_pu y) ?_
      repeat (refine A1 ⟨?_⟩; intros)
      refine Wdc (rprod_pu x.den y.den (by omega) (by omega)) ?_
      repeat (refine A1 ⟨?_⟩; intros)
      refine Wdc fr ?_
      repeat (refine A1 ⟨?_⟩; intros)
      ((first | refine endR ?_ | refine endN ?_); refine end1 (RV.cellA rfl (by (first | exact List.mem_cons_self | exact (List.mem_cons_of_mem _ List.mem_cons_self) | exact (List.mem_cons_of_mem _ (List.mem_cons_of_mem _ List.mem_cons_self)) | exact (List.mem_cons_of_mem _ (List.mem_cons_of_mem _ (List.mem_cons_of_mem _ List.mem_cons_self))) | exact (List.mem_cons_of_mem _ (List.mem_cons_of_mem _ (List.mem_cons_of_mem _ (List.mem_cons_of_mem _ List.mem_cons_self)))) | exact (List.mem_cons_of_mem _ (List.mem_cons_of_mem _ (List.mem_cons_of_mem _ (List.mem_cons_of_mem _ (List.mem_cons_of_mem _ List.mem_cons_self))))) | exact (List.mem_cons_of_mem _ (List.mem_cons_of_mem _ (List.mem_cons_of_mem _ (List.mem_cons_of_mem _ (List.mem_cons_of_mem _ (List.mem_cons_of_mem _ List.mem_cons_self)))))) | exact (List.mem_cons_of_mem _ (List.mem_cons_of_mem _ (List.mem_cons_of_mem _ (List.mem_cons_of_mem _ (List.mem_cons_of_mem _ (List.mem_cons_of_mem _ (List.mem_cons_of_mem _ List.mem_cons_self))))))))) (by (first | (simp only [List.drop_succ_cons, List.drop_zero, List.drop_nil, List.take_succ_cons, List.take_zero, List.take_nil, Nat.zero_add, Nat.add_zero, Nat.reduceAdd]; done) | (simp only [List.drop_succ_cons, List.drop_zero, List.drop_nil, List.take_succ_cons, List.take_zero, List.take_nil, Nat.zero_add, Nat.add_zero, Nat.reduceAdd]; exact rfl) | exact rfl)) rfl) (Le.refl _))
  · have k1 := dden_len x.den_nz hx1
    rw [Rat.add_def']
    refine Pu.intro Tryz.func136 rfl (by kernel_rfl) fun C => ?_
    repeat (refine A1 ⟨?_⟩; intros)
    refine Wdc (rden_pu y) ?_
    repeat (refine A1 ⟨?_⟩; intros)
    refine Wdc (rmake_pu false y.den (by omega)) ?_
    repeat (refine A1 ⟨?_⟩; intros)
    refine Wdc mi1 ?_
    repeat (refine A1 ⟨?_⟩; intros)
    refine Wdc (rden_pu x) ?_
    repeat (refine A1 ⟨?_⟩; intros)
    refine Wdc (rmake_pu false x.den (by omega)) ?_
    repeat (refine A1 ⟨?_⟩; intros)
    refine Wdc mi2 ?_
    repeat (refine A1 ⟨?_⟩; intros)
    refine Wdc ai ?_
    repeat (refine A1 ⟨?_⟩; intros)
    refine Wdc (rden_pu x) ?_
    repeat (refine A1 ⟨?_⟩; intros)
    refine Wdc (rden_pu y) ?_
    repeat (refine A1 ⟨?_⟩; intros)
    refine Wdc (rprod_pu x.den y.den (by omega) (by omega)) ?_
    repeat (refine A1 ⟨?_⟩; intros)
    refine Wdc fr ?_
    repeat (refine A1 ⟨?_⟩; intros)
    ((first | refine endR ?_ | refine endN ?_); refine end1 (RV.cellA rfl (by (first | exact List.mem_cons_self | exact (List.mem_cons_of_mem _ List.mem_cons_self) | exact (List.mem_cons_of_mem _ (List.mem_cons_of_mem _ List.mem_cons_self)) | exact (List.mem_cons_of_mem _ (List.mem_cons_of_mem _ (List.mem_cons_of_mem _ List.mem_cons_self))) | exact (List.mem_cons_of_mem _ (List.mem_cons_of_mem _ (List.mem_cons_of_mem _ (List.mem_cons_of_mem _ List.mem_cons_self)))) | exact (List.mem_cons_of_mem _ (List.mem_cons_of_mem _ (List.mem_cons_of_mem _ (List.mem_cons_of_mem _ (List.mem_cons_of_mem _ List.mem_cons_self))))) | exact (List.mem_cons_of_mem _ (List.mem_cons_of_mem _ (List.mem_cons_of_mem _ (List.mem_cons_of_mem _ (List.mem_cons_of_mem _ (List.mem_cons_of_mem _ List.mem_cons_self)))))) | exact (List.mem_cons_of_mem _ (List.mem_cons_of_mem _ (List.mem_cons_of_mem _ (List.mem_cons_of_mem _ (List.mem_cons_of_mem _ (List.mem_cons_of_mem _ (List.mem_cons_of_mem _ List.mem_cons_self))))))))) (by (first | (simp only [List.drop_succ_cons, List.drop_zero, List.drop_nil, List.take_succ_cons, List.take_zero, List.take_nil, Nat.zero_add, Nat.add_zero, Nat.reduceAdd]; done) | (simp only [List.drop_succ_cons, List.drop_zero, List.drop_nil, List.take_succ_cons, List.take_zero, List.take_nil, Nat.zero_add, Nat.add_zero, Nat.reduceAdd]; exact rfl) | exact rfl)) rfl) (Le.refl _))
theorem rqsub_pu (x y : Rat) (hx : ht x ≤ 3000000) (hy : ht y ≤ 3000000) : Pu Tryz.prog 89 [rq x, rq y] (rq (x - y)) := by
  rw [Rat.sub_eq_add_neg]
  refine Pu.intro Tryz.func89 rfl (by kernel_rfl) fun C => ?_
  repeat (refine A1 ⟨?_⟩; intros)
  refine Wdc (ropp_pu y (by omega)) ?_
  repeat (refine A1 ⟨?_⟩; intros)
  refine Wdc (rplus_pu x (-y) hx (by rw [ht_neg]; exact hy)) ?_
  repeat (refine A1 ⟨?_⟩; intros)
  ((first | refine endR ?_ | refine endN ?_); refine end1 (RV.cellA rfl (by (first | exact List.mem_cons_self | exact (List.mem_cons_of_mem _ List.mem_cons_self) | exact (List.mem_cons_of_mem _ (List.mem_cons_of_mem _ List.mem_cons_self)) | exact (List.mem_cons_of_mem _ (List.mem_cons_of_mem _ (List.mem_cons_of_mem _ List.mem_cons_self))) | exact (List.mem_cons_of_mem _ (List.mem_cons_of_mem _ (List.mem_cons_of_mem _ (List.mem_cons_of_mem _ List.mem_cons_self)))) | exact (List.mem_cons_of_mem _ (List.mem_cons_of_mem _ (List.mem_cons_of_mem _ (List.mem_cons_of_mem _ (List.mem_cons_of_mem _ List.mem_cons_self))))) | exact (List.mem_cons_of_mem _ (List.mem_cons_of_mem _ (List.mem_cons_of_mem _ (List.mem_cons_of_mem _ (List.mem_cons_of_mem _ (List.mem_cons_of_mem _ List.mem_cons_self)))))) | exact (List.mem_cons_of_mem _ (List.mem_cons_of_mem _ (List.mem_cons_of_mem _ (List.mem_cons_of_mem _ (List.mem_cons_of_mem _ (List.mem_cons_of_mem _ (List.mem_cons_of_mem _ List.mem_cons_self))))))))) (by (first | (simp only [List.drop_succ_cons, List.drop_zero, List.drop_nil, List.take_succ_cons, List.take_zero, List.take_nil, Nat.zero_add, Nat.add_zero, Nat.reduceAdd]; done) | (simp only [List.drop_succ_cons, List.drop_zero, List.drop_nil, List.take_succ_cons, List.take_zero, List.take_nil, Nat.zero_add, Nat.add_zero, Nat.reduceAdd]; exact rfl) | exact rfl)) rfl) (Le.refl _))
theorem rc_pu (x y : Rat) (hx : ht x ≤ 3000000) (hy : ht y ≤ 3000000) : Pu Tryz.prog 66 [rq x, rq y] (lit (.int .i64 (x - y).num.sign)) := by
  have h := ht_sub x y
  refine Pu.intro Tryz.func66 rfl (by kernel_rfl) fun C => ?_
  repeat (refine A1 ⟨?_⟩; intros)
  refine Wc (rqsub_pu x y hx hy) ?_
  repeat (refine A1 ⟨?_⟩; intros)
  refine Wc (rs_pu (x - y) (by omega)) ?_
  repeat (refine A1 ⟨?_⟩; intros)
  ((first | refine endR ?_ | refine endN ?_); exact end1 (RV.tmp rfl) (Le.refl _))
end Go.Ab
/- Packages geo and affine: points and maps. -/
namespace Go.Ab
open Go.Proofs
set_option linter.unusedSectionVars false
set_option linter.unusedVariables false
set_option linter.unusedSimpArgs false
variable [Base]
abbrev pp (x y : Rat) : SV := ag [lit (.int .i64 (r0 x)), lit (.int .i64 (r1 x)), r2 x, lit (.int .i64 (r0 y)), lit (.int .i64 (r1 y)), r2 y]
/-- a raw rational: a sign, digits, digits -/
structure RQ where
  s : Bool
  n : List Nat
  d : List Nat
def RQ.v (r : RQ) : Rat := mkRat (sv r.s (val r.n)) (val r.d)
def RQ.ok (L : Nat) (r : RQ) : Prop := D r.n ∧ D r.d ∧ r.n.length ≤ L ∧ r.d.length ≤ L
abbrev qr (r : RQ) : SV := qraw r.s r.n r.d
abbrev pr (a b : RQ) : SV := ag [lit (.bool a.s), dg a.n, dg a.d, lit (.bool b.s), dg b.n, dg b.d]
abbrev pq (x y : Rat) : SV := ag [lit (.bool (decide (x.num < 0))), nat x.num.natAbs, nat x.den, lit (.bool (decide (y.num < 0))), nat y.num.natAbs, nat y.den]
/-- the raw form of a rational -/
def RQ.of (x : Rat) : RQ := ⟨decide (x.num < 0), dgs x.num.natAbs, dgs x.den⟩
theorem RQ.of_v (x : Rat) : (RQ.of x).v = x := by
  unfold RQ.v RQ.of; simp only [val_dgs, sv_int]; exact Rat.mkRat_self x
theorem RQ.of_ok {x : Rat} {L : Nat} (h : ht x ≤ L) : (RQ.of x).ok L :=
  ⟨D_dgs _, D_dgs _, Nat.le_trans (ht_num x) h, Nat.le_trans (ht_den x) h⟩
theorem il_sv {s : Bool} {xs : List Nat} (h : D xs) : il (sv s (val xs)) ≤ xs.length := by unfold il; rw [sv_abs]; exact dlen_val h
theorem ht_v {r : RQ} {L : Nat} (h : r.ok L) : ht r.v ≤ L + 1 := by
  obtain ⟨h1, h2, h3, h4⟩ := h
  have := ht_mk (sv r.s (val r.n)) (val r.d)
  have a1 := il_sv (s := r.s) h1
  have a2 := dlen_val h2
  unfold RQ.v; omega
theorem of_pu {r : RQ} {L : Nat} (h : r.ok L) (hL : L ≤ 1000000) : Pu Tryz.prog 113 [qr r] (fr r.v) :=
  of_raw r.s r.n r.d (by have := h.2.2.1; omega) (by have := h.2.2.2; omega) h.1 h.2.1
theorem ptOf_pu {a b : RQ} {L : Nat} (ha : a.ok L) (hb : b.ok L) (hL : L ≤ 1000000) : Pu Tryz.prog 58 [pr a b] (pp a.v b.v) := by
  refine Pu.intro Tryz.func58 rfl (by kernel_rfl) fun C => ?_
  repeat (refine A1 ⟨?_⟩; intros)
  refine Wdc (of_pu ha hL) ?_
  repeat (refine A1 ⟨?_⟩; intros)
  refine Wdc (of_pu hb hL) ?_
  repeat (refine A1 ⟨?_⟩; intros)
  ((first | refine endR ?_ | refine endN ?_); refine end1 (RV.cellA rfl (by (first | exact List.mem_cons_self | exact (List.mem_cons_of_mem _ List.mem_cons_self) | exact (List.mem_cons_of_mem _ (List.mem_cons_of_mem _ List.mem_cons_self)) | exact (List.mem_cons_of_mem _ (List.mem_cons_of_mem _ (List.mem_cons_of_mem _ List.mem_cons_self))) | exact (List.mem_cons_of_mem _ (List.mem_cons_of_mem _ (List.mem_cons_of_mem _ (List.mem_cons_of_mem _ List.mem_cons_self)))) | exact (List.mem_cons_of_mem _ (List.mem_cons_of_mem _ (List.mem_cons_of_mem _ (List.mem_cons_of_mem _ (List.mem_cons_of_mem _ List.mem_cons_self))))) | exact (List.mem_cons_of_mem _ (List.mem_cons_of_mem _ (List.mem_cons_of_mem _ (List.mem_cons_of_mem _ (List.mem_cons_of_mem _ (List.mem_cons_of_mem _ List.mem_cons_self)))))) | exact (List.mem_cons_of_mem _ (List.mem_cons_of_mem _ (List.mem_cons_of_mem _ (List.mem_cons_of_mem _ (List.mem_cons_of_mem _ (List.mem_cons_of_mem _ (List.mem_cons_of_mem _ List.mem_cons_self))))))))) (by (first | (simp only [List.drop_succ_cons, List.drop_zero, List.drop_nil, List.take_succ_cons, List.take_zero, List.take_nil, Nat.zero_add, Nat.add_zero, Nat.reduceAdd]; done) | (simp only [List.drop_succ_cons, List.drop_zero, List.drop_nil, List.take_succ_cons, List.take_zero, List.take_nil, Nat.zero_add, Nat.add_zero, Nat.reduceAdd]; exact rfl) | exact rfl)) rfl) (Le.refl _))
theorem papi_pu (x y : Rat) (hx : ht x ≤ 1000000) (hy : ht y ≤ 1000000) : Pu Tryz.prog 59 [pp x y] (pq x y) := by
  refine Pu.intro Tryz.func59 rfl (by kernel_rfl) fun C => ?_
  repeat (refine A1 ⟨?_⟩; intros)
  refine Wdc (api_pu x (by omega)) ?_
  repeat (refine A1 ⟨?_⟩; intros)
  refine Wdc (api_pu y (by omega)) ?_
  repeat (refine A1 ⟨?_⟩; intros)
  ((first | refine endR ?_ | refine endN ?_); refine end1 (RV.cellA rfl (by (first | exact List.mem_cons_self | exact (List.mem_cons_of_mem _ List.mem_cons_self) | exact (List.mem_cons_of_mem _ (List.mem_cons_of_mem _ List.mem_cons_self)) | exact (List.mem_cons_of_mem _ (List.mem_cons_of_mem _ (List.mem_cons_of_mem _ List.mem_cons_self))) | exact (List.mem_cons_of_mem _ (List.mem_cons_of_mem _ (List.mem_cons_of_mem _ (List.mem_cons_of_mem _ List.mem_cons_self)))) | exact (List.mem_cons_of_mem _ (List.mem_cons_of_mem _ (List.mem_cons_of_mem _ (List.mem_cons_of_mem _ (List.mem_cons_of_mem _ List.mem_cons_self))))) | exact (List.mem_cons_of_mem _ (List.mem_cons_of_mem _ (List.mem_cons_of_mem _ (List.mem_cons_of_mem _ (List.mem_cons_of_mem _ (List.mem_cons_of_mem _ List.mem_cons_self)))))) | exact (List.mem_cons_of_mem _ (List.mem_cons_of_mem _ (List.mem_cons_of_mem _ (List.mem_cons_of_mem _ (List.mem_cons_of_mem _ (List.mem_cons_of_mem _ (List.mem_cons_of_mem _ List.mem_cons_self))))))))) (by (first | (simp only [List.drop_succ_cons, List.drop_zero, List.drop_nil, List.take_succ_cons, List.take_zero, List.take_nil, Nat.zero_add, Nat.add_zero, Nat.reduceAdd]; done) | (simp only [List.drop_succ_cons, List.drop_zero, List.drop_nil, List.take_succ_cons, List.take_zero, List.take_nil, Nat.zero_add, Nat.add_zero, Nat.reduceAdd]; exact rfl) | exact rfl)) rfl) (Le.refl _))
theorem padd_pu (x y u v : Rat) (hx : ht x ≤ 1000000) (hy : ht y ≤ 1000000) (hu : ht u ≤ 1000000) (hv : ht v ≤ 1000000) : Pu Tryz.prog 114 [pp x y, pp u v] (pp (x + u) (y + v)) := by
  refine Pu.intro Tryz.func114 rfl (by kernel_rfl) fun C => ?_
  repeat (refine A1 ⟨?_⟩; intros)
  refine Wdc (radd_pu x u (by omega) (by omega)) ?_
  repeat (refine A1 ⟨?_⟩; intros)
  refine Wdc (radd_pu y v (by omega) (by omega)) ?_
  repeat (refine A1 ⟨?_⟩; intros)
  ((first | refine endR ?_ | refine endN ?_); refine end1 (RV.cellA rfl (by (first | exact List.mem_cons_self | exact (List.mem_cons_of_mem _ List.mem_cons_self) | exact (List.mem_cons_of_mem _ (List.mem_cons_of_mem _ List.mem_cons_self)) | exact (List.mem_cons_of_mem _ (List.mem_cons_of_mem _ (List.mem_cons_of_mem _ List.mem_cons_self))) | exact (List.mem_cons_of_mem _ (List.mem_cons_of_mem _ (List.mem_cons_of_mem _ (List.mem_cons_of_mem _ List.mem_cons_self)))) | exact (List.mem_cons_of_mem _ (List.mem_cons_of_mem _ (List.mem_cons_of_mem _ (List.mem_cons_of_mem _ (List.mem_cons_of_mem _ List.mem_cons_self))))) | exact (List.mem_cons_of_mem _ (List.mem_cons_of_mem _ (List.mem_cons_of_mem _ (List.mem_cons_of_mem _ (List.mem_cons_of_mem _ (List.mem_cons_of_mem _ List.mem_cons_self)))))) | exact (List.mem_cons_of_mem _ (List.mem_cons_of_mem _ (List.mem_cons_of_mem _ (List.mem_cons_of_mem _ (List.mem_cons_of_mem _ (List.mem_cons_of_mem _ (List.mem_cons_of_mem _ List.mem_cons_self))))))))) (by (first | (simp only [List.drop_succ_cons, List.drop_zero, List.drop_nil, List.take_succ_cons, List.take_zero, List.take_nil, Nat.zero_add, Nat.add_zero, Nat.reduceAdd]; done) | (simp only [List.drop_succ_cons, List.drop_zero, List.drop_nil, List.take_succ_cons, List.take_zero, List.take_nil, Nat.zero_add, Nat.add_zero, Nat.reduceAdd]; exact rfl) | exact rfl)) rfl) (Le.refl _))
theorem pscale_pu (x y u : Rat) (hx : ht x ≤ 1000000) (hy : ht y ≤ 1000000) (hu : ht u ≤ 1000000) : Pu Tryz.prog 115 [pp x y, fr u] (pp (x * u) (y * u)) := by
  refine Pu.intro Tryz.func115 rfl (by kernel_rfl) fun C => ?_
  repeat (refine A1 ⟨?_⟩; intros)
  refine Wdc (rmul_pu x u (by omega) (by omega)) ?_
  repeat (refine A1 ⟨?_⟩; intros)
  refine Wdc (rmul_pu y u (by omega) (by omega)) ?_
  repeat (refine A1 ⟨?_⟩; intros)
  ((first | refine endR ?_ | refine endN ?_); refine end1 (RV.cellA rfl (by (first | exact List.mem_cons_self | exact (List.mem_cons_of_mem _ List.mem_cons_self) | exact (List.mem_cons_of_mem _ (List.mem_cons_of_mem _ List.mem_cons_self)) | exact (List.mem_cons_of_mem _ (List.mem_cons_of_mem _ (List.mem_cons_of_mem _ List.mem_cons_self))) | exact (List.mem_cons_of_mem _ (List.mem_cons_of_mem _ (List.mem_cons_of_mem _ (List.mem_cons_of_mem _ List.mem_cons_self)))) | exact (List.mem_cons_of_mem _ (List.mem_cons_of_mem _ (List.mem_cons_of_mem _ (List.mem_cons_of_mem _ (List.mem_cons_of_mem _ List.mem_cons_self))))) | exact (List.mem_cons_of_mem _ (List.mem_cons_of_mem _ (List.mem_cons_of_mem _ (List.mem_cons_of_mem _ (List.mem_cons_of_mem _ (List.mem_cons_of_mem _ List.mem_cons_self)))))) | exact (List.mem_cons_of_mem _ (List.mem_cons_of_mem _ (List.mem_cons_of_mem _ (List.mem_cons_of_mem _ (List.mem_cons_of_mem _ (List.mem_cons_of_mem _ (List.mem_cons_of_mem _ List.mem_cons_self))))))))) (by (first | (simp only [List.drop_succ_cons, List.drop_zero, List.drop_nil, List.take_succ_cons, List.take_zero, List.take_nil, Nat.zero_add, Nat.add_zero, Nat.reduceAdd]; done) | (simp only [List.drop_succ_cons, List.drop_zero, List.drop_nil, List.take_succ_cons, List.take_zero, List.take_nil, Nat.zero_add, Nat.add_zero, Nat.reduceAdd]; exact rfl) | exact rfl)) rfl) (Le.refl _))
theorem pcross_pu (x y u v : Rat) (hx : ht x ≤ 1000000) (hy : ht y ≤ 1000000) (hu : ht u ≤ 1000000) (hv : ht v ≤ 1000000) : Pu Tryz.prog 127 [pp x y, pp u v] (fr (x * v - y * u)) := by
  have h1 := ht_mul x v
  have h2 := ht_mul y u
  refine Pu.intro Tryz.func127 rfl (by kernel_rfl) fun C => ?_
  repeat (refine A1 ⟨?_⟩; intros)
  refine Wdc (rmul_pu x v (by omega) (by omega)) ?_
  repeat (refine A1 ⟨?_⟩; intros)
  refine Wdc (rmul_pu y u (by omega) (by omega)) ?_
  repeat (refine A1 ⟨?_⟩; intros)
  refine Wdc (rsub_pu (x * v) (y * u) (by omega) (by omega)) ?_
  repeat (refine A1 ⟨?_⟩; intros)
  ((first | refine endR ?_ | refine endN ?_); refine end1 (RV.cellA rfl (by (first | exact List.mem_cons_self | exact (List.mem_cons_of_mem _ List.mem_cons_self) | exact (List.mem_cons_of_mem _ (List.mem_cons_of_mem _ List.mem_cons_self)) | exact (List.mem_cons_of_mem _ (List.mem_cons_of_mem _ (List.mem_cons_of_mem _ List.mem_cons_self))) | exact (List.mem_cons_of_mem _ (List.mem_cons_of_mem _ (List.mem_cons_of_mem _ (List.mem_cons_of_mem _ List.mem_cons_self)))) | exact (List.mem_cons_of_mem _ (List.mem_cons_of_mem _ (List.mem_cons_of_mem _ (List.mem_cons_of_mem _ (List.mem_cons_of_mem _ List.mem_cons_self))))) | exact (List.mem_cons_of_mem _ (List.mem_cons_of_mem _ (List.mem_cons_of_mem _ (List.mem_cons_of_mem _ (List.mem_cons_of_mem _ (List.mem_cons_of_mem _ List.mem_cons_self)))))) | exact (List.mem_cons_of_mem _ (List.mem_cons_of_mem _ (List.mem_cons_of_mem _ (List.mem_cons_of_mem _ (List.mem_cons_of_mem _ (List.mem_cons_of_mem _ (List.mem_cons_of_mem _ List.mem_cons_self))))))))) (by (first | (simp only [List.drop_succ_cons, List.drop_zero, List.drop_nil, List.take_succ_cons, List.take_zero, List.take_nil, Nat.zero_add, Nat.add_zero, Nat.reduceAdd]; done) | (simp only [List.drop_succ_cons, List.drop_zero, List.drop_nil, List.take_succ_cons, List.take_zero, List.take_nil, Nat.zero_add, Nat.add_zero, Nat.reduceAdd]; exact rfl) | exact rfl)) rfl) (Le.refl _))
/-- an affine map: the columns (a, d), (b, e) and the vector (c, f) -/
structure M6 (α : Type) where
  a : α
  b : α
  c : α
  d : α
  e : α
  f : α
abbrev mf (m : M6 Rat) : SV := ag [lit (.int .i64 (r0 m.a)), lit (.int .i64 (r1 m.a)), r2 m.a, lit (.int .i64 (r0 m.d)), lit (.int .i64 (r1 m.d)), r2 m.d,
  lit (.int .i64 (r0 m.b)), lit (.int .i64 (r1 m.b)), r2 m.b, lit (.int .i64 (r0 m.e)), lit (.int .i64 (r1 m.e)), r2 m.e,
  lit (.int .i64 (r0 m.c)), lit (.int .i64 (r1 m.c)), r2 m.c, lit (.int .i64 (r0 m.f)), lit (.int .i64 (r1 m.f)), r2 m.f]
abbrev mr (m : M6 RQ) : SV := ag [lit (.bool m.a.s), dg m.a.n, dg m.a.d, lit (.bool m.b.s), dg m.b.n, dg m.b.d, lit (.bool m.c.s), dg m.c.n, dg m.c.d,
  lit (.bool m.d.s), dg m.d.n, dg m.d.d, lit (.bool m.e.s), dg m.e.n, dg m.e.d, lit (.bool m.f.s), dg m.f.n, dg m.f.d]
abbrev mq (m : M6 Rat) : SV := ag [lit (.bool (decide (m.a.num < 0))), nat m.a.num.natAbs, nat m.a.den, lit (.bool (decide (m.b.num < 0))), nat m.b.num.natAbs, nat m.b.den, lit (.bool (decide (m.c.num < 0))), nat m.c.num.natAbs, nat m.c.den,
  lit (.bool (decide (m.d.num < 0))), nat m.d.num.natAbs, nat m.d.den, lit (.bool (decide (m.e.num < 0))), nat m.e.num.natAbs, nat m.e.den, lit (.bool (decide (m.f.num < 0))), nat m.f.num.natAbs, nat m.f.den]
structure M6.ok (L : Nat) (m : M6 RQ) : Prop where
  a : m.a.ok L
  b : m.b.ok L
  c : m.c.ok L
  d : m.d.ok L
  e : m.e.ok L
  f : m.f.ok L
structure M6.le (L : Nat) (m : M6 Rat) : Prop where
  a : ht m.a ≤ L
  b : ht m.b ≤ L
  c : ht m.c ≤ L
  d : ht m.d ≤ L
  e : ht m.e ≤ L
  f : ht m.f ≤ L
def M6.v (m : M6 RQ) : M6 Rat := ⟨m.a.v, m.b.v, m.c.v, m.d.v, m.e.v, m.f.v⟩
theorem M6.v_le {m : M6 RQ} {L : Nat} (h : m.ok L) : m.v.le (L + 1) := ⟨ht_v h.a, ht_v h.b, ht_v h.c, ht_v h.d, ht_v h.e, ht_v h.f⟩
theorem aof_pu {m : M6 RQ} {L : Nat} (h : m.ok L) (hL : L ≤ 1000000) : Pu Tryz.prog 56 [mr m] (mf m.v) := by
  refine Pu.intro Tryz.func56 rfl (by kernel_rfl) fun C => ?_
  repeat (refine A1 ⟨?_⟩; intros)
  refine Wdc (of_pu h.a hL) ?_
  repeat (refine A1 ⟨?_⟩; intros)
  refine Wdc (of_pu h.d hL) ?_
  repeat (refine A1 ⟨?_⟩; intros)
  refine Wdc (of_pu h.b hL) ?_
  repeat (refine A1 ⟨?_⟩; intros)
  refine Wdc (of_pu h.e hL) ?_
  repeat (refine A1 ⟨?_⟩; intros)
  refine Wdc (of_pu h.c hL) ?_
  repeat (refine A1 ⟨?_⟩; intros)
  refine Wdc (of_pu h.f hL) ?_
  repeat (refine A1 ⟨?_⟩; intros)
  ((first | refine endR ?_ | refine endN ?_); refine end1 (RV.cellA rfl (by (first | exact List.mem_cons_self | exact (List.mem_cons_of_mem _ List.mem_cons_self) | exact (List.mem_cons_of_mem _ (List.mem_cons_of_mem _ List.mem_cons_self)) | exact (List.mem_cons_of_mem _ (List.mem_cons_of_mem _ (List.mem_cons_of_mem _ List.mem_cons_self))) | exact (List.mem_cons_of_mem _ (List.mem_cons_of_mem _ (List.mem_cons_of_mem _ (List.mem_cons_of_mem _ List.mem_cons_self)))) | exact (List.mem_cons_of_mem _ (List.mem_cons_of_mem _ (List.mem_cons_of_mem _ (List.mem_cons_of_mem _ (List.mem_cons_of_mem _ List.mem_cons_self))))) | exact (List.mem_cons_of_mem _ (List.mem_cons_of_mem _ (List.mem_cons_of_mem _ (List.mem_cons_of_mem _ (List.mem_cons_of_mem _ (List.mem_cons_of_mem _ List.mem_cons_self)))))) | exact (List.mem_cons_of_mem _ (List.mem_cons_of_mem _ (List.mem_cons_of_mem _ (List.mem_cons_of_mem _ (List.mem_cons_of_mem _ (List.mem_cons_of_mem _ (List.mem_cons_of_mem _ List.mem_cons_self))))))))) (by (first | (simp only [List.drop_succ_cons, List.drop_zero, List.drop_nil, List.take_succ_cons, List.take_zero, List.take_nil, Nat.zero_add, Nat.add_zero, Nat.reduceAdd]; done) | (simp only [List.drop_succ_cons, List.drop_zero, List.drop_nil, List.take_succ_cons, List.take_zero, List.take_nil, Nat.zero_add, Nat.add_zero, Nat.reduceAdd]; exact rfl) | exact rfl)) rfl) (Le.refl _))
theorem awrite_pu {m : M6 Rat} {L : Nat} (h : m.le L) (hL : L ≤ 1000000) : Pu Tryz.prog 61 [mf m] (mq m) := by
  obtain ⟨ha, hb, hc, hd, he, hf⟩ := h
  refine Pu.intro Tryz.func61 rfl (by kernel_rfl) fun C => ?_
  repeat (refine A1 ⟨?_⟩; intros)
  refine Wdc (api_pu m.a (by omega)) ?_
  repeat (refine A1 ⟨?_⟩; intros)
  refine Wdc (api_pu m.b (by omega)) ?_
  repeat (refine A1 ⟨?_⟩; intros)
  refine Wdc (api_pu m.c (by omega)) ?_
  repeat (refine A1 ⟨?_⟩; intros)
  refine Wdc (api_pu m.d (by omega)) ?_
  repeat (refine A1 ⟨?_⟩; intros)
  refine Wdc (api_pu m.e (by omega)) ?_
  repeat (refine A1 ⟨?_⟩; intros)
  refine Wdc (api_pu m.f (by omega)) ?_
  repeat (refine A1 ⟨?_⟩; intros)
  ((first | refine endR ?_ | refine endN ?_); refine end1 (RV.cellA rfl (by (first | exact List.mem_cons_self | exact (List.mem_cons_of_mem _ List.mem_cons_self) | exact (List.mem_cons_of_mem _ (List.mem_cons_of_mem _ List.mem_cons_self)) | exact (List.mem_cons_of_mem _ (List.mem_cons_of_mem _ (List.mem_cons_of_mem _ List.mem_cons_self))) | exact (List.mem_cons_of_mem _ (List.mem_cons_of_mem _ (List.mem_cons_of_mem _ (List.mem_cons_of_mem _ List.mem_cons_self)))) | exact (List.mem_cons_of_mem _ (List.mem_cons_of_mem _ (List.mem_cons_of_mem _ (List.mem_cons_of_mem _ (List.mem_cons_of_mem _ List.mem_cons_self))))) | exact (List.mem_cons_of_mem _ (List.mem_cons_of_mem _ (List.mem_cons_of_mem _ (List.mem_cons_of_mem _ (List.mem_cons_of_mem _ (List.mem_cons_of_mem _ List.mem_cons_self)))))) | exact (List.mem_cons_of_mem _ (List.mem_cons_of_mem _ (List.mem_cons_of_mem _ (List.mem_cons_of_mem _ (List.mem_cons_of_mem _ (List.mem_cons_of_mem _ (List.mem_cons_of_mem _ List.mem_cons_self))))))))) (by (first | (simp only [List.drop_succ_cons, List.drop_zero, List.drop_nil, List.take_succ_cons, List.take_zero, List.take_nil, Nat.zero_add, Nat.add_zero, Nat.reduceAdd]; done) | (simp only [List.drop_succ_cons, List.drop_zero, List.drop_nil, List.take_succ_cons, List.take_zero, List.take_nil, Nat.zero_add, Nat.add_zero, Nat.reduceAdd]; exact rfl) | exact rfl)) rfl) (Le.refl _))
theorem adet_pu {m : M6 Rat} {L : Nat} (h : m.le L) (hL : L ≤ 1000000) : Pu Tryz.prog 71 [mf m] (fr (m.a * m.e - m.d * m.b)) := by
  obtain ⟨ha, hb, hc, hd, he, hf⟩ := h
  refine Pu.intro Tryz.func71 rfl (by kernel_rfl) fun C => ?_
  repeat (refine A1 ⟨?_⟩; intros)
  refine Wc (pcross_pu m.a m.d m.b m.e (by omega) (by omega) (by omega) (by omega)) ?_
  repeat (refine A1 ⟨?_⟩; intros)
  ((first | refine endR ?_ | refine endN ?_); refine end1 (RV.cellA rfl (by (first | exact List.mem_cons_self | exact (List.mem_cons_of_mem _ List.mem_cons_self) | exact (List.mem_cons_of_mem _ (List.mem_cons_of_mem _ List.mem_cons_self)) | exact (List.mem_cons_of_mem _ (List.mem_cons_of_mem _ (List.mem_cons_of_mem _ List.mem_cons_self))) | exact (List.mem_cons_of_mem _ (List.mem_cons_of_mem _ (List.mem_cons_of_mem _ (List.mem_cons_of_mem _ List.mem_cons_self)))) | exact (List.mem_cons_of_mem _ (List.mem_cons_of_mem _ (List.mem_cons_of_mem _ (List.mem_cons_of_mem _ (List.mem_cons_of_mem _ List.mem_cons_self))))) | exact (List.mem_cons_of_mem _ (List.mem_cons_of_mem _ (List.mem_cons_of_mem _ (List.mem_cons_of_mem _ (List.mem_cons_of_mem _ (List.mem_cons_of_mem _ List.mem_cons_self)))))) | exact (List.mem_cons_of_mem _ (List.mem_cons_of_mem _ (List.mem_cons_of_mem _ (List.mem_cons_of_mem _ (List.mem_cons_of_mem _ (List.mem_cons_of_mem _ (List.mem_cons_of_mem _ List.mem_cons_self))))))))) (by (first | (simp only [List.drop_succ_cons, List.drop_zero, List.drop_nil, List.take_succ_cons, List.take_zero, List.take_nil, Nat.zero_add, Nat.add_zero, Nat.reduceAdd]; done) | (simp only [List.drop_succ_cons, List.drop_zero, List.drop_nil, List.take_succ_cons, List.take_zero, List.take_nil, Nat.zero_add, Nat.add_zero, Nat.reduceAdd]; exact rfl) | exact rfl)) rfl) (Le.refl _))
theorem avector_pu {m : M6 Rat} {L : Nat} (h : m.le L) (hL : L ≤ 100000) (x y : Rat) (hx : ht x ≤ L) (hy : ht y ≤ L) : Pu Tryz.prog 60 [mf m, pp x y] (pp (m.a * x + m.b * y) (m.d * x + m.e * y)) := by
  obtain ⟨ha, hb, hc, hd, he, hf⟩ := h
  have h1 := ht_mul m.a x
  have h2 := ht_mul m.b y
  have h3 := ht_mul m.d x
  have h4 := ht_mul m.e y
  refine Pu.intro Tryz.func60 rfl (by kernel_rfl) fun C => ?_
  repeat (refine A1 ⟨?_⟩; intros)
  refine Wdc (pscale_pu m.a m.d x (by omega) (by omega) (by omega)) ?_
  repeat (refine A1 ⟨?_⟩; intros)
  refine Wdc (pscale_pu m.b m.e y (by omega) (by omega) (by omega)) ?_
  repeat (refine A1 ⟨?_⟩; intros)
  refine Wdc (padd_pu (m.a * x) (m.d * x) (m.b * y) (m.e * y) (by omega) (by omega) (by omega) (by omega)) ?_
  repeat (refine A1 ⟨?_⟩; intros)
  ((first | refine endR ?_ | refine endN ?_); refine end1 (RV.cellA rfl (by (first | exact List.mem_cons_self | exact (List.mem_cons_of_mem _ List.mem_cons_self) | exact (List.mem_cons_of_mem _ (List.mem_cons_of_mem _ List.mem_cons_self)) | exact (List.mem_cons_of_mem _ (List.mem_cons_of_mem _ (List.mem_cons_of_mem _ List.mem_cons_self))) | exact (List.mem_cons_of_mem _ (List.mem_cons_of_mem _ (List.mem_cons_of_mem _ (List.mem_cons_of_mem _ List.mem_cons_self)))) | exact (List.mem_cons_of_mem _ (List.mem_cons_of_mem _ (List.mem_cons_of_mem _ (List.mem_cons_of_mem _ (List.mem_cons_of_mem _ List.mem_cons_self))))) | exact (List.mem_cons_of_mem _ (List.mem_cons_of_mem _ (List.mem_cons_of_mem _ (List.mem_cons_of_mem _ (List.mem_cons_of_mem _ (List.mem_cons_of_mem _ List.mem_cons_self)))))) | exact (List.mem_cons_of_mem _ (List.mem_cons_of_mem _ (List.mem_cons_of_mem _ (List.mem_cons_of_mem _ (List.mem_cons_of_mem _ (List.mem_cons_of_mem _ (List.mem_cons_of_mem _ List.mem_cons_self))))))))) (by (first | (simp only [List.drop_succ_cons, List.drop_zero, List.drop_nil, List.take_succ_cons, List.take_zero, List.take_nil, Nat.zero_add, Nat.add_zero, Nat.reduceAdd]; done) | (simp only [List.drop_succ_cons, List.drop_zero, List.drop_nil, List.take_succ_cons, List.take_zero, List.take_nil, Nat.zero_add, Nat.add_zero, Nat.reduceAdd]; exact rfl) | exact rfl)) rfl) (Le.refl _))
theorem aapply_pu {m : M6 Rat} {L : Nat} (h : m.le L) (hL : L ≤ 100000) (x y : Rat) (hx : ht x ≤ L) (hy : ht y ≤ L) : Pu Tryz.prog 57 [mf m, pp x y] (pp (m.a * x + m.b * y + m.c) (m.d * x + m.e * y + m.f)) := by
  have hv := avector_pu h hL x y hx hy
  obtain ⟨ha, hb, hc, hd, he, hf⟩ := h
  have h1 := ht_mul m.a x
  have h2 := ht_mul m.b y
  have h3 := ht_mul m.d x
  have h4 := ht_mul m.e y
  have h5 := ht_add (m.a * x) (m.b * y)
  have h6 := ht_add (m.d * x) (m.e * y)
  refine Pu.intro Tryz.func57 rfl (by kernel_rfl) fun C => ?_
  repeat (refine A1 ⟨?_⟩; intros)
  refine Wdc hv ?_
  repeat (refine A1 ⟨?_⟩; intros)
  refine Wdc (padd_pu (m.a * x + m.b * y) (m.d * x + m.e * y) m.c m.f (by omega) (by omega) (by omega) (by omega)) ?_
  repeat (refine A1 ⟨?_⟩; intros)
  ((first | refine endR ?_ | refine endN ?_); refine end1 (RV.cellA rfl (by (first | exact List.mem_cons_self | exact (List.mem_cons_of_mem _ List.mem_cons_self) | exact (List.mem_cons_of_mem _ (List.mem_cons_of_mem _ List.mem_cons_self)) | exact (List.mem_cons_of_mem _ (List.mem_cons_of_mem _ (List.mem_cons_of_mem _ List.mem_cons_self))) | exact (List.mem_cons_of_mem _ (List.mem_cons_of_mem _ (List.mem_cons_of_mem _ (List.mem_cons_of_mem _ List.mem_cons_self)))) | exact (List.mem_cons_of_mem _ (List.mem_cons_of_mem _ (List.mem_cons_of_mem _ (List.mem_cons_of_mem _ (List.mem_cons_of_mem _ List.mem_cons_self))))) | exact (List.mem_cons_of_mem _ (List.mem_cons_of_mem _ (List.mem_cons_of_mem _ (List.mem_cons_of_mem _ (List.mem_cons_of_mem _ (List.mem_cons_of_mem _ List.mem_cons_self)))))) | exact (List.mem_cons_of_mem _ (List.mem_cons_of_mem _ (List.mem_cons_of_mem _ (List.mem_cons_of_mem _ (List.mem_cons_of_mem _ (List.mem_cons_of_mem _ (List.mem_cons_of_mem _ List.mem_cons_self))))))))) (by (first | (simp only [List.drop_succ_cons, List.drop_zero, List.drop_nil, List.take_succ_cons, List.take_zero, List.take_nil, Nat.zero_add, Nat.add_zero, Nat.reduceAdd]; done) | (simp only [List.drop_succ_cons, List.drop_zero, List.drop_nil, List.take_succ_cons, List.take_zero, List.take_nil, Nat.zero_add, Nat.add_zero, Nat.reduceAdd]; exact rfl) | exact rfl)) rfl) (Le.refl _))
theorem aDet_pu {m : M6 RQ} {L : Nat} (h : m.ok L) (hL : L ≤ 10000) : Pu Tryz.prog 22 [mr m] (q (m.v.a * m.v.e - m.v.d * m.v.b)) := by
  have hd := adet_pu (M6.v_le h) (by omega)
  obtain ⟨ha, hb, hc, hd, he, hf⟩ := M6.v_le h
  have h1 := ht_mul m.v.a m.v.e
  have h2 := ht_mul m.v.d m.v.b
  have h3 := ht_sub (m.v.a * m.v.e) (m.v.d * m.v.b)
  refine Pu.intro Tryz.func22 rfl (by kernel_rfl) fun C => ?_
  repeat (refine A1 ⟨?_⟩; intros)
  refine Wc (aof_pu h (by omega)) ?_
  repeat (refine A1 ⟨?_⟩; intros)
  refine Wc (adet_pu (M6.v_le h) (by omega)) ?_
  repeat (refine A1 ⟨?_⟩; intros)
  refine Wc (api_pu (m.v.a * m.v.e - m.v.d * m.v.b) (by omega)) ?_
  repeat (refine A1 ⟨?_⟩; intros)
  ((first | refine endR ?_ | refine endN ?_); refine end1 (RV.cellA rfl (by (first | exact List.mem_cons_self | exact (List.mem_cons_of_mem _ List.mem_cons_self) | exact (List.mem_cons_of_mem _ (List.mem_cons_of_mem _ List.mem_cons_self)) | exact (List.mem_cons_of_mem _ (List.mem_cons_of_mem _ (List.mem_cons_of_mem _ List.mem_cons_self))) | exact (List.mem_cons_of_mem _ (List.mem_cons_of_mem _ (List.mem_cons_of_mem _ (List.mem_cons_of_mem _ List.mem_cons_self)))) | exact (List.mem_cons_of_mem _ (List.mem_cons_of_mem _ (List.mem_cons_of_mem _ (List.mem_cons_of_mem _ (List.mem_cons_of_mem _ List.mem_cons_self))))) | exact (List.mem_cons_of_mem _ (List.mem_cons_of_mem _ (List.mem_cons_of_mem _ (List.mem_cons_of_mem _ (List.mem_cons_of_mem _ (List.mem_cons_of_mem _ List.mem_cons_self)))))) | exact (List.mem_cons_of_mem _ (List.mem_cons_of_mem _ (List.mem_cons_of_mem _ (List.mem_cons_of_mem _ (List.mem_cons_of_mem _ (List.mem_cons_of_mem _ (List.mem_cons_of_mem _ List.mem_cons_self))))))))) (by (first | (simp only [List.drop_succ_cons, List.drop_zero, List.drop_nil, List.take_succ_cons, List.take_zero, List.take_nil, Nat.zero_add, Nat.add_zero, Nat.reduceAdd]; done) | (simp only [List.drop_succ_cons, List.drop_zero, List.drop_nil, List.take_succ_cons, List.take_zero, List.take_nil, Nat.zero_add, Nat.add_zero, Nat.reduceAdd]; exact rfl) | exact rfl)) rfl) (Le.refl _))
theorem aApply_pu {m : M6 RQ} {L : Nat} (h : m.ok L) (hL : L ≤ 10000) {x y : RQ} (hx : x.ok L) (hy : y.ok L) : Pu Tryz.prog 16 [mr m, pr x y] (pq (m.v.a * x.v + m.v.b * y.v + m.v.c) (m.v.d * x.v + m.v.e * y.v + m.v.f)) := by
  have hap := aapply_pu (M6.v_le h) (by omega) x.v y.v (ht_v hx) (ht_v hy)
  have kx := ht_v hx
  have ky := ht_v hy
  obtain ⟨ha, hb, hc, hd, he, hf⟩ := M6.v_le h
  have h1 := ht_mul m.v.a x.v
  have h2 := ht_mul m.v.b y.v
  have h3 := ht_mul m.v.d x.v
  have h4 := ht_mul m.v.e y.v
  have h5 := ht_add (m.v.a * x.v) (m.v.b * y.v)
  have h6 := ht_add (m.v.d * x.v) (m.v.e * y.v)
  have h7 := ht_add (m.v.a * x.v + m.v.b * y.v) m.v.c
  have h8 := ht_add (m.v.d * x.v + m.v.e * y.v) m.v.f
  refine Pu.intro Tryz.func16 rfl (by kernel_rfl) fun C => ?_
  repeat (refine A1 ⟨?_⟩; intros)
  refine Wdc (aof_pu h (by omega)) ?_
  repeat (refine A1 ⟨?_⟩; intros)
  refine Wdc (ptOf_pu hx hy (by omega)) ?_
  repeat (refine A1 ⟨?_⟩; intros)
  refine Wdc hap ?_
  repeat (refine A1 ⟨?_⟩; intros)
  refine Wdc (papi_pu (m.v.a * x.v + m.v.b * y.v + m.v.c) (m.v.d * x.v + m.v.e * y.v + m.v.f) (by omega) (by omega)) ?_
  repeat (refine A1 ⟨?_⟩; intros)
  ((first | refine endR ?_ | refine endN ?_); refine end1 (RV.cellA rfl (by (first | exact List.mem_cons_self | exact (List.mem_cons_of_mem _ List.mem_cons_self) | exact (List.mem_cons_of_mem _ (List.mem_cons_of_mem _ List.mem_cons_self)) | exact (List.mem_cons_of_mem _ (List.mem_cons_of_mem _ (List.mem_cons_of_mem _ List.mem_cons_self))) | exact (List.mem_cons_of_mem _ (List.mem_cons_of_mem _ (List.mem_cons_of_mem _ (List.mem_cons_of_mem _ List.mem_cons_self)))) | exact (List.mem_cons_of_mem _ (List.mem_cons_of_mem _ (List.mem_cons_of_mem _ (List.mem_cons_of_mem _ (List.mem_cons_of_mem _ List.mem_cons_self))))) | exact (List.mem_cons_of_mem _ (List.mem_cons_of_mem _ (List.mem_cons_of_mem _ (List.mem_cons_of_mem _ (List.mem_cons_of_mem _ (List.mem_cons_of_mem _ List.mem_cons_self)))))) | exact (List.mem_cons_of_mem _ (List.mem_cons_of_mem _ (List.mem_cons_of_mem _ (List.mem_cons_of_mem _ (List.mem_cons_of_mem _ (List.mem_cons_of_mem _ (List.mem_cons_of_mem _ List.mem_cons_self))))))))) (by (first | (simp only [List.drop_succ_cons, List.drop_zero, List.drop_nil, List.take_succ_cons, List.take_zero, List.take_nil, Nat.zero_add, Nat.add_zero, Nat.reduceAdd]; done) | (simp only [List.drop_succ_cons, List.drop_zero, List.drop_nil, List.take_succ_cons, List.take_zero, List.take_nil, Nat.zero_add, Nat.add_zero, Nat.reduceAdd]; exact rfl) | exact rfl)) rfl) (Le.refl _))
end Go.Ab
