/- Texts laid one behind the other: RefF, Txt, FmtN, FracE, RefH, Geo. -/
import Derived.Test.YtghaepkgceaboaaGreatDoorB11
import Derived.Test.YtghaepkgceaboaaGreatDoorFracD
import Derived.Test.YtghaepkgceaboaaGreatDoorB04
import Derived.Test.YtghaepkgceaboaaGreatDoorRefL
import Derived.Laws.IdiomStrings
import Derived.Test.YtghaepkgceaboaaGreatDoorB05
import Derived.Test.YtghaepkgceaboaaGreatDoorB07
/- The reference's rationals: sums and products. -/
namespace Go.Ab
open Go.Proofs
set_option linter.unusedSectionVars false
set_option linter.unusedVariables false
set_option linter.unusedSimpArgs false
variable [Base]
theorem rq_int (z : Int) : rq (z : Rat) = ag [lit (.bool (decide (z < 0))), nat z.natAbs, dg []] := by
  rw [rq, Rat.num_intCast, Rat.den_intCast, dden_one]
theorem rof_pu (z : Int) (h0 : -9223372036854775808 ≤ z) (h1 : z ≤ 9223372036854775807) : Pu Tryz.prog 48 [lit (.int .i64 z)] (rq (z : Rat)) := by
  rw [rq_int]
  refine Pu.intro Tryz.func48 rfl (by kernel_rfl) fun C => ?_
  repeat (refine A1 ⟨?_⟩; intros)
  refine Wc (rint_pu z h0 h1) ?_
  repeat (refine A1 ⟨?_⟩; intros)
  refine endR (end1 (RV.cellA rfl List.mem_cons_self rfl rfl) (Le.ag ⟨Le.refl _, Le.refl _, le_nil, trivial⟩))
theorem rs_pu (x : Rat) (h : ht x ≤ 10000000) : Pu Tryz.prog 46 [rq x] (lit (.int .i64 x.num.sign)) := by
  have b1 := ht_num x
  have hb : (dgs x.num.natAbs).length ≤ 1000000000 := by have : il x.num = (dgs x.num.natAbs).length := rfl; omega
  refine Pu.intro Tryz.func46 rfl (by kernel_rfl) fun C => ?_
  repeat (refine A1 ⟨?_⟩; intros)
  refine Wc (rsign_int x.num hb) ?_
  repeat (refine A1 ⟨?_⟩; intros)
  ((first | refine endR ?_ | refine endN ?_); exact end1 (RV.tmp rfl) (Le.refl _))
theorem ropp_pu (x : Rat) (h : ht x ≤ 10000000) : Pu Tryz.prog 114 [rq x] (rq (-x)) := by
  have b1 := ht_num x
  have hb : (dgs x.num.natAbs).length ≤ 1000000000 := by have : il x.num = (dgs x.num.natAbs).length := rfl; omega
  rw [show rq (-x) = ag [lit (.bool (decide (-x.num < 0))), nat (-x.num).natAbs, dg (dden x.den)] from by rw [rq, Rat.neg_num, Rat.neg_den]]
  refine Pu.intro Tryz.func114 rfl (by kernel_rfl) fun C => ?_
  repeat (refine A1 ⟨?_⟩; intros)
  refine Wdc (rminus_int x.num hb) ?_
  repeat (refine A1 ⟨?_⟩; intros)
  ((first | refine endR ?_ | refine endN ?_); refine end1 (RV.cellA rfl (by (first | exact List.mem_cons_self | exact (List.mem_cons_of_mem _ List.mem_cons_self) | exact (List.mem_cons_of_mem _ (List.mem_cons_of_mem _ List.mem_cons_self)) | exact (List.mem_cons_of_mem _ (List.mem_cons_of_mem _ (List.mem_cons_of_mem _ List.mem_cons_self))) | exact (List.mem_cons_of_mem _ (List.mem_cons_of_mem _ (List.mem_cons_of_mem _ (List.mem_cons_of_mem _ List.mem_cons_self)))) | exact (List.mem_cons_of_mem _ (List.mem_cons_of_mem _ (List.mem_cons_of_mem _ (List.mem_cons_of_mem _ (List.mem_cons_of_mem _ List.mem_cons_self))))) | exact (List.mem_cons_of_mem _ (List.mem_cons_of_mem _ (List.mem_cons_of_mem _ (List.mem_cons_of_mem _ (List.mem_cons_of_mem _ (List.mem_cons_of_mem _ List.mem_cons_self)))))) | exact (List.mem_cons_of_mem _ (List.mem_cons_of_mem _ (List.mem_cons_of_mem _ (List.mem_cons_of_mem _ (List.mem_cons_of_mem _ (List.mem_cons_of_mem _ (List.mem_cons_of_mem _ List.mem_cons_self))))))))) (by (first | (simp only [List.drop_succ_cons, List.drop_zero, List.drop_nil, List.take_succ_cons, List.take_zero, List.take_nil, Nat.zero_add, Nat.add_zero, Nat.reduceAdd]; done) | (simp only [List.drop_succ_cons, List.drop_zero, List.drop_nil, List.take_succ_cons, List.take_zero, List.take_nil, Nat.zero_add, Nat.add_zero, Nat.reduceAdd]; exact rfl) | exact rfl)) rfl) (Le.refl _))
theorem dden_len {d : Nat} (h : d ≠ 0) : d ≠ 1 → (dden d).length ≠ 0 := fun h1 => by rw [dden_ne h1]; exact dgs_ne_nil h
theorem dden_len1 {d : Nat} (h : d = 1) : (dden d).length = 0 := by rw [h, dden_one]; rfl
theorem dden_le (d : Nat) : (dden d).length ≤ (dgs d).length := by unfold dden; split <;> simp
theorem times_whole {x y : Rat} (h1 : x.den = 1) (h2 : y.den = 1) : x * y = ((x.num * y.num : Int) : Rat) := by
  rw [Rat.mul_def', h1, h2, Nat.mul_one, Rat.mkRat_one]
theorem rtimes_pu (x y : Rat) (hx : ht x ≤ 3000000) (hy : ht y ≤ 3000000) : Pu Tryz.prog 75 [rq x, rq y] (rq (x * y)) := by
  have n1 := ht_num x
  have n2 := ht_num y
  have d1 := ht_den x
  have d2 := ht_den y
  have m1 := il_mul x.num y.num
  have m2 := dlen_mul x.den y.den
  have l1 := dden_le x.den
  have l2 := dden_le y.den
  have mi := rmul_int x.num y.num (show il x.num ≤ 100000000 by omega) (show il y.num ≤ 100000000 by omega)
  have fr := rfrac_pu (x.num * y.num) (x.den * y.den) (by omega) (by omega) (Nat.mul_ne_zero x.den_nz y.den_nz)
  by_cases hx1 : x.den = 1
  · have k1 := dden_len1 hx1
    by_cases hy1 : y.den = 1
    · have k2 := dden_len1 hy1
      rw [times_whole hx1 hy1, rq_int]
      refine Pu.intro Tryz.func75 rfl (by kernel_rfl) fun C => ?_
      repeat (refine A1 ⟨?_⟩; intros)
      refine Wc mi ?_
      repeat (refine A1 ⟨?_⟩; intros)
      refine endR (end1 (RV.cellA rfl List.mem_cons_self rfl rfl) (Le.ag ⟨Le.refl _, Le.refl _, le_nil, trivial⟩))
    · have k2 := dden_len y.den_nz hy1
      rw [Rat.mul_def']
      refine Pu.intro Tryz.func75 rfl (by kernel_rfl) fun C => ?_
      repeat (refine A1 ⟨?_⟩; intros)
      refine Wdc mi ?_
      repeat (refine A1 ⟨?_⟩; intros)
      refine Wdc (rden_pu x) ?_
      repeat (refine A1 ⟨?_⟩; intros)
      refine Wdc (rden_pu y) ?_
      repeat (refine A1 ⟨?_⟩; intros)
      refine Wdc (rprod_pu x.den y.den (by omega) (by omega)) ?_
      repeat (refine A1 ⟨?_⟩; intros)
      refine Wdc fr ?_
      repeat (refine A1 ⟨?_⟩; intros)
      ((first | refine endR ?_ | refine endN ?_); refine end1 (RV.cellA rfl (by (first | exact List.mem_cons_self | exact (List.mem_cons_of_mem _ List.mem_cons_self) | exact (List.mem_cons_of_mem _ (List.mem_cons_of_mem _ List.mem_cons_self)) | exact (List.mem_cons_of_mem _ (List.mem_cons_of_mem _ (List.mem_cons_of_mem _ List.mem_cons_self))) | exact (List.mem_cons_of_mem _ (List.mem_cons_of_mem _ (List.mem_cons_of_mem _ (List.mem_cons_of_mem _ List.mem_cons_self)))) | exact (List.mem_cons_of_mem _ (List.mem_cons_of_mem _ (List.mem_cons_of_mem _ (List.mem_cons_of_mem _ (List.mem_cons_of_mem _ List.mem_cons_self))))) | exact (List.mem_cons_of_mem _ (List.mem_cons_of_mem _ (List.mem_cons_of_mem _ (List.mem_cons_of_mem _ (List.mem_cons_of_mem _ (List.mem_cons_of_mem _ List.mem_cons_self)))))) | exact (List.mem_cons_of_mem _ (List.mem_cons_of_mem _ (List.mem_cons_of_mem _ (List.mem_cons_of_mem _ (List.mem_cons_of_mem _ (List.mem_cons_of_mem _ (List.mem_cons_of_mem _ List.mem_cons_self))))))))) (by (first | (simp only [List.drop_succ_cons, List.drop_zero, List.drop_nil, List.take_succ_cons, List.take_zero, List.take_nil, Nat.zero_add, Nat.add_zero, Nat.reduceAdd]; done) | (simp only [List.drop_succ_cons, List.drop_zero, List.drop_nil, List.take_succ_cons, List.take_zero, List.take_nil, Nat.zero_add, Nat.add_zero, Nat.reduceAdd]; exact rfl) | exact rfl)) rfl) (Le.refl _))
  · have k1 := dden_len x.den_nz hx1
    rw [Rat.mul_def']
    refine Pu.intro Tryz.func75 rfl (by kernel_rfl) fun C => ?_
    repeat (refine A1 ⟨?_⟩; intros)
    refine Wdc mi ?_
    repeat (refine A1 ⟨?_⟩; intros)
    refine Wdc (rden_pu x) ?_
    repeat (refine A1 ⟨?_⟩; intros)
    refine Wdc (rden_pu y) ?_
    repeat (refine A1 ⟨?_⟩; intros)
    refine Wdc (rprod_pu x.den y.den (by omega) (by omega)) ?_
    repeat (refine A1 ⟨?_⟩; intros)
    refine Wdc fr ?_
    repeat (refine A1 ⟨?_⟩; intros)
    ((first | refine endR ?_ | refine endN ?_); refine end1 (RV.cellA rfl (by (first | exact List.mem_cons_self | exact (List.mem_cons_of_mem _ List.mem_cons_self) | exact (List.mem_cons_of_mem _ (List.mem_cons_of_mem _ List.mem_cons_self)) | exact (List.mem_cons_of_mem _ (List.mem_cons_of_mem _ (List.mem_cons_of_mem _ List.mem_cons_self))) | exact (List.mem_cons_of_mem _ (List.mem_cons_of_mem _ (List.mem_cons_of_mem _ (List.mem_cons_of_mem _ List.mem_cons_self)))) | exact (List.mem_cons_of_mem _ (List.mem_cons_of_mem _ (List.mem_cons_of_mem _ (List.mem_cons_of_mem _ (List.mem_cons_of_mem _ List.mem_cons_self))))) | exact (List.mem_cons_of_mem _ (List.mem_cons_of_mem _ (List.mem_cons_of_mem _ (List.mem_cons_of_mem _ (List.mem_cons_of_mem _ (List.mem_cons_of_mem _ List.mem_cons_self)))))) | exact (List.mem_cons_of_mem _ (List.mem_cons_of_mem _ (List.mem_cons_of_mem _ (List.mem_cons_of_mem _ (List.mem_cons_of_mem _ (List.mem_cons_of_mem _ (List.mem_cons_of_mem _ List.mem_cons_self))))))))) (by (first | (simp only [List.drop_succ_cons, List.drop_zero, List.drop_nil, List.take_succ_cons, List.take_zero, List.take_nil, Nat.zero_add, Nat.add_zero, Nat.reduceAdd]; done) | (simp only [List.drop_succ_cons, List.drop_zero, List.drop_nil, List.take_succ_cons, List.take_zero, List.take_nil, Nat.zero_add, Nat.add_zero, Nat.reduceAdd]; exact rfl) | exact rfl)) rfl) (Le.refl _))
set_option maxHeartbeats 1000000 in
theorem rplus_pu (x y : Rat) (hx : ht x ≤ 3000000) (hy : ht y ≤ 3000000) : Pu Tryz.prog 74 [rq x, rq y] (rq (x + y)) := by
  have n1 := ht_num x
  have n2 := ht_num y
  have d1 := ht_den x
  have d2 := ht_den y
  have m1 := il_mul x.num y.den
  have m2 := il_mul y.num x.den
  have m3 := il_add (x.num * y.den) (y.num * x.den)
  have m4 := dlen_mul x.den y.den
  rw [il_nat] at m1 m2
  have l1 := dden_le x.den
  have l2 := dden_le y.den
  have mi1 := rmul_int x.num y.den (show il x.num ≤ 100000000 by omega) (show (dgs y.den).length ≤ 100000000 by omega)
  have mi2 := rmul_int y.num x.den (show il y.num ≤ 100000000 by omega) (show (dgs x.den).length ≤ 100000000 by omega)
  rw [← sv_nat] at mi1 mi2
  have ai := radd_int (x.num * y.den) (y.num * x.den) (show il _ ≤ 100000000 by omega) (show il _ ≤ 100000000 by omega)
  have aw := radd_int x.num y.num (show il _ ≤ 100000000 by omega) (show il _ ≤ 100000000 by omega)
  have fr := rfrac_pu (x.num * y.den + y.num * x.den) (x.den * y.den) (by omega) (by omega) (Nat.mul_ne_zero x.den_nz y.den_nz)
  by_cases hx1 : x.den = 1
  · have k1 := dden_len1 hx1
    by_cases hy1 : y.den = 1
    · have k2 := dden_len1 hy1
      rw [add_whole hx1 hy1, rq_int]
      refine Pu.intro Tryz.func74 rfl (by kernel_rfl) fun C => ?_
      repeat (refine A1 ⟨?_⟩; intros)
      refine Wc aw ?_
      repeat (refine A1 ⟨?_⟩; intros)
      refine endR (end1 (RV.cellA rfl List.mem_cons_self rfl rfl) (Le.ag ⟨Le.refl _, Le.refl _, le_nil, trivial⟩))
    · have k2 := dden_len y.den_nz hy1
      rw [Rat.add_def']
      refine Pu.intro Tryz.func74 rfl (by kernel_rfl) fun C => ?_
      repeat (refine A1 ⟨?_⟩; intros)
      refine Wdc (rden_pu y) ?_
      repeat (refine A1 ⟨?_⟩; intros)
      refine Wdc (rmake_pu false y.den (by omega)) ?_
      repeat (refine A1 ⟨?_⟩; intros)
      refine Wdc mi1 ?_
      repeat (refine A1 ⟨?_⟩; intros)
      refine Wdc (rden_pu x) ?_
      repeat (refine A1 ⟨?_⟩; intros)
      refine Wdc (rmake_pu false x.den (by omega)) ?_
      repeat (refine A1 ⟨?_⟩; intros)
      refine Wdc mi2 ?_
      repeat (refine A1 ⟨?_⟩; intros)
      refine Wdc ai ?_
      repeat (refine A1 ⟨?_⟩; intros)
      refine Wdc (rden_pu x) ?_
      repeat (refine A1 ⟨?_⟩; intros)
      refine Wdc (rden_pu y) ?_
      repeat (refine A1 ⟨?_⟩; intros)
      refine Wdc (rprod_pu x.den y.den (by omega) (by omega)) ?_
      repeat (refine A1 ⟨?_⟩; intros)
      refine Wdc fr ?_
      repeat (refine A1 ⟨?_⟩; intros)
      ((first | refine endR ?_ | refine endN ?_); refine end1 (RV.cellA rfl (by (first | exact List.mem_cons_self | exact (List.mem_cons_of_mem _ List.mem_cons_self) | exact (List.mem_cons_of_mem _ (List.mem_cons_of_mem _ List.mem_cons_self)) | exact (List.mem_cons_of_mem _ (List.mem_cons_of_mem _ (List.mem_cons_of_mem _ List.mem_cons_self))) | exact (List.mem_cons_of_mem _ (List.mem_cons_of_mem _ (List.mem_cons_of_mem _ (List.mem_cons_of_mem _ List.mem_cons_self)))) | exact (List.mem_cons_of_mem _ (List.mem_cons_of_mem _ (List.mem_cons_of_mem _ (List.mem_cons_of_mem _ (List.mem_cons_of_mem _ List.mem_cons_self))))) | exact (List.mem_cons_of_mem _ (List.mem_cons_of_mem _ (List.mem_cons_of_mem _ (List.mem_cons_of_mem _ (List.mem_cons_of_mem _ (List.mem_cons_of_mem _ List.mem_cons_self)))))) | exact (List.mem_cons_of_mem _ (List.mem_cons_of_mem _ (List.mem_cons_of_mem _ (List.mem_cons_of_mem _ (List.mem_cons_of_mem _ (List.mem_cons_of_mem _ (List.mem_cons_of_mem _ List.mem_cons_self))))))))) (by (first | (simp only [List.drop_succ_cons, List.drop_zero, List.drop_nil, List.take_succ_cons, List.take_zero, List.take_nil, Nat.zero_add, Nat.add_zero, Nat.reduceAdd]; done) | (simp only [List.drop_succ_cons, List.drop_zero, List.drop_nil, List.take_succ_cons, List.take_zero, List.take_nil, Nat.zero_add, Nat.add_zero, Nat.reduceAdd]; exact rfl) | exact rfl)) rfl) (Le.refl _))
  · have k1 := dden_len x.den_nz hx1
    rw [Rat.add_def']
    refine Pu.intro Tryz.func74 rfl (by kernel_rfl) fun C => ?_
    repeat (refine A1 ⟨?_⟩; intros)
    refine Wdc (rden_pu y) ?_
    repeat (refine A1 ⟨?_⟩; intros)
    refine Wdc (rmake_pu false y.den (by omega)) ?_
    repeat (refine A1 ⟨?_⟩; intros)
    refine Wdc mi1 ?_
    repeat (refine A1 ⟨?_⟩; intros)
    refine Wdc (rden_pu x) ?_
    repeat (refine A1 ⟨?_⟩; intros)
    refine Wdc (rmake_pu false x.den (by omega)) ?_
    repeat (refine A1 ⟨?_⟩; intros)
    refine Wdc mi2 ?_
    repeat (refine A1 ⟨?_⟩; intros)
    refine Wdc ai ?_
    repeat (refine A1 ⟨?_⟩; intros)
    refine Wdc (rden_pu x) ?_
    repeat (refine A1 ⟨?_⟩; intros)
    refine Wdc (rden_pu y) ?_
    repeat (refine A1 ⟨?_⟩; intros)
    refine Wdc (rprod_pu x.den y.den (by omega) (by omega)) ?_
    repeat (refine A1 ⟨?_⟩; intros)
    refine Wdc fr ?_
    repeat (refine A1 ⟨?_⟩; intros)
    ((first | refine endR ?_ | refine endN ?_); refine end1 (RV.cellA rfl (by (first | exact List.mem_cons_self | exact (List.mem_cons_of_mem _ List.mem_cons_self) | exact (List.mem_cons_of_mem _ (List.mem_cons_of_mem _ List.mem_cons_self)) | exact (List.mem_cons_of_mem _ (List.mem_cons_of_mem _ (List.mem_cons_of_mem _ List.mem_cons_self))) | exact (List.mem_cons_of_mem _ (List.mem_cons_of_mem _ (List.mem_cons_of_mem _ (List.mem_cons_of_mem _ List.mem_cons_self)))) | exact (List.mem_cons_of_mem _ (List.mem_cons_of_mem _ (List.mem_cons_of_mem _ (List.mem_cons_of_mem _ (List.mem_cons_of_mem _ List.mem_cons_self))))) | exact (List.mem_cons_of_mem _ (List.mem_cons_of_mem _ (List.mem_cons_of_mem _ (List.mem_cons_of_mem _ (List.mem_cons_of_mem _ (List.mem_cons_of_mem _ List.mem_cons_self)))))) | exact (List.mem_cons_of_mem _ (List.mem_cons_of_mem _ (List.mem_cons_of_mem _ (List.mem_cons_of_mem _ (List.mem_cons_of_mem _ (List.mem_cons_of_mem _ (List.mem_cons_of_mem _ List.mem_cons_self))))))))) (by (first | (simp only [List.drop_succ_cons, List.drop_zero, List.drop_nil, List.take_succ_cons, List.take_zero, List.take_nil, Nat.zero_add, Nat.add_zero, Nat.reduceAdd]; done) | (simp only [List.drop_succ_cons, List.drop_zero, List.drop_nil, List.take_succ_cons, List.take_zero, List.take_nil, Nat.zero_add, Nat.add_zero, Nat.reduceAdd]; exact rfl) | exact rfl)) rfl) (Le.refl _))
theorem rqsub_pu (x y : Rat) (hx : ht x ≤ 3000000) (hy : ht y ≤ 3000000) : Pu Tryz.prog 78 [rq x, rq y] (rq (x - y)) := by
  rw [Rat.sub_eq_add_neg]
  refine Pu.intro Tryz.func78 rfl (by kernel_rfl) fun C => ?_
  repeat (refine A1 ⟨?_⟩; intros)
  refine Wdc (ropp_pu y (by omega)) ?_
  repeat (refine A1 ⟨?_⟩; intros)
  refine Wdc (rplus_pu x (-y) hx (by rw [ht_neg]; exact hy)) ?_
  repeat (refine A1 ⟨?_⟩; intros)
  ((first | refine endR ?_ | refine endN ?_); refine end1 (RV.cellA rfl (by (first | exact List.mem_cons_self | exact (List.mem_cons_of_mem _ List.mem_cons_self) | exact (List.mem_cons_of_mem _ (List.mem_cons_of_mem _ List.mem_cons_self)) | exact (List.mem_cons_of_mem _ (List.mem_cons_of_mem _ (List.mem_cons_of_mem _ List.mem_cons_self))) | exact (List.mem_cons_of_mem _ (List.mem_cons_of_mem _ (List.mem_cons_of_mem _ (List.mem_cons_of_mem _ List.mem_cons_self)))) | exact (List.mem_cons_of_mem _ (List.mem_cons_of_mem _ (List.mem_cons_of_mem _ (List.mem_cons_of_mem _ (List.mem_cons_of_mem _ List.mem_cons_self))))) | exact (List.mem_cons_of_mem _ (List.mem_cons_of_mem _ (List.mem_cons_of_mem _ (List.mem_cons_of_mem _ (List.mem_cons_of_mem _ (List.mem_cons_of_mem _ List.mem_cons_self)))))) | exact (List.mem_cons_of_mem _ (List.mem_cons_of_mem _ (List.mem_cons_of_mem _ (List.mem_cons_of_mem _ (List.mem_cons_of_mem _ (List.mem_cons_of_mem _ (List.mem_cons_of_mem _ List.mem_cons_self))))))))) (by (first | (simp only [List.drop_succ_cons, List.drop_zero, List.drop_nil, List.take_succ_cons, List.take_zero, List.take_nil, Nat.zero_add, Nat.add_zero, Nat.reduceAdd]; done) | (simp only [List.drop_succ_cons, List.drop_zero, List.drop_nil, List.take_succ_cons, List.take_zero, List.take_nil, Nat.zero_add, Nat.add_zero, Nat.reduceAdd]; exact rfl) | exact rfl)) rfl) (Le.refl _))
theorem rc_pu (x y : Rat) (hx : ht x ≤ 3000000) (hy : ht y ≤ 3000000) : Pu Tryz.prog 80 [rq x, rq y] (lit (.int .i64 (x - y).num.sign)) := by
  have h := ht_sub x y
  refine Pu.intro Tryz.func80 rfl (by kernel_rfl) fun C => ?_
  repeat (refine A1 ⟨?_⟩; intros)
  refine Wc (rqsub_pu x y hx hy) ?_
  repeat (refine A1 ⟨?_⟩; intros)
  refine Wc (rs_pu (x - y) (by omega)) ?_
  repeat (refine A1 ⟨?_⟩; intros)
  ((first | refine endR ?_ | refine endN ?_); exact end1 (RV.tmp rfl) (Le.refl _))
end Go.Ab
/- Decimal texts of numbers: the reference's. -/
namespace Go.Ab
open Go.Proofs
set_option linter.unusedSectionVars false
set_option linter.unusedVariables false
set_option linter.unusedSimpArgs false
variable [Base]
/-- the decimal digits, the last one first -/
def decR (n : Nat) : List UInt8 := if h : n = 0 then [] else UInt8.ofNat (48 + n % 10) :: decR (n / 10)
termination_by n
decreasing_by omega
theorem decR_zero : decR 0 = [] := by rw [decR]; rfl
theorem decR_pos {n : Nat} (h : n ≠ 0) : decR n = UInt8.ofNat (48 + n % 10) :: decR (n / 10) := by
  conv => lhs; rw [decR]
  rw [dif_neg h]
def dec (n : Nat) : List UInt8 := if n = 0 then [48] else (decR n).reverse
section
variable {P : Program} {F : Fr} {H : LH} {ty : TypeId}
/-- bytes of a local block as a text -/
theorem ov_bytesStr {S D : TypeId} [hS : TSl P S 5] [hD : TSr P D] {x : Operand} {b c : Nat} {l : List UInt8} {rest : List SV} (hu : P.underlying 5 = some (.int .u8)) {cs : List SV} (hx : ev F x = lit (.slice (some ⟨b, 0, none⟩) l.length c)) (hm : (b, 5, cs) ∈ H) (hle : LeL cs (bys l ++ rest)) : OpV P (.convert S D x) ty F H (str l) :=
  OpV.pure fun m w o a hop _ _ hH h => by
    have h0 := h x (by simp [Op.operands]); rw [hx, lit_p] at h0
    obtain ⟨_, arr, hb, hall0⟩ := hH.2 _ hm
    have hall := All2.le hle hall0
    have hcell : ∀ j y, l[j]? = some y → w.cell? ((⟨b, 0, none⟩ : Addr).add j) = some (.int .u8 y.toNat) := fun j y hj => by
      rw [add_none, cell_of w b _ arr _ _ hb]
      have hjl : j < l.length := (List.getElem?_eq_some_iff.1 hj).1
      have hg : (bys l ++ rest)[j]? = some (lit (.int .u8 (y.toNat : Nat))) := by
        rw [List.getElem?_append_left (by rw [bys_len]; exact hjl)]
        simp [bys, hj]
      obtain ⟨v, hv, hp, _⟩ := hall.get hg
      rw [lit_p] at hp
      subst hp
      simpa using hv
    have := run_convert_bytes_back (P := P) w S D 5 ⟨b, 0, none⟩ c l hS.h hu hD.h fun j hj => hcell j l[j] (List.getElem?_eq_getElem hj)
    exact ⟨_, by simp [execOp, hop, h0, this], lit_p.2 rfl⟩
end
theorem le1 {x : Int} {b : UInt8} (h : x = (b.toNat : Nat)) : LeL [lit (.int .u8 x)] (bys [b] ++ []) := ⟨Le.int h, trivial⟩
theorem decR_lt : ∀ (k n : Nat), n < 10 ^ k → (decR n).length ≤ k
  | 0, n, h => by
    have : n = 0 := by simpa using h
    subst this; rw [decR_zero]; simp
  | k + 1, n, h => by
    by_cases hn : n = 0
    · subst hn; rw [decR_zero]; simp
    · rw [decR_pos hn, List.length_cons]
      have := decR_lt k (n / 10) (by rw [Nat.pow_succ] at h; omega)
      omega
theorem decR_len {n L : Nat} (h : (dgs n).length ≤ L) : (decR n).length ≤ 10 * L := by
  apply decR_lt
  have h1 := lt_pow n
  have h2 : 4294967296 ^ (dgs n).length ≤ (10 ^ 10) ^ L := Nat.le_trans (Nat.pow_le_pow_right (by omega) h) (Nat.pow_le_pow_left (by omega) L)
  rw [← Nat.pow_mul] at h2
  omega
theorem nat10 : dg [10] = nat 10 := by
  show dg [10] = dg (dgs 10)
  rw [dgs]
  simp [dgs_zero]
set_option maxHeartbeats 1000000 in
theorem rtext_pu (n : Nat) {L : Nat} (hn : (dgs n).length ≤ L) (hL : L ≤ 100000) : Pu Tryz.prog 185 [nat n] (str (dec n)) := by
  unfold dec
  by_cases h0 : n = 0
  · rw [if_pos h0]
    subst h0
    have e : (dgs 0).length = 0 := by rw [dgs_zero]; rfl
    refine Pu.intro Tryz.func185 rfl (by kernel_rfl) fun C => ?_
    repeat (refine A1 ⟨?_⟩; intros)
    ((first | refine endR ?_ | refine endN ?_); exact end1 (RV.tmp rfl) (Le.refl _))
  · rw [if_neg h0]
    have hlen := dgs_ne_nil h0
    refine Pu.intro Tryz.func185 rfl (by kernel_rfl) fun C => ?_
    repeat (refine A1 ⟨?_⟩; intros)
    refine WP.loopS (ι := Nat × List UInt8) (fun x => (decR x.1).reverse ++ x.2 = (decR n).reverse ∧ (dgs x.1).length ≤ L) (fun x => x.1) (fun x => fm [(0, nat x.1), (3, str x.2)]) (fun _ => []) (n, [])
      ⟨by rw [List.append_nil], hn⟩ (by (repeat (first | exact LeF.nil _ | refine LeF.cons (Le.refl _) ?_ | refine LeF.cons (Le.int (by omega)) ?_))) (List.nil_sublist _) ?_
    rintro ⟨k, acc⟩ ⟨hk, hkL⟩ K hK
    simp only at hk hkL ⊢
    by_cases hk0 : k = 0
    · subst hk0
      have e : (dgs 0).length = 0 := by rw [dgs_zero]; rfl
      rw [decR_zero, List.reverse_nil, List.nil_append] at hk
      rw [← hk]
      clear hk hK
      repeat (refine A1 ⟨?_⟩; intros)
      ((first | refine endR ?_ | refine endN ?_); exact end1 (RV.tmp rfl) (Le.refl _))
    · have hkl := dgs_ne_nil hk0
      have ten : (dgs 10).length = 1 := by rw [dgs]; simp [dgs_zero]
      have c1 := rdivide_pu k 10 (by omega) (by omega) (by omega)
      have hq : (dgs (k / 10)).length ≤ L := Nat.le_trans (len_mono (Nat.div_le_self _ _)) hkL
      have hal : acc.length ≤ 10 * L := by
        have := decR_len hn
        have h2 := congrArg List.length hk
        simp only [List.length_append, List.length_reverse] at h2
        omega
      rw [decR_pos hk0, List.reverse_cons, List.append_assoc] at hk
      have hr : k % 10 < 10 := Nat.mod_lt _ (by omega)
      generalize k % 10 = r at *
      have hfin : ∀ F' H', LeF F' (fm [(0, nat (k / 10)), (3, str ([UInt8.ofNat (48 + r)] ++ acc))]) → ([] : LH).Sublist H' → K F' H' := fun F' H' h1 h2 => hK F' H' (k / 10, [UInt8.ofNat (48 + r)] ++ acc) ⟨hk, hq⟩ (by simp only; omega) h1 h2
      clear hK hk
      by_cases hr0 : r = 0
      · subst hr0
        have e : (dgs 0).length = 0 := by rw [dgs_zero]; rfl
        repeat (refine A1 ⟨?_⟩; intros)
        refine WpubD (ds := [10]) 15 rfl (HDel.here _) rfl (by omega) (by omega) ?_
        rw [nat10]
        repeat (first | (refine A1 ⟨?_⟩; intros) | (refine Wcx (c1) ?_) | (refine Wdcx (c1) ?_) | (refine Wcgx (c1) ?_) | (refine Wdcgx (c1) ?_))
        refine Wo (ov_bytesStr (l := [UInt8.ofNat (48 + 0)]) (rest := []) (by kernel_rfl) rfl (by (first | exact List.mem_cons_self | exact (List.mem_cons_of_mem _ List.mem_cons_self) | exact (List.mem_cons_of_mem _ (List.mem_cons_of_mem _ List.mem_cons_self)) | exact (List.mem_cons_of_mem _ (List.mem_cons_of_mem _ (List.mem_cons_of_mem _ List.mem_cons_self))) | exact (List.mem_cons_of_mem _ (List.mem_cons_of_mem _ (List.mem_cons_of_mem _ (List.mem_cons_of_mem _ List.mem_cons_self)))) | exact (List.mem_cons_of_mem _ (List.mem_cons_of_mem _ (List.mem_cons_of_mem _ (List.mem_cons_of_mem _ (List.mem_cons_of_mem _ List.mem_cons_self))))) | exact (List.mem_cons_of_mem _ (List.mem_cons_of_mem _ (List.mem_cons_of_mem _ (List.mem_cons_of_mem _ (List.mem_cons_of_mem _ (List.mem_cons_of_mem _ List.mem_cons_self)))))) | exact (List.mem_cons_of_mem _ (List.mem_cons_of_mem _ (List.mem_cons_of_mem _ (List.mem_cons_of_mem _ (List.mem_cons_of_mem _ (List.mem_cons_of_mem _ (List.mem_cons_of_mem _ List.mem_cons_self))))))))) (le1 rfl)) ?_
        repeat (refine A1 ⟨?_⟩; intros)
        refine Wo (ov_sadd rfl rfl (by rw [List.length_singleton]; omega)) ?_
        repeat (refine A1 ⟨?_⟩; intros)
        exact hfin _ _ (by (repeat (first | exact LeF.nil _ | refine LeF.cons (Le.refl _) ?_ | refine LeF.cons (Le.int (by omega)) ?_))) (List.nil_sublist _)
      · have e := dgs_ne_nil hr0
        have e1 : (dgs r).getD (Int.toNat 0) 0 = r := (dgs_1 (n := r) (by have := len_le (n := r) (k := 1) (by omega); omega)).symm
        have e2 : (UInt8.ofNat (48 + r)).toNat = 48 + r := by rw [UInt8.toNat_ofNat']; omega
        repeat (refine A1 ⟨?_⟩; intros)
        refine WpubD (ds := [10]) 15 rfl (HDel.here _) rfl (by omega) (by omega) ?_
        rw [nat10]
        repeat (first | (refine A1 ⟨?_⟩; intros) | (refine Wcx (c1) ?_) | (refine Wdcx (c1) ?_) | (refine Wcgx (c1) ?_) | (refine Wdcgx (c1) ?_))
        refine Wo (ov_bytesStr (l := [UInt8.ofNat (48 + r)]) (rest := []) (by kernel_rfl) rfl (by (first | exact List.mem_cons_self | exact (List.mem_cons_of_mem _ List.mem_cons_self) | exact (List.mem_cons_of_mem _ (List.mem_cons_of_mem _ List.mem_cons_self)) | exact (List.mem_cons_of_mem _ (List.mem_cons_of_mem _ (List.mem_cons_of_mem _ List.mem_cons_self))) | exact (List.mem_cons_of_mem _ (List.mem_cons_of_mem _ (List.mem_cons_of_mem _ (List.mem_cons_of_mem _ List.mem_cons_self)))) | exact (List.mem_cons_of_mem _ (List.mem_cons_of_mem _ (List.mem_cons_of_mem _ (List.mem_cons_of_mem _ (List.mem_cons_of_mem _ List.mem_cons_self))))) | exact (List.mem_cons_of_mem _ (List.mem_cons_of_mem _ (List.mem_cons_of_mem _ (List.mem_cons_of_mem _ (List.mem_cons_of_mem _ (List.mem_cons_of_mem _ List.mem_cons_self)))))) | exact (List.mem_cons_of_mem _ (List.mem_cons_of_mem _ (List.mem_cons_of_mem _ (List.mem_cons_of_mem _ (List.mem_cons_of_mem _ (List.mem_cons_of_mem _ (List.mem_cons_of_mem _ List.mem_cons_self))))))))) (le1 ?_)) ?_
        · rw [e1, e2]
          show (48 : Int) + (r : Int) = ((48 + r : Nat) : Int)
          omega
        repeat (refine A1 ⟨?_⟩; intros)
        refine Wo (ov_sadd rfl rfl (by rw [List.length_singleton]; omega)) ?_
        repeat (refine A1 ⟨?_⟩; intros)
        exact hfin _ _ (by (repeat (first | exact LeF.nil _ | refine LeF.cons (Le.refl _) ?_ | refine LeF.cons (Le.int (by omega)) ?_))) (List.nil_sublist _)
end Go.Ab
/- Package nat: Format. -/
namespace Go.Ab
open Go.Proofs
set_option linter.unusedSectionVars false
set_option linter.unusedVariables false
set_option linter.unusedSimpArgs false
variable [Base]
theorem mulPow (q m : Nat) : q * 10 ^ (m + 1) = 10 * (q * 10 ^ m) := by rw [Nat.pow_succ, ← Nat.mul_assoc, Nat.mul_comm]
theorem decR_q {q r m : Nat} (h0 : ¬(q = 0 ∧ r = 0)) : decR (q * 10 ^ (m + 1) + r) = UInt8.ofNat (48 + r % 10) :: decR (q * 10 ^ m + r / 10) := by
  have hp : 0 < 10 ^ m := Nat.pow_pos (by omega)
  have e := mulPow q m
  generalize hz : q * 10 ^ m = z at *
  have hne : q * 10 ^ (m + 1) + r ≠ 0 := by
    rw [e]
    intro h
    have hz0 : z = 0 := by omega
    rw [← hz] at hz0
    rcases Nat.mul_eq_zero.1 hz0 with h1 | h1
    · exact h0 ⟨h1, by omega⟩
    · omega
  rw [decR_pos hne, e]
  congr 2
  · omega
  · omega
theorem Own.bytes {l : List UInt8} {s : SV} {H : LH} (hl : l.length ≠ 0) (h : Own 5 1 l.length (bys l) s H) : ∃ b c rest, s = lit (.slice (some ⟨b, 0, none⟩) l.length c) ∧ H = [(b, 5, bys l ++ rest)] := by
  obtain ⟨_, ⟨e, _, _⟩ | ⟨b, c, _, _, rfl, rfl⟩⟩ := h
  · exact absurd e hl
  · exact ⟨b, c, _, rfl, rfl⟩
theorem byte_dec (r : Nat) : [lit (.int .u8 (48 + ((r % 10 : Nat) : Int)))] = bys [UInt8.ofNat (48 + r % 10)] := by
  have e2 : (UInt8.ofNat (48 + r % 10)).toNat = 48 + r % 10 := by rw [UInt8.toNat_ofNat']; omega
  show _ = [lit (.int .u8 (((UInt8.ofNat (48 + r % 10)).toNat : Nat) : Int))]
  rw [e2]
  rfl
set_option maxHeartbeats 1000000 in
theorem formatN_pu (n : Nat) {L : Nat} (hn : (dgs n).length ≤ L) (hL : L ≤ 100000) : Pu Tryz.prog 228 [nat n] (str (dec n)) := by
  have c0 := trim_nat (dgs n) (by omega) (D_dgs n)
  rw [val_dgs] at c0
  have hdl := decR_len hn
  refine Pu.intro Tryz.func228 rfl (by kernel_rfl) fun C => ?_
  repeat (first | (refine A1 ⟨?_⟩; intros) | (refine Wcx (c0) ?_) | (refine Wdcx (c0) ?_) | (refine Wcgx (c0) ?_) | (refine Wdcgx (c0) ?_))
  refine WP.loopS (ι := Nat × List UInt8 × SV × LH) (fun x => x.2.1 ++ decR x.1 = decR n ∧ Own 5 1 x.2.1.length (bys x.2.1) x.2.2.1 x.2.2.2 ∧ (dgs x.1).length ≤ L) (fun x => x.1) (fun x => fm [(0, nat x.1), (3, x.2.2.1)]) (fun x => x.2.2.2) (n, [], lit (.slice none 0 0), [])
    ⟨by rw [List.nil_append], Own.nil _ _, hn⟩ (by (repeat (first | exact LeF.nil _ | refine LeF.cons (Le.refl _) ?_ | refine LeF.cons (Le.int (by omega)) ?_))) (List.nil_sublist _) ?_
  rintro ⟨x, acc, s, Hs⟩ ⟨hx, hown, hxL⟩ K hK
  simp only at hx hown hxL ⊢
  haveI := hown.co
  by_cases hx0 : x = 0
  · subst hx0
    have e : (dgs 0).length = 0 := by rw [dgs_zero]; rfl
    rw [decR_zero, List.append_nil] at hx
    subst hx
    clear hK
    have ed : (decR n).length = 0 ↔ n = 0 := by
      constructor
      · intro h
        by_cases h0 : n = 0
        · exact h0
        · rw [decR_pos h0] at h; cases h
      · rintro rfl; rw [decR_zero]; rfl
    by_cases h0 : n = 0
    · have e2 := ed.2 h0
      unfold dec
      rw [if_pos h0]
      clear ed
      repeat (refine A1 ⟨?_⟩; intros)
      refine Wo (ov_lenOwn hown rfl) ?_
      repeat (refine A1 ⟨?_⟩; intros)
      ((first | refine endR ?_ | refine endN ?_); exact end1 (RV.tmp rfl) (Le.refl _))
    · have e2 : (decR n).length ≠ 0 := fun h => h0 (ed.1 h)
      unfold dec
      rw [if_neg h0]
      obtain ⟨b, c, rest, rfl, rfl⟩ := hown.bytes e2
      clear ed
      generalize hl : decR n = l at *
      repeat (refine A1 ⟨?_⟩; intros)
      refine WfH (reverse_pu b c l rest (by omega)) ?_
      rintro _ _ ⟨rfl, rfl⟩
      simp only [List.cons_append, List.nil_append]
      repeat (refine A1 ⟨?_⟩; intros)
      refine Wo (ov_bytesStr (l := l.reverse) (rest := rest) (c := c) (by kernel_rfl) (by rw [List.length_reverse]; rfl) (by (first | exact List.mem_cons_self | exact (List.mem_cons_of_mem _ List.mem_cons_self) | exact (List.mem_cons_of_mem _ (List.mem_cons_of_mem _ List.mem_cons_self)) | exact (List.mem_cons_of_mem _ (List.mem_cons_of_mem _ (List.mem_cons_of_mem _ List.mem_cons_self))) | exact (List.mem_cons_of_mem _ (List.mem_cons_of_mem _ (List.mem_cons_of_mem _ (List.mem_cons_of_mem _ List.mem_cons_self)))) | exact (List.mem_cons_of_mem _ (List.mem_cons_of_mem _ (List.mem_cons_of_mem _ (List.mem_cons_of_mem _ (List.mem_cons_of_mem _ List.mem_cons_self))))) | exact (List.mem_cons_of_mem _ (List.mem_cons_of_mem _ (List.mem_cons_of_mem _ (List.mem_cons_of_mem _ (List.mem_cons_of_mem _ (List.mem_cons_of_mem _ List.mem_cons_self)))))) | exact (List.mem_cons_of_mem _ (List.mem_cons_of_mem _ (List.mem_cons_of_mem _ (List.mem_cons_of_mem _ (List.mem_cons_of_mem _ (List.mem_cons_of_mem _ (List.mem_cons_of_mem _ List.mem_cons_self))))))))) (LeL.refl _)) ?_
      repeat (refine A1 ⟨?_⟩; intros)
      ((first | refine endR ?_ | refine endN ?_); exact end1 (RV.tmp rfl) (Le.refl _))
  · have e := dgs_ne_nil hx0
    repeat (refine A1 ⟨?_⟩; intros)
    have c1 := short_nat (dgs x) 1000000000 (by omega) (D_dgs x) (by omega) (by omega)
    rw [val_dgs] at c1
    have hq : (dgs (x / 1000000000)).length ≤ L := Nat.le_trans (len_mono (Nat.div_le_self _ _)) hxL
    have hfin : ∀ F' H' acc' s' Hs', acc' ++ decR (x / 1000000000) = decR n → Own 5 1 acc'.length (bys acc') s' Hs' → LeF F' (fm [(0, nat (x / 1000000000)), (3, s')]) → Hs'.Sublist H' → K F' H' := fun F' H' acc' s' Hs' g1 g2 h1 h2 => hK F' H' (x / 1000000000, acc', s', Hs') ⟨g1, g2, hq⟩ (by simp only; omega) h1 h2
    clear hK
    have hz : acc ++ decR (x / 1000000000 * 10 ^ (9 - 0) + x % 1000000000) = decR n := by
      rw [← hx]; congr 2; omega
    have hr : x % 1000000000 < 10 ^ (9 - 0) := by
      show _ < 1000000000; omega
    generalize x % 1000000000 = r at *
    generalize x / 1000000000 = q at *
    repeat (first | (refine A1 ⟨?_⟩; intros) | (refine Wcx (c1) ?_) | (refine Wdcx (c1) ?_) | (refine Wcgx (c1) ?_) | (refine Wdcgx (c1) ?_))
    refine WP.loopS (ι := Nat × Nat × List UInt8 × SV × LH) (fun y => y.1 ≤ 9 ∧ y.2.1 < 10 ^ (9 - y.1) ∧ y.2.2.1 ++ decR (q * 10 ^ (9 - y.1) + y.2.1) = decR n ∧ Own 5 1 y.2.2.1.length (bys y.2.2.1) y.2.2.2.1 y.2.2.2.2) (fun y => 9 - y.1)
      (fun y => fm [(0, nat q), (3, y.2.2.2.1), (4, lit (.int .u32 y.2.1)), (15, lit (.int .i64 y.1))]) (fun y => y.2.2.2.2) (0, r, acc, s, Hs) ⟨by omega, hr, hz, hown⟩ (by (repeat (first | exact LeF.nil _ | refine LeF.cons (Le.refl _) ?_ | refine LeF.cons (Le.int (by omega)) ?_))) (List.Sublist.refl _) ?_
    clear hr hz hown this hx c1
    rintro ⟨k, r, acc, s, Hs⟩ ⟨hk, hr, hz, hown⟩ K2 hK2
    simp only at hk hr hz hown ⊢
    haveI := hown.co
    by_cases hk9 : k = 9
    · subst hk9
      have : r = 0 := by simpa using hr
      subst this
      rw [show q * 10 ^ (9 - 9) + 0 = q from by simp] at hz
      clear hK2 hr
      repeat (refine A1 ⟨?_⟩; intros)
      exact hfin _ _ acc s Hs hz hown (by (repeat (first | exact LeF.nil _ | refine LeF.cons (Le.refl _) ?_ | refine LeF.cons (Le.int (by omega)) ?_))) (List.Sublist.refl _)
    · obtain ⟨m, hm⟩ : ∃ m, 9 - k = m + 1 := ⟨8 - k, by omega⟩
      have hm' : 9 - (k + 1) = m := by omega
      rw [hm] at hr hz
      have hrb : r < 1000000000 := Nat.lt_of_lt_of_le hr (show 10 ^ (m + 1) ≤ 10 ^ 9 from Nat.pow_le_pow_right (by omega) (by omega))
      have hal : acc.length ≤ 10 * L := by
        have h2 := congrArg List.length hz
        simp only [List.length_append] at h2
        omega
      by_cases hqr : q = 0 ∧ r = 0
      · obtain ⟨rfl, rfl⟩ := hqr
        have e : (dgs 0).length = 0 := by rw [dgs_zero]; rfl
        rw [Nat.zero_mul] at hz
        clear hK2 hr
        repeat (refine A1 ⟨?_⟩; intros)
        exact hfin _ _ acc s Hs hz hown (by (repeat (first | exact LeF.nil _ | refine LeF.cons (Le.refl _) ?_ | refine LeF.cons (Le.int (by omega)) ?_))) (List.Sublist.refl _)
      · rw [decR_q hqr] at hz
        have hr1 : r / 10 < 10 ^ m := by
          rw [Nat.pow_succ] at hr; omega
        have hz1 : (acc ++ [UInt8.ofNat (48 + r % 10)]) ++ decR (q * 10 ^ m + r / 10) = decR n := by rw [← hz]; simp
        have hfin2 : ∀ F' H' s' Hs', Own 5 1 (acc.length + 1) (bys acc ++ bys [UInt8.ofNat (48 + r % 10)]) s' Hs' → LeF F' (fm [(0, nat q), (3, s'), (4, lit (.int .u32 (r / 10 : Nat))), (15, lit (.int .i64 (k + 1 : Nat)))]) → Hs'.Sublist H' → K2 F' H' := fun F' H' s' Hs' g h1 h2 => hK2 F' H' (k + 1, r / 10, acc ++ [UInt8.ofNat (48 + r % 10)], s', Hs') ⟨by simp only; omega, by simp only; rw [hm']; exact hr1, by simp only; rw [hm']; exact hz1, by simp only; rw [List.length_append, bys_append]; exact g⟩ (by simp only; omega) h1 h2
        clear hK2 hz hz1 hr hfin
        by_cases hq0 : q = 0
        · have hr0 : r ≠ 0 := fun h => hqr ⟨hq0, h⟩
          subst hq0
          have e : (dgs 0).length = 0 := by rw [dgs_zero]; rfl
          clear hqr
          repeat (refine A1 ⟨?_⟩; intros)
          refine Wown hown (by omega) (fun s1 H1 o1 => ?_)
          rw [byte_dec r] at o1
          haveI := o1.co
          have ht : (r : Int).tdiv 10 = ((r / 10 : Nat) : Int) := (Int.ofNat_tdiv r 10).symm
          repeat (refine A1 ⟨?_⟩; intros)
          exact hfin2 _ _ s1 H1 o1 (by (repeat (first | exact LeF.nil _ | refine LeF.cons (Le.refl _) ?_ | refine LeF.cons (Le.int (by omega)) ?_))) (List.sublist_cons_self _ _)
        · have e := dgs_ne_nil hq0
          clear hqr
          repeat (refine A1 ⟨?_⟩; intros)
          refine Wown hown (by omega) (fun s1 H1 o1 => ?_)
          rw [byte_dec r] at o1
          haveI := o1.co
          have ht : (r : Int).tdiv 10 = ((r / 10 : Nat) : Int) := (Int.ofNat_tdiv r 10).symm
          repeat (refine A1 ⟨?_⟩; intros)
          exact hfin2 _ _ s1 H1 o1 (by (repeat (first | exact LeF.nil _ | refine LeF.cons (Le.refl _) ?_ | refine LeF.cons (Le.int (by omega)) ?_))) (List.sublist_cons_self _ _)
end Go.Ab
/- Package frac: Zero, Inv. -/
namespace Go.Ab
open Go.Proofs
set_option linter.unusedSectionVars false
set_option linter.unusedVariables false
set_option linter.unusedSimpArgs false
variable [Base]
theorem num_big {x : Rat} (h : ¬small x) : x.num ≠ 0 := fun e => h (by
  have hx : x = 0 := Rat.num_eq_zero.1 e
  subst hx
  unfold small; rw [show (0 : Rat).num = 0 from rfl, show (0 : Rat).den = 1 from rfl]; omega)
theorem inv_mk (x : Rat) : mkRat (sv (decide (x.num < 0)) x.den) x.num.natAbs = x⁻¹ := by
  rw [Rat.inv_def]
  by_cases h : x.num < 0
  · rw [decide_eq_true h]
    have e : x.num = -((x.num.natAbs : Nat) : Int) := by omega
    conv => rhs; rw [e, Rat.divInt_neg', Rat.divInt_ofNat]
    rfl
  · rw [decide_eq_false h]
    have e : x.num = ((x.num.natAbs : Nat) : Int) := by omega
    conv => rhs; rw [e, Rat.divInt_ofNat]
    rfl
theorem ht_inv (x : Rat) : ht x⁻¹ ≤ ht x + 1 := by
  have h := ht_mk (sv (decide (x.num < 0)) x.den) x.num.natAbs
  rw [inv_mk] at h
  have h1 := ht_num x
  have h2 := ht_den x
  have h3 : il (sv (decide (x.num < 0)) x.den) = (dgs x.den).length := by unfold il; rw [sv_abs]
  have h4 : il x.num = (dgs x.num.natAbs).length := rfl
  omega
end Go.Ab
/- The reference's rationals: Part, Over. -/
namespace Go.Ab
open Go.Proofs
set_option linter.unusedSectionVars false
set_option linter.unusedVariables false
set_option linter.unusedSimpArgs false
variable [Base]
theorem rpart_pu (n : Int) (d : Nat) (h0 : -9223372036854775808 ≤ n) (h1 : n ≤ 9223372036854775807) (hd0 : d ≠ 0) (hd : d ≤ 9223372036854775807) : Pu Tryz.prog 76 [lit (.int .i64 n), lit (.int .i64 d)] (rq (mkRat n d)) := by
  have hn : il n ≤ 2 := len_le (k := 2) (by have : n.natAbs < 18446744073709551616 := by omega
                                            simpa using this)
  have hdl := len_le (n := d) (k := 2) (by simpa using (show d < 18446744073709551616 by omega))
  refine Pu.intro Tryz.func76 rfl (by kernel_rfl) fun C => ?_
  repeat (first | (refine A1 ⟨?_⟩; intros) | (refine Wcx (rint_pu n h0 h1) ?_) | (refine Wdcx (rint_pu n h0 h1) ?_) | (refine Wcgx (rint_pu n h0 h1) ?_) | (refine Wdcgx (rint_pu n h0 h1) ?_) | (refine Wcx (word_pu d (by omega)) ?_) | (refine Wdcx (word_pu d (by omega)) ?_) | (refine Wcgx (word_pu d (by omega)) ?_) | (refine Wdcgx (word_pu d (by omega)) ?_) | (refine Wcx (rfrac_pu n d (by omega) (by omega) hd0) ?_) | (refine Wdcx (rfrac_pu n d (by omega) (by omega) hd0) ?_) | (refine Wcgx (rfrac_pu n d (by omega) (by omega) hd0) ?_) | (refine Wdcgx (rfrac_pu n d (by omega) (by omega) hd0) ?_))
  ((first | refine endR ?_ | refine endN ?_); refine end1 (RV.cellA rfl (by (first | exact List.mem_cons_self | exact (List.mem_cons_of_mem _ List.mem_cons_self) | exact (List.mem_cons_of_mem _ (List.mem_cons_of_mem _ List.mem_cons_self)) | exact (List.mem_cons_of_mem _ (List.mem_cons_of_mem _ (List.mem_cons_of_mem _ List.mem_cons_self))) | exact (List.mem_cons_of_mem _ (List.mem_cons_of_mem _ (List.mem_cons_of_mem _ (List.mem_cons_of_mem _ List.mem_cons_self)))) | exact (List.mem_cons_of_mem _ (List.mem_cons_of_mem _ (List.mem_cons_of_mem _ (List.mem_cons_of_mem _ (List.mem_cons_of_mem _ List.mem_cons_self))))) | exact (List.mem_cons_of_mem _ (List.mem_cons_of_mem _ (List.mem_cons_of_mem _ (List.mem_cons_of_mem _ (List.mem_cons_of_mem _ (List.mem_cons_of_mem _ List.mem_cons_self)))))) | exact (List.mem_cons_of_mem _ (List.mem_cons_of_mem _ (List.mem_cons_of_mem _ (List.mem_cons_of_mem _ (List.mem_cons_of_mem _ (List.mem_cons_of_mem _ (List.mem_cons_of_mem _ List.mem_cons_self))))))))) (by (first | (simp only [List.drop_succ_cons, List.drop_zero, List.drop_nil, List.take_succ_cons, List.take_zero, List.take_nil, Nat.zero_add, Nat.add_zero, Nat.reduceAdd]; done) | (simp only [List.drop_succ_cons, List.drop_zero, List.drop_nil, List.take_succ_cons, List.take_zero, List.take_nil, Nat.zero_add, Nat.add_zero, Nat.reduceAdd]; exact rfl) | exact rfl)) rfl) (Le.refl _))
theorem over_mk (x y : Rat) : mkRat (x.num * sv (decide (y.num < 0)) y.den) (x.den * y.num.natAbs) = x / y := by
  rw [Rat.div_def, ← inv_mk]
  conv => rhs; rw [← Rat.mkRat_self x]
  rw [Rat.mkRat_mul_mkRat]
theorem rover_pu (x y : Rat) (hx : ht x ≤ 3000000) (hy : ht y ≤ 3000000) (h0 : y.num ≠ 0) : Pu Tryz.prog 243 [rq x, rq y] (rq (x / y)) := by
  have n1 := ht_num x
  have n2 := ht_num y
  have d1 := ht_den x
  have d2 := ht_den y
  have e2 : il y.num = (dgs y.num.natAbs).length := rfl
  have m1 := il_mul x.num (sv (decide (y.num < 0)) y.den)
  have e1 : il (sv (decide (y.num < 0)) y.den) = (dgs y.den).length := by unfold il; rw [sv_abs]
  have m4 := dlen_mul x.den y.num.natAbs
  have mi := rmul_int x.num (sv (decide (y.num < 0)) y.den) (show il x.num ≤ 100000000 by omega) (show il _ ≤ 100000000 by omega)
  have fr := rfrac_pu (x.num * sv (decide (y.num < 0)) y.den) (x.den * y.num.natAbs) (by omega) (by omega) (Nat.mul_ne_zero x.den_nz (by omega))
  rw [over_mk] at fr
  refine Pu.intro Tryz.func243 rfl (by kernel_rfl) fun C => ?_
  repeat (first | (refine A1 ⟨?_⟩; intros) | (refine Wcx (rden_pu _) ?_) | (refine Wdcx (rden_pu _) ?_) | (refine Wcgx (rden_pu _) ?_) | (refine Wdcgx (rden_pu _) ?_) | (refine Wcx (rmake_pu _ _ (by omega)) ?_) | (refine Wdcx (rmake_pu _ _ (by omega)) ?_) | (refine Wcgx (rmake_pu _ _ (by omega)) ?_) | (refine Wdcgx (rmake_pu _ _ (by omega)) ?_) | (refine Wcx (mi) ?_) | (refine Wdcx (mi) ?_) | (refine Wcgx (mi) ?_) | (refine Wdcgx (mi) ?_) | (refine Wcx (rprod_pu _ _ (by omega) (by omega)) ?_) | (refine Wdcx (rprod_pu _ _ (by omega) (by omega)) ?_) | (refine Wcgx (rprod_pu _ _ (by omega) (by omega)) ?_) | (refine Wdcgx (rprod_pu _ _ (by omega) (by omega)) ?_) | (refine Wcx (fr) ?_) | (refine Wdcx (fr) ?_) | (refine Wcgx (fr) ?_) | (refine Wdcgx (fr) ?_))
  ((first | refine endR ?_ | refine endN ?_); refine end1 (RV.cellA rfl (by (first | exact List.mem_cons_self | exact (List.mem_cons_of_mem _ List.mem_cons_self) | exact (List.mem_cons_of_mem _ (List.mem_cons_of_mem _ List.mem_cons_self)) | exact (List.mem_cons_of_mem _ (List.mem_cons_of_mem _ (List.mem_cons_of_mem _ List.mem_cons_self))) | exact (List.mem_cons_of_mem _ (List.mem_cons_of_mem _ (List.mem_cons_of_mem _ (List.mem_cons_of_mem _ List.mem_cons_self)))) | exact (List.mem_cons_of_mem _ (List.mem_cons_of_mem _ (List.mem_cons_of_mem _ (List.mem_cons_of_mem _ (List.mem_cons_of_mem _ List.mem_cons_self))))) | exact (List.mem_cons_of_mem _ (List.mem_cons_of_mem _ (List.mem_cons_of_mem _ (List.mem_cons_of_mem _ (List.mem_cons_of_mem _ (List.mem_cons_of_mem _ List.mem_cons_self)))))) | exact (List.mem_cons_of_mem _ (List.mem_cons_of_mem _ (List.mem_cons_of_mem _ (List.mem_cons_of_mem _ (List.mem_cons_of_mem _ (List.mem_cons_of_mem _ (List.mem_cons_of_mem _ List.mem_cons_self))))))))) (by (first | (simp only [List.drop_succ_cons, List.drop_zero, List.drop_nil, List.take_succ_cons, List.take_zero, List.take_nil, Nat.zero_add, Nat.add_zero, Nat.reduceAdd]; done) | (simp only [List.drop_succ_cons, List.drop_zero, List.drop_nil, List.take_succ_cons, List.take_zero, List.take_nil, Nat.zero_add, Nat.add_zero, Nat.reduceAdd]; exact rfl) | exact rfl)) rfl) (Le.refl _))
end Go.Ab
/- Packages geo and affine: points and maps. -/
namespace Go.Ab
open Go.Proofs
set_option linter.unusedSectionVars false
set_option linter.unusedVariables false
set_option linter.unusedSimpArgs false
variable [Base]
abbrev pp (x y : Rat) : SV := ag [lit (.int .i64 (r0 x)), lit (.int .i64 (r1 x)), r2 x, lit (.int .i64 (r0 y)), lit (.int .i64 (r1 y)), r2 y]
/-- a raw rational: a sign, digits, digits -/
structure RQ where
  s : Bool
  n : List Nat
  d : List Nat
def RQ.v (r : RQ) : Rat := mkRat (sv r.s (val r.n)) (val r.d)
def RQ.ok (L : Nat) (r : RQ) : Prop := D r.n ∧ D r.d ∧ r.n.length ≤ L ∧ r.d.length ≤ L
abbrev qr (r : RQ) : SV := qraw r.s r.n r.d
abbrev pr (a b : RQ) : SV := ag [lit (.bool a.s), dg a.n, dg a.d, lit (.bool b.s), dg b.n, dg b.d]
abbrev pq (x y : Rat) : SV := ag [lit (.bool (decide (x.num < 0))), nat x.num.natAbs, nat x.den, lit (.bool (decide (y.num < 0))), nat y.num.natAbs, nat y.den]
/-- the raw form of a rational -/
def RQ.of (x : Rat) : RQ := ⟨decide (x.num < 0), dgs x.num.natAbs, dgs x.den⟩
theorem RQ.of_v (x : Rat) : (RQ.of x).v = x := by
  unfold RQ.v RQ.of; simp only [val_dgs, sv_int]; exact Rat.mkRat_self x
theorem RQ.of_ok {x : Rat} {L : Nat} (h : ht x ≤ L) : (RQ.of x).ok L :=
  ⟨D_dgs _, D_dgs _, Nat.le_trans (ht_num x) h, Nat.le_trans (ht_den x) h⟩
theorem il_sv {s : Bool} {xs : List Nat} (h : D xs) : il (sv s (val xs)) ≤ xs.length := by unfold il; rw [sv_abs]; exact dlen_val h
theorem ht_v {r : RQ} {L : Nat} (h : r.ok L) : ht r.v ≤ L + 1 := by
  obtain ⟨h1, h2, h3, h4⟩ := h
  have := ht_mk (sv r.s (val r.n)) (val r.d)
  have a1 := il_sv (s := r.s) h1
  have a2 := dlen_val h2
  unfold RQ.v; omega
theorem of_pu {r : RQ} {L : Nat} (h : r.ok L) (hL : L ≤ 1000000) : Pu Tryz.prog 229 [qr r] (fr r.v) :=
  of_raw r.s r.n r.d (by have := h.2.2.1; omega) (by have := h.2.2.2; omega) h.1 h.2.1
/-- an affine map: the columns (a, d), (b, e) and the vector (c, f) -/
structure M6 (α : Type) where
  a : α
  b : α
  c : α
  d : α
  e : α
  f : α
abbrev mf (m : M6 Rat) : SV := ag [lit (.int .i64 (r0 m.a)), lit (.int .i64 (r1 m.a)), r2 m.a, lit (.int .i64 (r0 m.d)), lit (.int .i64 (r1 m.d)), r2 m.d,
  lit (.int .i64 (r0 m.b)), lit (.int .i64 (r1 m.b)), r2 m.b, lit (.int .i64 (r0 m.e)), lit (.int .i64 (r1 m.e)), r2 m.e,
  lit (.int .i64 (r0 m.c)), lit (.int .i64 (r1 m.c)), r2 m.c, lit (.int .i64 (r0 m.f)), lit (.int .i64 (r1 m.f)), r2 m.f]
abbrev mr (m : M6 RQ) : SV := ag [lit (.bool m.a.s), dg m.a.n, dg m.a.d, lit (.bool m.b.s), dg m.b.n, dg m.b.d, lit (.bool m.c.s), dg m.c.n, dg m.c.d,
  lit (.bool m.d.s), dg m.d.n, dg m.d.d, lit (.bool m.e.s), dg m.e.n, dg m.e.d, lit (.bool m.f.s), dg m.f.n, dg m.f.d]
abbrev mq (m : M6 Rat) : SV := ag [lit (.bool (decide (m.a.num < 0))), nat m.a.num.natAbs, nat m.a.den, lit (.bool (decide (m.b.num < 0))), nat m.b.num.natAbs, nat m.b.den, lit (.bool (decide (m.c.num < 0))), nat m.c.num.natAbs, nat m.c.den,
  lit (.bool (decide (m.d.num < 0))), nat m.d.num.natAbs, nat m.d.den, lit (.bool (decide (m.e.num < 0))), nat m.e.num.natAbs, nat m.e.den, lit (.bool (decide (m.f.num < 0))), nat m.f.num.natAbs, nat m.f.den]
structure M6.ok (L : Nat) (m : M6 RQ) : Prop where
  a : m.a.ok L
  b : m.b.ok L
  c : m.c.ok L
  d : m.d.ok L
  e : m.e.ok L
  f : m.f.ok L
structure M6.le (L : Nat) (m : M6 Rat) : Prop where
  a : ht m.a ≤ L
  b : ht m.b ≤ L
  c : ht m.c ≤ L
  d : ht m.d ≤ L
  e : ht m.e ≤ L
  f : ht m.f ≤ L
def M6.v (m : M6 RQ) : M6 Rat := ⟨m.a.v, m.b.v, m.c.v, m.d.v, m.e.v, m.f.v⟩
theorem M6.v_le {m : M6 RQ} {L : Nat} (h : m.ok L) : m.v.le (L + 1) := ⟨ht_v h.a, ht_v h.b, ht_v h.c, ht_v h.d, ht_v h.e, ht_v h.f⟩
end Go.Ab
