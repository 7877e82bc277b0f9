/- Texts laid one behind the other: RefF, Loop, Txt, FracE, RefH, Geo, Ref1, Ref4, Tape, Scene1, Law26A, TxtB, Err, AffB, LnM. -/
import Derived.Test.YtijejidpcfgioaaGreatDoorB09
import Derived.Test.YtijejidpcfgioaaGreatDoorFracD
import Derived.Test.YtijejidpcfgioaaGreatDoorB03
import Derived.Test.YtijejidpcfgioaaGreatDoorB04
import Derived.Test.YtijejidpcfgioaaGreatDoorRefL
import Derived.Laws.IdiomStrings
import Derived.Laws.Externs
/- The reference's rationals: sums and products. -/
namespace Go.Ab
open Go.Proofs
set_option linter.unusedSectionVars false
set_option linter.unusedVariables false
set_option linter.unusedSimpArgs false
variable [Base]
theorem rq_int (z : Int) : rq (z : Rat) = ag [lit (.bool (decide (z < 0))), nat z.natAbs, dg []] := by
  rw [rq, Rat.num_intCast, Rat.den_intCast, dden_one]
theorem rof_pu (z : Int) (h0 : -9223372036854775808 ≤ z) (h1 : z ≤ 9223372036854775807) : Pu Tryz.prog 100 [lit (.int .i64 z)] (rq (z : Rat)) := by
  rw [rq_int]
  refine Pu.intro Tryz.func100 rfl (by kernel_rfl) fun C => ?_
  repeat (refine A1 ⟨?_⟩; intros)
  refine Wc (rint_pu z h0 h1) ?_
  repeat (refine A1 ⟨?_⟩; intros)
  refine endR (end1 (RV.cellA rfl List.mem_cons_self rfl rfl) (Le.ag ⟨Le.refl _, Le.refl _, le_nil, trivial⟩))
theorem rs_pu (x : Rat) (h : ht x ≤ 10000000) : Pu Tryz.prog 183 [rq x] (lit (.int .i64 x.num.sign)) := by
  have b1 := ht_num x
  have hb : (dgs x.num.natAbs).length ≤ 1000000000 := by have : il x.num = (dgs x.num.natAbs).length := rfl; omega
  refine Pu.intro Tryz.func183 rfl (by kernel_rfl) fun C => ?_
  repeat (refine A1 ⟨?_⟩; intros)
  refine Wc (rsign_int x.num hb) ?_
  repeat (refine A1 ⟨?_⟩; intros)
  ((first | refine endR ?_ | refine endN ?_); exact end1 (RV.tmp rfl) (Le.refl _))
theorem ropp_pu (x : Rat) (h : ht x ≤ 10000000) : Pu Tryz.prog 213 [rq x] (rq (-x)) := by
  have b1 := ht_num x
  have hb : (dgs x.num.natAbs).length ≤ 1000000000 := by have : il x.num = (dgs x.num.natAbs).length := rfl; omega
  rw [show rq (-x) = ag [lit (.bool (decide (-x.num < 0))), nat (-x.num).natAbs, dg (dden x.den)] from by rw [rq, Rat.neg_num, Rat.neg_den]]
  refine Pu.intro Tryz.func213 rfl (by kernel_rfl) fun C => ?_
  repeat (refine A1 ⟨?_⟩; intros)
  refine Wdc (rminus_int x.num hb) ?_
  repeat (refine A1 ⟨?_⟩; intros)
  ((first | refine endR ?_ | refine endN ?_); refine end1 (RV.cellA rfl (by (first | exact List.mem_cons_self | exact (List.mem_cons_of_mem _ List.mem_cons_self) | exact (List.mem_cons_of_mem _ (List.mem_cons_of_mem _ List.mem_cons_self)) | exact (List.mem_cons_of_mem _ (List.mem_cons_of_mem _ (List.mem_cons_of_mem _ List.mem_cons_self))) | exact (List.mem_cons_of_mem _ (List.mem_cons_of_mem _ (List.mem_cons_of_mem _ (List.mem_cons_of_mem _ List.mem_cons_self)))) | exact (List.mem_cons_of_mem _ (List.mem_cons_of_mem _ (List.mem_cons_of_mem _ (List.mem_cons_of_mem _ (List.mem_cons_of_mem _ List.mem_cons_self))))) | exact (List.mem_cons_of_mem _ (List.mem_cons_of_mem _ (List.mem_cons_of_mem _ (List.mem_cons_of_mem _ (List.mem_cons_of_mem _ (List.mem_cons_of_mem _ List.mem_cons_self)))))) | exact (List.mem_cons_of_mem _ (List.mem_cons_of_mem _ (List.mem_cons_of_mem _ (List.mem_cons_of_mem _ (List.mem_cons_of_mem _ (List.mem_cons_of_mem _ (List.mem_cons_of_mem _ List.mem_cons_self))))))))) (by (first | (simp only [List.drop_succ_cons, List.drop_zero, List.drop_nil, List.take_succ_cons, List.take_zero, List.take_nil, Nat.zero_add, Nat.add_zero, Nat.reduceAdd]; done) | (simp only [List.drop_succ_cons, List.drop_zero, List.drop_nil, List.take_succ_cons, List.take_zero, List.take_nil, Nat.zero_add, Nat.add_zero, Nat.reduceAdd]; exact rfl) | exact rfl)) rfl) (Le.refl _))
theorem dden_len {d : Nat} (h : d ≠ 0) : d ≠ 1 → (dden d).length ≠ 0 := fun h1 => by rw [dden_ne h1]; exact dgs_ne_nil h
theorem dden_len1 {d : Nat} (h : d = 1) : (dden d).length = 0 := by rw [h, dden_one]; rfl
theorem dden_le (d : Nat) : (dden d).length ≤ (dgs d).length := by unfold dden; split <;> simp
theorem times_whole {x y : Rat} (h1 : x.den = 1) (h2 : y.den = 1) : x * y = ((x.num * y.num : Int) : Rat) := by
  rw [Rat.mul_def', h1, h2, Nat.mul_one, Rat.mkRat_one]
theorem rtimes_pu (x y : Rat) (hx : ht x ≤ 3000000) (hy : ht y ≤ 3000000) : Pu Tryz.prog 98 [rq x, rq y] (rq (x * y)) := by
  have n1 := ht_num x
  have n2 := ht_num y
  have d1 := ht_den x
  have d2 := ht_den y
  have m1 := il_mul x.num y.num
  have m2 := dlen_mul x.den y.den
  have l1 := dden_le x.den
  have l2 := dden_le y.den
  have mi := rmul_int x.num y.num (show il x.num ≤ 100000000 by omega) (show il y.num ≤ 100000000 by omega)
  have fr := rfrac_pu (x.num * y.num) (x.den * y.den) (by omega) (by omega) (Nat.mul_ne_zero x.den_nz y.den_nz)
  by_cases hx1 : x.den = 1
  · have k1 := dden_len1 hx1
    by_cases hy1 : y.den = 1
    · have k2 := dden_len1 hy1
      rw [times_whole hx1 hy1, rq_int]
      refine Pu.intro Tryz.func98 rfl (by kernel_rfl) fun C => ?_
      repeat (refine A1 ⟨?_⟩; intros)
      refine Wc mi ?_
      repeat (refine A1 ⟨?_⟩; intros)
      refine endR (end1 (RV.cellA rfl List.mem_cons_self rfl rfl) (Le.ag ⟨Le.refl _, Le.refl _, le_nil, trivial⟩))
    · have k2 := dden_len y.den_nz hy1
      rw [Rat.mul_def']
      refine Pu.intro Tryz.func98 rfl (by kernel_rfl) fun C => ?_
      repeat (refine A1 ⟨?_⟩; intros)
      refine Wdc mi ?_
      repeat (refine A1 ⟨?_⟩; intros)
      refine Wdc (rden_pu x) ?_
      repeat (refine A1 ⟨?_⟩; intros)
      refine Wdc (rden_pu y) ?_
      repeat (refine A1 ⟨?_⟩; intros)
      refine Wdc (rprod_pu x.den y.den (by omega) (by omega)) ?_
      repeat (refine A1 ⟨?_⟩; intros)
      refine Wdc fr ?_
      repeat (refine A1 ⟨?_⟩; intros)
      ((first | refine endR ?_ | refine endN ?_); refine end1 (RV.cellA rfl (by (first | exact List.mem_cons_self | exact (List.mem_cons_of_mem _ List.mem_cons_self) | exact (List.mem_cons_of_mem _ (List.mem_cons_of_mem _ List.mem_cons_self)) | exact (List.mem_cons_of_mem _ (List.mem_cons_of_mem _ (List.mem_cons_of_mem _ List.mem_cons_self))) | exact (List.mem_cons_of_mem _ (List.mem_cons_of_mem _ (List.mem_cons_of_mem _ (List.mem_cons_of_mem _ List.mem_cons_self)))) | exact (List.mem_cons_of_mem _ (List.mem_cons_of_mem _ (List.mem_cons_of_mem _ (List.mem_cons_of_mem _ (List.mem_cons_of_mem _ List.mem_cons_self))))) | exact (List.mem_cons_of_mem _ (List.mem_cons_of_mem _ (List.mem_cons_of_mem _ (List.mem_cons_of_mem _ (List.mem_cons_of_mem _ (List.mem_cons_of_mem _ List.mem_cons_self)))))) | exact (List.mem_cons_of_mem _ (List.mem_cons_of_mem _ (List.mem_cons_of_mem _ (List.mem_cons_of_mem _ (List.mem_cons_of_mem _ (List.mem_cons_of_mem _ (List.mem_cons_of_mem _ List.mem_cons_self))))))))) (by (first | (simp only [List.drop_succ_cons, List.drop_zero, List.drop_nil, List.take_succ_cons, List.take_zero, List.take_nil, Nat.zero_add, Nat.add_zero, Nat.reduceAdd]; done) | (simp only [List.drop_succ_cons, List.drop_zero, List.drop_nil, List.take_succ_cons, List.take_zero, List.take_nil, Nat.zero_add, Nat.add_zero, Nat.reduceAdd]; exact rfl) | exact rfl)) rfl) (Le.refl _))
  · have k1 := dden_len x.den_nz hx1
    rw [Rat.mul_def']
    refine Pu.intro Tryz.func98 rfl (by kernel_rfl) fun C => ?_
    repeat (refine A1 ⟨?_⟩; intros)
    refine Wdc mi ?_
    repeat (refine A1 ⟨?_⟩; intros)
    refine Wdc (rden_pu x) ?_
    repeat (refine A1 ⟨?_⟩; intros)
    refine Wdc (rden_pu y) ?_
    repeat (refine A1 ⟨?_⟩; intros)
    refine Wdc (rprod_pu x.den y.den (by omega) (by omega)) ?_
    repeat (refine A1 ⟨?_⟩; intros)
    refine Wdc fr ?_
    repeat (refine A1 ⟨?_⟩; intros)
    ((first | refine endR ?_ | refine endN ?_); refine end1 (RV.cellA rfl (by (first | exact List.mem_cons_self | exact (List.mem_cons_of_mem _ List.mem_cons_self) | exact (List.mem_cons_of_mem _ (List.mem_cons_of_mem _ List.mem_cons_self)) | exact (List.mem_cons_of_mem _ (List.mem_cons_of_mem _ (List.mem_cons_of_mem _ List.mem_cons_self))) | exact (List.mem_cons_of_mem _ (List.mem_cons_of_mem _ (List.mem_cons_of_mem _ (List.mem_cons_of_mem _ List.mem_cons_self)))) | exact (List.mem_cons_of_mem _ (List.mem_cons_of_mem _ (List.mem_cons_of_mem _ (List.mem_cons_of_mem _ (List.mem_cons_of_mem _ List.mem_cons_self))))) | exact (List.mem_cons_of_mem _ (List.mem_cons_of_mem _ (List.mem_cons_of_mem _ (List.mem_cons_of_mem _ (List.mem_cons_of_mem _ (List.mem_cons_of_mem _ List.mem_cons_self)))))) | exact (List.mem_cons_of_mem _ (List.mem_cons_of_mem _ (List.mem_cons_of_mem _ (List.mem_cons_of_mem _ (List.mem_cons_of_mem _ (List.mem_cons_of_mem _ (List.mem_cons_of_mem _ List.mem_cons_self))))))))) (by (first | (simp only [List.drop_succ_cons, List.drop_zero, List.drop_nil, List.take_succ_cons, List.take_zero, List.take_nil, Nat.zero_add, Nat.add_zero, Nat.reduceAdd]; done) | (simp only [List.drop_succ_cons, List.drop_zero, List.drop_nil, List.take_succ_cons, List.take_zero, List.take_nil, Nat.zero_add, Nat.add_zero, Nat.reduceAdd]; exact rfl) | exact rfl)) rfl) (Le.refl _))
set_option maxHeartbeats 1000000 in
theorem rplus_pu (x y : Rat) (hx : ht x ≤ 3000000) (hy : ht y ≤ 3000000) : Pu Tryz.prog 97 [rq x, rq y] (rq (x + y)) := by
  have n1 := ht_num x
  have n2 := ht_num y
  have d1 := ht_den x
  have d2 := ht_den y
  have m1 := il_mul x.num y.den
  have m2 := il_mul y.num x.den
  have m3 := il_add (x.num * y.den) (y.num * x.den)
  have m4 := dlen_mul x.den y.den
  rw [il_nat] at m1 m2
  have l1 := dden_le x.den
  have l2 := dden_le y.den
  have mi1 := rmul_int x.num y.den (show il x.num ≤ 100000000 by omega) (show (dgs y.den).length ≤ 100000000 by omega)
  have mi2 := rmul_int y.num x.den (show il y.num ≤ 100000000 by omega) (show (dgs x.den).length ≤ 100000000 by omega)
  rw [← sv_nat] at mi1 mi2
  have ai := radd_int (x.num * y.den) (y.num * x.den) (show il _ ≤ 100000000 by omega) (show il _ ≤ 100000000 by omega)
  have aw := radd_int x.num y.num (show il _ ≤ 100000000 by omega) (show il _ ≤ 100000000 by omega)
  have fr := rfrac_pu (x.num * y.den + y.num * x.den) (x.den * y.den) (by omega) (by omega) (Nat.mul_ne_zero x.den_nz y.den_nz)
  by_cases hx1 : x.den = 1
  · have k1 := dden_len1 hx1
    by_cases hy1 : y.den = 1
    · have k2 := dden_len1 hy1
      rw [add_whole hx1 hy1, rq_int]
      refine Pu.intro Tryz.func97 rfl (by kernel_rfl) fun C => ?_
      repeat (refine A1 ⟨?_⟩; intros)
      refine Wc aw ?_
      repeat (refine A1 ⟨?_⟩; intros)
      refine endR (end1 (RV.cellA rfl List.mem_cons_self rfl rfl) (Le.ag ⟨Le.refl _, Le.refl _, le_nil, trivial⟩))
    · have k2 := dden_len y.den_nz hy1
      rw [Rat.add_def']
      refine Pu.intro Tryz.func97 rfl (by kernel_rfl) fun C => ?_
      repeat (refine A1 ⟨?_⟩; intros)
      refine Wdc (rden_pu y) ?_
      repeat (refine A1 ⟨?_⟩; intros)
      refine Wdc (rmake_pu false y.den (by omega)) ?_
      repeat (refine A1 ⟨?_⟩; intros)
      refine Wdc mi1 ?_
      repeat (refine A1 ⟨?_⟩; intros)
      refine Wdc (rden_pu x) ?_
      repeat (refine A1 ⟨?_⟩; intros)
      refine Wdc (rmake_pu false x.den (by omega)) ?_
      repeat (refine A1 ⟨?_⟩; intros)
      refine Wdc mi2 ?_
      repeat (refine A1 ⟨?_⟩; intros)
      refine Wdc ai ?_
      repeat (refine A1 ⟨?_⟩; intros)
      refine Wdc (rden_pu x) ?_
      repeat (refine A1 ⟨?_⟩; intros)
      refine Wdc (rden_pu y) ?_
      repeat (refine A1 ⟨?_⟩; intros)
      refine Wdc (rprod_pu x.den y.den (by omega) (by omega)) ?_
      repeat (refine A1 ⟨?_⟩; intros)
      refine Wdc fr ?_
      repeat (refine A1 ⟨?_⟩; intros)
      ((first | refine endR ?_ | refine endN ?_); refine end1 (RV.cellA rfl (by (first | exact List.mem_cons_self | exact (List.mem_cons_of_mem _ List.mem_cons_self) | exact (List.mem_cons_of_mem _ (List.mem_cons_of_mem _ List.mem_cons_self)) | exact (List.mem_cons_of_mem _ (List.mem_cons_of_mem _ (List.mem_cons_of_mem _ List.mem_cons_self))) | exact (List.mem_cons_of_mem _ (List.mem_cons_of_mem _ (List.mem_cons_of_mem _ (List.mem_cons_of_mem _ List.mem_cons_self)))) | exact (List.mem_cons_of_mem _ (List.mem_cons_of_mem _ (List.mem_cons_of_mem _ (List.mem_cons_of_mem _ (List.mem_cons_of_mem _ List.mem_cons_self))))) | exact (List.mem_cons_of_mem _ (List.mem_cons_of_mem _ (List.mem_cons_of_mem _ (List.mem_cons_of_mem _ (List.mem_cons_of_mem _ (List.mem_cons_of_mem _ List.mem_cons_self)))))) | exact (List.mem_cons_of_mem _ (List.mem_cons_of_mem _ (List.mem_cons_of_mem _ (List.mem_cons_of_mem _ (List.mem_cons_of_mem _ (List.mem_cons_of_mem _ (List.mem_cons_of_mem _ List.mem_cons_self))))))))) (by (first | (simp only [List.drop_succ_cons, List.drop_zero, List.drop_nil, List.take_succ_cons, List.take_zero, List.take_nil, Nat.zero_add, Nat.add_zero, Nat.reduceAdd]; done) | (simp only [List.drop_succ_cons, List.drop_zero, List.drop_nil, List.take_succ_cons, List.take_zero, List.take_nil, Nat.zero_add, Nat.add_zero, Nat.reduceAdd]; exact rfl) | exact rfl)) rfl) (Le.refl _))
  · have k1 := dden_len x.den_nz hx1
    rw [Rat.add_def']
    refine Pu.intro Tryz.func97 rfl (by kernel_rfl) fun C => ?_
    repeat (refine A1 ⟨?_⟩; intros)
    refine Wdc (rden_pu y) ?_
    repeat (refine A1 ⟨?_⟩; intros)
    refine Wdc (rmake_pu false y.den (by omega)) ?_
    repeat (refine A1 ⟨?_⟩; intros)
    refine Wdc mi1 ?_
    repeat (refine A1 ⟨?_⟩; intros)
    refine Wdc (rden_pu x) ?_
    repeat (refine A1 ⟨?_⟩; intros)
    refine Wdc (rmake_pu false x.den (by omega)) ?_
    repeat (refine A1 ⟨?_⟩; intros)
    refine Wdc mi2 ?_
    repeat (refine A1 ⟨?_⟩; intros)
    refine Wdc ai ?_
    repeat (refine A1 ⟨?_⟩; intros)
    refine Wdc (rden_pu x) ?_
    repeat (refine A1 ⟨?_⟩; intros)
    refine Wdc (rden_pu y) ?_
    repeat (refine A1 ⟨?_⟩; intros)
    refine Wdc (rprod_pu x.den y.den (by omega) (by omega)) ?_
    repeat (refine A1 ⟨?_⟩; intros)
    refine Wdc fr ?_
    repeat (refine A1 ⟨?_⟩; intros)
    ((first | refine endR ?_ | refine endN ?_); refine end1 (RV.cellA rfl (by (first | exact List.mem_cons_self | exact (List.mem_cons_of_mem _ List.mem_cons_self) | exact (List.mem_cons_of_mem _ (List.mem_cons_of_mem _ List.mem_cons_self)) | exact (List.mem_cons_of_mem _ (List.mem_cons_of_mem _ (List.mem_cons_of_mem _ List.mem_cons_self))) | exact (List.mem_cons_of_mem _ (List.mem_cons_of_mem _ (List.mem_cons_of_mem _ (List.mem_cons_of_mem _ List.mem_cons_self)))) | exact (List.mem_cons_of_mem _ (List.mem_cons_of_mem _ (List.mem_cons_of_mem _ (List.mem_cons_of_mem _ (List.mem_cons_of_mem _ List.mem_cons_self))))) | exact (List.mem_cons_of_mem _ (List.mem_cons_of_mem _ (List.mem_cons_of_mem _ (List.mem_cons_of_mem _ (List.mem_cons_of_mem _ (List.mem_cons_of_mem _ List.mem_cons_self)))))) | exact (List.mem_cons_of_mem _ (List.mem_cons_of_mem _ (List.mem_cons_of_mem _ (List.mem_cons_of_mem _ (List.mem_cons_of_mem _ (List.mem_cons_of_mem _ (List.mem_cons_of_mem _ List.mem_cons_self))))))))) (by (first | (simp only [List.drop_succ_cons, List.drop_zero, List.drop_nil, List.take_succ_cons, List.take_zero, List.take_nil, Nat.zero_add, Nat.add_zero, Nat.reduceAdd]; done) | (simp only [List.drop_succ_cons, List.drop_zero, List.drop_nil, List.take_succ_cons, List.take_zero, List.take_nil, Nat.zero_add, Nat.add_zero, Nat.reduceAdd]; exact rfl) | exact rfl)) rfl) (Le.refl _))
theorem rqsub_pu (x y : Rat) (hx : ht x ≤ 3000000) (hy : ht y ≤ 3000000) : Pu Tryz.prog 184 [rq x, rq y] (rq (x - y)) := by
  rw [Rat.sub_eq_add_neg]
  refine Pu.intro Tryz.func184 rfl (by kernel_rfl) fun C => ?_
  repeat (refine A1 ⟨?_⟩; intros)
  refine Wdc (ropp_pu y (by omega)) ?_
  repeat (refine A1 ⟨?_⟩; intros)
  refine Wdc (rplus_pu x (-y) hx (by rw [ht_neg]; exact hy)) ?_
  repeat (refine A1 ⟨?_⟩; intros)
  ((first | refine endR ?_ | refine endN ?_); refine end1 (RV.cellA rfl (by (first | exact List.mem_cons_self | exact (List.mem_cons_of_mem _ List.mem_cons_self) | exact (List.mem_cons_of_mem _ (List.mem_cons_of_mem _ List.mem_cons_self)) | exact (List.mem_cons_of_mem _ (List.mem_cons_of_mem _ (List.mem_cons_of_mem _ List.mem_cons_self))) | exact (List.mem_cons_of_mem _ (List.mem_cons_of_mem _ (List.mem_cons_of_mem _ (List.mem_cons_of_mem _ List.mem_cons_self)))) | exact (List.mem_cons_of_mem _ (List.mem_cons_of_mem _ (List.mem_cons_of_mem _ (List.mem_cons_of_mem _ (List.mem_cons_of_mem _ List.mem_cons_self))))) | exact (List.mem_cons_of_mem _ (List.mem_cons_of_mem _ (List.mem_cons_of_mem _ (List.mem_cons_of_mem _ (List.mem_cons_of_mem _ (List.mem_cons_of_mem _ List.mem_cons_self)))))) | exact (List.mem_cons_of_mem _ (List.mem_cons_of_mem _ (List.mem_cons_of_mem _ (List.mem_cons_of_mem _ (List.mem_cons_of_mem _ (List.mem_cons_of_mem _ (List.mem_cons_of_mem _ List.mem_cons_self))))))))) (by (first | (simp only [List.drop_succ_cons, List.drop_zero, List.drop_nil, List.take_succ_cons, List.take_zero, List.take_nil, Nat.zero_add, Nat.add_zero, Nat.reduceAdd]; done) | (simp only [List.drop_succ_cons, List.drop_zero, List.drop_nil, List.take_succ_cons, List.take_zero, List.take_nil, Nat.zero_add, Nat.add_zero, Nat.reduceAdd]; exact rfl) | exact rfl)) rfl) (Le.refl _))
theorem rc_pu (x y : Rat) (hx : ht x ≤ 3000000) (hy : ht y ≤ 3000000) : Pu Tryz.prog 146 [rq x, rq y] (lit (.int .i64 (x - y).num.sign)) := by
  have h := ht_sub x y
  refine Pu.intro Tryz.func146 rfl (by kernel_rfl) fun C => ?_
  repeat (refine A1 ⟨?_⟩; intros)
  refine Wc (rqsub_pu x y hx hy) ?_
  repeat (refine A1 ⟨?_⟩; intros)
  refine Wc (rs_pu (x - y) (by omega)) ?_
  repeat (refine A1 ⟨?_⟩; intros)
  ((first | refine endR ?_ | refine endN ?_); exact end1 (RV.tmp rfl) (Le.refl _))
end Go.Ab
/- Loops whose rounds leave blocks behind; lists of records. -/
namespace Go.Ab
open Go.Proofs
set_option linter.unusedSectionVars false
set_option linter.unusedVariables false
set_option linter.unusedSimpArgs false
variable [Base]
section
variable {P : Program} {C : Ctx} {n : Nat} {F : Fr} {H : LH} {ops : Array Oper} {K : Fr → LH → Prop} {Q : Exit → Fr → LH → Prop}
theorem St.sub {H' : LH} {a : Act} {w : World} (hs : St C n F H a w) (h : H'.Sublist H) : St C n F H' a w := by
  obtain ⟨hdef, hn, m, h1, h2, h3, h4, h5⟩ := hs
  exact ⟨hdef, hn, m, h1, ⟨(h.map _).nodup h2.1, fun e he => h2.2 e (h.subset he)⟩, h3, fun e he => h4 e (h.subset he), h5⟩
theorem WP.sub {c : Code} {H' : LH} (h : H'.Sublist H) (k : WP P C n c Q F H') : WP P C n c Q F H := by
  unfold WP at *; exact fun a w hs => k a w (hs.sub h)
theorem WP.loopS {ι : Type} {c : Code} (J : ι → Prop) (μ : ι → Nat) (G : ι → Fr) (L : ι → LH) (x0 : ι) (h0 : J x0) (hF : LeF F (G x0)) (hH : (L x0).Sublist H)
    (round : ∀ x, J x → ∀ K : Fr → LH → Prop, (∀ F' H' x', J x' → μ x' < μ x → LeF F' (G x') → (L x').Sublist H' → K F' H') → WP P C n c (thenQ K Q) (G x) (L x)) :
    WP P C n (.loop c) Q F H := by
  refine WP.sub hH (WP.le hF ?_)
  unfold WP
  intro a w hs
  refine wp_loop_ghost (fun k a w => ∃ x, μ x = k ∧ J x ∧ St C n (G x) (L x) a w) (μ x0) ⟨x0, rfl, h0, hs⟩ ?_
  rintro k a w ⟨x, rfl, hJ, hs⟩
  have hr := round x hJ (fun F' H' => ∃ x', J x' ∧ μ x' < μ x ∧ LeF F' (G x') ∧ (L x').Sublist H') (fun F' H' x' a b c d => ⟨x', a, b, c, d⟩)
  unfold WP at hr
  refine wp_mono (hr a w hs) ?_
  rintro e a' w' (⟨F', H', hs', hq⟩ | ⟨ch, rfl, hp⟩)
  · unfold thenQ at hq
    cases e with
    | normal =>
      obtain ⟨x', hJ', hμ, hF', hH'⟩ := hq
      exact ⟨μ x', hμ, x', rfl, hJ', (hs'.le hF').sub hH'⟩
    | _ => exact .inl ⟨F', H', hs', hq⟩
  · exact .inr ⟨ch, rfl, hp⟩
/-- a finished row of records -/
theorem WpubS {l : List Oper} {b : Nat} {T : TypeId} {cs : List SV} {H' : LH} {k c : Nat} (d : Nat) (hv : F d = lit (.slice (some ⟨b, 0, none⟩) k c)) (hdel : HDel b T cs H H') (hc : k ≤ c) (hc' : c ≤ 1000000000)
    (h : WPL P C n ops l K (upd F d (sl cs k)) H') : WPL P C n ops l K F H :=
  WPL.pub hdel hv (fun m arr hm ha => pub_sl hc (by omega) m arr hm ha) h
/-- a guard that is met is no guard -/
theorem WgE {d : Option Nat} {op : Op} {ty : TypeId} {pos : String} {aft : Array Edge} {rest : List Oper} {K : Fr → LH → Prop} {j : Nat} {t : Bool} {oj : Oper} {dj : Nat} (k : WPL P C n ops (⟨d, op, ty, pos, aft, none⟩ :: rest) K F H)
    (hj : ops[j]? = some oj := by exact rfl) (hdj : oj.dst = some dj := by exact rfl) (hf : F dj = lit (.bool t) := by exact rfl) (hdn : Nat.blt dj n = true := by exact rfl) : WPL P C n ops (⟨d, op, ty, pos, aft, some (j, t)⟩ :: rest) K F H := by
  unfold WPL at *
  intro a w hs Q hq
  have hy := yielded_of hs hj hdj hf hdn
  have h := k a w hs Q hq
  unfold wpList at h ⊢
  have h1 : Region.wanted (⟨d, op, ty, pos, aft, none⟩ : Oper) (yielded ops a.tmps) = true := rfl
  have h2 : Region.wanted (⟨d, op, ty, pos, aft, some (j, t)⟩ : Oper) (yielded ops a.tmps) = true := by simp [Region.wanted, hy]
  rw [if_pos h1] at h
  rw [if_pos h2]
  exact h
end
theorem flat_at {α β : Type} {f : α → List β} {n : Nat} (hf : ∀ a, (f a).length = n) : ∀ {l : List α} {k : Nat} {a : α}, l[k]? = some a → (((l.map f).flatten).drop (k * n)).take n = f a
  | [], _, _, h => by simp at h
  | x :: l, 0, a, h => by
    simp at h; subst h
    simp [hf x]
  | x :: l, k + 1, a, h => by
    have := flat_at hf (l := l) (k := k) (a := a) (by simpa using h)
    rw [List.map_cons, List.flatten_cons, show (k + 1) * n = (f x).length + k * n from by rw [hf, Nat.add_mul, Nat.one_mul, Nat.add_comm], List.drop_append, List.drop_eq_nil_of_le (Nat.le_add_right _ _), List.nil_append, Nat.add_sub_cancel_left]
    exact this
theorem flat_ne {α β : Type} {f : α → List β} {n : Nat} (hf : ∀ a, (f a).length = n) (hn : 0 < n) {l : List α} (h : l ≠ []) : (l.map f).flatten ≠ [] := by
  cases l with
  | nil => exact absurd rfl h
  | cons x l =>
    intro e
    have := congrArg List.length e
    simp [hf x] at this; omega
end Go.Ab
/- Decimal texts of numbers: the reference's. -/
namespace Go.Ab
open Go.Proofs
set_option linter.unusedSectionVars false
set_option linter.unusedVariables false
set_option linter.unusedSimpArgs false
variable [Base]
/-- the decimal digits, the last one first -/
def decR (n : Nat) : List UInt8 := if h : n = 0 then [] else UInt8.ofNat (48 + n % 10) :: decR (n / 10)
termination_by n
decreasing_by omega
theorem decR_zero : decR 0 = [] := by rw [decR]; rfl
theorem decR_pos {n : Nat} (h : n ≠ 0) : decR n = UInt8.ofNat (48 + n % 10) :: decR (n / 10) := by
  conv => lhs; rw [decR]
  rw [dif_neg h]
def dec (n : Nat) : List UInt8 := if n = 0 then [48] else (decR n).reverse
section
variable {P : Program} {F : Fr} {H : LH} {ty : TypeId}
/-- bytes of a local block as a text -/
theorem ov_bytesStr {S D : TypeId} [hS : TSl P S 5] [hD : TSr P D] {x : Operand} {b c : Nat} {l : List UInt8} {rest : List SV} (hu : P.underlying 5 = some (.int .u8)) {cs : List SV} (hx : ev F x = lit (.slice (some ⟨b, 0, none⟩) l.length c)) (hm : (b, 5, cs) ∈ H) (hle : LeL cs (bys l ++ rest)) : OpV P (.convert S D x) ty F H (str l) :=
  OpV.pure fun m w o a hop _ _ hH h => by
    have h0 := h x (by simp [Op.operands]); rw [hx, lit_p] at h0
    obtain ⟨_, arr, hb, hall0⟩ := hH.2 _ hm
    have hall := All2.le hle hall0
    have hcell : ∀ j y, l[j]? = some y → w.cell? ((⟨b, 0, none⟩ : Addr).add j) = some (.int .u8 y.toNat) := fun j y hj => by
      rw [add_none, cell_of w b _ arr _ _ hb]
      have hjl : j < l.length := (List.getElem?_eq_some_iff.1 hj).1
      have hg : (bys l ++ rest)[j]? = some (lit (.int .u8 (y.toNat : Nat))) := by
        rw [List.getElem?_append_left (by rw [bys_len]; exact hjl)]
        simp [bys, hj]
      obtain ⟨v, hv, hp, _⟩ := hall.get hg
      rw [lit_p] at hp
      subst hp
      simpa using hv
    have := run_convert_bytes_back (P := P) w S D 5 ⟨b, 0, none⟩ c l hS.h hu hD.h fun j hj => hcell j l[j] (List.getElem?_eq_getElem hj)
    exact ⟨_, by simp [execOp, hop, h0, this], lit_p.2 rfl⟩
end
theorem decR_lt : ∀ (k n : Nat), n < 10 ^ k → (decR n).length ≤ k
  | 0, n, h => by
    have : n = 0 := by simpa using h
    subst this; rw [decR_zero]; simp
  | k + 1, n, h => by
    by_cases hn : n = 0
    · subst hn; rw [decR_zero]; simp
    · rw [decR_pos hn, List.length_cons]
      have := decR_lt k (n / 10) (by rw [Nat.pow_succ] at h; omega)
      omega
theorem decR_len {n L : Nat} (h : (dgs n).length ≤ L) : (decR n).length ≤ 10 * L := by
  apply decR_lt
  have h1 := lt_pow n
  have h2 : 4294967296 ^ (dgs n).length ≤ (10 ^ 10) ^ L := Nat.le_trans (Nat.pow_le_pow_right (by omega) h) (Nat.pow_le_pow_left (by omega) L)
  rw [← Nat.pow_mul] at h2
  omega
end Go.Ab
/- Package frac: Zero, Inv. -/
namespace Go.Ab
open Go.Proofs
set_option linter.unusedSectionVars false
set_option linter.unusedVariables false
set_option linter.unusedSimpArgs false
variable [Base]
end Go.Ab
/- The reference's rationals: Part, Over. -/
namespace Go.Ab
open Go.Proofs
set_option linter.unusedSectionVars false
set_option linter.unusedVariables false
set_option linter.unusedSimpArgs false
variable [Base]
theorem rpart_pu (n : Int) (d : Nat) (h0 : -9223372036854775808 ≤ n) (h1 : n ≤ 9223372036854775807) (hd0 : d ≠ 0) (hd : d ≤ 9223372036854775807) : Pu Tryz.prog 99 [lit (.int .i64 n), lit (.int .i64 d)] (rq (mkRat n d)) := by
  have hn : il n ≤ 2 := len_le (k := 2) (by have : n.natAbs < 18446744073709551616 := by omega
                                            simpa using this)
  have hdl := len_le (n := d) (k := 2) (by simpa using (show d < 18446744073709551616 by omega))
  refine Pu.intro Tryz.func99 rfl (by kernel_rfl) fun C => ?_
  repeat (first | (refine A1 ⟨?_⟩; intros) | (refine Wcx (rint_pu n h0 h1) ?_) | (refine Wdcx (rint_pu n h0 h1) ?_) | (refine Wcgx (rint_pu n h0 h1) ?_) | (refine Wdcgx (rint_pu n h0 h1) ?_) | (refine Wcx (word_pu d (by omega)) ?_) | (refine Wdcx (word_pu d (by omega)) ?_) | (refine Wcgx (word_pu d (by omega)) ?_) | (refine Wdcgx (word_pu d (by omega)) ?_) | (refine Wcx (rfrac_pu n d (by omega) (by omega) hd0) ?_) | (refine Wdcx (rfrac_pu n d (by omega) (by omega) hd0) ?_) | (refine Wcgx (rfrac_pu n d (by omega) (by omega) hd0) ?_) | (refine Wdcgx (rfrac_pu n d (by omega) (by omega) hd0) ?_))
  ((first | refine endR ?_ | refine endN ?_); refine end1 (RV.cellA rfl (by (first | exact List.mem_cons_self | exact (List.mem_cons_of_mem _ List.mem_cons_self) | exact (List.mem_cons_of_mem _ (List.mem_cons_of_mem _ List.mem_cons_self)) | exact (List.mem_cons_of_mem _ (List.mem_cons_of_mem _ (List.mem_cons_of_mem _ List.mem_cons_self))) | exact (List.mem_cons_of_mem _ (List.mem_cons_of_mem _ (List.mem_cons_of_mem _ (List.mem_cons_of_mem _ List.mem_cons_self)))) | exact (List.mem_cons_of_mem _ (List.mem_cons_of_mem _ (List.mem_cons_of_mem _ (List.mem_cons_of_mem _ (List.mem_cons_of_mem _ List.mem_cons_self))))) | exact (List.mem_cons_of_mem _ (List.mem_cons_of_mem _ (List.mem_cons_of_mem _ (List.mem_cons_of_mem _ (List.mem_cons_of_mem _ (List.mem_cons_of_mem _ List.mem_cons_self)))))) | exact (List.mem_cons_of_mem _ (List.mem_cons_of_mem _ (List.mem_cons_of_mem _ (List.mem_cons_of_mem _ (List.mem_cons_of_mem _ (List.mem_cons_of_mem _ (List.mem_cons_of_mem _ List.mem_cons_self))))))))) (by (first | (simp only [List.drop_succ_cons, List.drop_zero, List.drop_nil, List.take_succ_cons, List.take_zero, List.take_nil, Nat.zero_add, Nat.add_zero, Nat.reduceAdd]; done) | (simp only [List.drop_succ_cons, List.drop_zero, List.drop_nil, List.take_succ_cons, List.take_zero, List.take_nil, Nat.zero_add, Nat.add_zero, Nat.reduceAdd]; exact rfl) | exact rfl)) rfl) (Le.refl _))
end Go.Ab
/- Packages geo and affine: points and maps. -/
namespace Go.Ab
open Go.Proofs
set_option linter.unusedSectionVars false
set_option linter.unusedVariables false
set_option linter.unusedSimpArgs false
variable [Base]
abbrev pp (x y : Rat) : SV := ag [lit (.int .i64 (r0 x)), lit (.int .i64 (r1 x)), r2 x, lit (.int .i64 (r0 y)), lit (.int .i64 (r1 y)), r2 y]
/-- a raw rational: a sign, digits, digits -/
structure RQ where
  s : Bool
  n : List Nat
  d : List Nat
def RQ.v (r : RQ) : Rat := mkRat (sv r.s (val r.n)) (val r.d)
def RQ.ok (L : Nat) (r : RQ) : Prop := D r.n ∧ D r.d ∧ r.n.length ≤ L ∧ r.d.length ≤ L
abbrev qr (r : RQ) : SV := qraw r.s r.n r.d
abbrev pr (a b : RQ) : SV := ag [lit (.bool a.s), dg a.n, dg a.d, lit (.bool b.s), dg b.n, dg b.d]
abbrev pq (x y : Rat) : SV := ag [lit (.bool (decide (x.num < 0))), nat x.num.natAbs, nat x.den, lit (.bool (decide (y.num < 0))), nat y.num.natAbs, nat y.den]
/-- the raw form of a rational -/
def RQ.of (x : Rat) : RQ := ⟨decide (x.num < 0), dgs x.num.natAbs, dgs x.den⟩
theorem RQ.of_v (x : Rat) : (RQ.of x).v = x := by
  unfold RQ.v RQ.of; simp only [val_dgs, sv_int]; exact Rat.mkRat_self x
theorem RQ.of_ok {x : Rat} {L : Nat} (h : ht x ≤ L) : (RQ.of x).ok L :=
  ⟨D_dgs _, D_dgs _, Nat.le_trans (ht_num x) h, Nat.le_trans (ht_den x) h⟩
theorem il_sv {s : Bool} {xs : List Nat} (h : D xs) : il (sv s (val xs)) ≤ xs.length := by unfold il; rw [sv_abs]; exact dlen_val h
theorem ht_v {r : RQ} {L : Nat} (h : r.ok L) : ht r.v ≤ L + 1 := by
  obtain ⟨h1, h2, h3, h4⟩ := h
  have := ht_mk (sv r.s (val r.n)) (val r.d)
  have a1 := il_sv (s := r.s) h1
  have a2 := dlen_val h2
  unfold RQ.v; omega
/-- an affine map: the columns (a, d), (b, e) and the vector (c, f) -/
structure M6 (α : Type) where
  a : α
  b : α
  c : α
  d : α
  e : α
  f : α
structure M6.ok (L : Nat) (m : M6 RQ) : Prop where
  a : m.a.ok L
  b : m.b.ok L
  c : m.c.ok L
  d : m.d.ok L
  e : m.e.ok L
  f : m.f.ok L
structure M6.le (L : Nat) (m : M6 Rat) : Prop where
  a : ht m.a ≤ L
  b : ht m.b ≤ L
  c : ht m.c ≤ L
  d : ht m.d ≤ L
  e : ht m.e ≤ L
  f : ht m.f ≤ L
def M6.v (m : M6 RQ) : M6 Rat := ⟨m.a.v, m.b.v, m.c.v, m.d.v, m.e.v, m.f.v⟩
end Go.Ab
/- The reference of layer 1: numbers of package api. -/
namespace Go.Ab
open Go.Proofs
set_option linter.unusedSectionVars false
set_option linter.unusedVariables false
set_option linter.unusedSimpArgs false
variable [Base]
theorem le_decF {p : Prop} [Decidable p] (h : ¬p) : Le (lit (.bool false)) (lit (.bool (decide p))) := by rw [decide_eq_false h]; exact Le.refl _
theorem le_decT {p : Prop} [Decidable p] (h : p) : Le (lit (.bool true)) (lit (.bool (decide p))) := by rw [decide_eq_true h]; exact Le.refl _
theorem sameN_pu (xs ys : List Nat) (hx : xs.length ≤ 1000000000) (hy : ys.length ≤ 1000000000) : Pu Tryz.prog 116 [dg xs, dg ys] (lit (.bool (decide (xs = ys)))) := by
  by_cases hl : xs.length = ys.length
  · refine Pu.intro Tryz.func116 rfl (by kernel_rfl) fun C => ?_
    repeat (refine A1 ⟨?_⟩; intros)
    refine WP.loop (ι := Nat) (fun k => k ≤ xs.length ∧ xs.take k = ys.take k) (fun k => xs.length - k) (fun k => fm [(0, dg xs), (1, dg ys), (11, dg xs), (12, lit (.int .i64 xs.length)), (13, lit (.int .i64 k))]) (fun _ => []) 0
      ⟨Nat.zero_le _, rfl⟩ (by (repeat (first | exact LeF.nil _ | refine LeF.cons (Le.refl _) ?_ | refine LeF.cons (Le.int (by omega)) ?_))) rfl ?_
    rintro k ⟨hk, he⟩ K hK
    by_cases hkl : k < xs.length
    · by_cases hd : xs.getD k 0 = ys.getD k 0
      · repeat (refine A1 ⟨?_⟩; intros)
        exact hK _ _ (k + 1) ⟨by omega, by rw [take_succ_getD xs k hkl, take_succ_getD ys k (by omega), he, hd]⟩ (by omega) (by (repeat (first | exact LeF.nil _ | refine LeF.cons (Le.refl _) ?_ | refine LeF.cons (Le.int (by omega)) ?_))) rfl
      · repeat (refine A1 ⟨?_⟩; intros)
        exact endR (end1 (RV.tmp rfl) (le_decF fun e => hd (by rw [e])))
    · have hke : k = xs.length := by omega
      subst hke
      rw [List.take_length, hl, List.take_length] at he
      repeat (refine A1 ⟨?_⟩; intros)
      exact endR (end1 (RV.tmp rfl) (le_decT he))
  · refine Pu.intro Tryz.func116 rfl (by kernel_rfl) fun C => ?_
    repeat (refine A1 ⟨?_⟩; intros)
    exact endR (end1 (RV.tmp rfl) (le_decF fun e => hl (by rw [e])))
theorem toN_pu (xs : List Nat) (h : xs.length ≤ 1000000000) : Pu Tryz.prog 137 [dg xs] (dg xs) := by
  refine Pu.intro Tryz.func137 rfl (by kernel_rfl) fun C => ?_
  repeat (refine A1 ⟨?_⟩; intros)
  ((first | refine endR ?_ | refine endN ?_); exact end1 (RV.tmp rfl) (Le.refl _))
theorem toI_pu (z : Int) (h : il z ≤ 1000000000) : Pu Tryz.prog 136 [int z] (int z) := by
  have h' : (dgs z.natAbs).length ≤ 1000000000 := h
  refine Pu.intro Tryz.func136 rfl (by kernel_rfl) fun C => ?_
  repeat (first | (refine A1 ⟨?_⟩; intros) | (refine Wcx (toN_pu _ h') ?_) | (refine Wdcx (toN_pu _ h') ?_) | (refine Wcgx (toN_pu _ h') ?_) | (refine Wdcgx (toN_pu _ h') ?_))
  ((first | refine endR ?_ | refine endN ?_); refine end1 (RV.cellA rfl (by (first | exact List.mem_cons_self | exact (List.mem_cons_of_mem _ List.mem_cons_self) | exact (List.mem_cons_of_mem _ (List.mem_cons_of_mem _ List.mem_cons_self)) | exact (List.mem_cons_of_mem _ (List.mem_cons_of_mem _ (List.mem_cons_of_mem _ List.mem_cons_self))) | exact (List.mem_cons_of_mem _ (List.mem_cons_of_mem _ (List.mem_cons_of_mem _ (List.mem_cons_of_mem _ List.mem_cons_self)))) | exact (List.mem_cons_of_mem _ (List.mem_cons_of_mem _ (List.mem_cons_of_mem _ (List.mem_cons_of_mem _ (List.mem_cons_of_mem _ List.mem_cons_self))))) | exact (List.mem_cons_of_mem _ (List.mem_cons_of_mem _ (List.mem_cons_of_mem _ (List.mem_cons_of_mem _ (List.mem_cons_of_mem _ (List.mem_cons_of_mem _ List.mem_cons_self)))))) | exact (List.mem_cons_of_mem _ (List.mem_cons_of_mem _ (List.mem_cons_of_mem _ (List.mem_cons_of_mem _ (List.mem_cons_of_mem _ (List.mem_cons_of_mem _ (List.mem_cons_of_mem _ List.mem_cons_self))))))))) (by (first | (simp only [List.drop_succ_cons, List.drop_zero, List.drop_nil, List.take_succ_cons, List.take_zero, List.take_nil, Nat.zero_add, Nat.add_zero, Nat.reduceAdd]; done) | (simp only [List.drop_succ_cons, List.drop_zero, List.drop_nil, List.take_succ_cons, List.take_zero, List.take_nil, Nat.zero_add, Nat.add_zero, Nat.reduceAdd]; exact rfl) | exact rfl)) rfl) (Le.refl _))
theorem sameI_pu (s t : Bool) (xs ys : List Nat) (hx : xs.length ≤ 1000000000) (hy : ys.length ≤ 1000000000) : Pu Tryz.prog 115 [raw s xs, raw t ys] (lit (.bool (decide (s = t ∧ xs = ys)))) := by
  cases s <;> cases t
  · refine Pu.intro Tryz.func115 rfl (by kernel_rfl) fun C => ?_
    repeat (first | (refine A1 ⟨?_⟩; intros) | (refine Wcx (sameN_pu _ _ hx hy) ?_) | (refine Wdcx (sameN_pu _ _ hx hy) ?_) | (refine Wcgx (sameN_pu _ _ hx hy) ?_) | (refine Wdcgx (sameN_pu _ _ hx hy) ?_))
    refine endR (end1 (RV.tmp rfl) (Le.bool ?_)); simp
  · refine Pu.intro Tryz.func115 rfl (by kernel_rfl) fun C => ?_
    repeat (first | (refine A1 ⟨?_⟩; intros) | (refine Wcx (sameN_pu _ _ hx hy) ?_) | (refine Wdcx (sameN_pu _ _ hx hy) ?_) | (refine Wcgx (sameN_pu _ _ hx hy) ?_) | (refine Wdcgx (sameN_pu _ _ hx hy) ?_))
    refine endR (end1 (RV.tmp rfl) (Le.bool ?_)); simp
  · refine Pu.intro Tryz.func115 rfl (by kernel_rfl) fun C => ?_
    repeat (first | (refine A1 ⟨?_⟩; intros) | (refine Wcx (sameN_pu _ _ hx hy) ?_) | (refine Wdcx (sameN_pu _ _ hx hy) ?_) | (refine Wcgx (sameN_pu _ _ hx hy) ?_) | (refine Wdcgx (sameN_pu _ _ hx hy) ?_))
    refine endR (end1 (RV.tmp rfl) (Le.bool ?_)); simp
  · refine Pu.intro Tryz.func115 rfl (by kernel_rfl) fun C => ?_
    repeat (first | (refine A1 ⟨?_⟩; intros) | (refine Wcx (sameN_pu _ _ hx hy) ?_) | (refine Wdcx (sameN_pu _ _ hx hy) ?_) | (refine Wcgx (sameN_pu _ _ hx hy) ?_) | (refine Wdcgx (sameN_pu _ _ hx hy) ?_))
    refine endR (end1 (RV.tmp rfl) (Le.bool ?_)); simp
theorem toQ_pu (x : Rat) (h : ht x ≤ 100000000) : Pu Tryz.prog 96 [rq x] (q x) := by
  have h1 := ht_num x
  have h2 := ht_den x
  refine Pu.intro Tryz.func96 rfl (by kernel_rfl) fun C => ?_
  repeat (first | (refine A1 ⟨?_⟩; intros) | (refine Wcx (toI_pu _ (by omega)) ?_) | (refine Wdcx (toI_pu _ (by omega)) ?_) | (refine Wcgx (toI_pu _ (by omega)) ?_) | (refine Wdcgx (toI_pu _ (by omega)) ?_) | (refine Wcx (rden_pu x) ?_) | (refine Wdcx (rden_pu x) ?_) | (refine Wcgx (rden_pu x) ?_) | (refine Wdcgx (rden_pu x) ?_) | (refine Wcx (toN_pu _ (by omega)) ?_) | (refine Wdcx (toN_pu _ (by omega)) ?_) | (refine Wcgx (toN_pu _ (by omega)) ?_) | (refine Wdcgx (toN_pu _ (by omega)) ?_))
  ((first | refine endR ?_ | refine endN ?_); refine end1 (RV.cellA rfl (by (first | exact List.mem_cons_self | exact (List.mem_cons_of_mem _ List.mem_cons_self) | exact (List.mem_cons_of_mem _ (List.mem_cons_of_mem _ List.mem_cons_self)) | exact (List.mem_cons_of_mem _ (List.mem_cons_of_mem _ (List.mem_cons_of_mem _ List.mem_cons_self))) | exact (List.mem_cons_of_mem _ (List.mem_cons_of_mem _ (List.mem_cons_of_mem _ (List.mem_cons_of_mem _ List.mem_cons_self)))) | exact (List.mem_cons_of_mem _ (List.mem_cons_of_mem _ (List.mem_cons_of_mem _ (List.mem_cons_of_mem _ (List.mem_cons_of_mem _ List.mem_cons_self))))) | exact (List.mem_cons_of_mem _ (List.mem_cons_of_mem _ (List.mem_cons_of_mem _ (List.mem_cons_of_mem _ (List.mem_cons_of_mem _ (List.mem_cons_of_mem _ List.mem_cons_self)))))) | exact (List.mem_cons_of_mem _ (List.mem_cons_of_mem _ (List.mem_cons_of_mem _ (List.mem_cons_of_mem _ (List.mem_cons_of_mem _ (List.mem_cons_of_mem _ (List.mem_cons_of_mem _ List.mem_cons_self))))))))) (by (first | (simp only [List.drop_succ_cons, List.drop_zero, List.drop_nil, List.take_succ_cons, List.take_zero, List.take_nil, Nat.zero_add, Nat.add_zero, Nat.reduceAdd]; done) | (simp only [List.drop_succ_cons, List.drop_zero, List.drop_nil, List.take_succ_cons, List.take_zero, List.take_nil, Nat.zero_add, Nat.add_zero, Nat.reduceAdd]; exact rfl) | exact rfl)) rfl) (Le.refl _))
end Go.Ab
/- The references of layers 4 and 26: points and maps. -/
namespace Go.Ab
open Go.Proofs
set_option linter.unusedSectionVars false
set_option linter.unusedVariables false
set_option linter.unusedSimpArgs false
variable [Base]
abbrev rp (x y : Rat) : SV := ag [lit (.bool (decide (x.num < 0))), nat x.num.natAbs, dg (dden x.den), lit (.bool (decide (y.num < 0))), nat y.num.natAbs, dg (dden y.den)]
theorem toP_pu (x y : Rat) (hx : ht x ≤ 100000000) (hy : ht y ≤ 100000000) : Pu Tryz.prog 67 [rp x y] (pq x y) := by
  refine Pu.intro Tryz.func67 rfl (by kernel_rfl) fun C => ?_
  repeat (first | (refine A1 ⟨?_⟩; intros) | (refine Wcx (toQ_pu _ hx) ?_) | (refine Wdcx (toQ_pu _ hx) ?_) | (refine Wcgx (toQ_pu _ hx) ?_) | (refine Wdcgx (toQ_pu _ hx) ?_) | (refine Wcx (toQ_pu _ hy) ?_) | (refine Wdcx (toQ_pu _ hy) ?_) | (refine Wcgx (toQ_pu _ hy) ?_) | (refine Wdcgx (toQ_pu _ hy) ?_))
  ((first | refine endR ?_ | refine endN ?_); refine end1 (RV.cellA rfl (by (first | exact List.mem_cons_self | exact (List.mem_cons_of_mem _ List.mem_cons_self) | exact (List.mem_cons_of_mem _ (List.mem_cons_of_mem _ List.mem_cons_self)) | exact (List.mem_cons_of_mem _ (List.mem_cons_of_mem _ (List.mem_cons_of_mem _ List.mem_cons_self))) | exact (List.mem_cons_of_mem _ (List.mem_cons_of_mem _ (List.mem_cons_of_mem _ (List.mem_cons_of_mem _ List.mem_cons_self)))) | exact (List.mem_cons_of_mem _ (List.mem_cons_of_mem _ (List.mem_cons_of_mem _ (List.mem_cons_of_mem _ (List.mem_cons_of_mem _ List.mem_cons_self))))) | exact (List.mem_cons_of_mem _ (List.mem_cons_of_mem _ (List.mem_cons_of_mem _ (List.mem_cons_of_mem _ (List.mem_cons_of_mem _ (List.mem_cons_of_mem _ List.mem_cons_self)))))) | exact (List.mem_cons_of_mem _ (List.mem_cons_of_mem _ (List.mem_cons_of_mem _ (List.mem_cons_of_mem _ (List.mem_cons_of_mem _ (List.mem_cons_of_mem _ (List.mem_cons_of_mem _ List.mem_cons_self))))))))) (by (first | (simp only [List.drop_succ_cons, List.drop_zero, List.drop_nil, List.take_succ_cons, List.take_zero, List.take_nil, Nat.zero_add, Nat.add_zero, Nat.reduceAdd]; done) | (simp only [List.drop_succ_cons, List.drop_zero, List.drop_nil, List.take_succ_cons, List.take_zero, List.take_nil, Nat.zero_add, Nat.add_zero, Nat.reduceAdd]; exact rfl) | exact rfl)) rfl) (Le.refl _))
theorem xy_pu (a b : Int) (ha : -9223372036854775808 ≤ a) (ha' : a ≤ 9223372036854775807) (hb : -9223372036854775808 ≤ b) (hb' : b ≤ 9223372036854775807) : Pu Tryz.prog 95 [lit (.int .i64 a), lit (.int .i64 b)] (rp (a : Rat) (b : Rat)) := by
  refine Pu.intro Tryz.func95 rfl (by kernel_rfl) fun C => ?_
  repeat (first | (refine A1 ⟨?_⟩; intros) | (refine Wcx (rof_pu a ha ha') ?_) | (refine Wdcx (rof_pu a ha ha') ?_) | (refine Wcgx (rof_pu a ha ha') ?_) | (refine Wdcgx (rof_pu a ha ha') ?_) | (refine Wcx (rof_pu b hb hb') ?_) | (refine Wdcx (rof_pu b hb hb') ?_) | (refine Wcgx (rof_pu b hb hb') ?_) | (refine Wdcgx (rof_pu b hb hb') ?_))
  ((first | refine endR ?_ | refine endN ?_); refine end1 (RV.cellA rfl (by (first | exact List.mem_cons_self | exact (List.mem_cons_of_mem _ List.mem_cons_self) | exact (List.mem_cons_of_mem _ (List.mem_cons_of_mem _ List.mem_cons_self)) | exact (List.mem_cons_of_mem _ (List.mem_cons_of_mem _ (List.mem_cons_of_mem _ List.mem_cons_self))) | exact (List.mem_cons_of_mem _ (List.mem_cons_of_mem _ (List.mem_cons_of_mem _ (List.mem_cons_of_mem _ List.mem_cons_self)))) | exact (List.mem_cons_of_mem _ (List.mem_cons_of_mem _ (List.mem_cons_of_mem _ (List.mem_cons_of_mem _ (List.mem_cons_of_mem _ List.mem_cons_self))))) | exact (List.mem_cons_of_mem _ (List.mem_cons_of_mem _ (List.mem_cons_of_mem _ (List.mem_cons_of_mem _ (List.mem_cons_of_mem _ (List.mem_cons_of_mem _ List.mem_cons_self)))))) | exact (List.mem_cons_of_mem _ (List.mem_cons_of_mem _ (List.mem_cons_of_mem _ (List.mem_cons_of_mem _ (List.mem_cons_of_mem _ (List.mem_cons_of_mem _ (List.mem_cons_of_mem _ List.mem_cons_self))))))))) (by (first | (simp only [List.drop_succ_cons, List.drop_zero, List.drop_nil, List.take_succ_cons, List.take_zero, List.take_nil, Nat.zero_add, Nat.add_zero, Nat.reduceAdd]; done) | (simp only [List.drop_succ_cons, List.drop_zero, List.drop_nil, List.take_succ_cons, List.take_zero, List.take_nil, Nat.zero_add, Nat.add_zero, Nat.reduceAdd]; exact rfl) | exact rfl)) rfl) (Le.refl _))
theorem gadd_pu (x y k u v : Rat) (hx : ht x ≤ 1000000) (hy : ht y ≤ 1000000) (hk : ht k ≤ 1000000) (hu : ht u ≤ 1000000) (hv : ht v ≤ 1000000) : Pu Tryz.prog 68 [rp x y, rq k, rp u v] (rp (x + k * u) (y + k * v)) := by
  have h1 := ht_mul k u
  have h2 := ht_mul k v
  refine Pu.intro Tryz.func68 rfl (by kernel_rfl) fun C => ?_
  repeat (first | (refine A1 ⟨?_⟩; intros) | (refine Wcx (rtimes_pu k u (by omega) (by omega)) ?_) | (refine Wdcx (rtimes_pu k u (by omega) (by omega)) ?_) | (refine Wcgx (rtimes_pu k u (by omega) (by omega)) ?_) | (refine Wdcgx (rtimes_pu k u (by omega) (by omega)) ?_) | (refine Wcx (rplus_pu x (k * u) (by omega) (by omega)) ?_) | (refine Wdcx (rplus_pu x (k * u) (by omega) (by omega)) ?_) | (refine Wcgx (rplus_pu x (k * u) (by omega) (by omega)) ?_) | (refine Wdcgx (rplus_pu x (k * u) (by omega) (by omega)) ?_) | (refine Wcx (rtimes_pu k v (by omega) (by omega)) ?_) | (refine Wdcx (rtimes_pu k v (by omega) (by omega)) ?_) | (refine Wcgx (rtimes_pu k v (by omega) (by omega)) ?_) | (refine Wdcgx (rtimes_pu k v (by omega) (by omega)) ?_) | (refine Wcx (rplus_pu y (k * v) (by omega) (by omega)) ?_) | (refine Wdcx (rplus_pu y (k * v) (by omega) (by omega)) ?_) | (refine Wcgx (rplus_pu y (k * v) (by omega) (by omega)) ?_) | (refine Wdcgx (rplus_pu y (k * v) (by omega) (by omega)) ?_))
  ((first | refine endR ?_ | refine endN ?_); refine end1 (RV.cellA rfl (by (first | exact List.mem_cons_self | exact (List.mem_cons_of_mem _ List.mem_cons_self) | exact (List.mem_cons_of_mem _ (List.mem_cons_of_mem _ List.mem_cons_self)) | exact (List.mem_cons_of_mem _ (List.mem_cons_of_mem _ (List.mem_cons_of_mem _ List.mem_cons_self))) | exact (List.mem_cons_of_mem _ (List.mem_cons_of_mem _ (List.mem_cons_of_mem _ (List.mem_cons_of_mem _ List.mem_cons_self)))) | exact (List.mem_cons_of_mem _ (List.mem_cons_of_mem _ (List.mem_cons_of_mem _ (List.mem_cons_of_mem _ (List.mem_cons_of_mem _ List.mem_cons_self))))) | exact (List.mem_cons_of_mem _ (List.mem_cons_of_mem _ (List.mem_cons_of_mem _ (List.mem_cons_of_mem _ (List.mem_cons_of_mem _ (List.mem_cons_of_mem _ List.mem_cons_self)))))) | exact (List.mem_cons_of_mem _ (List.mem_cons_of_mem _ (List.mem_cons_of_mem _ (List.mem_cons_of_mem _ (List.mem_cons_of_mem _ (List.mem_cons_of_mem _ (List.mem_cons_of_mem _ List.mem_cons_self))))))))) (by (first | (simp only [List.drop_succ_cons, List.drop_zero, List.drop_nil, List.take_succ_cons, List.take_zero, List.take_nil, Nat.zero_add, Nat.add_zero, Nat.reduceAdd]; done) | (simp only [List.drop_succ_cons, List.drop_zero, List.drop_nil, List.take_succ_cons, List.take_zero, List.take_nil, Nat.zero_add, Nat.add_zero, Nat.reduceAdd]; exact rfl) | exact rfl)) rfl) (Le.refl _))
end Go.Ab
/- The scenes' tape: UNDER WAY. -/
namespace Go.Ab
open Go.Proofs
set_option linter.unusedSectionVars false
set_option linter.unusedVariables false
set_option linter.unusedSimpArgs false
variable [Base]
/-- a tape: its list, and any place in it -/
abbrev tapeC (zs : List Int) : List SV := [nsl .i64 zs, ex fun k : { k : Nat // k ≤ zs.length } => lit (.int .i64 (k.1 : Int))]
section
variable {P : Program} {F : Fr} {H : LH}
variable {C : Ctx} {n : Nat} {ops : Array Oper} {K : Fr → LH → Prop} {rest : List Oper} {ty : TypeId} {pos : String} {aft : Array Edge}
/-- .. whose result is one of many -/
theorem Wtx {d : Nat} {f : FuncId} {l : List Operand} {tys : Array TypeId} {T : TypeId} {b : Nat} {args : Nat → List SV} {cs : List SV} {α : Type} {res : α → SV} (hc : PuM P f T args cs (fun _ : Unit => cs) (fun _ => ex res)) (hm : (b, T, cs) ∈ H) (k : ∀ x, WPL P C n ops rest K (upd F d (res x)) H)
    (ha : l.map (ev F) = args b := by exact rfl) (hd : Nat.blt d n = true := by exact rfl) : WPL P C n ops (⟨some d, .call ⟨.value (.func f), l.toArray, tys⟩, ty, pos, aft, none⟩ :: rest) K F H :=
  WPL.val (ov_callT hc ha hm) hd (WPL.exd (d := d) upd_eq fun x => by
    have e : upd (upd F d (ex res)) d (res x) = upd F d (res x) := by
      funext t
      by_cases h : t = d
      · subst h; rw [upd_eq, upd_eq]
      · rw [upd_ne h, upd_ne h, upd_ne h]
    rw [e]; exact k x)
theorem endNwR {rs : Array ResultVar} {T : TypeId} {cs : List SV} (b : Nat) (cs0 : List SV) (h : Ends P rs.toList (lit (.pointer (some ⟨b, 0, none⟩))) F H) (hm : (b, T, cs0) ∈ H) (hl : LeL cs0 cs) : endNw P rs T cs .ret F H := ⟨b, cs0, h, hm, hl⟩
theorem endMR {rs : Array ResultVar} {α : Type} {b : Nat} {T : TypeId} {cs' : α → List SV} {res : α → SV} (x : α) (cs : List SV) (h : Ends P rs.toList (res x) F H) (hm : (b, T, cs) ∈ H) (hl : LeL cs (cs' x)) : endM P rs b T cs' res .ret F H := ⟨x, h, cs, hm, hl⟩
theorem All2.exI {α : Type} {m : Mem} {f : α → SV} : ∀ {cs : List SV} {vs : List Value} (i : Nat), All2 m cs vs → cs[i]? = some (ex f) → ∃ x, All2 m (cs.set i (f x)) vs
  | [], _, i, _, h => by simp at h
  | _ :: _, [], _, h, _ => h.elim
  | s :: cs, v :: vs, 0, h, hi => by
    simp only [List.getElem?_cons_zero, Option.some.injEq] at hi
    subst hi
    have h1 := h.1.1
    unfold ex at h1
    obtain ⟨x, hx⟩ := h1
    exact ⟨x, ⟨hx, h.1.2⟩, h.2⟩
  | s :: cs, v :: vs, i + 1, h, hi => by
    obtain ⟨x, hx⟩ := All2.exI i h.2 (by simpa using hi)
    exact ⟨x, h.1, hx⟩
/-- what a cell of a block holds is one of many -/
theorem WP.exH {C : Ctx} {n : Nat} {Q : Exit → Fr → LH → Prop} {α : Type} {f : α → SV} {c : Code} {b : Nat} {T : TypeId} {cs : List SV} {H' : α → LH} (i : Nat) (hi : cs[i]? = some (ex f)) (hu : ∀ x, HUpd b T cs (cs.set i (f x)) H (H' x)) (x0 : α)
    (k : ∀ x, WP P C n c Q F (H' x)) : WP P C n c Q F H := by
  unfold WP at *
  rintro a w ⟨hdef, hn, m, h1, h2, h3, h4, h5⟩
  obtain ⟨g1, arr, g2, g3⟩ := h2.2 _ (hu x0).mem
  obtain ⟨x, hx⟩ := g3.exI i hi
  refine k x a w ⟨hdef, hn, m, h1, ⟨(hu x).keys ▸ h2.1, fun e he => ?_⟩, h3, fun e he => ?_, h5⟩
  · rcases (hu x).mem' h2.1 e he with rfl | ⟨he', _⟩
    · exact ⟨g1, arr, g2, hx⟩
    · exact h2.2 e he'
  · have : e.1 ∈ (H' x).map (·.1) := List.mem_map.2 ⟨e, he, rfl⟩
    rw [(hu x).keys] at this
    obtain ⟨e', he', hk'⟩ := List.mem_map.1 this
    exact hk' ▸ h4 e' he'
end
theorem new_pu (zs : List Int) (hz : zs.length ≤ 9223372036854775807) : PuN Tryz.prog 25 99 [nsl .i64 zs] (tapeC (zs.take (min zs.length 400))) := by
  obtain ⟨k, hk⟩ : ∃ k, k = min zs.length 400 := ⟨_, rfl⟩
  rw [← hk]
  by_cases h : zs.length ≤ 400
  · have hk : k = zs.length := by omega
    subst hk
    refine PuN.intro Tryz.func25 rfl (by kernel_rfl) fun C => ?_
    repeat (refine A1 ⟨?_⟩; intros)
    refine Wo (ov_sliceN (i := 0) (j := zs.length) rfl (fun _ h => by cases h) (fun _ => rfl) (fun y h => ⟨_, _, by cases h; exact rfl, rfl⟩) (fun h => by cases h) (by omega) (by omega) rfl) ?_
    repeat (refine A1 ⟨?_⟩; intros)
    exact endNwR _ _ (end1 (RV.tmp rfl) (Le.refl _)) List.mem_cons_self ⟨Le.refl _, Le.ex ⟨0, by simp⟩ (Le.refl _), trivial⟩
  · have hk : k = 400 := by omega
    subst hk
    refine PuN.intro Tryz.func25 rfl (by kernel_rfl) fun C => ?_
    repeat (refine A1 ⟨?_⟩; intros)
    refine Wo (ov_sliceN (i := 0) (j := 400) rfl (fun _ h => by cases h) (fun _ => rfl) (fun y h => ⟨_, _, by cases h; exact rfl, rfl⟩) (fun h => by cases h) (by omega) (by omega) rfl) ?_
    repeat (refine A1 ⟨?_⟩; intros)
    exact endNwR _ _ (end1 (RV.tmp rfl) (Le.refl _)) List.mem_cons_self ⟨Le.refl _, Le.ex ⟨0, by simp⟩ (Le.refl _), trivial⟩
/-- a function of the tape, which goes on somewhere in it -/
abbrev PuT (f : FuncId) (zs : List Int) (args : List SV) (res : SV) : Prop := PuM Tryz.prog f 99 (fun b => lit (.pointer (some ⟨b, 0, none⟩)) :: args) (tapeC zs) (fun _ : Unit => tapeC zs) (fun _ => res)
/-- a number below n -/
abbrev below (n : Nat) : SV := ex fun k : { k : Nat // k < n } => lit (.int .i64 (k.1 : Int))
theorem next_pu (zs : List Int) (hz : zs.length ≤ 400) (n : Nat) (hn : 0 < n) (hn' : n ≤ 1000000000) : PuT 65 zs [lit (.int .i64 n)] (below n) := by
  refine PuM.intro Tryz.func65 rfl (by kernel_rfl) fun C b => ?_
  refine WP.exH 1 rfl (fun x => HUpd.here _) ⟨0, by omega⟩ fun x => ?_
  obtain ⟨k, hk⟩ := x
  simp only [tapeC, List.set_cons_succ, List.set_cons_zero]
  by_cases hkl : k < zs.length
  · have m1 := Int.tmod_lt_of_pos (zs.getD k 0) (show (0 : Int) < n by omega)
    have m2 := Int.lt_tmod_of_pos (zs.getD k 0) (show (0 : Int) < n by omega)
    repeat (refine A1 ⟨?_⟩; intros)
    generalize (zs.getD k 0).tmod (n : Int) = r at *
    refine WPd (fun h => ?_) (fun h => ?_)
    · repeat (refine A1 ⟨?_⟩; intros)
      exact endMR () _ (end1 (RV.tmp rfl) (Le.ex ⟨(r + n).toNat, by omega⟩ (Le.int (by simp only; omega)))) List.mem_cons_self ⟨Le.refl _, Le.ex ⟨k + 1, by omega⟩ (Le.refl _), trivial⟩
    · repeat (refine A1 ⟨?_⟩; intros)
      exact endMR () _ (end1 (RV.tmp rfl) (Le.ex ⟨r.toNat, by omega⟩ (Le.int (by simp only; omega)))) List.mem_cons_self ⟨Le.refl _, Le.ex ⟨k + 1, by omega⟩ (Le.refl _), trivial⟩
  · repeat (refine A1 ⟨?_⟩; intros)
    exact endMR () _ (end1 (RV.tmp rfl) (Le.ex ⟨0, hn⟩ (Le.refl _))) List.mem_cons_self ⟨Le.refl _, Le.ex ⟨k, hk⟩ (Le.refl _), trivial⟩
/-- a rational whose parts have one digit -/
abbrev smallR : SV := ex fun x : { x : Rat // ht x ≤ 1 } => rq x.1
theorem ht_mkz (z : Int) (d : Nat) (hz : z.natAbs < 4294967296) (hd : d < 4294967296) : ht (mkRat z d) ≤ 1 := by
  have h := ht_mk z d
  have h1 : il z ≤ 1 := len_le (k := 1) (by simpa using hz)
  have h2 := len_le (n := d) (k := 1) (by simpa using hd)
  omega
theorem ht_int (z : Int) (h : z.natAbs < 4294967296) : ht (z : Rat) ≤ 1 := by
  unfold ht
  rw [Rat.num_intCast, Rat.den_intCast, dgs_one]
  have : il z ≤ 1 := len_le (k := 1) (by simpa using h)
  simp; omega
theorem tq_pu (zs : List Int) (hz : zs.length ≤ 400) : PuT 69 zs [] smallR := by
  refine PuM.intro Tryz.func69 rfl (by kernel_rfl) fun C b => ?_
  repeat (refine A1 ⟨?_⟩; intros)
  refine Wtx (next_pu zs hz 9 (by omega) (by omega)) (List.mem_cons_of_mem _ List.mem_cons_self) fun k => ?_
  obtain ⟨k, hk⟩ := k
  simp only []
  repeat (refine A1 ⟨?_⟩; intros)
  refine Wtx (next_pu zs hz 6 (by omega) (by omega)) (List.mem_cons_of_mem _ List.mem_cons_self) fun j => ?_
  obtain ⟨j, hj⟩ := j
  simp only []
  have fin : ∀ (x : Rat), ht x ≤ 1 → Le (ag [lit (.bool (decide (x.num < 0))), nat x.num.natAbs, dg (dden x.den)]) smallR := fun x hx => Le.ex ⟨x, hx⟩ (Le.refl _)
  by_cases hj0 : j = 0
  · have hp := rpart_pu (2 * ((k : Int) - 4) + 1) 2 (by omega) (by omega) (by omega) (by omega)
    repeat (first | (refine A1 ⟨?_⟩; intros) | (refine Wcx (hp) ?_) | (refine Wdcx (hp) ?_) | (refine Wcgx (hp) ?_) | (refine Wdcgx (hp) ?_))
    exact endMR () _ (end1 (RV.cellA rfl List.mem_cons_self rfl rfl) (fin _ (ht_mkz _ _ (by omega) (by omega)))) (List.mem_cons_of_mem _ List.mem_cons_self) (LeL.refl _)
  · by_cases hj1 : j = 1
    · have hp := rpart_pu (3 * ((k : Int) - 4) + 1) 3 (by omega) (by omega) (by omega) (by omega)
      repeat (first | (refine A1 ⟨?_⟩; intros) | (refine Wcx (hp) ?_) | (refine Wdcx (hp) ?_) | (refine Wcgx (hp) ?_) | (refine Wdcgx (hp) ?_))
      exact endMR () _ (end1 (RV.cellA rfl List.mem_cons_self rfl rfl) (fin _ (ht_mkz _ _ (by omega) (by omega)))) (List.mem_cons_of_mem _ List.mem_cons_self) (LeL.refl _)
    · have hp := rof_pu ((k : Int) - 4) (by omega) (by omega)
      repeat (first | (refine A1 ⟨?_⟩; intros) | (refine Wcx (hp) ?_) | (refine Wdcx (hp) ?_) | (refine Wcgx (hp) ?_) | (refine Wdcgx (hp) ?_))
      exact endMR () _ (end1 (RV.cellA rfl List.mem_cons_self rfl rfl) (fin _ (ht_int _ (by omega)))) (List.mem_cons_of_mem _ List.mem_cons_self) (LeL.refl _)
theorem leN0 : Le (lit (.slice none 0 0)) (nat (0 : Rat).num.natAbs) := by
  rw [show (0 : Rat).num.natAbs = 0 from rfl, show nat 0 = dg [] from by show dg (dgs 0) = _; rw [dgs_zero]]
  exact le_nil
theorem leD0 : Le (lit (.slice none 0 0)) (dg (dden (0 : Rat).den)) := by
  rw [show (0 : Rat).den = 1 from rfl, dden_one]; exact le_nil
end Go.Ab
/- The scenes: how long numbers are. -/
namespace Go.Ab
open Go.Proofs
set_option linter.unusedSectionVars false
set_option linter.unusedVariables false
set_option linter.unusedSimpArgs false
variable [Base]
def RQ.short (n : Nat) (r : RQ) : Prop := r.n.length ≤ n ∧ r.d.length ≤ n
instance (n : Nat) (r : RQ) : Decidable (r.short n) := by unfold RQ.short; infer_instance
end Go.Ab
/- Package affine: Translation; the law AffineRough, walked. -/
namespace Go.Ab
open Go.Proofs
set_option linter.unusedSectionVars false
set_option linter.unusedVariables false
set_option linter.unusedSimpArgs false
variable [Base]
theorem ht_zero : ht 0 = 1 := by
  unfold ht il
  rw [show (0 : Rat).num = 0 from rfl, show (0 : Rat).den = 1 from rfl, show (0 : Int).natAbs = 0 from rfl, dgs_zero, dgs_one]; rfl
def M6.of (m : M6 Rat) : M6 RQ := ⟨RQ.of m.a, RQ.of m.b, RQ.of m.c, RQ.of m.d, RQ.of m.e, RQ.of m.f⟩
theorem M6.of_v (m : M6 Rat) : m.of.v = m := by
  unfold M6.of M6.v
  simp only [RQ.of_v]
theorem M6.of_ok {m : M6 Rat} {L : Nat} (h : m.le L) : m.of.ok L := ⟨RQ.of_ok h.a, RQ.of_ok h.b, RQ.of_ok h.c, RQ.of_ok h.d, RQ.of_ok h.e, RQ.of_ok h.f⟩
end Go.Ab
/- Decimal texts of rational numbers: the reference's. -/
namespace Go.Ab
open Go.Proofs
set_option linter.unusedSectionVars false
set_option linter.unusedVariables false
set_option linter.unusedSimpArgs false
variable [Base]
/-- the text of a rational number -/
def fmt (x : Rat) : List UInt8 := (if x.num < 0 then [45] ++ dec x.num.natAbs else dec x.num.natAbs) ++ (if x.den = 1 then [] else [47] ++ dec x.den)
theorem dec_len {n L : Nat} (h : (dgs n).length ≤ L) : (dec n).length ≤ 10 * L + 1 := by
  unfold dec
  split
  · simp
  · rw [List.length_reverse]; have := decR_len h; omega
theorem fmt_len {x : Rat} {L : Nat} (hx : ht x ≤ L) : (fmt x).length ≤ 20 * L + 4 ∧ 1 ≤ (fmt x).length := by
  have n1 := ht_num x
  have n2 := ht_den x
  have l1 := dec_len (n := x.num.natAbs) (L := L) (show il x.num ≤ L by omega)
  have l2 := dec_len (n := x.den) (L := L) (by omega)
  have p : ∀ n, 1 ≤ (dec n).length := fun n => by
    unfold dec
    split
    · simp
    · rename_i h; rw [decR_pos h]; simp
  have p1 := p x.num.natAbs
  unfold fmt
  split <;> split <;> simp <;> omega
end Go.Ab
/- Sentinel errors: package variables that hold a pointer to an errors.errorString; errors.Is of one and the same. -/
namespace Go.Ab
open Go.Proofs
set_option linter.unusedSectionVars false
set_option linter.unusedVariables false
set_option linter.unusedSimpArgs false
variable [Base]
/-- where a sentinel's text lies -/
def addrIn : Option Value → Addr
  | some (.iface _ (.pointer (some a))) => a
  | _ => ⟨0, 0, none⟩
def gaddr (g : Nat) : Addr := match Base.mem g with
  | some (.cells arr _ _) => addrIn arr[0]?
  | _ => ⟨0, 0, none⟩
/-- a sentinel -/
abbrev sent (g : Nat) : Value := .iface 330 (.pointer (some (gaddr g)))
class Sent (g : Nat) : Prop where
  h : ∃ (a : Addr) (T : TypeId) (fz : Nat × Nat), Base.mem g = some (.cells #[.iface 330 (.pointer (some a))] T fz)
instance (g : Nat) [s : Sent g] : GV g (sent g) := ⟨by
  obtain ⟨a, T, fz, h⟩ := s.h
  refine ⟨T, fz, ?_⟩
  unfold sent gaddr
  rw [h]; rfl⟩
section
variable {F : Fr} {H : LH} {ty : TypeId}
end
end Go.Ab
/- Package affine: Identity, Vector, Compose, Invert; the reference's After, Invert. -/
namespace Go.Ab
open Go.Proofs
set_option linter.unusedSectionVars false
set_option linter.unusedVariables false
set_option linter.unusedSimpArgs false
variable [Base]
end Go.Ab
/- Lines with coprime integers; images of lines under affine maps: plain laws. -/
namespace Go.Ab
open Go.Proofs
set_option linter.unusedSectionVars false
set_option linter.unusedVariables false
set_option linter.unusedSimpArgs false
variable [Base]
/-- the greatest common divisor of two rational numbers -/
def rgcd (x y : Rat) : Rat := mkRat (Nat.gcd (x.num.natAbs * y.den) (y.num.natAbs * x.den) : Nat) (x.den * y.den)
/-- a line with integer coefficients -/
structure Li where
  a : Int
  b : Int
  c : Int
def Li.ok (l : Li) : Prop := Nat.gcd (Nat.gcd l.a.natAbs l.b.natAbs) l.c.natAbs = 1 ∧ (l.a ≠ 0 ∨ l.b ≠ 0)
def g3 (a b c : Rat) : Rat := rgcd (rgcd a b) c
end Go.Ab
