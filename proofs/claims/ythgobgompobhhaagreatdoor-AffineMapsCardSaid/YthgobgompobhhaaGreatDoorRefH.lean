/- The reference's rationals: Part, Over. -/
import Derived.Test.YthgobgompobhhaaGreatDoorRefF
import Derived.Test.YthgobgompobhhaaGreatDoorRefL
import Derived.Test.YthgobgompobhhaaGreatDoorFracE
namespace Go.Ab
open Go.Proofs
set_option linter.unusedSectionVars false
variable [Base]
theorem rpart_pu (n : Int) (d : Nat) (h0 : -9223372036854775808 ≤ n) (h1 : n ≤ 9223372036854775807) (hd0 : d ≠ 0) (hd : d ≤ 9223372036854775807) : Pu Tryz.prog 100 [lit (.int .i64 n), lit (.int .i64 d)] (rq (mkRat n d)) := by
  have hn : il n ≤ 2 := len_le (k := 2) (by have : n.natAbs < 18446744073709551616 := by omega
                                            simpa using this)
  have hdl := len_le (n := d) (k := 2) (by simpa using (show d < 18446744073709551616 by omega))
  refine Pu.intro Tryz.func100 rfl (by kernel_rfl) fun C => ?_
  repeat (first | (refine A1 ⟨?_⟩; intros) | (refine Wcx (rint_pu n h0 h1) ?_) | (refine Wdcx (rint_pu n h0 h1) ?_) | (refine Wcgx (rint_pu n h0 h1) ?_) | (refine Wdcgx (rint_pu n h0 h1) ?_) | (refine Wcx (word_pu d (by omega)) ?_) | (refine Wdcx (word_pu d (by omega)) ?_) | (refine Wcgx (word_pu d (by omega)) ?_) | (refine Wdcgx (word_pu d (by omega)) ?_) | (refine Wcx (rfrac_pu n d (by omega) (by omega) hd0) ?_) | (refine Wdcx (rfrac_pu n d (by omega) (by omega) hd0) ?_) | (refine Wcgx (rfrac_pu n d (by omega) (by omega) hd0) ?_) | (refine Wdcgx (rfrac_pu n d (by omega) (by omega) hd0) ?_))
  ((first | refine endR ?_ | refine endN ?_); refine end1 (RV.cellA rfl (by (first | exact List.mem_cons_self | exact (List.mem_cons_of_mem _ List.mem_cons_self) | exact (List.mem_cons_of_mem _ (List.mem_cons_of_mem _ List.mem_cons_self)) | exact (List.mem_cons_of_mem _ (List.mem_cons_of_mem _ (List.mem_cons_of_mem _ List.mem_cons_self))) | exact (List.mem_cons_of_mem _ (List.mem_cons_of_mem _ (List.mem_cons_of_mem _ (List.mem_cons_of_mem _ List.mem_cons_self)))) | exact (List.mem_cons_of_mem _ (List.mem_cons_of_mem _ (List.mem_cons_of_mem _ (List.mem_cons_of_mem _ (List.mem_cons_of_mem _ List.mem_cons_self))))) | exact (List.mem_cons_of_mem _ (List.mem_cons_of_mem _ (List.mem_cons_of_mem _ (List.mem_cons_of_mem _ (List.mem_cons_of_mem _ (List.mem_cons_of_mem _ List.mem_cons_self)))))) | exact (List.mem_cons_of_mem _ (List.mem_cons_of_mem _ (List.mem_cons_of_mem _ (List.mem_cons_of_mem _ (List.mem_cons_of_mem _ (List.mem_cons_of_mem _ (List.mem_cons_of_mem _ List.mem_cons_self))))))))) (by (first | (simp only [List.drop_succ_cons, List.drop_zero, List.drop_nil, List.take_succ_cons, List.take_zero, List.take_nil, Nat.zero_add, Nat.add_zero, Nat.reduceAdd]; done) | (simp only [List.drop_succ_cons, List.drop_zero, List.drop_nil, List.take_succ_cons, List.take_zero, List.take_nil, Nat.zero_add, Nat.add_zero, Nat.reduceAdd]; exact rfl) | exact rfl)) rfl) (Le.refl _))
theorem over_mk (x y : Rat) : mkRat (x.num * sv (decide (y.num < 0)) y.den) (x.den * y.num.natAbs) = x / y := by
  rw [Rat.div_def, ← inv_mk]
  conv => rhs; rw [← Rat.mkRat_self x]
  rw [Rat.mkRat_mul_mkRat]
theorem rover_pu (x y : Rat) (hx : ht x ≤ 3000000) (hy : ht y ≤ 3000000) (h0 : y.num ≠ 0) : Pu Tryz.prog 76 [rq x, rq y] (rq (x / y)) := by
  have n1 := ht_num x
  have n2 := ht_num y
  have d1 := ht_den x
  have d2 := ht_den y
  have e2 : il y.num = (dgs y.num.natAbs).length := rfl
  have m1 := il_mul x.num (sv (decide (y.num < 0)) y.den)
  have e1 : il (sv (decide (y.num < 0)) y.den) = (dgs y.den).length := by unfold il; rw [sv_abs]
  have m4 := dlen_mul x.den y.num.natAbs
  have mi := rmul_int x.num (sv (decide (y.num < 0)) y.den) (show il x.num ≤ 100000000 by omega) (show il _ ≤ 100000000 by omega)
  have fr := rfrac_pu (x.num * sv (decide (y.num < 0)) y.den) (x.den * y.num.natAbs) (by omega) (by omega) (Nat.mul_ne_zero x.den_nz (by omega))
  rw [over_mk] at fr
  refine Pu.intro Tryz.func76 rfl (by kernel_rfl) fun C => ?_
  repeat (first | (refine A1 ⟨?_⟩; intros) | (refine Wcx (rden_pu _) ?_) | (refine Wdcx (rden_pu _) ?_) | (refine Wcgx (rden_pu _) ?_) | (refine Wdcgx (rden_pu _) ?_) | (refine Wcx (rmake_pu _ _ (by omega)) ?_) | (refine Wdcx (rmake_pu _ _ (by omega)) ?_) | (refine Wcgx (rmake_pu _ _ (by omega)) ?_) | (refine Wdcgx (rmake_pu _ _ (by omega)) ?_) | (refine Wcx (mi) ?_) | (refine Wdcx (mi) ?_) | (refine Wcgx (mi) ?_) | (refine Wdcgx (mi) ?_) | (refine Wcx (rprod_pu _ _ (by omega) (by omega)) ?_) | (refine Wdcx (rprod_pu _ _ (by omega) (by omega)) ?_) | (refine Wcgx (rprod_pu _ _ (by omega) (by omega)) ?_) | (refine Wdcgx (rprod_pu _ _ (by omega) (by omega)) ?_) | (refine Wcx (fr) ?_) | (refine Wdcx (fr) ?_) | (refine Wcgx (fr) ?_) | (refine Wdcgx (fr) ?_))
  ((first | refine endR ?_ | refine endN ?_); refine end1 (RV.cellA rfl (by (first | exact List.mem_cons_self | exact (List.mem_cons_of_mem _ List.mem_cons_self) | exact (List.mem_cons_of_mem _ (List.mem_cons_of_mem _ List.mem_cons_self)) | exact (List.mem_cons_of_mem _ (List.mem_cons_of_mem _ (List.mem_cons_of_mem _ List.mem_cons_self))) | exact (List.mem_cons_of_mem _ (List.mem_cons_of_mem _ (List.mem_cons_of_mem _ (List.mem_cons_of_mem _ List.mem_cons_self)))) | exact (List.mem_cons_of_mem _ (List.mem_cons_of_mem _ (List.mem_cons_of_mem _ (List.mem_cons_of_mem _ (List.mem_cons_of_mem _ List.mem_cons_self))))) | exact (List.mem_cons_of_mem _ (List.mem_cons_of_mem _ (List.mem_cons_of_mem _ (List.mem_cons_of_mem _ (List.mem_cons_of_mem _ (List.mem_cons_of_mem _ List.mem_cons_self)))))) | exact (List.mem_cons_of_mem _ (List.mem_cons_of_mem _ (List.mem_cons_of_mem _ (List.mem_cons_of_mem _ (List.mem_cons_of_mem _ (List.mem_cons_of_mem _ (List.mem_cons_of_mem _ List.mem_cons_self))))))))) (by (first | (simp only [List.drop_succ_cons, List.drop_zero, List.drop_nil, List.take_succ_cons, List.take_zero, List.take_nil, Nat.zero_add, Nat.add_zero, Nat.reduceAdd]; done) | (simp only [List.drop_succ_cons, List.drop_zero, List.drop_nil, List.take_succ_cons, List.take_zero, List.take_nil, Nat.zero_add, Nat.add_zero, Nat.reduceAdd]; exact rfl) | exact rfl)) rfl) (Le.refl _))
end Go.Ab
