/- Texts laid one behind the other: RefD, Bits, FracA. -/
import Derived.Test.YtijejidpcfgioaaGreatDoorB04
import Derived.Test.YtijejidpcfgioaaGreatDoorB05
import Derived.Test.YtijejidpcfgioaaGreatDoorB03
/- The reference's integers. -/
namespace Go.Ab
open Go.Proofs
set_option linter.unusedSectionVars false
set_option linter.unusedVariables false
set_option linter.unusedSimpArgs false
variable [Base]
theorem rmake_pu (s : Bool) (n : Nat) (h : (dgs n).length ≤ 1000000000) : Pu Tryz.prog 142 [lit (.bool s), nat n] (int (sv s n)) := by
  rw [int_sv]
  by_cases h0 : n = 0
  · subst h0
    have hl : (dgs 0).length = 0 := by rw [dgs_zero]; rfl
    cases s <;> simp only [Nat.lt_irrefl, decide_false, Bool.and_false]
    all_goals
      refine Pu.intro Tryz.func142 rfl (by kernel_rfl) fun C => ?_
      repeat (refine A1 ⟨?_⟩; intros)
      ((first | refine endR ?_ | refine endN ?_); refine end1 (RV.cellA rfl (by (first | exact List.mem_cons_self | exact (List.mem_cons_of_mem _ List.mem_cons_self) | exact (List.mem_cons_of_mem _ (List.mem_cons_of_mem _ List.mem_cons_self)) | exact (List.mem_cons_of_mem _ (List.mem_cons_of_mem _ (List.mem_cons_of_mem _ List.mem_cons_self))) | exact (List.mem_cons_of_mem _ (List.mem_cons_of_mem _ (List.mem_cons_of_mem _ (List.mem_cons_of_mem _ List.mem_cons_self)))) | exact (List.mem_cons_of_mem _ (List.mem_cons_of_mem _ (List.mem_cons_of_mem _ (List.mem_cons_of_mem _ (List.mem_cons_of_mem _ List.mem_cons_self))))) | exact (List.mem_cons_of_mem _ (List.mem_cons_of_mem _ (List.mem_cons_of_mem _ (List.mem_cons_of_mem _ (List.mem_cons_of_mem _ (List.mem_cons_of_mem _ List.mem_cons_self)))))) | exact (List.mem_cons_of_mem _ (List.mem_cons_of_mem _ (List.mem_cons_of_mem _ (List.mem_cons_of_mem _ (List.mem_cons_of_mem _ (List.mem_cons_of_mem _ (List.mem_cons_of_mem _ List.mem_cons_self))))))))) (by (first | (simp only [List.drop_succ_cons, List.drop_zero, List.drop_nil, List.take_succ_cons, List.take_zero, List.take_nil, Nat.zero_add, Nat.add_zero, Nat.reduceAdd]; done) | (simp only [List.drop_succ_cons, List.drop_zero, List.drop_nil, List.take_succ_cons, List.take_zero, List.take_nil, Nat.zero_add, Nat.add_zero, Nat.reduceAdd]; exact rfl) | exact rfl)) rfl) (Le.refl _))
  · have hl := dgs_len_pos h0
    cases s <;> simp only [Bool.false_and, Bool.true_and, decide_eq_true (Nat.pos_of_ne_zero h0)]
    all_goals
      refine Pu.intro Tryz.func142 rfl (by kernel_rfl) fun C => ?_
      repeat (refine A1 ⟨?_⟩; intros)
      ((first | refine endR ?_ | refine endN ?_); refine end1 (RV.cellA rfl (by (first | exact List.mem_cons_self | exact (List.mem_cons_of_mem _ List.mem_cons_self) | exact (List.mem_cons_of_mem _ (List.mem_cons_of_mem _ List.mem_cons_self)) | exact (List.mem_cons_of_mem _ (List.mem_cons_of_mem _ (List.mem_cons_of_mem _ List.mem_cons_self))) | exact (List.mem_cons_of_mem _ (List.mem_cons_of_mem _ (List.mem_cons_of_mem _ (List.mem_cons_of_mem _ List.mem_cons_self)))) | exact (List.mem_cons_of_mem _ (List.mem_cons_of_mem _ (List.mem_cons_of_mem _ (List.mem_cons_of_mem _ (List.mem_cons_of_mem _ List.mem_cons_self))))) | exact (List.mem_cons_of_mem _ (List.mem_cons_of_mem _ (List.mem_cons_of_mem _ (List.mem_cons_of_mem _ (List.mem_cons_of_mem _ (List.mem_cons_of_mem _ List.mem_cons_self)))))) | exact (List.mem_cons_of_mem _ (List.mem_cons_of_mem _ (List.mem_cons_of_mem _ (List.mem_cons_of_mem _ (List.mem_cons_of_mem _ (List.mem_cons_of_mem _ (List.mem_cons_of_mem _ List.mem_cons_self))))))))) (by (first | (simp only [List.drop_succ_cons, List.drop_zero, List.drop_nil, List.take_succ_cons, List.take_zero, List.take_nil, Nat.zero_add, Nat.add_zero, Nat.reduceAdd]; done) | (simp only [List.drop_succ_cons, List.drop_zero, List.drop_nil, List.take_succ_cons, List.take_zero, List.take_nil, Nat.zero_add, Nat.add_zero, Nat.reduceAdd]; exact rfl) | exact rfl)) rfl) (Le.refl _))
theorem rsign_int (z : Int) (h : (dgs z.natAbs).length ≤ 1000000000) : Pu Tryz.prog 212 [int z] (lit (.int .i64 z.sign)) := by
  rcases Int.lt_trichotomy z 0 with h0 | h0 | h0
  · have hl := dgs_len_pos (n := z.natAbs) (by omega)
    rw [Int.sign_eq_neg_one_of_neg h0, int, decide_eq_true h0]
    refine Pu.intro Tryz.func212 rfl (by kernel_rfl) fun C => ?_
    repeat (refine A1 ⟨?_⟩; intros)
    ((first | refine endR ?_ | refine endN ?_); exact end1 (RV.tmp rfl) (Le.refl _))
  · subst h0
    have hl : (dgs (Int.natAbs 0)).length = 0 := by rw [show Int.natAbs 0 = 0 from rfl, dgs_zero]; rfl
    refine Pu.intro Tryz.func212 rfl (by kernel_rfl) fun C => ?_
    repeat (refine A1 ⟨?_⟩; intros)
    ((first | refine endR ?_ | refine endN ?_); exact end1 (RV.tmp rfl) (Le.refl _))
  · have hl := dgs_len_pos (n := z.natAbs) (by omega)
    rw [Int.sign_eq_one_of_pos h0, int, decide_eq_false (by omega)]
    refine Pu.intro Tryz.func212 rfl (by kernel_rfl) fun C => ?_
    repeat (refine A1 ⟨?_⟩; intros)
    ((first | refine endR ?_ | refine endN ?_); exact end1 (RV.tmp rfl) (Le.refl _))
theorem rminus_int (z : Int) (h : (dgs z.natAbs).length ≤ 1000000000) : Pu Tryz.prog 236 [int z] (int (-z)) := by
  have m := rmake_pu (!decide (z < 0)) z.natAbs h
  rw [show sv (!decide (z < 0)) z.natAbs = -z from by by_cases h : z < 0 <;> simp [sv, h] <;> omega] at m
  refine Pu.intro Tryz.func236 rfl (by kernel_rfl) fun C => ?_
  repeat (refine A1 ⟨?_⟩; intros)
  refine Wc m ?_
  repeat (refine A1 ⟨?_⟩; intros)
  ((first | refine endR ?_ | refine endN ?_); refine end1 (RV.cellA rfl (by (first | exact List.mem_cons_self | exact (List.mem_cons_of_mem _ List.mem_cons_self) | exact (List.mem_cons_of_mem _ (List.mem_cons_of_mem _ List.mem_cons_self)) | exact (List.mem_cons_of_mem _ (List.mem_cons_of_mem _ (List.mem_cons_of_mem _ List.mem_cons_self))) | exact (List.mem_cons_of_mem _ (List.mem_cons_of_mem _ (List.mem_cons_of_mem _ (List.mem_cons_of_mem _ List.mem_cons_self)))) | exact (List.mem_cons_of_mem _ (List.mem_cons_of_mem _ (List.mem_cons_of_mem _ (List.mem_cons_of_mem _ (List.mem_cons_of_mem _ List.mem_cons_self))))) | exact (List.mem_cons_of_mem _ (List.mem_cons_of_mem _ (List.mem_cons_of_mem _ (List.mem_cons_of_mem _ (List.mem_cons_of_mem _ (List.mem_cons_of_mem _ List.mem_cons_self)))))) | exact (List.mem_cons_of_mem _ (List.mem_cons_of_mem _ (List.mem_cons_of_mem _ (List.mem_cons_of_mem _ (List.mem_cons_of_mem _ (List.mem_cons_of_mem _ (List.mem_cons_of_mem _ List.mem_cons_self))))))))) (by (first | (simp only [List.drop_succ_cons, List.drop_zero, List.drop_nil, List.take_succ_cons, List.take_zero, List.take_nil, Nat.zero_add, Nat.add_zero, Nat.reduceAdd]; done) | (simp only [List.drop_succ_cons, List.drop_zero, List.drop_nil, List.take_succ_cons, List.take_zero, List.take_nil, Nat.zero_add, Nat.add_zero, Nat.reduceAdd]; exact rfl) | exact rfl)) rfl) (Le.refl _))
theorem rmul_int (a b : Int) (h1 : (dgs a.natAbs).length ≤ 100000000) (h2 : (dgs b.natAbs).length ≤ 100000000) : Pu Tryz.prog 141 [int a, int b] (int (a * b)) := by
  have hl := dlen_mul a.natAbs b.natAbs
  have m := rmake_pu (decide (a < 0) != decide (b < 0)) (a.natAbs * b.natAbs) (by omega)
  rw [sv_mul, sv_int, sv_int] at m
  refine Pu.intro Tryz.func141 rfl (by kernel_rfl) fun C => ?_
  repeat (refine A1 ⟨?_⟩; intros)
  refine Wdc (rprod_pu a.natAbs b.natAbs h1 h2) ?_
  repeat (refine A1 ⟨?_⟩; intros)
  refine Wdc m ?_
  repeat (refine A1 ⟨?_⟩; intros)
  ((first | refine endR ?_ | refine endN ?_); refine end1 (RV.cellA rfl (by (first | exact List.mem_cons_self | exact (List.mem_cons_of_mem _ List.mem_cons_self) | exact (List.mem_cons_of_mem _ (List.mem_cons_of_mem _ List.mem_cons_self)) | exact (List.mem_cons_of_mem _ (List.mem_cons_of_mem _ (List.mem_cons_of_mem _ List.mem_cons_self))) | exact (List.mem_cons_of_mem _ (List.mem_cons_of_mem _ (List.mem_cons_of_mem _ (List.mem_cons_of_mem _ List.mem_cons_self)))) | exact (List.mem_cons_of_mem _ (List.mem_cons_of_mem _ (List.mem_cons_of_mem _ (List.mem_cons_of_mem _ (List.mem_cons_of_mem _ List.mem_cons_self))))) | exact (List.mem_cons_of_mem _ (List.mem_cons_of_mem _ (List.mem_cons_of_mem _ (List.mem_cons_of_mem _ (List.mem_cons_of_mem _ (List.mem_cons_of_mem _ List.mem_cons_self)))))) | exact (List.mem_cons_of_mem _ (List.mem_cons_of_mem _ (List.mem_cons_of_mem _ (List.mem_cons_of_mem _ (List.mem_cons_of_mem _ (List.mem_cons_of_mem _ (List.mem_cons_of_mem _ List.mem_cons_self))))))))) (by (first | (simp only [List.drop_succ_cons, List.drop_zero, List.drop_nil, List.take_succ_cons, List.take_zero, List.take_nil, Nat.zero_add, Nat.add_zero, Nat.reduceAdd]; done) | (simp only [List.drop_succ_cons, List.drop_zero, List.drop_nil, List.take_succ_cons, List.take_zero, List.take_nil, Nat.zero_add, Nat.add_zero, Nat.reduceAdd]; exact rfl) | exact rfl)) rfl) (Le.refl _))
set_option maxHeartbeats 1000000 in
theorem radd_int (a b : Int) (h1 : (dgs a.natAbs).length ≤ 100000000) (h2 : (dgs b.natAbs).length ≤ 100000000) : Pu Tryz.prog 139 [int a, int b] (int (a + b)) := by
  have key : ∀ (s t : Bool) (x y : Nat), (dgs x).length ≤ 100000000 → (dgs y).length ≤ 100000000 → Pu Tryz.prog 139 [raw s (dgs x), raw t (dgs y)] (int (sv s x + sv t y)) := by
    intro s t x y hx hy
    have cm := rcmp_pu x y (by omega) (by omega)
    have cb := cmpN_bd x y
    by_cases hst : s = t
    · subst hst
      have hl := dlen_add x y
      rw [← sv_add]
      cases s
      all_goals
        refine Pu.intro Tryz.func139 rfl (by kernel_rfl) fun C => ?_
        repeat (refine A1 ⟨?_⟩; intros)
        refine Wdc (rsum_pu x y hx hy) ?_
        repeat (refine A1 ⟨?_⟩; intros)
        refine Wdc (rmake_pu _ (x + y) (by omega)) ?_
        repeat (refine A1 ⟨?_⟩; intros)
        ((first | refine endR ?_ | refine endN ?_); refine end1 (RV.cellA rfl (by (first | exact List.mem_cons_self | exact (List.mem_cons_of_mem _ List.mem_cons_self) | exact (List.mem_cons_of_mem _ (List.mem_cons_of_mem _ List.mem_cons_self)) | exact (List.mem_cons_of_mem _ (List.mem_cons_of_mem _ (List.mem_cons_of_mem _ List.mem_cons_self))) | exact (List.mem_cons_of_mem _ (List.mem_cons_of_mem _ (List.mem_cons_of_mem _ (List.mem_cons_of_mem _ List.mem_cons_self)))) | exact (List.mem_cons_of_mem _ (List.mem_cons_of_mem _ (List.mem_cons_of_mem _ (List.mem_cons_of_mem _ (List.mem_cons_of_mem _ List.mem_cons_self))))) | exact (List.mem_cons_of_mem _ (List.mem_cons_of_mem _ (List.mem_cons_of_mem _ (List.mem_cons_of_mem _ (List.mem_cons_of_mem _ (List.mem_cons_of_mem _ List.mem_cons_self)))))) | exact (List.mem_cons_of_mem _ (List.mem_cons_of_mem _ (List.mem_cons_of_mem _ (List.mem_cons_of_mem _ (List.mem_cons_of_mem _ (List.mem_cons_of_mem _ (List.mem_cons_of_mem _ List.mem_cons_self))))))))) (by (first | (simp only [List.drop_succ_cons, List.drop_zero, List.drop_nil, List.take_succ_cons, List.take_zero, List.take_nil, Nat.zero_add, Nat.add_zero, Nat.reduceAdd]; done) | (simp only [List.drop_succ_cons, List.drop_zero, List.drop_nil, List.take_succ_cons, List.take_zero, List.take_nil, Nat.zero_add, Nat.add_zero, Nat.reduceAdd]; exact rfl) | exact rfl)) rfl) (Le.refl _))
    · by_cases hlt : x < y
      · have hl := len_mono (Nat.sub_le y x)
        rw [cmpN_lt hlt] at cm
        clear cb
        rw [Int.add_comm, ← sv_sub t s (Ne.symm hst) (by omega)]
        cases s <;> cases t <;> first | exact absurd rfl hst | skip
        all_goals
          refine Pu.intro Tryz.func139 rfl (by kernel_rfl) fun C => ?_
          repeat (refine A1 ⟨?_⟩; intros)
          refine Wc cm ?_
          repeat (refine A1 ⟨?_⟩; intros)
          refine Wdc (rless_pu y x (by omega) hy) ?_
          repeat (refine A1 ⟨?_⟩; intros)
          refine Wdc (rmake_pu _ (y - x) (by omega)) ?_
          repeat (refine A1 ⟨?_⟩; intros)
          ((first | refine endR ?_ | refine endN ?_); refine end1 (RV.cellA rfl (by (first | exact List.mem_cons_self | exact (List.mem_cons_of_mem _ List.mem_cons_self) | exact (List.mem_cons_of_mem _ (List.mem_cons_of_mem _ List.mem_cons_self)) | exact (List.mem_cons_of_mem _ (List.mem_cons_of_mem _ (List.mem_cons_of_mem _ List.mem_cons_self))) | exact (List.mem_cons_of_mem _ (List.mem_cons_of_mem _ (List.mem_cons_of_mem _ (List.mem_cons_of_mem _ List.mem_cons_self)))) | exact (List.mem_cons_of_mem _ (List.mem_cons_of_mem _ (List.mem_cons_of_mem _ (List.mem_cons_of_mem _ (List.mem_cons_of_mem _ List.mem_cons_self))))) | exact (List.mem_cons_of_mem _ (List.mem_cons_of_mem _ (List.mem_cons_of_mem _ (List.mem_cons_of_mem _ (List.mem_cons_of_mem _ (List.mem_cons_of_mem _ List.mem_cons_self)))))) | exact (List.mem_cons_of_mem _ (List.mem_cons_of_mem _ (List.mem_cons_of_mem _ (List.mem_cons_of_mem _ (List.mem_cons_of_mem _ (List.mem_cons_of_mem _ (List.mem_cons_of_mem _ List.mem_cons_self))))))))) (by (first | (simp only [List.drop_succ_cons, List.drop_zero, List.drop_nil, List.take_succ_cons, List.take_zero, List.take_nil, Nat.zero_add, Nat.add_zero, Nat.reduceAdd]; done) | (simp only [List.drop_succ_cons, List.drop_zero, List.drop_nil, List.take_succ_cons, List.take_zero, List.take_nil, Nat.zero_add, Nat.add_zero, Nat.reduceAdd]; exact rfl) | exact rfl)) rfl) (Le.refl _))
      · have hl := len_mono (Nat.sub_le x y)
        have hc : 0 ≤ cmpN x y := by omega
        generalize cmpN x y = c at *
        have hc2 : c ≤ 1 := cb.2.1
        clear cb
        rw [← sv_sub s t hst (by omega)]
        cases s <;> cases t <;> first | exact absurd rfl hst | skip
        all_goals
          refine Pu.intro Tryz.func139 rfl (by kernel_rfl) fun C => ?_
          repeat (refine A1 ⟨?_⟩; intros)
          refine Wc cm ?_
          repeat (refine A1 ⟨?_⟩; intros)
          refine Wdc (rless_pu x y (by omega) hx) ?_
          repeat (refine A1 ⟨?_⟩; intros)
          refine Wdc (rmake_pu _ (x - y) (by omega)) ?_
          repeat (refine A1 ⟨?_⟩; intros)
          ((first | refine endR ?_ | refine endN ?_); refine end1 (RV.cellA rfl (by (first | exact List.mem_cons_self | exact (List.mem_cons_of_mem _ List.mem_cons_self) | exact (List.mem_cons_of_mem _ (List.mem_cons_of_mem _ List.mem_cons_self)) | exact (List.mem_cons_of_mem _ (List.mem_cons_of_mem _ (List.mem_cons_of_mem _ List.mem_cons_self))) | exact (List.mem_cons_of_mem _ (List.mem_cons_of_mem _ (List.mem_cons_of_mem _ (List.mem_cons_of_mem _ List.mem_cons_self)))) | exact (List.mem_cons_of_mem _ (List.mem_cons_of_mem _ (List.mem_cons_of_mem _ (List.mem_cons_of_mem _ (List.mem_cons_of_mem _ List.mem_cons_self))))) | exact (List.mem_cons_of_mem _ (List.mem_cons_of_mem _ (List.mem_cons_of_mem _ (List.mem_cons_of_mem _ (List.mem_cons_of_mem _ (List.mem_cons_of_mem _ List.mem_cons_self)))))) | exact (List.mem_cons_of_mem _ (List.mem_cons_of_mem _ (List.mem_cons_of_mem _ (List.mem_cons_of_mem _ (List.mem_cons_of_mem _ (List.mem_cons_of_mem _ (List.mem_cons_of_mem _ List.mem_cons_self))))))))) (by (first | (simp only [List.drop_succ_cons, List.drop_zero, List.drop_nil, List.take_succ_cons, List.take_zero, List.take_nil, Nat.zero_add, Nat.add_zero, Nat.reduceAdd]; done) | (simp only [List.drop_succ_cons, List.drop_zero, List.drop_nil, List.take_succ_cons, List.take_zero, List.take_nil, Nat.zero_add, Nat.add_zero, Nat.reduceAdd]; exact rfl) | exact rfl)) rfl) (Le.refl _))
  have k := key (decide (a < 0)) (decide (b < 0)) a.natAbs b.natAbs h1 h2
  rwa [sv_int, sv_int] at k
theorem rint_pu (z : Int) (h0 : -9223372036854775808 ≤ z) (h1 : z ≤ 9223372036854775807) : Pu Tryz.prog 144 [lit (.int .i64 z)] (int z) := by
  have hl := len_le (n := z.natAbs) (k := 2) (by omega)
  have m1 := rmake_pu true z.natAbs (by omega)
  have m2 := rmake_pu false z.natAbs (by omega)
  by_cases h : z < 0
  · rw [show sv true z.natAbs = z from by simp only [sv, cond_true]; omega] at m1
    refine Pu.intro Tryz.func144 rfl (by kernel_rfl) fun C => ?_
    repeat (refine A1 ⟨?_⟩; intros)
    rw [show -(z % 18446744073709551616) % 18446744073709551616 = (z.natAbs : Int) from by omega]
    refine Wc (word_pu z.natAbs (by omega)) ?_
    repeat (refine A1 ⟨?_⟩; intros)
    refine Wc m1 ?_
    repeat (refine A1 ⟨?_⟩; intros)
    ((first | refine endR ?_ | refine endN ?_); refine end1 (RV.cellA rfl (by (first | exact List.mem_cons_self | exact (List.mem_cons_of_mem _ List.mem_cons_self) | exact (List.mem_cons_of_mem _ (List.mem_cons_of_mem _ List.mem_cons_self)) | exact (List.mem_cons_of_mem _ (List.mem_cons_of_mem _ (List.mem_cons_of_mem _ List.mem_cons_self))) | exact (List.mem_cons_of_mem _ (List.mem_cons_of_mem _ (List.mem_cons_of_mem _ (List.mem_cons_of_mem _ List.mem_cons_self)))) | exact (List.mem_cons_of_mem _ (List.mem_cons_of_mem _ (List.mem_cons_of_mem _ (List.mem_cons_of_mem _ (List.mem_cons_of_mem _ List.mem_cons_self))))) | exact (List.mem_cons_of_mem _ (List.mem_cons_of_mem _ (List.mem_cons_of_mem _ (List.mem_cons_of_mem _ (List.mem_cons_of_mem _ (List.mem_cons_of_mem _ List.mem_cons_self)))))) | exact (List.mem_cons_of_mem _ (List.mem_cons_of_mem _ (List.mem_cons_of_mem _ (List.mem_cons_of_mem _ (List.mem_cons_of_mem _ (List.mem_cons_of_mem _ (List.mem_cons_of_mem _ List.mem_cons_self))))))))) (by (first | (simp only [List.drop_succ_cons, List.drop_zero, List.drop_nil, List.take_succ_cons, List.take_zero, List.take_nil, Nat.zero_add, Nat.add_zero, Nat.reduceAdd]; done) | (simp only [List.drop_succ_cons, List.drop_zero, List.drop_nil, List.take_succ_cons, List.take_zero, List.take_nil, Nat.zero_add, Nat.add_zero, Nat.reduceAdd]; exact rfl) | exact rfl)) rfl) (Le.refl _))
  · rw [show sv false z.natAbs = z from by simp only [sv, cond_false]; omega] at m2
    have wp := word_pu z.natAbs (by omega)
    rw [show (z.natAbs : Int) = z from by omega] at wp
    refine Pu.intro Tryz.func144 rfl (by kernel_rfl) fun C => ?_
    repeat (refine A1 ⟨?_⟩; intros)
    refine Wc wp ?_
    repeat (refine A1 ⟨?_⟩; intros)
    refine Wc m2 ?_
    repeat (refine A1 ⟨?_⟩; intros)
    ((first | refine endR ?_ | refine endN ?_); refine end1 (RV.cellA rfl (by (first | exact List.mem_cons_self | exact (List.mem_cons_of_mem _ List.mem_cons_self) | exact (List.mem_cons_of_mem _ (List.mem_cons_of_mem _ List.mem_cons_self)) | exact (List.mem_cons_of_mem _ (List.mem_cons_of_mem _ (List.mem_cons_of_mem _ List.mem_cons_self))) | exact (List.mem_cons_of_mem _ (List.mem_cons_of_mem _ (List.mem_cons_of_mem _ (List.mem_cons_of_mem _ List.mem_cons_self)))) | exact (List.mem_cons_of_mem _ (List.mem_cons_of_mem _ (List.mem_cons_of_mem _ (List.mem_cons_of_mem _ (List.mem_cons_of_mem _ List.mem_cons_self))))) | exact (List.mem_cons_of_mem _ (List.mem_cons_of_mem _ (List.mem_cons_of_mem _ (List.mem_cons_of_mem _ (List.mem_cons_of_mem _ (List.mem_cons_of_mem _ List.mem_cons_self)))))) | exact (List.mem_cons_of_mem _ (List.mem_cons_of_mem _ (List.mem_cons_of_mem _ (List.mem_cons_of_mem _ (List.mem_cons_of_mem _ (List.mem_cons_of_mem _ (List.mem_cons_of_mem _ List.mem_cons_self))))))))) (by (first | (simp only [List.drop_succ_cons, List.drop_zero, List.drop_nil, List.take_succ_cons, List.take_zero, List.take_nil, Nat.zero_add, Nat.add_zero, Nat.reduceAdd]; done) | (simp only [List.drop_succ_cons, List.drop_zero, List.drop_nil, List.take_succ_cons, List.take_zero, List.take_nil, Nat.zero_add, Nat.add_zero, Nat.reduceAdd]; exact rfl) | exact rfl)) rfl) (Le.refl _))
end Go.Ab
/- Package math/bits: the product of two words. -/
namespace Go.Ab
open Go.Proofs
set_option linter.unusedSectionVars false
set_option linter.unusedVariables false
set_option linter.unusedSimpArgs false
variable [Base]
end Go.Ab
/- Package frac: rationals of short numbers. -/
namespace Go.Ab
open Go.Proofs
set_option linter.unusedSectionVars false
set_option linter.unusedVariables false
set_option linter.unusedSimpArgs false
variable [Base]
/-- numbers that are kept as two words -/
def small (x : Rat) : Prop := x.num.natAbs < 4611686018427387904 ∧ x.den < 4611686018427387904
instance (x : Rat) : Decidable (small x) := by unfold small; infer_instance
def r0 (x : Rat) : Int := if small x then x.num else 0
def r1 (x : Rat) : Int := if small x then x.den - 1 else 0
def r2 (x : Rat) : SV := if small x then lit (.pointer none) else pt [lit (.bool (decide (x.num < 0))), nat x.num.natAbs, nat x.den]
instance (x : Rat) : CO (r2 x) [r2 x] := by unfold r2; split <;> infer_instance
abbrev fr (x : Rat) : SV := ag [lit (.int .i64 (r0 x)), lit (.int .i64 (r1 x)), r2 x]
theorem r0_s {x : Rat} (h : small x) : r0 x = x.num := if_pos h
theorem r1_s {x : Rat} (h : small x) : r1 x = x.den - 1 := if_pos h
theorem r2_s {x : Rat} (h : small x) : r2 x = lit (.pointer none) := if_pos h
theorem r0_b {x : Rat} (h : ¬small x) : r0 x = 0 := if_neg h
theorem r1_b {x : Rat} (h : ¬small x) : r1 x = 0 := if_neg h
theorem r2_b {x : Rat} (h : ¬small x) : r2 x = pt [lit (.bool (decide (x.num < 0))), nat x.num.natAbs, nat x.den] := if_neg h
theorem fr_s {x : Rat} (h : small x) : fr x = ag [lit (.int .i64 x.num), lit (.int .i64 (x.den - 1)), lit (.pointer none)] := by rw [fr, r0_s h, r1_s h, r2_s h]
theorem fr_b {x : Rat} (h : ¬small x) : fr x = ag [lit (.int .i64 0), lit (.int .i64 0), pt [lit (.bool (decide (x.num < 0))), nat x.num.natAbs, nat x.den]] := by rw [fr, r0_b h, r1_b h, r2_b h]
theorem mk_num (a : Int) {d : Nat} (h : d ≠ 0) : (mkRat a d).num = a / (Int.gcd a d : Nat) ∧ (mkRat a d).den = d / Int.gcd a d := by
  rw [Rat.mkRat_def, dif_neg h, Rat.normalize_eq]
  exact ⟨rfl, rfl⟩
end Go.Ab
