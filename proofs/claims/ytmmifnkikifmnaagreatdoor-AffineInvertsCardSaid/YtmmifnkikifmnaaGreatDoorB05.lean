/- Texts laid one behind the other: RefD, Cap, NatH, NatI, RefG. -/
import Derived.Test.YtmmifnkikifmnaaGreatDoorB04
import Derived.Test.YtmmifnkikifmnaaGreatDoorB03
/- The reference's integers. -/
namespace Go.Ab
open Go.Proofs
set_option linter.unusedSectionVars false
set_option linter.unusedVariables false
set_option linter.unusedSimpArgs false
variable [Base]
theorem rmake_pu (s : Bool) (n : Nat) (h : (dgs n).length ≤ 1000000000) : Pu Tryz.prog 126 [lit (.bool s), nat n] (int (sv s n)) := by
  rw [int_sv]
  by_cases h0 : n = 0
  · subst h0
    have hl : (dgs 0).length = 0 := by rw [dgs_zero]; rfl
    cases s <;> simp only [Nat.lt_irrefl, decide_false, Bool.and_false]
    all_goals
      refine Pu.intro Tryz.func126 rfl (by kernel_rfl) fun C => ?_
      repeat (refine A1 ⟨?_⟩; intros)
      ((first | refine endR ?_ | refine endN ?_); refine end1 (RV.cellA rfl (by (first | exact List.mem_cons_self | exact (List.mem_cons_of_mem _ List.mem_cons_self) | exact (List.mem_cons_of_mem _ (List.mem_cons_of_mem _ List.mem_cons_self)) | exact (List.mem_cons_of_mem _ (List.mem_cons_of_mem _ (List.mem_cons_of_mem _ List.mem_cons_self))) | exact (List.mem_cons_of_mem _ (List.mem_cons_of_mem _ (List.mem_cons_of_mem _ (List.mem_cons_of_mem _ List.mem_cons_self)))) | exact (List.mem_cons_of_mem _ (List.mem_cons_of_mem _ (List.mem_cons_of_mem _ (List.mem_cons_of_mem _ (List.mem_cons_of_mem _ List.mem_cons_self))))) | exact (List.mem_cons_of_mem _ (List.mem_cons_of_mem _ (List.mem_cons_of_mem _ (List.mem_cons_of_mem _ (List.mem_cons_of_mem _ (List.mem_cons_of_mem _ List.mem_cons_self)))))) | exact (List.mem_cons_of_mem _ (List.mem_cons_of_mem _ (List.mem_cons_of_mem _ (List.mem_cons_of_mem _ (List.mem_cons_of_mem _ (List.mem_cons_of_mem _ (List.mem_cons_of_mem _ List.mem_cons_self))))))))) (by (first | (simp only [List.drop_succ_cons, List.drop_zero, List.drop_nil, List.take_succ_cons, List.take_zero, List.take_nil, Nat.zero_add, Nat.add_zero, Nat.reduceAdd]; done) | (simp only [List.drop_succ_cons, List.drop_zero, List.drop_nil, List.take_succ_cons, List.take_zero, List.take_nil, Nat.zero_add, Nat.add_zero, Nat.reduceAdd]; exact rfl) | exact rfl)) rfl) (Le.refl _))
  · have hl := dgs_len_pos h0
    cases s <;> simp only [Bool.false_and, Bool.true_and, decide_eq_true (Nat.pos_of_ne_zero h0)]
    all_goals
      refine Pu.intro Tryz.func126 rfl (by kernel_rfl) fun C => ?_
      repeat (refine A1 ⟨?_⟩; intros)
      ((first | refine endR ?_ | refine endN ?_); refine end1 (RV.cellA rfl (by (first | exact List.mem_cons_self | exact (List.mem_cons_of_mem _ List.mem_cons_self) | exact (List.mem_cons_of_mem _ (List.mem_cons_of_mem _ List.mem_cons_self)) | exact (List.mem_cons_of_mem _ (List.mem_cons_of_mem _ (List.mem_cons_of_mem _ List.mem_cons_self))) | exact (List.mem_cons_of_mem _ (List.mem_cons_of_mem _ (List.mem_cons_of_mem _ (List.mem_cons_of_mem _ List.mem_cons_self)))) | exact (List.mem_cons_of_mem _ (List.mem_cons_of_mem _ (List.mem_cons_of_mem _ (List.mem_cons_of_mem _ (List.mem_cons_of_mem _ List.mem_cons_self))))) | exact (List.mem_cons_of_mem _ (List.mem_cons_of_mem _ (List.mem_cons_of_mem _ (List.mem_cons_of_mem _ (List.mem_cons_of_mem _ (List.mem_cons_of_mem _ List.mem_cons_self)))))) | exact (List.mem_cons_of_mem _ (List.mem_cons_of_mem _ (List.mem_cons_of_mem _ (List.mem_cons_of_mem _ (List.mem_cons_of_mem _ (List.mem_cons_of_mem _ (List.mem_cons_of_mem _ List.mem_cons_self))))))))) (by (first | (simp only [List.drop_succ_cons, List.drop_zero, List.drop_nil, List.take_succ_cons, List.take_zero, List.take_nil, Nat.zero_add, Nat.add_zero, Nat.reduceAdd]; done) | (simp only [List.drop_succ_cons, List.drop_zero, List.drop_nil, List.take_succ_cons, List.take_zero, List.take_nil, Nat.zero_add, Nat.add_zero, Nat.reduceAdd]; exact rfl) | exact rfl)) rfl) (Le.refl _))
theorem rsign_int (z : Int) (h : (dgs z.natAbs).length ≤ 1000000000) : Pu Tryz.prog 67 [int z] (lit (.int .i64 z.sign)) := by
  rcases Int.lt_trichotomy z 0 with h0 | h0 | h0
  · have hl := dgs_len_pos (n := z.natAbs) (by omega)
    rw [Int.sign_eq_neg_one_of_neg h0, int, decide_eq_true h0]
    refine Pu.intro Tryz.func67 rfl (by kernel_rfl) fun C => ?_
    repeat (refine A1 ⟨?_⟩; intros)
    ((first | refine endR ?_ | refine endN ?_); exact end1 (RV.tmp rfl) (Le.refl _))
  · subst h0
    have hl : (dgs (Int.natAbs 0)).length = 0 := by rw [show Int.natAbs 0 = 0 from rfl, dgs_zero]; rfl
    refine Pu.intro Tryz.func67 rfl (by kernel_rfl) fun C => ?_
    repeat (refine A1 ⟨?_⟩; intros)
    ((first | refine endR ?_ | refine endN ?_); exact end1 (RV.tmp rfl) (Le.refl _))
  · have hl := dgs_len_pos (n := z.natAbs) (by omega)
    rw [Int.sign_eq_one_of_pos h0, int, decide_eq_false (by omega)]
    refine Pu.intro Tryz.func67 rfl (by kernel_rfl) fun C => ?_
    repeat (refine A1 ⟨?_⟩; intros)
    ((first | refine endR ?_ | refine endN ?_); exact end1 (RV.tmp rfl) (Le.refl _))
theorem rminus_int (z : Int) (h : (dgs z.natAbs).length ≤ 1000000000) : Pu Tryz.prog 158 [int z] (int (-z)) := by
  have m := rmake_pu (!decide (z < 0)) z.natAbs h
  rw [show sv (!decide (z < 0)) z.natAbs = -z from by by_cases h : z < 0 <;> simp [sv, h] <;> omega] at m
  refine Pu.intro Tryz.func158 rfl (by kernel_rfl) fun C => ?_
  repeat (refine A1 ⟨?_⟩; intros)
  refine Wc m ?_
  repeat (refine A1 ⟨?_⟩; intros)
  ((first | refine endR ?_ | refine endN ?_); refine end1 (RV.cellA rfl (by (first | exact List.mem_cons_self | exact (List.mem_cons_of_mem _ List.mem_cons_self) | exact (List.mem_cons_of_mem _ (List.mem_cons_of_mem _ List.mem_cons_self)) | exact (List.mem_cons_of_mem _ (List.mem_cons_of_mem _ (List.mem_cons_of_mem _ List.mem_cons_self))) | exact (List.mem_cons_of_mem _ (List.mem_cons_of_mem _ (List.mem_cons_of_mem _ (List.mem_cons_of_mem _ List.mem_cons_self)))) | exact (List.mem_cons_of_mem _ (List.mem_cons_of_mem _ (List.mem_cons_of_mem _ (List.mem_cons_of_mem _ (List.mem_cons_of_mem _ List.mem_cons_self))))) | exact (List.mem_cons_of_mem _ (List.mem_cons_of_mem _ (List.mem_cons_of_mem _ (List.mem_cons_of_mem _ (List.mem_cons_of_mem _ (List.mem_cons_of_mem _ List.mem_cons_self)))))) | exact (List.mem_cons_of_mem _ (List.mem_cons_of_mem _ (List.mem_cons_of_mem _ (List.mem_cons_of_mem _ (List.mem_cons_of_mem _ (List.mem_cons_of_mem _ (List.mem_cons_of_mem _ List.mem_cons_self))))))))) (by (first | (simp only [List.drop_succ_cons, List.drop_zero, List.drop_nil, List.take_succ_cons, List.take_zero, List.take_nil, Nat.zero_add, Nat.add_zero, Nat.reduceAdd]; done) | (simp only [List.drop_succ_cons, List.drop_zero, List.drop_nil, List.take_succ_cons, List.take_zero, List.take_nil, Nat.zero_add, Nat.add_zero, Nat.reduceAdd]; exact rfl) | exact rfl)) rfl) (Le.refl _))
theorem rmul_int (a b : Int) (h1 : (dgs a.natAbs).length ≤ 100000000) (h2 : (dgs b.natAbs).length ≤ 100000000) : Pu Tryz.prog 153 [int a, int b] (int (a * b)) := by
  have hl := dlen_mul a.natAbs b.natAbs
  have m := rmake_pu (decide (a < 0) != decide (b < 0)) (a.natAbs * b.natAbs) (by omega)
  rw [sv_mul, sv_int, sv_int] at m
  refine Pu.intro Tryz.func153 rfl (by kernel_rfl) fun C => ?_
  repeat (refine A1 ⟨?_⟩; intros)
  refine Wdc (rprod_pu a.natAbs b.natAbs h1 h2) ?_
  repeat (refine A1 ⟨?_⟩; intros)
  refine Wdc m ?_
  repeat (refine A1 ⟨?_⟩; intros)
  ((first | refine endR ?_ | refine endN ?_); refine end1 (RV.cellA rfl (by (first | exact List.mem_cons_self | exact (List.mem_cons_of_mem _ List.mem_cons_self) | exact (List.mem_cons_of_mem _ (List.mem_cons_of_mem _ List.mem_cons_self)) | exact (List.mem_cons_of_mem _ (List.mem_cons_of_mem _ (List.mem_cons_of_mem _ List.mem_cons_self))) | exact (List.mem_cons_of_mem _ (List.mem_cons_of_mem _ (List.mem_cons_of_mem _ (List.mem_cons_of_mem _ List.mem_cons_self)))) | exact (List.mem_cons_of_mem _ (List.mem_cons_of_mem _ (List.mem_cons_of_mem _ (List.mem_cons_of_mem _ (List.mem_cons_of_mem _ List.mem_cons_self))))) | exact (List.mem_cons_of_mem _ (List.mem_cons_of_mem _ (List.mem_cons_of_mem _ (List.mem_cons_of_mem _ (List.mem_cons_of_mem _ (List.mem_cons_of_mem _ List.mem_cons_self)))))) | exact (List.mem_cons_of_mem _ (List.mem_cons_of_mem _ (List.mem_cons_of_mem _ (List.mem_cons_of_mem _ (List.mem_cons_of_mem _ (List.mem_cons_of_mem _ (List.mem_cons_of_mem _ List.mem_cons_self))))))))) (by (first | (simp only [List.drop_succ_cons, List.drop_zero, List.drop_nil, List.take_succ_cons, List.take_zero, List.take_nil, Nat.zero_add, Nat.add_zero, Nat.reduceAdd]; done) | (simp only [List.drop_succ_cons, List.drop_zero, List.drop_nil, List.take_succ_cons, List.take_zero, List.take_nil, Nat.zero_add, Nat.add_zero, Nat.reduceAdd]; exact rfl) | exact rfl)) rfl) (Le.refl _))
set_option maxHeartbeats 1000000 in
theorem radd_int (a b : Int) (h1 : (dgs a.natAbs).length ≤ 100000000) (h2 : (dgs b.natAbs).length ≤ 100000000) : Pu Tryz.prog 193 [int a, int b] (int (a + b)) := by
  have key : ∀ (s t : Bool) (x y : Nat), (dgs x).length ≤ 100000000 → (dgs y).length ≤ 100000000 → Pu Tryz.prog 193 [raw s (dgs x), raw t (dgs y)] (int (sv s x + sv t y)) := by
    intro s t x y hx hy
    have cm := rcmp_pu x y (by omega) (by omega)
    have cb := cmpN_bd x y
    by_cases hst : s = t
    · subst hst
      have hl := dlen_add x y
      rw [← sv_add]
      cases s
      all_goals
        refine Pu.intro Tryz.func193 rfl (by kernel_rfl) fun C => ?_
        repeat (refine A1 ⟨?_⟩; intros)
        refine Wdc (rsum_pu x y hx hy) ?_
        repeat (refine A1 ⟨?_⟩; intros)
        refine Wdc (rmake_pu _ (x + y) (by omega)) ?_
        repeat (refine A1 ⟨?_⟩; intros)
        ((first | refine endR ?_ | refine endN ?_); refine end1 (RV.cellA rfl (by (first | exact List.mem_cons_self | exact (List.mem_cons_of_mem _ List.mem_cons_self) | exact (List.mem_cons_of_mem _ (List.mem_cons_of_mem _ List.mem_cons_self)) | exact (List.mem_cons_of_mem _ (List.mem_cons_of_mem _ (List.mem_cons_of_mem _ List.mem_cons_self))) | exact (List.mem_cons_of_mem _ (List.mem_cons_of_mem _ (List.mem_cons_of_mem _ (List.mem_cons_of_mem _ List.mem_cons_self)))) | exact (List.mem_cons_of_mem _ (List.mem_cons_of_mem _ (List.mem_cons_of_mem _ (List.mem_cons_of_mem _ (List.mem_cons_of_mem _ List.mem_cons_self))))) | exact (List.mem_cons_of_mem _ (List.mem_cons_of_mem _ (List.mem_cons_of_mem _ (List.mem_cons_of_mem _ (List.mem_cons_of_mem _ (List.mem_cons_of_mem _ List.mem_cons_self)))))) | exact (List.mem_cons_of_mem _ (List.mem_cons_of_mem _ (List.mem_cons_of_mem _ (List.mem_cons_of_mem _ (List.mem_cons_of_mem _ (List.mem_cons_of_mem _ (List.mem_cons_of_mem _ List.mem_cons_self))))))))) (by (first | (simp only [List.drop_succ_cons, List.drop_zero, List.drop_nil, List.take_succ_cons, List.take_zero, List.take_nil, Nat.zero_add, Nat.add_zero, Nat.reduceAdd]; done) | (simp only [List.drop_succ_cons, List.drop_zero, List.drop_nil, List.take_succ_cons, List.take_zero, List.take_nil, Nat.zero_add, Nat.add_zero, Nat.reduceAdd]; exact rfl) | exact rfl)) rfl) (Le.refl _))
    · by_cases hlt : x < y
      · have hl := len_mono (Nat.sub_le y x)
        rw [cmpN_lt hlt] at cm
        clear cb
        rw [Int.add_comm, ← sv_sub t s (Ne.symm hst) (by omega)]
        cases s <;> cases t <;> first | exact absurd rfl hst | skip
        all_goals
          refine Pu.intro Tryz.func193 rfl (by kernel_rfl) fun C => ?_
          repeat (refine A1 ⟨?_⟩; intros)
          refine Wc cm ?_
          repeat (refine A1 ⟨?_⟩; intros)
          refine Wdc (rless_pu y x (by omega) hy) ?_
          repeat (refine A1 ⟨?_⟩; intros)
          refine Wdc (rmake_pu _ (y - x) (by omega)) ?_
          repeat (refine A1 ⟨?_⟩; intros)
          ((first | refine endR ?_ | refine endN ?_); refine end1 (RV.cellA rfl (by (first | exact List.mem_cons_self | exact (List.mem_cons_of_mem _ List.mem_cons_self) | exact (List.mem_cons_of_mem _ (List.mem_cons_of_mem _ List.mem_cons_self)) | exact (List.mem_cons_of_mem _ (List.mem_cons_of_mem _ (List.mem_cons_of_mem _ List.mem_cons_self))) | exact (List.mem_cons_of_mem _ (List.mem_cons_of_mem _ (List.mem_cons_of_mem _ (List.mem_cons_of_mem _ List.mem_cons_self)))) | exact (List.mem_cons_of_mem _ (List.mem_cons_of_mem _ (List.mem_cons_of_mem _ (List.mem_cons_of_mem _ (List.mem_cons_of_mem _ List.mem_cons_self))))) | exact (List.mem_cons_of_mem _ (List.mem_cons_of_mem _ (List.mem_cons_of_mem _ (List.mem_cons_of_mem _ (List.mem_cons_of_mem _ (List.mem_cons_of_mem _ List.mem_cons_self)))))) | exact (List.mem_cons_of_mem _ (List.mem_cons_of_mem _ (List.mem_cons_of_mem _ (List.mem_cons_of_mem _ (List.mem_cons_of_mem _ (List.mem_cons_of_mem _ (List.mem_cons_of_mem _ List.mem_cons_self))))))))) (by (first | (simp only [List.drop_succ_cons, List.drop_zero, List.drop_nil, List.take_succ_cons, List.take_zero, List.take_nil, Nat.zero_add, Nat.add_zero, Nat.reduceAdd]; done) | (simp only [List.drop_succ_cons, List.drop_zero, List.drop_nil, List.take_succ_cons, List.take_zero, List.take_nil, Nat.zero_add, Nat.add_zero, Nat.reduceAdd]; exact rfl) | exact rfl)) rfl) (Le.refl _))
      · have hl := len_mono (Nat.sub_le x y)
        have hc : 0 ≤ cmpN x y := by omega
        generalize cmpN x y = c at *
        have hc2 : c ≤ 1 := cb.2.1
        clear cb
        rw [← sv_sub s t hst (by omega)]
        cases s <;> cases t <;> first | exact absurd rfl hst | skip
        all_goals
          refine Pu.intro Tryz.func193 rfl (by kernel_rfl) fun C => ?_
          repeat (refine A1 ⟨?_⟩; intros)
          refine Wc cm ?_
          repeat (refine A1 ⟨?_⟩; intros)
          refine Wdc (rless_pu x y (by omega) hx) ?_
          repeat (refine A1 ⟨?_⟩; intros)
          refine Wdc (rmake_pu _ (x - y) (by omega)) ?_
          repeat (refine A1 ⟨?_⟩; intros)
          ((first | refine endR ?_ | refine endN ?_); refine end1 (RV.cellA rfl (by (first | exact List.mem_cons_self | exact (List.mem_cons_of_mem _ List.mem_cons_self) | exact (List.mem_cons_of_mem _ (List.mem_cons_of_mem _ List.mem_cons_self)) | exact (List.mem_cons_of_mem _ (List.mem_cons_of_mem _ (List.mem_cons_of_mem _ List.mem_cons_self))) | exact (List.mem_cons_of_mem _ (List.mem_cons_of_mem _ (List.mem_cons_of_mem _ (List.mem_cons_of_mem _ List.mem_cons_self)))) | exact (List.mem_cons_of_mem _ (List.mem_cons_of_mem _ (List.mem_cons_of_mem _ (List.mem_cons_of_mem _ (List.mem_cons_of_mem _ List.mem_cons_self))))) | exact (List.mem_cons_of_mem _ (List.mem_cons_of_mem _ (List.mem_cons_of_mem _ (List.mem_cons_of_mem _ (List.mem_cons_of_mem _ (List.mem_cons_of_mem _ List.mem_cons_self)))))) | exact (List.mem_cons_of_mem _ (List.mem_cons_of_mem _ (List.mem_cons_of_mem _ (List.mem_cons_of_mem _ (List.mem_cons_of_mem _ (List.mem_cons_of_mem _ (List.mem_cons_of_mem _ List.mem_cons_self))))))))) (by (first | (simp only [List.drop_succ_cons, List.drop_zero, List.drop_nil, List.take_succ_cons, List.take_zero, List.take_nil, Nat.zero_add, Nat.add_zero, Nat.reduceAdd]; done) | (simp only [List.drop_succ_cons, List.drop_zero, List.drop_nil, List.take_succ_cons, List.take_zero, List.take_nil, Nat.zero_add, Nat.add_zero, Nat.reduceAdd]; exact rfl) | exact rfl)) rfl) (Le.refl _))
  have k := key (decide (a < 0)) (decide (b < 0)) a.natAbs b.natAbs h1 h2
  rwa [sv_int, sv_int] at k
theorem rint_pu (z : Int) (h0 : -9223372036854775808 ≤ z) (h1 : z ≤ 9223372036854775807) : Pu Tryz.prog 110 [lit (.int .i64 z)] (int z) := by
  have hl := len_le (n := z.natAbs) (k := 2) (by omega)
  have m1 := rmake_pu true z.natAbs (by omega)
  have m2 := rmake_pu false z.natAbs (by omega)
  by_cases h : z < 0
  · rw [show sv true z.natAbs = z from by simp only [sv, cond_true]; omega] at m1
    refine Pu.intro Tryz.func110 rfl (by kernel_rfl) fun C => ?_
    repeat (refine A1 ⟨?_⟩; intros)
    rw [show -(z % 18446744073709551616) % 18446744073709551616 = (z.natAbs : Int) from by omega]
    refine Wc (word_pu z.natAbs (by omega)) ?_
    repeat (refine A1 ⟨?_⟩; intros)
    refine Wc m1 ?_
    repeat (refine A1 ⟨?_⟩; intros)
    ((first | refine endR ?_ | refine endN ?_); refine end1 (RV.cellA rfl (by (first | exact List.mem_cons_self | exact (List.mem_cons_of_mem _ List.mem_cons_self) | exact (List.mem_cons_of_mem _ (List.mem_cons_of_mem _ List.mem_cons_self)) | exact (List.mem_cons_of_mem _ (List.mem_cons_of_mem _ (List.mem_cons_of_mem _ List.mem_cons_self))) | exact (List.mem_cons_of_mem _ (List.mem_cons_of_mem _ (List.mem_cons_of_mem _ (List.mem_cons_of_mem _ List.mem_cons_self)))) | exact (List.mem_cons_of_mem _ (List.mem_cons_of_mem _ (List.mem_cons_of_mem _ (List.mem_cons_of_mem _ (List.mem_cons_of_mem _ List.mem_cons_self))))) | exact (List.mem_cons_of_mem _ (List.mem_cons_of_mem _ (List.mem_cons_of_mem _ (List.mem_cons_of_mem _ (List.mem_cons_of_mem _ (List.mem_cons_of_mem _ List.mem_cons_self)))))) | exact (List.mem_cons_of_mem _ (List.mem_cons_of_mem _ (List.mem_cons_of_mem _ (List.mem_cons_of_mem _ (List.mem_cons_of_mem _ (List.mem_cons_of_mem _ (List.mem_cons_of_mem _ List.mem_cons_self))))))))) (by (first | (simp only [List.drop_succ_cons, List.drop_zero, List.drop_nil, List.take_succ_cons, List.take_zero, List.take_nil, Nat.zero_add, Nat.add_zero, Nat.reduceAdd]; done) | (simp only [List.drop_succ_cons, List.drop_zero, List.drop_nil, List.take_succ_cons, List.take_zero, List.take_nil, Nat.zero_add, Nat.add_zero, Nat.reduceAdd]; exact rfl) | exact rfl)) rfl) (Le.refl _))
  · rw [show sv false z.natAbs = z from by simp only [sv, cond_false]; omega] at m2
    have wp := word_pu z.natAbs (by omega)
    rw [show (z.natAbs : Int) = z from by omega] at wp
    refine Pu.intro Tryz.func110 rfl (by kernel_rfl) fun C => ?_
    repeat (refine A1 ⟨?_⟩; intros)
    refine Wc wp ?_
    repeat (refine A1 ⟨?_⟩; intros)
    refine Wc m2 ?_
    repeat (refine A1 ⟨?_⟩; intros)
    ((first | refine endR ?_ | refine endN ?_); refine end1 (RV.cellA rfl (by (first | exact List.mem_cons_self | exact (List.mem_cons_of_mem _ List.mem_cons_self) | exact (List.mem_cons_of_mem _ (List.mem_cons_of_mem _ List.mem_cons_self)) | exact (List.mem_cons_of_mem _ (List.mem_cons_of_mem _ (List.mem_cons_of_mem _ List.mem_cons_self))) | exact (List.mem_cons_of_mem _ (List.mem_cons_of_mem _ (List.mem_cons_of_mem _ (List.mem_cons_of_mem _ List.mem_cons_self)))) | exact (List.mem_cons_of_mem _ (List.mem_cons_of_mem _ (List.mem_cons_of_mem _ (List.mem_cons_of_mem _ (List.mem_cons_of_mem _ List.mem_cons_self))))) | exact (List.mem_cons_of_mem _ (List.mem_cons_of_mem _ (List.mem_cons_of_mem _ (List.mem_cons_of_mem _ (List.mem_cons_of_mem _ (List.mem_cons_of_mem _ List.mem_cons_self)))))) | exact (List.mem_cons_of_mem _ (List.mem_cons_of_mem _ (List.mem_cons_of_mem _ (List.mem_cons_of_mem _ (List.mem_cons_of_mem _ (List.mem_cons_of_mem _ (List.mem_cons_of_mem _ List.mem_cons_self))))))))) (by (first | (simp only [List.drop_succ_cons, List.drop_zero, List.drop_nil, List.take_succ_cons, List.take_zero, List.take_nil, Nat.zero_add, Nat.add_zero, Nat.reduceAdd]; done) | (simp only [List.drop_succ_cons, List.drop_zero, List.drop_nil, List.take_succ_cons, List.take_zero, List.take_nil, Nat.zero_add, Nat.add_zero, Nat.reduceAdd]; exact rfl) | exact rfl)) rfl) (Le.refl _))
end Go.Ab
/- Slices of digits whose capacity is known; appending to them makes a new row. -/
namespace Go.Ab
open Go.Proofs
set_option linter.unusedSectionVars false
set_option linter.unusedVariables false
set_option linter.unusedSimpArgs false
variable [Base]
/-- digits, in a slice of capacity c -/
@[irreducible] def dgc (ds : List Nat) (c : Nat) : SV := ⟨fun m v => ∃ a, v = .slice a ds.length c ∧ ds.length ≤ c ∧ c ≤ maxLen ∧ (ds = [] ∨ ∃ b off, a = some ⟨b, off, none⟩ ∧ cellsAt m b off (dcells ds)),
  fun h ⟨a, e, x, y, k⟩ => ⟨a, e, x, y, k.imp id fun ⟨b, off, e, k⟩ => ⟨b, off, e, k.mono h⟩⟩⟩
theorem dgc_dg (ds : List Nat) (c : Nat) : Le (dgc ds c) (dg ds) := fun m v h => by
  unfold dgc at h
  obtain ⟨a, rfl, h1, h2, h3⟩ := h
  rw [dg_sl]
  exact sl_mk h1 h2 (h3.imp (fun e => by rw [e]; rfl) id)
instance (ds : List Nat) (c : Nat) : CO (dgc ds c) [dgc ds c] := co_one fun m v h => by unfold dgc at h; obtain ⟨a, rfl, _⟩ := h; exact ⟨rfl, rfl⟩
section
variable {P : Program} {C : Ctx} {n : Nat} {F : Fr} {H : LH} {ops : Array Oper} {K : Fr → LH → Prop} {rest : List Oper} {ty : TypeId} {pos : String} {aft : Array Edge}
theorem OpV.low {op : Op} {sv s : SV} (t : Nat) (hle : Le (F t) s) (h : OpV P op ty (upd F t s) H sv) : OpV P op ty F H sv := by
  unfold OpV at *
  exact fun m w o a ho hty h1 h2 h3 => h m w o a ho hty h1 h2 fun t' ht => LeF.upd hle (LeF.refl F) t' m _ (h3 t' ht)
theorem ov_lenC {t : Nat} {T e : TypeId} [TSl P T e] {ds : List Nat} {c : Nat} (hx : F t = dgc ds c) : OpV P (.call ⟨.builtin .len, #[.tmp t], #[T]⟩) ty F H (lit (.int .i64 ds.length)) :=
  OpV.low t (hx ▸ dgc_dg ds c) (ov_lenD (x := .tmp t) upd_eq)
theorem ov_idxC {t t' : Nat} (hne : t' ≠ t) {T e : TypeId} {by_ : Nat} {z : List SV} {g : Bool} [TSl P T e] [TY P e 1 by_ z g] {ki : IntKind} {ds : List Nat} {c i : Nat}
    (hx : F t = dgc ds c) (hi : F t' = lit (.int ki i)) (h1 : i < ds.length) : OpV P (.indexAddr T (.tmp t) (.tmp t')) ty F H (pt [lit (.int .u32 (ds.getD i 0 : Nat))]) :=
  OpV.low t (hx ▸ dgc_dg ds c) (ov_idxD (x := .tmp t) (ix := .tmp t') upd_eq ((upd_ne hne).trans hi) h1)
theorem ov_toC {x y : Operand} {T e : TypeId} {by_ : Nat} {z : List SV} {g : Bool} [hT : TSl P T e] [hE : TY P e 1 by_ z g] {ds : List Nat} {ki : IntKind} {v : Int} {c : Nat} (j : Nat)
    (hx : ev F x = dgc ds c) (hy : ev F y = lit (.int ki v)) (hv : v = (j : Int)) (hj : j ≤ ds.length) : OpV P (.slice T x none (some y) none) ty F H (dgc (ds.take j) c) :=
  OpV.pure fun m w o a ho _ _ _ h => by
    have e0 := h x (by simp [Op.operands]); rw [hx] at e0
    have e1 := h y (by simp [Op.operands]); rw [hy, lit_p] at e1
    subst hv
    unfold dgc at e0
    obtain ⟨ad, e0, h1, h2, h3⟩ := e0
    have hjc : (j : Int) ≤ (c : Int) := by omega
    have hjn : ¬ c < j := by omega
    have hlen : (ds.take j).length = j := by rw [List.length_take]; omega
    refine ⟨.slice (if c = 0 then ad else ad.map (·.add 0)) j c, ?_, ?_⟩
    · simp [execOp, ho, Instr.sliceAt, Instr.slice, underlying, hT.h, e0, e1, Instr.sliceBounds, Instr.sliceBound, asIntOf, hjc, hjn, hE.run_size]
    · unfold dgc
      refine ⟨_, by rw [hlen], by omega, h2, ?_⟩
      rcases h3 with h3 | ⟨b, off, rfl, h3⟩
      · left; rw [h3, List.take_nil]
      · right
        refine ⟨b, off, by simp [add_none], ?_⟩
        have := h3.take j
        rwa [show (dcells ds).take j = dcells (ds.take j) from by simp [dcells, List.map_take]] at this
theorem WpubC {l : List Oper} {b : Nat} {T : TypeId} {ds : List Nat} {H' : LH} {k c : Nat} (d : Nat) (hv : F d = lit (.slice (some ⟨b, 0, none⟩) k c)) (hdel : HDel b T (dcells ds) H H') (hk : ds.length = k) (hc : k ≤ c) (hc' : c ≤ 1000000000)
    (h : WPL P C n ops l K (upd F d (dgc ds c)) H') : WPL P C n ops l K F H := by
  subst hk
  refine WPL.pub hdel hv (fun m arr hm ha => ?_) h
  unfold dgc
  exact ⟨_, rfl, hc, by simp only [maxLen]; omega, .inr ⟨b, 0, rfl, arr, T, (0, 0), hm, by rw [List.drop_zero, ← ha.length, List.take_length]; exact ha⟩⟩
/-- a prefix of a row of one's own is finished -/
theorem pub_dgt {b : Nat} {T : TypeId} {ds : List Nat} {k c : Nat} (h0 : k ≤ ds.length) (h1 : k ≤ c) (h2 : c ≤ maxLen) (m : Mem) (arr : Array Value) (hm : m b = some (.cells arr T (0, 0))) (ha : All2 m (dcells ds) arr.toList) :
    (dg (ds.take k)).p m (.slice (some ⟨b, 0, none⟩) k c) := by
  rw [dg_sl, show (ds.take k).length = k from by rw [List.length_take]; omega]
  refine sl_mk h1 h2 (.inr ⟨b, 0, rfl, arr, T, (0, 0), hm, ?_⟩)
  have := ha.take k
  rw [List.drop_zero, List.length_map, show (ds.take k).length = k from by rw [List.length_take]; omega]
  rwa [show (dcells ds).take k = dcells (ds.take k) from by simp [dcells, List.map_take]] at this
/-- x[:j] of a row of one's own -/
theorem ov_toL {x y : Operand} {T e : TypeId} {by_ : Nat} {z : List SV} {g : Bool} [hT : TSl P T e] [hE : TY P e 1 by_ z g] {ki : IntKind} {v : Int} {b k c : Nat} (j : Nat)
    (hx : ev F x = lit (.slice (some ⟨b, 0, none⟩) k c)) (hy : ev F y = lit (.int ki v)) (hv : v = (j : Int)) (hj : j ≤ c) : OpV P (.slice T x none (some y) none) ty F H (lit (.slice (some ⟨b, 0, none⟩) j c)) :=
  OpV.pure fun m w o a ho _ _ _ h => by
    have e0 := h x (by simp [Op.operands]); rw [hx, lit_p] at e0
    have e1 := h y (by simp [Op.operands]); rw [hy, lit_p] at e1
    subst hv
    have hjc : (j : Int) ≤ (c : Int) := by omega
    have hjn : ¬ c < j := by omega
    refine ⟨_, ?_, lit_p.2 rfl⟩
    simp [execOp, ho, Instr.sliceAt, Instr.slice, underlying, hT.h, e0, e1, Instr.sliceBounds, Instr.sliceBound, asIntOf, hjc, hjn, hE.run_size, add_none]
theorem St.pushD {a : Act} {w : World} {d : Nat} {T : TypeId} {arr : Array Value} {cs : List SV} {v : Value} (hd : d < n) (hs : St C n F H a w)
    (hcs : ∀ m, MemIn m w → HOk m w H → (∀ x, (ev F x).p m (a.eval x)) → All2 m cs arr.toList) :
    St C n (upd F d (lit v)) ((w.heap.size, T, cs) :: H) (a.put (some d) v) (w.drew.alloc (.cells arr T)) := by
  obtain ⟨hdef, hn, m, h1, h2, h3, h4, h5⟩ := hs
  have hp : ∀ x, (ev F x).p m (a.eval x) := fun x => by
    cases x with
    | tmp t => exact h5 t
    | const v => unfold ev lit; rfl
    | global g => unfold ev lit; rfl
    | func f => unfold ev lit; rfl
  have hnone : m w.heap.size = none := by
    cases hmm : m w.heap.size with
    | none => rfl
    | some o => have := h1 _ _ hmm; rw [Array.getElem?_eq_none (Nat.le_refl _)] at this; cases this
  have hsize : (w.drew.alloc (.cells arr T)).heap.size = w.heap.size + 1 := World.size_alloc ..
  have hold : ∀ b, b < w.heap.size → (w.drew.alloc (.cells arr T)).heap[b]? = w.heap[b]? := fun b hb => heap_alloc_old w.drew _ b hb
  have rel : Rel [] m w m (w.drew.alloc (.cells arr T)) := ⟨Mem.le_refl m, fun _ _ _ => rfl, rfl, rfl, rfl, by omega, fun b hb _ => hold b hb⟩
  refine ⟨hdef, by simpa [Act.put] using hn, m, ⟨fun b o hb => ?_, h1.base⟩, ⟨?_, ?_⟩, h3.trans rel (fun b hb h => by cases h), ?_, fun t => ?_⟩
  · have := h1 b o hb
    rw [hold b (Array.getElem?_eq_some_iff.1 this).1]; exact this
  · simp only [List.map_cons, List.nodup_cons]
    refine ⟨fun hm => ?_, h2.1⟩
    obtain ⟨e, he, hk⟩ := List.mem_map.1 hm
    have := (h2.2 e he).2.lt
    omega
  · intro e he
    rcases List.mem_cons.1 he with rfl | he
    · exact ⟨hnone, arr, heap_alloc_new w.drew _, hcs m h1 h2 hp⟩
    · have hh := h2.rel rel (fun _ _ => by simp)
      exact hh.2 e he
  · intro e he
    rcases List.mem_cons.1 he with rfl | he
    · exact .inr h3.size
    · exact h4 e he
  · rw [getD_put (Nat.lt_of_lt_of_le hd hn)]
    unfold upd
    by_cases ht : t = d
    · subst ht; rw [if_pos rfl, Nat.beq_refl]; exact lit_p.2 rfl
    · rw [if_neg ht]
      have : Nat.beq t d = false := by
        cases hb : Nat.beq t d with
        | false => rfl
        | true => exact absurd (Nat.eq_of_beq_eq_true hb) ht
      rw [this]
      exact h5 t
theorem All2.dcz {m : Mem} : ∀ (k : Nat), All2 m (dcells (List.replicate k 0)) (List.replicate k (Value.int .u32 0)) := fun k => by
  rw [← dcells_rep]; exact All2.replicate (lit_p.2 rfl) rfl k
/-- appending where there is no room: a row of one's own -/
theorem WappC {T e : TypeId} [hS : TSl P T e] {g : Bool} [hT : TY P e 1 4 [lit (Value.int IntKind.u32 0)] g] {d : Nat} {x y : Operand} {ds es : List Nat} {c b2 c2 : Nat} {T' : TypeId}
    (hx : ev F x = dgc ds c) (hy : ev F y = lit (.slice (some ⟨b2, 0, none⟩) es.length c2)) (hm : (b2, T', dcells es) ∈ H) (hne : ds ≠ []) (hroom : c < ds.length + es.length) (hl : ds.length + es.length ≤ 1000000000)
    (h : ∀ b k, k ≤ maxLen → ∀ j, k = ds.length + es.length + j → WPL P C n ops rest K (upd F d (lit (.slice (some ⟨b, 0, none⟩) (ds.length + es.length) k))) ((b, e, dcells (ds ++ es ++ List.replicate j 0)) :: H)) (hd : Nat.blt d n = true := by exact rfl) :
    WPL P C n ops (⟨some d, .call ⟨.builtin .append, #[x, y], #[T, T]⟩, ty, pos, aft, none⟩ :: rest) K F H := by
  unfold WPL
  intro a w hs Q hq
  refine wpList_plain rfl fun K' hK' => ?_
  obtain ⟨m0, h10, h20, hp0⟩ : ∃ m, MemIn m w ∧ HOk m w H ∧ ∀ x, (ev F x).p m (a.eval x) := by
    obtain ⟨_, _, m, h1, h2, _, _, h5⟩ := hs
    refine ⟨m, h1, h2, fun x => ?_⟩
    cases x with
    | tmp t => exact h5 t
    | const v => unfold ev lit; rfl
    | global g => unfold ev lit; rfl
    | func f => unfold ev lit; rfl
  have e0 := hp0 x; rw [hx] at e0
  have e1 := hp0 y; rw [hy, lit_p] at e1
  unfold dgc at e0
  obtain ⟨ad, e0, hc1, hc2, hca⟩ := e0
  obtain ⟨b1, off, rfl, arr1, T1, fz1, hb1, hall1⟩ := hca.resolve_left hne
  obtain ⟨_, arr2, hb2, hall2⟩ := h20.2 _ hm
  obtain ⟨i, v, hi, hsz, hby, hz, hzl, hfl, hvs⟩ := hT.run_bytes
  simp only [dcells_length] at hall1
  have hlen1 := hall1.length
  have hlen2 := hall2.length
  simp only [dcells_length, Array.length_toList] at hlen1 hlen2
  have hw1 := h10 _ _ hb1
  have hxs : ∀ j u, ((arr1.toList.drop off).take ds.length)[j]? = some u → w.cell? ((⟨b1, off, none⟩ : Addr).add j) = some u := fun j u hj => by
    rw [add_none, cell_of w b1 _ arr1 _ _ hw1]
    rw [List.getElem?_take] at hj
    split at hj
    · rw [List.getElem?_drop] at hj; simpa using hj
    · cases hj
  have hys : ∀ j u, arr2.toList[j]? = some u → w.cell? ((⟨b2, 0, none⟩ : Addr).add j) = some u := fun j u hj => by
    rw [add_none, cell_of w b2 _ arr2 _ _ hb2]; simpa using hj
  have hrun := run_append_grow (P := P) w T ty e i v hS.h hi hz ⟨b1, off, none⟩ ds.length c ((arr1.toList.drop off).take ds.length) (by rw [hlen1, hsz, Nat.mul_one]) hxs
    ⟨b2, 0, none⟩ es.length c2 arr2.toList (by rw [Array.length_toList, hlen2, hsz, Nat.mul_one]) hys (by omega) (by omega) (growslice_fits (by omega) (by rw [hby]; omega))
  have hexec : execOp a.eval (⟨some d, .call ⟨.builtin .append, #[x, y], #[T, T]⟩, ty, pos, aft, none⟩ : Oper) = (do let v ← Builtin.append_ #[T, T] ty #[a.eval x, a.eval y]; pure (.value v)) := by
    simp [execOp, resolve, invoke, builtin]
  unfold Oper.wp
  rw [hexec, e0, e1]
  simp only [Sem.run_bind, hrun, Result.andThen_ok, Sem.run_pure]
  have hge := grownCap_ge w (ds.length + es.length) c e
  have hle := grownCap_le_maxLen w (ds.length + es.length) c e (by simp only [maxLen]; omega)
  have h := h w.heap.size _ hle (grownCap w (ds.length + es.length) c e - (ds.length + es.length)) (by omega)
  unfold WPL at h
  refine hK' _ _ (h _ _ (St.pushD (Nat.blt_eq.mp hd) hs fun m h1 h2 hp => ?_) Q hq)
  have e0' := hp x; rw [hx] at e0'
  unfold dgc at e0'
  obtain ⟨ad', e0', _, _, hca'⟩ := e0'
  rw [e0] at e0'
  simp only [Value.slice.injEq] at e0'
  obtain ⟨b1', off', hbe, arr1', T1', fz1', hb1', hall1'⟩ := hca'.resolve_left hne
  rw [← e0'.1] at hbe
  simp only [Option.some.injEq, Addr.mk.injEq] at hbe
  obtain ⟨rfl, rfl, _⟩ := hbe
  have hw1' := h1 _ _ hb1'
  rw [hw1] at hw1'
  simp only [Option.some.injEq, Obj.cells.injEq] at hw1'
  obtain ⟨rfl, _, _⟩ := hw1'
  obtain ⟨_, arr2', hb2', hall2'⟩ := h2.2 _ hm
  rw [hb2] at hb2'
  simp only [Option.some.injEq, Obj.cells.injEq] at hb2'
  obtain ⟨rfl, _⟩ := hb2'
  rw [show dcells (ds ++ es ++ List.replicate (grownCap w (ds.length + es.length) c e - (ds.length + es.length)) 0) = dcells ds ++ dcells es ++ dcells (List.replicate (grownCap w (ds.length + es.length) c e - (ds.length + es.length)) 0) from by simp [dcells]]
  simp only [Array.toList_append, List.toList_toArray]
  refine ((by simpa [dcells_length] using hall1' : All2 m (dcells ds) _).append hall2').append ?_
  have hv1 : v.cells.toList = [Value.int .u32 0] := by
    have h1 : v.cells.toList.length = 1 := by simpa using hvs
    match hv : v.cells.toList, h1 with
    | [u], _ =>
      rw [hv] at hzl
      simp only [List.map_cons, List.map_nil, List.cons.injEq, and_true] at hzl
      have : (lit u).p (fun _ => none) u := lit_p.2 rfl
      rw [hzl, lit_p] at this
      rw [this]
  have hzc : ∀ k, (Builtin.zeroCells v.cells k).toList = List.replicate k (Value.int .u32 0) := fun k => by
    have hs1 : v.cells.size = 1 := hvs
    have hg0 : v.cells = #[Value.int .u32 0] := by
      apply Array.ext'
      rw [hv1]
    rw [hg0]
    simp only [Builtin.zeroCells, List.size_toArray, List.length_cons, List.length_nil, Nat.zero_add, Nat.mul_one, Nat.mod_one, Array.toList_map, Array.toList_range]
    rw [List.map_const']
    simp
  rw [hzc]
  exact All2.dcz _
end
theorem trim_cap (ds : List Nat) (c : Nat) (hl : ds.length ≤ 1000000000) : Pu Tryz.prog 242 [dgc ds c] (dgc (trimL ds) c) := by
  refine Pu.intro Tryz.func242 rfl (by kernel_rfl) fun C => ?_
  repeat (refine A1 ⟨?_⟩; intros)
  refine WP.loop (ι := Nat) (fun k => k ≤ ds.length ∧ trimL (ds.take k) = trimL ds) (fun k => k) (fun k => fm [(0, dgc (ds.take k) c)]) (fun _ => []) ds.length ⟨Nat.le_refl _, by rw [List.take_length]⟩ (LeF.cons (by rw [List.take_length]; exact Le.refl _) (LeF.nil _)) rfl ?_
  rintro k ⟨hk, ht⟩ K hK
  have hlen : (ds.take k).length = k := by rw [List.length_take]; omega
  rcases k with _ | j
  · iterate 2 refine WP.seq' ?_
    refine WP.reg ?_
    (refine O1 ⟨?_⟩; intros)
    refine Wo (ov_lenC rfl) ?_
    repeat (refine A1 ⟨?_⟩; intros)
    exact endR (end1 (RV.tmp (s := dgc (List.take 0 ds) c) rfl) (Le.of_eq (by rw [← ht]; rfl)))
  · have hg : (List.take (j + 1) ds).getD j 0 = ds.getD j 0 := by simp [List.getD]
    iterate 2 refine WP.seq' ?_
    refine WP.reg ?_
    (refine O1 ⟨?_⟩; intros)
    refine Wo (ov_lenC rfl) ?_
    iterate 4 (refine O1 ⟨?_⟩; intros)
    refine Wog (ov_lenC rfl) ?_
    refine Wog (ov_sub (r := (j : Int)) rfl rfl (wi64e (by omega) (by omega) (by omega))) ?_
    refine Wog (ov_idxC (i := j) (by decide) rfl rfl (by omega)) ?_
    rw [hg]
    by_cases hd : ds.getD j 0 = 0
    · repeat (refine A1 ⟨?_⟩; intros)
      refine Wo (ov_lenC rfl) ?_
      repeat (refine A1 ⟨?_⟩; intros)
      refine Wo (ov_toC j rfl rfl (by omega) (by omega)) ?_
      rw [List.take_take, Nat.min_eq_left (by omega)]
      repeat (refine A1 ⟨?_⟩; intros)
      refine hK _ _ j ⟨by omega, ?_⟩ (by omega) (LeF.cons (Le.refl _) (LeF.nil _)) rfl
      rw [take_succ_getD ds j (by omega), hd, trimL_snoc_zero] at ht
      exact ht
    · rw [take_succ_getD ds j (by omega), trimL_snoc_ne _ _ hd, ← take_succ_getD ds j (by omega)] at ht
      repeat (refine A1 ⟨?_⟩; intros)
      exact endR (end1 (RV.tmp (s := dgc (List.take (j + 1) ds) c) rfl) (Le.of_eq (by rw [ht])))
end Go.Ab
/- Package nat: shifting by fewer than 32 places. -/
namespace Go.Ab
open Go.Proofs
set_option linter.unusedSectionVars false
set_option linter.unusedVariables false
set_option linter.unusedSimpArgs false
variable [Base]
theorem pow32 {s : Nat} (h : s < 32) : 2 ^ s ≤ 2147483648 ∧ 0 < 2 ^ s ∧ 2 ^ s * 2 ^ (32 - s) = 4294967296 := by
  refine ⟨?_, Nat.pow_pos (by omega), ?_⟩
  · have := Nat.pow_le_pow_right (n := 2) (by omega) (show s ≤ 31 by omega); simpa using this
  · rw [← Nat.pow_add, show s + (32 - s) = 32 by omega]
/-- the two halves of a digit that was shifted -/
theorem shl_halves {d s : Nat} (hs : s < 32) (hd : d < 4294967296) : d * 2 ^ s ≤ 18446744073709551615 ∧ d * 2 ^ s / 4294967296 < 2 ^ s ∧ ∃ y, d * 2 ^ s % 4294967296 = 2 ^ s * y ∧ 2 ^ s * y + 2 ^ s ≤ 4294967296 := by
  obtain ⟨h1, h2, h3⟩ := pow32 hs
  have hm : d * 2 ^ s ≤ 4294967295 * 2 ^ s := Nat.mul_le_mul_right _ (by omega)
  refine ⟨by omega, ?_, d % 2 ^ (32 - s), ?_, ?_⟩
  · rw [Nat.div_lt_iff_lt_mul (by omega)]
    have : d * 2 ^ s < 4294967296 * 2 ^ s := Nat.mul_lt_mul_of_pos_right hd h2
    rw [Nat.mul_comm (2 ^ s)]; exact this
  · rw [← h3, Nat.mul_comm d, Nat.mul_mod_mul_left]
  · have : d % 2 ^ (32 - s) < 2 ^ (32 - s) := Nat.mod_lt _ (Nat.pow_pos (by omega))
    have h4 : 2 ^ s * (d % 2 ^ (32 - s) + 1) ≤ 2 ^ s * 2 ^ (32 - s) := Nat.mul_le_mul_left _ this
    rw [h3, Nat.mul_add, Nat.mul_one] at h4; exact h4
set_option maxHeartbeats 2000000 in
theorem shl_cap (xs : List Nat) (s : Nat) (hla : xs.length ≤ 100000000) (hA : D xs) (hs : s < 32) (h0 : val xs ≠ 0) : Pu Tryz.prog 316 [dg xs, lit (.int .u64 s)] (dgc (dgs (val xs * 2 ^ s)) ((dgs (val xs)).length + 1)) := by
  obtain ⟨p, t1, h1, hP, hva, hpd⟩ := trimmed xs hla (by omega) hA
  rw [← hva] at h0
  rw [← hpd, ← hva]
  obtain ⟨w1, w2, w3⟩ := pow32 hs
  refine Pu.intro Tryz.func316 rfl (by kernel_rfl) fun C => ?_
  repeat (refine A1 ⟨?_⟩; intros)
  refine Wc t1 ?_
  have hpos : 0 < p.length := List.length_pos_iff.2 fun e => h0 (by rw [e]; rfl)
  repeat (refine A1 ⟨?_⟩; intros)
  refine WmkD (p.length + 1) rfl rfl (by omega) (by omega) fun bb => ?_
  repeat (refine A1 ⟨?_⟩; intros)
  refine WP.loop (ι := Nat × List Nat) (fun st => st.1 ≤ p.length ∧ st.2.length = p.length + 1 ∧ D st.2 ∧ val st.2 = val (p.take st.1) * 2 ^ s ∧ st.2.getD st.1 0 < 2 ^ s ∧ ∀ j, st.1 < j → st.2.getD j 0 = 0) (fun st => p.length - st.1)
    (fun st => fm [(5, lit (.int .i64 0)), (6, lit (.int .u64 s)), (7, lit (.slice (some ⟨bb, 0, none⟩) (p.length + 1) (p.length + 1))), (29, dg p), (30, lit (.int .i64 p.length)), (31, lit (.int .i64 st.1))])
    (fun st => [(bb, 110, dcells st.2)]) (0, List.replicate (p.length + 1) 0) ⟨Nat.zero_le _, by simp, D.rep _, by simp [val, val_rep], by simp [List.getD]; omega, fun j _ => by simp [List.getD, List.getElem?_replicate]; split <;> simp⟩ (by (repeat (first | exact LeF.nil _ | refine LeF.cons (Le.refl _) ?_ | refine LeF.cons (Le.int (by omega)) ?_))) rfl ?_
  rintro ⟨k, os⟩ ⟨hk, hol, hO, hval, hlo, hz⟩ K hK
  simp only at hk hol hO hval hlo hz ⊢
  by_cases hkl : k < p.length
  · have hx := hP.get k
    obtain ⟨a1, a2, y, a3, a4⟩ := shl_halves (d := p.getD k 0) hs hx
    have hz1 := hz (k + 1) (by omega)
    repeat (refine A1 ⟨?_⟩; intros)
    rw [shlN (p.getD k 0) s (by omega) a1]
    repeat (refine A1 ⟨?_⟩; intros)
    refine Wo (ov_or rfl rfl (or32 (os.getD k 0) y s rfl (by rw [← a3, Int.natCast_emod]; rfl) hlo (by omega))) ?_
    repeat (refine A1 ⟨?_⟩; intros)
    refine WstD (2 ^ s * y + os.getD k 0) rfl rfl rfl (HUpd.here _) (by omega) ?_
    repeat (refine A1 ⟨?_⟩; intros)
    refine WstD (p.getD k 0 * 2 ^ s / 4294967296) rfl rfl (by omega) (HUpd.here _) (by simp; omega) ?_
    repeat (refine A1 ⟨?_⟩; intros)
    refine hK _ _ (k + 1, (os.set k (2 ^ s * y + os.getD k 0)).set (k + 1) (p.getD k 0 * 2 ^ s / 4294967296)) ⟨by simp only; omega, by simpa using hol, (hO.set _ (by omega)).set _ (by omega), ?_, ?_, ?_⟩ (by simp only; omega) (by (repeat (first | exact LeF.nil _ | refine LeF.cons (Le.refl _) ?_ | refine LeF.cons (Le.int (by omega)) ?_))) rfl
    · simp only
      have e1 := val_set os k (2 ^ s * y + os.getD k 0) (by omega)
      have e2 := val_set (os.set k (2 ^ s * y + os.getD k 0)) (k + 1) (p.getD k 0 * 2 ^ s / 4294967296) (by simp; omega)
      rw [getD_set_ne' _ _ _ _ (by omega), hz1, Nat.mul_zero, Nat.add_zero] at e2
      rw [e2, val_take_succ', Nat.add_mul, ← hval, Nat.mul_assoc (4294967296 ^ k)]
      have e3 := Nat.div_add_mod (p.getD k 0 * 2 ^ s) 4294967296
      have e4 : 4294967296 ^ k * (p.getD k 0 * 2 ^ s) = 4294967296 ^ (k + 1) * (p.getD k 0 * 2 ^ s / 4294967296) + 4294967296 ^ k * (2 ^ s * y) := by
        conv => lhs; rw [← e3]
        rw [Nat.mul_add, a3, Nat.pow_succ, Nat.mul_assoc]
      rw [e4]
      rw [Nat.mul_add] at e1
      omega
    · simp only
      rw [show ((os.set k (2 ^ s * y + os.getD k 0)).set (k + 1) (p.getD k 0 * 2 ^ s / 4294967296)).getD (k + 1) 0 = p.getD k 0 * 2 ^ s / 4294967296 from by
        have : k + 1 < os.length := by omega
        simp [List.getD, this]]
      exact a2
    · intro j hj
      simp only at hj ⊢
      rw [getD_set_ne' _ _ _ _ (by omega), getD_set_ne' _ _ _ _ (by omega)]
      exact hz j (by omega)
  · have hke : k = p.length := by omega
    subst hke
    rw [List.take_length] at hval
    repeat (refine A1 ⟨?_⟩; intros)
    refine WpubC (ds := os) 60 rfl (HDel.here _) hol (by omega) (by omega) ?_
    refine Wc (trim_cap os _ (by omega)) ?_
    rw [trimL_eq hO, hval]
    repeat (refine A1 ⟨?_⟩; intros)
    ((first | refine endR ?_ | refine endN ?_); exact end1 (RV.tmp rfl) (Le.refl _))
theorem shl_nat (xs : List Nat) (s : Nat) (hla : xs.length ≤ 100000000) (hA : D xs) (hs : s < 32) : Pu Tryz.prog 316 [dg xs, lit (.int .u64 s)] (nat (val xs * 2 ^ s)) := by
  by_cases h0 : val xs = 0
  · obtain ⟨p, t1, h1, hP, hva, hpd⟩ := trimmed xs hla (by omega) hA
    have hp : p = [] := by rw [hpd, h0, dgs_zero]
    subst hp
    rw [h0]
    refine Pu.intro Tryz.func316 rfl (by kernel_rfl) fun C => ?_
    repeat (refine A1 ⟨?_⟩; intros)
    refine Wc t1 ?_
    repeat (refine A1 ⟨?_⟩; intros)
    refine endR (end1 (RV.tmp rfl) ?_)
    simp only [Nat.zero_mul]
    rw [show nat 0 = dg [] from by show dg (dgs 0) = _; rw [dgs_zero]]
    exact le_nil
  · exact (shl_cap xs s hla hA hs h0).le (dgc_dg _ _)
end Go.Ab
/- Package nat: shifting back by fewer than 32 places. -/
namespace Go.Ab
open Go.Proofs
set_option linter.unusedSectionVars false
set_option linter.unusedVariables false
set_option linter.unusedSimpArgs false
variable [Base]
theorem shr_digit {V p q r s : Nat} (k : Nat) (hs : s < 32) (h : V / 4294967296 ^ k = p + 4294967296 * (q + 4294967296 * r)) : V / 2 ^ s / 4294967296 ^ k % 4294967296 = (p + q * 4294967296) / 2 ^ s % 4294967296 := by
  obtain ⟨w1, w2, w3⟩ := pow32 hs
  rw [Nat.div_div_eq_div_mul, Nat.mul_comm, ← Nat.div_div_eq_div_mul, h]
  have e : p + 4294967296 * (q + 4294967296 * r) = (p + q * 4294967296) + 2 ^ s * (4294967296 * (2 ^ (32 - s) * r)) := by
    rw [← Nat.mul_assoc (2 ^ s), Nat.mul_comm (2 ^ s), Nat.mul_assoc, ← Nat.mul_assoc (2 ^ s), w3, Nat.mul_add, Nat.mul_comm q]; omega
  rw [e, Nat.add_mul_div_left _ _ w2, Nat.add_mul_mod_self_left]
theorem val_div_pow (ds : List Nat) (hD : D ds) (k : Nat) (hk : k ≤ ds.length) : val ds / 4294967296 ^ k = val (ds.drop k) := by
  rw [val_split ds k hk, Nat.add_mul_div_left _ _ (Nat.pow_pos (by omega)), Nat.div_eq_of_lt, Nat.zero_add]
  have h := val_lt (hD.take k)
  rw [List.length_take, Nat.min_eq_left hk] at h; exact h
theorem drop_two (ds : List Nat) (k : Nat) (hk : k < ds.length) : val (ds.drop k) = ds.getD k 0 + 4294967296 * (ds.getD (k + 1) 0 + 4294967296 * val (ds.drop (k + 2))) := by
  rw [drop_getD ds k hk, val_cons]
  by_cases h : k + 1 < ds.length
  · rw [drop_getD ds (k + 1) h, val_cons]
  · rw [List.drop_eq_nil_of_le (by omega), List.drop_eq_nil_of_le (by omega), show ds.getD (k + 1) 0 = 0 from by simp [List.getD, List.getElem?_eq_none (show ds.length ≤ k + 1 by omega)]]; simp [val]
set_option maxHeartbeats 2000000 in
theorem shr_nat (xs : List Nat) (s : Nat) (hla : xs.length ≤ 100000000) (hA : D xs) (hs : s < 32) : Pu Tryz.prog 317 [dg xs, lit (.int .u64 s)] (nat (val xs / 2 ^ s)) := by
  obtain ⟨p, t1, h1, hP, hva, hpd⟩ := trimmed xs hla (by omega) hA
  rw [← hva]
  obtain ⟨w1, w2, w3⟩ := pow32 hs
  refine Pu.intro Tryz.func317 rfl (by kernel_rfl) fun C => ?_
  repeat (refine A1 ⟨?_⟩; intros)
  refine Wc t1 ?_
  by_cases h0 : p = []
  · subst h0
    repeat (refine A1 ⟨?_⟩; intros)
    refine endR (end1 (RV.tmp rfl) ?_)
    simp only [val, Nat.zero_div]
    rw [show nat 0 = dg [] from by show dg (dgs 0) = _; rw [dgs_zero]]
    exact le_nil
  · have hpos := List.length_pos_iff.2 h0
    repeat (refine A1 ⟨?_⟩; intros)
    refine WmkD p.length rfl rfl (by omega) (by omega) fun bb => ?_
    repeat (refine A1 ⟨?_⟩; intros)
    refine WP.loop (ι := Nat × List Nat) (fun st => st.1 ≤ p.length ∧ st.2.length = p.length ∧ D st.2 ∧ val (st.2.take st.1) = val p / 2 ^ s % 4294967296 ^ st.1) (fun st => p.length - st.1)
      (fun st => fm [(0, dg p), (5, lit (.int .i64 0)), (6, lit (.int .u64 s)), (7, lit (.slice (some ⟨bb, 0, none⟩) p.length p.length)), (29, lit (.int .i64 p.length)), (30, lit (.int .i64 st.1))])
      (fun st => [(bb, 110, dcells st.2)]) (0, List.replicate p.length 0) ⟨Nat.zero_le _, by simp, D.rep _, by simp [val, Nat.mod_one]⟩ (by (repeat (first | exact LeF.nil _ | refine LeF.cons (Le.refl _) ?_ | refine LeF.cons (Le.int (by omega)) ?_))) rfl ?_
    rintro ⟨k, os⟩ ⟨hk, hol, hO, hval⟩ K hK
    simp only at hk hol hO hval ⊢
    by_cases hkl : k < p.length
    · have hx := hP.get k
      have hx1 := hP.get (k + 1)
      repeat (refine A1 ⟨?_⟩; intros)
      refine WP.via (fun F H => LeF F (fm [(0, dg p), (5, lit (.int .i64 0)), (6, lit (.int .u64 s)), (7, lit (.slice (some ⟨bb, 0, none⟩) p.length p.length)), (8, lit (.int .i64 k)), (9, lit (.int .u64 (p.getD k 0 + p.getD (k + 1) 0 * 4294967296 : Nat))), (29, lit (.int .i64 p.length)), (30, lit (.int .i64 k))]) ∧ H = [(bb, 110, dcells os)]) ?_ ?_
      · refine WPd (fun h => ?_) (fun h => ?_)
        · repeat (refine A1 ⟨?_⟩; intros)
          refine Wo (ov_or rfl rfl (or64' (p.getD (k + 1) 0) (p.getD k 0) rfl rfl hx1 hx)) ?_
          repeat (refine A1 ⟨?_⟩; intros)
          exact ⟨by (repeat (first | exact LeF.nil _ | refine LeF.cons (Le.refl _) ?_ | refine LeF.cons (Le.int (by omega)) ?_)), rfl⟩
        · have h0 : p.getD (k + 1) 0 = 0 := by simp [List.getD, List.getElem?_eq_none (show p.length ≤ k + 1 by omega)]
          repeat (refine A1 ⟨?_⟩; intros)
          exact ⟨by (repeat (first | exact LeF.nil _ | refine LeF.cons (Le.refl _) ?_ | refine LeF.cons (Le.int (by omega)) ?_)), rfl⟩
      · rintro F H ⟨hF, rfl⟩
        refine WP.le hF ?_
        repeat (refine A1 ⟨?_⟩; intros)
        rw [shrN _ s (by omega)]
        refine WstD ((p.getD k 0 + p.getD (k + 1) 0 * 4294967296) / 2 ^ s % 4294967296) rfl rfl (by rw [Int.natCast_emod]; rfl) (HUpd.here _) (by omega) ?_
        repeat (refine A1 ⟨?_⟩; intros)
        refine hK _ _ (k + 1, os.set k ((p.getD k 0 + p.getD (k + 1) 0 * 4294967296) / 2 ^ s % 4294967296)) ⟨by simp only; omega, by simpa using hol, hO.set _ (by omega), ?_⟩ (by simp only; omega) (by (repeat (first | exact LeF.nil _ | refine LeF.cons (Le.refl _) ?_ | refine LeF.cons (Le.int (by omega)) ?_))) rfl
        simp only
        rw [val_take_set _ _ _ (by omega), hval, Nat.mod_pow_succ, shr_digit k hs ((val_div_pow p hP k hk).trans (drop_two p k hkl))]
    · have hke : k = p.length := by omega
      subst hke
      rw [Nat.mod_eq_of_lt (Nat.lt_of_le_of_lt (Nat.div_le_self _ _) (val_lt hP)), List.take_of_length_le (by omega)] at hval
      repeat (refine A1 ⟨?_⟩; intros)
      refine WpubD (ds := os) 66 rfl (HDel.here _) hol (by omega) (by omega) ?_
      refine Wc (trim_nat os (by omega) hO) ?_
      rw [hval]
      repeat (refine A1 ⟨?_⟩; intros)
      ((first | refine endR ?_ | refine endN ?_); exact end1 (RV.tmp rfl) (Le.refl _))
end Go.Ab
/- The reference's numbers: shifts. -/
namespace Go.Ab
open Go.Proofs
set_option linter.unusedSectionVars false
set_option linter.unusedVariables false
set_option linter.unusedSimpArgs false
variable [Base]
theorem or32z {a b : Int} (h : Nat) (ha : a = 0) (hb : b = (h : Int)) (hh : h < 4294967296) : IntKind.u32.wrap ((BitVec.ofInt (IntKind.bits .u32) a ||| BitVec.ofInt (IntKind.bits .u32) b).toNat : Int) = (h : Int) := by
  have := or32 (a := a) (b := b) 0 h 0 ha (by rw [hb, Nat.pow_zero, Nat.one_mul]) (by simp) (by rw [Nat.pow_zero, Nat.one_mul]; exact hh)
  rw [this, Nat.pow_zero, Nat.one_mul, Nat.add_zero]
theorem pow_split (k : Nat) : 2 ^ k = 4294967296 ^ (k / 32) * 2 ^ (k % 32) := by
  conv => lhs; rw [← Nat.div_add_mod k 32]
  rw [Nat.pow_add, Nat.pow_mul]
set_option maxHeartbeats 2000000 in
theorem rleft_pu (a k : Nat) (hla : (dgs a).length + k / 32 ≤ 100000000) : Pu Tryz.prog 238 [nat a, lit (.int .i64 k)] (nat (a * 2 ^ k)) := by
  have hs : k % 32 < 32 := by omega
  have hP := D_dgs a
  suffices h : Pu Tryz.prog 238 [dg (dgs a), lit (.int .i64 k)] (nat (val (dgs a) * (4294967296 ^ (k / 32) * 2 ^ (k % 32)))) by
    rw [val_dgs] at h; rw [pow_split k]; exact h
  obtain ⟨w1, w2, w3⟩ := pow32 hs
  generalize dgs a = p at *
  refine Pu.intro Tryz.func238 rfl (by kernel_rfl) fun C => ?_
  repeat (refine A1 ⟨?_⟩; intros)
  refine WmkD (k / 32 + p.length + 1) rfl rfl (by omega) (by omega) fun bb => ?_
  repeat (refine A1 ⟨?_⟩; intros)
  refine WP.loop (ι := Nat × List Nat) (fun st => st.1 ≤ p.length ∧ st.2.length = k / 32 + p.length + 1 ∧ D st.2 ∧ val st.2 = 4294967296 ^ (k / 32) * (val (p.take st.1) * 2 ^ (k % 32)) ∧ st.2.getD (k / 32 + st.1) 0 < 2 ^ (k % 32) ∧ ∀ j, k / 32 + st.1 < j → st.2.getD j 0 = 0) (fun st => p.length - st.1)
    (fun st => fm [(1, lit (.int .i64 k)), (6, lit (.int .u64 ((k % 32 : Nat) : Int))), (5, lit (.slice (some ⟨bb, 0, none⟩) (k / 32 + p.length + 1) (k / 32 + p.length + 1))), (20, dg p), (21, lit (.int .i64 p.length)), (22, lit (.int .i64 st.1))])
    (fun st => [(bb, 110, dcells st.2)]) (0, List.replicate (k / 32 + p.length + 1) 0) ⟨Nat.zero_le _, by simp, D.rep _, by simp [val, val_rep], by simp [List.getD, List.getElem?_replicate]; split <;> simp [w2], fun j _ => by simp [List.getD, List.getElem?_replicate]; split <;> simp⟩ (by (repeat (first | exact LeF.nil _ | refine LeF.cons (Le.refl _) ?_ | refine LeF.cons (Le.int (by omega)) ?_))) rfl ?_
  rintro ⟨i, os⟩ ⟨hi, hol, hO, hval, hlo, hz⟩ K hK
  simp only at hi hol hO hval hlo hz ⊢
  by_cases hil : i < p.length
  · have hx := hP.get i
    obtain ⟨a1, a2, y, a3, a4⟩ := shl_halves (d := p.getD i 0) hs hx
    have hz1 := hz (k / 32 + i + 1) (by omega)
    have hlo' : Hid (os.getD (k / 32 + i) 0 < 2 ^ (k % 32)) := hlo
    have hvh : Hid (val os = 4294967296 ^ (k / 32) * (val (p.take i) * 2 ^ (k % 32))) := hval
    clear hval hlo
    repeat (refine A1 ⟨?_⟩; intros)
    rw [shlN (p.getD i 0) (k % 32) (by omega) a1]
    repeat (refine A1 ⟨?_⟩; intros)
    refine Wo (ov_or rfl rfl (or32 (os.getD (k / 32 + i) 0) y (k % 32) rfl (by rw [← a3, Int.natCast_emod]; rfl) hlo'.out (by have := hlo'.out; omega))) ?_
    repeat (refine A1 ⟨?_⟩; intros)
    refine WstD (2 ^ (k % 32) * y + os.getD (k / 32 + i) 0) rfl rfl rfl (HUpd.here _) (by omega) ?_
    have hl1 : (os.set (k / 32 + i) (2 ^ (k % 32) * y + os.getD (k / 32 + i) 0)).length = k / 32 + p.length + 1 := by simpa using hol
    repeat (refine A1 ⟨?_⟩; intros)
    rw [getD_set_ne' _ _ _ _ (by omega), hz1]
    refine Wo (ov_or rfl rfl (or32z (p.getD i 0 * 2 ^ (k % 32) / 4294967296) rfl rfl (by omega))) ?_
    repeat (refine A1 ⟨?_⟩; intros)
    refine WstD (p.getD i 0 * 2 ^ (k % 32) / 4294967296) rfl rfl rfl (HUpd.here _) (by omega) ?_
    repeat (refine A1 ⟨?_⟩; intros)
    have hlo := hlo'.out
    refine hK _ _ (i + 1, (os.set (k / 32 + i) (2 ^ (k % 32) * y + os.getD (k / 32 + i) 0)).set (k / 32 + i + 1) (p.getD i 0 * 2 ^ (k % 32) / 4294967296)) ⟨by simp only; omega, by simpa using hol, (hO.set _ (by omega)).set _ (by omega), ?_, ?_, ?_⟩ (by simp only; omega) (by (repeat (first | exact LeF.nil _ | refine LeF.cons (Le.refl _) ?_ | refine LeF.cons (Le.int (by omega)) ?_))) rfl
    · simp only
      have e1 := val_set os (k / 32 + i) (2 ^ (k % 32) * y + os.getD (k / 32 + i) 0) (by omega)
      have e2 := val_set (os.set (k / 32 + i) (2 ^ (k % 32) * y + os.getD (k / 32 + i) 0)) (k / 32 + i + 1) (p.getD i 0 * 2 ^ (k % 32) / 4294967296) (by simp; omega)
      rw [getD_set_ne' _ _ _ _ (by omega), hz1, Nat.mul_zero, Nat.add_zero] at e2
      rw [e2, val_take_succ', Nat.add_mul, Nat.mul_add, ← hvh.out, ← Nat.mul_assoc, ← Nat.mul_assoc, ← Nat.pow_add, Nat.mul_assoc (4294967296 ^ (k / 32 + i))]
      have e3 := Nat.div_add_mod (p.getD i 0 * 2 ^ (k % 32)) 4294967296
      have e4 : 4294967296 ^ (k / 32 + i) * (p.getD i 0 * 2 ^ (k % 32)) = 4294967296 ^ (k / 32 + i + 1) * (p.getD i 0 * 2 ^ (k % 32) / 4294967296) + 4294967296 ^ (k / 32 + i) * (2 ^ (k % 32) * y) := by
        conv => lhs; rw [← e3]
        rw [Nat.mul_add, a3, Nat.pow_succ, Nat.mul_assoc]
      rw [e4]
      rw [Nat.mul_add] at e1
      omega
    · simp only
      rw [show ((os.set (k / 32 + i) (2 ^ (k % 32) * y + os.getD (k / 32 + i) 0)).set (k / 32 + i + 1) (p.getD i 0 * 2 ^ (k % 32) / 4294967296)).getD (k / 32 + (i + 1)) 0 = p.getD i 0 * 2 ^ (k % 32) / 4294967296 from by
        have : k / 32 + i + 1 < os.length := by omega
        rw [← Nat.add_assoc]
        simp [List.getD, this]]
      exact a2
    · intro j hj
      simp only at hj ⊢
      rw [getD_set_ne' _ _ _ _ (by omega), getD_set_ne' _ _ _ _ (by omega)]
      exact hz j (by omega)
  · have hie : i = p.length := by omega
    subst hie
    rw [List.take_length] at hval
    have hvh : Hid (val os = 4294967296 ^ (k / 32) * (val p * 2 ^ (k % 32))) := hval
    clear hval hlo
    repeat (refine A1 ⟨?_⟩; intros)
    refine WpubD (ds := os) 56 rfl (HDel.here _) hol (by omega) (by omega) ?_
    refine Wc (rtrim_nat os (by omega) hO) ?_
    rw [hvh.out, Nat.mul_left_comm]
    repeat (refine A1 ⟨?_⟩; intros)
    ((first | refine endR ?_ | refine endN ?_); exact end1 (RV.tmp rfl) (Le.refl _))
set_option maxHeartbeats 2000000 in
theorem rright_pu (a s : Nat) (hla : (dgs a).length ≤ 100000000) (hs : s < 32) : Pu Tryz.prog 240 [nat a, lit (.int .i64 s)] (nat (a / 2 ^ s)) := by
  have hP := D_dgs a
  suffices h : Pu Tryz.prog 240 [dg (dgs a), lit (.int .i64 s)] (nat (val (dgs a) / 2 ^ s)) by rw [val_dgs] at h; exact h
  obtain ⟨w1, w2, w3⟩ := pow32 hs
  generalize dgs a = p at *
  have hq0 : s / 32 = 0 := by omega
  have hr0 : s % 32 = s := by omega
  by_cases h0 : p = []
  · subst h0
    refine Pu.intro Tryz.func240 rfl (by kernel_rfl) fun C => ?_
    repeat (refine A1 ⟨?_⟩; intros)
    refine endR (end1 (RV.tmp rfl) ?_)
    simp only [val, Nat.zero_div]
    rw [show nat 0 = dg [] from by show dg (dgs 0) = _; rw [dgs_zero]]
    exact le_nil
  · have hpos := List.length_pos_iff.2 h0
    refine Pu.intro Tryz.func240 rfl (by kernel_rfl) fun C => ?_
    repeat (refine A1 ⟨?_⟩; intros)
    rw [hr0]
    refine Wo (ov_sliceD (i := 0) (j := p.length) (ds' := p) rfl (fun y h => ⟨_, _, by cases h; exact rfl, by omega⟩) (fun h => by cases h) (fun y h => by cases h) (fun _ => rfl) (by omega) (by omega) (by simp)) ?_
    repeat (refine A1 ⟨?_⟩; intros)
    refine WmkD p.length rfl rfl (by omega) (by omega) fun bb => ?_
    repeat (refine A1 ⟨?_⟩; intros)
    refine WP.loop (ι := Nat × List Nat) (fun st => st.1 ≤ p.length ∧ st.2.length = p.length ∧ D st.2 ∧ Hid (val (st.2.take st.1) = val p / 2 ^ s % 4294967296 ^ st.1)) (fun st => p.length - st.1)
      (fun st => fm [(5, lit (.int .u64 s)), (6, dg p), (7, lit (.slice (some ⟨bb, 0, none⟩) p.length p.length)), (26, dg p), (27, lit (.int .i64 p.length)), (28, lit (.int .i64 st.1))])
      (fun st => [(bb, 110, dcells st.2)]) (0, List.replicate p.length 0) ⟨Nat.zero_le _, by simp, D.rep _, by simp [val, Nat.mod_one, Hid]⟩ (by (repeat (first | exact LeF.nil _ | refine LeF.cons (Le.refl _) ?_ | refine LeF.cons (Le.int (by omega)) ?_))) rfl ?_
    rintro ⟨k, os⟩ ⟨hk, hol, hO, hval⟩ K hK
    simp only at hk hol hO hval ⊢
    by_cases hkl : k < p.length
    · have hx := hP.get k
      have hx1 := hP.get (k + 1)
      repeat (refine A1 ⟨?_⟩; intros)
      refine WP.via (fun F H => LeF F (fm [(5, lit (.int .u64 s)), (6, dg p), (7, lit (.slice (some ⟨bb, 0, none⟩) p.length p.length)), (8, lit (.int .i64 k)), (10, lit (.int .u64 (p.getD k 0 + p.getD (k + 1) 0 * 4294967296 : Nat))), (26, dg p), (27, lit (.int .i64 p.length)), (28, lit (.int .i64 k))]) ∧ H = [(bb, 110, dcells os)]) ?_ ?_
      · refine WPd (fun h => ?_) (fun h => ?_)
        · repeat (refine A1 ⟨?_⟩; intros)
          refine Wo (ov_or rfl rfl (or64' (p.getD (k + 1) 0) (p.getD k 0) rfl rfl hx1 hx)) ?_
          repeat (refine A1 ⟨?_⟩; intros)
          exact ⟨by (repeat (first | exact LeF.nil _ | refine LeF.cons (Le.refl _) ?_ | refine LeF.cons (Le.int (by omega)) ?_)), rfl⟩
        · have h0 : p.getD (k + 1) 0 = 0 := by simp [List.getD, List.getElem?_eq_none (show p.length ≤ k + 1 by omega)]
          repeat (refine A1 ⟨?_⟩; intros)
          exact ⟨by (repeat (first | exact LeF.nil _ | refine LeF.cons (Le.refl _) ?_ | refine LeF.cons (Le.int (by omega)) ?_)), rfl⟩
      · rintro F H ⟨hF, rfl⟩
        refine WP.le hF ?_
        repeat (refine A1 ⟨?_⟩; intros)
        rw [shrN _ s (by omega)]
        refine WstD ((p.getD k 0 + p.getD (k + 1) 0 * 4294967296) / 2 ^ s % 4294967296) rfl rfl (by rw [Int.natCast_emod]; rfl) (HUpd.here _) (by omega) ?_
        repeat (refine A1 ⟨?_⟩; intros)
        refine hK _ _ (k + 1, os.set k ((p.getD k 0 + p.getD (k + 1) 0 * 4294967296) / 2 ^ s % 4294967296)) ⟨by simp only; omega, by simpa using hol, hO.set _ (by omega), ?_⟩ (by simp only; omega) (by (repeat (first | exact LeF.nil _ | refine LeF.cons (Le.refl _) ?_ | refine LeF.cons (Le.int (by omega)) ?_))) rfl
        simp only [Hid]
        rw [val_take_set _ _ _ (by omega), hval.out, Nat.mod_pow_succ, shr_digit k hs ((val_div_pow p hP k hk).trans (drop_two p k hkl))]
    · have hke : k = p.length := by omega
      subst hke
      have hval := hval.out
      rw [Nat.mod_eq_of_lt (Nat.lt_of_le_of_lt (Nat.div_le_self _ _) (val_lt hP)), List.take_of_length_le (by omega)] at hval
      have hval : Hid _ := hval
      repeat (refine A1 ⟨?_⟩; intros)
      refine WpubD (ds := os) 57 rfl (HDel.here _) hol (by omega) (by omega) ?_
      refine Wc (rtrim_nat os (by omega) hO) ?_
      rw [hval.out]
      repeat (refine A1 ⟨?_⟩; intros)
      ((first | refine endR ?_ | refine endN ?_); exact end1 (RV.tmp rfl) (Le.refl _))
end Go.Ab
