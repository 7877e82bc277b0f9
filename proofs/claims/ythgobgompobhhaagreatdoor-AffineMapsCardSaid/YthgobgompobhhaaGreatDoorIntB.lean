/- Package integer: conversions, sum and product. -/
import Derived.Test.YthgobgompobhhaaGreatDoorInt
import Derived.Test.YthgobgompobhhaaGreatDoorUtil
import Derived.Test.YthgobgompobhhaaGreatDoorNatE
namespace Go.Ab
open Go.Proofs
set_option linter.unusedSectionVars false
variable [Base]
theorem wi64_mod {x : Int} (h0 : -9223372036854775808 ≤ x) (h1 : x ≤ 9223372036854775807) : IntKind.i64.wrap (x % 18446744073709551616) = x := by
  simp only [IntKind.wrap, IntKind.bits, IntKind.signed]
  simp; omega
theorem fromInt_pu (z : Int) (h0 : -9223372036854775808 ≤ z) (h1 : z ≤ 9223372036854775807) : Pu Tryz.prog 105 [lit (.int .i64 z)] (int z) := by
  by_cases h : z < 0
  · rw [int, decide_eq_true h]
    refine Pu.intro Tryz.func105 rfl (by kernel_rfl) fun C => ?_
    repeat (refine A1 ⟨?_⟩; intros)
    rw [show -(z % 18446744073709551616) % 18446744073709551616 = (z.natAbs : Int) from by omega]
    refine Wc (fromUint_nat z.natAbs (by omega)) ?_
    repeat (refine A1 ⟨?_⟩; intros)
    ((first | refine endR ?_ | refine endN ?_); refine end1 (RV.cellA rfl (by (first | exact List.mem_cons_self | exact (List.mem_cons_of_mem _ List.mem_cons_self) | exact (List.mem_cons_of_mem _ (List.mem_cons_of_mem _ List.mem_cons_self)) | exact (List.mem_cons_of_mem _ (List.mem_cons_of_mem _ (List.mem_cons_of_mem _ List.mem_cons_self))) | exact (List.mem_cons_of_mem _ (List.mem_cons_of_mem _ (List.mem_cons_of_mem _ (List.mem_cons_of_mem _ List.mem_cons_self)))) | exact (List.mem_cons_of_mem _ (List.mem_cons_of_mem _ (List.mem_cons_of_mem _ (List.mem_cons_of_mem _ (List.mem_cons_of_mem _ List.mem_cons_self))))) | exact (List.mem_cons_of_mem _ (List.mem_cons_of_mem _ (List.mem_cons_of_mem _ (List.mem_cons_of_mem _ (List.mem_cons_of_mem _ (List.mem_cons_of_mem _ List.mem_cons_self)))))) | exact (List.mem_cons_of_mem _ (List.mem_cons_of_mem _ (List.mem_cons_of_mem _ (List.mem_cons_of_mem _ (List.mem_cons_of_mem _ (List.mem_cons_of_mem _ (List.mem_cons_of_mem _ List.mem_cons_self))))))))) (by (first | (simp only [List.drop_succ_cons, List.drop_zero, List.drop_nil, List.take_succ_cons, List.take_zero, List.take_nil, Nat.zero_add, Nat.add_zero, Nat.reduceAdd]; done) | (simp only [List.drop_succ_cons, List.drop_zero, List.drop_nil, List.take_succ_cons, List.take_zero, List.take_nil, Nat.zero_add, Nat.add_zero, Nat.reduceAdd]; exact rfl) | exact rfl)) rfl) (Le.refl _))
  · rw [int, decide_eq_false h]
    refine Pu.intro Tryz.func105 rfl (by kernel_rfl) fun C => ?_
    repeat (refine A1 ⟨?_⟩; intros)
    generalize hn : z.natAbs = n at *
    have hz : z = (n : Int) := by omega
    subst hz
    refine Wc (fromUint_nat n (by omega)) ?_
    repeat (refine A1 ⟨?_⟩; intros)
    ((first | refine endR ?_ | refine endN ?_); refine end1 (RV.cellA rfl (by (first | exact List.mem_cons_self | exact (List.mem_cons_of_mem _ List.mem_cons_self) | exact (List.mem_cons_of_mem _ (List.mem_cons_of_mem _ List.mem_cons_self)) | exact (List.mem_cons_of_mem _ (List.mem_cons_of_mem _ (List.mem_cons_of_mem _ List.mem_cons_self))) | exact (List.mem_cons_of_mem _ (List.mem_cons_of_mem _ (List.mem_cons_of_mem _ (List.mem_cons_of_mem _ List.mem_cons_self)))) | exact (List.mem_cons_of_mem _ (List.mem_cons_of_mem _ (List.mem_cons_of_mem _ (List.mem_cons_of_mem _ (List.mem_cons_of_mem _ List.mem_cons_self))))) | exact (List.mem_cons_of_mem _ (List.mem_cons_of_mem _ (List.mem_cons_of_mem _ (List.mem_cons_of_mem _ (List.mem_cons_of_mem _ (List.mem_cons_of_mem _ List.mem_cons_self)))))) | exact (List.mem_cons_of_mem _ (List.mem_cons_of_mem _ (List.mem_cons_of_mem _ (List.mem_cons_of_mem _ (List.mem_cons_of_mem _ (List.mem_cons_of_mem _ (List.mem_cons_of_mem _ List.mem_cons_self))))))))) (by (first | (simp only [List.drop_succ_cons, List.drop_zero, List.drop_nil, List.take_succ_cons, List.take_zero, List.take_nil, Nat.zero_add, Nat.add_zero, Nat.reduceAdd]; done) | (simp only [List.drop_succ_cons, List.drop_zero, List.drop_nil, List.take_succ_cons, List.take_zero, List.take_nil, Nat.zero_add, Nat.add_zero, Nat.reduceAdd]; exact rfl) | exact rfl)) rfl) (Le.refl _))
theorem int64_raw (s : Bool) (xs : List Nat) (hl : xs.length ≤ 1000000000) (hD : D xs) (hb : val xs < 4611686018427387904) : Pu Tryz.prog 150 [raw s xs] (tup [lit (.int .i64 (sv s (val xs))), lit (.bool true)]) := by
  have u := uint_nat xs hl hD
  rw [if_pos (by omega)] at u
  cases s
  · simp only [sv, cond_false]
    refine Pu.intro Tryz.func150 rfl (by kernel_rfl) fun C => ?_
    repeat (refine A1 ⟨?_⟩; intros)
    refine Wc u ?_
    repeat (refine A1 ⟨?_⟩; intros)
    ((first | refine endR ?_ | refine endN ?_); exact end2 (RV.tmp rfl) (RV.tmp rfl) (Le.refl _))
  · simp only [sv, cond_true]
    refine Pu.intro Tryz.func150 rfl (by kernel_rfl) fun C => ?_
    repeat (refine A1 ⟨?_⟩; intros)
    refine Wc u ?_
    repeat (refine A1 ⟨?_⟩; intros)
    refine endR (end2 (RV.tmp rfl) (RV.tmp rfl) (Le.tup2 (Le.int ?_) (Le.refl _)))
    exact wi64_mod (by omega) (by omega)
theorem sv_mul (s t : Bool) (a b : Nat) : sv (s != t) (a * b) = sv s a * sv t b := by
  cases s <;> cases t <;> simp [sv, Int.natCast_mul, Int.mul_neg, Int.neg_mul]
theorem sv_add (s : Bool) (a b : Nat) : sv s (a + b) = sv s a + sv s b := by
  cases s <;> simp [sv] <;> omega
theorem sv_sub (s t : Bool) (h : s ≠ t) {a b : Nat} (hab : b ≤ a) : sv s (a - b) = sv s a + sv t b := by
  cases s <;> cases t <;> simp_all [sv] <;> omega
theorem mul_raw (s t : Bool) (xs ys : List Nat) (hlx : xs.length ≤ 100000000) (hly : ys.length ≤ 100000000) (hX : D xs) (hY : D ys) : Pu Tryz.prog 183 [raw s xs, raw t ys] (int (sv s (val xs) * sv t (val ys))) := by
  have hl := len_le (Nat.lt_of_lt_of_le (Nat.mul_lt_mul'' (val_lt hX) (val_lt hY)) (Nat.le_of_eq (Nat.pow_add ..).symm))
  rw [← sv_mul]
  refine Pu.intro Tryz.func183 rfl (by kernel_rfl) fun C => ?_
  repeat (refine A1 ⟨?_⟩; intros)
  refine Wdc (mul_nat xs ys hlx hly hX hY) ?_
  repeat (refine A1 ⟨?_⟩; intros)
  refine Wdc (signed_pu (s != t) (val xs * val ys) (by omega)) ?_
  repeat (refine A1 ⟨?_⟩; intros)
  ((first | refine endR ?_ | refine endN ?_); refine end1 (RV.cellA rfl (by (first | exact List.mem_cons_self | exact (List.mem_cons_of_mem _ List.mem_cons_self) | exact (List.mem_cons_of_mem _ (List.mem_cons_of_mem _ List.mem_cons_self)) | exact (List.mem_cons_of_mem _ (List.mem_cons_of_mem _ (List.mem_cons_of_mem _ List.mem_cons_self))) | exact (List.mem_cons_of_mem _ (List.mem_cons_of_mem _ (List.mem_cons_of_mem _ (List.mem_cons_of_mem _ List.mem_cons_self)))) | exact (List.mem_cons_of_mem _ (List.mem_cons_of_mem _ (List.mem_cons_of_mem _ (List.mem_cons_of_mem _ (List.mem_cons_of_mem _ List.mem_cons_self))))) | exact (List.mem_cons_of_mem _ (List.mem_cons_of_mem _ (List.mem_cons_of_mem _ (List.mem_cons_of_mem _ (List.mem_cons_of_mem _ (List.mem_cons_of_mem _ List.mem_cons_self)))))) | exact (List.mem_cons_of_mem _ (List.mem_cons_of_mem _ (List.mem_cons_of_mem _ (List.mem_cons_of_mem _ (List.mem_cons_of_mem _ (List.mem_cons_of_mem _ (List.mem_cons_of_mem _ List.mem_cons_self))))))))) (by (first | (simp only [List.drop_succ_cons, List.drop_zero, List.drop_nil, List.take_succ_cons, List.take_zero, List.take_nil, Nat.zero_add, Nat.add_zero, Nat.reduceAdd]; done) | (simp only [List.drop_succ_cons, List.drop_zero, List.drop_nil, List.take_succ_cons, List.take_zero, List.take_nil, Nat.zero_add, Nat.add_zero, Nat.reduceAdd]; exact rfl) | exact rfl)) rfl) (Le.refl _))
theorem dlen_add (a b : Nat) : (dgs (a + b)).length ≤ max (dgs a).length (dgs b).length + 1 := by
  refine len_le ?_
  have h1 := lt_pow a
  have h2 := lt_pow b
  have b1 : 4294967296 ^ (dgs a).length ≤ 4294967296 ^ max (dgs a).length (dgs b).length := Nat.pow_le_pow_right (by omega) (by omega)
  have b2 : 4294967296 ^ (dgs b).length ≤ 4294967296 ^ max (dgs a).length (dgs b).length := Nat.pow_le_pow_right (by omega) (by omega)
  rw [Nat.pow_succ]; omega
theorem dlen_mul (a b : Nat) : (dgs (a * b)).length ≤ (dgs a).length + (dgs b).length := by
  refine len_le ?_
  rw [Nat.pow_add]
  exact Nat.mul_lt_mul'' (lt_pow a) (lt_pow b)
theorem dlen_val {xs : List Nat} (h : D xs) : (dgs (val xs)).length ≤ xs.length := len_le (val_lt h)
set_option maxHeartbeats 1000000 in
theorem add_raw (s t : Bool) (xs ys : List Nat) (hlx : xs.length ≤ 100000000) (hly : ys.length ≤ 100000000) (hX : D xs) (hY : D ys) : Pu Tryz.prog 184 [raw s xs, raw t ys] (int (sv s (val xs) + sv t (val ys))) := by
  have hl1 := dlen_val hX
  have hl2 := dlen_val hY
  have s1 := sub_nat xs ys hlx hly hX hY
  have s2 := sub_nat ys xs hly hlx hY hX
  by_cases hst : s = t
  · subst hst
    have hl := dlen_add (val xs) (val ys)
    rw [← sv_add]
    cases s
    all_goals
      refine Pu.intro Tryz.func184 rfl (by kernel_rfl) fun C => ?_
      repeat (refine A1 ⟨?_⟩; intros)
      refine Wdc (add_nat xs ys hlx hly hX hY) ?_
      repeat (refine A1 ⟨?_⟩; intros)
      refine Wdc (signed_pu _ (val xs + val ys) (by omega)) ?_
      repeat (refine A1 ⟨?_⟩; intros)
      ((first | refine endR ?_ | refine endN ?_); refine end1 (RV.cellA rfl (by (first | exact List.mem_cons_self | exact (List.mem_cons_of_mem _ List.mem_cons_self) | exact (List.mem_cons_of_mem _ (List.mem_cons_of_mem _ List.mem_cons_self)) | exact (List.mem_cons_of_mem _ (List.mem_cons_of_mem _ (List.mem_cons_of_mem _ List.mem_cons_self))) | exact (List.mem_cons_of_mem _ (List.mem_cons_of_mem _ (List.mem_cons_of_mem _ (List.mem_cons_of_mem _ List.mem_cons_self)))) | exact (List.mem_cons_of_mem _ (List.mem_cons_of_mem _ (List.mem_cons_of_mem _ (List.mem_cons_of_mem _ (List.mem_cons_of_mem _ List.mem_cons_self))))) | exact (List.mem_cons_of_mem _ (List.mem_cons_of_mem _ (List.mem_cons_of_mem _ (List.mem_cons_of_mem _ (List.mem_cons_of_mem _ (List.mem_cons_of_mem _ List.mem_cons_self)))))) | exact (List.mem_cons_of_mem _ (List.mem_cons_of_mem _ (List.mem_cons_of_mem _ (List.mem_cons_of_mem _ (List.mem_cons_of_mem _ (List.mem_cons_of_mem _ (List.mem_cons_of_mem _ List.mem_cons_self))))))))) (by (first | (simp only [List.drop_succ_cons, List.drop_zero, List.drop_nil, List.take_succ_cons, List.take_zero, List.take_nil, Nat.zero_add, Nat.add_zero, Nat.reduceAdd]; done) | (simp only [List.drop_succ_cons, List.drop_zero, List.drop_nil, List.take_succ_cons, List.take_zero, List.take_nil, Nat.zero_add, Nat.add_zero, Nat.reduceAdd]; exact rfl) | exact rfl)) rfl) (Le.refl _))
  · by_cases hlt : val xs < val ys
    · rw [if_pos hlt] at s1
      rw [if_neg (by omega)] at s2
      have hl := len_mono (Nat.sub_le (val ys) (val xs))
      rw [Int.add_comm, ← sv_sub t s (Ne.symm hst) (by omega)]
      cases s <;> cases t <;> first | exact absurd rfl hst | skip
      all_goals
        refine Pu.intro Tryz.func184 rfl (by kernel_rfl) fun C => ?_
        repeat (refine A1 ⟨?_⟩; intros)
        refine Wc s1 ?_
        repeat (refine A1 ⟨?_⟩; intros)
        refine Wc s2 ?_
        repeat (refine A1 ⟨?_⟩; intros)
        refine Wc (signed_pu _ (val ys - val xs) (by omega)) ?_
        repeat (refine A1 ⟨?_⟩; intros)
        ((first | refine endR ?_ | refine endN ?_); refine end1 (RV.cellA rfl (by (first | exact List.mem_cons_self | exact (List.mem_cons_of_mem _ List.mem_cons_self) | exact (List.mem_cons_of_mem _ (List.mem_cons_of_mem _ List.mem_cons_self)) | exact (List.mem_cons_of_mem _ (List.mem_cons_of_mem _ (List.mem_cons_of_mem _ List.mem_cons_self))) | exact (List.mem_cons_of_mem _ (List.mem_cons_of_mem _ (List.mem_cons_of_mem _ (List.mem_cons_of_mem _ List.mem_cons_self)))) | exact (List.mem_cons_of_mem _ (List.mem_cons_of_mem _ (List.mem_cons_of_mem _ (List.mem_cons_of_mem _ (List.mem_cons_of_mem _ List.mem_cons_self))))) | exact (List.mem_cons_of_mem _ (List.mem_cons_of_mem _ (List.mem_cons_of_mem _ (List.mem_cons_of_mem _ (List.mem_cons_of_mem _ (List.mem_cons_of_mem _ List.mem_cons_self)))))) | exact (List.mem_cons_of_mem _ (List.mem_cons_of_mem _ (List.mem_cons_of_mem _ (List.mem_cons_of_mem _ (List.mem_cons_of_mem _ (List.mem_cons_of_mem _ (List.mem_cons_of_mem _ List.mem_cons_self))))))))) (by (first | (simp only [List.drop_succ_cons, List.drop_zero, List.drop_nil, List.take_succ_cons, List.take_zero, List.take_nil, Nat.zero_add, Nat.add_zero, Nat.reduceAdd]; done) | (simp only [List.drop_succ_cons, List.drop_zero, List.drop_nil, List.take_succ_cons, List.take_zero, List.take_nil, Nat.zero_add, Nat.add_zero, Nat.reduceAdd]; exact rfl) | exact rfl)) rfl) (Le.refl _))
    · rw [if_neg (by omega)] at s1
      have hl := len_mono (Nat.sub_le (val xs) (val ys))
      rw [← sv_sub s t hst (by omega)]
      cases s <;> cases t <;> first | exact absurd rfl hst | skip
      all_goals
        refine Pu.intro Tryz.func184 rfl (by kernel_rfl) fun C => ?_
        repeat (refine A1 ⟨?_⟩; intros)
        refine Wc s1 ?_
        repeat (refine A1 ⟨?_⟩; intros)
        refine Wc (signed_pu _ (val xs - val ys) (by omega)) ?_
        repeat (refine A1 ⟨?_⟩; intros)
        ((first | refine endR ?_ | refine endN ?_); refine end1 (RV.cellA rfl (by (first | exact List.mem_cons_self | exact (List.mem_cons_of_mem _ List.mem_cons_self) | exact (List.mem_cons_of_mem _ (List.mem_cons_of_mem _ List.mem_cons_self)) | exact (List.mem_cons_of_mem _ (List.mem_cons_of_mem _ (List.mem_cons_of_mem _ List.mem_cons_self))) | exact (List.mem_cons_of_mem _ (List.mem_cons_of_mem _ (List.mem_cons_of_mem _ (List.mem_cons_of_mem _ List.mem_cons_self)))) | exact (List.mem_cons_of_mem _ (List.mem_cons_of_mem _ (List.mem_cons_of_mem _ (List.mem_cons_of_mem _ (List.mem_cons_of_mem _ List.mem_cons_self))))) | exact (List.mem_cons_of_mem _ (List.mem_cons_of_mem _ (List.mem_cons_of_mem _ (List.mem_cons_of_mem _ (List.mem_cons_of_mem _ (List.mem_cons_of_mem _ List.mem_cons_self)))))) | exact (List.mem_cons_of_mem _ (List.mem_cons_of_mem _ (List.mem_cons_of_mem _ (List.mem_cons_of_mem _ (List.mem_cons_of_mem _ (List.mem_cons_of_mem _ (List.mem_cons_of_mem _ List.mem_cons_self))))))))) (by (first | (simp only [List.drop_succ_cons, List.drop_zero, List.drop_nil, List.take_succ_cons, List.take_zero, List.take_nil, Nat.zero_add, Nat.add_zero, Nat.reduceAdd]; done) | (simp only [List.drop_succ_cons, List.drop_zero, List.drop_nil, List.take_succ_cons, List.take_zero, List.take_nil, Nat.zero_add, Nat.add_zero, Nat.reduceAdd]; exact rfl) | exact rfl)) rfl) (Le.refl _))
end Go.Ab
