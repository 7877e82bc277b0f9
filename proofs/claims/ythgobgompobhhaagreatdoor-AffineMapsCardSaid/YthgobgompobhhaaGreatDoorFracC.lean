/- Package frac: reading and making. -/
import Derived.Test.YthgobgompobhhaaGreatDoorFracB
namespace Go.Ab
open Go.Proofs
set_option linter.unusedSectionVars false
variable [Base]
/-- the digits of an integer and of a rational -/
theorem dgs_one : dgs 1 = [1] := by rw [dgs]; simp [dgs_zero]
def il (a : Int) : Nat := (dgs a.natAbs).length
def ht (x : Rat) : Nat := max (il x.num) (dgs x.den).length
theorem il_mul (a b : Int) : il (a * b) ≤ il a + il b := by unfold il; rw [Int.natAbs_mul]; exact dlen_mul _ _
theorem il_nat (n : Nat) : il (n : Int) = (dgs n).length := rfl
theorem il_add (a b : Int) : il (a + b) ≤ max (il a) (il b) + 1 := Nat.le_trans (len_mono (Int.natAbs_add_le a b)) (dlen_add _ _)
theorem il_neg (a : Int) : il (-a) = il a := by unfold il; rw [Int.natAbs_neg]
theorem ht_num (x : Rat) : il x.num ≤ ht x := Nat.le_max_left _ _
theorem ht_den (x : Rat) : (dgs x.den).length ≤ ht x := Nat.le_max_right _ _
theorem ht_neg (x : Rat) : ht (-x) = ht x := by unfold ht; rw [Rat.neg_num, Rat.neg_den, il_neg]
theorem ht_mk (a : Int) (d : Nat) : ht (mkRat a d) ≤ max (il a) (max (dgs d).length 1) := by
  by_cases h : d = 0
  · subst h; rw [Rat.mkRat_zero]
    refine Nat.le_trans (Nat.max_le.2 ⟨?_, ?_⟩) (Nat.le_trans (Nat.le_max_right _ _) (Nat.le_max_right _ _))
    · show (dgs 0).length ≤ 1; rw [dgs_zero]; decide
    · exact len_le (by decide)
  · obtain ⟨e1, e2⟩ := mk_num a h
    have h1 : il (mkRat a d).num ≤ il a := by
      rw [e1]; refine len_mono ?_
      have hga : ((Int.gcd a d : Nat) : Int) ∣ a := Int.gcd_dvd_left a (d : Int)
      rw [← Int.tdiv_eq_ediv_of_dvd hga, Int.natAbs_tdiv]; exact Nat.div_le_self _ _
    have h2 : (dgs (mkRat a d).den).length ≤ (dgs d).length := by rw [e2]; exact len_mono (Nat.div_le_self _ _)
    unfold ht; omega
theorem ht_add (x y : Rat) : ht (x + y) ≤ ht x + ht y + 1 := by
  rw [Rat.add_def']
  refine Nat.le_trans (ht_mk _ _) ?_
  have a1 := il_add (x.num * y.den) (y.num * x.den)
  have a2 := il_mul x.num y.den
  have a3 := il_mul y.num x.den
  have a4 := dlen_mul x.den y.den
  rw [il_nat] at a2 a3
  have b1 := ht_num x
  have b2 := ht_den x
  have b3 := ht_num y
  have b4 := ht_den y
  omega
theorem ht_mul (x y : Rat) : ht (x * y) ≤ ht x + ht y + 1 := by
  rw [Rat.mul_def']
  refine Nat.le_trans (ht_mk _ _) ?_
  have a1 := il_mul x.num y.num
  have a4 := dlen_mul x.den y.den
  have b1 := ht_num x
  have b2 := ht_den x
  have b3 := ht_num y
  have b4 := ht_den y
  omega
theorem ht_sub (x y : Rat) : ht (x - y) ≤ ht x + ht y + 1 := by
  rw [Rat.sub_eq_add_neg]; have := ht_add x (-y); rwa [ht_neg] at this
abbrev qraw (s : Bool) (xs ys : List Nat) : SV := ag [lit (.bool s), dg xs, dg ys]
abbrev q (x : Rat) : SV := ag [lit (.bool (decide (x.num < 0))), nat x.num.natAbs, nat x.den]
theorem norm_int (a : Int) (h : il a ≤ 1000000000) : Pu Tryz.prog 152 [int a] (int a) := by
  have := norm_raw (decide (a < 0)) (dgs a.natAbs) h (D_dgs _)
  rwa [val_dgs, sv_int] at this
theorem neg_int (a : Int) (h : il a ≤ 1000000000) : Pu Tryz.prog 160 [int a] (int (-a)) := by
  have := neg_raw (decide (a < 0)) (dgs a.natAbs) h (D_dgs _)
  rwa [val_dgs, sv_int] at this
theorem norm_n (n : Nat) (h : (dgs n).length ≤ 1000000000) : Pu Tryz.prog 153 [nat n] (nat n) := by
  have := norm_nat (dgs n) h (D_dgs _)
  rwa [val_dgs] at this
theorem mul_n (a b : Nat) (h1 : (dgs a).length ≤ 100000000) (h2 : (dgs b).length ≤ 100000000) : Pu Tryz.prog 169 [nat a, nat b] (nat (a * b)) := by
  have := mul_nat (dgs a) (dgs b) h1 h2 (D_dgs _) (D_dgs _)
  rwa [val_dgs, val_dgs] at this
theorem mul_int (a b : Int) (h1 : il a ≤ 100000000) (h2 : il b ≤ 100000000) : Pu Tryz.prog 183 [int a, int b] (int (a * b)) := by
  have := mul_raw (decide (a < 0)) (decide (b < 0)) (dgs a.natAbs) (dgs b.natAbs) h1 h2 (D_dgs _) (D_dgs _)
  rwa [val_dgs, val_dgs, sv_int, sv_int] at this
theorem mul_inat (a : Int) (n : Nat) (h1 : il a ≤ 100000000) (h2 : (dgs n).length ≤ 100000000) : Pu Tryz.prog 183 [int a, raw false (dgs n)] (int (a * n)) := by
  have := mul_int a n h1 h2
  rwa [int_nat] at this
theorem add_int (a b : Int) (h1 : il a ≤ 100000000) (h2 : il b ≤ 100000000) : Pu Tryz.prog 184 [int a, int b] (int (a + b)) := by
  have := add_raw (decide (a < 0)) (decide (b < 0)) (dgs a.natAbs) (dgs b.natAbs) h1 h2 (D_dgs _) (D_dgs _)
  rwa [val_dgs, val_dgs, sv_int, sv_int] at this
theorem reduce_int (a : Int) (n : Nat) (h1 : il a ≤ 10000000) (h2 : (dgs n).length ≤ 10000000) : Pu Tryz.prog 104 [int a, nat n] (fr (mkRat a n)) := by
  have := reduce_pu (decide (a < 0)) (dgs a.natAbs) (dgs n) h1 h2 (D_dgs _) (D_dgs _)
  rwa [val_dgs, val_dgs, sv_int] at this
theorem of_raw (s : Bool) (xs ys : List Nat) (hlx : xs.length ≤ 10000000) (hly : ys.length ≤ 10000000) (hX : D xs) (hY : D ys) : Pu Tryz.prog 101 [qraw s xs ys] (fr (mkRat (sv s (val xs)) (val ys))) := by
  refine Pu.intro Tryz.func101 rfl (by kernel_rfl) fun C => ?_
  repeat (refine A1 ⟨?_⟩; intros)
  refine Wc (reduce_pu s xs ys hlx hly hX hY) ?_
  repeat (refine A1 ⟨?_⟩; intros)
  ((first | refine endR ?_ | refine endN ?_); refine end1 (RV.cellA rfl (by (first | exact List.mem_cons_self | exact (List.mem_cons_of_mem _ List.mem_cons_self) | exact (List.mem_cons_of_mem _ (List.mem_cons_of_mem _ List.mem_cons_self)) | exact (List.mem_cons_of_mem _ (List.mem_cons_of_mem _ (List.mem_cons_of_mem _ List.mem_cons_self))) | exact (List.mem_cons_of_mem _ (List.mem_cons_of_mem _ (List.mem_cons_of_mem _ (List.mem_cons_of_mem _ List.mem_cons_self)))) | exact (List.mem_cons_of_mem _ (List.mem_cons_of_mem _ (List.mem_cons_of_mem _ (List.mem_cons_of_mem _ (List.mem_cons_of_mem _ List.mem_cons_self))))) | exact (List.mem_cons_of_mem _ (List.mem_cons_of_mem _ (List.mem_cons_of_mem _ (List.mem_cons_of_mem _ (List.mem_cons_of_mem _ (List.mem_cons_of_mem _ List.mem_cons_self)))))) | exact (List.mem_cons_of_mem _ (List.mem_cons_of_mem _ (List.mem_cons_of_mem _ (List.mem_cons_of_mem _ (List.mem_cons_of_mem _ (List.mem_cons_of_mem _ (List.mem_cons_of_mem _ List.mem_cons_self))))))))) (by (first | (simp only [List.drop_succ_cons, List.drop_zero, List.drop_nil, List.take_succ_cons, List.take_zero, List.take_nil, Nat.zero_add, Nat.add_zero, Nat.reduceAdd]; done) | (simp only [List.drop_succ_cons, List.drop_zero, List.drop_nil, List.take_succ_cons, List.take_zero, List.take_nil, Nat.zero_add, Nat.add_zero, Nat.reduceAdd]; exact rfl) | exact rfl)) rfl) (Le.refl _))
theorem fint_pu (z : Int) (h0 : -9223372036854775808 ≤ z) (h1 : z ≤ 9223372036854775807) : Pu Tryz.prog 53 [lit (.int .i64 z)] (fr (z : Rat)) := by
  have hil : il z ≤ 10000000 := Nat.le_trans (len_le (n := z.natAbs) (k := 2) (by omega)) (by omega)
  have r := reduce_pu (decide (z < 0)) (dgs z.natAbs) [1] hil (by decide) (D_dgs _) (D.cons (by omega) D.nil)
  rw [val_dgs, sv_int, show val [1] = 1 from rfl, Rat.mkRat_one] at r
  by_cases ha : z ≤ -4611686018427387904
  · refine Pu.intro Tryz.func53 rfl (by kernel_rfl) fun C => ?_
    repeat (refine A1 ⟨?_⟩; intros)
    refine Wc (fromInt_pu z h0 h1) ?_
    repeat (refine A1 ⟨?_⟩; intros)
    refine WpubD (ds := [1]) 11 rfl (HDel.here _) rfl (by omega) (by omega) ?_
    refine Wc r ?_
    repeat (refine A1 ⟨?_⟩; intros)
    ((first | refine endR ?_ | refine endN ?_); refine end1 (RV.cellA rfl (by (first | exact List.mem_cons_self | exact (List.mem_cons_of_mem _ List.mem_cons_self) | exact (List.mem_cons_of_mem _ (List.mem_cons_of_mem _ List.mem_cons_self)) | exact (List.mem_cons_of_mem _ (List.mem_cons_of_mem _ (List.mem_cons_of_mem _ List.mem_cons_self))) | exact (List.mem_cons_of_mem _ (List.mem_cons_of_mem _ (List.mem_cons_of_mem _ (List.mem_cons_of_mem _ List.mem_cons_self)))) | exact (List.mem_cons_of_mem _ (List.mem_cons_of_mem _ (List.mem_cons_of_mem _ (List.mem_cons_of_mem _ (List.mem_cons_of_mem _ List.mem_cons_self))))) | exact (List.mem_cons_of_mem _ (List.mem_cons_of_mem _ (List.mem_cons_of_mem _ (List.mem_cons_of_mem _ (List.mem_cons_of_mem _ (List.mem_cons_of_mem _ List.mem_cons_self)))))) | exact (List.mem_cons_of_mem _ (List.mem_cons_of_mem _ (List.mem_cons_of_mem _ (List.mem_cons_of_mem _ (List.mem_cons_of_mem _ (List.mem_cons_of_mem _ (List.mem_cons_of_mem _ List.mem_cons_self))))))))) (by (first | (simp only [List.drop_succ_cons, List.drop_zero, List.drop_nil, List.take_succ_cons, List.take_zero, List.take_nil, Nat.zero_add, Nat.add_zero, Nat.reduceAdd]; done) | (simp only [List.drop_succ_cons, List.drop_zero, List.drop_nil, List.take_succ_cons, List.take_zero, List.take_nil, Nat.zero_add, Nat.add_zero, Nat.reduceAdd]; exact rfl) | exact rfl)) rfl) (Le.refl _))
  · by_cases hb : 4611686018427387904 ≤ z
    · refine Pu.intro Tryz.func53 rfl (by kernel_rfl) fun C => ?_
      repeat (refine A1 ⟨?_⟩; intros)
      refine Wc (fromInt_pu z h0 h1) ?_
      repeat (refine A1 ⟨?_⟩; intros)
      refine WpubD (ds := [1]) 11 rfl (HDel.here _) rfl (by omega) (by omega) ?_
      refine Wc r ?_
      repeat (refine A1 ⟨?_⟩; intros)
      ((first | refine endR ?_ | refine endN ?_); refine end1 (RV.cellA rfl (by (first | exact List.mem_cons_self | exact (List.mem_cons_of_mem _ List.mem_cons_self) | exact (List.mem_cons_of_mem _ (List.mem_cons_of_mem _ List.mem_cons_self)) | exact (List.mem_cons_of_mem _ (List.mem_cons_of_mem _ (List.mem_cons_of_mem _ List.mem_cons_self))) | exact (List.mem_cons_of_mem _ (List.mem_cons_of_mem _ (List.mem_cons_of_mem _ (List.mem_cons_of_mem _ List.mem_cons_self)))) | exact (List.mem_cons_of_mem _ (List.mem_cons_of_mem _ (List.mem_cons_of_mem _ (List.mem_cons_of_mem _ (List.mem_cons_of_mem _ List.mem_cons_self))))) | exact (List.mem_cons_of_mem _ (List.mem_cons_of_mem _ (List.mem_cons_of_mem _ (List.mem_cons_of_mem _ (List.mem_cons_of_mem _ (List.mem_cons_of_mem _ List.mem_cons_self)))))) | exact (List.mem_cons_of_mem _ (List.mem_cons_of_mem _ (List.mem_cons_of_mem _ (List.mem_cons_of_mem _ (List.mem_cons_of_mem _ (List.mem_cons_of_mem _ (List.mem_cons_of_mem _ List.mem_cons_self))))))))) (by (first | (simp only [List.drop_succ_cons, List.drop_zero, List.drop_nil, List.take_succ_cons, List.take_zero, List.take_nil, Nat.zero_add, Nat.add_zero, Nat.reduceAdd]; done) | (simp only [List.drop_succ_cons, List.drop_zero, List.drop_nil, List.take_succ_cons, List.take_zero, List.take_nil, Nat.zero_add, Nat.add_zero, Nat.reduceAdd]; exact rfl) | exact rfl)) rfl) (Le.refl _))
    · have hs : small (z : Rat) := by unfold small; rw [Rat.num_intCast, Rat.den_intCast]; omega
      rw [fr_s hs, Rat.num_intCast, Rat.den_intCast]
      refine Pu.intro Tryz.func53 rfl (by kernel_rfl) fun C => ?_
      repeat (refine A1 ⟨?_⟩; intros)
      ((first | refine endR ?_ | refine endN ?_); refine end1 (RV.cellA rfl (by (first | exact List.mem_cons_self | exact (List.mem_cons_of_mem _ List.mem_cons_self) | exact (List.mem_cons_of_mem _ (List.mem_cons_of_mem _ List.mem_cons_self)) | exact (List.mem_cons_of_mem _ (List.mem_cons_of_mem _ (List.mem_cons_of_mem _ List.mem_cons_self))) | exact (List.mem_cons_of_mem _ (List.mem_cons_of_mem _ (List.mem_cons_of_mem _ (List.mem_cons_of_mem _ List.mem_cons_self)))) | exact (List.mem_cons_of_mem _ (List.mem_cons_of_mem _ (List.mem_cons_of_mem _ (List.mem_cons_of_mem _ (List.mem_cons_of_mem _ List.mem_cons_self))))) | exact (List.mem_cons_of_mem _ (List.mem_cons_of_mem _ (List.mem_cons_of_mem _ (List.mem_cons_of_mem _ (List.mem_cons_of_mem _ (List.mem_cons_of_mem _ List.mem_cons_self)))))) | exact (List.mem_cons_of_mem _ (List.mem_cons_of_mem _ (List.mem_cons_of_mem _ (List.mem_cons_of_mem _ (List.mem_cons_of_mem _ (List.mem_cons_of_mem _ (List.mem_cons_of_mem _ List.mem_cons_self))))))))) (by (first | (simp only [List.drop_succ_cons, List.drop_zero, List.drop_nil, List.take_succ_cons, List.take_zero, List.take_nil, Nat.zero_add, Nat.add_zero, Nat.reduceAdd]; done) | (simp only [List.drop_succ_cons, List.drop_zero, List.drop_nil, List.take_succ_cons, List.take_zero, List.take_nil, Nat.zero_add, Nat.add_zero, Nat.reduceAdd]; exact rfl) | exact rfl)) rfl) (Le.refl _))
theorem num_pu (x : Rat) (h : ht x ≤ 10000000) : Pu Tryz.prog 107 [fr x] (int x.num) := by
  have b1 := ht_num x
  by_cases hs : small x
  · rw [fr_s hs]
    have := hs.1
    refine Pu.intro Tryz.func107 rfl (by kernel_rfl) fun C => ?_
    repeat (refine A1 ⟨?_⟩; intros)
    refine Wc (fromInt_pu x.num (by omega) (by omega)) ?_
    repeat (refine A1 ⟨?_⟩; intros)
    ((first | refine endR ?_ | refine endN ?_); refine end1 (RV.cellA rfl (by (first | exact List.mem_cons_self | exact (List.mem_cons_of_mem _ List.mem_cons_self) | exact (List.mem_cons_of_mem _ (List.mem_cons_of_mem _ List.mem_cons_self)) | exact (List.mem_cons_of_mem _ (List.mem_cons_of_mem _ (List.mem_cons_of_mem _ List.mem_cons_self))) | exact (List.mem_cons_of_mem _ (List.mem_cons_of_mem _ (List.mem_cons_of_mem _ (List.mem_cons_of_mem _ List.mem_cons_self)))) | exact (List.mem_cons_of_mem _ (List.mem_cons_of_mem _ (List.mem_cons_of_mem _ (List.mem_cons_of_mem _ (List.mem_cons_of_mem _ List.mem_cons_self))))) | exact (List.mem_cons_of_mem _ (List.mem_cons_of_mem _ (List.mem_cons_of_mem _ (List.mem_cons_of_mem _ (List.mem_cons_of_mem _ (List.mem_cons_of_mem _ List.mem_cons_self)))))) | exact (List.mem_cons_of_mem _ (List.mem_cons_of_mem _ (List.mem_cons_of_mem _ (List.mem_cons_of_mem _ (List.mem_cons_of_mem _ (List.mem_cons_of_mem _ (List.mem_cons_of_mem _ List.mem_cons_self))))))))) (by (first | (simp only [List.drop_succ_cons, List.drop_zero, List.drop_nil, List.take_succ_cons, List.take_zero, List.take_nil, Nat.zero_add, Nat.add_zero, Nat.reduceAdd]; done) | (simp only [List.drop_succ_cons, List.drop_zero, List.drop_nil, List.take_succ_cons, List.take_zero, List.take_nil, Nat.zero_add, Nat.add_zero, Nat.reduceAdd]; exact rfl) | exact rfl)) rfl) (Le.refl _))
  · rw [fr_b hs]
    refine Pu.intro Tryz.func107 rfl (by kernel_rfl) fun C => ?_
    repeat (refine A1 ⟨?_⟩; intros)
    refine Wc (norm_int x.num (by omega)) ?_
    repeat (refine A1 ⟨?_⟩; intros)
    ((first | refine endR ?_ | refine endN ?_); refine end1 (RV.cellA rfl (by (first | exact List.mem_cons_self | exact (List.mem_cons_of_mem _ List.mem_cons_self) | exact (List.mem_cons_of_mem _ (List.mem_cons_of_mem _ List.mem_cons_self)) | exact (List.mem_cons_of_mem _ (List.mem_cons_of_mem _ (List.mem_cons_of_mem _ List.mem_cons_self))) | exact (List.mem_cons_of_mem _ (List.mem_cons_of_mem _ (List.mem_cons_of_mem _ (List.mem_cons_of_mem _ List.mem_cons_self)))) | exact (List.mem_cons_of_mem _ (List.mem_cons_of_mem _ (List.mem_cons_of_mem _ (List.mem_cons_of_mem _ (List.mem_cons_of_mem _ List.mem_cons_self))))) | exact (List.mem_cons_of_mem _ (List.mem_cons_of_mem _ (List.mem_cons_of_mem _ (List.mem_cons_of_mem _ (List.mem_cons_of_mem _ (List.mem_cons_of_mem _ List.mem_cons_self)))))) | exact (List.mem_cons_of_mem _ (List.mem_cons_of_mem _ (List.mem_cons_of_mem _ (List.mem_cons_of_mem _ (List.mem_cons_of_mem _ (List.mem_cons_of_mem _ (List.mem_cons_of_mem _ List.mem_cons_self))))))))) (by (first | (simp only [List.drop_succ_cons, List.drop_zero, List.drop_nil, List.take_succ_cons, List.take_zero, List.take_nil, Nat.zero_add, Nat.add_zero, Nat.reduceAdd]; done) | (simp only [List.drop_succ_cons, List.drop_zero, List.drop_nil, List.take_succ_cons, List.take_zero, List.take_nil, Nat.zero_add, Nat.add_zero, Nat.reduceAdd]; exact rfl) | exact rfl)) rfl) (Le.refl _))
theorem den_pu (x : Rat) (h : ht x ≤ 10000000) : Pu Tryz.prog 108 [fr x] (nat x.den) := by
  have b1 := ht_den x
  by_cases hs : small x
  · rw [fr_s hs]
    have := hs.2
    refine Pu.intro Tryz.func108 rfl (by kernel_rfl) fun C => ?_
    repeat (refine A1 ⟨?_⟩; intros)
    rw [Int.sub_add_cancel]
    refine Wc (fromUint_nat x.den (by omega)) ?_
    repeat (refine A1 ⟨?_⟩; intros)
    ((first | refine endR ?_ | refine endN ?_); exact end1 (RV.tmp rfl) (Le.refl _))
  · rw [fr_b hs]
    refine Pu.intro Tryz.func108 rfl (by kernel_rfl) fun C => ?_
    repeat (refine A1 ⟨?_⟩; intros)
    refine Wc (norm_n x.den (by omega)) ?_
    repeat (refine A1 ⟨?_⟩; intros)
    ((first | refine endR ?_ | refine endN ?_); exact end1 (RV.tmp rfl) (Le.refl _))
theorem api_pu (x : Rat) (h : ht x ≤ 10000000) : Pu Tryz.prog 58 [fr x] (q x) := by
  refine Pu.intro Tryz.func58 rfl (by kernel_rfl) fun C => ?_
  repeat (refine A1 ⟨?_⟩; intros)
  refine Wdc (num_pu x h) ?_
  repeat (refine A1 ⟨?_⟩; intros)
  refine Wdc (den_pu x h) ?_
  repeat (refine A1 ⟨?_⟩; intros)
  ((first | refine endR ?_ | refine endN ?_); refine end1 (RV.cellA rfl (by (first | exact List.mem_cons_self | exact (List.mem_cons_of_mem _ List.mem_cons_self) | exact (List.mem_cons_of_mem _ (List.mem_cons_of_mem _ List.mem_cons_self)) | exact (List.mem_cons_of_mem _ (List.mem_cons_of_mem _ (List.mem_cons_of_mem _ List.mem_cons_self))) | exact (List.mem_cons_of_mem _ (List.mem_cons_of_mem _ (List.mem_cons_of_mem _ (List.mem_cons_of_mem _ List.mem_cons_self)))) | exact (List.mem_cons_of_mem _ (List.mem_cons_of_mem _ (List.mem_cons_of_mem _ (List.mem_cons_of_mem _ (List.mem_cons_of_mem _ List.mem_cons_self))))) | exact (List.mem_cons_of_mem _ (List.mem_cons_of_mem _ (List.mem_cons_of_mem _ (List.mem_cons_of_mem _ (List.mem_cons_of_mem _ (List.mem_cons_of_mem _ List.mem_cons_self)))))) | exact (List.mem_cons_of_mem _ (List.mem_cons_of_mem _ (List.mem_cons_of_mem _ (List.mem_cons_of_mem _ (List.mem_cons_of_mem _ (List.mem_cons_of_mem _ (List.mem_cons_of_mem _ List.mem_cons_self))))))))) (by (first | (simp only [List.drop_succ_cons, List.drop_zero, List.drop_nil, List.take_succ_cons, List.take_zero, List.take_nil, Nat.zero_add, Nat.add_zero, Nat.reduceAdd]; done) | (simp only [List.drop_succ_cons, List.drop_zero, List.drop_nil, List.take_succ_cons, List.take_zero, List.take_nil, Nat.zero_add, Nat.add_zero, Nat.reduceAdd]; exact rfl) | exact rfl)) rfl) (Le.refl _))
theorem small_neg {x : Rat} : small (-x) ↔ small x := by unfold small; rw [Rat.neg_num, Rat.neg_den, Int.natAbs_neg]
theorem rneg_pu (x : Rat) (h : ht x ≤ 10000000) : Pu Tryz.prog 117 [fr x] (fr (-x)) := by
  have b1 := ht_num x
  by_cases hs : small x
  · rw [fr_s hs, fr_s (small_neg.2 hs), Rat.neg_num, Rat.neg_den]
    have h1 := hs.1
    have h2 := hs.2
    refine Pu.intro Tryz.func117 rfl (by kernel_rfl) fun C => ?_
    repeat (refine A1 ⟨?_⟩; intros)
    ((first | refine endR ?_ | refine endN ?_); refine end1 (RV.cellA rfl (by (first | exact List.mem_cons_self | exact (List.mem_cons_of_mem _ List.mem_cons_self) | exact (List.mem_cons_of_mem _ (List.mem_cons_of_mem _ List.mem_cons_self)) | exact (List.mem_cons_of_mem _ (List.mem_cons_of_mem _ (List.mem_cons_of_mem _ List.mem_cons_self))) | exact (List.mem_cons_of_mem _ (List.mem_cons_of_mem _ (List.mem_cons_of_mem _ (List.mem_cons_of_mem _ List.mem_cons_self)))) | exact (List.mem_cons_of_mem _ (List.mem_cons_of_mem _ (List.mem_cons_of_mem _ (List.mem_cons_of_mem _ (List.mem_cons_of_mem _ List.mem_cons_self))))) | exact (List.mem_cons_of_mem _ (List.mem_cons_of_mem _ (List.mem_cons_of_mem _ (List.mem_cons_of_mem _ (List.mem_cons_of_mem _ (List.mem_cons_of_mem _ List.mem_cons_self)))))) | exact (List.mem_cons_of_mem _ (List.mem_cons_of_mem _ (List.mem_cons_of_mem _ (List.mem_cons_of_mem _ (List.mem_cons_of_mem _ (List.mem_cons_of_mem _ (List.mem_cons_of_mem _ List.mem_cons_self))))))))) (by (first | (simp only [List.drop_succ_cons, List.drop_zero, List.drop_nil, List.take_succ_cons, List.take_zero, List.take_nil, Nat.zero_add, Nat.add_zero, Nat.reduceAdd]; done) | (simp only [List.drop_succ_cons, List.drop_zero, List.drop_nil, List.take_succ_cons, List.take_zero, List.take_nil, Nat.zero_add, Nat.add_zero, Nat.reduceAdd]; exact rfl) | exact rfl)) rfl) (Le.refl _))
  · rw [fr_b hs, fr_b (fun h => hs (small_neg.1 h)), Rat.neg_num, Rat.neg_den]
    refine Pu.intro Tryz.func117 rfl (by kernel_rfl) fun C => ?_
    repeat (refine A1 ⟨?_⟩; intros)
    refine Wdc (neg_int x.num (by omega)) ?_
    repeat (refine A1 ⟨?_⟩; intros)
    refine Wdo (ov_boxP (by exact Eq.refl (ag _))) ?_
    repeat (refine A1 ⟨?_⟩; intros)
    ((first | refine endR ?_ | refine endN ?_); refine end1 (RV.cellA rfl (by (first | exact List.mem_cons_self | exact (List.mem_cons_of_mem _ List.mem_cons_self) | exact (List.mem_cons_of_mem _ (List.mem_cons_of_mem _ List.mem_cons_self)) | exact (List.mem_cons_of_mem _ (List.mem_cons_of_mem _ (List.mem_cons_of_mem _ List.mem_cons_self))) | exact (List.mem_cons_of_mem _ (List.mem_cons_of_mem _ (List.mem_cons_of_mem _ (List.mem_cons_of_mem _ List.mem_cons_self)))) | exact (List.mem_cons_of_mem _ (List.mem_cons_of_mem _ (List.mem_cons_of_mem _ (List.mem_cons_of_mem _ (List.mem_cons_of_mem _ List.mem_cons_self))))) | exact (List.mem_cons_of_mem _ (List.mem_cons_of_mem _ (List.mem_cons_of_mem _ (List.mem_cons_of_mem _ (List.mem_cons_of_mem _ (List.mem_cons_of_mem _ List.mem_cons_self)))))) | exact (List.mem_cons_of_mem _ (List.mem_cons_of_mem _ (List.mem_cons_of_mem _ (List.mem_cons_of_mem _ (List.mem_cons_of_mem _ (List.mem_cons_of_mem _ (List.mem_cons_of_mem _ List.mem_cons_self))))))))) (by (first | (simp only [List.drop_succ_cons, List.drop_zero, List.drop_nil, List.take_succ_cons, List.take_zero, List.take_nil, Nat.zero_add, Nat.add_zero, Nat.reduceAdd]; done) | (simp only [List.drop_succ_cons, List.drop_zero, List.drop_nil, List.take_succ_cons, List.take_zero, List.take_nil, Nat.zero_add, Nat.add_zero, Nat.reduceAdd]; exact rfl) | exact rfl)) rfl) (Le.refl _))
end Go.Ab
