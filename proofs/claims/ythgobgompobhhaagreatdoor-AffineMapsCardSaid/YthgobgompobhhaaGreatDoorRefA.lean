/- The reference's numbers: digits. -/
import Derived.Test.YthgobgompobhhaaGreatDoorNatC
import Derived.Test.YthgobgompobhhaaGreatDoorUtil
namespace Go.Ab
open Go.Proofs
set_option linter.unusedSectionVars false
variable [Base]
theorem rtrim_pu (ds : List Nat) (hl : ds.length ≤ 1000000000) : Pu Tryz.prog 120 [dg ds] (dg (trimL ds)) := by
  refine Pu.intro Tryz.func120 rfl (by kernel_rfl) fun C => ?_
  repeat (refine A1 ⟨?_⟩; intros)
  refine WP.loop (ι := Nat) (fun k => k ≤ ds.length ∧ trimL (ds.take k) = trimL ds) (fun k => k) (fun k => fm [(0, dg ds), (3, lit (.int .i64 k))]) (fun _ => []) ds.length ⟨Nat.le_refl _, by rw [List.take_length]⟩ (by (repeat (first | exact LeF.nil _ | refine LeF.cons (Le.refl _) ?_ | refine LeF.cons (Le.int (by omega)) ?_))) rfl ?_
  rintro k ⟨hk, ht⟩ K hK
  rcases k with _ | j
  · repeat (refine A1 ⟨?_⟩; intros)
    refine Wo (ov_toD 0 rfl rfl (by omega) (by omega)) ?_
    repeat (refine A1 ⟨?_⟩; intros)
    exact endR (end1 (RV.tmp rfl) (Le.of_eq (by rw [← ht]; rfl)))
  · repeat (refine AS ⟨?_⟩; intros)
    iterate 5 (refine O1 ⟨?_⟩; intros)
    refine Wog (ov_sub (r := (j : Int)) rfl rfl (wi64e (by omega) (by omega) (by omega))) ?_
    refine Wog (ov_idxD (i := j) rfl rfl (by omega)) ?_
    by_cases hd : ds.getD j 0 = 0
    · repeat (refine A1 ⟨?_⟩; intros)
      refine hK _ _ j ⟨by omega, ?_⟩ (by omega) (by (repeat (first | exact LeF.nil _ | refine LeF.cons (Le.refl _) ?_ | refine LeF.cons (Le.int (by omega)) ?_))) rfl
      rw [take_succ_getD ds j (by omega), hd, trimL_snoc_zero] at ht
      exact ht
    · rw [take_succ_getD ds j (by omega), trimL_snoc_ne _ _ hd, ← take_succ_getD ds j (by omega)] at ht
      repeat (refine A1 ⟨?_⟩; intros)
      refine Wo (ov_toD (j + 1) rfl rfl (by omega) (by omega)) ?_
      repeat (refine A1 ⟨?_⟩; intros)
      exact endR (end1 (RV.tmp (s := dg (List.take (j + 1) ds)) rfl) (Le.of_eq (by rw [ht])))
theorem rtrim_nat (ds : List Nat) (hl : ds.length ≤ 1000000000) (hD : D ds) : Pu Tryz.prog 120 [dg ds] (nat (val ds)) := by
  have := rtrim_pu ds hl; rwa [trimL_eq hD] at this
theorem word_pu (u : Nat) (hu : u < 18446744073709551616) : Pu Tryz.prog 103 [lit (.int .u64 u)] (nat u) := by
  have hD : D [u % 4294967296, u / 4294967296] := D.cons (by omega) (D.cons (by omega) D.nil)
  have hv : val [u % 4294967296, u / 4294967296] = u := by simp [val]; omega
  refine Pu.intro Tryz.func103 rfl (by kernel_rfl) fun C => ?_
  repeat (refine A1 ⟨?_⟩; intros)
  refine WpubD (ds := [u % 4294967296, u / 4294967296]) 8 rfl (HDel.here _) rfl (by omega) (by omega) ?_
  refine Wc (rtrim_nat _ (by simp) hD) ?_
  rw [hv]
  repeat (refine A1 ⟨?_⟩; intros)
  ((first | refine endR ?_ | refine endN ?_); exact end1 (RV.tmp rfl) (Le.refl _))
theorem dgs_one : dgs 1 = [1] := by rw [dgs]; simp [dgs_zero]
theorem one_pu : Pu Tryz.prog 109 [] (nat 1) := by
  rw [nat, dgs_one]
  refine Pu.intro Tryz.func109 rfl (by kernel_rfl) fun C => ?_
  repeat (refine AS ⟨?_⟩; intros)
  (refine O1 ⟨?_⟩; intros)
  repeat (refine AS ⟨?_⟩; intros)
  iterate 1 (refine O1 ⟨?_⟩; intros)
  refine WpubD (ds := [1]) 1 rfl (HDel.here _) rfl (by omega) (by omega) ?_
  repeat (refine A1 ⟨?_⟩; intros)
  ((first | refine endR ?_ | refine endN ?_); exact end1 (RV.tmp rfl) (Le.refl _))
theorem sign_pu (z : Int) : Pu Tryz.prog 162 [lit (.int .i64 z)] (lit (.int .i64 z.sign)) := by
  rcases Int.lt_trichotomy z 0 with h | h | h
  · rw [Int.sign_eq_neg_one_of_neg h]
    refine Pu.intro Tryz.func162 rfl (by kernel_rfl) fun C => ?_
    repeat (refine A1 ⟨?_⟩; intros)
    ((first | refine endR ?_ | refine endN ?_); exact end1 (RV.tmp rfl) (Le.refl _))
  · subst h
    refine Pu.intro Tryz.func162 rfl (by kernel_rfl) fun C => ?_
    repeat (refine A1 ⟨?_⟩; intros)
    ((first | refine endR ?_ | refine endN ?_); exact end1 (RV.tmp rfl) (Le.refl _))
  · rw [Int.sign_eq_one_of_pos h]
    refine Pu.intro Tryz.func162 rfl (by kernel_rfl) fun C => ?_
    repeat (refine A1 ⟨?_⟩; intros)
    ((first | refine endR ?_ | refine endN ?_); exact end1 (RV.tmp rfl) (Le.refl _))
set_option maxHeartbeats 2000000 in
theorem rcmp_pu (a b : Nat) (h1 : (dgs a).length ≤ 1000000000) (h2 : (dgs b).length ≤ 1000000000) : Pu Tryz.prog 122 [nat a, nat b] (lit (.int .i64 (cmpN a b))) := by
  have hxa := val_dgs a
  have hxb := val_dgs b
  have hDa := D_dgs a
  have hDb := D_dgs b
  by_cases hlen : (dgs a).length = (dgs b).length
  · refine Pu.intro Tryz.func122 rfl (by kernel_rfl) fun C => ?_
    repeat (refine A1 ⟨?_⟩; intros)
    refine WP.loop (ι := Nat) (fun k => k ≤ (dgs a).length ∧ (dgs a).drop k = (dgs b).drop k) (fun k => k) (fun k => fm [(0, dg (dgs a)), (1, dg (dgs b)), (5, lit (.int .i64 ((k : Int) - 1)))]) (fun _ => []) (dgs a).length
      ⟨Nat.le_refl _, by rw [List.drop_length, hlen, List.drop_length]⟩ (by (repeat (first | exact LeF.nil _ | refine LeF.cons (Le.refl _) ?_ | refine LeF.cons (Le.int (by omega)) ?_))) rfl ?_
    rintro k ⟨hk, hd⟩ K hK
    rcases k with _ | j
    · repeat (refine A1 ⟨?_⟩; intros)
      ((first | refine endR ?_ | refine endN ?_); refine end1 (RV.tmp rfl) (Le.int ?_))
      simp only [List.drop_zero] at hd
      rw [dgs_inj hd, cmpN_eq]
    · rw [show (((j + 1 : Nat) : Int) - 1) = (j : Int) from by omega]
      rcases Nat.lt_trichotomy ((dgs a).getD j 0) ((dgs b).getD j 0) with hlt | heq | hgt
      · have hlt' := val_lt_at j hDa (by omega) (by omega) hd hlt
        rw [hxa, hxb] at hlt'
        repeat (refine A1 ⟨?_⟩; intros)
        ((first | refine endR ?_ | refine endN ?_); refine end1 (RV.tmp rfl) (Le.int ?_))
        rw [cmpN_lt hlt']
      · repeat (refine A1 ⟨?_⟩; intros)
        refine hK _ _ j ⟨by omega, ?_⟩ (by omega) (by (repeat (first | exact LeF.nil _ | refine LeF.cons (Le.refl _) ?_ | refine LeF.cons (Le.int (by omega)) ?_))) rfl
        rw [drop_getD _ j (by omega), drop_getD (dgs b) j (by omega), hd, heq]
      · have hlt' := val_lt_at j hDb (by omega) (by omega) hd.symm hgt
        rw [hxa, hxb] at hlt'
        repeat (refine A1 ⟨?_⟩; intros)
        ((first | refine endR ?_ | refine endN ?_); refine end1 (RV.tmp rfl) (Le.int ?_))
        rw [cmpN_gt hlt']
  · rcases Nat.lt_or_gt_of_ne hlen with hlt | hgt
    · have hab : a < b := by
        rcases Nat.lt_or_ge a b with h | h
        · exact h
        · have := len_mono h; omega
      refine Pu.intro Tryz.func122 rfl (by kernel_rfl) fun C => ?_
      repeat (refine A1 ⟨?_⟩; intros)
      refine Wc (sign_pu _) ?_
      rw [Int.sign_eq_neg_one_of_neg (by omega)]
      repeat (refine A1 ⟨?_⟩; intros)
      ((first | refine endR ?_ | refine endN ?_); refine end1 (RV.tmp rfl) (Le.int ?_))
      rw [cmpN_lt hab]
    · have hab : b < a := by
        rcases Nat.lt_or_ge b a with h | h
        · exact h
        · have := len_mono h; omega
      refine Pu.intro Tryz.func122 rfl (by kernel_rfl) fun C => ?_
      repeat (refine A1 ⟨?_⟩; intros)
      refine Wc (sign_pu _) ?_
      rw [Int.sign_eq_one_of_pos (by omega)]
      repeat (refine A1 ⟨?_⟩; intros)
      ((first | refine endR ?_ | refine endN ?_); refine end1 (RV.tmp rfl) (Le.int ?_))
      rw [cmpN_gt hab]
theorem dgs_two {n : Nat} (h : (dgs n).length = 2) : n = (dgs n).getD 0 0 + (dgs n).getD 1 0 * 4294967296 := by
  have hv := val_dgs n
  generalize dgs n = l at *
  match l, h with
  | [a, b], _ => simp [val] at hv ⊢; omega
theorem dgs_1 {n : Nat} (h : (dgs n).length = 1) : n = (dgs n).getD 0 0 := by
  have hv := val_dgs n
  generalize dgs n = l at *
  match l, h with
  | [a], _ => simp [val] at hv ⊢; omega
theorem dgs_0 {n : Nat} (h : (dgs n).length = 0) : n = 0 := by
  have hv := val_dgs n
  rw [List.length_eq_zero_iff.1 h] at hv; exact hv.symm
theorem len_gt2 {n : Nat} (h : 2 < (dgs n).length) : 18446744073709551616 ≤ n := by
  rcases Nat.lt_or_ge n 18446744073709551616 with h' | h'
  · have := len_le (n := n) (k := 2) (by omega); omega
  · exact h'
theorem len_le2 {n : Nat} (h : (dgs n).length ≤ 2) : n < 18446744073709551616 := Nat.lt_of_lt_of_le (lt_pow n) (Nat.le_trans (Nat.pow_le_pow_right (by omega) h) (by decide))
theorem rword_pu (n : Nat) (h : (dgs n).length ≤ 1000000000) : Pu Tryz.prog 161 [nat n] (if (dgs n).length ≤ 2 then tup [lit (.int .u64 n), lit (.bool true)] else tup [lit (.int .u64 0), lit (.bool false)]) := by
  have hD := D_dgs n
  by_cases h0 : (dgs n).length = 0
  · rw [if_pos (by omega)]
    have e := dgs_0 h0
    refine Pu.intro Tryz.func161 rfl (by kernel_rfl) fun C => ?_
    repeat (refine A1 ⟨?_⟩; intros)
    refine endR (end2 (RV.tmp rfl) (RV.tmp rfl) (Le.tup2 (Le.int (by omega)) (Le.refl _)))
  · by_cases h1 : (dgs n).length = 1
    · rw [if_pos (by omega)]
      have e : n = (dgs n).getD (Int.toNat 0) 0 := dgs_1 h1
      have b : (dgs n).getD (Int.toNat 0) 0 < 4294967296 := hD.get 0
      refine Pu.intro Tryz.func161 rfl (by kernel_rfl) fun C => ?_
      repeat (refine A1 ⟨?_⟩; intros)
      refine endR (end2 (RV.tmp rfl) (RV.tmp rfl) (Le.tup2 (Le.int (by omega)) (Le.refl _)))
    · by_cases h2 : (dgs n).length = 2
      · rw [if_pos (by omega)]
        have e : n = (dgs n).getD (Int.toNat 0) 0 + (dgs n).getD (0 + 1) 0 * 4294967296 := dgs_two h2
        have b0 : (dgs n).getD (Int.toNat 0) 0 < 4294967296 := hD.get 0
        have b1 : (dgs n).getD (0 + 1) 0 < 4294967296 := hD.get 1
        refine Pu.intro Tryz.func161 rfl (by kernel_rfl) fun C => ?_
        repeat (refine A1 ⟨?_⟩; intros)
        refine Wdo (ov_or rfl rfl (or64 ((dgs n).getD (0 + 1) 0) ((dgs n).getD (Int.toNat 0) 0) rfl rfl b1 b0)) ?_
        repeat (refine A1 ⟨?_⟩; intros)
        refine endR (end2 (RV.tmp rfl) (RV.tmp rfl) (Le.tup2 (Le.int (by omega)) (Le.refl _)))
      · rw [if_neg (by omega)]
        refine Pu.intro Tryz.func161 rfl (by kernel_rfl) fun C => ?_
        repeat (refine A1 ⟨?_⟩; intros)
        ((first | refine endR ?_ | refine endN ?_); exact end2 (RV.tmp rfl) (RV.tmp rfl) (Le.refl _))
theorem add32_pu (a b c : Nat) (ha : a < 4294967296) (hb : b < 4294967296) (hc : c ≤ 1) : Pu Tryz.prog 185 [lit (.int .u32 a), lit (.int .u32 b), lit (.int .u32 c)] (tup [lit (.int .u32 ((a + b + c) % 4294967296 : Nat)), lit (.int .u32 ((a + b + c) / 4294967296 : Nat))]) := by
  refine Pu.intro Tryz.func185 rfl (by kernel_rfl) fun C => ?_
  repeat (refine A1 ⟨?_⟩; intros)
  refine endR (end2 (RV.tmp rfl) (RV.tmp rfl) (Le.tup2 (Le.int (by omega)) (Le.int (by omega))))
end Go.Ab
