/- Package nat: comparing, adding, subtracting. -/
import Derived.Test.YthgobgompobhhaaGreatDoorNatB
namespace Go.Ab
open Go.Proofs
set_option linter.unusedSectionVars false
variable [Base]
/-- -1, 0 or 1 -/
def cmpN (a b : Nat) : Int := if a < b then -1 else if a = b then 0 else 1
theorem cmpN_lt {a b : Nat} (h : a < b) : cmpN a b = -1 := by unfold cmpN; rw [if_pos h]
theorem cmpN_gt {a b : Nat} (h : b < a) : cmpN a b = 1 := by unfold cmpN; rw [if_neg (by omega), if_neg (by omega)]
theorem cmpN_eq (a : Nat) : cmpN a a = 0 := by unfold cmpN; rw [if_neg (by omega), if_pos rfl]
theorem cmpN_bd (a b : Nat) : -1 ≤ cmpN a b ∧ cmpN a b ≤ 1 ∧ (cmpN a b < 0 ↔ a < b) := by
  unfold cmpN
  split
  · simp; omega
  · split <;> simp <;> omega
theorem val_at (ds : List Nat) (i : Nat) (h : i < ds.length) : val ds = val (ds.take i) + 4294967296 ^ i * (ds.getD i 0 + 4294967296 * val (ds.drop (i + 1))) := by
  rw [val_split ds i (by omega), drop_getD ds i h, val_cons]
theorem val_lt_at {xs ys : List Nat} (i : Nat) (ha : D xs) (hi : i < xs.length) (hj : i < ys.length) (hd : xs.drop (i + 1) = ys.drop (i + 1)) (hlt : xs.getD i 0 < ys.getD i 0) : val xs < val ys := by
  rw [val_at xs i hi, val_at ys i hj, hd]
  have h1 := val_lt (ha.take i)
  rw [List.length_take, Nat.min_eq_left (by omega)] at h1
  generalize 4294967296 ^ i = p at *
  have h2 : p * (xs.getD i 0 + 1 + 4294967296 * val (ys.drop (i + 1))) ≤ p * (ys.getD i 0 + 4294967296 * val (ys.drop (i + 1))) := Nat.mul_le_mul_left _ (by omega)
  rw [show xs.getD i 0 + 1 + 4294967296 * val (ys.drop (i + 1)) = (xs.getD i 0 + 4294967296 * val (ys.drop (i + 1))) + 1 from by omega, Nat.mul_add, Nat.mul_one] at h2
  omega
set_option maxHeartbeats 1000000000 in
theorem cmp_nat (xs ys : List Nat) (hla : xs.length ≤ 1000000000) (hlb : ys.length ≤ 1000000000) (hA : D xs) (hB : D ys) : Pu Tryz.prog 177 [dg xs, dg ys] (lit (.int .i64 (cmpN (val xs) (val ys)))) := by
  have h1 : (dgs (val xs)).length ≤ 1000000000 := by have := len_le (val_lt hA); omega
  have h2 : (dgs (val ys)).length ≤ 1000000000 := by have := len_le (val_lt hB); omega
  have hxa := val_dgs (val xs)
  have hxb := val_dgs (val ys)
  have hDa := D_dgs (val xs)
  have hDb := D_dgs (val ys)
  refine Pu.intro Tryz.func177 rfl (by kernel_rfl) fun C => ?_
  repeat (refine A1 ⟨?_⟩; intros)
  refine Wc (trim_nat xs hla hA) ?_
  repeat (refine A1 ⟨?_⟩; intros)
  refine Wc (trim_nat ys hlb hB) ?_
  generalize hav : val xs = a at *
  generalize hbv : val ys = b at *
  clear hav hbv hA hB hla hlb
  by_cases hlen : (dgs a).length = (dgs b).length
  · repeat (refine A1 ⟨?_⟩; intros)
    refine WP.loop (ι := Nat) (fun k => k ≤ (dgs a).length ∧ (dgs a).drop k = (dgs b).drop k) (fun k => k) (fun k => fm [(0, dg (dgs a)), (1, dg (dgs b)), (5, lit (.int .i64 ((k : Int) - 1)))]) (fun _ => []) (dgs a).length
      ⟨Nat.le_refl _, by rw [List.drop_length, hlen, List.drop_length]⟩ (LeF.cons (Le.refl _) (LeF.cons (Le.refl _) (LeF.cons (Le.refl _) (LeF.nil _)))) rfl ?_
    rintro k ⟨hk, hd⟩ K hK
    rcases k with _ | j
    · repeat (refine A1 ⟨?_⟩; intros)
      ((first | refine endR ?_ | refine endN ?_); refine end1 (RV.tmp rfl) (Le.int ?_))
      simp only [List.drop_zero] at hd
      rw [dgs_inj hd, cmpN_eq]
    · rw [show (((j + 1 : Nat) : Int) - 1) = (j : Int) from by omega]
      rcases Nat.lt_trichotomy ((dgs a).getD j 0) ((dgs b).getD j 0) with hlt | heq | hgt
      · have hlt' := val_lt_at j hDa (by omega) (by omega) hd hlt
        rw [hxa, hxb] at hlt'
        repeat (refine A1 ⟨?_⟩; intros)
        ((first | refine endR ?_ | refine endN ?_); refine end1 (RV.tmp rfl) (Le.int ?_))
        rw [cmpN_lt hlt']
      · repeat (refine A1 ⟨?_⟩; intros)
        refine hK _ _ j ⟨by omega, ?_⟩ (by omega) (LeF.cons (Le.refl _) (LeF.cons (Le.refl _) (LeF.cons (Le.refl _) (LeF.nil _)))) rfl
        rw [drop_getD _ j (by omega), drop_getD (dgs b) j (by omega), hd, heq]
      · have hlt' := val_lt_at j hDb (by omega) (by omega) hd.symm hgt
        rw [hxa, hxb] at hlt'
        repeat (refine A1 ⟨?_⟩; intros)
        ((first | refine endR ?_ | refine endN ?_); refine end1 (RV.tmp rfl) (Le.int ?_))
        rw [cmpN_gt hlt']
  · rcases Nat.lt_or_gt_of_ne hlen with hlt | hgt
    · have hab : a < b := by
        rcases Nat.lt_or_ge a b with h | h
        · exact h
        · have := len_mono h; omega
      repeat (refine A1 ⟨?_⟩; intros)
      ((first | refine endR ?_ | refine endN ?_); refine end1 (RV.tmp rfl) (Le.int ?_))
      rw [cmpN_lt hab]
    · have hab : b < a := by
        rcases Nat.lt_or_ge b a with h | h
        · exact h
        · have := len_mono h; omega
      repeat (refine A1 ⟨?_⟩; intros)
      ((first | refine endR ?_ | refine endN ?_); refine end1 (RV.tmp rfl) (Le.int ?_))
      rw [cmpN_gt hab]
end Go.Ab
