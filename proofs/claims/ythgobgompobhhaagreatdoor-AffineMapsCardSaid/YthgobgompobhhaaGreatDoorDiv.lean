/- Package nat: division and the greatest common divisor. -/
import Derived.Test.YthgobgompobhhaaGreatDoorNatG
import Derived.Test.YthgobgompobhhaaGreatDoorLong
import Derived.Test.YthgobgompobhhaaGreatDoorUtil
import Derived.Test.YthgobgompobhhaaGreatDoorInt
namespace Go.Ab
open Go.Proofs
set_option linter.unusedSectionVars false
variable [Base]
theorem val_one {q : List Nat} (h : q.length = 1) : val q = q.getD 0 0 := by
  match q, h with
  | [d], _ => simp [val]
set_option maxHeartbeats 1000000 in
theorem divMod_nat (xs ys : List Nat) (hla : xs.length ≤ 10000000) (hlb : ys.length ≤ 10000000) (hA : D xs) (hB : D ys) (h0 : val ys ≠ 0) : Pu Tryz.prog 149 [dg xs, dg ys] (tup [nat (val xs / val ys), nat (val xs % val ys), lit (.bool true)]) := by
  obtain ⟨p, t1, h1, hP, hva, hpd⟩ := trimmed xs hla (by omega) hA
  obtain ⟨q, t2, h2, hQ, hvb, hqd⟩ := trimmed ys hlb (by omega) hB
  rw [← hva] at hpd
  rw [← hvb] at hqd h0
  rw [← hva, ← hvb]
  have hqp : 0 < q.length := by rw [hqd]; exact dgs_len_pos h0
  refine Pu.intro Tryz.func149 rfl (by kernel_rfl) fun C => ?_
  repeat (refine A1 ⟨?_⟩; intros)
  refine Wc t1 ?_
  repeat (refine A1 ⟨?_⟩; intros)
  refine Wc t2 ?_
  repeat (refine A1 ⟨?_⟩; intros)
  refine Wc (cmp_nat p q (by omega) (by omega) hP hQ) ?_
  by_cases hlt : val p < val q
  · rw [cmpN_lt hlt, Nat.div_eq_of_lt hlt, Nat.mod_eq_of_lt hlt]
    repeat (refine A1 ⟨?_⟩; intros)
    refine Wc (clone_pu p (by omega)) ?_
    repeat (refine A1 ⟨?_⟩; intros)
    refine endR (end3 (RV.tmp rfl) (RV.tmp rfl) (RV.tmp rfl) ?_)
    show Le (tup [lit (.slice none 0 0), dg p, lit (.bool true)]) (tup [dg (dgs 0), dg (dgs (val p)), lit (.bool true)])
    rw [← hpd, dgs_zero]
    exact Le.tup3 le_nil (Le.refl _) (Le.refl _)
  · have hc := cmpN_bd (val p) (val q)
    by_cases hq1 : q.length = 1
    · have hd := val_one hq1
      have hdb : val q < 4294967296 := by rw [hd]; exact hQ.get 0
      repeat (refine A1 ⟨?_⟩; intros)
      rw [← hd]
      refine Wc (short_nat p (val q) (by omega) hP h0 hdb) ?_
      have hm : val p % val q < val q := Nat.mod_lt _ (by omega)
      generalize val p % val q = m at *
      generalize val p / val q = e at *
      repeat (refine A1 ⟨?_⟩; intros)
      refine Wc (fromUint_nat m (by omega)) ?_
      repeat (refine A1 ⟨?_⟩; intros)
      ((first | refine endR ?_ | refine endN ?_); exact end3 (RV.tmp rfl) (RV.tmp rfl) (RV.tmp rfl) (Le.refl _))
    · repeat (refine A1 ⟨?_⟩; intros)
      refine Wc (long_nat p q hpd hqd (by omega) (by omega) (by omega)) ?_
      repeat (refine A1 ⟨?_⟩; intros)
      ((first | refine endR ?_ | refine endN ?_); exact end3 (RV.tmp rfl) (RV.tmp rfl) (RV.tmp rfl) (Le.refl _))
theorem lt_two {n : Nat} (h : (dgs n).length ≤ 2) : n < 18446744073709551616 := Nat.lt_of_lt_of_le (lt_pow n) (Nat.le_trans (Nat.pow_le_pow_right (by omega) h) (by decide))
set_option maxHeartbeats 1000000 in
theorem gcd_nat (xs ys : List Nat) (hla : xs.length ≤ 10000000) (hlb : ys.length ≤ 10000000) (hA : D xs) (hB : D ys) : Pu Tryz.prog 148 [dg xs, dg ys] (nat (Nat.gcd (val xs) (val ys))) := by
  have la : ∀ {k}, k ≤ val xs → (dgs k).length ≤ 10000000 := fun h => by have := len_le (Nat.lt_of_le_of_lt h (val_lt hA)); omega
  have lb : ∀ {k}, k ≤ val ys → (dgs k).length ≤ 10000000 := fun h => by have := len_le (Nat.lt_of_le_of_lt h (val_lt hB)); omega
  refine Pu.intro Tryz.func148 rfl (by kernel_rfl) fun C => ?_
  repeat (refine A1 ⟨?_⟩; intros)
  refine Wc (norm_nat xs (by omega) hA) ?_
  repeat (refine A1 ⟨?_⟩; intros)
  refine Wc (norm_nat ys (by omega) hB) ?_
  repeat (refine A1 ⟨?_⟩; intros)
  refine WP.loop (ι := Nat × Nat) (fun s => Nat.gcd s.1 s.2 = Nat.gcd (val xs) (val ys) ∧ (dgs s.1).length ≤ 10000000 ∧ (dgs s.2).length ≤ 10000000) (fun s => s.2)
    (fun s => fm [(0, nat s.1), (1, nat s.2)]) (fun _ => []) (val xs, val ys) ⟨rfl, la (Nat.le_refl _), lb (Nat.le_refl _)⟩ (by (repeat (first | exact LeF.nil _ | refine LeF.cons (Le.refl _) ?_ | refine LeF.cons (Le.int (by omega)) ?_))) rfl ?_
  rintro ⟨a, b⟩ ⟨hg, hla, hlb⟩ K hK
  simp only at hg hla hlb ⊢
  by_cases hs : (dgs a).length ≤ 2 ∧ (dgs b).length ≤ 2
  · have ba := lt_two hs.1
    have bb := lt_two hs.2
    have u1 := uint_nat (dgs a) (by omega) (D_dgs a)
    have u2 := uint_nat (dgs b) (by omega) (D_dgs b)
    rw [val_dgs, if_pos ba] at u1
    rw [val_dgs, if_pos bb] at u2
    repeat (refine A1 ⟨?_⟩; intros)
    refine Wc u1 ?_
    repeat (refine A1 ⟨?_⟩; intros)
    refine Wc u2 ?_
    repeat (refine A1 ⟨?_⟩; intros)
    rw [← hg]
    refine WP.loop (ι := Nat × Nat) (fun s => Nat.gcd s.1 s.2 = Nat.gcd a b ∧ s.1 < 18446744073709551616 ∧ s.2 < 18446744073709551616) (fun s => s.2)
      (fun s => fm [(8, lit (.int .u64 s.1)), (10, lit (.int .u64 s.2))]) (fun _ => []) (a, b) ⟨rfl, ba, bb⟩ (by (repeat (first | exact LeF.nil _ | refine LeF.cons (Le.refl _) ?_ | refine LeF.cons (Le.int (by omega)) ?_))) rfl ?_
    rintro ⟨c, d⟩ ⟨hg', hc, hd⟩ K hK
    simp only at hg' hc hd ⊢
    by_cases h0 : d = 0
    · subst h0
      rw [Nat.gcd_zero_right] at hg'
      rw [← hg']
      repeat (refine A1 ⟨?_⟩; intros)
      refine Wc (fromUint_nat c hc) ?_
      repeat (refine A1 ⟨?_⟩; intros)
      ((first | refine endR ?_ | refine endN ?_); exact end1 (RV.tmp rfl) (Le.refl _))
    · have hm : c % d < d := Nat.mod_lt _ (by omega)
      have hgg : Nat.gcd d (c % d) = Nat.gcd a b := by rw [← hg', Nat.gcd_comm c d, Nat.gcd_rec d c, Nat.gcd_comm]
      repeat (refine A1 ⟨?_⟩; intros)
      exact hK _ _ (d, c % d) ⟨hgg, hd, by simp only; omega⟩ hm (by (repeat (first | exact LeF.nil _ | refine LeF.cons (Le.refl _) ?_ | refine LeF.cons (Le.int (by omega)) ?_))) rfl
  · by_cases h0 : b = 0
    · subst h0
      rw [Nat.gcd_zero_right] at hg
      rw [← hg]
      have hl : (dgs 0).length = 0 := by rw [dgs_zero]; rfl
      repeat (refine A1 ⟨?_⟩; intros)
      ((first | refine endR ?_ | refine endN ?_); exact end1 (RV.tmp rfl) (Le.refl _))
    · have hp := dgs_len_pos h0
      have hm : a % b < b := Nat.mod_lt _ (by omega)
      have hgg : Nat.gcd b (a % b) = Nat.gcd (val xs) (val ys) := by rw [← hg, Nat.gcd_comm a b, Nat.gcd_rec b a, Nat.gcd_comm]
      have dm := divMod_nat (dgs a) (dgs b) hla hlb (D_dgs a) (D_dgs b) (by rw [val_dgs]; exact h0)
      rw [val_dgs, val_dgs] at dm
      have hlm := len_mono (Nat.le_of_lt hm)
      by_cases ha : (dgs a).length ≤ 2
      · repeat (refine A1 ⟨?_⟩; intros)
        refine Wc dm ?_
        repeat (refine A1 ⟨?_⟩; intros)
        exact hK _ _ (b, a % b) ⟨hgg, hlb, by simp only; omega⟩ hm (by (repeat (first | exact LeF.nil _ | refine LeF.cons (Le.refl _) ?_ | refine LeF.cons (Le.int (by omega)) ?_))) rfl
      · repeat (refine A1 ⟨?_⟩; intros)
        refine Wc dm ?_
        repeat (refine A1 ⟨?_⟩; intros)
        exact hK _ _ (b, a % b) ⟨hgg, hlb, by simp only; omega⟩ hm (by (repeat (first | exact LeF.nil _ | refine LeF.cons (Le.refl _) ?_ | refine LeF.cons (Le.int (by omega)) ?_))) rfl
end Go.Ab
