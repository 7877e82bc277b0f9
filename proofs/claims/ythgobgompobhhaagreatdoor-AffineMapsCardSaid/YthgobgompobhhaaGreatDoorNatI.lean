/- Package nat: shifting back by fewer than 32 places. -/
import Derived.Test.YthgobgompobhhaaGreatDoorNatH
namespace Go.Ab
open Go.Proofs
set_option linter.unusedSectionVars false
variable [Base]
theorem shr_digit {V p q r s : Nat} (k : Nat) (hs : s < 32) (h : V / 4294967296 ^ k = p + 4294967296 * (q + 4294967296 * r)) : V / 2 ^ s / 4294967296 ^ k % 4294967296 = (p + q * 4294967296) / 2 ^ s % 4294967296 := by
  obtain ⟨w1, w2, w3⟩ := pow32 hs
  rw [Nat.div_div_eq_div_mul, Nat.mul_comm, ← Nat.div_div_eq_div_mul, h]
  have e : p + 4294967296 * (q + 4294967296 * r) = (p + q * 4294967296) + 2 ^ s * (4294967296 * (2 ^ (32 - s) * r)) := by
    rw [← Nat.mul_assoc (2 ^ s), Nat.mul_comm (2 ^ s), Nat.mul_assoc, ← Nat.mul_assoc (2 ^ s), w3, Nat.mul_add, Nat.mul_comm q]; omega
  rw [e, Nat.add_mul_div_left _ _ w2, Nat.add_mul_mod_self_left]
theorem val_div_pow (ds : List Nat) (hD : D ds) (k : Nat) (hk : k ≤ ds.length) : val ds / 4294967296 ^ k = val (ds.drop k) := by
  rw [val_split ds k hk, Nat.add_mul_div_left _ _ (Nat.pow_pos (by omega)), Nat.div_eq_of_lt, Nat.zero_add]
  have h := val_lt (hD.take k)
  rw [List.length_take, Nat.min_eq_left hk] at h; exact h
theorem drop_two (ds : List Nat) (k : Nat) (hk : k < ds.length) : val (ds.drop k) = ds.getD k 0 + 4294967296 * (ds.getD (k + 1) 0 + 4294967296 * val (ds.drop (k + 2))) := by
  rw [drop_getD ds k hk, val_cons]
  by_cases h : k + 1 < ds.length
  · rw [drop_getD ds (k + 1) h, val_cons]
  · rw [List.drop_eq_nil_of_le (by omega), List.drop_eq_nil_of_le (by omega), show ds.getD (k + 1) 0 = 0 from by simp [List.getD, List.getElem?_eq_none (show ds.length ≤ k + 1 by omega)]]; simp [val]
set_option maxHeartbeats 2000000 in
theorem shr_nat (xs : List Nat) (s : Nat) (hla : xs.length ≤ 100000000) (hA : D xs) (hs : s < 32) : Pu Tryz.prog 193 [dg xs, lit (.int .u64 s)] (nat (val xs / 2 ^ s)) := by
  obtain ⟨p, t1, h1, hP, hva, hpd⟩ := trimmed xs hla (by omega) hA
  rw [← hva]
  obtain ⟨w1, w2, w3⟩ := pow32 hs
  refine Pu.intro Tryz.func193 rfl (by kernel_rfl) fun C => ?_
  repeat (refine A1 ⟨?_⟩; intros)
  refine Wc t1 ?_
  by_cases h0 : p = []
  · subst h0
    repeat (refine A1 ⟨?_⟩; intros)
    refine endR (end1 (RV.tmp rfl) ?_)
    simp only [val, Nat.zero_div]
    rw [show nat 0 = dg [] from by show dg (dgs 0) = _; rw [dgs_zero]]
    exact le_nil
  · have hpos := List.length_pos_iff.2 h0
    repeat (refine A1 ⟨?_⟩; intros)
    refine WmkD p.length rfl rfl (by omega) (by omega) fun bb => ?_
    repeat (refine A1 ⟨?_⟩; intros)
    refine WP.loop (ι := Nat × List Nat) (fun st => st.1 ≤ p.length ∧ st.2.length = p.length ∧ D st.2 ∧ val (st.2.take st.1) = val p / 2 ^ s % 4294967296 ^ st.1) (fun st => p.length - st.1)
      (fun st => fm [(0, dg p), (5, lit (.int .i64 0)), (6, lit (.int .u64 s)), (7, lit (.slice (some ⟨bb, 0, none⟩) p.length p.length)), (29, lit (.int .i64 p.length)), (30, lit (.int .i64 st.1))])
      (fun st => [(bb, 174, dcells st.2)]) (0, List.replicate p.length 0) ⟨Nat.zero_le _, by simp, D.rep _, by simp [val, Nat.mod_one]⟩ (by (repeat (first | exact LeF.nil _ | refine LeF.cons (Le.refl _) ?_ | refine LeF.cons (Le.int (by omega)) ?_))) rfl ?_
    rintro ⟨k, os⟩ ⟨hk, hol, hO, hval⟩ K hK
    simp only at hk hol hO hval ⊢
    by_cases hkl : k < p.length
    · have hx := hP.get k
      have hx1 := hP.get (k + 1)
      repeat (refine A1 ⟨?_⟩; intros)
      refine WP.via (fun F H => LeF F (fm [(0, dg p), (5, lit (.int .i64 0)), (6, lit (.int .u64 s)), (7, lit (.slice (some ⟨bb, 0, none⟩) p.length p.length)), (8, lit (.int .i64 k)), (9, lit (.int .u64 (p.getD k 0 + p.getD (k + 1) 0 * 4294967296 : Nat))), (29, lit (.int .i64 p.length)), (30, lit (.int .i64 k))]) ∧ H = [(bb, 174, dcells os)]) ?_ ?_
      · refine WPd (fun h => ?_) (fun h => ?_)
        · repeat (refine A1 ⟨?_⟩; intros)
          refine Wo (ov_or rfl rfl (or64' (p.getD (k + 1) 0) (p.getD k 0) rfl rfl hx1 hx)) ?_
          repeat (refine A1 ⟨?_⟩; intros)
          exact ⟨by (repeat (first | exact LeF.nil _ | refine LeF.cons (Le.refl _) ?_ | refine LeF.cons (Le.int (by omega)) ?_)), rfl⟩
        · have h0 : p.getD (k + 1) 0 = 0 := by simp [List.getD, List.getElem?_eq_none (show p.length ≤ k + 1 by omega)]
          repeat (refine A1 ⟨?_⟩; intros)
          exact ⟨by (repeat (first | exact LeF.nil _ | refine LeF.cons (Le.refl _) ?_ | refine LeF.cons (Le.int (by omega)) ?_)), rfl⟩
      · rintro F H ⟨hF, rfl⟩
        refine WP.le hF ?_
        repeat (refine A1 ⟨?_⟩; intros)
        rw [shrN _ s (by omega)]
        refine WstD ((p.getD k 0 + p.getD (k + 1) 0 * 4294967296) / 2 ^ s % 4294967296) rfl rfl (by rw [Int.natCast_emod]; rfl) (HUpd.here _) (by omega) ?_
        repeat (refine A1 ⟨?_⟩; intros)
        refine hK _ _ (k + 1, os.set k ((p.getD k 0 + p.getD (k + 1) 0 * 4294967296) / 2 ^ s % 4294967296)) ⟨by simp only; omega, by simpa using hol, hO.set _ (by omega), ?_⟩ (by simp only; omega) (by (repeat (first | exact LeF.nil _ | refine LeF.cons (Le.refl _) ?_ | refine LeF.cons (Le.int (by omega)) ?_))) rfl
        simp only
        rw [val_take_set _ _ _ (by omega), hval, Nat.mod_pow_succ, shr_digit k hs ((val_div_pow p hP k hk).trans (drop_two p k hkl))]
    · have hke : k = p.length := by omega
      subst hke
      rw [Nat.mod_eq_of_lt (Nat.lt_of_le_of_lt (Nat.div_le_self _ _) (val_lt hP)), List.take_of_length_le (by omega)] at hval
      repeat (refine A1 ⟨?_⟩; intros)
      refine WpubD (ds := os) 66 rfl (HDel.here _) hol (by omega) (by omega) ?_
      refine Wc (trim_nat os (by omega) hO) ?_
      rw [hval]
      repeat (refine A1 ⟨?_⟩; intros)
      ((first | refine endR ?_ | refine endN ?_); exact end1 (RV.tmp rfl) (Le.refl _))
end Go.Ab
