/- Package nat: shifting by fewer than 32 places. -/
import Derived.Test.YthgobgompobhhaaGreatDoorCap
import Derived.Test.YthgobgompobhhaaGreatDoorUtil
namespace Go.Ab
open Go.Proofs
set_option linter.unusedSectionVars false
variable [Base]
theorem pow32 {s : Nat} (h : s < 32) : 2 ^ s ≤ 2147483648 ∧ 0 < 2 ^ s ∧ 2 ^ s * 2 ^ (32 - s) = 4294967296 := by
  refine ⟨?_, Nat.pow_pos (by omega), ?_⟩
  · have := Nat.pow_le_pow_right (n := 2) (by omega) (show s ≤ 31 by omega); simpa using this
  · rw [← Nat.pow_add, show s + (32 - s) = 32 by omega]
/-- the two halves of a digit that was shifted -/
theorem shl_halves {d s : Nat} (hs : s < 32) (hd : d < 4294967296) : d * 2 ^ s ≤ 18446744073709551615 ∧ d * 2 ^ s / 4294967296 < 2 ^ s ∧ ∃ y, d * 2 ^ s % 4294967296 = 2 ^ s * y ∧ 2 ^ s * y + 2 ^ s ≤ 4294967296 := by
  obtain ⟨h1, h2, h3⟩ := pow32 hs
  have hm : d * 2 ^ s ≤ 4294967295 * 2 ^ s := Nat.mul_le_mul_right _ (by omega)
  refine ⟨by omega, ?_, d % 2 ^ (32 - s), ?_, ?_⟩
  · rw [Nat.div_lt_iff_lt_mul (by omega)]
    have : d * 2 ^ s < 4294967296 * 2 ^ s := Nat.mul_lt_mul_of_pos_right hd h2
    rw [Nat.mul_comm (2 ^ s)]; exact this
  · rw [← h3, Nat.mul_comm d, Nat.mul_mod_mul_left]
  · have : d % 2 ^ (32 - s) < 2 ^ (32 - s) := Nat.mod_lt _ (Nat.pow_pos (by omega))
    have h4 : 2 ^ s * (d % 2 ^ (32 - s) + 1) ≤ 2 ^ s * 2 ^ (32 - s) := Nat.mul_le_mul_left _ this
    rw [h3, Nat.mul_add, Nat.mul_one] at h4; exact h4
set_option maxHeartbeats 2000000 in
theorem shl_cap (xs : List Nat) (s : Nat) (hla : xs.length ≤ 100000000) (hA : D xs) (hs : s < 32) (h0 : val xs ≠ 0) : Pu Tryz.prog 192 [dg xs, lit (.int .u64 s)] (dgc (dgs (val xs * 2 ^ s)) ((dgs (val xs)).length + 1)) := by
  obtain ⟨p, t1, h1, hP, hva, hpd⟩ := trimmed xs hla (by omega) hA
  rw [← hva] at h0
  rw [← hpd, ← hva]
  obtain ⟨w1, w2, w3⟩ := pow32 hs
  refine Pu.intro Tryz.func192 rfl (by kernel_rfl) fun C => ?_
  repeat (refine A1 ⟨?_⟩; intros)
  refine Wc t1 ?_
  have hpos : 0 < p.length := List.length_pos_iff.2 fun e => h0 (by rw [e]; rfl)
  repeat (refine A1 ⟨?_⟩; intros)
  refine WmkD (p.length + 1) rfl rfl (by omega) (by omega) fun bb => ?_
  repeat (refine A1 ⟨?_⟩; intros)
  refine WP.loop (ι := Nat × List Nat) (fun st => st.1 ≤ p.length ∧ st.2.length = p.length + 1 ∧ D st.2 ∧ val st.2 = val (p.take st.1) * 2 ^ s ∧ st.2.getD st.1 0 < 2 ^ s ∧ ∀ j, st.1 < j → st.2.getD j 0 = 0) (fun st => p.length - st.1)
    (fun st => fm [(5, lit (.int .i64 0)), (6, lit (.int .u64 s)), (7, lit (.slice (some ⟨bb, 0, none⟩) (p.length + 1) (p.length + 1))), (29, dg p), (30, lit (.int .i64 p.length)), (31, lit (.int .i64 st.1))])
    (fun st => [(bb, 174, dcells st.2)]) (0, List.replicate (p.length + 1) 0) ⟨Nat.zero_le _, by simp, D.rep _, by simp [val, val_rep], by simp [List.getD]; omega, fun j _ => by simp [List.getD, List.getElem?_replicate]; split <;> simp⟩ (by (repeat (first | exact LeF.nil _ | refine LeF.cons (Le.refl _) ?_ | refine LeF.cons (Le.int (by omega)) ?_))) rfl ?_
  rintro ⟨k, os⟩ ⟨hk, hol, hO, hval, hlo, hz⟩ K hK
  simp only at hk hol hO hval hlo hz ⊢
  by_cases hkl : k < p.length
  · have hx := hP.get k
    obtain ⟨a1, a2, y, a3, a4⟩ := shl_halves (d := p.getD k 0) hs hx
    have hz1 := hz (k + 1) (by omega)
    repeat (refine A1 ⟨?_⟩; intros)
    rw [shlN (p.getD k 0) s (by omega) a1]
    repeat (refine A1 ⟨?_⟩; intros)
    refine Wo (ov_or rfl rfl (or32 (os.getD k 0) y s rfl (by rw [← a3, Int.natCast_emod]; rfl) hlo (by omega))) ?_
    repeat (refine A1 ⟨?_⟩; intros)
    refine WstD (2 ^ s * y + os.getD k 0) rfl rfl rfl (HUpd.here _) (by omega) ?_
    repeat (refine A1 ⟨?_⟩; intros)
    refine WstD (p.getD k 0 * 2 ^ s / 4294967296) rfl rfl (by omega) (HUpd.here _) (by simp; omega) ?_
    repeat (refine A1 ⟨?_⟩; intros)
    refine hK _ _ (k + 1, (os.set k (2 ^ s * y + os.getD k 0)).set (k + 1) (p.getD k 0 * 2 ^ s / 4294967296)) ⟨by simp only; omega, by simpa using hol, (hO.set _ (by omega)).set _ (by omega), ?_, ?_, ?_⟩ (by simp only; omega) (by (repeat (first | exact LeF.nil _ | refine LeF.cons (Le.refl _) ?_ | refine LeF.cons (Le.int (by omega)) ?_))) rfl
    · simp only
      have e1 := val_set os k (2 ^ s * y + os.getD k 0) (by omega)
      have e2 := val_set (os.set k (2 ^ s * y + os.getD k 0)) (k + 1) (p.getD k 0 * 2 ^ s / 4294967296) (by simp; omega)
      rw [getD_set_ne' _ _ _ _ (by omega), hz1, Nat.mul_zero, Nat.add_zero] at e2
      rw [e2, val_take_succ', Nat.add_mul, ← hval, Nat.mul_assoc (4294967296 ^ k)]
      have e3 := Nat.div_add_mod (p.getD k 0 * 2 ^ s) 4294967296
      have e4 : 4294967296 ^ k * (p.getD k 0 * 2 ^ s) = 4294967296 ^ (k + 1) * (p.getD k 0 * 2 ^ s / 4294967296) + 4294967296 ^ k * (2 ^ s * y) := by
        conv => lhs; rw [← e3]
        rw [Nat.mul_add, a3, Nat.pow_succ, Nat.mul_assoc]
      rw [e4]
      rw [Nat.mul_add] at e1
      omega
    · simp only
      rw [show ((os.set k (2 ^ s * y + os.getD k 0)).set (k + 1) (p.getD k 0 * 2 ^ s / 4294967296)).getD (k + 1) 0 = p.getD k 0 * 2 ^ s / 4294967296 from by
        have : k + 1 < os.length := by omega
        simp [List.getD, this]]
      exact a2
    · intro j hj
      simp only at hj ⊢
      rw [getD_set_ne' _ _ _ _ (by omega), getD_set_ne' _ _ _ _ (by omega)]
      exact hz j (by omega)
  · have hke : k = p.length := by omega
    subst hke
    rw [List.take_length] at hval
    repeat (refine A1 ⟨?_⟩; intros)
    refine WpubC (ds := os) 60 rfl (HDel.here _) hol (by omega) (by omega) ?_
    refine Wc (trim_cap os _ (by omega)) ?_
    rw [trimL_eq hO, hval]
    repeat (refine A1 ⟨?_⟩; intros)
    ((first | refine endR ?_ | refine endN ?_); exact end1 (RV.tmp rfl) (Le.refl _))
theorem shl_nat (xs : List Nat) (s : Nat) (hla : xs.length ≤ 100000000) (hA : D xs) (hs : s < 32) : Pu Tryz.prog 192 [dg xs, lit (.int .u64 s)] (nat (val xs * 2 ^ s)) := by
  by_cases h0 : val xs = 0
  · obtain ⟨p, t1, h1, hP, hva, hpd⟩ := trimmed xs hla (by omega) hA
    have hp : p = [] := by rw [hpd, h0, dgs_zero]
    subst hp
    rw [h0]
    refine Pu.intro Tryz.func192 rfl (by kernel_rfl) fun C => ?_
    repeat (refine A1 ⟨?_⟩; intros)
    refine Wc t1 ?_
    repeat (refine A1 ⟨?_⟩; intros)
    refine endR (end1 (RV.tmp rfl) ?_)
    simp only [Nat.zero_mul]
    rw [show nat 0 = dg [] from by show dg (dgs 0) = _; rw [dgs_zero]]
    exact le_nil
  · exact (shl_cap xs s hla hA hs h0).le (dgc_dg _ _)
end Go.Ab
