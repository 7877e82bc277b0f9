/- Package nat: adding, subtracting. -/
import Derived.Test.YthgobgompobhhaaGreatDoorNatC
namespace Go.Ab
open Go.Proofs
set_option linter.unusedSectionVars false
variable [Base]
/-- one digit of a sum -/
theorem add_digit {vo va vb p c s x y : Nat} (h : vo + p * c = va + vb) (hs : s = c + x + y) : vo + p * (s % 4294967296) + p * 4294967296 * (s / 4294967296) = va + p * x + (vb + p * y) := by
  subst hs
  have e := Nat.div_add_mod (c + x + y) 4294967296
  rw [Nat.mul_assoc, Nat.add_assoc, ← Nat.mul_add, Nat.add_comm ((c + x + y) % 4294967296), e, Nat.mul_add, Nat.mul_add]
  omega
set_option maxHeartbeats 2000000 in
theorem add_nat (xs ys : List Nat) (hla : xs.length ≤ 100000000) (hlb : ys.length ≤ 100000000) (hA : D xs) (hB : D ys) : Pu Tryz.prog 196 [dg xs, dg ys] (nat (val xs + val ys)) := by
  refine Pu.intro Tryz.func196 rfl (by kernel_rfl) fun C => ?_
  repeat (refine A1 ⟨?_⟩; intros)
  refine WP.via (fun F' H' => ∃ p q : List Nat, q.length ≤ p.length ∧ p.length ≤ 100000000 ∧ D p ∧ D q ∧ val p + val q = val xs + val ys ∧ LeF F' (fm [(0, dg p), (1, dg q)]) ∧ H' = []) ?_ ?_
  · refine WPd (fun hlt => ?_) (fun hlt => ?_)
    · repeat (refine A1 ⟨?_⟩; intros)
      exact ⟨ys, xs, by omega, hlb, hB, hA, by omega, LeF.cons (Le.refl _) (LeF.cons (Le.refl _) (LeF.nil _)), rfl⟩
    · repeat (refine A1 ⟨?_⟩; intros)
      exact ⟨xs, ys, by omega, hla, hA, hB, rfl, LeF.cons (Le.refl _) (LeF.cons (Le.refl _) (LeF.nil _)), rfl⟩
  · rintro F' H' ⟨p, q, hqp, hpl, hP, hQ, hv, hF, rfl⟩
    refine WP.le hF ?_
    rw [← hv]
    clear hv hF hA hB hla hlb
    repeat (refine A1 ⟨?_⟩; intros)
    refine WmkD (p.length + 1) rfl rfl (by omega) (by omega) fun b => ?_
    repeat (refine A1 ⟨?_⟩; intros)
    refine WP.loop (ι := Nat × Nat × List Nat) (fun s => s.1 ≤ p.length ∧ s.2.1 ≤ 1 ∧ s.2.2.length = p.length + 1 ∧ D s.2.2 ∧ val (s.2.2.take s.1) + 4294967296 ^ s.1 * s.2.1 = val (p.take s.1) + val (q.take s.1)) (fun s => p.length - s.1)
      (fun s => fm [(0, dg p), (1, dg q), (5, lit (.slice (some ⟨b, 0, none⟩) (p.length + 1) (p.length + 1))), (6, lit (.int .u64 s.2.1)), (20, dg p), (21, lit (.int .i64 p.length)), (22, lit (.int .i64 s.1))])
      (fun s => [(b, 174, dcells s.2.2)]) (0, 0, List.replicate (p.length + 1) 0) ⟨Nat.zero_le _, Nat.zero_le _, by simp, D.rep _, by simp [val]⟩
      (by repeat (first | exact LeF.nil _ | refine LeF.cons (Le.refl _) ?_)) rfl ?_
    rintro ⟨k, c, os⟩ ⟨hk, hc, hol, hO, hval⟩ K hK
    simp only at hk hc hol hO hval ⊢
    have hp := hP.get k
    have hq := hQ.get k
    by_cases hkl : k < p.length
    · have fin : ∀ s, s = c + p.getD k 0 + q.getD k 0 → ∀ F' H', LeF F' (fm [(0, dg p), (1, dg q), (5, lit (.slice (some ⟨b, 0, none⟩) (p.length + 1) (p.length + 1))), (6, lit (.int .u64 ((s / 4294967296 : Nat) : Int))), (20, dg p), (21, lit (.int .i64 p.length)), (22, lit (.int .i64 ((k + 1 : Nat) : Int)))]) →
          H' = [(b, 174, dcells (os.set k (s % 4294967296)))] → K F' H' := fun s hs F' H' hF hH => by
        refine hK F' H' (k + 1, s / 4294967296, os.set k (s % 4294967296)) ⟨by simp only; omega, by simp only; omega, by simpa using hol, hO.set k (by omega), ?_⟩ (by simp only; omega) hF hH
        simp only
        rw [val_take_set os k _ (by omega), val_take_succ', val_take_succ', Nat.pow_succ]
        exact add_digit hval hs
      by_cases hkq : k < q.length
      · repeat (refine A1 ⟨?_⟩; intros)
        refine WstD ((c + p.getD k 0 + q.getD k 0) % 4294967296) rfl rfl (by omega) (HUpd.here _) (by omega) ?_
        repeat (refine A1 ⟨?_⟩; intros)
        exact fin _ rfl _ _ (by (repeat (first | exact LeF.nil _ | refine LeF.cons (Le.refl _) ?_ | refine LeF.cons (Le.int (by omega)) ?_))) rfl
      · have hq0 : q.getD k 0 = 0 := by simp [List.getD, List.getElem?_eq_none (Nat.not_lt.1 hkq)]
        repeat (refine A1 ⟨?_⟩; intros)
        refine WstD ((c + p.getD k 0 + q.getD k 0) % 4294967296) rfl rfl (by omega) (HUpd.here _) (by omega) ?_
        repeat (refine A1 ⟨?_⟩; intros)
        exact fin _ rfl _ _ (by (repeat (first | exact LeF.nil _ | refine LeF.cons (Le.refl _) ?_ | refine LeF.cons (Le.int (by omega)) ?_))) rfl
    · have hke : k = p.length := by omega
      subst hke
      repeat (refine A1 ⟨?_⟩; intros)
      refine WstD c rfl rfl (by omega) (HUpd.here _) (by omega) ?_
      repeat (refine A1 ⟨?_⟩; intros)
      refine WpubD (ds := os.set p.length c) 56 rfl (HDel.here _) (by simpa using hol) (by omega) (by omega) ?_
      refine Wc (trim_nat (os.set p.length c) (by simp; omega) (hO.set _ (by omega))) ?_
      have hfull : val (os.set p.length c) = val p + val q := by
        have h1 := val_take_set os p.length c (by omega)
        rw [List.take_of_length_le (by simp; omega)] at h1
        rw [h1, hval, List.take_length, List.take_of_length_le hqp]
      rw [hfull]
      repeat (refine A1 ⟨?_⟩; intros)
      ((first | refine endR ?_ | refine endN ?_); exact end1 (RV.tmp rfl) (Le.refl _))
end Go.Ab
