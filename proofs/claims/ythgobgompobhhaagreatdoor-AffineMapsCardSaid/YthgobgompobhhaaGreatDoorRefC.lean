/- The reference's numbers: difference and product of digits. -/
import Derived.Test.YthgobgompobhhaaGreatDoorRefB
import Derived.Test.YthgobgompobhhaaGreatDoorNatF
namespace Go.Ab
open Go.Proofs
set_option linter.unusedSectionVars false
variable [Base]
set_option maxHeartbeats 2000000 in
theorem rless_pu (a b : Nat) (hab : b ≤ a) (hl : (dgs a).length ≤ 100000000) : Pu Tryz.prog 159 [nat a, nat b] (nat (a - b)) := by
  have hP := D_dgs a
  have hQ := D_dgs b
  have hqp := len_mono hab
  have hva := val_dgs a
  have hvb := val_dgs b
  show Pu _ _ [dg (dgs a), dg (dgs b)] _
  generalize dgs a = p at *
  generalize dgs b = q at *
  refine Pu.intro Tryz.func159 rfl (by kernel_rfl) fun C => ?_
  repeat (refine A1 ⟨?_⟩; intros)
  refine WmkD p.length rfl rfl (by omega) (by omega) fun bb => ?_
  repeat (refine A1 ⟨?_⟩; intros)
  refine WP.loop (ι := Nat × Nat × List Nat) (fun s => s.1 ≤ p.length ∧ s.2.1 ≤ 1 ∧ s.2.2.length = p.length ∧ D s.2.2 ∧ val (s.2.2.take s.1) + val (q.take s.1) = val (p.take s.1) + 4294967296 ^ s.1 * s.2.1) (fun s => p.length - s.1)
    (fun s => fm [(0, dg p), (1, dg q), (5, lit (.slice (some ⟨bb, 0, none⟩) p.length p.length)), (6, lit (.int .u32 s.2.1)), (13, lit (.int .i64 p.length)), (14, lit (.int .i64 s.1))])
    (fun s => [(bb, 174, dcells s.2.2)]) (0, 0, List.replicate p.length 0) ⟨Nat.zero_le _, Nat.zero_le _, by simp, D.rep _, by simp [val]⟩ (by (repeat (first | exact LeF.nil _ | refine LeF.cons (Le.refl _) ?_ | refine LeF.cons (Le.int (by omega)) ?_))) rfl ?_
  rintro ⟨k, c, os⟩ ⟨hk, hc, hol, hO, hval⟩ K hK
  simp only at hk hc hol hO hval ⊢
  by_cases hkl : k < p.length
  · have hp := hP.get k
    have hq := hQ.get k
    repeat (refine A1 ⟨?_⟩; intros)
    refine WP.via (fun F H => LeF F (fm [(0, dg p), (1, dg q), (5, lit (.slice (some ⟨bb, 0, none⟩) p.length p.length)), (6, lit (.int .u32 c)), (7, lit (.int .i64 k)), (8, lit (.int .u32 (q.getD k 0 : Nat))), (13, lit (.int .i64 p.length)), (14, lit (.int .i64 k))]) ∧ H = [(bb, 174, dcells os)]) ?_ ?_
    · refine WPd (fun h => ?_) (fun h => ?_)
      · repeat (refine A1 ⟨?_⟩; intros)
        exact ⟨by (repeat (first | exact LeF.nil _ | refine LeF.cons (Le.refl _) ?_ | refine LeF.cons (Le.int (by omega)) ?_)), rfl⟩
      · have h0 : q.getD k 0 = 0 := by simp [List.getD, List.getElem?_eq_none (show q.length ≤ k by omega)]
        repeat (refine A1 ⟨?_⟩; intros)
        exact ⟨by (repeat (first | exact LeF.nil _ | refine LeF.cons (Le.refl _) ?_ | refine LeF.cons (Le.int (by omega)) ?_)), rfl⟩
    rintro F H ⟨hF, rfl⟩
    refine WP.le hF ?_
    repeat (refine A1 ⟨?_⟩; intros)
    refine Wc (sub32_pu (p.getD k 0) (q.getD k 0) c hp hq hc) ?_
    have fin : ∀ x c', c' ≤ 1 → x < 4294967296 → p.getD k 0 + 4294967296 * c' = x + c + q.getD k 0 → ∀ F' H', LeF F' (fm [(0, dg p), (1, dg q), (5, lit (.slice (some ⟨bb, 0, none⟩) p.length p.length)), (6, lit (.int .u32 c')), (13, lit (.int .i64 p.length)), (14, lit (.int .i64 ((k + 1 : Nat) : Int)))]) →
        H' = [(bb, 174, dcells (os.set k x))] → K F' H' := fun x c' hc' hx hd F' H' hF hH => by
      refine hK F' H' (k + 1, c', os.set k x) ⟨by simp only; omega, hc', by simpa using hol, hO.set k hx, ?_⟩ (by simp only; omega) hF hH
      simp only
      rw [val_take_set os k _ (by omega), val_take_succ', val_take_succ', Nat.pow_succ]
      exact rsub_digit hval hd
    by_cases hb : p.getD k 0 < q.getD k 0 + c
    · rw [if_pos hb]
      repeat (refine A1 ⟨?_⟩; intros)
      refine WstD ((p.getD k 0 + 8589934592 - q.getD k 0 - c) % 4294967296) rfl rfl rfl (HUpd.here _) (by omega) ?_
      repeat (refine A1 ⟨?_⟩; intros)
      exact fin _ 1 (by omega) (by omega) (by omega) _ _ (by (repeat (first | exact LeF.nil _ | refine LeF.cons (Le.refl _) ?_ | refine LeF.cons (Le.int (by omega)) ?_))) rfl
    · rw [if_neg hb]
      repeat (refine A1 ⟨?_⟩; intros)
      refine WstD ((p.getD k 0 + 8589934592 - q.getD k 0 - c) % 4294967296) rfl rfl rfl (HUpd.here _) (by omega) ?_
      repeat (refine A1 ⟨?_⟩; intros)
      exact fin _ 0 (by omega) (by omega) (by omega) _ _ (by (repeat (first | exact LeF.nil _ | refine LeF.cons (Le.refl _) ?_ | refine LeF.cons (Le.int (by omega)) ?_))) rfl
  · have hke : k = p.length := by omega
    subst hke
    repeat (refine A1 ⟨?_⟩; intros)
    refine WpubD (ds := os) 39 rfl (HDel.here _) hol (by omega) (by omega) ?_
    refine Wc (rtrim_nat os (by omega) hO) ?_
    have hfull : val os = a - b := by
      rw [List.take_length, List.take_of_length_le hqp, List.take_of_length_le (by omega), hva, hvb] at hval
      have h1 := val_lt hO
      rw [hol] at h1
      rcases Nat.lt_or_ge 0 c with h | h
      · have : c = 1 := by omega
        subst this; omega
      · have : c = 0 := by omega
        subst this; omega
    rw [hfull]
    repeat (refine A1 ⟨?_⟩; intros)
    ((first | refine endR ?_ | refine endN ?_); exact end1 (RV.tmp rfl) (Le.refl _))
set_option maxHeartbeats 4000000 in
theorem rprod_pu (a b : Nat) (hla : (dgs a).length ≤ 100000000) (hlb : (dgs b).length ≤ 100000000) : Pu Tryz.prog 111 [nat a, nat b] (nat (a * b)) := by
  by_cases h11 : (dgs a).length = 1 ∧ (dgs b).length = 1
  · have ea : a = (dgs a).getD (Int.toNat 0) 0 := dgs_1 h11.1
    have eb : b = (dgs b).getD (Int.toNat 0) 0 := dgs_1 h11.2
    have b0 : (dgs a).getD (Int.toNat 0) 0 < 4294967296 := (D_dgs a).get 0
    have b1 : (dgs b).getD (Int.toNat 0) 0 < 4294967296 := (D_dgs b).get 0
    have hp := prod_bd b0 b1
    have hq := hp
    rw [← ea, ← eb] at hq
    have hw := word_pu (a * b) (by rw [← ea] at b0; rw [← eb] at b1; have := Nat.mul_le_mul (Nat.le_of_lt_succ (Nat.lt_succ_of_le (Nat.le_pred_of_lt b0))) (Nat.le_of_lt_succ (Nat.lt_succ_of_le (Nat.le_pred_of_lt b1))); simp at this; omega)
    rw [Int.natCast_mul] at hw
    refine Pu.intro Tryz.func111 rfl (by kernel_rfl) fun C => ?_
    repeat (refine A1 ⟨?_⟩; intros)
    rw [← ea, ← eb]
    refine Wdc hw ?_
    repeat (refine A1 ⟨?_⟩; intros)
    ((first | refine endR ?_ | refine endN ?_); exact end1 (RV.tmp rfl) (Le.refl _))
  · have hP := D_dgs a
    have hQ := D_dgs b
    have hva := val_dgs a
    have hvb := val_dgs b
    show Pu _ _ [dg (dgs a), dg (dgs b)] _
    generalize dgs a = p at *
    generalize dgs b = q at *
    subst hva
    subst hvb
    have h12 : p.length = 1 → q.length ≠ 1 := fun a b => h11 ⟨a, b⟩
    clear h11
    refine Pu.intro Tryz.func111 rfl (by kernel_rfl) fun C => ?_
    repeat (refine AS ⟨?_⟩; intros)
    iterate 1 (refine O1 ⟨?_⟩; intros)
    refine WPL.nil ?_
    refine thenN ?_
    refine WP.seq' ?_
    refine WP.via (fun F H => LeF F (fm [(0, dg p), (1, dg q)]) ∧ H = []) ?_ ?_
    · by_cases h1 : p.length = 1
      · have h2 := h12 h1
        clear h12
        repeat (refine A1 ⟨?_⟩; intros)
        exact ⟨by (repeat (first | exact LeF.nil _ | refine LeF.cons (Le.refl _) ?_ | refine LeF.cons (Le.int (by omega)) ?_)), rfl⟩
      · clear h12
        repeat (refine A1 ⟨?_⟩; intros)
        exact ⟨by (repeat (first | exact LeF.nil _ | refine LeF.cons (Le.refl _) ?_ | refine LeF.cons (Le.int (by omega)) ?_)), rfl⟩
    · rintro F H ⟨hF, rfl⟩
      refine WP.le hF ?_
      clear h12
      repeat (refine A1 ⟨?_⟩; intros)
      refine WmkD (p.length + q.length) rfl rfl (by omega) (by omega) fun bb => ?_
      repeat (refine A1 ⟨?_⟩; intros)
      refine WP.loop (ι := Nat × List Nat) (fun s => s.1 ≤ p.length ∧ s.2.length = p.length + q.length ∧ D s.2 ∧ val s.2 = val (p.take s.1) * val q ∧ ∀ j, s.1 + q.length ≤ j → s.2.getD j 0 = 0) (fun s => p.length - s.1)
        (fun s => fm [(1, dg q), (5, lit (.slice (some ⟨bb, 0, none⟩) (p.length + q.length) (p.length + q.length))), (36, dg p), (37, lit (.int .i64 p.length)), (38, lit (.int .i64 s.1))])
        (fun s => [(bb, 174, dcells s.2)]) (0, List.replicate (p.length + q.length) 0) ⟨Nat.zero_le _, by simp, D.rep _, by simp [val, val_rep], fun j _ => by simp [List.getD, List.getElem?_replicate]; split <;> simp⟩ (by (repeat (first | exact LeF.nil _ | refine LeF.cons (Le.refl _) ?_ | refine LeF.cons (Le.int (by omega)) ?_))) rfl ?_
      rintro ⟨i, os⟩ ⟨hi, hol, hO, hval, hz⟩ K hK
      simp only at hi hol hO hval hz ⊢
      by_cases hil : i < p.length
      · have hx := hP.get i
        repeat (refine A1 ⟨?_⟩; intros)
        refine WP.loop (ι := Nat × Nat × List Nat) (fun s => s.1 ≤ q.length ∧ s.2.1 < 4294967296 ∧ s.2.2.length = p.length + q.length ∧ D s.2.2 ∧ val s.2.2 + 4294967296 ^ i * 4294967296 ^ s.1 * s.2.1 = val os + 4294967296 ^ i * p.getD i 0 * val (q.take s.1) ∧ ∀ j, i + q.length ≤ j → s.2.2.getD j 0 = 0) (fun s => q.length - s.1)
          (fun s => fm [(1, dg q), (5, lit (.slice (some ⟨bb, 0, none⟩) (p.length + q.length) (p.length + q.length))), (6, lit (.int .i64 i)), (7, lit (.int .u32 (p.getD i 0 : Nat))), (8, lit (.int .u64 s.2.1)), (36, dg p), (37, lit (.int .i64 p.length)), (38, lit (.int .i64 i)), (43, dg q), (44, lit (.int .i64 q.length)), (45, lit (.int .i64 s.1))])
          (fun s => [(bb, 174, dcells s.2.2)]) (0, 0, os) ⟨Nat.zero_le _, by simp, hol, hO, by simp [val], hz⟩ (by (repeat (first | exact LeF.nil _ | refine LeF.cons (Le.refl _) ?_ | refine LeF.cons (Le.int (by omega)) ?_))) rfl ?_
        rintro ⟨k, c, us⟩ ⟨hk, hc, hul, hU, hvu, hzu⟩ K2 hK2
        simp only at hk hc hul hU hvu hzu ⊢
        by_cases hkl : k < q.length
        · have hy := hQ.get k
          have ho := hU.get (i + k)
          have hb := prod_bd hx hy
          have hcast : ((p.getD i 0 * q.getD k 0 : Nat) : Int) = (p.getD i 0 : Int) * (q.getD k 0 : Int) := Int.natCast_mul _ _
          repeat (refine A1 ⟨?_⟩; intros)
          refine WstD ((p.getD i 0 * q.getD k 0 + us.getD (i + k) 0 + c) % 4294967296) rfl rfl (by omega) (HUpd.here _) (by omega) ?_
          repeat (refine A1 ⟨?_⟩; intros)
          refine hK2 _ _ (k + 1, (p.getD i 0 * q.getD k 0 + us.getD (i + k) 0 + c) / 4294967296, us.set (i + k) ((p.getD i 0 * q.getD k 0 + us.getD (i + k) 0 + c) % 4294967296))
            ⟨by simp only; omega, by simp only; omega, by simpa using hul, hU.set _ (by omega), ?_, fun j hj => by rw [getD_set_ne' _ _ _ _ (by (try simp only at hj); omega)]; exact hzu j hj⟩ (by simp only; omega) (by (repeat (first | exact LeF.nil _ | refine LeF.cons (Le.refl _) ?_ | refine LeF.cons (Le.int (by omega)) ?_))) rfl
          simp only
          rw [val_take_succ', Nat.pow_succ]
          have hs := val_set us (i + k) ((p.getD i 0 * q.getD k 0 + us.getD (i + k) 0 + c) % 4294967296) (by omega)
          rw [Nat.pow_add] at hs
          exact mul_inner _ hvu (by omega) hs
        · have hke : k = q.length := by omega
          subst hke
          have hz0 := hzu (i + q.length) (by omega)
          repeat (refine A1 ⟨?_⟩; intros)
          refine WstD c rfl rfl (by omega) (HUpd.here _) (by omega) ?_
          repeat (refine A1 ⟨?_⟩; intros)
          refine hK _ _ (i + 1, us.set (i + q.length) c) ⟨by simp only; omega, by simpa using hul, hU.set _ hc, ?_, fun j hj => by rw [getD_set_ne' _ _ _ _ (by (try simp only at hj); omega)]; exact hzu j (by (try simp only at hj); omega)⟩ (by simp only; omega) (by (repeat (first | exact LeF.nil _ | refine LeF.cons (Le.refl _) ?_ | refine LeF.cons (Le.int (by omega)) ?_))) rfl
          simp only
          have hs := val_set us (i + q.length) c (by omega)
          rw [hz0, Nat.mul_zero, Nat.add_zero, Nat.pow_add] at hs
          rw [hs, hvu, List.take_length, hval, val_take_succ', Nat.add_mul]
      · have hie : i = p.length := by omega
        subst hie
        rw [List.take_length] at hval
        repeat (refine A1 ⟨?_⟩; intros)
        refine WpubD (ds := os) 84 rfl (HDel.here _) hol (by omega) (by omega) ?_
        refine Wc (rtrim_nat os (by omega) hO) ?_
        rw [hval]
        repeat (refine A1 ⟨?_⟩; intros)
        ((first | refine endR ?_ | refine endN ?_); exact end1 (RV.tmp rfl) (Le.refl _))
end Go.Ab
