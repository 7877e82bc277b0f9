/- Texts laid one behind the other: NatH, NatI, RefG, LongA, NatG, Int, IntB. -/
import Derived.Test.YtebghnhocigmlaaGreatDoorB03
import Derived.Test.YtebghnhocigmlaaGreatDoorB04
namespace Go.Ab
open Go.Proofs
set_option linter.unusedSectionVars false
set_option linter.unusedVariables false
set_option linter.unusedSimpArgs false
variable [Base]
theorem pow32 {s : Nat} (h : s < 32) : 2 ^ s ≤ 2147483648 ∧ 0 < 2 ^ s ∧ 2 ^ s * 2 ^ (32 - s) = 4294967296 := by
  refine ⟨?_, Nat.pow_pos (by omega), ?_⟩
  · have := Nat.pow_le_pow_right (n := 2) (by omega) (show s ≤ 31 by omega); simpa using this
  · rw [← Nat.pow_add, show s + (32 - s) = 32 by omega]
theorem shl_halves {d s : Nat} (hs : s < 32) (hd : d < 4294967296) : d * 2 ^ s ≤ 18446744073709551615 ∧ d * 2 ^ s / 4294967296 < 2 ^ s ∧ ∃ y, d * 2 ^ s % 4294967296 = 2 ^ s * y ∧ 2 ^ s * y + 2 ^ s ≤ 4294967296 := by
  obtain ⟨h1, h2, h3⟩ := pow32 hs
  have hm : d * 2 ^ s ≤ 4294967295 * 2 ^ s := Nat.mul_le_mul_right _ (by omega)
  refine ⟨by omega, ?_, d % 2 ^ (32 - s), ?_, ?_⟩
  · rw [Nat.div_lt_iff_lt_mul (by omega)]
    have : d * 2 ^ s < 4294967296 * 2 ^ s := Nat.mul_lt_mul_of_pos_right hd h2
    rw [Nat.mul_comm (2 ^ s)]; exact this
  · rw [← h3, Nat.mul_comm d, Nat.mul_mod_mul_left]
  · have : d % 2 ^ (32 - s) < 2 ^ (32 - s) := Nat.mod_lt _ (Nat.pow_pos (by omega))
    have h4 : 2 ^ s * (d % 2 ^ (32 - s) + 1) ≤ 2 ^ s * 2 ^ (32 - s) := Nat.mul_le_mul_left _ this
    rw [h3, Nat.mul_add, Nat.mul_one] at h4; exact h4
set_option maxHeartbeats 2000000 in
theorem shl_cap (xs : List Nat) (s : Nat) (hla : xs.length ≤ 100000000) (hA : D xs) (hs : s < 32) (h0 : val xs ≠ 0) : Pu Tryz.prog 385 [dg xs, lit (.int .u64 s)] (dgc (dgs (val xs * 2 ^ s)) ((dgs (val xs)).length + 1)) := by
  obtain ⟨p, t1, h1, hP, hva, hpd⟩ := trimmed xs hla (by omega) hA
  rw [← hva] at h0
  rw [← hpd, ← hva]
  obtain ⟨w1, w2, w3⟩ := pow32 hs
  refine Pu.intro Tryz.func385 rfl (by kernel_rfl) fun C => ?_
  repeat (refine A1 ⟨?_⟩; intros)
  refine Wc t1 ?_
  have hpos : 0 < p.length := List.length_pos_iff.2 fun e => h0 (by rw [e]; rfl)
  repeat (refine A1 ⟨?_⟩; intros)
  refine WmkD (p.length + 1) rfl rfl (by omega) (by omega) fun bb => ?_
  repeat (refine A1 ⟨?_⟩; intros)
  refine WP.loop (ι := Nat × List Nat) (fun st => st.1 ≤ p.length ∧ st.2.length = p.length + 1 ∧ D st.2 ∧ val st.2 = val (p.take st.1) * 2 ^ s ∧ st.2.getD st.1 0 < 2 ^ s ∧ ∀ j, st.1 < j → st.2.getD j 0 = 0) (fun st => p.length - st.1)
    (fun st => fm [(5, lit (.int .i64 0)), (6, lit (.int .u64 s)), (7, lit (.slice (some ⟨bb, 0, none⟩) (p.length + 1) (p.length + 1))), (29, dg p), (30, lit (.int .i64 p.length)), (31, lit (.int .i64 st.1))])
    (fun st => [(bb, 65, dcells st.2)]) (0, List.replicate (p.length + 1) 0) ⟨Nat.zero_le _, by simp, D.rep _, by simp [val, val_rep], by simp [List.getD]; omega, fun j _ => by simp [List.getD, List.getElem?_replicate]; split <;> simp⟩ (by (repeat (first | exact LeF.nil _ | refine LeF.cons (Le.refl _) ?_ | refine LeF.cons (Le.int (by omega)) ?_))) rfl ?_
  rintro ⟨k, os⟩ ⟨hk, hol, hO, hval, hlo, hz⟩ K hK
  simp only at hk hol hO hval hlo hz ⊢
  by_cases hkl : k < p.length
  · have hx := hP.get k
    obtain ⟨a1, a2, y, a3, a4⟩ := shl_halves (d := p.getD k 0) hs hx
    have hz1 := hz (k + 1) (by omega)
    repeat (refine A1 ⟨?_⟩; intros)
    rw [shlN (p.getD k 0) s (by omega) a1]
    repeat (refine A1 ⟨?_⟩; intros)
    refine Wo (ov_or rfl rfl (or32 (os.getD k 0) y s rfl (by rw [← a3, Int.natCast_emod]; rfl) hlo (by omega))) ?_
    repeat (refine A1 ⟨?_⟩; intros)
    refine WstD (2 ^ s * y + os.getD k 0) rfl rfl rfl (HUpd.here _) (by omega) ?_
    repeat (refine A1 ⟨?_⟩; intros)
    refine WstD (p.getD k 0 * 2 ^ s / 4294967296) rfl rfl (by omega) (HUpd.here _) (by simp; omega) ?_
    repeat (refine A1 ⟨?_⟩; intros)
    refine hK _ _ (k + 1, (os.set k (2 ^ s * y + os.getD k 0)).set (k + 1) (p.getD k 0 * 2 ^ s / 4294967296)) ⟨by simp only; omega, by simpa using hol, (hO.set _ (by omega)).set _ (by omega), ?_, ?_, ?_⟩ (by simp only; omega) (by (repeat (first | exact LeF.nil _ | refine LeF.cons (Le.refl _) ?_ | refine LeF.cons (Le.int (by omega)) ?_))) rfl
    · simp only
      have e1 := val_set os k (2 ^ s * y + os.getD k 0) (by omega)
      have e2 := val_set (os.set k (2 ^ s * y + os.getD k 0)) (k + 1) (p.getD k 0 * 2 ^ s / 4294967296) (by simp; omega)
      rw [getD_set_ne' _ _ _ _ (by omega), hz1, Nat.mul_zero, Nat.add_zero] at e2
      rw [e2, val_take_succ', Nat.add_mul, ← hval, Nat.mul_assoc (4294967296 ^ k)]
      have e3 := Nat.div_add_mod (p.getD k 0 * 2 ^ s) 4294967296
      have e4 : 4294967296 ^ k * (p.getD k 0 * 2 ^ s) = 4294967296 ^ (k + 1) * (p.getD k 0 * 2 ^ s / 4294967296) + 4294967296 ^ k * (2 ^ s * y) := by
        conv => lhs; rw [← e3]
        rw [Nat.mul_add, a3, Nat.pow_succ, Nat.mul_assoc]
      rw [e4]
      rw [Nat.mul_add] at e1
      omega
    · simp only
      rw [show ((os.set k (2 ^ s * y + os.getD k 0)).set (k + 1) (p.getD k 0 * 2 ^ s / 4294967296)).getD (k + 1) 0 = p.getD k 0 * 2 ^ s / 4294967296 from by
        have : k + 1 < os.length := by omega
        simp [List.getD, this]]
      exact a2
    · intro j hj
      simp only at hj ⊢
      rw [getD_set_ne' _ _ _ _ (by omega), getD_set_ne' _ _ _ _ (by omega)]
      exact hz j (by omega)
  · have hke : k = p.length := by omega
    subst hke
    rw [List.take_length] at hval
    repeat (refine A1 ⟨?_⟩; intros)
    refine WpubC (ds := os) 60 rfl (HDel.here _) hol (by omega) (by omega) ?_
    refine Wc (trim_cap os _ (by omega)) ?_
    rw [trimL_eq hO, hval]
    repeat (refine A1 ⟨?_⟩; intros)
    ((first | refine endR ?_ | refine endN ?_); exact end1 (RV.tmp rfl) (Le.refl _))
theorem shl_nat (xs : List Nat) (s : Nat) (hla : xs.length ≤ 100000000) (hA : D xs) (hs : s < 32) : Pu Tryz.prog 385 [dg xs, lit (.int .u64 s)] (nat (val xs * 2 ^ s)) := by
  by_cases h0 : val xs = 0
  · obtain ⟨p, t1, h1, hP, hva, hpd⟩ := trimmed xs hla (by omega) hA
    have hp : p = [] := by rw [hpd, h0, dgs_zero]
    subst hp
    rw [h0]
    refine Pu.intro Tryz.func385 rfl (by kernel_rfl) fun C => ?_
    repeat (refine A1 ⟨?_⟩; intros)
    refine Wc t1 ?_
    repeat (refine A1 ⟨?_⟩; intros)
    refine endR (end1 (RV.tmp rfl) ?_)
    simp only [Nat.zero_mul]
    rw [show nat 0 = dg [] from by show dg (dgs 0) = _; rw [dgs_zero]]
    exact le_nil
  · exact (shl_cap xs s hla hA hs h0).le (dgc_dg _ _)
theorem shr_digit {V p q r s : Nat} (k : Nat) (hs : s < 32) (h : V / 4294967296 ^ k = p + 4294967296 * (q + 4294967296 * r)) : V / 2 ^ s / 4294967296 ^ k % 4294967296 = (p + q * 4294967296) / 2 ^ s % 4294967296 := by
  obtain ⟨w1, w2, w3⟩ := pow32 hs
  rw [Nat.div_div_eq_div_mul, Nat.mul_comm, ← Nat.div_div_eq_div_mul, h]
  have e : p + 4294967296 * (q + 4294967296 * r) = (p + q * 4294967296) + 2 ^ s * (4294967296 * (2 ^ (32 - s) * r)) := by
    rw [← Nat.mul_assoc (2 ^ s), Nat.mul_comm (2 ^ s), Nat.mul_assoc, ← Nat.mul_assoc (2 ^ s), w3, Nat.mul_add, Nat.mul_comm q]; omega
  rw [e, Nat.add_mul_div_left _ _ w2, Nat.add_mul_mod_self_left]
theorem val_div_pow (ds : List Nat) (hD : D ds) (k : Nat) (hk : k ≤ ds.length) : val ds / 4294967296 ^ k = val (ds.drop k) := by
  rw [val_split ds k hk, Nat.add_mul_div_left _ _ (Nat.pow_pos (by omega)), Nat.div_eq_of_lt, Nat.zero_add]
  have h := val_lt (hD.take k)
  rw [List.length_take, Nat.min_eq_left hk] at h; exact h
theorem drop_two (ds : List Nat) (k : Nat) (hk : k < ds.length) : val (ds.drop k) = ds.getD k 0 + 4294967296 * (ds.getD (k + 1) 0 + 4294967296 * val (ds.drop (k + 2))) := by
  rw [drop_getD ds k hk, val_cons]
  by_cases h : k + 1 < ds.length
  · rw [drop_getD ds (k + 1) h, val_cons]
  · rw [List.drop_eq_nil_of_le (by omega), List.drop_eq_nil_of_le (by omega), show ds.getD (k + 1) 0 = 0 from by simp [List.getD, List.getElem?_eq_none (show ds.length ≤ k + 1 by omega)]]; simp [val]
set_option maxHeartbeats 2000000 in
theorem shr_nat (xs : List Nat) (s : Nat) (hla : xs.length ≤ 100000000) (hA : D xs) (hs : s < 32) : Pu Tryz.prog 386 [dg xs, lit (.int .u64 s)] (nat (val xs / 2 ^ s)) := by
  obtain ⟨p, t1, h1, hP, hva, hpd⟩ := trimmed xs hla (by omega) hA
  rw [← hva]
  obtain ⟨w1, w2, w3⟩ := pow32 hs
  refine Pu.intro Tryz.func386 rfl (by kernel_rfl) fun C => ?_
  repeat (refine A1 ⟨?_⟩; intros)
  refine Wc t1 ?_
  by_cases h0 : p = []
  · subst h0
    repeat (refine A1 ⟨?_⟩; intros)
    refine endR (end1 (RV.tmp rfl) ?_)
    simp only [val, Nat.zero_div]
    rw [show nat 0 = dg [] from by show dg (dgs 0) = _; rw [dgs_zero]]
    exact le_nil
  · have hpos := List.length_pos_iff.2 h0
    repeat (refine A1 ⟨?_⟩; intros)
    refine WmkD p.length rfl rfl (by omega) (by omega) fun bb => ?_
    repeat (refine A1 ⟨?_⟩; intros)
    refine WP.loop (ι := Nat × List Nat) (fun st => st.1 ≤ p.length ∧ st.2.length = p.length ∧ D st.2 ∧ val (st.2.take st.1) = val p / 2 ^ s % 4294967296 ^ st.1) (fun st => p.length - st.1)
      (fun st => fm [(0, dg p), (5, lit (.int .i64 0)), (6, lit (.int .u64 s)), (7, lit (.slice (some ⟨bb, 0, none⟩) p.length p.length)), (29, lit (.int .i64 p.length)), (30, lit (.int .i64 st.1))])
      (fun st => [(bb, 65, dcells st.2)]) (0, List.replicate p.length 0) ⟨Nat.zero_le _, by simp, D.rep _, by simp [val, Nat.mod_one]⟩ (by (repeat (first | exact LeF.nil _ | refine LeF.cons (Le.refl _) ?_ | refine LeF.cons (Le.int (by omega)) ?_))) rfl ?_
    rintro ⟨k, os⟩ ⟨hk, hol, hO, hval⟩ K hK
    simp only at hk hol hO hval ⊢
    by_cases hkl : k < p.length
    · have hx := hP.get k
      have hx1 := hP.get (k + 1)
      repeat (refine A1 ⟨?_⟩; intros)
      refine WP.via (fun F H => LeF F (fm [(0, dg p), (5, lit (.int .i64 0)), (6, lit (.int .u64 s)), (7, lit (.slice (some ⟨bb, 0, none⟩) p.length p.length)), (8, lit (.int .i64 k)), (9, lit (.int .u64 (p.getD k 0 + p.getD (k + 1) 0 * 4294967296 : Nat))), (29, lit (.int .i64 p.length)), (30, lit (.int .i64 k))]) ∧ H = [(bb, 65, dcells os)]) ?_ ?_
      · refine WPd (fun h => ?_) (fun h => ?_)
        · repeat (refine A1 ⟨?_⟩; intros)
          refine Wo (ov_or rfl rfl (or64' (p.getD (k + 1) 0) (p.getD k 0) rfl rfl hx1 hx)) ?_
          repeat (refine A1 ⟨?_⟩; intros)
          exact ⟨by (repeat (first | exact LeF.nil _ | refine LeF.cons (Le.refl _) ?_ | refine LeF.cons (Le.int (by omega)) ?_)), rfl⟩
        · have h0 : p.getD (k + 1) 0 = 0 := by simp [List.getD, List.getElem?_eq_none (show p.length ≤ k + 1 by omega)]
          repeat (refine A1 ⟨?_⟩; intros)
          exact ⟨by (repeat (first | exact LeF.nil _ | refine LeF.cons (Le.refl _) ?_ | refine LeF.cons (Le.int (by omega)) ?_)), rfl⟩
      · rintro F H ⟨hF, rfl⟩
        refine WP.le hF ?_
        repeat (refine A1 ⟨?_⟩; intros)
        rw [shrN _ s (by omega)]
        refine WstD ((p.getD k 0 + p.getD (k + 1) 0 * 4294967296) / 2 ^ s % 4294967296) rfl rfl (by rw [Int.natCast_emod]; rfl) (HUpd.here _) (by omega) ?_
        repeat (refine A1 ⟨?_⟩; intros)
        refine hK _ _ (k + 1, os.set k ((p.getD k 0 + p.getD (k + 1) 0 * 4294967296) / 2 ^ s % 4294967296)) ⟨by simp only; omega, by simpa using hol, hO.set _ (by omega), ?_⟩ (by simp only; omega) (by (repeat (first | exact LeF.nil _ | refine LeF.cons (Le.refl _) ?_ | refine LeF.cons (Le.int (by omega)) ?_))) rfl
        simp only
        rw [val_take_set _ _ _ (by omega), hval, Nat.mod_pow_succ, shr_digit k hs ((val_div_pow p hP k hk).trans (drop_two p k hkl))]
    · have hke : k = p.length := by omega
      subst hke
      rw [Nat.mod_eq_of_lt (Nat.lt_of_le_of_lt (Nat.div_le_self _ _) (val_lt hP)), List.take_of_length_le (by omega)] at hval
      repeat (refine A1 ⟨?_⟩; intros)
      refine WpubD (ds := os) 66 rfl (HDel.here _) hol (by omega) (by omega) ?_
      refine Wc (trim_nat os (by omega) hO) ?_
      rw [hval]
      repeat (refine A1 ⟨?_⟩; intros)
      ((first | refine endR ?_ | refine endN ?_); exact end1 (RV.tmp rfl) (Le.refl _))
section
variable {B top sec third first rest g V W P vl wl : Nat}
theorem guess_more (hV : V = (top * B + sec) * P + vl) (hW : W = (first * B + third) * P + wl) (hw : wl < P) (hg : g * top + rest = first) (h : rest * B + third < g * sec) : W < g * V := by
  have h1 : first * B + third + 1 ≤ g * (top * B + sec) := by
    rw [← hg, Nat.mul_add, Nat.add_mul, ← Nat.mul_assoc]; omega
  have h2 := Nat.mul_le_mul_right P h1
  rw [hW, hV, Nat.mul_add, ← Nat.mul_assoc]
  rw [Nat.add_mul, Nat.one_mul] at h2
  omega
theorem guess_first (hV : V = (top * B + sec) * P + vl) (hW : W = (first * B + third) * P + wl) (hw : wl < P) (ht : third < B) (hg : first < (g + 1) * top) : W < (g + 1) * V := by
  have h1 : (first + 1) * B ≤ (g + 1) * top * B := Nat.mul_le_mul_right B hg
  have h2 : first * B + third + 1 ≤ (g + 1) * (top * B + sec) := by
    rw [Nat.mul_add, ← Nat.mul_assoc]; rw [Nat.add_mul, Nat.one_mul] at h1; omega
  have h3 := Nat.mul_le_mul_right P h2
  rw [hW, hV, Nat.mul_add (g + 1), ← Nat.mul_assoc]
  rw [Nat.add_mul, Nat.one_mul] at h3
  omega
theorem guess_last (hV : V = (top * B + sec) * P + vl) (hW : W = (first * B + third) * P + wl) (hv : vl < P) (hg : g * top + rest = first) (h : g * sec ≤ rest * B + third) (hB : g < B) (ht : 1 ≤ top) : g * V ≤ W + V := by
  have h1 : g * (top * B + sec) ≤ first * B + third := by
    rw [← hg, Nat.mul_add, Nat.add_mul, ← Nat.mul_assoc]; omega
  have h2 := Nat.mul_le_mul_right P h1
  have h3 : g * vl ≤ B * P := Nat.mul_le_mul (by omega) (by omega)
  have h4 : B * P ≤ (top * B + sec) * P := Nat.mul_le_mul_right P (by have := Nat.mul_le_mul_right B ht; omega)
  rw [Nat.mul_assoc] at h2
  rw [hW, hV, Nat.mul_add]
  omega
theorem guess_small (hV : V = (top * B + sec) * P + vl) (hW : W = (first * B + third) * P + wl) (hv : vl < P) (hs : sec < B) (hWV : W < B * V) (hg : g * top ≤ first) (ht : B ≤ 2 * top) (h0 : 0 < B) : g ≤ B + 1 ∧ first < B * top + B := by
  have h1 : V < (top + 1) * B * P := by
    have := Nat.mul_le_mul_right P (show top * B + sec + 1 ≤ (top + 1) * B by rw [Nat.add_mul, Nat.one_mul]; omega)
    rw [Nat.add_mul _ 1, Nat.one_mul] at this
    omega
  have h2 : first * B * P ≤ W := by rw [hW, Nat.add_mul]; omega
  have h3 : first * B * P < B * ((top + 1) * B * P) := Nat.lt_of_le_of_lt h2 (Nat.lt_trans hWV (Nat.mul_lt_mul_of_pos_left h1 h0))
  have h4 : first * (B * P) < B * (top + 1) * (B * P) := by simpa only [Nat.mul_assoc] using h3
  have h5 := Nat.lt_of_mul_lt_mul_right h4
  rw [Nat.mul_add, Nat.mul_one] at h5
  refine ⟨?_, h5⟩
  rcases Nat.lt_or_ge (B + 1) g with h | h
  · exfalso
    have h6 := Nat.mul_le_mul_right top h
    simp only [Nat.succ_eq_add_one, Nat.add_mul, Nat.one_mul] at h6
    omega
  · exact h
end
theorem msub_digit {vo vs va c w d u t : Nat} {p B1 g : Nat} (h : vs + p * (g * va) = vo + p * (B1 * (c + w))) (ht : t = c + g * d) {x' w' : Nat} (hx : x' + t % 4294967296 + w = u + 4294967296 * w') {vs' : Nat} (hs : vs' + p * B1 * u = vs + p * B1 * x') :
    vs' + p * (g * (va + B1 * d)) = vo + p * (B1 * 4294967296 * (t / 4294967296 + w')) := by
  have e := Nat.div_add_mod t 4294967296
  have e1 := congrArg (fun z => p * B1 * z) e
  have e2 := congrArg (fun z => p * B1 * z) hx
  rw [ht] at e1
  simp only [Nat.mul_add, ← Nat.mul_assoc] at h e1 e2 hs ⊢
  rw [← ht] at e1
  rw [show p * g * B1 * d = p * B1 * g * d from by rw [Nat.mul_right_comm p g B1]]
  omega
theorem madd_digit {vo vs va c d u t : Nat} {p B1 : Nat} (h : vs + p * (B1 * c) = vo + p * va) (ht : t = c + (u + d)) {vs' : Nat} (hs : vs' + p * B1 * u = vs + p * B1 * (t % 4294967296)) :
    vs' + p * (B1 * 4294967296 * (t / 4294967296)) = vo + p * (va + B1 * d) := by
  have e := Nat.div_add_mod t 4294967296
  have e1 := congrArg (fun z => p * B1 * z) e
  rw [ht] at e1
  simp only [Nat.mul_add, ← Nat.mul_assoc] at h e1 hs ⊢
  rw [← ht] at e1
  omega
theorem val_drop_zero {us : List Nat} {n : Nat} (h : val us < 4294967296 ^ n) (hn : n ≤ us.length) : val us = val (us.take n) ∧ ∀ j, n ≤ j → us.getD j 0 = 0 := by
  have hs := val_split us n hn
  have h0 : val (us.drop n) = 0 := by
    rcases Nat.eq_zero_or_pos (val (us.drop n)) with h1 | h1
    · exact h1
    · have := Nat.mul_le_mul_left (4294967296 ^ n) h1
      rw [Nat.mul_one] at this; omega
  refine ⟨by rw [hs, h0, Nat.mul_zero, Nat.add_zero], fun j hj => ?_⟩
  have hz : ∀ l : List Nat, val l = 0 → ∀ i, l.getD i 0 = 0 := by
    intro l
    induction l with
    | nil => intro _ i; simp
    | cons d l ih =>
      intro hv i
      rw [val_cons] at hv
      cases i with
      | zero => simpa using (show d = 0 by omega)
      | succ i => simpa using ih (by omega) i
  have := hz (us.drop n) h0 (j - n)
  rw [List.getD, List.getElem?_drop, show n + (j - n) = j from by omega] at this
  exact this
theorem D_shift {us : List Nat} {j : Nat} (hD : D us) (hj : j ≤ us.length) : val us / 4294967296 ^ j = val (us.drop j) := by
  rw [val_split us j hj, Nat.add_mul_div_left _ _ (Nat.pow_pos (by omega)), Nat.div_eq_of_lt, Nat.zero_add]
  have h := val_lt (hD.take j)
  rw [List.length_take, Nat.min_eq_left hj] at h; exact h
theorem round_done {us us' : List Nat} {j g V W : Nat} (hD : D us) (hD' : D us') (hj : j ≤ us.length) (hj' : j ≤ us'.length) (hW : val (us.drop j) = W) (h : val us' + 4294967296 ^ j * (g * V) = val us) (hg : W < (g + 1) * V) :
    val (us'.drop j) < V := by
  rw [← D_shift hD' hj', Nat.div_lt_iff_lt_mul (Nat.pow_pos (by omega))]
  have hs := val_split us j hj
  have hl := val_lt (hD.take j)
  rw [List.length_take, Nat.min_eq_left hj] at hl
  rw [hW] at hs
  have h2 : 4294967296 ^ j * (W + 1) ≤ 4294967296 ^ j * ((g + 1) * V) := Nat.mul_le_mul_left _ hg
  rw [Nat.add_mul, Nat.one_mul, Nat.mul_add, Nat.mul_add] at h2
  rw [Nat.mul_comm V]
  omega
theorem val_three {us : List Nat} {j n : Nat} (hD : D us) (hn : 2 ≤ n) (hl : j + n < us.length) (hz : val (us.drop (j + 1)) < 4294967296 ^ n) :
    ∃ wl, wl < 4294967296 ^ (n - 2) ∧ val (us.drop j) = ((us.getD (j + n) 0 * 4294967296 + us.getD (j + n - 1) 0) * 4294967296 + us.getD (j + n - 2) 0) * 4294967296 ^ (n - 2) + wl := by
  have hD' := hD.drop j
  have hlen : (us.drop j).length = us.length - j := List.length_drop
  have hlt : val (us.drop j) < 4294967296 ^ (n + 1) := by
    rw [drop_getD us j (by omega), val_cons, Nat.pow_succ, Nat.mul_comm]
    have := hD.get j
    have := Nat.mul_le_mul_right 4294967296 hz
    omega
  have e := (val_drop_zero hlt (by omega)).1
  have g0 : ∀ i, (us.drop j).getD i 0 = us.getD (j + i) 0 := fun i => by rw [List.getD, List.getElem?_drop]; rfl
  have hw := val_lt (hD'.take (n - 2))
  rw [List.length_take, Nat.min_eq_left (by omega)] at hw
  refine ⟨_, hw, ?_⟩
  obtain ⟨k, rfl⟩ : ∃ k, n = k + 2 := ⟨n - 2, by omega⟩
  rw [e, val_take_succ', val_take_succ', val_take_succ', g0, g0, g0]
  rw [show j + (k + 2) - 1 = j + (k + 1) from by omega, show j + (k + 2) - 2 = j + k from by omega, show k + 2 - 2 = k from by omega]
  simp only [Nat.pow_succ, Nat.add_mul]
  rw [Nat.mul_comm (4294967296 ^ k) (us.getD (j + k) 0), Nat.mul_comm (4294967296 ^ k * 4294967296) _, Nat.mul_comm (4294967296 ^ k * 4294967296 * 4294967296) _, Nat.mul_comm (4294967296 ^ k) 4294967296]
  simp only [Nat.mul_assoc]
  rw [Nat.mul_comm (4294967296 ^ k) 4294967296]
  omega
theorem lead_two {v : List Nat} {n : Nat} (hD : D v) (hn : 2 ≤ n) (hl : v.length = n) : ∃ vl, vl < 4294967296 ^ (n - 2) ∧ val v = (v.getD (n - 1) 0 * 4294967296 + v.getD (n - 2) 0) * 4294967296 ^ (n - 2) + vl := by
  have hw := val_lt (hD.take (n - 2))
  rw [List.length_take, Nat.min_eq_left (by omega)] at hw
  refine ⟨_, hw, ?_⟩
  obtain ⟨k, rfl⟩ : ∃ k, n = k + 2 := ⟨n - 2, by omega⟩
  conv => lhs; rw [← List.take_of_length_le (Nat.le_of_eq hl)]
  rw [val_take_succ', val_take_succ', show k + 2 - 1 = k + 1 from rfl, show k + 2 - 2 = k from by omega]
  simp only [Nat.pow_succ, Nat.add_mul]
  rw [Nat.mul_comm (4294967296 ^ k) (v.getD k 0), Nat.mul_comm (4294967296 ^ k * 4294967296) _, Nat.mul_comm (4294967296 ^ k) 4294967296]
  simp only [Nat.mul_assoc]
  omega
theorem norm_shift {y k s : Nat} (hk : (dgs y).length = k + 1) (hs : s + blen ((dgs y).getD k 0) = 32) : s < 32 ∧ (dgs (y * 2 ^ s)).length = k + 1 ∧ 2147483648 ≤ (dgs (y * 2 ^ s)).getD k 0 ∧ 4294967296 ^ k ≤ y := by
  have hy0 : y ≠ 0 := fun e => by rw [e, dgs_zero] at hk; simp at hk
  obtain ⟨k', h1, h2, h3, h4, h5⟩ := dgs_top hy0
  obtain rfl : k' = k := by omega
  generalize (dgs y).getD k' 0 = t at *
  generalize val ((dgs y).take k') = low at *
  have hb : 1 ≤ blen t := by
    have := (blen_lt (n := t) (k := 0)).2 (by simp; omega); omega
  have q1 : 2 ^ (blen t - 1) ≤ t := blen_lt.1 (by omega)
  have q2 : t < 2 ^ blen t := blen_le.1 (Nat.le_refl _)
  have p1 : 2 ^ (blen t - 1) * 2 ^ s = 2147483648 := by rw [← Nat.pow_add, show blen t - 1 + s = 31 from by omega]
  have p2 : 2 ^ blen t * 2 ^ s = 4294967296 := by rw [← Nat.pow_add, show blen t + s = 32 from by omega]
  have pp : 0 < 4294967296 ^ k' := Nat.pow_pos (by omega)
  have hs0 : 0 < 2 ^ s := Nat.pow_pos (by omega)
  have lo : 2147483648 * 4294967296 ^ k' ≤ y * 2 ^ s := by
    have e1 := Nat.mul_le_mul_right (4294967296 ^ k') (Nat.mul_le_mul_right (2 ^ s) q1)
    rw [p1] at e1
    refine Nat.le_trans e1 ?_
    rw [Nat.mul_right_comm]
    refine Nat.mul_le_mul_right _ ?_
    rw [h5, Nat.mul_comm t]; omega
  have hi : y * 2 ^ s < 4294967296 ^ (k' + 1) := by
    have e0 : y < (t + 1) * 4294967296 ^ k' := by rw [h5, Nat.add_mul, Nat.mul_comm t]; omega
    have e1 := Nat.mul_lt_mul_of_pos_right e0 hs0
    refine Nat.lt_of_lt_of_le e1 ?_
    have e2 := Nat.mul_le_mul_right (4294967296 ^ k') (Nat.mul_le_mul_right (2 ^ s) (show t + 1 ≤ 2 ^ blen t by omega))
    rw [p2] at e2
    rw [Nat.mul_right_comm, Nat.pow_succ, Nat.mul_comm (4294967296 ^ k') 4294967296]; exact e2
  have hlen : (dgs (y * 2 ^ s)).length = k' + 1 := by
    have a1 := len_le hi
    rcases Nat.lt_or_ge k' (dgs (y * 2 ^ s)).length with h | h
    · omega
    · have := len_lt h; omega
  refine ⟨by omega, hlen, ?_, ?_⟩
  · have hd := D_shift (j := k') (D_dgs (y * 2 ^ s)) (by omega)
    rw [val_dgs, drop_getD _ k' (by omega), List.drop_eq_nil_of_le (by omega)] at hd
    simp only [val, Nat.mul_zero, Nat.add_zero] at hd
    rw [← hd, Nat.le_div_iff_mul_le pp]; exact lo
  · rw [h5]
    have := Nat.mul_le_mul_left (4294967296 ^ k') (Nat.one_le_iff_ne_zero.2 h2)
    omega
theorem val_zeros : ∀ l : List Nat, (∀ i, l.getD i 0 = 0) → val l = 0
  | [], _ => rfl
  | d :: l, h => by
    have h0 : d = 0 := by simpa using h 0
    have h1 := val_zeros l fun i => by simpa using h (i + 1)
    rw [val_cons, h0, h1]
theorem val_small {us : List Nat} {k : Nat} (hD : D us) (hk : k ≤ us.length) (h : ∀ p, k ≤ p → us.getD p 0 = 0) : val us < 4294967296 ^ k := by
  have h0 : val (us.drop k) = 0 := val_zeros _ fun i => by
    have := h (k + i) (by omega)
    rwa [List.getD, List.getElem?_drop]
  have h1 := val_lt (hD.take k)
  rw [List.length_take, Nat.min_eq_left hk] at h1
  rw [val_split us k hk, h0]; simpa using h1
theorem fin_right {vu v2 v3 p q c w u x gv : Nat} (h2 : v2 + p * gv = vu + p * (q * (c + w))) (h3 : v3 + p * q * u = v2 + p * q * x) (hx : x + c + w = u) : v3 + p * gv = vu := by
  have e := congrArg (fun z => p * q * z) hx
  simp only [Nat.mul_add, ← Nat.mul_assoc] at e h2 h3
  omega
theorem fin_over {vu v2 v3 p q c w u x gv : Nat} (h2 : v2 + p * gv = vu + p * (q * (c + w))) (h3 : v3 + p * q * u = v2 + p * q * x) (hx : x + c + w = u + 4294967296) : v3 + p * gv = vu + p * q * 4294967296 := by
  have e := congrArg (fun z => p * q * z) hx
  simp only [Nat.mul_add, ← Nat.mul_assoc] at e h2 h3
  omega
theorem over_lt {vu v3 p q gv low W : Nat} (h : v3 + p * gv = vu + p * q * 4294967296) (hl : v3 < p * q * 4294967296) (hu : vu = low + p * W) : W < gv := by
  have : p * W < p * gv := by omega
  exact Nat.lt_of_mul_lt_mul_left this
theorem fin_back {vu v3 v4 v5 p q c t gv V low W : Nat} (h3 : v3 + p * gv = vu + p * q * 4294967296) (h4 : v4 + p * (q * c) = v3 + p * V) (h5 : v5 + p * q * t = v4 + p * q * ((t + c) % 4294967296)) (hl : v5 < p * q * 4294967296)
    (hc : c ≤ 1) (ht : t < 4294967296) (hg : gv ≤ W + V) (hu : vu = low + p * W) : v5 + p * gv = vu + p * V := by
  have e := Nat.mul_le_mul_left p hg
  rcases Nat.lt_or_ge (t + c) 4294967296 with hlt | hge
  · exfalso
    rw [Nat.mod_eq_of_lt hlt] at h5
    simp only [Nat.mul_add, ← Nat.mul_assoc] at e h3 h4 h5 hl
    omega
  · have hm : (t + c) % 4294967296 + 4294967296 = t + c := by omega
    have e2 := congrArg (fun z => p * q * z) hm
    simp only [Nat.mul_add, ← Nat.mul_assoc] at e2 h3 h4 h5
    omega
theorem short_digit {vp vo d r x v q r' : Nat} (h : vp = vo * d + r) (hv : v = r * 4294967296 + x) (hq : q = v / d) (hr : r' = v % d) : x + 4294967296 * vp = (q + 4294967296 * vo) * d + r' := by
  subst hq; subst hr; subst h
  have e := Nat.div_add_mod v d
  rw [Nat.add_mul, Nat.mul_comm (v / d) d, Nat.mul_add, ← Nat.mul_assoc]
  omega
theorem drop_set_eq (ds : List Nat) (j x : Nat) (h : j < ds.length) : (ds.set j x).drop j = x :: ds.drop (j + 1) := by
  rw [drop_getD _ j (by simpa using h), show (ds.set j x).getD j 0 = x from by simp [List.getD, h]]
  congr 1
  rw [List.drop_set]; simp
set_option maxHeartbeats 2000000 in
theorem short_nat (xs : List Nat) (d : Nat) (hla : xs.length ≤ 100000000) (hP : D xs) (hd0 : d ≠ 0) (hd : d < 4294967296) : Pu Tryz.prog 326 [dg xs, lit (.int .u32 d)] (tup [nat (val xs / d), lit (.int .u32 (val xs % d : Nat))]) := by
  refine Pu.intro Tryz.func326 rfl (by kernel_rfl) fun C => ?_
  repeat (refine A1 ⟨?_⟩; intros)
  refine WmkD xs.length rfl rfl (by omega) (by omega) fun bb => ?_
  repeat (refine A1 ⟨?_⟩; intros)
  refine WP.loop (ι := Nat × Nat × List Nat) (fun s => s.1 ≤ xs.length ∧ s.2.1 < d ∧ s.2.2.length = xs.length ∧ D s.2.2 ∧ val (xs.drop s.1) = val (s.2.2.drop s.1) * d + s.2.1) (fun s => s.1)
    (fun s => fm [(0, dg xs), (1, lit (.int .u32 d)), (6, lit (.slice (some ⟨bb, 0, none⟩) xs.length xs.length)), (7, lit (.int .u64 s.2.1)), (8, lit (.int .i64 ((s.1 : Int) - 1)))])
    (fun s => [(bb, 65, dcells s.2.2)]) (xs.length, 0, List.replicate xs.length 0) ⟨Nat.le_refl _, by simp only; omega, by simp, D.rep _, by simp [val]⟩ (by (repeat (first | exact LeF.nil _ | refine LeF.cons (Le.refl _) ?_ | refine LeF.cons (Le.int (by omega)) ?_))) rfl ?_
  rintro ⟨k, r, os⟩ ⟨hk, hr, hol, hO, hval⟩ K hK
  simp only at hk hr hol hO hval ⊢
  rcases k with _ | j
  · repeat (refine A1 ⟨?_⟩; intros)
    refine WpubD (ds := os) 40 rfl (HDel.here _) hol (by omega) (by omega) ?_
    refine Wc (trim_nat os (by omega) hO) ?_
    simp only [List.drop_zero] at hval
    have hq : val os = val xs / d := by
      rw [hval, Nat.mul_comm, Nat.mul_add_div (by omega), Nat.div_eq_of_lt hr, Nat.add_zero]
    have hm : r = val xs % d := by
      rw [hval, Nat.mul_comm, Nat.mul_add_mod, Nat.mod_eq_of_lt hr]
    rw [hq]
    repeat (refine A1 ⟨?_⟩; intros)
    rw [hm]
    ((first | refine endR ?_ | refine endN ?_); exact end2 (RV.tmp rfl) (RV.tmp rfl) (Le.refl _))
  · rw [show (((j + 1 : Nat) : Int) - 1) = (j : Int) from by omega]
    have hx := hP.get j
    have hlt : (r * 4294967296 + xs.getD j 0) / d < 4294967296 := by
      rw [Nat.div_lt_iff_lt_mul (by omega)]
      have : (r + 1) * 4294967296 ≤ d * 4294967296 := Nat.mul_le_mul_right _ hr
      rw [Nat.mul_comm 4294967296]; omega
    have hrm : (r * 4294967296 + xs.getD j 0) % d < d := Nat.mod_lt _ (by omega)
    repeat (refine A1 ⟨?_⟩; intros)
    refine Wo (ov_or rfl rfl (or64 r (xs.getD j 0) rfl rfl (by omega) hx)) ?_
    generalize hv : r * 4294967296 + xs.getD j 0 = v at *
    have hvb : v ≤ 18446744073709551615 := by omega
    repeat (refine A1 ⟨?_⟩; intros)
    generalize hq : v / d = q at *
    refine WstD q rfl rfl (by omega) (HUpd.here _) (by omega) ?_
    repeat (refine A1 ⟨?_⟩; intros)
    refine hK _ _ (j, v % d, os.set j q) ⟨by simp only; omega, hrm, by simpa using hol, hO.set _ hlt, ?_⟩ (by simp only; omega) (by (repeat (first | exact LeF.nil _ | refine LeF.cons (Le.refl _) ?_ | refine LeF.cons (Le.int (by omega)) ?_))) rfl
    simp only
    rw [drop_getD xs j (by omega), drop_set_eq os j _ (by omega), val_cons, val_cons]
    exact short_digit hval hv.symm hq.symm rfl
def sv (s : Bool) (n : Nat) : Int := bif s then -(n : Int) else n
abbrev raw (s : Bool) (xs : List Nat) : SV := ag [lit (.bool s), dg xs]
abbrev int (z : Int) : SV := ag [lit (.bool (decide (z < 0))), nat z.natAbs]
theorem sv_abs (s : Bool) (n : Nat) : (sv s n).natAbs = n := by cases s <;> simp [sv]
theorem sv_neg (s : Bool) (n : Nat) : decide (sv s n < 0) = (s && decide (0 < n)) := by
  cases s
  · simp only [sv, cond_false, Bool.false_and]; exact decide_eq_false (by omega)
  · simp [sv]
theorem sv_int (z : Int) : sv (decide (z < 0)) z.natAbs = z := by
  by_cases h : z < 0 <;> simp [sv, h] <;> omega
theorem int_sv (s : Bool) (n : Nat) : int (sv s n) = ag [lit (.bool (s && decide (0 < n))), nat n] := by rw [int, sv_abs, sv_neg]
theorem dgs_len_pos {n : Nat} (h : n ≠ 0) : 0 < (dgs n).length := by
  rcases hd : dgs n with _ | ⟨d, l⟩
  · have := val_dgs n; rw [hd] at this; exact absurd this.symm h
  · simp
theorem blen_val {xs : List Nat} (h : D xs) : blen (val xs) ≤ 32 * xs.length := blen_le.2 (by rw [Nat.pow_mul]; exact val_lt h)
theorem signed_pu (s : Bool) (n : Nat) (h : (dgs n).length ≤ 1000000000) : Pu Tryz.prog 356 [lit (.bool s), nat n] (int (sv s n)) := by
  rw [int_sv]
  by_cases h0 : n = 0
  · subst h0
    have hl : (dgs 0).length = 0 := by rw [dgs_zero]; rfl
    cases s <;> simp only [Nat.lt_irrefl, decide_false, Bool.and_false]
    all_goals
      refine Pu.intro Tryz.func356 rfl (by kernel_rfl) fun C => ?_
      repeat (refine A1 ⟨?_⟩; intros)
      ((first | refine endR ?_ | refine endN ?_); refine end1 (RV.cellA rfl (by repeat (first | exact List.mem_cons_self | apply List.mem_cons_of_mem)) (by (first | (simp only [List.drop_succ_cons, List.drop_zero, List.drop_nil, List.take_succ_cons, List.take_zero, List.take_nil, Nat.zero_add, Nat.add_zero, Nat.reduceAdd]; done) | (simp only [List.drop_succ_cons, List.drop_zero, List.drop_nil, List.take_succ_cons, List.take_zero, List.take_nil, Nat.zero_add, Nat.add_zero, Nat.reduceAdd]; exact rfl) | exact rfl)) rfl) (Le.refl _))
  · have hl := dgs_len_pos h0
    cases s <;> simp only [Bool.false_and, Bool.true_and, decide_eq_true (Nat.pos_of_ne_zero h0)]
    all_goals
      refine Pu.intro Tryz.func356 rfl (by kernel_rfl) fun C => ?_
      repeat (refine A1 ⟨?_⟩; intros)
      ((first | refine endR ?_ | refine endN ?_); refine end1 (RV.cellA rfl (by repeat (first | exact List.mem_cons_self | apply List.mem_cons_of_mem)) (by (first | (simp only [List.drop_succ_cons, List.drop_zero, List.drop_nil, List.take_succ_cons, List.take_zero, List.take_nil, Nat.zero_add, Nat.add_zero, Nat.reduceAdd]; done) | (simp only [List.drop_succ_cons, List.drop_zero, List.drop_nil, List.take_succ_cons, List.take_zero, List.take_nil, Nat.zero_add, Nat.add_zero, Nat.reduceAdd]; exact rfl) | exact rfl)) rfl) (Le.refl _))
theorem norm_raw (s : Bool) (xs : List Nat) (h : xs.length ≤ 1000000000) (hD : D xs) : Pu Tryz.prog 369 [raw s xs] (int (sv s (val xs))) := by
  rw [int_sv]
  have hb : (dgs (val xs)).length ≤ 1000000000 := by have := len_le (val_lt hD); omega
  by_cases h0 : val xs = 0
  · have hl : (dgs (val xs)).length = 0 := by rw [h0, dgs_zero]; rfl
    rw [show (s && decide (0 < val xs)) = false from by rw [h0]; simp]
    cases s
    all_goals
      refine Pu.intro Tryz.func369 rfl (by kernel_rfl) fun C => ?_
      repeat (refine A1 ⟨?_⟩; intros)
      refine Wc (norm_nat xs h hD) ?_
      repeat (refine A1 ⟨?_⟩; intros)
      ((first | refine endR ?_ | refine endN ?_); refine end1 (RV.cellA rfl (by repeat (first | exact List.mem_cons_self | apply List.mem_cons_of_mem)) (by (first | (simp only [List.drop_succ_cons, List.drop_zero, List.drop_nil, List.take_succ_cons, List.take_zero, List.take_nil, Nat.zero_add, Nat.add_zero, Nat.reduceAdd]; done) | (simp only [List.drop_succ_cons, List.drop_zero, List.drop_nil, List.take_succ_cons, List.take_zero, List.take_nil, Nat.zero_add, Nat.add_zero, Nat.reduceAdd]; exact rfl) | exact rfl)) rfl) (Le.refl _))
  · have hl := dgs_len_pos h0
    rw [decide_eq_true (Nat.pos_of_ne_zero h0), Bool.and_true]
    cases s
    all_goals
      refine Pu.intro Tryz.func369 rfl (by kernel_rfl) fun C => ?_
      repeat (refine A1 ⟨?_⟩; intros)
      refine Wc (norm_nat xs h hD) ?_
      repeat (refine A1 ⟨?_⟩; intros)
      ((first | refine endR ?_ | refine endN ?_); refine end1 (RV.cellA rfl (by repeat (first | exact List.mem_cons_self | apply List.mem_cons_of_mem)) (by (first | (simp only [List.drop_succ_cons, List.drop_zero, List.drop_nil, List.take_succ_cons, List.take_zero, List.take_nil, Nat.zero_add, Nat.add_zero, Nat.reduceAdd]; done) | (simp only [List.drop_succ_cons, List.drop_zero, List.drop_nil, List.take_succ_cons, List.take_zero, List.take_nil, Nat.zero_add, Nat.add_zero, Nat.reduceAdd]; exact rfl) | exact rfl)) rfl) (Le.refl _))
theorem sign_raw (s : Bool) (xs : List Nat) (h : xs.length ≤ 1000000000) (hD : D xs) : Pu Tryz.prog 358 [raw s xs] (lit (.int .i64 (sv s (val xs)).sign)) := by
  by_cases h0 : val xs = 0
  · rw [show (sv s (val xs)).sign = 0 from by rw [h0]; cases s <;> rfl]
    refine Pu.intro Tryz.func358 rfl (by kernel_rfl) fun C => ?_
    repeat (refine A1 ⟨?_⟩; intros)
    refine Wc (bits_nat xs h hD) ?_
    rw [h0, show blen 0 = 0 from rfl]
    repeat (refine A1 ⟨?_⟩; intros)
    ((first | refine endR ?_ | refine endN ?_); exact end1 (RV.tmp rfl) (Le.refl _))
  · have hb : blen (val xs) ≠ 0 := fun e => h0 (by have := blen_le.1 (Nat.le_of_eq e); omega)
    have hbb := blen_val hD
    cases s
    · rw [show (sv false (val xs)).sign = 1 from Int.sign_eq_one_of_pos (by simp only [sv, cond_false]; omega)]
      refine Pu.intro Tryz.func358 rfl (by kernel_rfl) fun C => ?_
      repeat (refine A1 ⟨?_⟩; intros)
      refine Wc (bits_nat xs h hD) ?_
      repeat (refine A1 ⟨?_⟩; intros)
      ((first | refine endR ?_ | refine endN ?_); exact end1 (RV.tmp rfl) (Le.refl _))
    · rw [show (sv true (val xs)).sign = -1 from Int.sign_eq_neg_one_of_neg (by simp only [sv, cond_true]; omega)]
      refine Pu.intro Tryz.func358 rfl (by kernel_rfl) fun C => ?_
      repeat (refine A1 ⟨?_⟩; intros)
      refine Wc (bits_nat xs h hD) ?_
      repeat (refine A1 ⟨?_⟩; intros)
      ((first | refine endR ?_ | refine endN ?_); exact end1 (RV.tmp rfl) (Le.refl _))
theorem wi64_mod {x : Int} (h0 : -9223372036854775808 ≤ x) (h1 : x ≤ 9223372036854775807) : IntKind.i64.wrap (x % 18446744073709551616) = x := by
  simp only [IntKind.wrap, IntKind.bits, IntKind.signed]
  simp; omega
theorem fromInt_pu (z : Int) (h0 : -9223372036854775808 ≤ z) (h1 : z ≤ 9223372036854775807) : Pu Tryz.prog 370 [lit (.int .i64 z)] (int z) := by
  by_cases h : z < 0
  · rw [int, decide_eq_true h]
    refine Pu.intro Tryz.func370 rfl (by kernel_rfl) fun C => ?_
    repeat (refine A1 ⟨?_⟩; intros)
    rw [show -(z % 18446744073709551616) % 18446744073709551616 = (z.natAbs : Int) from by omega]
    refine Wc (fromUint_nat z.natAbs (by omega)) ?_
    repeat (refine A1 ⟨?_⟩; intros)
    ((first | refine endR ?_ | refine endN ?_); refine end1 (RV.cellA rfl (by repeat (first | exact List.mem_cons_self | apply List.mem_cons_of_mem)) (by (first | (simp only [List.drop_succ_cons, List.drop_zero, List.drop_nil, List.take_succ_cons, List.take_zero, List.take_nil, Nat.zero_add, Nat.add_zero, Nat.reduceAdd]; done) | (simp only [List.drop_succ_cons, List.drop_zero, List.drop_nil, List.take_succ_cons, List.take_zero, List.take_nil, Nat.zero_add, Nat.add_zero, Nat.reduceAdd]; exact rfl) | exact rfl)) rfl) (Le.refl _))
  · rw [int, decide_eq_false h]
    refine Pu.intro Tryz.func370 rfl (by kernel_rfl) fun C => ?_
    repeat (refine A1 ⟨?_⟩; intros)
    generalize hn : z.natAbs = n at *
    have hz : z = (n : Int) := by omega
    subst hz
    refine Wc (fromUint_nat n (by omega)) ?_
    repeat (refine A1 ⟨?_⟩; intros)
    ((first | refine endR ?_ | refine endN ?_); refine end1 (RV.cellA rfl (by repeat (first | exact List.mem_cons_self | apply List.mem_cons_of_mem)) (by (first | (simp only [List.drop_succ_cons, List.drop_zero, List.drop_nil, List.take_succ_cons, List.take_zero, List.take_nil, Nat.zero_add, Nat.add_zero, Nat.reduceAdd]; done) | (simp only [List.drop_succ_cons, List.drop_zero, List.drop_nil, List.take_succ_cons, List.take_zero, List.take_nil, Nat.zero_add, Nat.add_zero, Nat.reduceAdd]; exact rfl) | exact rfl)) rfl) (Le.refl _))
theorem int64_raw (s : Bool) (xs : List Nat) (hl : xs.length ≤ 1000000000) (hD : D xs) (hb : val xs < 4611686018427387904) : Pu Tryz.prog 368 [raw s xs] (tup [lit (.int .i64 (sv s (val xs))), lit (.bool true)]) := by
  have u := uint_nat xs hl hD
  rw [if_pos (by omega)] at u
  cases s
  · simp only [sv, cond_false]
    refine Pu.intro Tryz.func368 rfl (by kernel_rfl) fun C => ?_
    repeat (refine A1 ⟨?_⟩; intros)
    refine Wc u ?_
    repeat (refine A1 ⟨?_⟩; intros)
    ((first | refine endR ?_ | refine endN ?_); exact end2 (RV.tmp rfl) (RV.tmp rfl) (Le.refl _))
  · simp only [sv, cond_true]
    refine Pu.intro Tryz.func368 rfl (by kernel_rfl) fun C => ?_
    repeat (refine A1 ⟨?_⟩; intros)
    refine Wc u ?_
    repeat (refine A1 ⟨?_⟩; intros)
    refine endR (end2 (RV.tmp rfl) (RV.tmp rfl) (Le.tup2 (Le.int ?_) (Le.refl _)))
    exact wi64_mod (by omega) (by omega)
theorem dlen_val {xs : List Nat} (h : D xs) : (dgs (val xs)).length ≤ xs.length := len_le (val_lt h)
end Go.Ab
