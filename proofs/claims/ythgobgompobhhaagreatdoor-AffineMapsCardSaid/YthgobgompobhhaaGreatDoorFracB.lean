/- Package frac: lowest terms. -/
import Derived.Test.YthgobgompobhhaaGreatDoorFracA
import Derived.Test.YthgobgompobhhaaGreatDoorDiv
namespace Go.Ab
open Go.Proofs
set_option linter.unusedSectionVars false
variable [Base]
theorem small_zero : small 0 := by unfold small; decide
theorem sv_div (s : Bool) {a g : Nat} (h : g ∣ a) : sv s a / (g : Int) = sv s (a / g) := by
  obtain ⟨k, rfl⟩ := h
  by_cases h0 : g = 0
  · subst h0; cases s <;> simp [sv]
  · rw [Nat.mul_div_cancel_left _ (by omega)]
    cases s
    · simp only [sv, cond_false]; rw [Int.natCast_mul, Int.mul_ediv_cancel_left _ (by omega)]
    · simp only [sv, cond_true]; rw [Int.natCast_mul, ← Int.mul_neg, Int.mul_ediv_cancel_left _ (by omega)]
theorem mk_sv (s : Bool) (a : Nat) {d : Nat} (h : d ≠ 0) : (mkRat (sv s a) d).num = sv s (a / Nat.gcd a d) ∧ (mkRat (sv s a) d).den = d / Nat.gcd a d := by
  have h := mk_num (sv s a) h
  rw [show Int.gcd (sv s a) d = Nat.gcd a d from by unfold Int.gcd; rw [sv_abs]; rfl] at h
  rw [sv_div s (Nat.gcd_dvd_left a d)] at h
  exact h
theorem blen62 {n : Nat} : blen n ≤ 62 ↔ n < 4611686018427387904 := blen_le
theorem blen0 {n : Nat} : blen n = 0 ↔ n = 0 := by have := blen_le (n := n) (k := 0); simp only [Nat.pow_zero] at this; omega
theorem blen1 {n : Nat} : 1 < blen n ↔ 1 < n := by have := blen_le (n := n) (k := 1); simp only [Nat.pow_one] at this; omega
theorem blen_big {xs : List Nat} (hD : D xs) (h : xs.length ≤ 1000000000) : blen (val xs) ≤ 32000000000 := by
  have := blen_val hD; omega
set_option maxHeartbeats 2000000 in
theorem reduce_pu (s : Bool) (xs ys : List Nat) (hlx : xs.length ≤ 10000000) (hly : ys.length ≤ 10000000) (hX : D xs) (hY : D ys) : Pu Tryz.prog 104 [raw s xs, dg ys] (fr (mkRat (sv s (val xs)) (val ys))) := by
  have bx := blen_big hX (by omega)
  have bY := blen_big hY (by omega)
  by_cases h0 : val ys = 0
  · rw [h0, Rat.mkRat_zero, fr_s small_zero]
    have b0 := blen0.2 h0
    refine Pu.intro Tryz.func104 rfl (by kernel_rfl) fun C => ?_
    repeat (refine A1 ⟨?_⟩; intros)
    refine Wc (bits_nat ys (by omega) hY) ?_
    repeat (refine A1 ⟨?_⟩; intros)
    ((first | refine endR ?_ | refine endN ?_); refine end1 (RV.cellA rfl (by (first | exact List.mem_cons_self | exact (List.mem_cons_of_mem _ List.mem_cons_self) | exact (List.mem_cons_of_mem _ (List.mem_cons_of_mem _ List.mem_cons_self)) | exact (List.mem_cons_of_mem _ (List.mem_cons_of_mem _ (List.mem_cons_of_mem _ List.mem_cons_self))) | exact (List.mem_cons_of_mem _ (List.mem_cons_of_mem _ (List.mem_cons_of_mem _ (List.mem_cons_of_mem _ List.mem_cons_self)))) | exact (List.mem_cons_of_mem _ (List.mem_cons_of_mem _ (List.mem_cons_of_mem _ (List.mem_cons_of_mem _ (List.mem_cons_of_mem _ List.mem_cons_self))))) | exact (List.mem_cons_of_mem _ (List.mem_cons_of_mem _ (List.mem_cons_of_mem _ (List.mem_cons_of_mem _ (List.mem_cons_of_mem _ (List.mem_cons_of_mem _ List.mem_cons_self)))))) | exact (List.mem_cons_of_mem _ (List.mem_cons_of_mem _ (List.mem_cons_of_mem _ (List.mem_cons_of_mem _ (List.mem_cons_of_mem _ (List.mem_cons_of_mem _ (List.mem_cons_of_mem _ List.mem_cons_self))))))))) (by (first | (simp only [List.drop_succ_cons, List.drop_zero, List.drop_nil, List.take_succ_cons, List.take_zero, List.take_nil, Nat.zero_add, Nat.add_zero, Nat.reduceAdd]; done) | (simp only [List.drop_succ_cons, List.drop_zero, List.drop_nil, List.take_succ_cons, List.take_zero, List.take_nil, Nat.zero_add, Nat.add_zero, Nat.reduceAdd]; exact rfl) | exact rfl)) rfl) (Le.refl _))
  · have b0 : blen (val ys) ≠ 0 := fun h => h0 (blen0.1 h)
    by_cases hx0 : val xs = 0
    · rw [hx0, show sv s 0 = 0 from by cases s <;> rfl, Rat.zero_mkRat, fr_s small_zero]
      have sg := sign_raw s xs (by omega) hX
      rw [hx0, show sv s 0 = 0 from by cases s <;> rfl, Int.sign_zero] at sg
      refine Pu.intro Tryz.func104 rfl (by kernel_rfl) fun C => ?_
      repeat (refine A1 ⟨?_⟩; intros)
      refine Wc (bits_nat ys (by omega) hY) ?_
      repeat (refine A1 ⟨?_⟩; intros)
      refine Wcg sg ?_
      repeat (refine A1 ⟨?_⟩; intros)
      ((first | refine endR ?_ | refine endN ?_); refine end1 (RV.cellA rfl (by (first | exact List.mem_cons_self | exact (List.mem_cons_of_mem _ List.mem_cons_self) | exact (List.mem_cons_of_mem _ (List.mem_cons_of_mem _ List.mem_cons_self)) | exact (List.mem_cons_of_mem _ (List.mem_cons_of_mem _ (List.mem_cons_of_mem _ List.mem_cons_self))) | exact (List.mem_cons_of_mem _ (List.mem_cons_of_mem _ (List.mem_cons_of_mem _ (List.mem_cons_of_mem _ List.mem_cons_self)))) | exact (List.mem_cons_of_mem _ (List.mem_cons_of_mem _ (List.mem_cons_of_mem _ (List.mem_cons_of_mem _ (List.mem_cons_of_mem _ List.mem_cons_self))))) | exact (List.mem_cons_of_mem _ (List.mem_cons_of_mem _ (List.mem_cons_of_mem _ (List.mem_cons_of_mem _ (List.mem_cons_of_mem _ (List.mem_cons_of_mem _ List.mem_cons_self)))))) | exact (List.mem_cons_of_mem _ (List.mem_cons_of_mem _ (List.mem_cons_of_mem _ (List.mem_cons_of_mem _ (List.mem_cons_of_mem _ (List.mem_cons_of_mem _ (List.mem_cons_of_mem _ List.mem_cons_self))))))))) (by (first | (simp only [List.drop_succ_cons, List.drop_zero, List.drop_nil, List.take_succ_cons, List.take_zero, List.take_nil, Nat.zero_add, Nat.add_zero, Nat.reduceAdd]; done) | (simp only [List.drop_succ_cons, List.drop_zero, List.drop_nil, List.take_succ_cons, List.take_zero, List.take_nil, Nat.zero_add, Nat.add_zero, Nat.reduceAdd]; exact rfl) | exact rfl)) rfl) (Le.refl _))
    · have hg0 : Nat.gcd (val xs) (val ys) ≠ 0 := fun h => h0 (Nat.gcd_eq_zero_iff.1 h).2
      have gd1 := Nat.gcd_dvd_left (val xs) (val ys)
      have gd2 := Nat.gcd_dvd_right (val xs) (val ys)
      have gl := Nat.le_of_dvd (Nat.pos_of_ne_zero h0) gd2
      have gx := Nat.le_of_dvd (Nat.pos_of_ne_zero hx0) gd1
      have dx := dlen_val hX
      have dy := dlen_val hY
      have hgl := len_mono gl
      obtain ⟨e1, e2⟩ := mk_sv s (val xs) h0
      have g1 := gcd_nat xs ys hlx hly hX hY
      generalize hx : mkRat (sv s (val xs)) (val ys) = x at *
      generalize Nat.gcd (val xs) (val ys) = g at *
      have bg := bits_nat (dgs g) (by omega) (D_dgs g)
      rw [val_dgs] at bg
      have bgb : blen g ≤ 32000000000 := by have := blen_big (D_dgs g) (by omega); rwa [val_dgs] at this
      have d1 := divMod_nat xs (dgs g) hlx (by omega) hX (D_dgs g) (by rw [val_dgs]; exact hg0)
      have d2 := divMod_nat ys (dgs g) hly (by omega) hY (D_dgs g) (by rw [val_dgs]; exact hg0)
      rw [val_dgs] at d1 d2
      have sg := sign_raw s xs (by omega) hX
      have sgn : (sv s (val xs)).sign ≠ 0 := fun h => hx0 (by have := Int.sign_eq_zero_iff_zero.1 h; have := congrArg Int.natAbs this; rw [sv_abs] at this; exact this)
      have sgb : -1 ≤ (sv s (val xs)).sign ∧ (sv s (val xs)).sign ≤ 1 := by
        rcases Int.lt_trichotomy (sv s (val xs)) 0 with h | h | h
        · rw [Int.sign_eq_neg_one_of_neg h]; omega
        · rw [h]; decide
        · rw [Int.sign_eq_one_of_pos h]; omega
      generalize (sv s (val xs)).sign = sx at *
      refine Pu.intro Tryz.func104 rfl (by kernel_rfl) fun C => ?_
      repeat (refine A1 ⟨?_⟩; intros)
      refine Wc (bits_nat ys (by omega) hY) ?_
      repeat (refine A1 ⟨?_⟩; intros)
      refine Wcg sg ?_
      repeat (refine A1 ⟨?_⟩; intros)
      refine Wc g1 ?_
      repeat (refine A1 ⟨?_⟩; intros)
      refine Wc bg ?_
      repeat (refine A1 ⟨?_⟩; intros)
      rename_i b2 b4
      refine WP.via (fun F H => ∃ us vs, us.length ≤ 10000000 ∧ vs.length ≤ 10000000 ∧ D us ∧ D vs ∧ val us = val xs / g ∧ val vs = val ys / g ∧
        LeF F (fm [(1, dg vs), (2, lit (.pointer (some ⟨b2, 0, none⟩))), (4, lit (.pointer (some ⟨b4, 0, none⟩)))]) ∧
        H = [(b4, 105, [lit (.int .i64 0), lit (.int .i64 0), lit (.pointer none)]), (b2, 39, [lit (.bool s), dg us])]) ?_ ?_
      · refine WPd (fun h => ?_) (fun h => ?_)
        · have l1 := len_mono (Nat.div_le_self (val xs) g)
          have l2 := len_mono (Nat.div_le_self (val ys) g)
          repeat (refine A1 ⟨?_⟩; intros)
          refine Wc d1 ?_
          repeat (refine A1 ⟨?_⟩; intros)
          refine Wc d2 ?_
          repeat (refine A1 ⟨?_⟩; intros)
          exact ⟨dgs (val xs / g), dgs (val ys / g), by omega, by omega, D_dgs _, D_dgs _, val_dgs _, val_dgs _, by (repeat (first | exact LeF.nil _ | refine LeF.cons (Le.refl _) ?_ | refine LeF.cons (Le.int (by omega)) ?_)), rfl⟩
        · have hg1 : g = 1 := by have := blen1 (n := g); omega
          subst hg1
          repeat (refine A1 ⟨?_⟩; intros)
          exact ⟨xs, ys, by omega, by omega, hX, hY, (Nat.div_one _).symm, (Nat.div_one _).symm, by (repeat (first | exact LeF.nil _ | refine LeF.cons (Le.refl _) ?_ | refine LeF.cons (Le.int (by omega)) ?_)), rfl⟩
      · rintro F H ⟨us, vs, lu, lv, hU, hV, eu, ev, hF, rfl⟩
        rw [← eu] at e1
        rw [← ev] at e2
        refine WP.le hF ?_
        have bu := bits_nat us (by omega) hU
        have bv := bits_nat vs (by omega) hV
        have bub := blen_big hU (by omega)
        have bvb := blen_big hV (by omega)
        have c1 := blen62 (n := val us)
        have c2 := blen62 (n := val vs)
        have hv0 : val vs ≠ 0 := by rw [← e2]; exact x.den_nz
        have hna : x.num.natAbs = val us := by rw [e1, sv_abs]
        have nr := norm_raw s us (by omega) hU
        have nn := norm_nat vs (by omega) hV
        by_cases hs1 : val us < 4611686018427387904
        · by_cases hs2 : val vs < 4611686018427387904
          · rw [fr_s ⟨by omega, by omega⟩, e1, e2]
            have i6 := int64_raw s us (by omega) hU hs1
            have u6 := uint_nat vs (by omega) hV
            rw [if_pos (by omega)] at u6
            have hsb : -4611686018427387904 < sv s (val us) ∧ sv s (val us) < 4611686018427387904 := by have := sv_abs s (val us); omega
            generalize sv s (val us) = z at *
            repeat (refine A1 ⟨?_⟩; intros)
            refine Wc bu ?_
            repeat (refine A1 ⟨?_⟩; intros)
            refine Wcg bv ?_
            repeat (refine A1 ⟨?_⟩; intros)
            refine Wc i6 ?_
            repeat (refine A1 ⟨?_⟩; intros)
            refine Wc u6 ?_
            repeat (refine A1 ⟨?_⟩; intros)
            ((first | refine endR ?_ | refine endN ?_); refine end1 (RV.cellA rfl (by (first | exact List.mem_cons_self | exact (List.mem_cons_of_mem _ List.mem_cons_self) | exact (List.mem_cons_of_mem _ (List.mem_cons_of_mem _ List.mem_cons_self)) | exact (List.mem_cons_of_mem _ (List.mem_cons_of_mem _ (List.mem_cons_of_mem _ List.mem_cons_self))) | exact (List.mem_cons_of_mem _ (List.mem_cons_of_mem _ (List.mem_cons_of_mem _ (List.mem_cons_of_mem _ List.mem_cons_self)))) | exact (List.mem_cons_of_mem _ (List.mem_cons_of_mem _ (List.mem_cons_of_mem _ (List.mem_cons_of_mem _ (List.mem_cons_of_mem _ List.mem_cons_self))))) | exact (List.mem_cons_of_mem _ (List.mem_cons_of_mem _ (List.mem_cons_of_mem _ (List.mem_cons_of_mem _ (List.mem_cons_of_mem _ (List.mem_cons_of_mem _ List.mem_cons_self)))))) | exact (List.mem_cons_of_mem _ (List.mem_cons_of_mem _ (List.mem_cons_of_mem _ (List.mem_cons_of_mem _ (List.mem_cons_of_mem _ (List.mem_cons_of_mem _ (List.mem_cons_of_mem _ List.mem_cons_self))))))))) (by (first | (simp only [List.drop_succ_cons, List.drop_zero, List.drop_nil, List.take_succ_cons, List.take_zero, List.take_nil, Nat.zero_add, Nat.add_zero, Nat.reduceAdd]; done) | (simp only [List.drop_succ_cons, List.drop_zero, List.drop_nil, List.take_succ_cons, List.take_zero, List.take_nil, Nat.zero_add, Nat.add_zero, Nat.reduceAdd]; exact rfl) | exact rfl)) rfl) (Le.refl _))
          · rw [fr_b (fun h => hs2 (e2 ▸ h.2)), e1, e2, sv_abs]
            simp only [int, sv_abs] at nr
            repeat (refine A1 ⟨?_⟩; intros)
            refine Wc bu ?_
            repeat (refine A1 ⟨?_⟩; intros)
            refine Wcg bv ?_
            repeat (refine A1 ⟨?_⟩; intros)
            refine Wc nr ?_
            repeat (refine A1 ⟨?_⟩; intros)
            refine Wc nn ?_
            iterate 2 (refine O1 ⟨?_⟩; intros)
            refine WpubP 71 rfl (HDel.here _) ?_
            repeat (refine A1 ⟨?_⟩; intros)
            ((first | refine endR ?_ | refine endN ?_); refine end1 (RV.cellA rfl (by (first | exact List.mem_cons_self | exact (List.mem_cons_of_mem _ List.mem_cons_self) | exact (List.mem_cons_of_mem _ (List.mem_cons_of_mem _ List.mem_cons_self)) | exact (List.mem_cons_of_mem _ (List.mem_cons_of_mem _ (List.mem_cons_of_mem _ List.mem_cons_self))) | exact (List.mem_cons_of_mem _ (List.mem_cons_of_mem _ (List.mem_cons_of_mem _ (List.mem_cons_of_mem _ List.mem_cons_self)))) | exact (List.mem_cons_of_mem _ (List.mem_cons_of_mem _ (List.mem_cons_of_mem _ (List.mem_cons_of_mem _ (List.mem_cons_of_mem _ List.mem_cons_self))))) | exact (List.mem_cons_of_mem _ (List.mem_cons_of_mem _ (List.mem_cons_of_mem _ (List.mem_cons_of_mem _ (List.mem_cons_of_mem _ (List.mem_cons_of_mem _ List.mem_cons_self)))))) | exact (List.mem_cons_of_mem _ (List.mem_cons_of_mem _ (List.mem_cons_of_mem _ (List.mem_cons_of_mem _ (List.mem_cons_of_mem _ (List.mem_cons_of_mem _ (List.mem_cons_of_mem _ List.mem_cons_self))))))))) (by (first | (simp only [List.drop_succ_cons, List.drop_zero, List.drop_nil, List.take_succ_cons, List.take_zero, List.take_nil, Nat.zero_add, Nat.add_zero, Nat.reduceAdd]; done) | (simp only [List.drop_succ_cons, List.drop_zero, List.drop_nil, List.take_succ_cons, List.take_zero, List.take_nil, Nat.zero_add, Nat.add_zero, Nat.reduceAdd]; exact rfl) | exact rfl)) rfl) (Le.refl _))
        · rw [fr_b (fun h => hs1 (hna ▸ h.1)), e1, e2, sv_abs]
          simp only [int, sv_abs] at nr
          repeat (refine A1 ⟨?_⟩; intros)
          refine Wc bu ?_
          repeat (refine A1 ⟨?_⟩; intros)
          refine Wc nr ?_
          repeat (refine A1 ⟨?_⟩; intros)
          refine Wc nn ?_
          iterate 2 (refine O1 ⟨?_⟩; intros)
          refine WpubP 71 rfl (HDel.here _) ?_
          repeat (refine A1 ⟨?_⟩; intros)
          ((first | refine endR ?_ | refine endN ?_); refine end1 (RV.cellA rfl (by (first | exact List.mem_cons_self | exact (List.mem_cons_of_mem _ List.mem_cons_self) | exact (List.mem_cons_of_mem _ (List.mem_cons_of_mem _ List.mem_cons_self)) | exact (List.mem_cons_of_mem _ (List.mem_cons_of_mem _ (List.mem_cons_of_mem _ List.mem_cons_self))) | exact (List.mem_cons_of_mem _ (List.mem_cons_of_mem _ (List.mem_cons_of_mem _ (List.mem_cons_of_mem _ List.mem_cons_self)))) | exact (List.mem_cons_of_mem _ (List.mem_cons_of_mem _ (List.mem_cons_of_mem _ (List.mem_cons_of_mem _ (List.mem_cons_of_mem _ List.mem_cons_self))))) | exact (List.mem_cons_of_mem _ (List.mem_cons_of_mem _ (List.mem_cons_of_mem _ (List.mem_cons_of_mem _ (List.mem_cons_of_mem _ (List.mem_cons_of_mem _ List.mem_cons_self)))))) | exact (List.mem_cons_of_mem _ (List.mem_cons_of_mem _ (List.mem_cons_of_mem _ (List.mem_cons_of_mem _ (List.mem_cons_of_mem _ (List.mem_cons_of_mem _ (List.mem_cons_of_mem _ List.mem_cons_self))))))))) (by (first | (simp only [List.drop_succ_cons, List.drop_zero, List.drop_nil, List.take_succ_cons, List.take_zero, List.take_nil, Nat.zero_add, Nat.add_zero, Nat.reduceAdd]; done) | (simp only [List.drop_succ_cons, List.drop_zero, List.drop_nil, List.take_succ_cons, List.take_zero, List.take_nil, Nat.zero_add, Nat.add_zero, Nat.reduceAdd]; exact rfl) | exact rfl)) rfl) (Le.refl _))
end Go.Ab
