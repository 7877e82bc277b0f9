/- The reference's rationals. -/
import Derived.Test.YthgobgompobhhaaGreatDoorRefD
import Derived.Test.YthgobgompobhhaaGreatDoorRefL
import Derived.Test.YthgobgompobhhaaGreatDoorFracC
namespace Go.Ab
open Go.Proofs
set_option linter.unusedSectionVars false
variable [Base]
set_option maxHeartbeats 1000000 in
theorem rcommon_pu (a b : Nat) (ha : (dgs a).length ≤ 10000000) (hb : (dgs b).length ≤ 10000000) : Pu Tryz.prog 121 [nat a, nat b] (nat (Nat.gcd a b)) := by
  have w1 := rword_pu a (by omega)
  have w2 := rword_pu b (by omega)
  by_cases hs : (dgs a).length ≤ 2 ∧ (dgs b).length ≤ 2
  · rw [if_pos hs.1] at w1
    rw [if_pos hs.2] at w2
    have la := len_le2 hs.1
    have lb := len_le2 hs.2
    refine Pu.intro Tryz.func121 rfl (by kernel_rfl) fun C => ?_
    repeat (refine A1 ⟨?_⟩; intros)
    refine Wc w1 ?_
    repeat (refine A1 ⟨?_⟩; intros)
    refine Wc w2 ?_
    repeat (refine A1 ⟨?_⟩; intros)
    refine WP.loop (ι := Nat × Nat) (fun s => Nat.gcd s.1 s.2 = Nat.gcd a b ∧ s.1 < 18446744073709551616 ∧ s.2 < 18446744073709551616) (fun s => s.2)
      (fun s => fm [(5, lit (.int .u64 s.1)), (7, lit (.int .u64 s.2))]) (fun _ => []) (a, b) ⟨rfl, la, lb⟩ (by (repeat (first | exact LeF.nil _ | refine LeF.cons (Le.refl _) ?_ | refine LeF.cons (Le.int (by omega)) ?_))) rfl ?_
    rintro ⟨c, d⟩ ⟨hg', hc, hd⟩ K hK
    simp only at hg' hc hd ⊢
    by_cases h0 : d = 0
    · subst h0
      rw [Nat.gcd_zero_right] at hg'
      rw [← hg']
      repeat (refine A1 ⟨?_⟩; intros)
      refine Wc (word_pu c hc) ?_
      repeat (refine A1 ⟨?_⟩; intros)
      ((first | refine endR ?_ | refine endN ?_); exact end1 (RV.tmp rfl) (Le.refl _))
    · have hm : c % d < d := Nat.mod_lt _ (by omega)
      have hgg : Nat.gcd d (c % d) = Nat.gcd a b := by rw [← hg', Nat.gcd_comm c d, Nat.gcd_rec d c, Nat.gcd_comm]
      repeat (refine A1 ⟨?_⟩; intros)
      exact hK _ _ (d, c % d) ⟨hgg, hd, by simp only; omega⟩ hm (by (repeat (first | exact LeF.nil _ | refine LeF.cons (Le.refl _) ?_ | refine LeF.cons (Le.int (by omega)) ?_))) rfl
  · have h12 : (dgs a).length ≤ 2 → ¬ (dgs b).length ≤ 2 := fun x y => hs ⟨x, y⟩
    clear hs
    by_cases la : (dgs a).length ≤ 2
    · have lb := h12 la
      clear h12
      rw [if_pos la] at w1
      rw [if_neg lb] at w2
      refine Pu.intro Tryz.func121 rfl (by kernel_rfl) fun C => ?_
      repeat (refine A1 ⟨?_⟩; intros)
      refine Wc w1 ?_
      repeat (refine A1 ⟨?_⟩; intros)
      refine Wc w2 ?_
      repeat (refine A1 ⟨?_⟩; intros)
      refine WP.loop (ι := Nat × Nat) (fun s => Nat.gcd s.1 s.2 = Nat.gcd a b ∧ (dgs s.1).length ≤ 10000000 ∧ (dgs s.2).length ≤ 10000000) (fun s => s.2)
        (fun s => fm [(0, nat s.1), (1, nat s.2)]) (fun _ => []) (a, b) ⟨rfl, ha, hb⟩ (by (repeat (first | exact LeF.nil _ | refine LeF.cons (Le.refl _) ?_ | refine LeF.cons (Le.int (by omega)) ?_))) rfl ?_
      rintro ⟨c, d⟩ ⟨hg', hc, hd⟩ K hK
      simp only at hg' hc hd ⊢
      by_cases h0 : d = 0
      · subst h0
        rw [Nat.gcd_zero_right] at hg'
        rw [← hg']
        have hl : (dgs 0).length = 0 := by rw [dgs_zero]; rfl
        repeat (refine A1 ⟨?_⟩; intros)
        ((first | refine endR ?_ | refine endN ?_); exact end1 (RV.tmp rfl) (Le.refl _))
      · have hl := dgs_len_pos h0
        have hm : c % d < d := Nat.mod_lt _ (by omega)
        have hgg : Nat.gcd d (c % d) = Nat.gcd a b := by rw [← hg', Nat.gcd_comm c d, Nat.gcd_rec d c, Nat.gcd_comm]
        have hlm := len_mono (Nat.le_of_lt hm)
        repeat (refine A1 ⟨?_⟩; intros)
        refine Wc (rdivide_pu c d h0 hc hd) ?_
        repeat (refine A1 ⟨?_⟩; intros)
        exact hK _ _ (d, c % d) ⟨hgg, hd, by simp only; omega⟩ hm (by (repeat (first | exact LeF.nil _ | refine LeF.cons (Le.refl _) ?_ | refine LeF.cons (Le.int (by omega)) ?_))) rfl
    · clear h12
      rw [if_neg la] at w1
      refine Pu.intro Tryz.func121 rfl (by kernel_rfl) fun C => ?_
      repeat (refine A1 ⟨?_⟩; intros)
      refine Wc w1 ?_
      repeat (refine A1 ⟨?_⟩; intros)
      refine WP.loop (ι := Nat × Nat) (fun s => Nat.gcd s.1 s.2 = Nat.gcd a b ∧ (dgs s.1).length ≤ 10000000 ∧ (dgs s.2).length ≤ 10000000) (fun s => s.2)
        (fun s => fm [(0, nat s.1), (1, nat s.2)]) (fun _ => []) (a, b) ⟨rfl, ha, hb⟩ (by (repeat (first | exact LeF.nil _ | refine LeF.cons (Le.refl _) ?_ | refine LeF.cons (Le.int (by omega)) ?_))) rfl ?_
      rintro ⟨c, d⟩ ⟨hg', hc, hd⟩ K hK
      simp only at hg' hc hd ⊢
      by_cases h0 : d = 0
      · subst h0
        rw [Nat.gcd_zero_right] at hg'
        rw [← hg']
        have hl : (dgs 0).length = 0 := by rw [dgs_zero]; rfl
        repeat (refine A1 ⟨?_⟩; intros)
        ((first | refine endR ?_ | refine endN ?_); exact end1 (RV.tmp rfl) (Le.refl _))
      · have hl := dgs_len_pos h0
        have hm : c % d < d := Nat.mod_lt _ (by omega)
        have hgg : Nat.gcd d (c % d) = Nat.gcd a b := by rw [← hg', Nat.gcd_comm c d, Nat.gcd_rec d c, Nat.gcd_comm]
        have hlm := len_mono (Nat.le_of_lt hm)
        repeat (refine A1 ⟨?_⟩; intros)
        refine Wc (rdivide_pu c d h0 hc hd) ?_
        repeat (refine A1 ⟨?_⟩; intros)
        exact hK _ _ (d, c % d) ⟨hgg, hd, by simp only; omega⟩ hm (by (repeat (first | exact LeF.nil _ | refine LeF.cons (Le.refl _) ?_ | refine LeF.cons (Le.int (by omega)) ?_))) rfl
/-- the digits of a denominator; none for 1 -/
def dden (d : Nat) : List Nat := if d = 1 then [] else dgs d
abbrev rq (x : Rat) : SV := ag [lit (.bool (decide (x.num < 0))), nat x.num.natAbs, dg (dden x.den)]
theorem dden_one : dden 1 = [] := rfl
theorem dden_ne {d : Nat} (h : d ≠ 1) : dden d = dgs d := if_neg h
theorem dgs_ne_nil {d : Nat} (h : d ≠ 0) : (dgs d).length ≠ 0 := by have := dgs_len_pos h; omega
theorem rden_pu (x : Rat) : Pu Tryz.prog 61 [rq x] (nat x.den) := by
  by_cases h : x.den = 1
  · show Pu _ _ [ag [lit (.bool (decide (x.num < 0))), nat x.num.natAbs, dg (dden x.den)]] _
    rw [h, dden_one]
    refine Pu.intro Tryz.func61 rfl (by kernel_rfl) fun C => ?_
    repeat (refine A1 ⟨?_⟩; intros)
    refine Wc one_pu ?_
    repeat (refine A1 ⟨?_⟩; intros)
    ((first | refine endR ?_ | refine endN ?_); exact end1 (RV.tmp rfl) (Le.refl _))
  · show Pu _ _ [ag [lit (.bool (decide (x.num < 0))), nat x.num.natAbs, dg (dden x.den)]] _
    rw [dden_ne h]
    have hl := dgs_ne_nil x.den_nz
    refine Pu.intro Tryz.func61 rfl (by kernel_rfl) fun C => ?_
    repeat (refine A1 ⟨?_⟩; intros)
    ((first | refine endR ?_ | refine endN ?_); exact end1 (RV.tmp rfl) (Le.refl _))
theorem cmpN_one {n : Nat} (h : n ≠ 0) (h1 : n ≠ 1) : cmpN n 1 = 1 := cmpN_gt (by omega)
set_option maxHeartbeats 1000000 in
theorem rfrac_pu (a : Int) (d : Nat) (ha : il a ≤ 10000000) (hd : (dgs d).length ≤ 10000000) (h0 : d ≠ 0) : Pu Tryz.prog 81 [int a, nat d] (rq (mkRat a d)) := by
  have hmk := mk_sv (decide (a < 0)) a.natAbs h0
  rw [sv_int] at hmk
  obtain ⟨e1, e2⟩ := hmk
  have hg0 : Nat.gcd a.natAbs d ≠ 0 := fun h => h0 (Nat.gcd_eq_zero_iff.1 h).2
  have gd2 := Nat.gcd_dvd_right a.natAbs d
  have gl := Nat.le_of_dvd (Nat.pos_of_ne_zero h0) gd2
  have hgl := len_mono gl
  have l1 := len_mono (Nat.div_le_self a.natAbs (Nat.gcd a.natAbs d))
  have l2 := len_mono (Nat.div_le_self d (Nat.gcd a.natAbs d))
  have cm := rcommon_pu a.natAbs d ha hd
  have ha' : (dgs a.natAbs).length ≤ 10000000 := ha
  generalize hx : mkRat a d = x at *
  generalize hg : Nat.gcd a.natAbs d = g at *
  have hlg : (dgs g).length ≤ 10000000 := by omega
  have lden : (dgs x.den).length ≤ 10000000 := by rw [e2]; omega
  have ho : (dgs 1).length = 1 := by rw [dgs_one]; rfl
  have cmp1 := rcmp_pu g 1 (by omega) (by omega)
  have cmp2 := rcmp_pu x.den 1 (by omega) (by omega)
  refine Pu.intro Tryz.func81 rfl (by kernel_rfl) fun C => ?_
  repeat (refine A1 ⟨?_⟩; intros)
  rename_i b2 b4
  refine Wc cm ?_
  repeat (refine A1 ⟨?_⟩; intros)
  refine Wc one_pu ?_
  refine Wc cmp1 ?_
  repeat (refine A1 ⟨?_⟩; intros)
  refine WP.via (fun F H => LeF F (fm [(1, nat x.den), (2, lit (.pointer (some ⟨b2, 0, none⟩))), (4, lit (.pointer (some ⟨b4, 0, none⟩)))]) ∧
        H = [(b4, 30, [lit (.bool false), lit (.slice none 0 0), lit (.slice none 0 0)]), (b2, 28, [lit (.bool (decide (x.num < 0))), nat x.num.natAbs])]) ?_ ?_
  · refine WPd (fun h => ?_) (fun h => ?_)
    · rw [e1, e2]
      repeat (refine A1 ⟨?_⟩; intros)
      refine Wc (rdivide_pu a.natAbs g hg0 ha' hlg) ?_
      repeat (refine A1 ⟨?_⟩; intros)
      refine Wc (rmake_pu (decide (a < 0)) (a.natAbs / g) (by omega)) ?_
      repeat (refine A1 ⟨?_⟩; intros)
      refine Wc (rdivide_pu d g hg0 hd hlg) ?_
      repeat (refine A1 ⟨?_⟩; intros)
      exact ⟨by (repeat (first | exact LeF.nil _ | refine LeF.cons (Le.refl _) ?_ | refine LeF.cons (Le.int (by omega)) ?_)), rfl⟩
    · have hg1 : g = 1 := by
        rcases Nat.lt_trichotomy g 1 with h' | h' | h'
        · omega
        · exact h'
        · rw [cmpN_gt h'] at h; exact absurd (by decide) h
      rw [hg1, Nat.div_one, sv_int] at e1
      rw [hg1, Nat.div_one] at e2
      rw [e1, e2]
      repeat (refine A1 ⟨?_⟩; intros)
      exact ⟨by (repeat (first | exact LeF.nil _ | refine LeF.cons (Le.refl _) ?_ | refine LeF.cons (Le.int (by omega)) ?_)), rfl⟩
  · rintro F H ⟨hF, rfl⟩
    refine WP.le hF ?_
    repeat (refine A1 ⟨?_⟩; intros)
    refine Wc one_pu ?_
    refine Wc cmp2 ?_
    by_cases h1 : x.den = 1
    · rw [show rq x = ag [lit (.bool (decide (x.num < 0))), nat x.num.natAbs, dg []] from by rw [rq, h1, dden_one], h1, cmpN_eq]
      repeat (refine A1 ⟨?_⟩; intros)
      refine endR (end1 (RV.cellA rfl List.mem_cons_self rfl rfl) (Le.ag ⟨Le.refl _, Le.refl _, le_nil, trivial⟩))
    · have hc : cmpN x.den 1 = 1 := cmpN_gt (by have := x.den_nz; omega)
      rw [show rq x = ag [lit (.bool (decide (x.num < 0))), nat x.num.natAbs, nat x.den] from by rw [rq, dden_ne h1], hc]
      repeat (refine A1 ⟨?_⟩; intros)
      ((first | refine endR ?_ | refine endN ?_); refine end1 (RV.cellA rfl (by (first | exact List.mem_cons_self | exact (List.mem_cons_of_mem _ List.mem_cons_self) | exact (List.mem_cons_of_mem _ (List.mem_cons_of_mem _ List.mem_cons_self)) | exact (List.mem_cons_of_mem _ (List.mem_cons_of_mem _ (List.mem_cons_of_mem _ List.mem_cons_self))) | exact (List.mem_cons_of_mem _ (List.mem_cons_of_mem _ (List.mem_cons_of_mem _ (List.mem_cons_of_mem _ List.mem_cons_self)))) | exact (List.mem_cons_of_mem _ (List.mem_cons_of_mem _ (List.mem_cons_of_mem _ (List.mem_cons_of_mem _ (List.mem_cons_of_mem _ List.mem_cons_self))))) | exact (List.mem_cons_of_mem _ (List.mem_cons_of_mem _ (List.mem_cons_of_mem _ (List.mem_cons_of_mem _ (List.mem_cons_of_mem _ (List.mem_cons_of_mem _ List.mem_cons_self)))))) | exact (List.mem_cons_of_mem _ (List.mem_cons_of_mem _ (List.mem_cons_of_mem _ (List.mem_cons_of_mem _ (List.mem_cons_of_mem _ (List.mem_cons_of_mem _ (List.mem_cons_of_mem _ List.mem_cons_self))))))))) (by (first | (simp only [List.drop_succ_cons, List.drop_zero, List.drop_nil, List.take_succ_cons, List.take_zero, List.take_nil, Nat.zero_add, Nat.add_zero, Nat.reduceAdd]; done) | (simp only [List.drop_succ_cons, List.drop_zero, List.drop_nil, List.take_succ_cons, List.take_zero, List.take_nil, Nat.zero_add, Nat.add_zero, Nat.reduceAdd]; exact rfl) | exact rfl)) rfl) (Le.refl _))
end Go.Ab
