/- Texts laid one behind the other: RefE, RefF, Ref1, Ref4, Scene1, Law26A, RefH, AffB. -/
import Derived.Test.YtjdnfbhbdfokcaaGreatDoorB11
import Derived.Test.YtjdnfbhbdfokcaaGreatDoorRefL
import Derived.Test.YtjdnfbhbdfokcaaGreatDoorB08
import Derived.Test.YtjdnfbhbdfokcaaGreatDoorFracD
import Derived.Test.YtjdnfbhbdfokcaaGreatDoorB10
import Derived.Test.YtjdnfbhbdfokcaaGreatDoorB03
set_option linter.unusedSectionVars false
set_option linter.unusedVariables false
set_option linter.unusedSimpArgs false
namespace Go.Ab
open Go.Proofs
variable [Base]
set_option maxHeartbeats 1000000 in
theorem rcommon_pu (a b : Nat) (ha : (dgs a).length ≤ 10000000) (hb : (dgs b).length ≤ 10000000) : Pu Tryz.prog 49 [nat a, nat b] (nat (Nat.gcd a b)) := by
  have w1 := rword_pu a (by omega)
  have w2 := rword_pu b (by omega)
  by_cases hs : (dgs a).length ≤ 2 ∧ (dgs b).length ≤ 2
  · rw [if_pos hs.1] at w1
    rw [if_pos hs.2] at w2
    have la := len_le2 hs.1
    have lb := len_le2 hs.2
    refine Pu.intro Tryz.func49 rfl (by kernel_rfl) fun C => ?_
    repeat (refine A1 ⟨?_⟩; intros)
    refine Wc w1 ?_
    repeat (refine A1 ⟨?_⟩; intros)
    refine Wc w2 ?_
    repeat (refine A1 ⟨?_⟩; intros)
    refine WP.loop (ι := Nat × Nat) (fun s => Nat.gcd s.1 s.2 = Nat.gcd a b ∧ s.1 < 18446744073709551616 ∧ s.2 < 18446744073709551616) (fun s => s.2)
      (fun s => fm [(5, lit (.int .u64 s.1)), (7, lit (.int .u64 s.2))]) (fun _ => []) (a, b) ⟨rfl, la, lb⟩ (by (repeat (first | exact LeF.nil _ | refine LeF.cons (Le.refl _) ?_ | refine LeF.cons (Le.int (by omega)) ?_))) rfl ?_
    rintro ⟨c, d⟩ ⟨hg', hc, hd⟩ K hK
    simp only at hg' hc hd ⊢
    by_cases h0 : d = 0
    · subst h0
      rw [Nat.gcd_zero_right] at hg'
      rw [← hg']
      repeat (refine A1 ⟨?_⟩; intros)
      refine Wc (word_pu c hc) ?_
      repeat (refine A1 ⟨?_⟩; intros)
      ((first | refine endR ?_ | refine endN ?_); exact end1 (RV.tmp rfl) (Le.refl _))
    · have hm : c % d < d := Nat.mod_lt _ (by omega)
      have hgg : Nat.gcd d (c % d) = Nat.gcd a b := by rw [← hg', Nat.gcd_comm c d, Nat.gcd_rec d c, Nat.gcd_comm]
      repeat (refine A1 ⟨?_⟩; intros)
      exact hK _ _ (d, c % d) ⟨hgg, hd, by simp only; omega⟩ hm (by (repeat (first | exact LeF.nil _ | refine LeF.cons (Le.refl _) ?_ | refine LeF.cons (Le.int (by omega)) ?_))) rfl
  · have h12 : (dgs a).length ≤ 2 → ¬ (dgs b).length ≤ 2 := fun x y => hs ⟨x, y⟩
    clear hs
    by_cases la : (dgs a).length ≤ 2
    · have lb := h12 la
      clear h12
      rw [if_pos la] at w1
      rw [if_neg lb] at w2
      refine Pu.intro Tryz.func49 rfl (by kernel_rfl) fun C => ?_
      repeat (refine A1 ⟨?_⟩; intros)
      refine Wc w1 ?_
      repeat (refine A1 ⟨?_⟩; intros)
      refine Wc w2 ?_
      repeat (refine A1 ⟨?_⟩; intros)
      refine WP.loop (ι := Nat × Nat) (fun s => Nat.gcd s.1 s.2 = Nat.gcd a b ∧ (dgs s.1).length ≤ 10000000 ∧ (dgs s.2).length ≤ 10000000) (fun s => s.2)
        (fun s => fm [(0, nat s.1), (1, nat s.2)]) (fun _ => []) (a, b) ⟨rfl, ha, hb⟩ (by (repeat (first | exact LeF.nil _ | refine LeF.cons (Le.refl _) ?_ | refine LeF.cons (Le.int (by omega)) ?_))) rfl ?_
      rintro ⟨c, d⟩ ⟨hg', hc, hd⟩ K hK
      simp only at hg' hc hd ⊢
      by_cases h0 : d = 0
      · subst h0
        rw [Nat.gcd_zero_right] at hg'
        rw [← hg']
        have hl : (dgs 0).length = 0 := by rw [dgs_zero]; rfl
        repeat (refine A1 ⟨?_⟩; intros)
        ((first | refine endR ?_ | refine endN ?_); exact end1 (RV.tmp rfl) (Le.refl _))
      · have hl := dgs_len_pos h0
        have hm : c % d < d := Nat.mod_lt _ (by omega)
        have hgg : Nat.gcd d (c % d) = Nat.gcd a b := by rw [← hg', Nat.gcd_comm c d, Nat.gcd_rec d c, Nat.gcd_comm]
        have hlm := len_mono (Nat.le_of_lt hm)
        repeat (refine A1 ⟨?_⟩; intros)
        refine Wc (rdivide_pu c d h0 hc hd) ?_
        repeat (refine A1 ⟨?_⟩; intros)
        exact hK _ _ (d, c % d) ⟨hgg, hd, by simp only; omega⟩ hm (by (repeat (first | exact LeF.nil _ | refine LeF.cons (Le.refl _) ?_ | refine LeF.cons (Le.int (by omega)) ?_))) rfl
    · clear h12
      rw [if_neg la] at w1
      refine Pu.intro Tryz.func49 rfl (by kernel_rfl) fun C => ?_
      repeat (refine A1 ⟨?_⟩; intros)
      refine Wc w1 ?_
      repeat (refine A1 ⟨?_⟩; intros)
      refine WP.loop (ι := Nat × Nat) (fun s => Nat.gcd s.1 s.2 = Nat.gcd a b ∧ (dgs s.1).length ≤ 10000000 ∧ (dgs s.2).length ≤ 10000000) (fun s => s.2)
        (fun s => fm [(0, nat s.1), (1, nat s.2)]) (fun _ => []) (a, b) ⟨rfl, ha, hb⟩ (by (repeat (first | exact LeF.nil _ | refine LeF.cons (Le.refl _) ?_ | refine LeF.cons (Le.int (by omega)) ?_))) rfl ?_
      rintro ⟨c, d⟩ ⟨hg', hc, hd⟩ K hK
      simp only at hg' hc hd ⊢
      by_cases h0 : d = 0
      · subst h0
        rw [Nat.gcd_zero_right] at hg'
        rw [← hg']
        have hl : (dgs 0).length = 0 := by rw [dgs_zero]; rfl
        repeat (refine A1 ⟨?_⟩; intros)
        ((first | refine endR ?_ | refine endN ?_); exact end1 (RV.tmp rfl) (Le.refl _))
      · have hl := dgs_len_pos h0
        have hm : c % d < d := Nat.mod_lt _ (by omega)
        have hgg : Nat.gcd d (c % d) = Nat.gcd a b := by rw [← hg', Nat.gcd_comm c d, Nat.gcd_rec d c, Nat.gcd_comm]
        have hlm := len_mono (Nat.le_of_lt hm)
        repeat (refine A1 ⟨?_⟩; intros)
        refine Wc (rdivide_pu c d h0 hc hd) ?_
        repeat (refine A1 ⟨?_⟩; intros)
        exact hK _ _ (d, c % d) ⟨hgg, hd, by simp only; omega⟩ hm (by (repeat (first | exact LeF.nil _ | refine LeF.cons (Le.refl _) ?_ | refine LeF.cons (Le.int (by omega)) ?_))) rfl
def dden (d : Nat) : List Nat := if d = 1 then [] else dgs d
abbrev rq (x : Rat) : SV := ag [lit (.bool (decide (x.num < 0))), nat x.num.natAbs, dg (dden x.den)]
theorem dden_one : dden 1 = [] := rfl
theorem dden_ne {d : Nat} (h : d ≠ 1) : dden d = dgs d := if_neg h
theorem dgs_ne_nil {d : Nat} (h : d ≠ 0) : (dgs d).length ≠ 0 := by have := dgs_len_pos h; omega
theorem rden_pu (x : Rat) : Pu Tryz.prog 113 [rq x] (nat x.den) := by
  by_cases h : x.den = 1
  · show Pu _ _ [ag [lit (.bool (decide (x.num < 0))), nat x.num.natAbs, dg (dden x.den)]] _
    rw [h, dden_one]
    refine Pu.intro Tryz.func113 rfl (by kernel_rfl) fun C => ?_
    repeat (refine A1 ⟨?_⟩; intros)
    refine Wc one_pu ?_
    repeat (refine A1 ⟨?_⟩; intros)
    ((first | refine endR ?_ | refine endN ?_); exact end1 (RV.tmp rfl) (Le.refl _))
  · show Pu _ _ [ag [lit (.bool (decide (x.num < 0))), nat x.num.natAbs, dg (dden x.den)]] _
    rw [dden_ne h]
    have hl := dgs_ne_nil x.den_nz
    refine Pu.intro Tryz.func113 rfl (by kernel_rfl) fun C => ?_
    repeat (refine A1 ⟨?_⟩; intros)
    ((first | refine endR ?_ | refine endN ?_); exact end1 (RV.tmp rfl) (Le.refl _))
set_option maxHeartbeats 1000000 in
theorem rfrac_pu (a : Int) (d : Nat) (ha : il a ≤ 10000000) (hd : (dgs d).length ≤ 10000000) (h0 : d ≠ 0) : Pu Tryz.prog 59 [int a, nat d] (rq (mkRat a d)) := by
  have hmk := mk_sv (decide (a < 0)) a.natAbs h0
  rw [sv_int] at hmk
  obtain ⟨e1, e2⟩ := hmk
  have hg0 : Nat.gcd a.natAbs d ≠ 0 := fun h => h0 (Nat.gcd_eq_zero_iff.1 h).2
  have gd2 := Nat.gcd_dvd_right a.natAbs d
  have gl := Nat.le_of_dvd (Nat.pos_of_ne_zero h0) gd2
  have hgl := len_mono gl
  have l1 := len_mono (Nat.div_le_self a.natAbs (Nat.gcd a.natAbs d))
  have l2 := len_mono (Nat.div_le_self d (Nat.gcd a.natAbs d))
  have cm := rcommon_pu a.natAbs d ha hd
  have ha' : (dgs a.natAbs).length ≤ 10000000 := ha
  generalize hx : mkRat a d = x at *
  generalize hg : Nat.gcd a.natAbs d = g at *
  have hlg : (dgs g).length ≤ 10000000 := by omega
  have lden : (dgs x.den).length ≤ 10000000 := by rw [e2]; omega
  have ho : (dgs 1).length = 1 := by rw [dgs_one]; rfl
  have cmp1 := rcmp_pu g 1 (by omega) (by omega)
  have cmp2 := rcmp_pu x.den 1 (by omega) (by omega)
  refine Pu.intro Tryz.func59 rfl (by kernel_rfl) fun C => ?_
  repeat (refine A1 ⟨?_⟩; intros)
  rename_i b2 b4
  refine Wc cm ?_
  repeat (refine A1 ⟨?_⟩; intros)
  refine Wc one_pu ?_
  refine Wc cmp1 ?_
  repeat (refine A1 ⟨?_⟩; intros)
  refine WP.via (fun F H => LeF F (fm [(1, nat x.den), (2, lit (.pointer (some ⟨b2, 0, none⟩))), (4, lit (.pointer (some ⟨b4, 0, none⟩)))]) ∧
        H = [(b4, 74, [lit (.bool false), lit (.slice none 0 0), lit (.slice none 0 0)]), (b2, 60, [lit (.bool (decide (x.num < 0))), nat x.num.natAbs])]) ?_ ?_
  · refine WPd (fun h => ?_) (fun h => ?_)
    · rw [e1, e2]
      repeat (refine A1 ⟨?_⟩; intros)
      refine Wc (rdivide_pu a.natAbs g hg0 ha' hlg) ?_
      repeat (refine A1 ⟨?_⟩; intros)
      refine Wc (rmake_pu (decide (a < 0)) (a.natAbs / g) (by omega)) ?_
      repeat (refine A1 ⟨?_⟩; intros)
      refine Wc (rdivide_pu d g hg0 hd hlg) ?_
      repeat (refine A1 ⟨?_⟩; intros)
      exact ⟨by (repeat (first | exact LeF.nil _ | refine LeF.cons (Le.refl _) ?_ | refine LeF.cons (Le.int (by omega)) ?_)), rfl⟩
    · have hg1 : g = 1 := by
        rcases Nat.lt_trichotomy g 1 with h' | h' | h'
        · omega
        · exact h'
        · rw [cmpN_gt h'] at h; exact absurd (by decide) h
      rw [hg1, Nat.div_one, sv_int] at e1
      rw [hg1, Nat.div_one] at e2
      rw [e1, e2]
      repeat (refine A1 ⟨?_⟩; intros)
      exact ⟨by (repeat (first | exact LeF.nil _ | refine LeF.cons (Le.refl _) ?_ | refine LeF.cons (Le.int (by omega)) ?_)), rfl⟩
  · rintro F H ⟨hF, rfl⟩
    refine WP.le hF ?_
    repeat (refine A1 ⟨?_⟩; intros)
    refine Wc one_pu ?_
    refine Wc cmp2 ?_
    by_cases h1 : x.den = 1
    · rw [show rq x = ag [lit (.bool (decide (x.num < 0))), nat x.num.natAbs, dg []] from by rw [rq, h1, dden_one], h1, cmpN_eq]
      repeat (refine A1 ⟨?_⟩; intros)
      refine endR (end1 (RV.cellA rfl List.mem_cons_self rfl rfl) (Le.ag ⟨Le.refl _, Le.refl _, le_nil, trivial⟩))
    · have hc : cmpN x.den 1 = 1 := cmpN_gt (by have := x.den_nz; omega)
      rw [show rq x = ag [lit (.bool (decide (x.num < 0))), nat x.num.natAbs, nat x.den] from by rw [rq, dden_ne h1], hc]
      repeat (refine A1 ⟨?_⟩; intros)
      ((first | refine endR ?_ | refine endN ?_); refine end1 (RV.cellA rfl (by repeat (first | exact List.mem_cons_self | apply List.mem_cons_of_mem)) (by (try simp only [List.drop_succ_cons, List.drop_zero, List.drop_nil, List.take_succ_cons, List.take_zero, List.take_nil, Nat.zero_add, Nat.add_zero, Nat.reduceAdd]) <;> exact rfl) rfl) (Le.refl _))
theorem rq_int (z : Int) : rq (z : Rat) = ag [lit (.bool (decide (z < 0))), nat z.natAbs, dg []] := by
  rw [rq, Rat.num_intCast, Rat.den_intCast, dden_one]
theorem rof_pu (z : Int) (h0 : -9223372036854775808 ≤ z) (h1 : z ≤ 9223372036854775807) : Pu Tryz.prog 24 [lit (.int .i64 z)] (rq (z : Rat)) := by
  rw [rq_int]
  refine Pu.intro Tryz.func24 rfl (by kernel_rfl) fun C => ?_
  repeat (refine A1 ⟨?_⟩; intros)
  refine Wc (rint_pu z h0 h1) ?_
  repeat (refine A1 ⟨?_⟩; intros)
  refine endR (end1 (RV.cellA rfl List.mem_cons_self rfl rfl) (Le.ag ⟨Le.refl _, Le.refl _, le_nil, trivial⟩))
theorem rs_pu (x : Rat) (h : ht x ≤ 10000000) : Pu Tryz.prog 56 [rq x] (lit (.int .i64 x.num.sign)) := by
  have b1 := ht_num x
  have hb : (dgs x.num.natAbs).length ≤ 1000000000 := by have : il x.num = (dgs x.num.natAbs).length := rfl; omega
  refine Pu.intro Tryz.func56 rfl (by kernel_rfl) fun C => ?_
  repeat (refine A1 ⟨?_⟩; intros)
  refine Wc (rsign_int x.num hb) ?_
  repeat (refine A1 ⟨?_⟩; intros)
  ((first | refine endR ?_ | refine endN ?_); exact end1 (RV.tmp rfl) (Le.refl _))
theorem ropp_pu (x : Rat) (h : ht x ≤ 10000000) : Pu Tryz.prog 116 [rq x] (rq (-x)) := by
  have b1 := ht_num x
  have hb : (dgs x.num.natAbs).length ≤ 1000000000 := by have : il x.num = (dgs x.num.natAbs).length := rfl; omega
  rw [show rq (-x) = ag [lit (.bool (decide (-x.num < 0))), nat (-x.num).natAbs, dg (dden x.den)] from by rw [rq, Rat.neg_num, Rat.neg_den]]
  refine Pu.intro Tryz.func116 rfl (by kernel_rfl) fun C => ?_
  repeat (refine A1 ⟨?_⟩; intros)
  refine Wdc (rminus_int x.num hb) ?_
  repeat (refine A1 ⟨?_⟩; intros)
  ((first | refine endR ?_ | refine endN ?_); refine end1 (RV.cellA rfl (by repeat (first | exact List.mem_cons_self | apply List.mem_cons_of_mem)) (by (try simp only [List.drop_succ_cons, List.drop_zero, List.drop_nil, List.take_succ_cons, List.take_zero, List.take_nil, Nat.zero_add, Nat.add_zero, Nat.reduceAdd]) <;> exact rfl) rfl) (Le.refl _))
theorem dden_len {d : Nat} (h : d ≠ 0) : d ≠ 1 → (dden d).length ≠ 0 := fun h1 => by rw [dden_ne h1]; exact dgs_ne_nil h
theorem dden_len1 {d : Nat} (h : d = 1) : (dden d).length = 0 := by rw [h, dden_one]; rfl
theorem dden_le (d : Nat) : (dden d).length ≤ (dgs d).length := by unfold dden; split <;> simp
set_option maxHeartbeats 1000000 in
theorem rplus_pu (x y : Rat) (hx : ht x ≤ 3000000) (hy : ht y ≤ 3000000) : Pu Tryz.prog 115 [rq x, rq y] (rq (x + y)) := by
  have n1 := ht_num x
  have n2 := ht_num y
  have d1 := ht_den x
  have d2 := ht_den y
  have m1 := il_mul x.num y.den
  have m2 := il_mul y.num x.den
  have m3 := il_add (x.num * y.den) (y.num * x.den)
  have m4 := dlen_mul x.den y.den
  rw [il_nat] at m1 m2
  have l1 := dden_le x.den
  have l2 := dden_le y.den
  have mi1 := rmul_int x.num y.den (show il x.num ≤ 100000000 by omega) (show (dgs y.den).length ≤ 100000000 by omega)
  have mi2 := rmul_int y.num x.den (show il y.num ≤ 100000000 by omega) (show (dgs x.den).length ≤ 100000000 by omega)
  rw [← sv_nat] at mi1 mi2
  have ai := radd_int (x.num * y.den) (y.num * x.den) (show il _ ≤ 100000000 by omega) (show il _ ≤ 100000000 by omega)
  have aw := radd_int x.num y.num (show il _ ≤ 100000000 by omega) (show il _ ≤ 100000000 by omega)
  have fr := rfrac_pu (x.num * y.den + y.num * x.den) (x.den * y.den) (by omega) (by omega) (Nat.mul_ne_zero x.den_nz y.den_nz)
  by_cases hx1 : x.den = 1
  · have k1 := dden_len1 hx1
    by_cases hy1 : y.den = 1
    · have k2 := dden_len1 hy1
      rw [add_whole hx1 hy1, rq_int]
      refine Pu.intro Tryz.func115 rfl (by kernel_rfl) fun C => ?_
      repeat (refine A1 ⟨?_⟩; intros)
      refine Wc aw ?_
      repeat (refine A1 ⟨?_⟩; intros)
      refine endR (end1 (RV.cellA rfl List.mem_cons_self rfl rfl) (Le.ag ⟨Le.refl _, Le.refl _, le_nil, trivial⟩))
    · have k2 := dden_len y.den_nz hy1
      rw [Rat.add_def']
      refine Pu.intro Tryz.func115 rfl (by kernel_rfl) fun C => ?_
      repeat (refine A1 ⟨?_⟩; intros)
      refine Wdc (rden_pu y) ?_
      repeat (refine A1 ⟨?_⟩; intros)
      refine Wdc (rmake_pu false y.den (by omega)) ?_
      repeat (refine A1 ⟨?_⟩; intros)
      refine Wdc mi1 ?_
      repeat (refine A1 ⟨?_⟩; intros)
      refine Wdc (rden_pu x) ?_
      repeat (refine A1 ⟨?_⟩; intros)
      refine Wdc (rmake_pu false x.den (by omega)) ?_
      repeat (refine A1 ⟨?_⟩; intros)
      refine Wdc mi2 ?_
      repeat (refine A1 ⟨?_⟩; intros)
      refine Wdc ai ?_
      repeat (refine A1 ⟨?_⟩; intros)
      refine Wdc (rden_pu x) ?_
      repeat (refine A1 ⟨?_⟩; intros)
      refine Wdc (rden_pu y) ?_
      repeat (refine A1 ⟨?_⟩; intros)
      refine Wdc (rprod_pu x.den y.den (by omega) (by omega)) ?_
      repeat (refine A1 ⟨?_⟩; intros)
      refine Wdc fr ?_
      repeat (refine A1 ⟨?_⟩; intros)
      ((first | refine endR ?_ | refine endN ?_); refine end1 (RV.cellA rfl (by repeat (first | exact List.mem_cons_self | apply List.mem_cons_of_mem)) (by (try simp only [List.drop_succ_cons, List.drop_zero, List.drop_nil, List.take_succ_cons, List.take_zero, List.take_nil, Nat.zero_add, Nat.add_zero, Nat.reduceAdd]) <;> exact rfl) rfl) (Le.refl _))
  · have k1 := dden_len x.den_nz hx1
    rw [Rat.add_def']
    refine Pu.intro Tryz.func115 rfl (by kernel_rfl) fun C => ?_
    repeat (refine A1 ⟨?_⟩; intros)
    refine Wdc (rden_pu y) ?_
    repeat (refine A1 ⟨?_⟩; intros)
    refine Wdc (rmake_pu false y.den (by omega)) ?_
    repeat (refine A1 ⟨?_⟩; intros)
    refine Wdc mi1 ?_
    repeat (refine A1 ⟨?_⟩; intros)
    refine Wdc (rden_pu x) ?_
    repeat (refine A1 ⟨?_⟩; intros)
    refine Wdc (rmake_pu false x.den (by omega)) ?_
    repeat (refine A1 ⟨?_⟩; intros)
    refine Wdc mi2 ?_
    repeat (refine A1 ⟨?_⟩; intros)
    refine Wdc ai ?_
    repeat (refine A1 ⟨?_⟩; intros)
    refine Wdc (rden_pu x) ?_
    repeat (refine A1 ⟨?_⟩; intros)
    refine Wdc (rden_pu y) ?_
    repeat (refine A1 ⟨?_⟩; intros)
    refine Wdc (rprod_pu x.den y.den (by omega) (by omega)) ?_
    repeat (refine A1 ⟨?_⟩; intros)
    refine Wdc fr ?_
    repeat (refine A1 ⟨?_⟩; intros)
    ((first | refine endR ?_ | refine endN ?_); refine end1 (RV.cellA rfl (by repeat (first | exact List.mem_cons_self | apply List.mem_cons_of_mem)) (by (try simp only [List.drop_succ_cons, List.drop_zero, List.drop_nil, List.take_succ_cons, List.take_zero, List.take_nil, Nat.zero_add, Nat.add_zero, Nat.reduceAdd]) <;> exact rfl) rfl) (Le.refl _))
theorem rqsub_pu (x y : Rat) (hx : ht x ≤ 3000000) (hy : ht y ≤ 3000000) : Pu Tryz.prog 57 [rq x, rq y] (rq (x - y)) := by
  rw [Rat.sub_eq_add_neg]
  refine Pu.intro Tryz.func57 rfl (by kernel_rfl) fun C => ?_
  repeat (refine A1 ⟨?_⟩; intros)
  refine Wdc (ropp_pu y (by omega)) ?_
  repeat (refine A1 ⟨?_⟩; intros)
  refine Wdc (rplus_pu x (-y) hx (by rw [ht_neg]; exact hy)) ?_
  repeat (refine A1 ⟨?_⟩; intros)
  ((first | refine endR ?_ | refine endN ?_); refine end1 (RV.cellA rfl (by repeat (first | exact List.mem_cons_self | apply List.mem_cons_of_mem)) (by (try simp only [List.drop_succ_cons, List.drop_zero, List.drop_nil, List.take_succ_cons, List.take_zero, List.take_nil, Nat.zero_add, Nat.add_zero, Nat.reduceAdd]) <;> exact rfl) rfl) (Le.refl _))
theorem rc_pu (x y : Rat) (hx : ht x ≤ 3000000) (hy : ht y ≤ 3000000) : Pu Tryz.prog 21 [rq x, rq y] (lit (.int .i64 (x - y).num.sign)) := by
  have h := ht_sub x y
  refine Pu.intro Tryz.func21 rfl (by kernel_rfl) fun C => ?_
  repeat (refine A1 ⟨?_⟩; intros)
  refine Wc (rqsub_pu x y hx hy) ?_
  repeat (refine A1 ⟨?_⟩; intros)
  refine Wc (rs_pu (x - y) (by omega)) ?_
  repeat (refine A1 ⟨?_⟩; intros)
  ((first | refine endR ?_ | refine endN ?_); exact end1 (RV.tmp rfl) (Le.refl _))
theorem le_decF {p : Prop} [Decidable p] (h : ¬p) : Le (lit (.bool false)) (lit (.bool (decide p))) := by rw [decide_eq_false h]; exact Le.refl _
theorem le_decT {p : Prop} [Decidable p] (h : p) : Le (lit (.bool true)) (lit (.bool (decide p))) := by rw [decide_eq_true h]; exact Le.refl _
theorem sameN_pu (xs ys : List Nat) (hx : xs.length ≤ 1000000000) (hy : ys.length ≤ 1000000000) : Pu Tryz.prog 121 [dg xs, dg ys] (lit (.bool (decide (xs = ys)))) := by
  by_cases hl : xs.length = ys.length
  · refine Pu.intro Tryz.func121 rfl (by kernel_rfl) fun C => ?_
    repeat (refine A1 ⟨?_⟩; intros)
    refine WP.loop (ι := Nat) (fun k => k ≤ xs.length ∧ xs.take k = ys.take k) (fun k => xs.length - k) (fun k => fm [(0, dg xs), (1, dg ys), (11, dg xs), (12, lit (.int .i64 xs.length)), (13, lit (.int .i64 k))]) (fun _ => []) 0
      ⟨Nat.zero_le _, rfl⟩ (by (repeat (first | exact LeF.nil _ | refine LeF.cons (Le.refl _) ?_ | refine LeF.cons (Le.int (by omega)) ?_))) rfl ?_
    rintro k ⟨hk, he⟩ K hK
    by_cases hkl : k < xs.length
    · by_cases hd : xs.getD k 0 = ys.getD k 0
      · repeat (refine A1 ⟨?_⟩; intros)
        exact hK _ _ (k + 1) ⟨by omega, by rw [take_succ_getD xs k hkl, take_succ_getD ys k (by omega), he, hd]⟩ (by omega) (by (repeat (first | exact LeF.nil _ | refine LeF.cons (Le.refl _) ?_ | refine LeF.cons (Le.int (by omega)) ?_))) rfl
      · repeat (refine A1 ⟨?_⟩; intros)
        exact endR (end1 (RV.tmp rfl) (le_decF fun e => hd (by rw [e])))
    · have hke : k = xs.length := by omega
      subst hke
      rw [List.take_length, hl, List.take_length] at he
      repeat (refine A1 ⟨?_⟩; intros)
      exact endR (end1 (RV.tmp rfl) (le_decT he))
  · refine Pu.intro Tryz.func121 rfl (by kernel_rfl) fun C => ?_
    repeat (refine A1 ⟨?_⟩; intros)
    exact endR (end1 (RV.tmp rfl) (le_decF fun e => hl (by rw [e])))
theorem toN_pu (xs : List Nat) (h : xs.length ≤ 1000000000) : Pu Tryz.prog 112 [dg xs] (dg xs) := by
  refine Pu.intro Tryz.func112 rfl (by kernel_rfl) fun C => ?_
  repeat (refine A1 ⟨?_⟩; intros)
  ((first | refine endR ?_ | refine endN ?_); exact end1 (RV.tmp rfl) (Le.refl _))
theorem n_pu (xs : List Nat) (h : xs.length ≤ 1000000000) (hD : D xs) : Pu Tryz.prog 58 [dg xs] (nat (val xs)) := by
  refine Pu.intro Tryz.func58 rfl (by kernel_rfl) fun C => ?_
  repeat (first | (refine A1 ⟨?_⟩; intros) | (refine Wcx (rtrim_nat _ h hD) ?_) | (refine Wdcx (rtrim_nat _ h hD) ?_) | (refine Wcgx (rtrim_nat _ h hD) ?_) | (refine Wdcgx (rtrim_nat _ h hD) ?_))
  ((first | refine endR ?_ | refine endN ?_); exact end1 (RV.tmp rfl) (Le.refl _))
theorem i_pu (s : Bool) (xs : List Nat) (h : xs.length ≤ 1000000000) (hD : D xs) : Pu Tryz.prog 48 [raw s xs] (int (sv s (val xs))) := by
  have hl := dlen_val hD
  refine Pu.intro Tryz.func48 rfl (by kernel_rfl) fun C => ?_
  repeat (first | (refine A1 ⟨?_⟩; intros) | (refine Wcx (n_pu _ h hD) ?_) | (refine Wdcx (n_pu _ h hD) ?_) | (refine Wcgx (n_pu _ h hD) ?_) | (refine Wdcgx (n_pu _ h hD) ?_) | (refine Wcx (rmake_pu _ _ (by omega)) ?_) | (refine Wdcx (rmake_pu _ _ (by omega)) ?_) | (refine Wcgx (rmake_pu _ _ (by omega)) ?_) | (refine Wdcgx (rmake_pu _ _ (by omega)) ?_))
  ((first | refine endR ?_ | refine endN ?_); refine end1 (RV.cellA rfl (by repeat (first | exact List.mem_cons_self | apply List.mem_cons_of_mem)) (by (try simp only [List.drop_succ_cons, List.drop_zero, List.drop_nil, List.take_succ_cons, List.take_zero, List.take_nil, Nat.zero_add, Nat.add_zero, Nat.reduceAdd]) <;> exact rfl) rfl) (Le.refl _))
theorem toI_pu (z : Int) (h : il z ≤ 1000000000) : Pu Tryz.prog 111 [int z] (int z) := by
  have h' : (dgs z.natAbs).length ≤ 1000000000 := h
  refine Pu.intro Tryz.func111 rfl (by kernel_rfl) fun C => ?_
  repeat (first | (refine A1 ⟨?_⟩; intros) | (refine Wcx (toN_pu _ h') ?_) | (refine Wdcx (toN_pu _ h') ?_) | (refine Wcgx (toN_pu _ h') ?_) | (refine Wdcgx (toN_pu _ h') ?_))
  ((first | refine endR ?_ | refine endN ?_); refine end1 (RV.cellA rfl (by repeat (first | exact List.mem_cons_self | apply List.mem_cons_of_mem)) (by (try simp only [List.drop_succ_cons, List.drop_zero, List.drop_nil, List.take_succ_cons, List.take_zero, List.take_nil, Nat.zero_add, Nat.add_zero, Nat.reduceAdd]) <;> exact rfl) rfl) (Le.refl _))
theorem sameI_pu (s t : Bool) (xs ys : List Nat) (hx : xs.length ≤ 1000000000) (hy : ys.length ≤ 1000000000) : Pu Tryz.prog 120 [raw s xs, raw t ys] (lit (.bool (decide (s = t ∧ xs = ys)))) := by
  cases s <;> cases t
  · refine Pu.intro Tryz.func120 rfl (by kernel_rfl) fun C => ?_
    repeat (first | (refine A1 ⟨?_⟩; intros) | (refine Wcx (sameN_pu _ _ hx hy) ?_) | (refine Wdcx (sameN_pu _ _ hx hy) ?_) | (refine Wcgx (sameN_pu _ _ hx hy) ?_) | (refine Wdcgx (sameN_pu _ _ hx hy) ?_))
    refine endR (end1 (RV.tmp rfl) (Le.bool ?_)); simp
  · refine Pu.intro Tryz.func120 rfl (by kernel_rfl) fun C => ?_
    repeat (first | (refine A1 ⟨?_⟩; intros) | (refine Wcx (sameN_pu _ _ hx hy) ?_) | (refine Wdcx (sameN_pu _ _ hx hy) ?_) | (refine Wcgx (sameN_pu _ _ hx hy) ?_) | (refine Wdcgx (sameN_pu _ _ hx hy) ?_))
    refine endR (end1 (RV.tmp rfl) (Le.bool ?_)); simp
  · refine Pu.intro Tryz.func120 rfl (by kernel_rfl) fun C => ?_
    repeat (first | (refine A1 ⟨?_⟩; intros) | (refine Wcx (sameN_pu _ _ hx hy) ?_) | (refine Wdcx (sameN_pu _ _ hx hy) ?_) | (refine Wcgx (sameN_pu _ _ hx hy) ?_) | (refine Wdcgx (sameN_pu _ _ hx hy) ?_))
    refine endR (end1 (RV.tmp rfl) (Le.bool ?_)); simp
  · refine Pu.intro Tryz.func120 rfl (by kernel_rfl) fun C => ?_
    repeat (first | (refine A1 ⟨?_⟩; intros) | (refine Wcx (sameN_pu _ _ hx hy) ?_) | (refine Wdcx (sameN_pu _ _ hx hy) ?_) | (refine Wcgx (sameN_pu _ _ hx hy) ?_) | (refine Wdcgx (sameN_pu _ _ hx hy) ?_))
    refine endR (end1 (RV.tmp rfl) (Le.bool ?_)); simp
theorem lit_dec {p : Prop} [Decidable p] (h : p) : lit (.bool (decide p)) = lit (.bool true) := by rw [decide_eq_true h]
theorem sameN_t (xs : List Nat) (hx : xs.length ≤ 1000000000) : Pu Tryz.prog 121 [dg xs, dg xs] (lit (.bool true)) := lit_dec (p := xs = xs) rfl ▸ sameN_pu xs xs hx hx
theorem sameI_t (s : Bool) (xs : List Nat) (hx : xs.length ≤ 1000000000) : Pu Tryz.prog 120 [raw s xs, raw s xs] (lit (.bool true)) := lit_dec (p := s = s ∧ xs = xs) ⟨rfl, rfl⟩ ▸ sameI_pu s s xs xs hx hx
theorem sameQ_t (s : Bool) (xs ys : List Nat) (hx : xs.length ≤ 1000000000) (hy : ys.length ≤ 1000000000) : Pu Tryz.prog 64 [qraw s xs ys, qraw s xs ys] (lit (.bool true)) := by
  refine Pu.intro Tryz.func64 rfl (by kernel_rfl) fun C => ?_
  repeat (first | (refine A1 ⟨?_⟩; intros) | (refine Wcx (sameN_t _ hy) ?_) | (refine Wdcx (sameN_t _ hy) ?_) | (refine Wcgx (sameN_t _ hy) ?_) | (refine Wdcgx (sameN_t _ hy) ?_) | (refine Wcx (sameI_t _ _ hx) ?_) | (refine Wdcx (sameI_t _ _ hx) ?_) | (refine Wcgx (sameI_t _ _ hx) ?_) | (refine Wdcgx (sameI_t _ _ hx) ?_))
  ((first | refine endR ?_ | refine endN ?_); exact end1 (RV.tmp rfl) (Le.refl _))
theorem sameq_pu (x : Rat) (h : ht x ≤ 1000000000) : Pu Tryz.prog 64 [q x, q x] (lit (.bool true)) := by
  have h1 := ht_num x
  have h2 := ht_den x
  exact sameQ_t _ _ _ (by have : il x.num = (dgs x.num.natAbs).length := rfl; omega) (by omega)
theorem toQ_pu (x : Rat) (h : ht x ≤ 100000000) : Pu Tryz.prog 55 [rq x] (q x) := by
  have h1 := ht_num x
  have h2 := ht_den x
  refine Pu.intro Tryz.func55 rfl (by kernel_rfl) fun C => ?_
  repeat (first | (refine A1 ⟨?_⟩; intros) | (refine Wcx (toI_pu _ (by omega)) ?_) | (refine Wdcx (toI_pu _ (by omega)) ?_) | (refine Wcgx (toI_pu _ (by omega)) ?_) | (refine Wdcgx (toI_pu _ (by omega)) ?_) | (refine Wcx (rden_pu x) ?_) | (refine Wdcx (rden_pu x) ?_) | (refine Wcgx (rden_pu x) ?_) | (refine Wdcgx (rden_pu x) ?_) | (refine Wcx (toN_pu _ (by omega)) ?_) | (refine Wdcx (toN_pu _ (by omega)) ?_) | (refine Wcgx (toN_pu _ (by omega)) ?_) | (refine Wdcgx (toN_pu _ (by omega)) ?_))
  ((first | refine endR ?_ | refine endN ?_); refine end1 (RV.cellA rfl (by repeat (first | exact List.mem_cons_self | apply List.mem_cons_of_mem)) (by (try simp only [List.drop_succ_cons, List.drop_zero, List.drop_nil, List.take_succ_cons, List.take_zero, List.take_nil, Nat.zero_add, Nat.add_zero, Nat.reduceAdd]) <;> exact rfl) rfl) (Le.refl _))
theorem rq_zero : rq 0 = ag [lit (.bool false), nat 0, dg []] := by rw [rq, show (0 : Rat).num = 0 from rfl, show (0 : Rat).den = 1 from rfl, dden_one]; rfl
theorem q_pu {r : RQ} {L : Nat} (h : r.ok L) (hL : L ≤ 1000000) : Pu Tryz.prog 22 [qr r] (rq r.v) := by
  obtain ⟨h1, h2, h3, h4⟩ := h
  have hl := dlen_val h2
  have hi := il_sv (s := r.s) h1
  by_cases h0 : val r.d = 0
  · have hv : r.v = 0 := by unfold RQ.v; rw [h0]; exact Rat.mkRat_zero _
    rw [hv, rq_zero]
    have hn := n_pu r.d (by omega) h2
    rw [h0] at hn
    have hl0 : (dgs 0).length = 0 := by rw [dgs_zero]; rfl
    refine Pu.intro Tryz.func22 rfl (by kernel_rfl) fun C => ?_
    repeat (first | (refine A1 ⟨?_⟩; intros) | (refine Wcx (hn) ?_) | (refine Wdcx (hn) ?_) | (refine Wcgx (hn) ?_) | (refine Wdcgx (hn) ?_))
    refine endR (end1 (RV.cellA rfl List.mem_cons_self rfl rfl) (Le.ag ⟨Le.refl _, ?_, le_nil, trivial⟩))
    rw [show nat 0 = dg [] from by show dg (dgs 0) = _; rw [dgs_zero]]
    exact le_nil
  · have hp := dgs_len_pos h0
    refine Pu.intro Tryz.func22 rfl (by kernel_rfl) fun C => ?_
    repeat (first | (refine A1 ⟨?_⟩; intros) | (refine Wcx (n_pu r.d (by omega) h2) ?_) | (refine Wdcx (n_pu r.d (by omega) h2) ?_) | (refine Wcgx (n_pu r.d (by omega) h2) ?_) | (refine Wdcgx (n_pu r.d (by omega) h2) ?_) | (refine Wcx (i_pu _ _ (by omega) h1) ?_) | (refine Wdcx (i_pu _ _ (by omega) h1) ?_) | (refine Wcgx (i_pu _ _ (by omega) h1) ?_) | (refine Wdcgx (i_pu _ _ (by omega) h1) ?_) | (refine Wcx (rfrac_pu _ _ (by omega) (by omega) h0) ?_) | (refine Wdcx (rfrac_pu _ _ (by omega) (by omega) h0) ?_) | (refine Wcgx (rfrac_pu _ _ (by omega) (by omega) h0) ?_) | (refine Wdcgx (rfrac_pu _ _ (by omega) (by omega) h0) ?_))
    ((first | refine endR ?_ | refine endN ?_); refine end1 (RV.cellA rfl (by repeat (first | exact List.mem_cons_self | apply List.mem_cons_of_mem)) (by (try simp only [List.drop_succ_cons, List.drop_zero, List.drop_nil, List.take_succ_cons, List.take_zero, List.take_nil, Nat.zero_add, Nat.add_zero, Nat.reduceAdd]) <;> exact rfl) rfl) (Le.refl _))
abbrev rp (x y : Rat) : SV := ag [lit (.bool (decide (x.num < 0))), nat x.num.natAbs, dg (dden x.den), lit (.bool (decide (y.num < 0))), nat y.num.natAbs, dg (dden y.den)]
theorem toP_pu (x y : Rat) (hx : ht x ≤ 100000000) (hy : ht y ≤ 100000000) : Pu Tryz.prog 19 [rp x y] (pq x y) := by
  refine Pu.intro Tryz.func19 rfl (by kernel_rfl) fun C => ?_
  repeat (first | (refine A1 ⟨?_⟩; intros) | (refine Wcx (toQ_pu _ hx) ?_) | (refine Wdcx (toQ_pu _ hx) ?_) | (refine Wcgx (toQ_pu _ hx) ?_) | (refine Wdcgx (toQ_pu _ hx) ?_) | (refine Wcx (toQ_pu _ hy) ?_) | (refine Wdcx (toQ_pu _ hy) ?_) | (refine Wcgx (toQ_pu _ hy) ?_) | (refine Wdcgx (toQ_pu _ hy) ?_))
  ((first | refine endR ?_ | refine endN ?_); refine end1 (RV.cellA rfl (by repeat (first | exact List.mem_cons_self | apply List.mem_cons_of_mem)) (by (try simp only [List.drop_succ_cons, List.drop_zero, List.drop_nil, List.take_succ_cons, List.take_zero, List.take_nil, Nat.zero_add, Nat.add_zero, Nat.reduceAdd]) <;> exact rfl) rfl) (Le.refl _))
theorem pt_pu {a b : RQ} {L : Nat} (ha : a.ok L) (hb : b.ok L) (hL : L ≤ 1000000) : Pu Tryz.prog 100 [pr a b] (rp a.v b.v) := by
  refine Pu.intro Tryz.func100 rfl (by kernel_rfl) fun C => ?_
  repeat (first | (refine A1 ⟨?_⟩; intros) | (refine Wcx (q_pu ha hL) ?_) | (refine Wdcx (q_pu ha hL) ?_) | (refine Wcgx (q_pu ha hL) ?_) | (refine Wdcgx (q_pu ha hL) ?_) | (refine Wcx (q_pu hb hL) ?_) | (refine Wdcx (q_pu hb hL) ?_) | (refine Wcgx (q_pu hb hL) ?_) | (refine Wdcgx (q_pu hb hL) ?_))
  ((first | refine endR ?_ | refine endN ?_); refine end1 (RV.cellA rfl (by repeat (first | exact List.mem_cons_self | apply List.mem_cons_of_mem)) (by (try simp only [List.drop_succ_cons, List.drop_zero, List.drop_nil, List.take_succ_cons, List.take_zero, List.take_nil, Nat.zero_add, Nat.add_zero, Nat.reduceAdd]) <;> exact rfl) rfl) (Le.refl _))
theorem sameP_pu (x y : Rat) (hx : ht x ≤ 100000000) (hy : ht y ≤ 100000000) : Pu Tryz.prog 25 [pq x y, pq x y] (lit (.bool true)) := by
  refine Pu.intro Tryz.func25 rfl (by kernel_rfl) fun C => ?_
  repeat (first | (refine A1 ⟨?_⟩; intros) | (refine Wcx (sameq_pu _ (Nat.le_trans hx (by omega))) ?_) | (refine Wdcx (sameq_pu _ (Nat.le_trans hx (by omega))) ?_) | (refine Wcgx (sameq_pu _ (Nat.le_trans hx (by omega))) ?_) | (refine Wdcgx (sameq_pu _ (Nat.le_trans hx (by omega))) ?_) | (refine Wcx (sameq_pu _ (Nat.le_trans hy (by omega))) ?_) | (refine Wdcx (sameq_pu _ (Nat.le_trans hy (by omega))) ?_) | (refine Wcgx (sameq_pu _ (Nat.le_trans hy (by omega))) ?_) | (refine Wdcgx (sameq_pu _ (Nat.le_trans hy (by omega))) ?_))
  ((first | refine endR ?_ | refine endN ?_); exact end1 (RV.tmp rfl) (Le.refl _))
theorem xy_pu (a b : Int) (ha : -9223372036854775808 ≤ a) (ha' : a ≤ 9223372036854775807) (hb : -9223372036854775808 ≤ b) (hb' : b ≤ 9223372036854775807) : Pu Tryz.prog 20 [lit (.int .i64 a), lit (.int .i64 b)] (rp (a : Rat) (b : Rat)) := by
  refine Pu.intro Tryz.func20 rfl (by kernel_rfl) fun C => ?_
  repeat (first | (refine A1 ⟨?_⟩; intros) | (refine Wcx (rof_pu a ha ha') ?_) | (refine Wdcx (rof_pu a ha ha') ?_) | (refine Wcgx (rof_pu a ha ha') ?_) | (refine Wdcgx (rof_pu a ha ha') ?_) | (refine Wcx (rof_pu b hb hb') ?_) | (refine Wdcx (rof_pu b hb hb') ?_) | (refine Wcgx (rof_pu b hb hb') ?_) | (refine Wdcgx (rof_pu b hb hb') ?_))
  ((first | refine endR ?_ | refine endN ?_); refine end1 (RV.cellA rfl (by repeat (first | exact List.mem_cons_self | apply List.mem_cons_of_mem)) (by (try simp only [List.drop_succ_cons, List.drop_zero, List.drop_nil, List.take_succ_cons, List.take_zero, List.take_nil, Nat.zero_add, Nat.add_zero, Nat.reduceAdd]) <;> exact rfl) rfl) (Le.refl _))
theorem ht_one : ht 1 = 1 := by
  unfold ht
  rw [show (1 : Rat).num = 1 from rfl, show (1 : Rat).den = 1 from rfl]
  unfold il
  rw [show (1 : Int).natAbs = 1 from rfl, dgs_one]; rfl
theorem rof1 : Pu Tryz.prog 24 [lit (.int .i64 1)] (rq 1) := rof_pu 1 (by omega) (by omega)
abbrev qcells (r : RQ) : List SV := [lit (.bool r.s), dg r.n, dg r.d]
def RQ.short (n : Nat) (r : RQ) : Prop := r.n.length ≤ n ∧ r.d.length ≤ n
instance (n : Nat) (r : RQ) : Decidable (r.short n) := by unfold RQ.short; infer_instance
theorem qcells_len (r : RQ) : (qcells r).length = 3 := rfl
theorem take_snoc {α : Type} {l : List α} {k : Nat} {a : α} (h : l[k]? = some a) : l.take (k + 1) = l.take k ++ [a] := by
  obtain ⟨h1, h2⟩ := List.getElem?_eq_some_iff.1 h
  rw [List.take_succ_eq_append_getElem h1, h2]
theorem smallQ_pu (n : Nat) (hn : n ≤ 1000000000) (rs : List RQ) (hl : rs.length ≤ 1000000000) : Pu Tryz.prog 16 [lit (.int .i64 n), sl (rs.map qcells).flatten rs.length] (lit (.bool (decide (∀ r ∈ rs, r.short n)))) := by
  refine Pu.intro Tryz.func16 rfl (by kernel_rfl) fun C => ?_
  repeat (refine A1 ⟨?_⟩; intros)
  refine WP.loopS (ι := Nat) (fun k => k ≤ rs.length ∧ ∀ r ∈ rs.take k, r.short n) (fun k => rs.length - k) (fun k => fm [(0, lit (.int .i64 n)), (7, sl (rs.map qcells).flatten rs.length), (8, lit (.int .i64 rs.length)), (9, lit (.int .i64 k))]) (fun _ => []) 0
    ⟨Nat.zero_le _, by simp⟩ (by (repeat (first | exact LeF.nil _ | refine LeF.cons (Le.refl _) ?_ | refine LeF.cons (Le.int (by omega)) ?_))) (List.nil_sublist _) ?_
  rintro k ⟨hk, hr⟩ K hK
  by_cases hkl : k < rs.length
  · have hget := List.getElem?_eq_getElem hkl
    generalize rs[k] = r at hget
    have hmem : r ∈ rs := List.mem_of_getElem? hget
    have hat := flat_at (f := qcells) (n := 3) qcells_len hget
    have hne : (rs.map qcells).flatten ≠ [] := flat_ne qcells_len (by omega) (fun e => by rw [e] at hkl; simp at hkl)
    by_cases h1 : r.n.length ≤ n
    · by_cases h2 : r.d.length ≤ n
      · have hK2 := hK
        repeat (refine A1 ⟨?_⟩; intros)
        refine Wo (ov_idxS (cs' := qcells r) rfl rfl (by omega) (by omega) hat hne) ?_
        repeat (refine A1 ⟨?_⟩; intros)
        refine hK _ _ (k + 1) ⟨by omega, ?_⟩ (by omega) (by (repeat (first | exact LeF.nil _ | refine LeF.cons (Le.refl _) ?_ | refine LeF.cons (Le.int (by omega)) ?_))) (List.nil_sublist _)
        rw [take_snoc hget]
        intro x hx
        rcases List.mem_append.1 hx with hx | hx
        · exact hr x hx
        · rw [List.mem_singleton] at hx; subst hx; exact ⟨h1, h2⟩
      · repeat (refine A1 ⟨?_⟩; intros)
        refine Wo (ov_idxS (cs' := qcells r) rfl rfl (by omega) (by omega) hat hne) ?_
        repeat (refine A1 ⟨?_⟩; intros)
        exact endR (end1 (RV.tmp rfl) (le_decF fun h => h2 (h r hmem).2))
    · repeat (refine A1 ⟨?_⟩; intros)
      refine Wo (ov_idxS (cs' := qcells r) rfl rfl (by omega) (by omega) hat hne) ?_
      repeat (refine A1 ⟨?_⟩; intros)
      exact endR (end1 (RV.tmp rfl) (le_decF fun h => h1 (h r hmem).1))
  · have hke : k = rs.length := by omega
    subst hke
    rw [List.take_length] at hr
    repeat (refine A1 ⟨?_⟩; intros)
    exact endR (end1 (RV.tmp rfl) (le_decT hr))
theorem smallQ_t (n : Nat) (hn : n ≤ 1000000000) (rs : List RQ) (hl : rs.length ≤ 1000000000) (h : ∀ r ∈ rs, r.short n) : Pu Tryz.prog 16 [lit (.int .i64 n), sl (rs.map qcells).flatten rs.length] (lit (.bool true)) := by
  have := smallQ_pu n hn rs hl; rwa [decide_eq_true h] at this
theorem smallQ_f (n : Nat) (hn : n ≤ 1000000000) (rs : List RQ) (hl : rs.length ≤ 1000000000) (h : ¬∀ r ∈ rs, r.short n) : Pu Tryz.prog 16 [lit (.int .i64 n), sl (rs.map qcells).flatten rs.length] (lit (.bool false)) := by
  have := smallQ_pu n hn rs hl; rwa [decide_eq_false h] at this
abbrev pcells (p : RQ × RQ) : List SV := [lit (.bool p.1.s), dg p.1.n, dg p.1.d, lit (.bool p.2.s), dg p.2.n, dg p.2.d]
theorem pcells_len (p : RQ × RQ) : (pcells p).length = 6 := rfl
theorem smallP_pu (n : Nat) (hn : n ≤ 1000000000) (ps : List (RQ × RQ)) (hl : ps.length ≤ 1000000000) : Pu Tryz.prog 4 [lit (.int .i64 n), sl (ps.map pcells).flatten ps.length] (lit (.bool (decide (∀ p ∈ ps, p.1.short n ∧ p.2.short n)))) := by
  refine Pu.intro Tryz.func4 rfl (by kernel_rfl) fun C => ?_
  repeat (refine A1 ⟨?_⟩; intros)
  refine WP.loopS (ι := Nat) (fun k => k ≤ ps.length ∧ ∀ p ∈ ps.take k, p.1.short n ∧ p.2.short n) (fun k => ps.length - k) (fun k => fm [(0, lit (.int .i64 n)), (7, sl (ps.map pcells).flatten ps.length), (8, lit (.int .i64 ps.length)), (9, lit (.int .i64 k))]) (fun _ => []) 0
    ⟨Nat.zero_le _, by simp⟩ (by (repeat (first | exact LeF.nil _ | refine LeF.cons (Le.refl _) ?_ | refine LeF.cons (Le.int (by omega)) ?_))) (List.nil_sublist _) ?_
  rintro k ⟨hk, hr⟩ K hK
  by_cases hkl : k < ps.length
  · have hget := List.getElem?_eq_getElem hkl
    generalize ps[k] = p at hget
    have hmem : p ∈ ps := List.mem_of_getElem? hget
    have hat := flat_at (f := pcells) (n := 6) pcells_len hget
    have hne : (ps.map pcells).flatten ≠ [] := flat_ne pcells_len (by omega) (fun e => by rw [e] at hkl; simp at hkl)
    by_cases h1 : ∀ r ∈ [p.1, p.2], r.short n
    · have hc := smallQ_t n hn [p.1, p.2] (by simp) h1
      have h2 := h1 p.1 (by simp)
      have h3 := h1 p.2 (by simp)
      repeat (refine A1 ⟨?_⟩; intros)
      refine Wo (ov_idxS (cs' := pcells p) rfl rfl (by omega) (by omega) hat hne) ?_
      repeat (refine A1 ⟨?_⟩; intros)
      refine WpubS 18 rfl (HDel.here _) (by omega) (by omega) ?_
      refine Wcx hc ?_
      repeat (refine A1 ⟨?_⟩; intros)
      refine hK _ _ (k + 1) ⟨by omega, ?_⟩ (by omega) (by (repeat (first | exact LeF.nil _ | refine LeF.cons (Le.refl _) ?_ | refine LeF.cons (Le.int (by omega)) ?_))) (List.nil_sublist _)
      rw [take_snoc hget]
      intro x hx
      rcases List.mem_append.1 hx with hx | hx
      · exact hr x hx
      · rw [List.mem_singleton] at hx; subst hx; exact ⟨h2, h3⟩
    · have hc := smallQ_f n hn [p.1, p.2] (by simp) h1
      repeat (refine A1 ⟨?_⟩; intros)
      refine Wo (ov_idxS (cs' := pcells p) rfl rfl (by omega) (by omega) hat hne) ?_
      repeat (refine A1 ⟨?_⟩; intros)
      refine WpubS 18 rfl (HDel.here _) (by omega) (by omega) ?_
      refine Wcx hc ?_
      repeat (refine A1 ⟨?_⟩; intros)
      exact endR (end1 (RV.tmp rfl) (le_decF fun h => h1 fun r hr => by
        have := h p hmem
        simp only [List.mem_cons, List.not_mem_nil, or_false] at hr
        rcases hr with rfl | rfl
        · exact this.1
        · exact this.2))
  · have hke : k = ps.length := by omega
    subst hke
    rw [List.take_length] at hr
    repeat (refine A1 ⟨?_⟩; intros)
    exact endR (end1 (RV.tmp rfl) (le_decT hr))
theorem smallP_t (n : Nat) (hn : n ≤ 1000000000) (ps : List (RQ × RQ)) (hl : ps.length ≤ 1000000000) (h : ∀ p ∈ ps, p.1.short n ∧ p.2.short n) : Pu Tryz.prog 4 [lit (.int .i64 n), sl (ps.map pcells).flatten ps.length] (lit (.bool true)) := by
  have := smallP_pu n hn ps hl; rwa [decide_eq_true h] at this
theorem smallP_f (n : Nat) (hn : n ≤ 1000000000) (ps : List (RQ × RQ)) (hl : ps.length ≤ 1000000000) (h : ¬∀ p ∈ ps, p.1.short n ∧ p.2.short n) : Pu Tryz.prog 4 [lit (.int .i64 n), sl (ps.map pcells).flatten ps.length] (lit (.bool false)) := by
  have := smallP_pu n hn ps hl; rwa [decide_eq_false h] at this
theorem small0 : small 0 := by unfold small; rw [show (0 : Rat).num = 0 from rfl, show (0 : Rat).den = 1 from rfl]; omega
theorem r0_zero : r0 0 = 0 := r0_s small0
theorem r1_zero : r1 0 = 0 := (if_pos small0).trans (by rw [show (0 : Rat).den = 1 from rfl]; rfl)
theorem r2_zero : r2 0 = lit (.pointer none) := if_pos small0
theorem ht_zero : ht 0 = 1 := by
  unfold ht il
  rw [show (0 : Rat).num = 0 from rfl, show (0 : Rat).den = 1 from rfl, show (0 : Int).natAbs = 0 from rfl, dgs_zero, dgs_one]; rfl
theorem ptOf_q (x y : Rat) (hx : ht x ≤ 100000) (hy : ht y ≤ 100000) : Pu Tryz.prog 53 [pq x y] (pp x y) := by
  have := ptOf_pu (RQ.of_ok hx) (RQ.of_ok hy) (by omega)
  rwa [RQ.of_v, RQ.of_v] at this
theorem fint1 : Pu Tryz.prog 52 [lit (.int .i64 1)] (fr 1) := fint_pu 1 (by omega) (by omega)
theorem translation_pu (x y : Rat) (hx : ht x ≤ 10000) (hy : ht y ≤ 10000) : Pu Tryz.prog 18 [pq x y] (mq ⟨1, 0, x, 0, 1, y⟩) := by
  have h0 := ht_zero
  have h1 := ht_one
  have hw := awrite_pu (m := ⟨1, 0, x, 0, 1, y⟩) (L := 10000) ⟨by simp only; omega, by simp only; omega, hx, by simp only; omega, by simp only; omega, hy⟩ (by omega)
  simp only [mf, r0_zero, r1_zero, r2_zero] at hw
  refine Pu.intro Tryz.func18 rfl (by kernel_rfl) fun C => ?_
  repeat (first | (refine A1 ⟨?_⟩; intros) | (refine Wcx (fint1) ?_) | (refine Wdcx (fint1) ?_) | (refine Wcgx (fint1) ?_) | (refine Wdcgx (fint1) ?_) | (refine Wcx (ptOf_q x y (by omega) (by omega)) ?_) | (refine Wdcx (ptOf_q x y (by omega) (by omega)) ?_) | (refine Wcgx (ptOf_q x y (by omega) (by omega)) ?_) | (refine Wdcgx (ptOf_q x y (by omega) (by omega)) ?_) | (refine Wcx (hw) ?_) | (refine Wdcx (hw) ?_) | (refine Wcgx (hw) ?_) | (refine Wdcgx (hw) ?_))
  ((first | refine endR ?_ | refine endN ?_); refine end1 (RV.cellA rfl (by repeat (first | exact List.mem_cons_self | apply List.mem_cons_of_mem)) (by (try simp only [List.drop_succ_cons, List.drop_zero, List.drop_nil, List.take_succ_cons, List.take_zero, List.take_nil, Nat.zero_add, Nat.add_zero, Nat.reduceAdd]) <;> exact rfl) rfl) (Le.refl _))
theorem q_of (x : Rat) (h : ht x ≤ 100000) : Pu Tryz.prog 22 [q x] (rq x) := by
  have := q_pu (RQ.of_ok h) (by omega)
  rwa [RQ.of_v] at this
def M6.of (m : M6 Rat) : M6 RQ := ⟨RQ.of m.a, RQ.of m.b, RQ.of m.c, RQ.of m.d, RQ.of m.e, RQ.of m.f⟩
theorem M6.of_v (m : M6 Rat) : m.of.v = m := by
  unfold M6.of M6.v
  simp only [RQ.of_v]
theorem M6.of_ok {m : M6 Rat} {L : Nat} (h : m.le L) : m.of.ok L := ⟨RQ.of_ok h.a, RQ.of_ok h.b, RQ.of_ok h.c, RQ.of_ok h.d, RQ.of_ok h.e, RQ.of_ok h.f⟩
theorem aDet_q {m : M6 Rat} (h : m.le 10000) : Pu Tryz.prog 23 [mq m] (q (m.a * m.e - m.d * m.b)) := by
  have := aDet_pu (M6.of_ok h) (by omega)
  rwa [M6.of_v] at this
theorem aApply_q {m : M6 Rat} (h : m.le 10000) {x y : Rat} (hx : ht x ≤ 10000) (hy : ht y ≤ 10000) : Pu Tryz.prog 26 [mq m, pq x y] (pq (m.a * x + m.b * y + m.c) (m.d * x + m.e * y + m.f)) := by
  have := aApply_pu (M6.of_ok h) (by omega) (RQ.of_ok hx) (RQ.of_ok hy)
  rwa [M6.of_v, RQ.of_v, RQ.of_v] at this
theorem ht_small (z : Int) (h : z.natAbs < 4294967296) : ht (z : Rat) ≤ 1 := by
  unfold ht
  rw [Rat.num_intCast, Rat.den_intCast, dgs_one]
  have : il z ≤ 1 := len_le (k := 1) (by simpa using h)
  simp; omega
theorem known26 : Pu Tryz.prog 6 [] (lit (.bool true)) := by
  have h0 := ht_zero
  have h1 := ht_one
  have h2 : ht 2 ≤ 1 := ht_small 2 (by omega)
  have h3 : ht 3 ≤ 1 := ht_small 3 (by omega)
  have h4 : ht 4 ≤ 1 := ht_small 4 (by omega)
  have a1 : Pu Tryz.prog 20 [lit (.int .i64 2), lit (.int .i64 3)] (rp 2 3) := xy_pu 2 3 (by omega) (by omega) (by omega) (by omega)
  have a2 : Pu Tryz.prog 20 [lit (.int .i64 1), lit (.int .i64 1)] (rp 1 1) := xy_pu 1 1 (by omega) (by omega) (by omega) (by omega)
  have a3 : Pu Tryz.prog 20 [lit (.int .i64 3), lit (.int .i64 4)] (rp 3 4) := xy_pu 3 4 (by omega) (by omega) (by omega) (by omega)
  have b1 := toP_pu 2 3 (by omega) (by omega)
  have b2 := toP_pu 1 1 (by omega) (by omega)
  have b3 := toP_pu 3 4 (by omega) (by omega)
  have hm : (⟨1, 0, 2, 0, 1, 3⟩ : M6 Rat).le 10000 := ⟨by simp only; omega, by simp only; omega, by simp only; omega, by simp only; omega, by simp only; omega, by simp only; omega⟩
  have c1 := translation_pu 2 3 (by omega) (by omega)
  have d1 := aDet_q hm
  simp only [show (1 : Rat) * 1 - 0 * 0 = 1 from by decide +kernel] at d1
  have d2 := aApply_q hm (x := 1) (y := 1) (by omega) (by omega)
  simp only [show (1 : Rat) * 1 + 0 * 1 + 2 = 3 from by decide +kernel, show (0 : Rat) * 1 + 1 * 1 + 3 = 4 from by decide +kernel] at d2
  have e1 := q_of 1 (by omega)
  have f1 := rc_pu 1 1 (by omega) (by omega)
  rw [show ((1 : Rat) - 1).num.sign = 0 from by decide +kernel] at f1
  have g1 := sameP_pu 3 4 (by omega) (by omega)
  refine Pu.intro Tryz.func6 rfl (by kernel_rfl) fun C => ?_
  repeat (first | (refine A1 ⟨?_⟩; intros) | (refine Wcx (a1) ?_) | (refine Wdcx (a1) ?_) | (refine Wcgx (a1) ?_) | (refine Wdcgx (a1) ?_) | (refine Wcx (a2) ?_) | (refine Wdcx (a2) ?_) | (refine Wcgx (a2) ?_) | (refine Wdcgx (a2) ?_) | (refine Wcx (a3) ?_) | (refine Wdcx (a3) ?_) | (refine Wcgx (a3) ?_) | (refine Wdcgx (a3) ?_) | (refine Wcx (b1) ?_) | (refine Wdcx (b1) ?_) | (refine Wcgx (b1) ?_) | (refine Wdcgx (b1) ?_) | (refine Wcx (b2) ?_) | (refine Wdcx (b2) ?_) | (refine Wcgx (b2) ?_) | (refine Wdcgx (b2) ?_) | (refine Wcx (b3) ?_) | (refine Wdcx (b3) ?_) | (refine Wcgx (b3) ?_) | (refine Wdcgx (b3) ?_) | (refine Wcx (c1) ?_) | (refine Wdcx (c1) ?_) | (refine Wcgx (c1) ?_) | (refine Wdcgx (c1) ?_) | (refine Wcx (d1) ?_) | (refine Wdcx (d1) ?_) | (refine Wcgx (d1) ?_) | (refine Wdcgx (d1) ?_) | (refine Wcx (d2) ?_) | (refine Wdcx (d2) ?_) | (refine Wcgx (d2) ?_) | (refine Wdcgx (d2) ?_) | (refine Wcx (e1) ?_) | (refine Wdcx (e1) ?_) | (refine Wcgx (e1) ?_) | (refine Wdcgx (e1) ?_) | (refine Wcx (rof1) ?_) | (refine Wdcx (rof1) ?_) | (refine Wcgx (rof1) ?_) | (refine Wdcgx (rof1) ?_) | (refine Wcx (f1) ?_) | (refine Wdcx (f1) ?_) | (refine Wcgx (f1) ?_) | (refine Wdcgx (f1) ?_) | (refine Wcx (g1) ?_) | (refine Wdcx (g1) ?_) | (refine Wcgx (g1) ?_) | (refine Wdcgx (g1) ?_))
  ((first | refine endR ?_ | refine endN ?_); exact end1 (RV.tmp rfl) (Le.refl _))
def M6.det (m : M6 Rat) : Rat := m.a * m.e - m.d * m.b
def M6.inv (m : M6 Rat) : M6 Rat :=
  ⟨m.e * m.det⁻¹, -m.b * m.det⁻¹, -(m.e * m.det⁻¹ * m.c + -m.b * m.det⁻¹ * m.f), -m.d * m.det⁻¹, m.a * m.det⁻¹, -(-m.d * m.det⁻¹ * m.c + m.a * m.det⁻¹ * m.f)⟩
theorem M6.det_ht {m : M6 Rat} {L : Nat} (h : m.le L) : ht m.det ≤ 4 * L + 3 := by
  obtain ⟨ha, hb, hc, hd, he, hf⟩ := h
  have l1 := ht_mul m.a m.e
  have l2 := ht_mul m.d m.b
  have l3 := ht_sub (m.a * m.e) (m.d * m.b)
  unfold M6.det; omega
theorem M6.inv_le {m : M6 Rat} {L : Nat} (h : m.le L) : m.inv.le (14 * L + 20) := by
  have hd0 := M6.det_ht h
  have hi := ht_inv m.det
  obtain ⟨ha, hb, hc, hd, he, hf⟩ := h
  have g : ∀ {x : Rat}, ht x ≤ L → ht (x * m.det⁻¹) ≤ 5 * L + 5 := fun {x} h1 => by
    have l1 := ht_mul x m.det⁻¹
    omega
  have nb : ht (-m.b) ≤ L := by rw [ht_neg]; exact hb
  have nd : ht (-m.d) ≤ L := by rw [ht_neg]; exact hd
  have g2 : ∀ {x y : Rat}, ht x ≤ L → ht y ≤ L → ht (-(x * m.det⁻¹ * m.c + y * m.det⁻¹ * m.f)) ≤ 14 * L + 20 := fun {x y} h1 h2 => by
    have k1 := g h1
    have k2 := g h2
    have l1 := ht_mul (x * m.det⁻¹) m.c
    have l2 := ht_mul (y * m.det⁻¹) m.f
    have l3 := ht_add (x * m.det⁻¹ * m.c) (y * m.det⁻¹ * m.f)
    rw [ht_neg]; omega
  exact ⟨Nat.le_trans (g he) (by omega), Nat.le_trans (g nb) (by omega), g2 he nb, Nat.le_trans (g nd) (by omega), Nat.le_trans (g ha) (by omega), g2 nd ha⟩
theorem aof_q {m : M6 Rat} (h : m.le 100000) : Pu Tryz.prog 60 [mq m] (mf m) := by
  have := aof_pu (M6.of_ok h) (by omega)
  rwa [M6.of_v] at this
theorem translation_raw {a b : RQ} {L : Nat} (ha : a.ok L) (hb : b.ok L) (hL : L ≤ 10000) : Pu Tryz.prog 18 [pr a b] (mq ⟨1, 0, a.v, 0, 1, b.v⟩) := by
  have h0 := ht_zero
  have h1 := ht_one
  have k1 := ht_v ha
  have k2 := ht_v hb
  have hw := awrite_pu (m := ⟨1, 0, a.v, 0, 1, b.v⟩) (L := 10001) ⟨by simp only; omega, by simp only; omega, by simp only; omega, by simp only; omega, by simp only; omega, by simp only; omega⟩ (by omega)
  simp only [mf, r0_zero, r1_zero, r2_zero] at hw
  refine Pu.intro Tryz.func18 rfl (by kernel_rfl) fun C => ?_
  repeat (first | (refine A1 ⟨?_⟩; intros) | (refine Wcx (fint1) ?_) | (refine Wdcx (fint1) ?_) | (refine Wcgx (fint1) ?_) | (refine Wdcgx (fint1) ?_) | (refine Wcx (ptOf_pu ha hb (by omega)) ?_) | (refine Wdcx (ptOf_pu ha hb (by omega)) ?_) | (refine Wcgx (ptOf_pu ha hb (by omega)) ?_) | (refine Wdcgx (ptOf_pu ha hb (by omega)) ?_) | (refine Wcx (hw) ?_) | (refine Wdcx (hw) ?_) | (refine Wcgx (hw) ?_) | (refine Wdcgx (hw) ?_))
  ((first | refine endR ?_ | refine endN ?_); refine end1 (RV.cellA rfl (by repeat (first | exact List.mem_cons_self | apply List.mem_cons_of_mem)) (by (try simp only [List.drop_succ_cons, List.drop_zero, List.drop_nil, List.take_succ_cons, List.take_zero, List.take_nil, Nat.zero_add, Nat.add_zero, Nat.reduceAdd]) <;> exact rfl) rfl) (Le.refl _))
theorem identity_pu : Pu Tryz.prog 7 [] (mq ⟨1, 0, 0, 0, 1, 0⟩) := by
  have hd : D ([] : List Nat) := fun _ h => by cases h
  have hk : (⟨false, [], []⟩ : RQ).ok 1 := ⟨hd, hd, by simp, by simp⟩
  have hv : (⟨false, [], []⟩ : RQ).v = 0 := by unfold RQ.v; simp [val, sv, Rat.mkRat_zero]
  have ht := (translation_raw hk hk (by omega)).arg (l' := [ag [lit (.bool false), lit (.slice none 0 0), lit (.slice none 0 0), lit (.bool false), lit (.slice none 0 0), lit (.slice none 0 0)]])
    ⟨Le.ag ⟨Le.refl _, le_nil, le_nil, Le.refl _, le_nil, le_nil, trivial⟩, trivial⟩
  rw [hv] at ht
  refine Pu.intro Tryz.func7 rfl (by kernel_rfl) fun C => ?_
  repeat (first | (refine A1 ⟨?_⟩; intros) | (refine Wcx (ht) ?_) | (refine Wdcx (ht) ?_) | (refine Wcgx (ht) ?_) | (refine Wdcgx (ht) ?_))
  ((first | refine endR ?_ | refine endN ?_); refine end1 (RV.cellA rfl (by repeat (first | exact List.mem_cons_self | apply List.mem_cons_of_mem)) (by (try simp only [List.drop_succ_cons, List.drop_zero, List.drop_nil, List.take_succ_cons, List.take_zero, List.take_nil, Nat.zero_add, Nat.add_zero, Nat.reduceAdd]) <;> exact rfl) rfl) (Le.refl _))
theorem pneg_pu (x y : Rat) (hx : ht x ≤ 1000000) (hy : ht y ≤ 1000000) : Pu Tryz.prog 135 [pp x y] (pp (-x) (-y)) := by
  refine Pu.intro Tryz.func135 rfl (by kernel_rfl) fun C => ?_
  repeat (first | (refine A1 ⟨?_⟩; intros) | (refine Wcx (rneg_pu x (by omega)) ?_) | (refine Wdcx (rneg_pu x (by omega)) ?_) | (refine Wcgx (rneg_pu x (by omega)) ?_) | (refine Wdcgx (rneg_pu x (by omega)) ?_) | (refine Wcx (rneg_pu y (by omega)) ?_) | (refine Wdcx (rneg_pu y (by omega)) ?_) | (refine Wcgx (rneg_pu y (by omega)) ?_) | (refine Wdcgx (rneg_pu y (by omega)) ?_))
  ((first | refine endR ?_ | refine endN ?_); refine end1 (RV.cellA rfl (by repeat (first | exact List.mem_cons_self | apply List.mem_cons_of_mem)) (by (try simp only [List.drop_succ_cons, List.drop_zero, List.drop_nil, List.take_succ_cons, List.take_zero, List.take_nil, Nat.zero_add, Nat.add_zero, Nat.reduceAdd]) <;> exact rfl) rfl) (Le.refl _))
theorem inverse_pu {m : M6 Rat} {L : Nat} (h : m.le L) (hL : L ≤ 1000) : Pu Tryz.prog 78 [mf m] (mf m.inv) := by
  have hd0 := M6.det_ht h
  have hi := ht_inv m.det
  have hdet := adet_pu h (by omega)
  have hin := inv_pu (m.a * m.e - m.d * m.b) (by unfold M6.det at hd0; omega)
  obtain ⟨ha, hb, hc, hd, he, hf⟩ := h
  have nb := ht_neg m.b
  have nd := ht_neg m.d
  have s1 := pscale_pu m.e (-m.d) m.det⁻¹ (by omega) (by omega) (by omega)
  have s2 := pscale_pu (-m.b) m.a m.det⁻¹ (by omega) (by omega) (by omega)
  have l1 := ht_mul m.e m.det⁻¹
  have l2 := ht_mul (-m.d) m.det⁻¹
  have l3 := ht_mul (-m.b) m.det⁻¹
  have l4 := ht_mul m.a m.det⁻¹
  have h0 := ht_zero
  have v := avector_pu (m := ⟨m.e * m.det⁻¹, -m.b * m.det⁻¹, 0, -m.d * m.det⁻¹, m.a * m.det⁻¹, 0⟩) (L := 10000) ⟨by simp only; omega, by simp only; omega, by simp only; omega, by simp only; omega, by simp only; omega, by simp only; omega⟩ (by omega) m.c m.f (by omega) (by omega)
  have k1 := ht_mul (m.e * m.det⁻¹) m.c
  have k2 := ht_mul (-m.b * m.det⁻¹) m.f
  have k3 := ht_mul (-m.d * m.det⁻¹) m.c
  have k4 := ht_mul (m.a * m.det⁻¹) m.f
  have k5 := ht_add (m.e * m.det⁻¹ * m.c) (-m.b * m.det⁻¹ * m.f)
  have k6 := ht_add (-m.d * m.det⁻¹ * m.c) (m.a * m.det⁻¹ * m.f)
  have ng := pneg_pu (m.e * m.det⁻¹ * m.c + -m.b * m.det⁻¹ * m.f) (-m.d * m.det⁻¹ * m.c + m.a * m.det⁻¹ * m.f) (by omega) (by omega)
  have n1 := rneg_pu m.d (by omega)
  have n2 := rneg_pu m.b (by omega)
  simp only [mf, r0_zero, r1_zero, r2_zero] at v
  rw [show m.a * m.e - m.d * m.b = m.det from rfl] at hdet hin
  clear k1 k2 k3 k4 k5 k6 l1 l2 l3 l4 hd0 hi nb nd
  refine Pu.intro Tryz.func78 rfl (by kernel_rfl) fun C => ?_
  repeat (first | (refine A1 ⟨?_⟩; intros) | (refine Wcx (hdet) ?_) | (refine Wdcx (hdet) ?_) | (refine Wcgx (hdet) ?_) | (refine Wdcgx (hdet) ?_) | (refine Wcx (hin) ?_) | (refine Wdcx (hin) ?_) | (refine Wcgx (hin) ?_) | (refine Wdcgx (hin) ?_) | (refine Wcx (n1) ?_) | (refine Wdcx (n1) ?_) | (refine Wcgx (n1) ?_) | (refine Wdcgx (n1) ?_) | (refine Wcx (s1) ?_) | (refine Wdcx (s1) ?_) | (refine Wcgx (s1) ?_) | (refine Wdcgx (s1) ?_) | (refine Wcx (n2) ?_) | (refine Wdcx (n2) ?_) | (refine Wcgx (n2) ?_) | (refine Wdcgx (n2) ?_) | (refine Wcx (s2) ?_) | (refine Wdcx (s2) ?_) | (refine Wcgx (s2) ?_) | (refine Wdcgx (s2) ?_) | (refine Wcx (v) ?_) | (refine Wdcx (v) ?_) | (refine Wcgx (v) ?_) | (refine Wdcgx (v) ?_) | (refine Wcx (ng) ?_) | (refine Wdcx (ng) ?_) | (refine Wcgx (ng) ?_) | (refine Wdcgx (ng) ?_))
  ((first | refine endR ?_ | refine endN ?_); refine end1 (RV.cellA rfl (by repeat (first | exact List.mem_cons_self | apply List.mem_cons_of_mem)) (by (try simp only [List.drop_succ_cons, List.drop_zero, List.drop_nil, List.take_succ_cons, List.take_zero, List.take_nil, Nat.zero_add, Nat.add_zero, Nat.reduceAdd]) <;> exact rfl) rfl) (Le.refl _))
end Go.Ab
