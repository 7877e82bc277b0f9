/- Texts laid one behind the other: RefE, RefF, Ref1, Ref4, Scene1, Law26A, RefH. -/
import Derived.Test.YtnhnilapllmiaaaGreatDoorB11
import Derived.Test.YtnhnilapllmiaaaGreatDoorRefL
import Derived.Test.YtnhnilapllmiaaaGreatDoorB08
import Derived.Test.YtnhnilapllmiaaaGreatDoorFracD
import Derived.Test.YtnhnilapllmiaaaGreatDoorB10
import Derived.Test.YtnhnilapllmiaaaGreatDoorB03
set_option linter.unusedSectionVars false
set_option linter.unusedVariables false
set_option linter.unusedSimpArgs false
namespace Go.Ab
open Go.Proofs
variable [Base]
set_option maxHeartbeats 1000000 in
theorem rcommon_pu (a b : Nat) (ha : (dgs a).length ≤ 10000000) (hb : (dgs b).length ≤ 10000000) : Pu Tryz.prog 123 [nat a, nat b] (nat (Nat.gcd a b)) := by
  have w1 := rword_pu a (by omega)
  have w2 := rword_pu b (by omega)
  by_cases hs : (dgs a).length ≤ 2 ∧ (dgs b).length ≤ 2
  · rw [if_pos hs.1] at w1
    rw [if_pos hs.2] at w2
    have la := len_le2 hs.1
    have lb := len_le2 hs.2
    refine Pu.intro Tryz.func123 rfl (by kernel_rfl) fun C => ?_
    repeat (refine A1 ⟨?_⟩; intros)
    refine Wc w1 ?_
    repeat (refine A1 ⟨?_⟩; intros)
    refine Wc w2 ?_
    repeat (refine A1 ⟨?_⟩; intros)
    refine WP.loop (ι := Nat × Nat) (fun s => Nat.gcd s.1 s.2 = Nat.gcd a b ∧ s.1 < 18446744073709551616 ∧ s.2 < 18446744073709551616) (fun s => s.2)
      (fun s => fm [(5, lit (.int .u64 s.1)), (7, lit (.int .u64 s.2))]) (fun _ => []) (a, b) ⟨rfl, la, lb⟩ (by (repeat (first | exact LeF.nil _ | refine LeF.cons (Le.refl _) ?_ | refine LeF.cons (Le.int (by omega)) ?_))) rfl ?_
    rintro ⟨c, d⟩ ⟨hg', hc, hd⟩ K hK
    simp only at hg' hc hd ⊢
    by_cases h0 : d = 0
    · subst h0
      rw [Nat.gcd_zero_right] at hg'
      rw [← hg']
      repeat (refine A1 ⟨?_⟩; intros)
      refine Wc (word_pu c hc) ?_
      repeat (refine A1 ⟨?_⟩; intros)
      ((first | refine endR ?_ | refine endN ?_); exact end1 (RV.tmp rfl) (Le.refl _))
    · have hm : c % d < d := Nat.mod_lt _ (by omega)
      have hgg : Nat.gcd d (c % d) = Nat.gcd a b := by rw [← hg', Nat.gcd_comm c d, Nat.gcd_rec d c, Nat.gcd_comm]
      repeat (refine A1 ⟨?_⟩; intros)
      exact hK _ _ (d, c % d) ⟨hgg, hd, by simp only; omega⟩ hm (by (repeat (first | exact LeF.nil _ | refine LeF.cons (Le.refl _) ?_ | refine LeF.cons (Le.int (by omega)) ?_))) rfl
  · have h12 : (dgs a).length ≤ 2 → ¬ (dgs b).length ≤ 2 := fun x y => hs ⟨x, y⟩
    clear hs
    by_cases la : (dgs a).length ≤ 2
    · have lb := h12 la
      clear h12
      rw [if_pos la] at w1
      rw [if_neg lb] at w2
      refine Pu.intro Tryz.func123 rfl (by kernel_rfl) fun C => ?_
      repeat (refine A1 ⟨?_⟩; intros)
      refine Wc w1 ?_
      repeat (refine A1 ⟨?_⟩; intros)
      refine Wc w2 ?_
      repeat (refine A1 ⟨?_⟩; intros)
      refine WP.loop (ι := Nat × Nat) (fun s => Nat.gcd s.1 s.2 = Nat.gcd a b ∧ (dgs s.1).length ≤ 10000000 ∧ (dgs s.2).length ≤ 10000000) (fun s => s.2)
        (fun s => fm [(0, nat s.1), (1, nat s.2)]) (fun _ => []) (a, b) ⟨rfl, ha, hb⟩ (by (repeat (first | exact LeF.nil _ | refine LeF.cons (Le.refl _) ?_ | refine LeF.cons (Le.int (by omega)) ?_))) rfl ?_
      rintro ⟨c, d⟩ ⟨hg', hc, hd⟩ K hK
      simp only at hg' hc hd ⊢
      by_cases h0 : d = 0
      · subst h0
        rw [Nat.gcd_zero_right] at hg'
        rw [← hg']
        have hl : (dgs 0).length = 0 := by rw [dgs_zero]; rfl
        repeat (refine A1 ⟨?_⟩; intros)
        ((first | refine endR ?_ | refine endN ?_); exact end1 (RV.tmp rfl) (Le.refl _))
      · have hl := dgs_len_pos h0
        have hm : c % d < d := Nat.mod_lt _ (by omega)
        have hgg : Nat.gcd d (c % d) = Nat.gcd a b := by rw [← hg', Nat.gcd_comm c d, Nat.gcd_rec d c, Nat.gcd_comm]
        have hlm := len_mono (Nat.le_of_lt hm)
        repeat (refine A1 ⟨?_⟩; intros)
        refine Wc (rdivide_pu c d h0 hc hd) ?_
        repeat (refine A1 ⟨?_⟩; intros)
        exact hK _ _ (d, c % d) ⟨hgg, hd, by simp only; omega⟩ hm (by (repeat (first | exact LeF.nil _ | refine LeF.cons (Le.refl _) ?_ | refine LeF.cons (Le.int (by omega)) ?_))) rfl
    · clear h12
      rw [if_neg la] at w1
      refine Pu.intro Tryz.func123 rfl (by kernel_rfl) fun C => ?_
      repeat (refine A1 ⟨?_⟩; intros)
      refine Wc w1 ?_
      repeat (refine A1 ⟨?_⟩; intros)
      refine WP.loop (ι := Nat × Nat) (fun s => Nat.gcd s.1 s.2 = Nat.gcd a b ∧ (dgs s.1).length ≤ 10000000 ∧ (dgs s.2).length ≤ 10000000) (fun s => s.2)
        (fun s => fm [(0, nat s.1), (1, nat s.2)]) (fun _ => []) (a, b) ⟨rfl, ha, hb⟩ (by (repeat (first | exact LeF.nil _ | refine LeF.cons (Le.refl _) ?_ | refine LeF.cons (Le.int (by omega)) ?_))) rfl ?_
      rintro ⟨c, d⟩ ⟨hg', hc, hd⟩ K hK
      simp only at hg' hc hd ⊢
      by_cases h0 : d = 0
      · subst h0
        rw [Nat.gcd_zero_right] at hg'
        rw [← hg']
        have hl : (dgs 0).length = 0 := by rw [dgs_zero]; rfl
        repeat (refine A1 ⟨?_⟩; intros)
        ((first | refine endR ?_ | refine endN ?_); exact end1 (RV.tmp rfl) (Le.refl _))
      · have hl := dgs_len_pos h0
        have hm : c % d < d := Nat.mod_lt _ (by omega)
        have hgg : Nat.gcd d (c % d) = Nat.gcd a b := by rw [← hg', Nat.gcd_comm c d, Nat.gcd_rec d c, Nat.gcd_comm]
        have hlm := len_mono (Nat.le_of_lt hm)
        repeat (refine A1 ⟨?_⟩; intros)
        refine Wc (rdivide_pu c d h0 hc hd) ?_
        repeat (refine A1 ⟨?_⟩; intros)
        exact hK _ _ (d, c % d) ⟨hgg, hd, by simp only; omega⟩ hm (by (repeat (first | exact LeF.nil _ | refine LeF.cons (Le.refl _) ?_ | refine LeF.cons (Le.int (by omega)) ?_))) rfl
def dden (d : Nat) : List Nat := if d = 1 then [] else dgs d
abbrev rq (x : Rat) : SV := ag [lit (.bool (decide (x.num < 0))), nat x.num.natAbs, dg (dden x.den)]
theorem dden_one : dden 1 = [] := rfl
theorem dden_ne {d : Nat} (h : d ≠ 1) : dden d = dgs d := if_neg h
theorem dgs_ne_nil {d : Nat} (h : d ≠ 0) : (dgs d).length ≠ 0 := by have := dgs_len_pos h; omega
theorem rden_pu (x : Rat) : Pu Tryz.prog 74 [rq x] (nat x.den) := by
  by_cases h : x.den = 1
  · show Pu _ _ [ag [lit (.bool (decide (x.num < 0))), nat x.num.natAbs, dg (dden x.den)]] _
    rw [h, dden_one]
    refine Pu.intro Tryz.func74 rfl (by kernel_rfl) fun C => ?_
    repeat (refine A1 ⟨?_⟩; intros)
    refine Wc one_pu ?_
    repeat (refine A1 ⟨?_⟩; intros)
    ((first | refine endR ?_ | refine endN ?_); exact end1 (RV.tmp rfl) (Le.refl _))
  · show Pu _ _ [ag [lit (.bool (decide (x.num < 0))), nat x.num.natAbs, dg (dden x.den)]] _
    rw [dden_ne h]
    have hl := dgs_ne_nil x.den_nz
    refine Pu.intro Tryz.func74 rfl (by kernel_rfl) fun C => ?_
    repeat (refine A1 ⟨?_⟩; intros)
    ((first | refine endR ?_ | refine endN ?_); exact end1 (RV.tmp rfl) (Le.refl _))
set_option maxHeartbeats 1000000 in
theorem rfrac_pu (a : Int) (d : Nat) (ha : il a ≤ 10000000) (hd : (dgs d).length ≤ 10000000) (h0 : d ≠ 0) : Pu Tryz.prog 107 [int a, nat d] (rq (mkRat a d)) := by
  have hmk := mk_sv (decide (a < 0)) a.natAbs h0
  rw [sv_int] at hmk
  obtain ⟨e1, e2⟩ := hmk
  have hg0 : Nat.gcd a.natAbs d ≠ 0 := fun h => h0 (Nat.gcd_eq_zero_iff.1 h).2
  have gd2 := Nat.gcd_dvd_right a.natAbs d
  have gl := Nat.le_of_dvd (Nat.pos_of_ne_zero h0) gd2
  have hgl := len_mono gl
  have l1 := len_mono (Nat.div_le_self a.natAbs (Nat.gcd a.natAbs d))
  have l2 := len_mono (Nat.div_le_self d (Nat.gcd a.natAbs d))
  have cm := rcommon_pu a.natAbs d ha hd
  have ha' : (dgs a.natAbs).length ≤ 10000000 := ha
  generalize hx : mkRat a d = x at *
  generalize hg : Nat.gcd a.natAbs d = g at *
  have hlg : (dgs g).length ≤ 10000000 := by omega
  have lden : (dgs x.den).length ≤ 10000000 := by rw [e2]; omega
  have ho : (dgs 1).length = 1 := by rw [dgs_one]; rfl
  have cmp1 := rcmp_pu g 1 (by omega) (by omega)
  have cmp2 := rcmp_pu x.den 1 (by omega) (by omega)
  refine Pu.intro Tryz.func107 rfl (by kernel_rfl) fun C => ?_
  repeat (refine A1 ⟨?_⟩; intros)
  rename_i b2 b4
  refine Wc cm ?_
  repeat (refine A1 ⟨?_⟩; intros)
  refine Wc one_pu ?_
  refine Wc cmp1 ?_
  repeat (refine A1 ⟨?_⟩; intros)
  refine WP.via (fun F H => LeF F (fm [(1, nat x.den), (2, lit (.pointer (some ⟨b2, 0, none⟩))), (4, lit (.pointer (some ⟨b4, 0, none⟩)))]) ∧
        H = [(b4, 30, [lit (.bool false), lit (.slice none 0 0), lit (.slice none 0 0)]), (b2, 28, [lit (.bool (decide (x.num < 0))), nat x.num.natAbs])]) ?_ ?_
  · refine WPd (fun h => ?_) (fun h => ?_)
    · rw [e1, e2]
      repeat (refine A1 ⟨?_⟩; intros)
      refine Wc (rdivide_pu a.natAbs g hg0 ha' hlg) ?_
      repeat (refine A1 ⟨?_⟩; intros)
      refine Wc (rmake_pu (decide (a < 0)) (a.natAbs / g) (by omega)) ?_
      repeat (refine A1 ⟨?_⟩; intros)
      refine Wc (rdivide_pu d g hg0 hd hlg) ?_
      repeat (refine A1 ⟨?_⟩; intros)
      exact ⟨by (repeat (first | exact LeF.nil _ | refine LeF.cons (Le.refl _) ?_ | refine LeF.cons (Le.int (by omega)) ?_)), rfl⟩
    · have hg1 : g = 1 := by
        rcases Nat.lt_trichotomy g 1 with h' | h' | h'
        · omega
        · exact h'
        · rw [cmpN_gt h'] at h; exact absurd (by decide) h
      rw [hg1, Nat.div_one, sv_int] at e1
      rw [hg1, Nat.div_one] at e2
      rw [e1, e2]
      repeat (refine A1 ⟨?_⟩; intros)
      exact ⟨by (repeat (first | exact LeF.nil _ | refine LeF.cons (Le.refl _) ?_ | refine LeF.cons (Le.int (by omega)) ?_)), rfl⟩
  · rintro F H ⟨hF, rfl⟩
    refine WP.le hF ?_
    repeat (refine A1 ⟨?_⟩; intros)
    refine Wc one_pu ?_
    refine Wc cmp2 ?_
    by_cases h1 : x.den = 1
    · rw [show rq x = ag [lit (.bool (decide (x.num < 0))), nat x.num.natAbs, dg []] from by rw [rq, h1, dden_one], h1, cmpN_eq]
      repeat (refine A1 ⟨?_⟩; intros)
      refine endR (end1 (RV.cellA rfl List.mem_cons_self rfl rfl) (Le.ag ⟨Le.refl _, Le.refl _, le_nil, trivial⟩))
    · have hc : cmpN x.den 1 = 1 := cmpN_gt (by have := x.den_nz; omega)
      rw [show rq x = ag [lit (.bool (decide (x.num < 0))), nat x.num.natAbs, nat x.den] from by rw [rq, dden_ne h1], hc]
      repeat (refine A1 ⟨?_⟩; intros)
      ((first | refine endR ?_ | refine endN ?_); refine end1 (RV.cellA rfl (by repeat (first | exact List.mem_cons_self | apply List.mem_cons_of_mem)) (by (try simp only [List.drop_succ_cons, List.drop_zero, List.drop_nil, List.take_succ_cons, List.take_zero, List.take_nil, Nat.zero_add, Nat.add_zero, Nat.reduceAdd]) <;> exact rfl) rfl) (Le.refl _))
theorem rq_int (z : Int) : rq (z : Rat) = ag [lit (.bool (decide (z < 0))), nat z.natAbs, dg []] := by
  rw [rq, Rat.num_intCast, Rat.den_intCast, dden_one]
theorem rof_pu (z : Int) (h0 : -9223372036854775808 ≤ z) (h1 : z ≤ 9223372036854775807) : Pu Tryz.prog 26 [lit (.int .i64 z)] (rq (z : Rat)) := by
  rw [rq_int]
  refine Pu.intro Tryz.func26 rfl (by kernel_rfl) fun C => ?_
  repeat (refine A1 ⟨?_⟩; intros)
  refine Wc (rint_pu z h0 h1) ?_
  repeat (refine A1 ⟨?_⟩; intros)
  refine endR (end1 (RV.cellA rfl List.mem_cons_self rfl rfl) (Le.ag ⟨Le.refl _, Le.refl _, le_nil, trivial⟩))
theorem rs_pu (x : Rat) (h : ht x ≤ 10000000) : Pu Tryz.prog 16 [rq x] (lit (.int .i64 x.num.sign)) := by
  have b1 := ht_num x
  have hb : (dgs x.num.natAbs).length ≤ 1000000000 := by have : il x.num = (dgs x.num.natAbs).length := rfl; omega
  refine Pu.intro Tryz.func16 rfl (by kernel_rfl) fun C => ?_
  repeat (refine A1 ⟨?_⟩; intros)
  refine Wc (rsign_int x.num hb) ?_
  repeat (refine A1 ⟨?_⟩; intros)
  ((first | refine endR ?_ | refine endN ?_); exact end1 (RV.tmp rfl) (Le.refl _))
theorem ropp_pu (x : Rat) (h : ht x ≤ 10000000) : Pu Tryz.prog 71 [rq x] (rq (-x)) := by
  have b1 := ht_num x
  have hb : (dgs x.num.natAbs).length ≤ 1000000000 := by have : il x.num = (dgs x.num.natAbs).length := rfl; omega
  rw [show rq (-x) = ag [lit (.bool (decide (-x.num < 0))), nat (-x.num).natAbs, dg (dden x.den)] from by rw [rq, Rat.neg_num, Rat.neg_den]]
  refine Pu.intro Tryz.func71 rfl (by kernel_rfl) fun C => ?_
  repeat (refine A1 ⟨?_⟩; intros)
  refine Wdc (rminus_int x.num hb) ?_
  repeat (refine A1 ⟨?_⟩; intros)
  ((first | refine endR ?_ | refine endN ?_); refine end1 (RV.cellA rfl (by repeat (first | exact List.mem_cons_self | apply List.mem_cons_of_mem)) (by (try simp only [List.drop_succ_cons, List.drop_zero, List.drop_nil, List.take_succ_cons, List.take_zero, List.take_nil, Nat.zero_add, Nat.add_zero, Nat.reduceAdd]) <;> exact rfl) rfl) (Le.refl _))
theorem dden_len {d : Nat} (h : d ≠ 0) : d ≠ 1 → (dden d).length ≠ 0 := fun h1 => by rw [dden_ne h1]; exact dgs_ne_nil h
theorem dden_len1 {d : Nat} (h : d = 1) : (dden d).length = 0 := by rw [h, dden_one]; rfl
theorem dden_le (d : Nat) : (dden d).length ≤ (dgs d).length := by unfold dden; split <;> simp
theorem times_whole {x y : Rat} (h1 : x.den = 1) (h2 : y.den = 1) : x * y = ((x.num * y.num : Int) : Rat) := by
  rw [Rat.mul_def', h1, h2, Nat.mul_one, Rat.mkRat_one]
theorem rtimes_pu (x y : Rat) (hx : ht x ≤ 3000000) (hy : ht y ≤ 3000000) : Pu Tryz.prog 54 [rq x, rq y] (rq (x * y)) := by
  have n1 := ht_num x
  have n2 := ht_num y
  have d1 := ht_den x
  have d2 := ht_den y
  have m1 := il_mul x.num y.num
  have m2 := dlen_mul x.den y.den
  have l1 := dden_le x.den
  have l2 := dden_le y.den
  have mi := rmul_int x.num y.num (show il x.num ≤ 100000000 by omega) (show il y.num ≤ 100000000 by omega)
  have fr := rfrac_pu (x.num * y.num) (x.den * y.den) (by omega) (by omega) (Nat.mul_ne_zero x.den_nz y.den_nz)
  by_cases hx1 : x.den = 1
  · have k1 := dden_len1 hx1
    by_cases hy1 : y.den = 1
    · have k2 := dden_len1 hy1
      rw [times_whole hx1 hy1, rq_int]
      refine Pu.intro Tryz.func54 rfl (by kernel_rfl) fun C => ?_
      repeat (refine A1 ⟨?_⟩; intros)
      refine Wc mi ?_
      repeat (refine A1 ⟨?_⟩; intros)
      refine endR (end1 (RV.cellA rfl List.mem_cons_self rfl rfl) (Le.ag ⟨Le.refl _, Le.refl _, le_nil, trivial⟩))
    · have k2 := dden_len y.den_nz hy1
      rw [Rat.mul_def']
      refine Pu.intro Tryz.func54 rfl (by kernel_rfl) fun C => ?_
      repeat (refine A1 ⟨?_⟩; intros)
      refine Wdc mi ?_
      repeat (refine A1 ⟨?_⟩; intros)
      refine Wdc (rden_pu x) ?_
      repeat (refine A1 ⟨?_⟩; intros)
      refine Wdc (rden_pu y) ?_
      repeat (refine A1 ⟨?_⟩; intros)
      refine Wdc (rprod_pu x.den y.den (by omega) (by omega)) ?_
      repeat (refine A1 ⟨?_⟩; intros)
      refine Wdc fr ?_
      repeat (refine A1 ⟨?_⟩; intros)
      ((first | refine endR ?_ | refine endN ?_); refine end1 (RV.cellA rfl (by repeat (first | exact List.mem_cons_self | apply List.mem_cons_of_mem)) (by (try simp only [List.drop_succ_cons, List.drop_zero, List.drop_nil, List.take_succ_cons, List.take_zero, List.take_nil, Nat.zero_add, Nat.add_zero, Nat.reduceAdd]) <;> exact rfl) rfl) (Le.refl _))
  · have k1 := dden_len x.den_nz hx1
    rw [Rat.mul_def']
    refine Pu.intro Tryz.func54 rfl (by kernel_rfl) fun C => ?_
    repeat (refine A1 ⟨?_⟩; intros)
    refine Wdc mi ?_
    repeat (refine A1 ⟨?_⟩; intros)
    refine Wdc (rden_pu x) ?_
    repeat (refine A1 ⟨?_⟩; intros)
    refine Wdc (rden_pu y) ?_
    repeat (refine A1 ⟨?_⟩; intros)
    refine Wdc (rprod_pu x.den y.den (by omega) (by omega)) ?_
    repeat (refine A1 ⟨?_⟩; intros)
    refine Wdc fr ?_
    repeat (refine A1 ⟨?_⟩; intros)
    ((first | refine endR ?_ | refine endN ?_); refine end1 (RV.cellA rfl (by repeat (first | exact List.mem_cons_self | apply List.mem_cons_of_mem)) (by (try simp only [List.drop_succ_cons, List.drop_zero, List.drop_nil, List.take_succ_cons, List.take_zero, List.take_nil, Nat.zero_add, Nat.add_zero, Nat.reduceAdd]) <;> exact rfl) rfl) (Le.refl _))
set_option maxHeartbeats 1000000 in
theorem rplus_pu (x y : Rat) (hx : ht x ≤ 3000000) (hy : ht y ≤ 3000000) : Pu Tryz.prog 72 [rq x, rq y] (rq (x + y)) := by
  have n1 := ht_num x
  have n2 := ht_num y
  have d1 := ht_den x
  have d2 := ht_den y
  have m1 := il_mul x.num y.den
  have m2 := il_mul y.num x.den
  have m3 := il_add (x.num * y.den) (y.num * x.den)
  have m4 := dlen_mul x.den y.den
  rw [il_nat] at m1 m2
  have l1 := dden_le x.den
  have l2 := dden_le y.den
  have mi1 := rmul_int x.num y.den (show il x.num ≤ 100000000 by omega) (show (dgs y.den).length ≤ 100000000 by omega)
  have mi2 := rmul_int y.num x.den (show il y.num ≤ 100000000 by omega) (show (dgs x.den).length ≤ 100000000 by omega)
  rw [← sv_nat] at mi1 mi2
  have ai := radd_int (x.num * y.den) (y.num * x.den) (show il _ ≤ 100000000 by omega) (show il _ ≤ 100000000 by omega)
  have aw := radd_int x.num y.num (show il _ ≤ 100000000 by omega) (show il _ ≤ 100000000 by omega)
  have fr := rfrac_pu (x.num * y.den + y.num * x.den) (x.den * y.den) (by omega) (by omega) (Nat.mul_ne_zero x.den_nz y.den_nz)
  by_cases hx1 : x.den = 1
  · have k1 := dden_len1 hx1
    by_cases hy1 : y.den = 1
    · have k2 := dden_len1 hy1
      rw [add_whole hx1 hy1, rq_int]
      refine Pu.intro Tryz.func72 rfl (by kernel_rfl) fun C => ?_
      repeat (refine A1 ⟨?_⟩; intros)
      refine Wc aw ?_
      repeat (refine A1 ⟨?_⟩; intros)
      refine endR (end1 (RV.cellA rfl List.mem_cons_self rfl rfl) (Le.ag ⟨Le.refl _, Le.refl _, le_nil, trivial⟩))
    · have k2 := dden_len y.den_nz hy1
      rw [Rat.add_def']
      refine Pu.intro Tryz.func72 rfl (by kernel_rfl) fun C => ?_
      repeat (refine A1 ⟨?_⟩; intros)
      refine Wdc (rden_pu y) ?_
      repeat (refine A1 ⟨?_⟩; intros)
      refine Wdc (rmake_pu false y.den (by omega)) ?_
      repeat (refine A1 ⟨?_⟩; intros)
      refine Wdc mi1 ?_
      repeat (refine A1 ⟨?_⟩; intros)
      refine Wdc (rden_pu x) ?_
      repeat (refine A1 ⟨?_⟩; intros)
      refine Wdc (rmake_pu false x.den (by omega)) ?_
      repeat (refine A1 ⟨?_⟩; intros)
      refine Wdc mi2 ?_
      repeat (refine A1 ⟨?_⟩; intros)
      refine Wdc ai ?_
      repeat (refine A1 ⟨?_⟩; intros)
      refine Wdc (rden_pu x) ?_
      repeat (refine A1 ⟨?_⟩; intros)
      refine Wdc (rden_pu y) ?_
      repeat (refine A1 ⟨?_⟩; intros)
      refine Wdc (rprod_pu x.den y.den (by omega) (by omega)) ?_
      repeat (refine A1 ⟨?_⟩; intros)
      refine Wdc fr ?_
      repeat (refine A1 ⟨?_⟩; intros)
      ((first | refine endR ?_ | refine endN ?_); refine end1 (RV.cellA rfl (by repeat (first | exact List.mem_cons_self | apply List.mem_cons_of_mem)) (by (try simp only [List.drop_succ_cons, List.drop_zero, List.drop_nil, List.take_succ_cons, List.take_zero, List.take_nil, Nat.zero_add, Nat.add_zero, Nat.reduceAdd]) <;> exact rfl) rfl) (Le.refl _))
  · have k1 := dden_len x.den_nz hx1
    rw [Rat.add_def']
    refine Pu.intro Tryz.func72 rfl (by kernel_rfl) fun C => ?_
    repeat (refine A1 ⟨?_⟩; intros)
    refine Wdc (rden_pu y) ?_
    repeat (refine A1 ⟨?_⟩; intros)
    refine Wdc (rmake_pu false y.den (by omega)) ?_
    repeat (refine A1 ⟨?_⟩; intros)
    refine Wdc mi1 ?_
    repeat (refine A1 ⟨?_⟩; intros)
    refine Wdc (rden_pu x) ?_
    repeat (refine A1 ⟨?_⟩; intros)
    refine Wdc (rmake_pu false x.den (by omega)) ?_
    repeat (refine A1 ⟨?_⟩; intros)
    refine Wdc mi2 ?_
    repeat (refine A1 ⟨?_⟩; intros)
    refine Wdc ai ?_
    repeat (refine A1 ⟨?_⟩; intros)
    refine Wdc (rden_pu x) ?_
    repeat (refine A1 ⟨?_⟩; intros)
    refine Wdc (rden_pu y) ?_
    repeat (refine A1 ⟨?_⟩; intros)
    refine Wdc (rprod_pu x.den y.den (by omega) (by omega)) ?_
    repeat (refine A1 ⟨?_⟩; intros)
    refine Wdc fr ?_
    repeat (refine A1 ⟨?_⟩; intros)
    ((first | refine endR ?_ | refine endN ?_); refine end1 (RV.cellA rfl (by repeat (first | exact List.mem_cons_self | apply List.mem_cons_of_mem)) (by (try simp only [List.drop_succ_cons, List.drop_zero, List.drop_nil, List.take_succ_cons, List.take_zero, List.take_nil, Nat.zero_add, Nat.add_zero, Nat.reduceAdd]) <;> exact rfl) rfl) (Le.refl _))
theorem rqsub_pu (x y : Rat) (hx : ht x ≤ 3000000) (hy : ht y ≤ 3000000) : Pu Tryz.prog 53 [rq x, rq y] (rq (x - y)) := by
  rw [Rat.sub_eq_add_neg]
  refine Pu.intro Tryz.func53 rfl (by kernel_rfl) fun C => ?_
  repeat (refine A1 ⟨?_⟩; intros)
  refine Wdc (ropp_pu y (by omega)) ?_
  repeat (refine A1 ⟨?_⟩; intros)
  refine Wdc (rplus_pu x (-y) hx (by rw [ht_neg]; exact hy)) ?_
  repeat (refine A1 ⟨?_⟩; intros)
  ((first | refine endR ?_ | refine endN ?_); refine end1 (RV.cellA rfl (by repeat (first | exact List.mem_cons_self | apply List.mem_cons_of_mem)) (by (try simp only [List.drop_succ_cons, List.drop_zero, List.drop_nil, List.take_succ_cons, List.take_zero, List.take_nil, Nat.zero_add, Nat.add_zero, Nat.reduceAdd]) <;> exact rfl) rfl) (Le.refl _))
theorem rc_pu (x y : Rat) (hx : ht x ≤ 3000000) (hy : ht y ≤ 3000000) : Pu Tryz.prog 56 [rq x, rq y] (lit (.int .i64 (x - y).num.sign)) := by
  have h := ht_sub x y
  refine Pu.intro Tryz.func56 rfl (by kernel_rfl) fun C => ?_
  repeat (refine A1 ⟨?_⟩; intros)
  refine Wc (rqsub_pu x y hx hy) ?_
  repeat (refine A1 ⟨?_⟩; intros)
  refine Wc (rs_pu (x - y) (by omega)) ?_
  repeat (refine A1 ⟨?_⟩; intros)
  ((first | refine endR ?_ | refine endN ?_); exact end1 (RV.tmp rfl) (Le.refl _))
theorem le_decF {p : Prop} [Decidable p] (h : ¬p) : Le (lit (.bool false)) (lit (.bool (decide p))) := by rw [decide_eq_false h]; exact Le.refl _
theorem le_decT {p : Prop} [Decidable p] (h : p) : Le (lit (.bool true)) (lit (.bool (decide p))) := by rw [decide_eq_true h]; exact Le.refl _
theorem sameN_pu (xs ys : List Nat) (hx : xs.length ≤ 1000000000) (hy : ys.length ≤ 1000000000) : Pu Tryz.prog 113 [dg xs, dg ys] (lit (.bool (decide (xs = ys)))) := by
  by_cases hl : xs.length = ys.length
  · refine Pu.intro Tryz.func113 rfl (by kernel_rfl) fun C => ?_
    repeat (refine A1 ⟨?_⟩; intros)
    refine WP.loop (ι := Nat) (fun k => k ≤ xs.length ∧ xs.take k = ys.take k) (fun k => xs.length - k) (fun k => fm [(0, dg xs), (1, dg ys), (11, dg xs), (12, lit (.int .i64 xs.length)), (13, lit (.int .i64 k))]) (fun _ => []) 0
      ⟨Nat.zero_le _, rfl⟩ (by (repeat (first | exact LeF.nil _ | refine LeF.cons (Le.refl _) ?_ | refine LeF.cons (Le.int (by omega)) ?_))) rfl ?_
    rintro k ⟨hk, he⟩ K hK
    by_cases hkl : k < xs.length
    · by_cases hd : xs.getD k 0 = ys.getD k 0
      · repeat (refine A1 ⟨?_⟩; intros)
        exact hK _ _ (k + 1) ⟨by omega, by rw [take_succ_getD xs k hkl, take_succ_getD ys k (by omega), he, hd]⟩ (by omega) (by (repeat (first | exact LeF.nil _ | refine LeF.cons (Le.refl _) ?_ | refine LeF.cons (Le.int (by omega)) ?_))) rfl
      · repeat (refine A1 ⟨?_⟩; intros)
        exact endR (end1 (RV.tmp rfl) (le_decF fun e => hd (by rw [e])))
    · have hke : k = xs.length := by omega
      subst hke
      rw [List.take_length, hl, List.take_length] at he
      repeat (refine A1 ⟨?_⟩; intros)
      exact endR (end1 (RV.tmp rfl) (le_decT he))
  · refine Pu.intro Tryz.func113 rfl (by kernel_rfl) fun C => ?_
    repeat (refine A1 ⟨?_⟩; intros)
    exact endR (end1 (RV.tmp rfl) (le_decF fun e => hl (by rw [e])))
theorem toN_pu (xs : List Nat) (h : xs.length ≤ 1000000000) : Pu Tryz.prog 78 [dg xs] (dg xs) := by
  refine Pu.intro Tryz.func78 rfl (by kernel_rfl) fun C => ?_
  repeat (refine A1 ⟨?_⟩; intros)
  ((first | refine endR ?_ | refine endN ?_); exact end1 (RV.tmp rfl) (Le.refl _))
theorem n_pu (xs : List Nat) (h : xs.length ≤ 1000000000) (hD : D xs) : Pu Tryz.prog 109 [dg xs] (nat (val xs)) := by
  refine Pu.intro Tryz.func109 rfl (by kernel_rfl) fun C => ?_
  repeat (first | (refine A1 ⟨?_⟩; intros) | (refine Wcx (rtrim_nat _ h hD) ?_) | (refine Wdcx (rtrim_nat _ h hD) ?_) | (refine Wcgx (rtrim_nat _ h hD) ?_) | (refine Wdcgx (rtrim_nat _ h hD) ?_))
  ((first | refine endR ?_ | refine endN ?_); exact end1 (RV.tmp rfl) (Le.refl _))
theorem i_pu (s : Bool) (xs : List Nat) (h : xs.length ≤ 1000000000) (hD : D xs) : Pu Tryz.prog 110 [raw s xs] (int (sv s (val xs))) := by
  have hl := dlen_val hD
  refine Pu.intro Tryz.func110 rfl (by kernel_rfl) fun C => ?_
  repeat (first | (refine A1 ⟨?_⟩; intros) | (refine Wcx (n_pu _ h hD) ?_) | (refine Wdcx (n_pu _ h hD) ?_) | (refine Wcgx (n_pu _ h hD) ?_) | (refine Wdcgx (n_pu _ h hD) ?_) | (refine Wcx (rmake_pu _ _ (by omega)) ?_) | (refine Wdcx (rmake_pu _ _ (by omega)) ?_) | (refine Wcgx (rmake_pu _ _ (by omega)) ?_) | (refine Wdcgx (rmake_pu _ _ (by omega)) ?_))
  ((first | refine endR ?_ | refine endN ?_); refine end1 (RV.cellA rfl (by repeat (first | exact List.mem_cons_self | apply List.mem_cons_of_mem)) (by (try simp only [List.drop_succ_cons, List.drop_zero, List.drop_nil, List.take_succ_cons, List.take_zero, List.take_nil, Nat.zero_add, Nat.add_zero, Nat.reduceAdd]) <;> exact rfl) rfl) (Le.refl _))
theorem toI_pu (z : Int) (h : il z ≤ 1000000000) : Pu Tryz.prog 43 [int z] (int z) := by
  have h' : (dgs z.natAbs).length ≤ 1000000000 := h
  refine Pu.intro Tryz.func43 rfl (by kernel_rfl) fun C => ?_
  repeat (first | (refine A1 ⟨?_⟩; intros) | (refine Wcx (toN_pu _ h') ?_) | (refine Wdcx (toN_pu _ h') ?_) | (refine Wcgx (toN_pu _ h') ?_) | (refine Wdcgx (toN_pu _ h') ?_))
  ((first | refine endR ?_ | refine endN ?_); refine end1 (RV.cellA rfl (by repeat (first | exact List.mem_cons_self | apply List.mem_cons_of_mem)) (by (try simp only [List.drop_succ_cons, List.drop_zero, List.drop_nil, List.take_succ_cons, List.take_zero, List.take_nil, Nat.zero_add, Nat.add_zero, Nat.reduceAdd]) <;> exact rfl) rfl) (Le.refl _))
theorem sameI_pu (s t : Bool) (xs ys : List Nat) (hx : xs.length ≤ 1000000000) (hy : ys.length ≤ 1000000000) : Pu Tryz.prog 63 [raw s xs, raw t ys] (lit (.bool (decide (s = t ∧ xs = ys)))) := by
  cases s <;> cases t
  · refine Pu.intro Tryz.func63 rfl (by kernel_rfl) fun C => ?_
    repeat (first | (refine A1 ⟨?_⟩; intros) | (refine Wcx (sameN_pu _ _ hx hy) ?_) | (refine Wdcx (sameN_pu _ _ hx hy) ?_) | (refine Wcgx (sameN_pu _ _ hx hy) ?_) | (refine Wdcgx (sameN_pu _ _ hx hy) ?_))
    refine endR (end1 (RV.tmp rfl) (Le.bool ?_)); simp
  · refine Pu.intro Tryz.func63 rfl (by kernel_rfl) fun C => ?_
    repeat (first | (refine A1 ⟨?_⟩; intros) | (refine Wcx (sameN_pu _ _ hx hy) ?_) | (refine Wdcx (sameN_pu _ _ hx hy) ?_) | (refine Wcgx (sameN_pu _ _ hx hy) ?_) | (refine Wdcgx (sameN_pu _ _ hx hy) ?_))
    refine endR (end1 (RV.tmp rfl) (Le.bool ?_)); simp
  · refine Pu.intro Tryz.func63 rfl (by kernel_rfl) fun C => ?_
    repeat (first | (refine A1 ⟨?_⟩; intros) | (refine Wcx (sameN_pu _ _ hx hy) ?_) | (refine Wdcx (sameN_pu _ _ hx hy) ?_) | (refine Wcgx (sameN_pu _ _ hx hy) ?_) | (refine Wdcgx (sameN_pu _ _ hx hy) ?_))
    refine endR (end1 (RV.tmp rfl) (Le.bool ?_)); simp
  · refine Pu.intro Tryz.func63 rfl (by kernel_rfl) fun C => ?_
    repeat (first | (refine A1 ⟨?_⟩; intros) | (refine Wcx (sameN_pu _ _ hx hy) ?_) | (refine Wdcx (sameN_pu _ _ hx hy) ?_) | (refine Wcgx (sameN_pu _ _ hx hy) ?_) | (refine Wdcgx (sameN_pu _ _ hx hy) ?_))
    refine endR (end1 (RV.tmp rfl) (Le.bool ?_)); simp
theorem lit_dec {p : Prop} [Decidable p] (h : p) : lit (.bool (decide p)) = lit (.bool true) := by rw [decide_eq_true h]
theorem sameN_t (xs : List Nat) (hx : xs.length ≤ 1000000000) : Pu Tryz.prog 113 [dg xs, dg xs] (lit (.bool true)) := lit_dec (p := xs = xs) rfl ▸ sameN_pu xs xs hx hx
theorem sameI_t (s : Bool) (xs : List Nat) (hx : xs.length ≤ 1000000000) : Pu Tryz.prog 63 [raw s xs, raw s xs] (lit (.bool true)) := lit_dec (p := s = s ∧ xs = xs) ⟨rfl, rfl⟩ ▸ sameI_pu s s xs xs hx hx
theorem sameQ_t (s : Bool) (xs ys : List Nat) (hx : xs.length ≤ 1000000000) (hy : ys.length ≤ 1000000000) : Pu Tryz.prog 112 [qraw s xs ys, qraw s xs ys] (lit (.bool true)) := by
  refine Pu.intro Tryz.func112 rfl (by kernel_rfl) fun C => ?_
  repeat (first | (refine A1 ⟨?_⟩; intros) | (refine Wcx (sameN_t _ hy) ?_) | (refine Wdcx (sameN_t _ hy) ?_) | (refine Wcgx (sameN_t _ hy) ?_) | (refine Wdcgx (sameN_t _ hy) ?_) | (refine Wcx (sameI_t _ _ hx) ?_) | (refine Wdcx (sameI_t _ _ hx) ?_) | (refine Wcgx (sameI_t _ _ hx) ?_) | (refine Wdcgx (sameI_t _ _ hx) ?_))
  ((first | refine endR ?_ | refine endN ?_); exact end1 (RV.tmp rfl) (Le.refl _))
theorem sameq_pu (x : Rat) (h : ht x ≤ 1000000000) : Pu Tryz.prog 112 [q x, q x] (lit (.bool true)) := by
  have h1 := ht_num x
  have h2 := ht_den x
  exact sameQ_t _ _ _ (by have : il x.num = (dgs x.num.natAbs).length := rfl; omega) (by omega)
theorem toQ_pu (x : Rat) (h : ht x ≤ 100000000) : Pu Tryz.prog 38 [rq x] (q x) := by
  have h1 := ht_num x
  have h2 := ht_den x
  refine Pu.intro Tryz.func38 rfl (by kernel_rfl) fun C => ?_
  repeat (first | (refine A1 ⟨?_⟩; intros) | (refine Wcx (toI_pu _ (by omega)) ?_) | (refine Wdcx (toI_pu _ (by omega)) ?_) | (refine Wcgx (toI_pu _ (by omega)) ?_) | (refine Wdcgx (toI_pu _ (by omega)) ?_) | (refine Wcx (rden_pu x) ?_) | (refine Wdcx (rden_pu x) ?_) | (refine Wcgx (rden_pu x) ?_) | (refine Wdcgx (rden_pu x) ?_) | (refine Wcx (toN_pu _ (by omega)) ?_) | (refine Wdcx (toN_pu _ (by omega)) ?_) | (refine Wcgx (toN_pu _ (by omega)) ?_) | (refine Wdcgx (toN_pu _ (by omega)) ?_))
  ((first | refine endR ?_ | refine endN ?_); refine end1 (RV.cellA rfl (by repeat (first | exact List.mem_cons_self | apply List.mem_cons_of_mem)) (by (try simp only [List.drop_succ_cons, List.drop_zero, List.drop_nil, List.take_succ_cons, List.take_zero, List.take_nil, Nat.zero_add, Nat.add_zero, Nat.reduceAdd]) <;> exact rfl) rfl) (Le.refl _))
theorem rq_zero : rq 0 = ag [lit (.bool false), nat 0, dg []] := by rw [rq, show (0 : Rat).num = 0 from rfl, show (0 : Rat).den = 1 from rfl, dden_one]; rfl
theorem q_pu {r : RQ} {L : Nat} (h : r.ok L) (hL : L ≤ 1000000) : Pu Tryz.prog 57 [qr r] (rq r.v) := by
  obtain ⟨h1, h2, h3, h4⟩ := h
  have hl := dlen_val h2
  have hi := il_sv (s := r.s) h1
  by_cases h0 : val r.d = 0
  · have hv : r.v = 0 := by unfold RQ.v; rw [h0]; exact Rat.mkRat_zero _
    rw [hv, rq_zero]
    have hn := n_pu r.d (by omega) h2
    rw [h0] at hn
    have hl0 : (dgs 0).length = 0 := by rw [dgs_zero]; rfl
    refine Pu.intro Tryz.func57 rfl (by kernel_rfl) fun C => ?_
    repeat (first | (refine A1 ⟨?_⟩; intros) | (refine Wcx (hn) ?_) | (refine Wdcx (hn) ?_) | (refine Wcgx (hn) ?_) | (refine Wdcgx (hn) ?_))
    refine endR (end1 (RV.cellA rfl List.mem_cons_self rfl rfl) (Le.ag ⟨Le.refl _, ?_, le_nil, trivial⟩))
    rw [show nat 0 = dg [] from by show dg (dgs 0) = _; rw [dgs_zero]]
    exact le_nil
  · have hp := dgs_len_pos h0
    refine Pu.intro Tryz.func57 rfl (by kernel_rfl) fun C => ?_
    repeat (first | (refine A1 ⟨?_⟩; intros) | (refine Wcx (n_pu r.d (by omega) h2) ?_) | (refine Wdcx (n_pu r.d (by omega) h2) ?_) | (refine Wcgx (n_pu r.d (by omega) h2) ?_) | (refine Wdcgx (n_pu r.d (by omega) h2) ?_) | (refine Wcx (i_pu _ _ (by omega) h1) ?_) | (refine Wdcx (i_pu _ _ (by omega) h1) ?_) | (refine Wcgx (i_pu _ _ (by omega) h1) ?_) | (refine Wdcgx (i_pu _ _ (by omega) h1) ?_) | (refine Wcx (rfrac_pu _ _ (by omega) (by omega) h0) ?_) | (refine Wdcx (rfrac_pu _ _ (by omega) (by omega) h0) ?_) | (refine Wcgx (rfrac_pu _ _ (by omega) (by omega) h0) ?_) | (refine Wdcgx (rfrac_pu _ _ (by omega) (by omega) h0) ?_))
    ((first | refine endR ?_ | refine endN ?_); refine end1 (RV.cellA rfl (by repeat (first | exact List.mem_cons_self | apply List.mem_cons_of_mem)) (by (try simp only [List.drop_succ_cons, List.drop_zero, List.drop_nil, List.take_succ_cons, List.take_zero, List.take_nil, Nat.zero_add, Nat.add_zero, Nat.reduceAdd]) <;> exact rfl) rfl) (Le.refl _))
abbrev rp (x y : Rat) : SV := ag [lit (.bool (decide (x.num < 0))), nat x.num.natAbs, dg (dden x.den), lit (.bool (decide (y.num < 0))), nat y.num.natAbs, dg (dden y.den)]
theorem toP_pu (x y : Rat) (hx : ht x ≤ 100000000) (hy : ht y ≤ 100000000) : Pu Tryz.prog 47 [rp x y] (pq x y) := by
  refine Pu.intro Tryz.func47 rfl (by kernel_rfl) fun C => ?_
  repeat (first | (refine A1 ⟨?_⟩; intros) | (refine Wcx (toQ_pu _ hx) ?_) | (refine Wdcx (toQ_pu _ hx) ?_) | (refine Wcgx (toQ_pu _ hx) ?_) | (refine Wdcgx (toQ_pu _ hx) ?_) | (refine Wcx (toQ_pu _ hy) ?_) | (refine Wdcx (toQ_pu _ hy) ?_) | (refine Wcgx (toQ_pu _ hy) ?_) | (refine Wdcgx (toQ_pu _ hy) ?_))
  ((first | refine endR ?_ | refine endN ?_); refine end1 (RV.cellA rfl (by repeat (first | exact List.mem_cons_self | apply List.mem_cons_of_mem)) (by (try simp only [List.drop_succ_cons, List.drop_zero, List.drop_nil, List.take_succ_cons, List.take_zero, List.take_nil, Nat.zero_add, Nat.add_zero, Nat.reduceAdd]) <;> exact rfl) rfl) (Le.refl _))
theorem sameP_pu (x y : Rat) (hx : ht x ≤ 100000000) (hy : ht y ≤ 100000000) : Pu Tryz.prog 59 [pq x y, pq x y] (lit (.bool true)) := by
  refine Pu.intro Tryz.func59 rfl (by kernel_rfl) fun C => ?_
  repeat (first | (refine A1 ⟨?_⟩; intros) | (refine Wcx (sameq_pu _ (Nat.le_trans hx (by omega))) ?_) | (refine Wdcx (sameq_pu _ (Nat.le_trans hx (by omega))) ?_) | (refine Wcgx (sameq_pu _ (Nat.le_trans hx (by omega))) ?_) | (refine Wdcgx (sameq_pu _ (Nat.le_trans hx (by omega))) ?_) | (refine Wcx (sameq_pu _ (Nat.le_trans hy (by omega))) ?_) | (refine Wdcx (sameq_pu _ (Nat.le_trans hy (by omega))) ?_) | (refine Wcgx (sameq_pu _ (Nat.le_trans hy (by omega))) ?_) | (refine Wdcgx (sameq_pu _ (Nat.le_trans hy (by omega))) ?_))
  ((first | refine endR ?_ | refine endN ?_); exact end1 (RV.tmp rfl) (Le.refl _))
theorem xy_pu (a b : Int) (ha : -9223372036854775808 ≤ a) (ha' : a ≤ 9223372036854775807) (hb : -9223372036854775808 ≤ b) (hb' : b ≤ 9223372036854775807) : Pu Tryz.prog 33 [lit (.int .i64 a), lit (.int .i64 b)] (rp (a : Rat) (b : Rat)) := by
  refine Pu.intro Tryz.func33 rfl (by kernel_rfl) fun C => ?_
  repeat (first | (refine A1 ⟨?_⟩; intros) | (refine Wcx (rof_pu a ha ha') ?_) | (refine Wdcx (rof_pu a ha ha') ?_) | (refine Wcgx (rof_pu a ha ha') ?_) | (refine Wdcgx (rof_pu a ha ha') ?_) | (refine Wcx (rof_pu b hb hb') ?_) | (refine Wdcx (rof_pu b hb hb') ?_) | (refine Wcgx (rof_pu b hb hb') ?_) | (refine Wdcgx (rof_pu b hb hb') ?_))
  ((first | refine endR ?_ | refine endN ?_); refine end1 (RV.cellA rfl (by repeat (first | exact List.mem_cons_self | apply List.mem_cons_of_mem)) (by (try simp only [List.drop_succ_cons, List.drop_zero, List.drop_nil, List.take_succ_cons, List.take_zero, List.take_nil, Nat.zero_add, Nat.add_zero, Nat.reduceAdd]) <;> exact rfl) rfl) (Le.refl _))
theorem gadd_pu (x y k u v : Rat) (hx : ht x ≤ 1000000) (hy : ht y ≤ 1000000) (hk : ht k ≤ 1000000) (hu : ht u ≤ 1000000) (hv : ht v ≤ 1000000) : Pu Tryz.prog 31 [rp x y, rq k, rp u v] (rp (x + k * u) (y + k * v)) := by
  have h1 := ht_mul k u
  have h2 := ht_mul k v
  refine Pu.intro Tryz.func31 rfl (by kernel_rfl) fun C => ?_
  repeat (first | (refine A1 ⟨?_⟩; intros) | (refine Wcx (rtimes_pu k u (by omega) (by omega)) ?_) | (refine Wdcx (rtimes_pu k u (by omega) (by omega)) ?_) | (refine Wcgx (rtimes_pu k u (by omega) (by omega)) ?_) | (refine Wdcgx (rtimes_pu k u (by omega) (by omega)) ?_) | (refine Wcx (rplus_pu x (k * u) (by omega) (by omega)) ?_) | (refine Wdcx (rplus_pu x (k * u) (by omega) (by omega)) ?_) | (refine Wcgx (rplus_pu x (k * u) (by omega) (by omega)) ?_) | (refine Wdcgx (rplus_pu x (k * u) (by omega) (by omega)) ?_) | (refine Wcx (rtimes_pu k v (by omega) (by omega)) ?_) | (refine Wdcx (rtimes_pu k v (by omega) (by omega)) ?_) | (refine Wcgx (rtimes_pu k v (by omega) (by omega)) ?_) | (refine Wdcgx (rtimes_pu k v (by omega) (by omega)) ?_) | (refine Wcx (rplus_pu y (k * v) (by omega) (by omega)) ?_) | (refine Wdcx (rplus_pu y (k * v) (by omega) (by omega)) ?_) | (refine Wcgx (rplus_pu y (k * v) (by omega) (by omega)) ?_) | (refine Wdcgx (rplus_pu y (k * v) (by omega) (by omega)) ?_))
  ((first | refine endR ?_ | refine endN ?_); refine end1 (RV.cellA rfl (by repeat (first | exact List.mem_cons_self | apply List.mem_cons_of_mem)) (by (try simp only [List.drop_succ_cons, List.drop_zero, List.drop_nil, List.take_succ_cons, List.take_zero, List.take_nil, Nat.zero_add, Nat.add_zero, Nat.reduceAdd]) <;> exact rfl) rfl) (Le.refl _))
abbrev rm (m : M6 Rat) : SV := ag [lit (.bool (decide (m.a.num < 0))), nat m.a.num.natAbs, dg (dden m.a.den), lit (.bool (decide (m.b.num < 0))), nat m.b.num.natAbs, dg (dden m.b.den), lit (.bool (decide (m.c.num < 0))), nat m.c.num.natAbs, dg (dden m.c.den),
  lit (.bool (decide (m.d.num < 0))), nat m.d.num.natAbs, dg (dden m.d.den), lit (.bool (decide (m.e.num < 0))), nat m.e.num.natAbs, dg (dden m.e.den), lit (.bool (decide (m.f.num < 0))), nat m.f.num.natAbs, dg (dden m.f.den)]
theorem writeM_pu {m : M6 Rat} {L : Nat} (h : m.le L) (hL : L ≤ 1000000) : Pu Tryz.prog 9 [rm m] (mq m) := by
  obtain ⟨ha, hb, hc, hd, he, hf⟩ := h
  refine Pu.intro Tryz.func9 rfl (by kernel_rfl) fun C => ?_
  repeat (first | (refine A1 ⟨?_⟩; intros) | (refine Wcx (toQ_pu m.a (by omega)) ?_) | (refine Wdcx (toQ_pu m.a (by omega)) ?_) | (refine Wcgx (toQ_pu m.a (by omega)) ?_) | (refine Wdcgx (toQ_pu m.a (by omega)) ?_) | (refine Wcx (toQ_pu m.b (by omega)) ?_) | (refine Wdcx (toQ_pu m.b (by omega)) ?_) | (refine Wcgx (toQ_pu m.b (by omega)) ?_) | (refine Wdcgx (toQ_pu m.b (by omega)) ?_) | (refine Wcx (toQ_pu m.c (by omega)) ?_) | (refine Wdcx (toQ_pu m.c (by omega)) ?_) | (refine Wcgx (toQ_pu m.c (by omega)) ?_) | (refine Wdcgx (toQ_pu m.c (by omega)) ?_) | (refine Wcx (toQ_pu m.d (by omega)) ?_) | (refine Wdcx (toQ_pu m.d (by omega)) ?_) | (refine Wcgx (toQ_pu m.d (by omega)) ?_) | (refine Wdcgx (toQ_pu m.d (by omega)) ?_) | (refine Wcx (toQ_pu m.e (by omega)) ?_) | (refine Wdcx (toQ_pu m.e (by omega)) ?_) | (refine Wcgx (toQ_pu m.e (by omega)) ?_) | (refine Wdcgx (toQ_pu m.e (by omega)) ?_) | (refine Wcx (toQ_pu m.f (by omega)) ?_) | (refine Wdcx (toQ_pu m.f (by omega)) ?_) | (refine Wcgx (toQ_pu m.f (by omega)) ?_) | (refine Wdcgx (toQ_pu m.f (by omega)) ?_))
  ((first | refine endR ?_ | refine endN ?_); refine end1 (RV.cellA rfl (by repeat (first | exact List.mem_cons_self | apply List.mem_cons_of_mem)) (by (try simp only [List.drop_succ_cons, List.drop_zero, List.drop_nil, List.take_succ_cons, List.take_zero, List.take_nil, Nat.zero_add, Nat.add_zero, Nat.reduceAdd]) <;> exact rfl) rfl) (Le.refl _))
theorem mdet_pu {m : M6 Rat} {L : Nat} (h : m.le L) (hL : L ≤ 1000000) : Pu Tryz.prog 17 [rm m] (rq (m.a * m.e - m.b * m.d)) := by
  obtain ⟨ha, hb, hc, hd, he, hf⟩ := h
  have h1 := ht_mul m.a m.e
  have h2 := ht_mul m.b m.d
  refine Pu.intro Tryz.func17 rfl (by kernel_rfl) fun C => ?_
  repeat (first | (refine A1 ⟨?_⟩; intros) | (refine Wcx (rtimes_pu m.a m.e (by omega) (by omega)) ?_) | (refine Wdcx (rtimes_pu m.a m.e (by omega) (by omega)) ?_) | (refine Wcgx (rtimes_pu m.a m.e (by omega) (by omega)) ?_) | (refine Wdcgx (rtimes_pu m.a m.e (by omega) (by omega)) ?_) | (refine Wcx (rtimes_pu m.b m.d (by omega) (by omega)) ?_) | (refine Wdcx (rtimes_pu m.b m.d (by omega) (by omega)) ?_) | (refine Wcgx (rtimes_pu m.b m.d (by omega) (by omega)) ?_) | (refine Wdcgx (rtimes_pu m.b m.d (by omega) (by omega)) ?_) | (refine Wcx (rqsub_pu _ _ (by omega) (by omega)) ?_) | (refine Wdcx (rqsub_pu _ _ (by omega) (by omega)) ?_) | (refine Wcgx (rqsub_pu _ _ (by omega) (by omega)) ?_) | (refine Wdcgx (rqsub_pu _ _ (by omega) (by omega)) ?_))
  ((first | refine endR ?_ | refine endN ?_); refine end1 (RV.cellA rfl (by repeat (first | exact List.mem_cons_self | apply List.mem_cons_of_mem)) (by (try simp only [List.drop_succ_cons, List.drop_zero, List.drop_nil, List.take_succ_cons, List.take_zero, List.take_nil, Nat.zero_add, Nat.add_zero, Nat.reduceAdd]) <;> exact rfl) rfl) (Le.refl _))
theorem mvector_pu {m : M6 Rat} {L : Nat} (h : m.le L) (hL : L ≤ 100000) (x y : Rat) (hx : ht x ≤ L) (hy : ht y ≤ L) : Pu Tryz.prog 117 [rm m, rp x y] (rp (m.a * x + m.b * y) (m.d * x + m.e * y)) := by
  obtain ⟨ha, hb, hc, hd, he, hf⟩ := h
  have h1 := ht_mul m.a x
  have h2 := ht_mul m.b y
  have h3 := ht_mul m.d x
  have h4 := ht_mul m.e y
  refine Pu.intro Tryz.func117 rfl (by kernel_rfl) fun C => ?_
  repeat (first | (refine A1 ⟨?_⟩; intros) | (refine Wcx (rtimes_pu m.a x (by omega) (by omega)) ?_) | (refine Wdcx (rtimes_pu m.a x (by omega) (by omega)) ?_) | (refine Wcgx (rtimes_pu m.a x (by omega) (by omega)) ?_) | (refine Wdcgx (rtimes_pu m.a x (by omega) (by omega)) ?_) | (refine Wcx (rtimes_pu m.b y (by omega) (by omega)) ?_) | (refine Wdcx (rtimes_pu m.b y (by omega) (by omega)) ?_) | (refine Wcgx (rtimes_pu m.b y (by omega) (by omega)) ?_) | (refine Wdcgx (rtimes_pu m.b y (by omega) (by omega)) ?_) | (refine Wcx (rtimes_pu m.d x (by omega) (by omega)) ?_) | (refine Wdcx (rtimes_pu m.d x (by omega) (by omega)) ?_) | (refine Wcgx (rtimes_pu m.d x (by omega) (by omega)) ?_) | (refine Wdcgx (rtimes_pu m.d x (by omega) (by omega)) ?_) | (refine Wcx (rtimes_pu m.e y (by omega) (by omega)) ?_) | (refine Wdcx (rtimes_pu m.e y (by omega) (by omega)) ?_) | (refine Wcgx (rtimes_pu m.e y (by omega) (by omega)) ?_) | (refine Wdcgx (rtimes_pu m.e y (by omega) (by omega)) ?_) | (refine Wcx (rplus_pu _ _ (by omega) (by omega)) ?_) | (refine Wdcx (rplus_pu _ _ (by omega) (by omega)) ?_) | (refine Wcgx (rplus_pu _ _ (by omega) (by omega)) ?_) | (refine Wdcgx (rplus_pu _ _ (by omega) (by omega)) ?_))
  ((first | refine endR ?_ | refine endN ?_); refine end1 (RV.cellA rfl (by repeat (first | exact List.mem_cons_self | apply List.mem_cons_of_mem)) (by (try simp only [List.drop_succ_cons, List.drop_zero, List.drop_nil, List.take_succ_cons, List.take_zero, List.take_nil, Nat.zero_add, Nat.add_zero, Nat.reduceAdd]) <;> exact rfl) rfl) (Le.refl _))
theorem ht_one : ht 1 = 1 := by
  unfold ht
  rw [show (1 : Rat).num = 1 from rfl, show (1 : Rat).den = 1 from rfl]
  unfold il
  rw [show (1 : Int).natAbs = 1 from rfl, dgs_one]; rfl
theorem rof1 : Pu Tryz.prog 26 [lit (.int .i64 1)] (rq 1) := rof_pu 1 (by omega) (by omega)
theorem mapply_pu {m : M6 Rat} {L : Nat} (h : m.le L) (hL : L ≤ 100000) (x y : Rat) (hx : ht x ≤ L) (hy : ht y ≤ L) : Pu Tryz.prog 65 [rm m, rp x y] (rp (m.a * x + m.b * y + m.c) (m.d * x + m.e * y + m.f)) := by
  have hv := mvector_pu h hL x y hx hy
  obtain ⟨ha, hb, hc, hd, he, hf⟩ := h
  have h1 := ht_mul m.a x
  have h2 := ht_mul m.b y
  have h3 := ht_mul m.d x
  have h4 := ht_mul m.e y
  have h5 := ht_add (m.a * x) (m.b * y)
  have h6 := ht_add (m.d * x) (m.e * y)
  have h7 := ht_one
  have ha := gadd_pu (m.a * x + m.b * y) (m.d * x + m.e * y) 1 m.c m.f (by omega) (by omega) (by omega) (by omega) (by omega)
  rw [Rat.one_mul, Rat.one_mul] at ha
  refine Pu.intro Tryz.func65 rfl (by kernel_rfl) fun C => ?_
  repeat (first | (refine A1 ⟨?_⟩; intros) | (refine Wcx (hv) ?_) | (refine Wdcx (hv) ?_) | (refine Wcgx (hv) ?_) | (refine Wdcgx (hv) ?_) | (refine Wcx (rof1) ?_) | (refine Wdcx (rof1) ?_) | (refine Wcgx (rof1) ?_) | (refine Wdcgx (rof1) ?_) | (refine Wcx (ha) ?_) | (refine Wdcx (ha) ?_) | (refine Wcgx (ha) ?_) | (refine Wdcgx (ha) ?_))
  ((first | refine endR ?_ | refine endN ?_); refine end1 (RV.cellA rfl (by repeat (first | exact List.mem_cons_self | apply List.mem_cons_of_mem)) (by (try simp only [List.drop_succ_cons, List.drop_zero, List.drop_nil, List.take_succ_cons, List.take_zero, List.take_nil, Nat.zero_add, Nat.add_zero, Nat.reduceAdd]) <;> exact rfl) rfl) (Le.refl _))
def RQ.short (n : Nat) (r : RQ) : Prop := r.n.length ≤ n ∧ r.d.length ≤ n
instance (n : Nat) (r : RQ) : Decidable (r.short n) := by unfold RQ.short; infer_instance
theorem take_snoc {α : Type} {l : List α} {k : Nat} {a : α} (h : l[k]? = some a) : l.take (k + 1) = l.take k ++ [a] := by
  obtain ⟨h1, h2⟩ := List.getElem?_eq_some_iff.1 h
  rw [List.take_succ_eq_append_getElem h1, h2]
theorem small0 : small 0 := by unfold small; rw [show (0 : Rat).num = 0 from rfl, show (0 : Rat).den = 1 from rfl]; omega
theorem r0_zero : r0 0 = 0 := r0_s small0
theorem r1_zero : r1 0 = 0 := (if_pos small0).trans (by rw [show (0 : Rat).den = 1 from rfl]; rfl)
theorem r2_zero : r2 0 = lit (.pointer none) := if_pos small0
theorem ht_zero : ht 0 = 1 := by
  unfold ht il
  rw [show (0 : Rat).num = 0 from rfl, show (0 : Rat).den = 1 from rfl, show (0 : Int).natAbs = 0 from rfl, dgs_zero, dgs_one]; rfl
theorem ptOf_q (x y : Rat) (hx : ht x ≤ 100000) (hy : ht y ≤ 100000) : Pu Tryz.prog 95 [pq x y] (pp x y) := by
  have := ptOf_pu (RQ.of_ok hx) (RQ.of_ok hy) (by omega)
  rwa [RQ.of_v, RQ.of_v] at this
theorem fint1 : Pu Tryz.prog 84 [lit (.int .i64 1)] (fr 1) := fint_pu 1 (by omega) (by omega)
theorem translation_pu (x y : Rat) (hx : ht x ≤ 10000) (hy : ht y ≤ 10000) : Pu Tryz.prog 55 [pq x y] (mq ⟨1, 0, x, 0, 1, y⟩) := by
  have h0 := ht_zero
  have h1 := ht_one
  have hw := awrite_pu (m := ⟨1, 0, x, 0, 1, y⟩) (L := 10000) ⟨by simp only; omega, by simp only; omega, hx, by simp only; omega, by simp only; omega, hy⟩ (by omega)
  simp only [mf, r0_zero, r1_zero, r2_zero] at hw
  refine Pu.intro Tryz.func55 rfl (by kernel_rfl) fun C => ?_
  repeat (first | (refine A1 ⟨?_⟩; intros) | (refine Wcx (fint1) ?_) | (refine Wdcx (fint1) ?_) | (refine Wcgx (fint1) ?_) | (refine Wdcgx (fint1) ?_) | (refine Wcx (ptOf_q x y (by omega) (by omega)) ?_) | (refine Wdcx (ptOf_q x y (by omega) (by omega)) ?_) | (refine Wcgx (ptOf_q x y (by omega) (by omega)) ?_) | (refine Wdcgx (ptOf_q x y (by omega) (by omega)) ?_) | (refine Wcx (hw) ?_) | (refine Wdcx (hw) ?_) | (refine Wcgx (hw) ?_) | (refine Wdcgx (hw) ?_))
  ((first | refine endR ?_ | refine endN ?_); refine end1 (RV.cellA rfl (by repeat (first | exact List.mem_cons_self | apply List.mem_cons_of_mem)) (by (try simp only [List.drop_succ_cons, List.drop_zero, List.drop_nil, List.take_succ_cons, List.take_zero, List.take_nil, Nat.zero_add, Nat.add_zero, Nat.reduceAdd]) <;> exact rfl) rfl) (Le.refl _))
theorem q_of (x : Rat) (h : ht x ≤ 100000) : Pu Tryz.prog 57 [q x] (rq x) := by
  have := q_pu (RQ.of_ok h) (by omega)
  rwa [RQ.of_v] at this
def M6.of (m : M6 Rat) : M6 RQ := ⟨RQ.of m.a, RQ.of m.b, RQ.of m.c, RQ.of m.d, RQ.of m.e, RQ.of m.f⟩
theorem M6.of_v (m : M6 Rat) : m.of.v = m := by
  unfold M6.of M6.v
  simp only [RQ.of_v]
theorem M6.of_ok {m : M6 Rat} {L : Nat} (h : m.le L) : m.of.ok L := ⟨RQ.of_ok h.a, RQ.of_ok h.b, RQ.of_ok h.c, RQ.of_ok h.d, RQ.of_ok h.e, RQ.of_ok h.f⟩
theorem aDet_q {m : M6 Rat} (h : m.le 10000) : Pu Tryz.prog 58 [mq m] (q (m.a * m.e - m.d * m.b)) := by
  have := aDet_pu (M6.of_ok h) (by omega)
  rwa [M6.of_v] at this
theorem aApply_q {m : M6 Rat} (h : m.le 10000) {x y : Rat} (hx : ht x ≤ 10000) (hy : ht y ≤ 10000) : Pu Tryz.prog 60 [mq m, pq x y] (pq (m.a * x + m.b * y + m.c) (m.d * x + m.e * y + m.f)) := by
  have := aApply_pu (M6.of_ok h) (by omega) (RQ.of_ok hx) (RQ.of_ok hy)
  rwa [M6.of_v, RQ.of_v, RQ.of_v] at this
theorem ht_small (z : Int) (h : z.natAbs < 4294967296) : ht (z : Rat) ≤ 1 := by
  unfold ht
  rw [Rat.num_intCast, Rat.den_intCast, dgs_one]
  have : il z ≤ 1 := len_le (k := 1) (by simpa using h)
  simp; omega
theorem known26 : Pu Tryz.prog 18 [] (lit (.bool true)) := by
  have h0 := ht_zero
  have h1 := ht_one
  have h2 : ht 2 ≤ 1 := ht_small 2 (by omega)
  have h3 : ht 3 ≤ 1 := ht_small 3 (by omega)
  have h4 : ht 4 ≤ 1 := ht_small 4 (by omega)
  have a1 : Pu Tryz.prog 33 [lit (.int .i64 2), lit (.int .i64 3)] (rp 2 3) := xy_pu 2 3 (by omega) (by omega) (by omega) (by omega)
  have a2 : Pu Tryz.prog 33 [lit (.int .i64 1), lit (.int .i64 1)] (rp 1 1) := xy_pu 1 1 (by omega) (by omega) (by omega) (by omega)
  have a3 : Pu Tryz.prog 33 [lit (.int .i64 3), lit (.int .i64 4)] (rp 3 4) := xy_pu 3 4 (by omega) (by omega) (by omega) (by omega)
  have b1 := toP_pu 2 3 (by omega) (by omega)
  have b2 := toP_pu 1 1 (by omega) (by omega)
  have b3 := toP_pu 3 4 (by omega) (by omega)
  have hm : (⟨1, 0, 2, 0, 1, 3⟩ : M6 Rat).le 10000 := ⟨by simp only; omega, by simp only; omega, by simp only; omega, by simp only; omega, by simp only; omega, by simp only; omega⟩
  have c1 := translation_pu 2 3 (by omega) (by omega)
  have d1 := aDet_q hm
  simp only [show (1 : Rat) * 1 - 0 * 0 = 1 from by decide +kernel] at d1
  have d2 := aApply_q hm (x := 1) (y := 1) (by omega) (by omega)
  simp only [show (1 : Rat) * 1 + 0 * 1 + 2 = 3 from by decide +kernel, show (0 : Rat) * 1 + 1 * 1 + 3 = 4 from by decide +kernel] at d2
  have e1 := q_of 1 (by omega)
  have f1 := rc_pu 1 1 (by omega) (by omega)
  rw [show ((1 : Rat) - 1).num.sign = 0 from by decide +kernel] at f1
  have g1 := sameP_pu 3 4 (by omega) (by omega)
  refine Pu.intro Tryz.func18 rfl (by kernel_rfl) fun C => ?_
  repeat (first | (refine A1 ⟨?_⟩; intros) | (refine Wcx (a1) ?_) | (refine Wdcx (a1) ?_) | (refine Wcgx (a1) ?_) | (refine Wdcgx (a1) ?_) | (refine Wcx (a2) ?_) | (refine Wdcx (a2) ?_) | (refine Wcgx (a2) ?_) | (refine Wdcgx (a2) ?_) | (refine Wcx (a3) ?_) | (refine Wdcx (a3) ?_) | (refine Wcgx (a3) ?_) | (refine Wdcgx (a3) ?_) | (refine Wcx (b1) ?_) | (refine Wdcx (b1) ?_) | (refine Wcgx (b1) ?_) | (refine Wdcgx (b1) ?_) | (refine Wcx (b2) ?_) | (refine Wdcx (b2) ?_) | (refine Wcgx (b2) ?_) | (refine Wdcgx (b2) ?_) | (refine Wcx (b3) ?_) | (refine Wdcx (b3) ?_) | (refine Wcgx (b3) ?_) | (refine Wdcgx (b3) ?_) | (refine Wcx (c1) ?_) | (refine Wdcx (c1) ?_) | (refine Wcgx (c1) ?_) | (refine Wdcgx (c1) ?_) | (refine Wcx (d1) ?_) | (refine Wdcx (d1) ?_) | (refine Wcgx (d1) ?_) | (refine Wdcgx (d1) ?_) | (refine Wcx (d2) ?_) | (refine Wdcx (d2) ?_) | (refine Wcgx (d2) ?_) | (refine Wdcgx (d2) ?_) | (refine Wcx (e1) ?_) | (refine Wdcx (e1) ?_) | (refine Wcgx (e1) ?_) | (refine Wdcgx (e1) ?_) | (refine Wcx (rof1) ?_) | (refine Wdcx (rof1) ?_) | (refine Wcgx (rof1) ?_) | (refine Wdcgx (rof1) ?_) | (refine Wcx (f1) ?_) | (refine Wdcx (f1) ?_) | (refine Wcgx (f1) ?_) | (refine Wdcgx (f1) ?_) | (refine Wcx (g1) ?_) | (refine Wdcx (g1) ?_) | (refine Wcgx (g1) ?_) | (refine Wdcgx (g1) ?_))
  ((first | refine endR ?_ | refine endN ?_); exact end1 (RV.tmp rfl) (Le.refl _))
theorem rpart_pu (n : Int) (d : Nat) (h0 : -9223372036854775808 ≤ n) (h1 : n ≤ 9223372036854775807) (hd0 : d ≠ 0) (hd : d ≤ 9223372036854775807) : Pu Tryz.prog 69 [lit (.int .i64 n), lit (.int .i64 d)] (rq (mkRat n d)) := by
  have hn : il n ≤ 2 := len_le (k := 2) (by have : n.natAbs < 18446744073709551616 := by omega
                                            simpa using this)
  have hdl := len_le (n := d) (k := 2) (by simpa using (show d < 18446744073709551616 by omega))
  refine Pu.intro Tryz.func69 rfl (by kernel_rfl) fun C => ?_
  repeat (first | (refine A1 ⟨?_⟩; intros) | (refine Wcx (rint_pu n h0 h1) ?_) | (refine Wdcx (rint_pu n h0 h1) ?_) | (refine Wcgx (rint_pu n h0 h1) ?_) | (refine Wdcgx (rint_pu n h0 h1) ?_) | (refine Wcx (word_pu d (by omega)) ?_) | (refine Wdcx (word_pu d (by omega)) ?_) | (refine Wcgx (word_pu d (by omega)) ?_) | (refine Wdcgx (word_pu d (by omega)) ?_) | (refine Wcx (rfrac_pu n d (by omega) (by omega) hd0) ?_) | (refine Wdcx (rfrac_pu n d (by omega) (by omega) hd0) ?_) | (refine Wcgx (rfrac_pu n d (by omega) (by omega) hd0) ?_) | (refine Wdcgx (rfrac_pu n d (by omega) (by omega) hd0) ?_))
  ((first | refine endR ?_ | refine endN ?_); refine end1 (RV.cellA rfl (by repeat (first | exact List.mem_cons_self | apply List.mem_cons_of_mem)) (by (try simp only [List.drop_succ_cons, List.drop_zero, List.drop_nil, List.take_succ_cons, List.take_zero, List.take_nil, Nat.zero_add, Nat.add_zero, Nat.reduceAdd]) <;> exact rfl) rfl) (Le.refl _))
theorem over_mk (x y : Rat) : mkRat (x.num * sv (decide (y.num < 0)) y.den) (x.den * y.num.natAbs) = x / y := by
  rw [Rat.div_def, ← inv_mk]
  conv => rhs; rw [← Rat.mkRat_self x]
  rw [Rat.mkRat_mul_mkRat]
theorem rover_pu (x y : Rat) (hx : ht x ≤ 3000000) (hy : ht y ≤ 3000000) (h0 : y.num ≠ 0) : Pu Tryz.prog 114 [rq x, rq y] (rq (x / y)) := by
  have n1 := ht_num x
  have n2 := ht_num y
  have d1 := ht_den x
  have d2 := ht_den y
  have e2 : il y.num = (dgs y.num.natAbs).length := rfl
  have m1 := il_mul x.num (sv (decide (y.num < 0)) y.den)
  have e1 : il (sv (decide (y.num < 0)) y.den) = (dgs y.den).length := by unfold il; rw [sv_abs]
  have m4 := dlen_mul x.den y.num.natAbs
  have mi := rmul_int x.num (sv (decide (y.num < 0)) y.den) (show il x.num ≤ 100000000 by omega) (show il _ ≤ 100000000 by omega)
  have fr := rfrac_pu (x.num * sv (decide (y.num < 0)) y.den) (x.den * y.num.natAbs) (by omega) (by omega) (Nat.mul_ne_zero x.den_nz (by omega))
  rw [over_mk] at fr
  refine Pu.intro Tryz.func114 rfl (by kernel_rfl) fun C => ?_
  repeat (first | (refine A1 ⟨?_⟩; intros) | (refine Wcx (rden_pu _) ?_) | (refine Wdcx (rden_pu _) ?_) | (refine Wcgx (rden_pu _) ?_) | (refine Wdcgx (rden_pu _) ?_) | (refine Wcx (rmake_pu _ _ (by omega)) ?_) | (refine Wdcx (rmake_pu _ _ (by omega)) ?_) | (refine Wcgx (rmake_pu _ _ (by omega)) ?_) | (refine Wdcgx (rmake_pu _ _ (by omega)) ?_) | (refine Wcx (mi) ?_) | (refine Wdcx (mi) ?_) | (refine Wcgx (mi) ?_) | (refine Wdcgx (mi) ?_) | (refine Wcx (rprod_pu _ _ (by omega) (by omega)) ?_) | (refine Wdcx (rprod_pu _ _ (by omega) (by omega)) ?_) | (refine Wcgx (rprod_pu _ _ (by omega) (by omega)) ?_) | (refine Wdcgx (rprod_pu _ _ (by omega) (by omega)) ?_) | (refine Wcx (fr) ?_) | (refine Wdcx (fr) ?_) | (refine Wcgx (fr) ?_) | (refine Wdcgx (fr) ?_))
  ((first | refine endR ?_ | refine endN ?_); refine end1 (RV.cellA rfl (by repeat (first | exact List.mem_cons_self | apply List.mem_cons_of_mem)) (by (try simp only [List.drop_succ_cons, List.drop_zero, List.drop_nil, List.take_succ_cons, List.take_zero, List.take_nil, Nat.zero_add, Nat.add_zero, Nat.reduceAdd]) <;> exact rfl) rfl) (Le.refl _))
end Go.Ab
