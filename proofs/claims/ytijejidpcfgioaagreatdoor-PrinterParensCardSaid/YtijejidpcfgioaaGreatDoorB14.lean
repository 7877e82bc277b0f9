/- Texts laid one behind the other: FmtN, LnB, Fmt, Wrt, Node. -/
import Derived.Test.YtijejidpcfgioaaGreatDoorB13
import Derived.Test.YtijejidpcfgioaaGreatDoorB11
import Derived.Test.YtijejidpcfgioaaGreatDoorB05
import Derived.Test.YtijejidpcfgioaaGreatDoorB12
/- Package nat: Format. -/
namespace Go.Ab
open Go.Proofs
set_option linter.unusedSectionVars false
set_option linter.unusedVariables false
set_option linter.unusedSimpArgs false
variable [Base]
theorem mulPow (q m : Nat) : q * 10 ^ (m + 1) = 10 * (q * 10 ^ m) := by rw [Nat.pow_succ, ← Nat.mul_assoc, Nat.mul_comm]
theorem decR_q {q r m : Nat} (h0 : ¬(q = 0 ∧ r = 0)) : decR (q * 10 ^ (m + 1) + r) = UInt8.ofNat (48 + r % 10) :: decR (q * 10 ^ m + r / 10) := by
  have hp : 0 < 10 ^ m := Nat.pow_pos (by omega)
  have e := mulPow q m
  generalize hz : q * 10 ^ m = z at *
  have hne : q * 10 ^ (m + 1) + r ≠ 0 := by
    rw [e]
    intro h
    have hz0 : z = 0 := by omega
    rw [← hz] at hz0
    rcases Nat.mul_eq_zero.1 hz0 with h1 | h1
    · exact h0 ⟨h1, by omega⟩
    · omega
  rw [decR_pos hne, e]
  congr 2
  · omega
  · omega
theorem Own.bytes {l : List UInt8} {s : SV} {H : LH} (hl : l.length ≠ 0) (h : Own 5 1 l.length (bys l) s H) : ∃ b c rest, s = lit (.slice (some ⟨b, 0, none⟩) l.length c) ∧ H = [(b, 5, bys l ++ rest)] := by
  obtain ⟨_, ⟨e, _, _⟩ | ⟨b, c, _, _, rfl, rfl⟩⟩ := h
  · exact absurd e hl
  · exact ⟨b, c, _, rfl, rfl⟩
theorem byte_dec (r : Nat) : [lit (.int .u8 (48 + ((r % 10 : Nat) : Int)))] = bys [UInt8.ofNat (48 + r % 10)] := by
  have e2 : (UInt8.ofNat (48 + r % 10)).toNat = 48 + r % 10 := by rw [UInt8.toNat_ofNat']; omega
  show _ = [lit (.int .u8 (((UInt8.ofNat (48 + r % 10)).toNat : Nat) : Int))]
  rw [e2]
  rfl
set_option maxHeartbeats 1000000 in
theorem formatN_pu (n : Nat) {L : Nat} (hn : (dgs n).length ≤ L) (hL : L ≤ 100000) : Pu Tryz.prog 229 [nat n] (str (dec n)) := by
  have c0 := trim_nat (dgs n) (by omega) (D_dgs n)
  rw [val_dgs] at c0
  have hdl := decR_len hn
  refine Pu.intro Tryz.func229 rfl (by kernel_rfl) fun C => ?_
  repeat (first | (refine A1 ⟨?_⟩; intros) | (refine Wcx (c0) ?_) | (refine Wdcx (c0) ?_) | (refine Wcgx (c0) ?_) | (refine Wdcgx (c0) ?_))
  refine WP.loopS (ι := Nat × List UInt8 × SV × LH) (fun x => x.2.1 ++ decR x.1 = decR n ∧ Own 5 1 x.2.1.length (bys x.2.1) x.2.2.1 x.2.2.2 ∧ (dgs x.1).length ≤ L) (fun x => x.1) (fun x => fm [(0, nat x.1), (3, x.2.2.1)]) (fun x => x.2.2.2) (n, [], lit (.slice none 0 0), [])
    ⟨by rw [List.nil_append], Own.nil _ _, hn⟩ (by (repeat (first | exact LeF.nil _ | refine LeF.cons (Le.refl _) ?_ | refine LeF.cons (Le.int (by omega)) ?_))) (List.nil_sublist _) ?_
  rintro ⟨x, acc, s, Hs⟩ ⟨hx, hown, hxL⟩ K hK
  simp only at hx hown hxL ⊢
  haveI := hown.co
  by_cases hx0 : x = 0
  · subst hx0
    have e : (dgs 0).length = 0 := by rw [dgs_zero]; rfl
    rw [decR_zero, List.append_nil] at hx
    subst hx
    clear hK
    have ed : (decR n).length = 0 ↔ n = 0 := by
      constructor
      · intro h
        by_cases h0 : n = 0
        · exact h0
        · rw [decR_pos h0] at h; cases h
      · rintro rfl; rw [decR_zero]; rfl
    by_cases h0 : n = 0
    · have e2 := ed.2 h0
      unfold dec
      rw [if_pos h0]
      clear ed
      repeat (refine A1 ⟨?_⟩; intros)
      refine Wo (ov_lenOwn hown rfl) ?_
      repeat (refine A1 ⟨?_⟩; intros)
      ((first | refine endR ?_ | refine endN ?_); exact end1 (RV.tmp rfl) (Le.refl _))
    · have e2 : (decR n).length ≠ 0 := fun h => h0 (ed.1 h)
      unfold dec
      rw [if_neg h0]
      obtain ⟨b, c, rest, rfl, rfl⟩ := hown.bytes e2
      clear ed
      generalize hl : decR n = l at *
      repeat (refine A1 ⟨?_⟩; intros)
      refine WfH (reverse_pu b c l rest (by omega)) ?_
      rintro _ _ ⟨rfl, rfl⟩
      simp only [List.cons_append, List.nil_append]
      repeat (refine A1 ⟨?_⟩; intros)
      refine Wo (ov_bytesStr (l := l.reverse) (rest := rest) (c := c) (by kernel_rfl) (by rw [List.length_reverse]; rfl) (by (first | exact List.mem_cons_self | exact (List.mem_cons_of_mem _ List.mem_cons_self) | exact (List.mem_cons_of_mem _ (List.mem_cons_of_mem _ List.mem_cons_self)) | exact (List.mem_cons_of_mem _ (List.mem_cons_of_mem _ (List.mem_cons_of_mem _ List.mem_cons_self))) | exact (List.mem_cons_of_mem _ (List.mem_cons_of_mem _ (List.mem_cons_of_mem _ (List.mem_cons_of_mem _ List.mem_cons_self)))) | exact (List.mem_cons_of_mem _ (List.mem_cons_of_mem _ (List.mem_cons_of_mem _ (List.mem_cons_of_mem _ (List.mem_cons_of_mem _ List.mem_cons_self))))) | exact (List.mem_cons_of_mem _ (List.mem_cons_of_mem _ (List.mem_cons_of_mem _ (List.mem_cons_of_mem _ (List.mem_cons_of_mem _ (List.mem_cons_of_mem _ List.mem_cons_self)))))) | exact (List.mem_cons_of_mem _ (List.mem_cons_of_mem _ (List.mem_cons_of_mem _ (List.mem_cons_of_mem _ (List.mem_cons_of_mem _ (List.mem_cons_of_mem _ (List.mem_cons_of_mem _ List.mem_cons_self))))))))) (LeL.refl _)) ?_
      repeat (refine A1 ⟨?_⟩; intros)
      ((first | refine endR ?_ | refine endN ?_); exact end1 (RV.tmp rfl) (Le.refl _))
  · have e := dgs_ne_nil hx0
    repeat (refine A1 ⟨?_⟩; intros)
    have c1 := short_nat (dgs x) 1000000000 (by omega) (D_dgs x) (by omega) (by omega)
    rw [val_dgs] at c1
    have hq : (dgs (x / 1000000000)).length ≤ L := Nat.le_trans (len_mono (Nat.div_le_self _ _)) hxL
    have hfin : ∀ F' H' acc' s' Hs', acc' ++ decR (x / 1000000000) = decR n → Own 5 1 acc'.length (bys acc') s' Hs' → LeF F' (fm [(0, nat (x / 1000000000)), (3, s')]) → Hs'.Sublist H' → K F' H' := fun F' H' acc' s' Hs' g1 g2 h1 h2 => hK F' H' (x / 1000000000, acc', s', Hs') ⟨g1, g2, hq⟩ (by simp only; omega) h1 h2
    clear hK
    have hz : acc ++ decR (x / 1000000000 * 10 ^ (9 - 0) + x % 1000000000) = decR n := by
      rw [← hx]; congr 2; omega
    have hr : x % 1000000000 < 10 ^ (9 - 0) := by
      show _ < 1000000000; omega
    generalize x % 1000000000 = r at *
    generalize x / 1000000000 = q at *
    repeat (first | (refine A1 ⟨?_⟩; intros) | (refine Wcx (c1) ?_) | (refine Wdcx (c1) ?_) | (refine Wcgx (c1) ?_) | (refine Wdcgx (c1) ?_))
    refine WP.loopS (ι := Nat × Nat × List UInt8 × SV × LH) (fun y => y.1 ≤ 9 ∧ y.2.1 < 10 ^ (9 - y.1) ∧ y.2.2.1 ++ decR (q * 10 ^ (9 - y.1) + y.2.1) = decR n ∧ Own 5 1 y.2.2.1.length (bys y.2.2.1) y.2.2.2.1 y.2.2.2.2) (fun y => 9 - y.1)
      (fun y => fm [(0, nat q), (3, y.2.2.2.1), (4, lit (.int .u32 y.2.1)), (15, lit (.int .i64 y.1))]) (fun y => y.2.2.2.2) (0, r, acc, s, Hs) ⟨by omega, hr, hz, hown⟩ (by (repeat (first | exact LeF.nil _ | refine LeF.cons (Le.refl _) ?_ | refine LeF.cons (Le.int (by omega)) ?_))) (List.Sublist.refl _) ?_
    clear hr hz hown this hx c1
    rintro ⟨k, r, acc, s, Hs⟩ ⟨hk, hr, hz, hown⟩ K2 hK2
    simp only at hk hr hz hown ⊢
    haveI := hown.co
    by_cases hk9 : k = 9
    · subst hk9
      have : r = 0 := by simpa using hr
      subst this
      rw [show q * 10 ^ (9 - 9) + 0 = q from by simp] at hz
      clear hK2 hr
      repeat (refine A1 ⟨?_⟩; intros)
      exact hfin _ _ acc s Hs hz hown (by (repeat (first | exact LeF.nil _ | refine LeF.cons (Le.refl _) ?_ | refine LeF.cons (Le.int (by omega)) ?_))) (List.Sublist.refl _)
    · obtain ⟨m, hm⟩ : ∃ m, 9 - k = m + 1 := ⟨8 - k, by omega⟩
      have hm' : 9 - (k + 1) = m := by omega
      rw [hm] at hr hz
      have hrb : r < 1000000000 := Nat.lt_of_lt_of_le hr (show 10 ^ (m + 1) ≤ 10 ^ 9 from Nat.pow_le_pow_right (by omega) (by omega))
      have hal : acc.length ≤ 10 * L := by
        have h2 := congrArg List.length hz
        simp only [List.length_append] at h2
        omega
      by_cases hqr : q = 0 ∧ r = 0
      · obtain ⟨rfl, rfl⟩ := hqr
        have e : (dgs 0).length = 0 := by rw [dgs_zero]; rfl
        rw [Nat.zero_mul] at hz
        clear hK2 hr
        repeat (refine A1 ⟨?_⟩; intros)
        exact hfin _ _ acc s Hs hz hown (by (repeat (first | exact LeF.nil _ | refine LeF.cons (Le.refl _) ?_ | refine LeF.cons (Le.int (by omega)) ?_))) (List.Sublist.refl _)
      · rw [decR_q hqr] at hz
        have hr1 : r / 10 < 10 ^ m := by
          rw [Nat.pow_succ] at hr; omega
        have hz1 : (acc ++ [UInt8.ofNat (48 + r % 10)]) ++ decR (q * 10 ^ m + r / 10) = decR n := by rw [← hz]; simp
        have hfin2 : ∀ F' H' s' Hs', Own 5 1 (acc.length + 1) (bys acc ++ bys [UInt8.ofNat (48 + r % 10)]) s' Hs' → LeF F' (fm [(0, nat q), (3, s'), (4, lit (.int .u32 (r / 10 : Nat))), (15, lit (.int .i64 (k + 1 : Nat)))]) → Hs'.Sublist H' → K2 F' H' := fun F' H' s' Hs' g h1 h2 => hK2 F' H' (k + 1, r / 10, acc ++ [UInt8.ofNat (48 + r % 10)], s', Hs') ⟨by simp only; omega, by simp only; rw [hm']; exact hr1, by simp only; rw [hm']; exact hz1, by simp only; rw [List.length_append, bys_append]; exact g⟩ (by simp only; omega) h1 h2
        clear hK2 hz hz1 hr hfin
        by_cases hq0 : q = 0
        · have hr0 : r ≠ 0 := fun h => hqr ⟨hq0, h⟩
          subst hq0
          have e : (dgs 0).length = 0 := by rw [dgs_zero]; rfl
          clear hqr
          repeat (refine A1 ⟨?_⟩; intros)
          refine Wown hown (by omega) (fun s1 H1 o1 => ?_)
          rw [byte_dec r] at o1
          haveI := o1.co
          have ht : (r : Int).tdiv 10 = ((r / 10 : Nat) : Int) := (Int.ofNat_tdiv r 10).symm
          repeat (refine A1 ⟨?_⟩; intros)
          exact hfin2 _ _ s1 H1 o1 (by (repeat (first | exact LeF.nil _ | refine LeF.cons (Le.refl _) ?_ | refine LeF.cons (Le.int (by omega)) ?_))) (List.sublist_cons_self _ _)
        · have e := dgs_ne_nil hq0
          clear hqr
          repeat (refine A1 ⟨?_⟩; intros)
          refine Wown hown (by omega) (fun s1 H1 o1 => ?_)
          rw [byte_dec r] at o1
          haveI := o1.co
          have ht : (r : Int).tdiv 10 = ((r / 10 : Nat) : Int) := (Int.ofNat_tdiv r 10).symm
          repeat (refine A1 ⟨?_⟩; intros)
          exact hfin2 _ _ s1 H1 o1 (by (repeat (first | exact LeF.nil _ | refine LeF.cons (Le.refl _) ?_ | refine LeF.cons (Le.int (by omega)) ?_))) (List.sublist_cons_self _ _)
end Go.Ab
/- Packages frac, geo, affine: comparisons; lines: reading, writing, making, images. -/
namespace Go.Ab
open Go.Proofs
set_option linter.unusedSectionVars false
set_option linter.unusedVariables false
set_option linter.unusedSimpArgs false
variable [Base]
theorem sub_sign_zero {x y : Rat} : (x - y).num.sign = 0 ↔ x = y := by
  rw [Int.sign_eq_zero_iff_zero, Rat.num_eq_zero]
  constructor
  · intro h; have := congrArg (· + y) h; simp only [Rat.sub_eq_add_neg, Rat.add_assoc, Rat.neg_add_cancel, Rat.add_zero, Rat.zero_add] at this; exact this
  · intro h; rw [h, Rat.sub_self]
structure Li.le (l : Li) (L : Nat) : Prop where
  a : il l.a ≤ L
  b : il l.b ≤ L
  c : il l.c ≤ L
end Go.Ab
/- Packages integer, frac, rational: texts. -/
namespace Go.Ab
open Go.Proofs
set_option linter.unusedSectionVars false
set_option linter.unusedVariables false
set_option linter.unusedSimpArgs false
variable [Base]
theorem formatI_pu (z : Int) {L : Nat} (hz : il z ≤ L) (hL : L ≤ 10000) : Pu Tryz.prog 257 [int z] (str (if z < 0 then [45] ++ dec z.natAbs else dec z.natAbs)) := by
  have e1 : il z = (dgs z.natAbs).length := rfl
  have c := sign_raw (decide (z < 0)) (dgs z.natAbs) (by omega) (D_dgs _)
  rw [val_dgs, sv_int] at c
  have c1 := formatN_pu z.natAbs (L := L) (by omega) (by omega)
  have hl := dec_len (n := z.natAbs) (L := L) (by omega)
  generalize dec z.natAbs = s at *
  have k1 : ([45] : List UInt8).length = 1 := rfl
  by_cases h : z < 0
  · rw [Int.sign_eq_neg_one_of_neg h] at c
    rw [if_pos h]
    refine Pu.intro Tryz.func257 rfl (by kernel_rfl) fun C => ?_
    repeat (first | (refine A1 ⟨?_⟩; intros) | (refine Wcx (c) ?_) | (refine Wdcx (c) ?_) | (refine Wcgx (c) ?_) | (refine Wdcgx (c) ?_) | (refine Wcx (c1) ?_) | (refine Wdcx (c1) ?_) | (refine Wcgx (c1) ?_) | (refine Wdcgx (c1) ?_))
    ((first | refine endR ?_ | refine endN ?_); exact end1 (RV.tmp rfl) (Le.refl _))
  · obtain ⟨hs, hs2⟩ : 0 ≤ z.sign ∧ z.sign ≤ 1 := by
      rcases Int.lt_trichotomy z 0 with h0 | h0 | h0
      · omega
      · rw [h0]; decide
      · rw [Int.sign_eq_one_of_pos h0]; omega
    generalize z.sign = g at *
    rw [if_neg h]
    refine Pu.intro Tryz.func257 rfl (by kernel_rfl) fun C => ?_
    repeat (first | (refine A1 ⟨?_⟩; intros) | (refine Wcx (c) ?_) | (refine Wdcx (c) ?_) | (refine Wcgx (c) ?_) | (refine Wdcgx (c) ?_) | (refine Wcx (c1) ?_) | (refine Wdcx (c1) ?_) | (refine Wcgx (c1) ?_) | (refine Wdcgx (c1) ?_))
    ((first | refine endR ?_ | refine endN ?_); exact end1 (RV.tmp rfl) (Le.refl _))
theorem rwhole_pu (x : Rat) (h : ht x ≤ 10000000) : Pu Tryz.prog 259 [fr x] (lit (.bool (decide (x.den = 1)))) := by
  have b1 := ht_den x
  by_cases hs : small x
  · rw [fr_s hs]
    have h1 := hs.2
    by_cases h2 : x.den = 1
    · rw [decide_eq_true h2, h2]
      refine Pu.intro Tryz.func259 rfl (by kernel_rfl) fun C => ?_
      repeat (refine A1 ⟨?_⟩; intros)
      ((first | refine endR ?_ | refine endN ?_); exact end1 (RV.tmp rfl) (Le.refl _))
    · rw [decide_eq_false h2]
      have h3 := x.den_nz
      refine Pu.intro Tryz.func259 rfl (by kernel_rfl) fun C => ?_
      repeat (refine A1 ⟨?_⟩; intros)
      ((first | refine endR ?_ | refine endN ?_); exact end1 (RV.tmp rfl) (Le.refl _))
  · rw [fr_b hs]
    have c := bits_nat (dgs x.den) (by omega) (D_dgs _)
    rw [val_dgs] at c
    have h1 := blen_1 (n := x.den)
    by_cases h2 : x.den = 1
    · have h3 := h1.2 h2
      rw [decide_eq_true h2]
      refine Pu.intro Tryz.func259 rfl (by kernel_rfl) fun C => ?_
      repeat (first | (refine A1 ⟨?_⟩; intros) | (refine Wcx (c) ?_) | (refine Wdcx (c) ?_) | (refine Wcgx (c) ?_) | (refine Wdcgx (c) ?_))
      ((first | refine endR ?_ | refine endN ?_); exact end1 (RV.tmp rfl) (Le.refl _))
    · have h3 : blen x.den ≠ 1 := fun h => h2 (h1.1 h)
      rw [decide_eq_false h2]
      refine Pu.intro Tryz.func259 rfl (by kernel_rfl) fun C => ?_
      repeat (first | (refine A1 ⟨?_⟩; intros) | (refine Wcx (c) ?_) | (refine Wdcx (c) ?_) | (refine Wcgx (c) ?_) | (refine Wdcgx (c) ?_))
      ((first | refine endR ?_ | refine endN ?_); exact end1 (RV.tmp rfl) (Le.refl _))
theorem string_pu (x : Rat) {L : Nat} (hx : ht x ≤ L) (hL : L ≤ 10000) : Pu Tryz.prog 231 [fr x] (str (fmt x)) := by
  have n1 := ht_num x
  have n2 := ht_den x
  have a1 := num_pu x (by omega)
  have a2 := den_pu x (by omega)
  have a3 := rwhole_pu x (by omega)
  have c1 := formatI_pu x.num (L := L) (by omega) (by omega)
  have c2 := formatN_pu x.den (L := L) (by omega) (by omega)
  have l1 := dec_len (n := x.num.natAbs) (L := L) (show il x.num ≤ L by omega)
  have l2 := dec_len (n := x.den) (L := L) (by omega)
  have k1 : ([45] : List UInt8).length = 1 := rfl
  have k2 : ([47] : List UInt8).length = 1 := rfl
  unfold fmt
  have l3 : (if x.num < 0 then [45] ++ dec x.num.natAbs else dec x.num.natAbs).length ≤ 10 * L + 2 := by
    split
    · rw [List.length_append, k1]; omega
    · omega
  generalize (if x.num < 0 then [45] ++ dec x.num.natAbs else dec x.num.natAbs) = D1 at *
  generalize hD2 : dec x.den = D2 at *
  have k3 : ([47] ++ D2).length = D2.length + 1 := by simp
  by_cases h2 : x.den = 1
  · rw [if_pos h2, List.append_nil]
    rw [decide_eq_true h2] at a3
    refine Pu.intro Tryz.func231 rfl (by kernel_rfl) fun C => ?_
    repeat (first | (refine A1 ⟨?_⟩; intros) | (refine Wcx (a1) ?_) | (refine Wdcx (a1) ?_) | (refine Wcgx (a1) ?_) | (refine Wdcgx (a1) ?_) | (refine Wcx (a2) ?_) | (refine Wdcx (a2) ?_) | (refine Wcgx (a2) ?_) | (refine Wdcgx (a2) ?_) | (refine Wcx (a3) ?_) | (refine Wdcx (a3) ?_) | (refine Wcgx (a3) ?_) | (refine Wdcgx (a3) ?_) | (refine Wcx (c1) ?_) | (refine Wdcx (c1) ?_) | (refine Wcgx (c1) ?_) | (refine Wdcgx (c1) ?_) | (refine Wcx (c2) ?_) | (refine Wdcx (c2) ?_) | (refine Wcgx (c2) ?_) | (refine Wdcgx (c2) ?_))
    ((first | refine endR ?_ | refine endN ?_); exact end1 (RV.tmp rfl) (Le.refl _))
  · rw [if_neg h2]
    rw [decide_eq_false h2] at a3
    refine Pu.intro Tryz.func231 rfl (by kernel_rfl) fun C => ?_
    repeat (first | (refine A1 ⟨?_⟩; intros) | (refine Wcx (a1) ?_) | (refine Wdcx (a1) ?_) | (refine Wcgx (a1) ?_) | (refine Wdcgx (a1) ?_) | (refine Wcx (a2) ?_) | (refine Wdcx (a2) ?_) | (refine Wcgx (a2) ?_) | (refine Wdcgx (a2) ?_) | (refine Wcx (a3) ?_) | (refine Wdcx (a3) ?_) | (refine Wcgx (a3) ?_) | (refine Wdcgx (a3) ?_) | (refine Wcx (c1) ?_) | (refine Wdcx (c1) ?_) | (refine Wcgx (c1) ?_) | (refine Wdcgx (c1) ?_) | (refine Wcx (c2) ?_) | (refine Wdcx (c2) ?_) | (refine Wcgx (c2) ?_) | (refine Wdcgx (c2) ?_))
    ((first | refine endR ?_ | refine endN ?_); exact end1 (RV.tmp rfl) (Le.refl _))
theorem formatQ_pu (x : Rat) {L : Nat} (hx : ht x ≤ L) (hL : L ≤ 10000) : Pu Tryz.prog 201 [q x] (str (fmt x)) := by
  have n1 := ht_num x
  have n2 := ht_den x
  have e1 : il x.num = (dgs x.num.natAbs).length := rfl
  have c1 := of_raw (decide (x.num < 0)) (dgs x.num.natAbs) (dgs x.den) (by omega) (by omega) (D_dgs _) (D_dgs _)
  rw [val_dgs, val_dgs, sv_int, Rat.mkRat_self] at c1
  have c2 := string_pu x hx hL
  refine Pu.intro Tryz.func201 rfl (by kernel_rfl) fun C => ?_
  repeat (first | (refine A1 ⟨?_⟩; intros) | (refine Wcx (c1) ?_) | (refine Wdcx (c1) ?_) | (refine Wcgx (c1) ?_) | (refine Wdcgx (c1) ?_) | (refine Wcx (c2) ?_) | (refine Wdcx (c2) ?_) | (refine Wcgx (c2) ?_) | (refine Wdcgx (c2) ?_))
  ((first | refine endR ?_ | refine endN ?_); exact end1 (RV.tmp rfl) (Le.refl _))
end Go.Ab
/- Package grammar: numbers and points into the writer. -/
namespace Go.Ab
open Go.Proofs
set_option linter.unusedSectionVars false
set_option linter.unusedVariables false
set_option linter.unusedSimpArgs false
variable [Base]
/-- a writer at w that has written l -/
def Wtr (w : Nat) (l : List UInt8) (d : Nat) (H : LH) : Prop := ∃ a s Hb, (a = fresh ∨ a = self w) ∧ Byt l s Hb ∧ H = (w, 190, wrC a s d false) :: Hb
theorem putW_pu {w b d : Nat} {l : List UInt8} {H : LH} (h : Wtr w l d H) (t : List UInt8) (hl : l.length + t.length ≤ 1000000000) :
    PuH Tryz.prog 89 [lit (.pointer (some ⟨w, 0, none⟩)), lit (.slice (some ⟨b, 0, none⟩) 1 1)] ((b, 9, [str t]) :: H) (fun r H' => r = Ab.tup [] ∧ Wtr w (l ++ t) d H') noX := by
  obtain ⟨a, s, Hb, ha, hb, rfl⟩ := h
  exact (put1_pu ha hb t hl d false).mono (fun r H' => by
    rintro ⟨s', Hb', hb', rfl, rfl⟩
    exact ⟨rfl, _, _, _, .inr rfl, hb', rfl⟩) fun _ _ h => h
theorem digits_pu (w n : Nat) (hn : (dgs n).length ≤ 300) : PuH Tryz.prog 200 [lit (.pointer (some ⟨w, 0, none⟩)), nat n] [] (fun r H' => r = Ab.tup [] ∧ H' = []) noX := by
  have c := bits_nat (dgs n) (by omega) (D_dgs _)
  have hb := blen_val (D_dgs n)
  rw [val_dgs] at c hb
  refine PuH.intro Tryz.func200 rfl (by kernel_rfl) fun C hC => ?_
  repeat (first | (refine A1 ⟨?_⟩; intros) | (refine Wcx (c) ?_) | (refine Wdcx (c) ?_) | (refine Wcgx (c) ?_) | (refine Wdcgx (c) ?_))
  exact endHN _ _ end0 (List.Sublist.refl _) ⟨rfl, rfl⟩
theorem rational_pu {w d : Nat} {l : List UInt8} {H : LH} (h : Wtr w l d H) (r : RQ) {L : Nat} (hr : r.ok L) (hL : L ≤ 200) (hl : l.length ≤ 100000000) :
    PuH Tryz.prog 171 [lit (.pointer (some ⟨w, 0, none⟩)), qr r] H (fun r' H' => nrmQ r = true ∧ r' = Ab.tup [] ∧ Wtr w (l ++ fmt r.v) d H') (fun pv _ => nrmQ r = false ∧ pv = inval) := by
  have c0 := fnormal_pu hr (by omega)
  have c1 : Pu Tryz.prog 199 [qr r] (lit (.bool (nrmQ r))) := by
    refine Pu.intro Tryz.func199 rfl (by kernel_rfl) fun C => ?_
    repeat (first | (refine A1 ⟨?_⟩; intros) | (refine Wcx (c0) ?_) | (refine Wdcx (c0) ?_) | (refine Wcgx (c0) ?_) | (refine Wdcgx (c0) ?_))
    ((first | refine endR ?_ | refine endN ?_); exact end1 (RV.tmp rfl) (Le.refl _))
  clear c0
  have hht := ht_v hr
  cases hn : nrmQ r with
  | false =>
    rw [hn] at c1
    refine PuH.intro Tryz.func171 rfl (by kernel_rfl) fun C hC => ?_
    repeat (first | (refine A1 ⟨?_⟩; intros) | (refine Wcx (c1) ?_) | (refine Wdcx (c1) ?_) | (refine Wcgx (c1) ?_) | (refine Wdcgx (c1) ?_))
    refine WneedF ?_
    rw [hC]
    exact ⟨rfl, rfl⟩
  | true =>
    rw [hn] at c1
    rw [nrmQ_q hn] at c1 ⊢
    have n1 := ht_num r.v
    have n2 := ht_den r.v
    have e1 : il r.v.num = (dgs r.v.num.natAbs).length := rfl
    have c2 := formatQ_pu r.v hht (by omega)
    have hf := fmt_len hht
    generalize r.v = x at *
    refine PuH.intro Tryz.func171 rfl (by kernel_rfl) fun C hC => ?_
    repeat (first | (refine A1 ⟨?_⟩; intros) | (refine Wcx (c1) ?_) | (refine Wdcx (c1) ?_) | (refine Wcgx (c1) ?_) | (refine Wdcgx (c1) ?_))
    refine WneedT ?_
    repeat (refine A1 ⟨?_⟩; intros)
    refine WfH (digits_pu w x.num.natAbs (by omega)) ?_
    rintro _ _ ⟨rfl, rfl⟩
    simp only [List.cons_append, List.nil_append]
    repeat (refine A1 ⟨?_⟩; intros)
    refine WfH (digits_pu w x.den (by omega)) ?_
    rintro _ _ ⟨rfl, rfl⟩
    simp only [List.cons_append, List.nil_append]
    repeat (first | (refine A1 ⟨?_⟩; intros) | (refine Wcx (c2) ?_) | (refine Wdcx (c2) ?_) | (refine Wcgx (c2) ?_) | (refine Wdcgx (c2) ?_))
    refine WfH (putW_pu h (fmt x) (by omega)) ?_
    rintro _ _ ⟨rfl, h'⟩
    repeat (refine A1 ⟨?_⟩; intros)
    exact endHN _ _ end0 (List.sublist_append_left _ _) ⟨by trivial, rfl, h'⟩
def ptxt (a b : RQ) : List UInt8 := [40] ++ fmt a.v ++ [44] ++ fmt b.v ++ [41]
theorem ptxt_len {a b : RQ} {L : Nat} (ha : a.ok L) (hb : b.ok L) : (ptxt a b).length ≤ 40 * L + 60 := by
  have h1 := fmt_len (ht_v ha)
  have h2 := fmt_len (ht_v hb)
  unfold ptxt
  simp only [List.length_append, List.length_cons, List.length_nil]
  omega
theorem point_pu {w d : Nat} {l : List UInt8} {H : LH} (h : Wtr w l d H) (a b : RQ) {L : Nat} (ha : a.ok L) (hb : b.ok L) (hL : L ≤ 200) (hl : l.length ≤ 90000000) :
    PuH Tryz.prog 131 [lit (.pointer (some ⟨w, 0, none⟩)), pr a b] H (fun r' H' => (nrmQ a && nrmQ b) = true ∧ r' = Ab.tup [] ∧ Wtr w (l ++ ptxt a b) d H') (fun pv _ => (nrmQ a && nrmQ b) = false ∧ pv = inval) := by
  have h1 := fmt_len (ht_v ha)
  have h2 := fmt_len (ht_v hb)
  have k1 : ([40] : List UInt8).length = 1 := rfl
  have k2 : ([44] : List UInt8).length = 1 := rfl
  have k3 : ([41] : List UInt8).length = 1 := rfl
  refine PuH.intro Tryz.func131 rfl (by kernel_rfl) fun C hC => ?_
  repeat (refine A1 ⟨?_⟩; intros)
  refine WfH (putW_pu h [40] (by omega)) ?_
  rintro _ _ ⟨rfl, g1⟩
  refine WPL.perm List.perm_append_comm ?_
  simp only [List.cons_append, List.nil_append]
  repeat (refine A1 ⟨?_⟩; intros)
  refine WfX (rational_pu g1 a ha hL (by rw [List.length_append]; omega)) ?_ ?_
  · rintro _ _ ⟨n1, rfl, g2⟩
    simp only [List.cons_append, List.nil_append]
    repeat (refine A1 ⟨?_⟩; intros)
    have hl2 : (l ++ [40] ++ fmt a.v).length ≤ l.length + 20 * (L + 1) + 5 := by
      rw [List.length_append, List.length_append]; omega
    refine WfH (putW_pu g2 [44] (by omega)) ?_
    rintro _ _ ⟨rfl, g3⟩
    refine WPL.perm List.perm_append_comm ?_
    simp only [List.cons_append, List.nil_append]
    repeat (refine A1 ⟨?_⟩; intros)
    refine WfX (rational_pu g3 b hb hL (by rw [List.length_append]; omega)) ?_ ?_
    · rintro _ _ ⟨n2, rfl, g4⟩
      simp only [List.cons_append, List.nil_append]
      repeat (refine A1 ⟨?_⟩; intros)
      refine WfH (putW_pu g4 [41] (by rw [List.length_append, List.length_append]; omega)) ?_
      rintro _ _ ⟨rfl, g5⟩
      repeat (refine A1 ⟨?_⟩; intros)
      exact endHN _ _ end0 (List.sublist_append_left _ _) ⟨by rw [n1, n2]; rfl, rfl, by simpa only [ptxt, List.append_assoc] using g5⟩
    · rintro _ _ ⟨n2, rfl⟩
      rw [hC]
      exact ⟨by rw [n1, n2]; rfl, rfl⟩
  · rintro _ _ ⟨n1, rfl⟩
    rw [hC]
    exact ⟨by rw [n1]; rfl, rfl⟩
/-- two points, each behind a blank -/
def ptxt2 (a b c e : RQ) : List UInt8 := [32] ++ ptxt a b ++ ([32] ++ ptxt c e)
theorem points_pu {w d bp : Nat} {l : List UInt8} {H : LH} (h : Wtr w l d H) (a b c e : RQ) {L : Nat} (ha : a.ok L) (hb : b.ok L) (hc : c.ok L) (he : e.ok L) (hL : L ≤ 200) (hl : l.length ≤ 80000000) :
    PuH Tryz.prog 129 [lit (.pointer (some ⟨w, 0, none⟩)), lit (.slice (some ⟨bp, 0, none⟩) 2 2)]
      ((bp, 33, [lit (.bool a.s), dg a.n, dg a.d, lit (.bool b.s), dg b.n, dg b.d, lit (.bool c.s), dg c.n, dg c.d, lit (.bool e.s), dg e.n, dg e.d]) :: H)
      (fun r' H' => (nrmQ a && nrmQ b && (nrmQ c && nrmQ e)) = true ∧ r' = Ab.tup [] ∧ Wtr w (l ++ ptxt2 a b c e) d H') (fun pv _ => (nrmQ a && nrmQ b && (nrmQ c && nrmQ e)) = false ∧ pv = inval) := by
  have h1 := ptxt_len ha hb
  have h2 := ptxt_len hc he
  have k1 : ([32] : List UInt8).length = 1 := rfl
  refine PuH.intro Tryz.func129 rfl (by kernel_rfl) fun C hC => ?_
  repeat (refine A1 ⟨?_⟩; intros)
  refine WneedT ?_
  repeat (refine A1 ⟨?_⟩; intros)
  refine WP.unroll 3 ?_
  refine WPR.succ ?_
  repeat (refine A1 ⟨?_⟩; intros)
  refine WfH (putW_pu h [32] (by omega)) ?_
  rintro _ _ ⟨rfl, g1⟩
  refine WPL.perm List.perm_append_comm ?_
  simp only [List.cons_append, List.nil_append]
  repeat (refine A1 ⟨?_⟩; intros)
  refine WfX (point_pu g1 a b ha hb hL (by rw [List.length_append]; omega)) ?_ ?_
  · rintro _ _ ⟨n1, rfl, g2⟩
    simp only [List.cons_append, List.nil_append]
    repeat (refine A1 ⟨?_⟩; intros)
    have hl2 : (l ++ [32] ++ ptxt a b).length = l.length + 1 + (ptxt a b).length := by
      rw [List.length_append, List.length_append]; omega
    refine WfH (putW_pu g2 [32] (by omega)) ?_
    rintro _ _ ⟨rfl, g3⟩
    refine WPL.perm List.perm_append_comm ?_
    simp only [List.cons_append, List.nil_append]
    repeat (refine A1 ⟨?_⟩; intros)
    refine WfX (point_pu g3 c e hc he hL (by rw [List.length_append]; omega)) ?_ ?_
    · rintro _ _ ⟨n2, rfl, g4⟩
      simp only [List.cons_append, List.nil_append]
      repeat (refine A1 ⟨?_⟩; intros)
      refine endHN _ _ end0 ?_ ⟨by rw [n1, n2]; rfl, rfl, by simpa only [ptxt2, List.append_assoc] using g4⟩
      repeat (first | exact List.Sublist.refl _ | refine List.Sublist.cons _ ?_)
    · rintro _ _ ⟨n2, rfl⟩
      rw [hC]
      exact ⟨by rw [n1, n2]; rfl, rfl⟩
  · rintro _ _ ⟨n1, rfl⟩
    rw [hC]
    exact ⟨by rw [n1]; rfl, rfl⟩
end Go.Ab
/- Parts of an expression: the checks of one part, program and reference. -/
namespace Go.Ab
open Go.Proofs
set_option linter.unusedSectionVars false
set_option linter.unusedVariables false
set_option linter.unusedSimpArgs false
variable [Base]
/-- one part of an expression's list: kind, name, two points (From: a b, Way: c e), operator, children, line and column -/
structure Nd where
  k : Int
  nm : List UInt8
  a : RQ
  b : RQ
  c : RQ
  e : RQ
  op : Int
  x : Int
  y : Int
  ln : Int
  cl : Int
def i64R (z : Int) : Prop := -9223372036854775808 ≤ z ∧ z ≤ 9223372036854775807
/-- its cells -/
abbrev ndx (n : Nd) : List SV := [lit (.int .i64 n.k), str n.nm, lit (.bool n.a.s), dg n.a.n, dg n.a.d, lit (.bool n.b.s), dg n.b.n, dg n.b.d, lit (.bool n.c.s), dg n.c.n, dg n.c.d, lit (.bool n.e.s), dg n.e.n, dg n.e.d, lit (.int .i64 n.op), lit (.int .i64 n.x), lit (.int .i64 n.y), lit (.int .i64 n.ln), lit (.int .i64 n.cl)]
/-- in bounds: small numbers, a short name -/
structure Nd.ok (L : Nat) (n : Nd) : Prop where
  a : n.a.ok L
  b : n.b.ok L
  c : n.c.ok L
  e : n.e.ok L
  nm : n.nm.length ≤ 100
def zq (r : RQ) : Bool := !r.s && decide (r.n.length = 0) && decide (r.d.length = 0)
def zp (a b : RQ) : Bool := zq a && zq b
/-- the fields that its kind does not use are empty -/
def okN (n : Nd) : Bool :=
  (decide (1 ≤ n.k) && decide (n.k ≤ 6)) && (decide (n.k = 1) || decide (n.nm.length = 0)) && (decide (n.k = 4) || (zp n.a n.b && zp n.c n.e)) && ((decide (n.k = 6) && decide (1 ≤ n.op) && decide (n.op ≤ 4)) || (decide (n.k ≠ 6) && decide (n.op = 0))) && (decide (n.k = 6) || decide (n.y = 0)) && ((decide (n.k = 6) || decide (n.k = 5)) || decide (n.x = 0))
theorem zeroRat_pu (r : RQ) {L : Nat} (h : r.ok L) (hL : L ≤ 1000) : Pu Tryz.prog 197 [qr r] (lit (.bool (zq r))) := by
  obtain ⟨_, _, h1, h2⟩ := h
  show Pu _ _ [ag [lit (.bool r.s), dg r.n, dg r.d]] _
  cases hs : r.s with
  | true =>
    rw [show zq r = false from by unfold zq; rw [hs]; rfl]
    refine Pu.intro Tryz.func197 rfl (by kernel_rfl) fun C => ?_
    repeat (refine A1 ⟨?_⟩; intros)
    ((first | refine endR ?_ | refine endN ?_); exact end1 (RV.tmp rfl) (Le.refl _))
  | false =>
    by_cases hn : r.n.length = 0 ∧ r.d.length = 0
    · obtain ⟨hn1, hn2⟩ := hn
      rw [show zq r = true from by unfold zq; rw [hs, decide_eq_true hn1, decide_eq_true hn2]; rfl]
      refine Pu.intro Tryz.func197 rfl (by kernel_rfl) fun C => ?_
      repeat (refine A1 ⟨?_⟩; intros)
      ((first | refine endR ?_ | refine endN ?_); exact end1 (RV.tmp rfl) (Le.refl _))
    · rw [show zq r = false from by unfold zq; rw [hs, Bool.not_false, Bool.true_and, ← Bool.decide_and]; exact decide_eq_false hn]
      have hn' : r.n.length + r.d.length ≠ 0 := by omega
      clear hn
      refine Pu.intro Tryz.func197 rfl (by kernel_rfl) fun C => ?_
      repeat (refine A1 ⟨?_⟩; intros)
      ((first | refine endR ?_ | refine endN ?_); exact end1 (RV.tmp rfl) (Le.refl _))
theorem zeroPoint_pu (a b : RQ) {L : Nat} (ha : a.ok L) (hb : b.ok L) (hL : L ≤ 1000) : Pu Tryz.prog 167 [pr a b] (lit (.bool (zp a b))) := by
  have c1 := zeroRat_pu a ha hL
  have c2 := zeroRat_pu b hb hL
  unfold zp
  cases hs : zq a with
  | true =>
    rw [hs] at c1
    refine Pu.intro Tryz.func167 rfl (by kernel_rfl) fun C => ?_
    repeat (first | (refine A1 ⟨?_⟩; intros) | (refine Wcx (c1) ?_) | (refine Wdcx (c1) ?_) | (refine Wcgx (c1) ?_) | (refine Wdcgx (c1) ?_) | (refine Wcx (c2) ?_) | (refine Wdcx (c2) ?_) | (refine Wcgx (c2) ?_) | (refine Wdcgx (c2) ?_))
    ((first | refine endR ?_ | refine endN ?_); exact end1 (RV.tmp rfl) (Le.refl _))
  | false =>
    rw [hs] at c1
    refine Pu.intro Tryz.func167 rfl (by kernel_rfl) fun C => ?_
    repeat (first | (refine A1 ⟨?_⟩; intros) | (refine Wcx (c1) ?_) | (refine Wdcx (c1) ?_) | (refine Wcgx (c1) ?_) | (refine Wdcgx (c1) ?_) | (refine Wcx (c2) ?_) | (refine Wdcx (c2) ?_) | (refine Wcgx (c2) ?_) | (refine Wdcgx (c2) ?_))
    ((first | refine endR ?_ | refine endN ?_); exact end1 (RV.tmp rfl) (Le.refl _))
theorem rank_pu (n : Nd) : Pu Tryz.prog 151 [ag (ndx n)] (lit (.int .i64 (if n.k = 6 then (if n.op = 2 then 2 else 1) else 3))) := by
  by_cases h1 : n.k = 6
  · rw [if_pos h1]
    by_cases h2 : n.op = 2
    · rw [if_pos h2]
      refine Pu.intro Tryz.func151 rfl (by kernel_rfl) fun C => ?_
      repeat (refine A1 ⟨?_⟩; intros)
      ((first | refine endR ?_ | refine endN ?_); exact end1 (RV.tmp rfl) (Le.refl _))
    · rw [if_neg h2]
      refine Pu.intro Tryz.func151 rfl (by kernel_rfl) fun C => ?_
      repeat (refine A1 ⟨?_⟩; intros)
      ((first | refine endR ?_ | refine endN ?_); exact end1 (RV.tmp rfl) (Le.refl _))
  · rw [if_neg h1]
    refine Pu.intro Tryz.func151 rfl (by kernel_rfl) fun C => ?_
    repeat (refine A1 ⟨?_⟩; intros)
    ((first | refine endR ?_ | refine endN ?_); exact end1 (RV.tmp rfl) (Le.refl _))
theorem nil_dec {l : List UInt8} : (l.length = 0 → l = []) ∧ (l.length ≠ 0 → ¬l = []) :=
  ⟨fun h => List.eq_nil_of_length_eq_zero h, fun h e => h (by rw [e]; rfl)⟩
set_option maxHeartbeats 1000000 in
theorem checkExpr_pu (n : Nd) {L : Nat} (h : n.ok L) (hL : L ≤ 1000) : PuH Tryz.prog 147 [ag (ndx n)] [] (fun r H => okN n = true ∧ r = Ab.tup [] ∧ H = []) (fun pv _ => okN n = false ∧ pv = inval) := by
  have c1 := zeroPoint_pu n.a n.b h.a h.b hL
  have c2 := zeroPoint_pu n.c n.e h.c h.e hL
  -- gen
  clear h
  refine PuH.intro Tryz.func147 rfl (by kernel_rfl) fun C hC => ?_
  by_cases p1 : 1 ≤ n.k
  case neg =>
    have dp1 := decide_eq_false p1
    repeat (refine A1 ⟨?_⟩; intros)
    refine WneedF ?_
    rw [hC]
    exact ⟨by simp only [okN, dp1, Bool.and_true, Bool.true_and, Bool.and_false, Bool.false_and, Bool.or_true, Bool.true_or, Bool.or_false, Bool.false_or], rfl⟩
  have dp1 := decide_eq_true p1
  by_cases p2 : n.k ≤ 6
  case neg =>
    have dp2 := decide_eq_false p2
    repeat (refine A1 ⟨?_⟩; intros)
    refine WneedF ?_
    rw [hC]
    exact ⟨by simp only [okN, dp1, dp2, Bool.and_true, Bool.true_and, Bool.and_false, Bool.false_and, Bool.or_true, Bool.true_or, Bool.or_false, Bool.false_or], rfl⟩
  have dp2 := decide_eq_true p2
  repeat (refine A1 ⟨?_⟩; intros)
  refine WneedT ?_
  by_cases q1 : n.k = 1
  case pos =>
    have dk1 : decide (n.k = 1) = true := decide_eq_true (by omega)
    have dk4 : decide (n.k = 4) = false := decide_eq_false (by omega)
    have dk5 : decide (n.k = 5) = false := decide_eq_false (by omega)
    have dk6 : decide (n.k = 6) = false := decide_eq_false (by omega)
    have dn6 : decide (n.k ≠ 6) = true := decide_eq_true (by omega)
    repeat (refine A1 ⟨?_⟩; intros)
    refine WneedT ?_
    cases z1 : zp n.a n.b with
    | false =>
      rw [z1] at c1
      repeat (first | (refine A1 ⟨?_⟩; intros) | (refine Wcx (c1) ?_) | (refine Wdcx (c1) ?_) | (refine Wcgx (c1) ?_) | (refine Wdcgx (c1) ?_) | (refine Wcx (c2) ?_) | (refine Wdcx (c2) ?_) | (refine Wcgx (c2) ?_) | (refine Wdcgx (c2) ?_))
      refine WneedF ?_
      rw [hC]
      exact ⟨by simp only [okN, dp1, dp2, dk1, dk4, dk5, dk6, dn6, z1, Bool.and_true, Bool.true_and, Bool.and_false, Bool.false_and, Bool.or_true, Bool.true_or, Bool.or_false, Bool.false_or], rfl⟩
    | true =>
      rw [z1] at c1
      cases z2 : zp n.c n.e with
      | false =>
        rw [z2] at c2
        repeat (first | (refine A1 ⟨?_⟩; intros) | (refine Wcx (c1) ?_) | (refine Wdcx (c1) ?_) | (refine Wcgx (c1) ?_) | (refine Wdcgx (c1) ?_) | (refine Wcx (c2) ?_) | (refine Wdcx (c2) ?_) | (refine Wcgx (c2) ?_) | (refine Wdcgx (c2) ?_))
        refine WneedF ?_
        rw [hC]
        exact ⟨by simp only [okN, dp1, dp2, dk1, dk4, dk5, dk6, dn6, z1, z2, Bool.and_true, Bool.true_and, Bool.and_false, Bool.false_and, Bool.or_true, Bool.true_or, Bool.or_false, Bool.false_or], rfl⟩
      | true =>
        rw [z2] at c2
        repeat (first | (refine A1 ⟨?_⟩; intros) | (refine Wcx (c1) ?_) | (refine Wdcx (c1) ?_) | (refine Wcgx (c1) ?_) | (refine Wdcgx (c1) ?_) | (refine Wcx (c2) ?_) | (refine Wdcx (c2) ?_) | (refine Wcgx (c2) ?_) | (refine Wdcgx (c2) ?_))
        refine WneedT ?_
        by_cases o1 : n.op = 0
        case neg =>
          have do1 := decide_eq_false o1
          repeat (refine A1 ⟨?_⟩; intros)
          refine WneedF ?_
          rw [hC]
          exact ⟨by simp only [okN, dp1, dp2, dk1, dk4, dk5, dk6, dn6, z1, z2, do1, Bool.and_true, Bool.true_and, Bool.and_false, Bool.false_and, Bool.or_true, Bool.true_or, Bool.or_false, Bool.false_or], rfl⟩
        have do1 := decide_eq_true o1
        repeat (refine A1 ⟨?_⟩; intros)
        refine WneedT ?_
        by_cases y1 : n.y = 0
        case neg =>
          have dy1 := decide_eq_false y1
          repeat (refine A1 ⟨?_⟩; intros)
          refine WneedF ?_
          rw [hC]
          exact ⟨by simp only [okN, dp1, dp2, dk1, dk4, dk5, dk6, dn6, z1, z2, do1, dy1, Bool.and_true, Bool.true_and, Bool.and_false, Bool.false_and, Bool.or_true, Bool.true_or, Bool.or_false, Bool.false_or], rfl⟩
        have dy1 := decide_eq_true y1
        repeat (refine A1 ⟨?_⟩; intros)
        refine WneedT ?_
        by_cases x1 : n.x = 0
        case neg =>
          have dx1 := decide_eq_false x1
          repeat (refine A1 ⟨?_⟩; intros)
          refine WneedF ?_
          rw [hC]
          exact ⟨by simp only [okN, dp1, dp2, dk1, dk4, dk5, dk6, dn6, z1, z2, do1, dy1, dx1, Bool.and_true, Bool.true_and, Bool.and_false, Bool.false_and, Bool.or_true, Bool.true_or, Bool.or_false, Bool.false_or], rfl⟩
        have dx1 := decide_eq_true x1
        repeat (refine A1 ⟨?_⟩; intros)
        refine WneedT ?_
        repeat (refine A1 ⟨?_⟩; intros)
        exact endHN _ _ end0 (List.nil_sublist _) ⟨by simp only [okN, dp1, dp2, dk1, dk4, dk5, dk6, dn6, z1, z2, do1, dy1, dx1, Bool.and_true, Bool.true_and, Bool.and_false, Bool.false_and, Bool.or_true, Bool.true_or, Bool.or_false, Bool.false_or], rfl, rfl⟩
  by_cases q4 : n.k = 4
  case pos =>
    have dk1 : decide (n.k = 1) = false := decide_eq_false (by omega)
    have dk4 : decide (n.k = 4) = true := decide_eq_true (by omega)
    have dk5 : decide (n.k = 5) = false := decide_eq_false (by omega)
    have dk6 : decide (n.k = 6) = false := decide_eq_false (by omega)
    have dn6 : decide (n.k ≠ 6) = true := decide_eq_true (by omega)
    by_cases r1 : n.nm.length = 0
    case neg =>
      have dr1 := decide_eq_false r1
      have sr1 := nil_dec.2 r1
      repeat (refine A1 ⟨?_⟩; intros)
      refine WneedF ?_
      rw [hC]
      exact ⟨by simp only [okN, dp1, dp2, dk1, dk4, dk5, dk6, dn6, dr1, Bool.and_true, Bool.true_and, Bool.and_false, Bool.false_and, Bool.or_true, Bool.true_or, Bool.or_false, Bool.false_or], rfl⟩
    have dr1 := decide_eq_true r1
    have sr1 := nil_dec.1 r1
    repeat (refine A1 ⟨?_⟩; intros)
    refine WneedT ?_
    repeat (first | (refine A1 ⟨?_⟩; intros) | (refine Wcx (c1) ?_) | (refine Wdcx (c1) ?_) | (refine Wcgx (c1) ?_) | (refine Wdcgx (c1) ?_) | (refine Wcx (c2) ?_) | (refine Wdcx (c2) ?_) | (refine Wcgx (c2) ?_) | (refine Wdcgx (c2) ?_))
    refine WneedT ?_
    by_cases o1 : n.op = 0
    case neg =>
      have do1 := decide_eq_false o1
      repeat (refine A1 ⟨?_⟩; intros)
      refine WneedF ?_
      rw [hC]
      exact ⟨by simp only [okN, dp1, dp2, dk1, dk4, dk5, dk6, dn6, dr1, do1, Bool.and_true, Bool.true_and, Bool.and_false, Bool.false_and, Bool.or_true, Bool.true_or, Bool.or_false, Bool.false_or], rfl⟩
    have do1 := decide_eq_true o1
    repeat (refine A1 ⟨?_⟩; intros)
    refine WneedT ?_
    by_cases y1 : n.y = 0
    case neg =>
      have dy1 := decide_eq_false y1
      repeat (refine A1 ⟨?_⟩; intros)
      refine WneedF ?_
      rw [hC]
      exact ⟨by simp only [okN, dp1, dp2, dk1, dk4, dk5, dk6, dn6, dr1, do1, dy1, Bool.and_true, Bool.true_and, Bool.and_false, Bool.false_and, Bool.or_true, Bool.true_or, Bool.or_false, Bool.false_or], rfl⟩
    have dy1 := decide_eq_true y1
    repeat (refine A1 ⟨?_⟩; intros)
    refine WneedT ?_
    by_cases x1 : n.x = 0
    case neg =>
      have dx1 := decide_eq_false x1
      repeat (refine A1 ⟨?_⟩; intros)
      refine WneedF ?_
      rw [hC]
      exact ⟨by simp only [okN, dp1, dp2, dk1, dk4, dk5, dk6, dn6, dr1, do1, dy1, dx1, Bool.and_true, Bool.true_and, Bool.and_false, Bool.false_and, Bool.or_true, Bool.true_or, Bool.or_false, Bool.false_or], rfl⟩
    have dx1 := decide_eq_true x1
    repeat (refine A1 ⟨?_⟩; intros)
    refine WneedT ?_
    repeat (refine A1 ⟨?_⟩; intros)
    exact endHN _ _ end0 (List.nil_sublist _) ⟨by simp only [okN, dp1, dp2, dk1, dk4, dk5, dk6, dn6, dr1, do1, dy1, dx1, Bool.and_true, Bool.true_and, Bool.and_false, Bool.false_and, Bool.or_true, Bool.true_or, Bool.or_false, Bool.false_or], rfl, rfl⟩
  by_cases q5 : n.k = 5
  case pos =>
    have dk1 : decide (n.k = 1) = false := decide_eq_false (by omega)
    have dk4 : decide (n.k = 4) = false := decide_eq_false (by omega)
    have dk5 : decide (n.k = 5) = true := decide_eq_true (by omega)
    have dk6 : decide (n.k = 6) = false := decide_eq_false (by omega)
    have dn6 : decide (n.k ≠ 6) = true := decide_eq_true (by omega)
    by_cases r1 : n.nm.length = 0
    case neg =>
      have dr1 := decide_eq_false r1
      have sr1 := nil_dec.2 r1
      repeat (refine A1 ⟨?_⟩; intros)
      refine WneedF ?_
      rw [hC]
      exact ⟨by simp only [okN, dp1, dp2, dk1, dk4, dk5, dk6, dn6, dr1, Bool.and_true, Bool.true_and, Bool.and_false, Bool.false_and, Bool.or_true, Bool.true_or, Bool.or_false, Bool.false_or], rfl⟩
    have dr1 := decide_eq_true r1
    have sr1 := nil_dec.1 r1
    repeat (refine A1 ⟨?_⟩; intros)
    refine WneedT ?_
    cases z1 : zp n.a n.b with
    | false =>
      rw [z1] at c1
      repeat (first | (refine A1 ⟨?_⟩; intros) | (refine Wcx (c1) ?_) | (refine Wdcx (c1) ?_) | (refine Wcgx (c1) ?_) | (refine Wdcgx (c1) ?_) | (refine Wcx (c2) ?_) | (refine Wdcx (c2) ?_) | (refine Wcgx (c2) ?_) | (refine Wdcgx (c2) ?_))
      refine WneedF ?_
      rw [hC]
      exact ⟨by simp only [okN, dp1, dp2, dk1, dk4, dk5, dk6, dn6, dr1, z1, Bool.and_true, Bool.true_and, Bool.and_false, Bool.false_and, Bool.or_true, Bool.true_or, Bool.or_false, Bool.false_or], rfl⟩
    | true =>
      rw [z1] at c1
      cases z2 : zp n.c n.e with
      | false =>
        rw [z2] at c2
        repeat (first | (refine A1 ⟨?_⟩; intros) | (refine Wcx (c1) ?_) | (refine Wdcx (c1) ?_) | (refine Wcgx (c1) ?_) | (refine Wdcgx (c1) ?_) | (refine Wcx (c2) ?_) | (refine Wdcx (c2) ?_) | (refine Wcgx (c2) ?_) | (refine Wdcgx (c2) ?_))
        refine WneedF ?_
        rw [hC]
        exact ⟨by simp only [okN, dp1, dp2, dk1, dk4, dk5, dk6, dn6, dr1, z1, z2, Bool.and_true, Bool.true_and, Bool.and_false, Bool.false_and, Bool.or_true, Bool.true_or, Bool.or_false, Bool.false_or], rfl⟩
      | true =>
        rw [z2] at c2
        repeat (first | (refine A1 ⟨?_⟩; intros) | (refine Wcx (c1) ?_) | (refine Wdcx (c1) ?_) | (refine Wcgx (c1) ?_) | (refine Wdcgx (c1) ?_) | (refine Wcx (c2) ?_) | (refine Wdcx (c2) ?_) | (refine Wcgx (c2) ?_) | (refine Wdcgx (c2) ?_))
        refine WneedT ?_
        by_cases o1 : n.op = 0
        case neg =>
          have do1 := decide_eq_false o1
          repeat (refine A1 ⟨?_⟩; intros)
          refine WneedF ?_
          rw [hC]
          exact ⟨by simp only [okN, dp1, dp2, dk1, dk4, dk5, dk6, dn6, dr1, z1, z2, do1, Bool.and_true, Bool.true_and, Bool.and_false, Bool.false_and, Bool.or_true, Bool.true_or, Bool.or_false, Bool.false_or], rfl⟩
        have do1 := decide_eq_true o1
        repeat (refine A1 ⟨?_⟩; intros)
        refine WneedT ?_
        by_cases y1 : n.y = 0
        case neg =>
          have dy1 := decide_eq_false y1
          repeat (refine A1 ⟨?_⟩; intros)
          refine WneedF ?_
          rw [hC]
          exact ⟨by simp only [okN, dp1, dp2, dk1, dk4, dk5, dk6, dn6, dr1, z1, z2, do1, dy1, Bool.and_true, Bool.true_and, Bool.and_false, Bool.false_and, Bool.or_true, Bool.true_or, Bool.or_false, Bool.false_or], rfl⟩
        have dy1 := decide_eq_true y1
        repeat (refine A1 ⟨?_⟩; intros)
        refine WneedT ?_
        repeat (refine A1 ⟨?_⟩; intros)
        refine WneedT ?_
        repeat (refine A1 ⟨?_⟩; intros)
        exact endHN _ _ end0 (List.nil_sublist _) ⟨by simp only [okN, dp1, dp2, dk1, dk4, dk5, dk6, dn6, dr1, z1, z2, do1, dy1, Bool.and_true, Bool.true_and, Bool.and_false, Bool.false_and, Bool.or_true, Bool.true_or, Bool.or_false, Bool.false_or], rfl, rfl⟩
  by_cases q6 : n.k = 6
  case pos =>
    have dk1 : decide (n.k = 1) = false := decide_eq_false (by omega)
    have dk4 : decide (n.k = 4) = false := decide_eq_false (by omega)
    have dk5 : decide (n.k = 5) = false := decide_eq_false (by omega)
    have dk6 : decide (n.k = 6) = true := decide_eq_true (by omega)
    have dn6 : decide (n.k ≠ 6) = false := decide_eq_false (by omega)
    by_cases r1 : n.nm.length = 0
    case neg =>
      have dr1 := decide_eq_false r1
      have sr1 := nil_dec.2 r1
      repeat (refine A1 ⟨?_⟩; intros)
      refine WneedF ?_
      rw [hC]
      exact ⟨by simp only [okN, dp1, dp2, dk1, dk4, dk5, dk6, dn6, dr1, Bool.and_true, Bool.true_and, Bool.and_false, Bool.false_and, Bool.or_true, Bool.true_or, Bool.or_false, Bool.false_or], rfl⟩
    have dr1 := decide_eq_true r1
    have sr1 := nil_dec.1 r1
    repeat (refine A1 ⟨?_⟩; intros)
    refine WneedT ?_
    cases z1 : zp n.a n.b with
    | false =>
      rw [z1] at c1
      repeat (first | (refine A1 ⟨?_⟩; intros) | (refine Wcx (c1) ?_) | (refine Wdcx (c1) ?_) | (refine Wcgx (c1) ?_) | (refine Wdcgx (c1) ?_) | (refine Wcx (c2) ?_) | (refine Wdcx (c2) ?_) | (refine Wcgx (c2) ?_) | (refine Wdcgx (c2) ?_))
      refine WneedF ?_
      rw [hC]
      exact ⟨by simp only [okN, dp1, dp2, dk1, dk4, dk5, dk6, dn6, dr1, z1, Bool.and_true, Bool.true_and, Bool.and_false, Bool.false_and, Bool.or_true, Bool.true_or, Bool.or_false, Bool.false_or], rfl⟩
    | true =>
      rw [z1] at c1
      cases z2 : zp n.c n.e with
      | false =>
        rw [z2] at c2
        repeat (first | (refine A1 ⟨?_⟩; intros) | (refine Wcx (c1) ?_) | (refine Wdcx (c1) ?_) | (refine Wcgx (c1) ?_) | (refine Wdcgx (c1) ?_) | (refine Wcx (c2) ?_) | (refine Wdcx (c2) ?_) | (refine Wcgx (c2) ?_) | (refine Wdcgx (c2) ?_))
        refine WneedF ?_
        rw [hC]
        exact ⟨by simp only [okN, dp1, dp2, dk1, dk4, dk5, dk6, dn6, dr1, z1, z2, Bool.and_true, Bool.true_and, Bool.and_false, Bool.false_and, Bool.or_true, Bool.true_or, Bool.or_false, Bool.false_or], rfl⟩
      | true =>
        rw [z2] at c2
        repeat (first | (refine A1 ⟨?_⟩; intros) | (refine Wcx (c1) ?_) | (refine Wdcx (c1) ?_) | (refine Wcgx (c1) ?_) | (refine Wdcgx (c1) ?_) | (refine Wcx (c2) ?_) | (refine Wdcx (c2) ?_) | (refine Wcgx (c2) ?_) | (refine Wdcgx (c2) ?_))
        refine WneedT ?_
        by_cases o1 : 1 ≤ n.op
        case neg =>
          have do1 := decide_eq_false o1
          repeat (refine A1 ⟨?_⟩; intros)
          refine WneedF ?_
          rw [hC]
          exact ⟨by simp only [okN, dp1, dp2, dk1, dk4, dk5, dk6, dn6, dr1, z1, z2, do1, Bool.and_true, Bool.true_and, Bool.and_false, Bool.false_and, Bool.or_true, Bool.true_or, Bool.or_false, Bool.false_or], rfl⟩
        have do1 := decide_eq_true o1
        by_cases o2 : n.op ≤ 4
        case neg =>
          have do2 := decide_eq_false o2
          repeat (refine A1 ⟨?_⟩; intros)
          refine WneedF ?_
          rw [hC]
          exact ⟨by simp only [okN, dp1, dp2, dk1, dk4, dk5, dk6, dn6, dr1, z1, z2, do1, do2, Bool.and_true, Bool.true_and, Bool.and_false, Bool.false_and, Bool.or_true, Bool.true_or, Bool.or_false, Bool.false_or], rfl⟩
        have do2 := decide_eq_true o2
        repeat (refine A1 ⟨?_⟩; intros)
        refine WneedT ?_
        repeat (refine A1 ⟨?_⟩; intros)
        refine WneedT ?_
        repeat (refine A1 ⟨?_⟩; intros)
        refine WneedT ?_
        repeat (refine A1 ⟨?_⟩; intros)
        exact endHN _ _ end0 (List.nil_sublist _) ⟨by simp only [okN, dp1, dp2, dk1, dk4, dk5, dk6, dn6, dr1, z1, z2, do1, do2, Bool.and_true, Bool.true_and, Bool.and_false, Bool.false_and, Bool.or_true, Bool.true_or, Bool.or_false, Bool.false_or], rfl, rfl⟩
  have dk1 : decide (n.k = 1) = false := decide_eq_false (by omega)
  have dk4 : decide (n.k = 4) = false := decide_eq_false (by omega)
  have dk5 : decide (n.k = 5) = false := decide_eq_false (by omega)
  have dk6 : decide (n.k = 6) = false := decide_eq_false (by omega)
  have dn6 : decide (n.k ≠ 6) = true := decide_eq_true (by omega)
  by_cases r1 : n.nm.length = 0
  case neg =>
    have dr1 := decide_eq_false r1
    have sr1 := nil_dec.2 r1
    repeat (refine A1 ⟨?_⟩; intros)
    refine WneedF ?_
    rw [hC]
    exact ⟨by simp only [okN, dp1, dp2, dk1, dk4, dk5, dk6, dn6, dr1, Bool.and_true, Bool.true_and, Bool.and_false, Bool.false_and, Bool.or_true, Bool.true_or, Bool.or_false, Bool.false_or], rfl⟩
  have dr1 := decide_eq_true r1
  have sr1 := nil_dec.1 r1
  repeat (refine A1 ⟨?_⟩; intros)
  refine WneedT ?_
  cases z1 : zp n.a n.b with
  | false =>
    rw [z1] at c1
    repeat (first | (refine A1 ⟨?_⟩; intros) | (refine Wcx (c1) ?_) | (refine Wdcx (c1) ?_) | (refine Wcgx (c1) ?_) | (refine Wdcgx (c1) ?_) | (refine Wcx (c2) ?_) | (refine Wdcx (c2) ?_) | (refine Wcgx (c2) ?_) | (refine Wdcgx (c2) ?_))
    refine WneedF ?_
    rw [hC]
    exact ⟨by simp only [okN, dp1, dp2, dk1, dk4, dk5, dk6, dn6, dr1, z1, Bool.and_true, Bool.true_and, Bool.and_false, Bool.false_and, Bool.or_true, Bool.true_or, Bool.or_false, Bool.false_or], rfl⟩
  | true =>
    rw [z1] at c1
    cases z2 : zp n.c n.e with
    | false =>
      rw [z2] at c2
      repeat (first | (refine A1 ⟨?_⟩; intros) | (refine Wcx (c1) ?_) | (refine Wdcx (c1) ?_) | (refine Wcgx (c1) ?_) | (refine Wdcgx (c1) ?_) | (refine Wcx (c2) ?_) | (refine Wdcx (c2) ?_) | (refine Wcgx (c2) ?_) | (refine Wdcgx (c2) ?_))
      refine WneedF ?_
      rw [hC]
      exact ⟨by simp only [okN, dp1, dp2, dk1, dk4, dk5, dk6, dn6, dr1, z1, z2, Bool.and_true, Bool.true_and, Bool.and_false, Bool.false_and, Bool.or_true, Bool.true_or, Bool.or_false, Bool.false_or], rfl⟩
    | true =>
      rw [z2] at c2
      repeat (first | (refine A1 ⟨?_⟩; intros) | (refine Wcx (c1) ?_) | (refine Wdcx (c1) ?_) | (refine Wcgx (c1) ?_) | (refine Wdcgx (c1) ?_) | (refine Wcx (c2) ?_) | (refine Wdcx (c2) ?_) | (refine Wcgx (c2) ?_) | (refine Wdcgx (c2) ?_))
      refine WneedT ?_
      by_cases o1 : n.op = 0
      case neg =>
        have do1 := decide_eq_false o1
        repeat (refine A1 ⟨?_⟩; intros)
        refine WneedF ?_
        rw [hC]
        exact ⟨by simp only [okN, dp1, dp2, dk1, dk4, dk5, dk6, dn6, dr1, z1, z2, do1, Bool.and_true, Bool.true_and, Bool.and_false, Bool.false_and, Bool.or_true, Bool.true_or, Bool.or_false, Bool.false_or], rfl⟩
      have do1 := decide_eq_true o1
      repeat (refine A1 ⟨?_⟩; intros)
      refine WneedT ?_
      by_cases y1 : n.y = 0
      case neg =>
        have dy1 := decide_eq_false y1
        repeat (refine A1 ⟨?_⟩; intros)
        refine WneedF ?_
        rw [hC]
        exact ⟨by simp only [okN, dp1, dp2, dk1, dk4, dk5, dk6, dn6, dr1, z1, z2, do1, dy1, Bool.and_true, Bool.true_and, Bool.and_false, Bool.false_and, Bool.or_true, Bool.true_or, Bool.or_false, Bool.false_or], rfl⟩
      have dy1 := decide_eq_true y1
      repeat (refine A1 ⟨?_⟩; intros)
      refine WneedT ?_
      by_cases x1 : n.x = 0
      case neg =>
        have dx1 := decide_eq_false x1
        repeat (refine A1 ⟨?_⟩; intros)
        refine WneedF ?_
        rw [hC]
        exact ⟨by simp only [okN, dp1, dp2, dk1, dk4, dk5, dk6, dn6, dr1, z1, z2, do1, dy1, dx1, Bool.and_true, Bool.true_and, Bool.and_false, Bool.false_and, Bool.or_true, Bool.true_or, Bool.or_false, Bool.false_or], rfl⟩
      have dx1 := decide_eq_true x1
      repeat (refine A1 ⟨?_⟩; intros)
      refine WneedT ?_
      repeat (refine A1 ⟨?_⟩; intros)
      exact endHN _ _ end0 (List.nil_sublist _) ⟨by simp only [okN, dp1, dp2, dk1, dk4, dk5, dk6, dn6, dr1, z1, z2, do1, dy1, dx1, Bool.and_true, Bool.true_and, Bool.and_false, Bool.false_and, Bool.or_true, Bool.true_or, Bool.or_false, Bool.false_or], rfl, rfl⟩
  -- end
end Go.Ab
