/- Texts laid one behind the other: GLexW, GLexX. -/
import Derived.Test.YtebghnhocigmlaaGreatDoorB16
import Derived.Test.YtebghnhocigmlaaGreatDoorB15
/- The lexer over any text, walked: taking bytes, blanks and comments, runs. -/
namespace Go.Ab
open Go.Proofs
set_option linter.unusedSectionVars false
set_option linter.unusedVariables false
set_option linter.unusedSimpArgs false
variable [Base]
abbrev rdG (l : List UInt8) (k ln cl : Nat) : List SV := [str l, lit (.int .i64 k), lit (.int .i64 ln), lit (.int .i64 cl)]
theorem rdG_add (l : List UInt8) (k n ln cl : Nat) : rdG l (k + n) ln (cl + n) = [str l, lit (.int .i64 ((k : Int) + n)), lit (.int .i64 ln), lit (.int .i64 ((cl : Int) + n))] := by
  show [str l, lit (.int .i64 ((k + n : Nat) : Int)), lit (.int .i64 ln), lit (.int .i64 ((cl + n : Nat) : Int))] = _
  rw [show ((k + n : Nat) : Int) = (k : Int) + n by omega, show ((cl + n : Nat) : Int) = (cl : Int) + n by omega]
theorem gtake_pu (r : Nat) (l : List UInt8) (k n ln cl : Nat) (h : k + n ≤ l.length) (hl : l.length ≤ 100000) (hc : cl ≤ k + 1) :
    PuH Tryz.prog 203 [lit (.pointer (some ⟨r, 0, none⟩)), lit (.int .i64 n)] [(r, rdT, rdG l k ln cl)] (fun v H => v = str ((l.drop k).take n) ∧ H = [(r, rdT, rdG l (k + n) ln (cl + n))]) noX := by
  rw [← take_drop_eq]
  refine PuH.intro Tryz.func203 rfl (by kernel_rfl) fun C hC => ?_
  repeat (refine A1 ⟨?_⟩; intros)
  refine Wdo (ov_ssl (i := k) (j := k + n) rfl (fun y hy => by cases hy; exact ⟨_, _, rfl, rfl⟩) (fun h => by cases h) (fun y hy => by cases hy; exact ⟨_, _, rfl, by omega⟩) (fun h => by cases h) (by omega) h) ?_
  repeat (refine A1 ⟨?_⟩; intros)
  exact endHR _ _ (end1 (RV.tmp rfl) (Le.refl _)) (List.Sublist.refl _) ⟨rfl, by rw [rdG_add]⟩
theorem gsk_bd : ∀ (cm : Bool) (l : List UInt8) (ln cl k : Nat), ln ≤ k + 1 → cl ≤ k + 1 → (gsk cm l ln cl).2.1 ≤ k + (gsk cm l ln cl).1 + 1 ∧ (gsk cm l ln cl).2.2 ≤ k + (gsk cm l ln cl).1 + 1
  | _, [], _, _, _, h1, h2 => ⟨h1, h2⟩
  | cm, b :: r, ln, cl, k, h1, h2 => by
    rw [gsk]
    split
    · have := gsk_bd false r (ln + 1) 1 (k + 1) (by omega) (by omega)
      simp only; omega
    · split
      · have := gsk_bd true r ln (cl + 1) (k + 1) (by omega) (by omega)
        simp only; omega
      · split
        · have := gsk_bd false r ln (cl + 1) (k + 1) (by omega) (by omega)
          simp only; omega
        · simp only; omega
theorem clsN_rng (b : Nat) : 0 ≤ clsN b ∧ clsN b ≤ 5 := by
  unfold clsN
  repeat (first | omega | split)
structure SkSt where
  j : Nat
  ln : Nat
  cl : Nat
set_option maxHeartbeats 4000000 in
theorem gskip_pu (r : Nat) (l : List UInt8) (k ln cl : Nat) (hk : k ≤ l.length) (hl : l.length ≤ 100000) (hln : ln ≤ k + 1) (hcl : cl ≤ k + 1) :
    PuH Tryz.prog 201 [lit (.pointer (some ⟨r, 0, none⟩))] [(r, rdT, rdG l k ln cl)] (fun v H => v = Ab.tup [] ∧ H = [(r, rdT, rdG l (k + (gsk false (l.drop k) ln cl).1) (gsk false (l.drop k) ln cl).2.1 (gsk false (l.drop k) ln cl).2.2)]) noX := by
  generalize hq : gsk false (l.drop k) ln cl = q
  refine PuH.intro Tryz.func201 rfl (by kernel_rfl) fun C hC => ?_
  refine WP.block ?_
  refine WP.loopS (ι := SkSt) (fun x => x.j ≤ l.length ∧ (x.ln ≤ x.j + 1 ∧ x.cl ≤ x.j + 1) ∧ (x.j + (gsk false (l.drop x.j) x.ln x.cl).1 = k + q.1 ∧ (gsk false (l.drop x.j) x.ln x.cl).2 = q.2)) (fun x => l.length - x.j) (fun x => fm [(0, lit (.pointer (some ⟨r, 0, none⟩)))]) (fun x => [(r, rdT, rdG l x.j x.ln x.cl)]) ⟨k, ln, cl⟩ ⟨hk, ⟨hln, hcl⟩, by simp only; rw [hq], by simp only; rw [hq]⟩ (by (repeat (first | exact LeF.nil _ | refine LeF.cons (Le.refl _) ?_ | refine LeF.cons (Le.int (by omega)) ?_))) (List.Sublist.refl _) ?_
  clear hq hk hln hcl
  rintro ⟨j, jl, jc⟩ ⟨hj, ⟨hjl', hjc⟩, hs1, hs2⟩ K hK
  simp only at hj hjl' hjc hs1 hs2 ⊢
  by_cases hjl : j < l.length
  · obtain ⟨b, hd, hm, hg⟩ := at_byte hjl
    have hb := b.toNat_lt
    have c1 := classOf_pu (b := b.toNat) (by omega)
    rw [hd] at hs1 hs2
    by_cases h10 : b.toNat = 10
    · rw [gsk_nl h10] at hs1 hs2
      simp only at hs1 hs2
      have hc : clsN b.toNat = 1 := by rw [h10]; decide +kernel
      rw [hc, ← hg] at c1
      have c2 := gtake_pu r l j 1 jl jc (by omega) hl hjc
      rw [show ((1 : Nat) : Int) = 1 from rfl] at c2
      rw [hd, List.take_succ_cons, List.take_zero, show b = 10 from UInt8.toNat_inj.1 h10] at c2
      have hgo := fun F' H' => hK F' H' ⟨j + 1, jl + 1, 1⟩ ⟨by simp only; omega, ⟨by simp only; omega, by simp only; omega⟩, by simp only; omega, hs2⟩ (by simp only; omega)
      clear hK hs1 hs2
      repeat (first | (refine A1 ⟨?_⟩; intros) | (refine Wcx (c1) ?_) | (refine Wdcx (c1) ?_) | (refine Wcgx (c1) ?_) | (refine Wdcgx (c1) ?_))
      refine WfT c2 ?_
      rintro _ _ ⟨rfl, rfl⟩
      simp only [List.cons_append, List.nil_append]
      repeat (refine A1 ⟨?_⟩; intros)
      exact hgo _ _ (by (repeat (first | exact LeF.nil _ | refine LeF.cons (Le.refl _) ?_ | refine LeF.cons (Le.int (by omega)) ?_))) (List.Sublist.refl _)
    by_cases hc1 : clsN b.toNat = 1
    · rw [gsk_sp h10 hc1] at hs1 hs2
      simp only at hs1 hs2
      rw [hc1, ← hg] at c1
      have c2 := gtake_pu r l j 1 jl jc (by omega) hl hjc
      rw [show ((1 : Nat) : Int) = 1 from rfl] at c2
      rw [hd, List.take_succ_cons, List.take_zero] at c2
      have hbn : ¬ [b] = [10] := fun e => h10 (by rw [(List.cons.inj e).1]; rfl)
      have hgo := fun F' H' => hK F' H' ⟨j + 1, jl, jc + 1⟩ ⟨by simp only; omega, ⟨by simp only; omega, by simp only; omega⟩, by simp only; omega, hs2⟩ (by simp only; omega)
      clear hK hs1 hs2
      repeat (first | (refine A1 ⟨?_⟩; intros) | (refine Wcx (c1) ?_) | (refine Wdcx (c1) ?_) | (refine Wcgx (c1) ?_) | (refine Wdcgx (c1) ?_))
      refine WfT c2 ?_
      rintro _ _ ⟨rfl, rfl⟩
      simp only [List.cons_append, List.nil_append]
      repeat (refine A1 ⟨?_⟩; intros)
      exact hgo _ _ (by (repeat (first | exact LeF.nil _ | refine LeF.cons (Le.refl _) ?_ | refine LeF.cons (Le.int (by omega)) ?_))) (List.Sublist.refl _)
    by_cases hc2 : clsN b.toNat = 2
    · rw [gsk_hash hc2 h10, ← hd] at hs1 hs2
      rw [hc2, ← hg] at c1
      have c3 := sIdx_pu (l.drop j) (b := 10) (by omega)
      have hlen : (l.drop j).length = l.length - j := List.length_drop
      rcases idxB_spec (l.drop j) (b := 10) (by omega) with ⟨hi, hno⟩ | ⟨m, hi, hml, hm10, hno⟩
      · rw [gsk_cm jl jc (Nat.le_refl _) hno (.inl rfl), List.drop_length] at hs1 hs2
        rw [hi] at c3
        have c2 := gtake_pu r l j (l.length - j) jl jc (by omega) hl hjc
        rw [hlen] at hs1 hs2
        have hgo := fun F' H' => hK F' H' ⟨j + (l.length - j), jl, jc + (l.length - j)⟩ ⟨by simp only; omega, ⟨by simp only; omega, by simp only; omega⟩, by
          simp only
          rw [List.drop_eq_nil_of_le (by omega)]
          simp only at hs1
          omega, by
          simp only
          rw [List.drop_eq_nil_of_le (by omega)]
          exact hs2⟩ (by simp only; omega)
        have ei : ((l.length : Int) - j) = ((l.length - j : Nat) : Int) := by omega
        clear hK hs1 hs2 hno
        generalize l.length - j = n at *
        repeat (first | (refine A1 ⟨?_⟩; intros) | (refine Wcx (c1) ?_) | (refine Wdcx (c1) ?_) | (refine Wcgx (c1) ?_) | (refine Wdcgx (c1) ?_))
        refine Wdo (ov_ssl (i := j) (j := l.length) rfl (fun y hy => by cases hy; exact ⟨_, _, rfl, rfl⟩) (fun h => by cases h) (fun _ h => by cases h) (fun _ => rfl) (by omega) (Nat.le_refl _)) ?_
        rw [List.take_length]
        repeat (first | (refine A1 ⟨?_⟩; intros) | (refine Wcx (c3) ?_) | (refine Wdcx (c3) ?_) | (refine Wcgx (c3) ?_) | (refine Wdcgx (c3) ?_))
        rw [ei]
        refine WfT c2 ?_
        rintro _ _ ⟨rfl, rfl⟩
        simp only [List.cons_append, List.nil_append]
        repeat (refine A1 ⟨?_⟩; intros)
        exact hgo _ _ (by (repeat (first | exact LeF.nil _ | refine LeF.cons (Le.refl _) ?_ | refine LeF.cons (Le.int (by omega)) ?_))) (List.Sublist.refl _)
      · rw [gsk_cm jl jc (by omega) hno (.inr hm10), List.drop_drop] at hs1 hs2
        rw [hi] at c3
        have hm0 : m ≠ 0 := fun e => by
          rw [e, hd] at hm10
          exact h10 (by rw [show b = UInt8.ofNat 10 from hm10]; rfl)
        have c2 := gtake_pu r l j m jl jc (by omega) hl hjc
        have hgo := fun F' H' => hK F' H' ⟨j + m, jl, jc + m⟩ ⟨by simp only; omega, ⟨by simp only; omega, by simp only; omega⟩, by
          simp only at hs1 ⊢
          omega, hs2⟩ (by simp only; omega)
        clear hK hs1 hs2 hno
        repeat (first | (refine A1 ⟨?_⟩; intros) | (refine Wcx (c1) ?_) | (refine Wdcx (c1) ?_) | (refine Wcgx (c1) ?_) | (refine Wdcgx (c1) ?_))
        refine Wdo (ov_ssl (i := j) (j := l.length) rfl (fun y hy => by cases hy; exact ⟨_, _, rfl, rfl⟩) (fun h => by cases h) (fun _ h => by cases h) (fun _ => rfl) (by omega) (Nat.le_refl _)) ?_
        rw [List.take_length]
        repeat (first | (refine A1 ⟨?_⟩; intros) | (refine Wcx (c3) ?_) | (refine Wdcx (c3) ?_) | (refine Wcgx (c3) ?_) | (refine Wdcgx (c3) ?_))
        refine WfT c2 ?_
        rintro _ _ ⟨rfl, rfl⟩
        simp only [List.cons_append, List.nil_append]
        repeat (refine A1 ⟨?_⟩; intros)
        exact hgo _ _ (by (repeat (first | exact LeF.nil _ | refine LeF.cons (Le.refl _) ?_ | refine LeF.cons (Le.int (by omega)) ?_))) (List.Sublist.refl _)
    · rw [gsk_stop hc1 hc2 h10] at hs1 hs2
      simp only [Nat.add_zero] at hs1 hs2
      have hc0 := clsN_rng b.toNat
      rw [← hg] at c1 hc1 hc2 hc0
      obtain ⟨q1, q2, q3⟩ := q
      simp only [Prod.mk.injEq] at hs1 hs2
      obtain ⟨rfl, rfl⟩ := hs2
      clear hK
      generalize clsN (l.getD j 0).toNat = cc at *
      repeat (first | (refine A1 ⟨?_⟩; intros) | (refine Wcx (c1) ?_) | (refine Wdcx (c1) ?_) | (refine Wcgx (c1) ?_) | (refine Wdcgx (c1) ?_))
      exact endHR _ _ end0 (List.Sublist.refl _) ⟨rfl, by rw [hs1]⟩
  · rw [List.drop_eq_nil_of_le (by omega)] at hs1 hs2
    obtain ⟨q1, q2, q3⟩ := q
    simp only [gsk, Prod.mk.injEq, Nat.add_zero] at hs1 hs2
    obtain ⟨rfl, rfl⟩ := hs2
    clear hK
    repeat (refine A1 ⟨?_⟩; intros)
    exact endHN _ _ end0 (List.Sublist.refl _) ⟨rfl, by rw [hs1]⟩
set_option maxHeartbeats 4000000 in
theorem grun_pu (r : Nat) (l : List UInt8) (k ln cl : Nat) (hk : k ≤ l.length) (hl : l.length ≤ 100000) :
    PuH Tryz.prog 204 [lit (.pointer (some ⟨r, 0, none⟩)), sl [lit (.int .i64 3), lit (.int .i64 4)] 2] [(r, rdT, rdG l k ln cl)] (fun v H => v = lit (.int .i64 (grun isLD (l.drop k) : Nat)) ∧ H = [(r, rdT, rdG l k ln cl)]) noX := by
  refine PuH.intro Tryz.func204 rfl (by kernel_rfl) fun C hC => ?_
  repeat (refine A1 ⟨?_⟩; intros)
  refine WP.loopS (ι := Nat) (fun j => k + j ≤ l.length ∧ j + grun isLD (l.drop (k + j)) = grun isLD (l.drop k)) (fun j => l.length - (k + j))
    (fun j => fm [(0, lit (.pointer (some ⟨r, 0, none⟩))), (1, sl [lit (.int .i64 3), lit (.int .i64 4)] 2), (5, lit (.int .i64 j))]) (fun j => [(r, rdT, rdG l k ln cl)]) 0 ⟨hk, by rw [Nat.add_zero, Nat.zero_add]⟩ (by (repeat (first | exact LeF.nil _ | refine LeF.cons (Le.refl _) ?_ | refine LeF.cons (Le.int (by omega)) ?_))) (List.Sublist.refl _) ?_
  rintro j ⟨hj, hs⟩ K hK
  by_cases hjl : k + j < l.length
  · obtain ⟨b, hd, hm, hg⟩ := at_byte hjl
    have hb := b.toNat_lt
    have c1 := classOf_pu (b := b.toNat) (by omega)
    have hgo : isLD (clsN b.toNat) = true → ∀ F' H', LeF F' (fm [(0, lit (.pointer (some ⟨r, 0, none⟩))), (1, sl [lit (.int .i64 3), lit (.int .i64 4)] 2), (5, lit (.int .i64 (j + 1 : Nat)))]) → [(r, rdT, rdG l k ln cl)].Sublist H' → K F' H' := fun ht F' H' => hK F' H' (j + 1) ⟨by omega, by
      rw [hd, grun_t ht] at hs
      rw [show k + (j + 1) = k + j + 1 by omega]; omega⟩ (by omega)
    have hst : isLD (clsN b.toNat) = false → j = grun isLD (l.drop k) := fun hf => by
      rw [hd, grun_f hf] at hs
      omega
    rw [← hg] at c1 hgo hst
    clear hK hs
    generalize clsN (l.getD (k + j) 0).toNat = cc at *
    by_cases h3 : cc = 3
    · subst h3
      replace hgo := hgo rfl
      clear hst
      repeat (first | (refine A1 ⟨?_⟩; intros) | (refine Wcx (c1) ?_) | (refine Wdcx (c1) ?_) | (refine Wcgx (c1) ?_) | (refine Wdcgx (c1) ?_))
      refine WP.unroll 3 ?_
      refine WPR.succ ?_
      repeat (refine A1 ⟨?_⟩; intros)
      refine Wo (ov_idxS (cs' := [lit (.int .i64 3)]) rfl rfl (by omega) (by omega) rfl (by simp)) ?_
      repeat (refine A1 ⟨?_⟩; intros)
      exact hgo _ _ (by (repeat (first | exact LeF.nil _ | refine LeF.cons (Le.refl _) ?_ | refine LeF.cons (Le.int (by omega)) ?_))) (List.Sublist.refl _)
    by_cases h4 : cc = 4
    · subst h4
      replace hgo := hgo rfl
      clear hst
      repeat (first | (refine A1 ⟨?_⟩; intros) | (refine Wcx (c1) ?_) | (refine Wdcx (c1) ?_) | (refine Wcgx (c1) ?_) | (refine Wdcgx (c1) ?_))
      refine WP.unroll 3 ?_
      refine WPR.succ ?_
      repeat (refine A1 ⟨?_⟩; intros)
      refine Wo (ov_idxS (cs' := [lit (.int .i64 3)]) rfl rfl (by omega) (by omega) rfl (by simp)) ?_
      repeat (refine A1 ⟨?_⟩; intros)
      refine Wo (ov_idxS (cs' := [lit (.int .i64 4)]) rfl rfl (by omega) (by omega) rfl (by simp)) ?_
      repeat (refine A1 ⟨?_⟩; intros)
      exact hgo _ _ (by (repeat (first | exact LeF.nil _ | refine LeF.cons (Le.refl _) ?_ | refine LeF.cons (Le.int (by omega)) ?_))) (List.Sublist.refl _)
    · have hj' := hst (by unfold isLD; rw [decide_eq_false h3, decide_eq_false h4]; rfl)
      subst hj'
      clear hst hgo
      repeat (first | (refine A1 ⟨?_⟩; intros) | (refine Wcx (c1) ?_) | (refine Wdcx (c1) ?_) | (refine Wcgx (c1) ?_) | (refine Wdcgx (c1) ?_))
      refine WP.unroll 3 ?_
      refine WPR.succ ?_
      repeat (refine A1 ⟨?_⟩; intros)
      refine Wo (ov_idxS (cs' := [lit (.int .i64 3)]) rfl rfl (by omega) (by omega) rfl (by simp)) ?_
      repeat (refine A1 ⟨?_⟩; intros)
      refine Wo (ov_idxS (cs' := [lit (.int .i64 4)]) rfl rfl (by omega) (by omega) rfl (by simp)) ?_
      repeat (refine A1 ⟨?_⟩; intros)
      exact endHR _ _ (end1 (RV.tmp rfl) (Le.refl _)) (List.Sublist.refl _) ⟨rfl, rfl⟩
  · rw [List.drop_eq_nil_of_le (by omega)] at hs
    have hj' : j = grun isLD (l.drop k) := by unfold grun at hs ⊢; simpa using hs
    subst hj'
    clear hK
    repeat (refine A1 ⟨?_⟩; intros)
    exact endHR _ _ (end1 (RV.tmp rfl) (Le.refl _)) (List.Sublist.refl _) ⟨rfl, rfl⟩
set_option maxHeartbeats 4000000 in
theorem grunD_pu (r : Nat) (l : List UInt8) (k ln cl : Nat) (hk : k ≤ l.length) (hl : l.length ≤ 100000) :
    PuH Tryz.prog 204 [lit (.pointer (some ⟨r, 0, none⟩)), sl [lit (.int .i64 4)] 1] [(r, rdT, rdG l k ln cl)] (fun v H => v = lit (.int .i64 (grun isD (l.drop k) : Nat)) ∧ H = [(r, rdT, rdG l k ln cl)]) noX := by
  refine PuH.intro Tryz.func204 rfl (by kernel_rfl) fun C hC => ?_
  repeat (refine A1 ⟨?_⟩; intros)
  refine WP.loopS (ι := Nat) (fun j => k + j ≤ l.length ∧ j + grun isD (l.drop (k + j)) = grun isD (l.drop k)) (fun j => l.length - (k + j))
    (fun j => fm [(0, lit (.pointer (some ⟨r, 0, none⟩))), (1, sl [lit (.int .i64 4)] 1), (5, lit (.int .i64 j))]) (fun j => [(r, rdT, rdG l k ln cl)]) 0 ⟨hk, by rw [Nat.add_zero, Nat.zero_add]⟩ (by (repeat (first | exact LeF.nil _ | refine LeF.cons (Le.refl _) ?_ | refine LeF.cons (Le.int (by omega)) ?_))) (List.Sublist.refl _) ?_
  rintro j ⟨hj, hs⟩ K hK
  by_cases hjl : k + j < l.length
  · obtain ⟨b, hd, hm, hg⟩ := at_byte hjl
    have hb := b.toNat_lt
    have c1 := classOf_pu (b := b.toNat) (by omega)
    have hgo : isD (clsN b.toNat) = true → ∀ F' H', LeF F' (fm [(0, lit (.pointer (some ⟨r, 0, none⟩))), (1, sl [lit (.int .i64 4)] 1), (5, lit (.int .i64 (j + 1 : Nat)))]) → [(r, rdT, rdG l k ln cl)].Sublist H' → K F' H' := fun ht F' H' => hK F' H' (j + 1) ⟨by omega, by
      rw [hd, grun_t ht] at hs
      rw [show k + (j + 1) = k + j + 1 by omega]; omega⟩ (by omega)
    have hst : isD (clsN b.toNat) = false → j = grun isD (l.drop k) := fun hf => by
      rw [hd, grun_f hf] at hs
      omega
    rw [← hg] at c1 hgo hst
    clear hK hs
    generalize clsN (l.getD (k + j) 0).toNat = cc at *
    by_cases h4 : cc = 4
    · subst h4
      replace hgo := hgo rfl
      clear hst
      repeat (first | (refine A1 ⟨?_⟩; intros) | (refine Wcx (c1) ?_) | (refine Wdcx (c1) ?_) | (refine Wcgx (c1) ?_) | (refine Wdcgx (c1) ?_))
      refine WP.unroll 2 ?_
      refine WPR.succ ?_
      repeat (refine A1 ⟨?_⟩; intros)
      refine Wo (ov_idxS (cs' := [lit (.int .i64 4)]) rfl rfl (by omega) (by omega) rfl (by simp)) ?_
      repeat (refine A1 ⟨?_⟩; intros)
      exact hgo _ _ (by (repeat (first | exact LeF.nil _ | refine LeF.cons (Le.refl _) ?_ | refine LeF.cons (Le.int (by omega)) ?_))) (List.Sublist.refl _)
    · have hj' := hst (by unfold isD; rw [decide_eq_false h4])
      subst hj'
      clear hst hgo
      repeat (first | (refine A1 ⟨?_⟩; intros) | (refine Wcx (c1) ?_) | (refine Wdcx (c1) ?_) | (refine Wcgx (c1) ?_) | (refine Wdcgx (c1) ?_))
      refine WP.unroll 2 ?_
      refine WPR.succ ?_
      repeat (refine A1 ⟨?_⟩; intros)
      refine Wo (ov_idxS (cs' := [lit (.int .i64 4)]) rfl rfl (by omega) (by omega) rfl (by simp)) ?_
      repeat (refine A1 ⟨?_⟩; intros)
      exact endHR _ _ (end1 (RV.tmp rfl) (Le.refl _)) (List.Sublist.refl _) ⟨rfl, rfl⟩
  · rw [List.drop_eq_nil_of_le (by omega)] at hs
    have hj' : j = grun isD (l.drop k) := by unfold grun at hs ⊢; simpa using hs
    subst hj'
    clear hK
    repeat (refine A1 ⟨?_⟩; intros)
    exact endHR _ _ (end1 (RV.tmp rfl) (Le.refl _)) (List.Sublist.refl _) ⟨rfl, rfl⟩
end Go.Ab
/- The lexer over any text, walked: the next token, or an error with its place. -/
namespace Go.Ab
open Go.Proofs
set_option linter.unusedSectionVars false
set_option linter.unusedVariables false
set_option linter.unusedSimpArgs false
variable [Base]
def eg : Nat → Nat
  | 1 => 4
  | 2 => 3
  | _ => 5
/-- an error of the package: its kind, place and text -/
abbrev erC (e : Er) : List SV := [lit (sent (eg e.k)), lit (.int .i64 e.l), lit (.int .i64 e.c), str e.t]
abbrev erSV (e : Er) : SV := ifc 32 (pt (erC e))
set_option maxHeartbeats 8000000 in
theorem gnext_pu [Sent 3] [Sent 4] (r : Nat) (l : List UInt8) (k ln cl : Nat) (hk : k ≤ l.length) (hl : l.length ≤ 100000) (hln : ln ≤ k + 1) (hcl : cl ≤ k + 1) :
    PuH Tryz.prog 145 [lit (.pointer (some ⟨r, 0, none⟩))] [(r, rdT, rdG l k ln cl)] (fun v H => match gnx (l.drop k) ln cl with
      | .ok (t, n) => v = Ab.tup [ag (tkx t), lit .nilIface] ∧ H = [(r, rdT, rdG l (k + n) t.l (t.c + t.t.length))]
      | .error e => v = Ab.tup [ag (tkx ⟨0, [], 0, 0⟩), erSV e]) noX := by
  have hsk := gsk_le false (l.drop k) ln cl
  rw [List.length_drop] at hsk
  have c0 := gskip_pu r l k ln cl hk hl hln hcl
  have hbd := gsk_bd false (l.drop k) ln cl k hln hcl
  have hhd := gsk_head false (l.drop k) ln cl
  unfold gnx
  rw [List.drop_drop] at hhd ⊢
  generalize gsk false (l.drop k) ln cl = q at *
  obtain ⟨q, lq, cq⟩ := q
  simp only at hsk c0 hbd hhd ⊢
  obtain ⟨hlq, hcq⟩ := hbd
  have ha : k + q ≤ l.length := by omega
  clear hsk
  obtain ⟨a, hqa⟩ : ∃ a, a = k + q := ⟨_, rfl⟩
  rw [← hqa] at ha c0 hlq hcq hhd ⊢
  by_cases hal : a < l.length
  case neg =>
    rw [List.drop_eq_nil_of_le (by omega)]
    refine PuH.intro Tryz.func145 rfl (by kernel_rfl) fun C hC => ?_
    repeat (refine A1 ⟨?_⟩; intros)
    refine WfT c0 ?_
    rintro _ _ ⟨rfl, rfl⟩
    simp only [List.cons_append, List.nil_append]
    repeat (refine A1 ⟨?_⟩; intros)
    exact endHR _ [(r, rdT, rdG l a lq cq)] (end2 (RV.cellA rfl (by (first | exact List.mem_cons_self | exact (List.mem_cons_of_mem _ List.mem_cons_self) | exact (List.mem_cons_of_mem _ (List.mem_cons_of_mem _ List.mem_cons_self)) | exact (List.mem_cons_of_mem _ (List.mem_cons_of_mem _ (List.mem_cons_of_mem _ List.mem_cons_self))) | exact (List.mem_cons_of_mem _ (List.mem_cons_of_mem _ (List.mem_cons_of_mem _ (List.mem_cons_of_mem _ List.mem_cons_self)))) | exact (List.mem_cons_of_mem _ (List.mem_cons_of_mem _ (List.mem_cons_of_mem _ (List.mem_cons_of_mem _ (List.mem_cons_of_mem _ List.mem_cons_self))))) | exact (List.mem_cons_of_mem _ (List.mem_cons_of_mem _ (List.mem_cons_of_mem _ (List.mem_cons_of_mem _ (List.mem_cons_of_mem _ (List.mem_cons_of_mem _ List.mem_cons_self)))))) | exact (List.mem_cons_of_mem _ (List.mem_cons_of_mem _ (List.mem_cons_of_mem _ (List.mem_cons_of_mem _ (List.mem_cons_of_mem _ (List.mem_cons_of_mem _ (List.mem_cons_of_mem _ List.mem_cons_self))))))))) rfl rfl) (RV.tmp rfl) (Le.refl _)) (by repeat (first | exact List.Sublist.refl _ | refine List.Sublist.cons _ ?_)) ⟨rfl, by rw [← hqa]; rfl⟩
  obtain ⟨b, hd, hm, hg⟩ := at_byte hal
  obtain ⟨hh1, hh2⟩ := hhd b _ hd
  clear hhd hm
  have hb := b.toNat_lt
  have c1 := classOf_pu (b := b.toNat) (by omega)
  by_cases h3 : clsN b.toNat = 3
  · rw [hd]
    simp only
    rw [if_pos h3, ← hd]
    rw [h3, ← hg] at c1
    have c2 := grun_pu r l a lq cq ha hl
    have hn1 := grun_t (p := isLD) (b := b) (by rw [h3]; rfl) (l.drop (a + 1))
    have hn2 := grun_le isLD (l.drop a)
    rw [← hd] at hn1
    rw [List.length_drop] at hn2
    have c3 := gtake_pu r l a (grun isLD (l.drop a)) lq cq (by omega) hl hcq
    have hlen : ((l.drop a).take (grun isLD (l.drop a))).length = grun isLD (l.drop a) := by rw [List.length_take, List.length_drop]; omega
    generalize grun isLD (l.drop (a + 1)) = n0 at *
    generalize grun isLD (l.drop a) = n at *
    generalize (l.drop a).take n = tx at *
    clear hd hg
    by_cases hlim : 24 < n
    · rw [if_pos hlim]
      simp only
      refine PuH.intro Tryz.func145 rfl (by kernel_rfl) fun C hC => ?_
      repeat (refine A1 ⟨?_⟩; intros)
      refine WfT c0 ?_
      rintro _ _ ⟨rfl, rfl⟩
      simp only [List.cons_append, List.nil_append]
      repeat (first | (refine A1 ⟨?_⟩; intros) | (refine Wcx (c1) ?_) | (refine Wdcx (c1) ?_) | (refine Wcgx (c1) ?_) | (refine Wdcgx (c1) ?_))
      refine WpubS 46 rfl (HDel.here _) (by omega) (by omega) ?_
      refine WfT c2 ?_
      rintro _ _ ⟨rfl, rfl⟩
      simp only [List.cons_append, List.nil_append]
      refine WfT c3 ?_
      rintro _ _ ⟨rfl, rfl⟩
      simp only [List.cons_append, List.nil_append]
      repeat (first | (refine AS ⟨?_⟩; intros) | (refine O1 ⟨?_⟩; intros))
      rename_i b2 b4 b46
      refine WP.perm (List.Perm.swap _ _ _) ?_
      refine WdM [11] [(b4, tkT, [lit (.int .i64 1), str tx, lit (.int .i64 lq), lit (.int .i64 cq)]), (r, rdT, rdG l (a + n) lq (cq + n))] (fun _ => [(b2, tkT, tkx ⟨0, [], 0, 0⟩)]) ?_
      refine MkD 11 ?_
      repeat (refine A1 ⟨?_⟩; intros)
      refine Wdo (ov_boxP (sv := ag _) rfl) ?_
      refine Wdo (ov_makeIface (s := pt _) (by kernel_rfl) rfl) ?_
      repeat (refine A1 ⟨?_⟩; intros)
      refine mkD0 ?_
      refine MkR (sv := top) (TS.store (sv := ag (tkx ⟨0, [], 0, 0⟩)) (ds := tkx ⟨0, [], 0, 0⟩) rfl rfl rfl rfl (HUpd.here _) rfl rfl) ?_
      refine MkD 1 ?_
      repeat (refine A1 ⟨?_⟩; intros)
      refine mkD0 ?_
      refine MkN ?_
      repeat (refine A1 ⟨?_⟩; intros)
      exact endHR _ [] (end2 (RV.cellA rfl (by (first | exact List.mem_cons_self | exact (List.mem_cons_of_mem _ List.mem_cons_self) | exact (List.mem_cons_of_mem _ (List.mem_cons_of_mem _ List.mem_cons_self)) | exact (List.mem_cons_of_mem _ (List.mem_cons_of_mem _ (List.mem_cons_of_mem _ List.mem_cons_self))) | exact (List.mem_cons_of_mem _ (List.mem_cons_of_mem _ (List.mem_cons_of_mem _ (List.mem_cons_of_mem _ List.mem_cons_self)))) | exact (List.mem_cons_of_mem _ (List.mem_cons_of_mem _ (List.mem_cons_of_mem _ (List.mem_cons_of_mem _ (List.mem_cons_of_mem _ List.mem_cons_self))))) | exact (List.mem_cons_of_mem _ (List.mem_cons_of_mem _ (List.mem_cons_of_mem _ (List.mem_cons_of_mem _ (List.mem_cons_of_mem _ (List.mem_cons_of_mem _ List.mem_cons_self)))))) | exact (List.mem_cons_of_mem _ (List.mem_cons_of_mem _ (List.mem_cons_of_mem _ (List.mem_cons_of_mem _ (List.mem_cons_of_mem _ (List.mem_cons_of_mem _ (List.mem_cons_of_mem _ List.mem_cons_self))))))))) rfl rfl) (RV.tmp rfl) (Le.refl _)) (List.nil_sublist _) rfl
    · rw [if_neg hlim]
      simp only
      rw [hlen]
      refine PuH.intro Tryz.func145 rfl (by kernel_rfl) fun C hC => ?_
      repeat (refine A1 ⟨?_⟩; intros)
      refine WfT c0 ?_
      rintro _ _ ⟨rfl, rfl⟩
      simp only [List.cons_append, List.nil_append]
      repeat (first | (refine A1 ⟨?_⟩; intros) | (refine Wcx (c1) ?_) | (refine Wdcx (c1) ?_) | (refine Wcgx (c1) ?_) | (refine Wdcgx (c1) ?_))
      refine WpubS 46 rfl (HDel.here _) (by omega) (by omega) ?_
      refine WfT c2 ?_
      rintro _ _ ⟨rfl, rfl⟩
      simp only [List.cons_append, List.nil_append]
      refine WfT c3 ?_
      rintro _ _ ⟨rfl, rfl⟩
      simp only [List.cons_append, List.nil_append]
      repeat (refine A1 ⟨?_⟩; intros)
      exact endHR _ [(r, rdT, rdG l (a + n) lq (cq + n))] (end2 (RV.cellA rfl (by (first | exact List.mem_cons_self | exact (List.mem_cons_of_mem _ List.mem_cons_self) | exact (List.mem_cons_of_mem _ (List.mem_cons_of_mem _ List.mem_cons_self)) | exact (List.mem_cons_of_mem _ (List.mem_cons_of_mem _ (List.mem_cons_of_mem _ List.mem_cons_self))) | exact (List.mem_cons_of_mem _ (List.mem_cons_of_mem _ (List.mem_cons_of_mem _ (List.mem_cons_of_mem _ List.mem_cons_self)))) | exact (List.mem_cons_of_mem _ (List.mem_cons_of_mem _ (List.mem_cons_of_mem _ (List.mem_cons_of_mem _ (List.mem_cons_of_mem _ List.mem_cons_self))))) | exact (List.mem_cons_of_mem _ (List.mem_cons_of_mem _ (List.mem_cons_of_mem _ (List.mem_cons_of_mem _ (List.mem_cons_of_mem _ (List.mem_cons_of_mem _ List.mem_cons_self)))))) | exact (List.mem_cons_of_mem _ (List.mem_cons_of_mem _ (List.mem_cons_of_mem _ (List.mem_cons_of_mem _ (List.mem_cons_of_mem _ (List.mem_cons_of_mem _ (List.mem_cons_of_mem _ List.mem_cons_self))))))))) rfl rfl) (RV.tmp rfl) (Le.refl _)) (by repeat (first | exact List.Sublist.refl _ | refine List.Sublist.cons _ ?_)) ⟨rfl, by rw [show k + (q + n) = a + n by omega]⟩
  by_cases h4 : clsN b.toNat = 4
  · rw [hd]
    simp only
    rw [if_neg h3]
    rw [if_pos h4, ← hd]
    rw [h4, ← hg] at c1
    have c2 := grunD_pu r l a lq cq ha hl
    have hn1 := grun_t (p := isD) (b := b) (by rw [h4]; rfl) (l.drop (a + 1))
    have hn2 := grun_le isD (l.drop a)
    rw [← hd] at hn1
    rw [List.length_drop] at hn2
    have c3 := gtake_pu r l a (grun isD (l.drop a)) lq cq (by omega) hl hcq
    have hlen : ((l.drop a).take (grun isD (l.drop a))).length = grun isD (l.drop a) := by rw [List.length_take, List.length_drop]; omega
    generalize grun isD (l.drop (a + 1)) = n0 at *
    generalize grun isD (l.drop a) = n at *
    generalize (l.drop a).take n = tx at *
    clear hd hg
    by_cases hlim : 4096 < n
    · rw [if_pos hlim]
      simp only
      refine PuH.intro Tryz.func145 rfl (by kernel_rfl) fun C hC => ?_
      repeat (refine A1 ⟨?_⟩; intros)
      refine WfT c0 ?_
      rintro _ _ ⟨rfl, rfl⟩
      simp only [List.cons_append, List.nil_append]
      repeat (first | (refine A1 ⟨?_⟩; intros) | (refine Wcx (c1) ?_) | (refine Wdcx (c1) ?_) | (refine Wcgx (c1) ?_) | (refine Wdcgx (c1) ?_))
      refine WpubS 60 rfl (HDel.here _) (by omega) (by omega) ?_
      refine WfT c2 ?_
      rintro _ _ ⟨rfl, rfl⟩
      simp only [List.cons_append, List.nil_append]
      refine WfT c3 ?_
      rintro _ _ ⟨rfl, rfl⟩
      simp only [List.cons_append, List.nil_append]
      repeat (first | (refine AS ⟨?_⟩; intros) | (refine O1 ⟨?_⟩; intros))
      rename_i b2 b4 b60
      refine WP.perm (List.Perm.swap _ _ _) ?_
      refine WdM [11] [(b4, tkT, [lit (.int .i64 2), str tx, lit (.int .i64 lq), lit (.int .i64 cq)]), (r, rdT, rdG l (a + n) lq (cq + n))] (fun _ => [(b2, tkT, tkx ⟨0, [], 0, 0⟩)]) ?_
      refine MkD 11 ?_
      repeat (refine A1 ⟨?_⟩; intros)
      refine Wdo (ov_boxP (sv := ag _) rfl) ?_
      refine Wdo (ov_makeIface (s := pt _) (by kernel_rfl) rfl) ?_
      repeat (refine A1 ⟨?_⟩; intros)
      refine mkD0 ?_
      refine MkR (sv := top) (TS.store (sv := ag (tkx ⟨0, [], 0, 0⟩)) (ds := tkx ⟨0, [], 0, 0⟩) rfl rfl rfl rfl (HUpd.here _) rfl rfl) ?_
      refine MkD 1 ?_
      repeat (refine A1 ⟨?_⟩; intros)
      refine mkD0 ?_
      refine MkN ?_
      repeat (refine A1 ⟨?_⟩; intros)
      exact endHR _ [] (end2 (RV.cellA rfl (by (first | exact List.mem_cons_self | exact (List.mem_cons_of_mem _ List.mem_cons_self) | exact (List.mem_cons_of_mem _ (List.mem_cons_of_mem _ List.mem_cons_self)) | exact (List.mem_cons_of_mem _ (List.mem_cons_of_mem _ (List.mem_cons_of_mem _ List.mem_cons_self))) | exact (List.mem_cons_of_mem _ (List.mem_cons_of_mem _ (List.mem_cons_of_mem _ (List.mem_cons_of_mem _ List.mem_cons_self)))) | exact (List.mem_cons_of_mem _ (List.mem_cons_of_mem _ (List.mem_cons_of_mem _ (List.mem_cons_of_mem _ (List.mem_cons_of_mem _ List.mem_cons_self))))) | exact (List.mem_cons_of_mem _ (List.mem_cons_of_mem _ (List.mem_cons_of_mem _ (List.mem_cons_of_mem _ (List.mem_cons_of_mem _ (List.mem_cons_of_mem _ List.mem_cons_self)))))) | exact (List.mem_cons_of_mem _ (List.mem_cons_of_mem _ (List.mem_cons_of_mem _ (List.mem_cons_of_mem _ (List.mem_cons_of_mem _ (List.mem_cons_of_mem _ (List.mem_cons_of_mem _ List.mem_cons_self))))))))) rfl rfl) (RV.tmp rfl) (Le.refl _)) (List.nil_sublist _) rfl
    · rw [if_neg hlim]
      simp only
      rw [hlen]
      refine PuH.intro Tryz.func145 rfl (by kernel_rfl) fun C hC => ?_
      repeat (refine A1 ⟨?_⟩; intros)
      refine WfT c0 ?_
      rintro _ _ ⟨rfl, rfl⟩
      simp only [List.cons_append, List.nil_append]
      repeat (first | (refine A1 ⟨?_⟩; intros) | (refine Wcx (c1) ?_) | (refine Wdcx (c1) ?_) | (refine Wcgx (c1) ?_) | (refine Wdcgx (c1) ?_))
      refine WpubS 60 rfl (HDel.here _) (by omega) (by omega) ?_
      refine WfT c2 ?_
      rintro _ _ ⟨rfl, rfl⟩
      simp only [List.cons_append, List.nil_append]
      refine WfT c3 ?_
      rintro _ _ ⟨rfl, rfl⟩
      simp only [List.cons_append, List.nil_append]
      repeat (refine A1 ⟨?_⟩; intros)
      exact endHR _ [(r, rdT, rdG l (a + n) lq (cq + n))] (end2 (RV.cellA rfl (by (first | exact List.mem_cons_self | exact (List.mem_cons_of_mem _ List.mem_cons_self) | exact (List.mem_cons_of_mem _ (List.mem_cons_of_mem _ List.mem_cons_self)) | exact (List.mem_cons_of_mem _ (List.mem_cons_of_mem _ (List.mem_cons_of_mem _ List.mem_cons_self))) | exact (List.mem_cons_of_mem _ (List.mem_cons_of_mem _ (List.mem_cons_of_mem _ (List.mem_cons_of_mem _ List.mem_cons_self)))) | exact (List.mem_cons_of_mem _ (List.mem_cons_of_mem _ (List.mem_cons_of_mem _ (List.mem_cons_of_mem _ (List.mem_cons_of_mem _ List.mem_cons_self))))) | exact (List.mem_cons_of_mem _ (List.mem_cons_of_mem _ (List.mem_cons_of_mem _ (List.mem_cons_of_mem _ (List.mem_cons_of_mem _ (List.mem_cons_of_mem _ List.mem_cons_self)))))) | exact (List.mem_cons_of_mem _ (List.mem_cons_of_mem _ (List.mem_cons_of_mem _ (List.mem_cons_of_mem _ (List.mem_cons_of_mem _ (List.mem_cons_of_mem _ (List.mem_cons_of_mem _ List.mem_cons_self))))))))) rfl rfl) (RV.tmp rfl) (Le.refl _)) (by repeat (first | exact List.Sublist.refl _ | refine List.Sublist.cons _ ?_)) ⟨rfl, by rw [show k + (q + n) = a + n by omega]⟩
  by_cases h5 : clsN b.toNat = 5
  · rw [hd]
    simp only
    rw [if_neg h3, if_neg h4, if_pos h5]
    rw [h5, ← hg] at c1
    have c3 := gtake_pu r l a 1 lq cq (by omega) hl hcq
    rw [hd, List.take_succ_cons, List.take_zero, show ((1 : Nat) : Int) = 1 from rfl] at c3
    clear hd hg
    refine PuH.intro Tryz.func145 rfl (by kernel_rfl) fun C hC => ?_
    repeat (refine A1 ⟨?_⟩; intros)
    refine WfT c0 ?_
    rintro _ _ ⟨rfl, rfl⟩
    simp only [List.cons_append, List.nil_append]
    repeat (first | (refine A1 ⟨?_⟩; intros) | (refine Wcx (c1) ?_) | (refine Wdcx (c1) ?_) | (refine Wcgx (c1) ?_) | (refine Wdcgx (c1) ?_))
    refine WfT c3 ?_
    rintro _ _ ⟨rfl, rfl⟩
    simp only [List.cons_append, List.nil_append]
    repeat (refine A1 ⟨?_⟩; intros)
    exact endHR _ [(r, rdT, rdG l (a + 1) lq (cq + 1))] (end2 (RV.cellA rfl (by (first | exact List.mem_cons_self | exact (List.mem_cons_of_mem _ List.mem_cons_self) | exact (List.mem_cons_of_mem _ (List.mem_cons_of_mem _ List.mem_cons_self)) | exact (List.mem_cons_of_mem _ (List.mem_cons_of_mem _ (List.mem_cons_of_mem _ List.mem_cons_self))) | exact (List.mem_cons_of_mem _ (List.mem_cons_of_mem _ (List.mem_cons_of_mem _ (List.mem_cons_of_mem _ List.mem_cons_self)))) | exact (List.mem_cons_of_mem _ (List.mem_cons_of_mem _ (List.mem_cons_of_mem _ (List.mem_cons_of_mem _ (List.mem_cons_of_mem _ List.mem_cons_self))))) | exact (List.mem_cons_of_mem _ (List.mem_cons_of_mem _ (List.mem_cons_of_mem _ (List.mem_cons_of_mem _ (List.mem_cons_of_mem _ (List.mem_cons_of_mem _ List.mem_cons_self)))))) | exact (List.mem_cons_of_mem _ (List.mem_cons_of_mem _ (List.mem_cons_of_mem _ (List.mem_cons_of_mem _ (List.mem_cons_of_mem _ (List.mem_cons_of_mem _ (List.mem_cons_of_mem _ List.mem_cons_self))))))))) rfl rfl) (RV.tmp rfl) (Le.refl _)) (by repeat (first | exact List.Sublist.refl _ | refine List.Sublist.cons _ ?_)) ⟨rfl, by rw [show k + (q + 1) = a + 1 by omega]; rfl⟩
  · rw [hd]
    simp only
    rw [if_neg h3, if_neg h4, if_neg h5]
    have c3 := gtake_pu r l a 1 lq cq (by omega) hl hcq
    rw [hd, List.take_succ_cons, List.take_zero, show ((1 : Nat) : Int) = 1 from rfl] at c3
    rw [← hg] at c1 h3 h4 h5 hh1 hh2
    generalize clsN (l.getD a 0).toNat = cc at *
    clear hd hg
    refine PuH.intro Tryz.func145 rfl (by kernel_rfl) fun C hC => ?_
    repeat (refine A1 ⟨?_⟩; intros)
    refine WfT c0 ?_
    rintro _ _ ⟨rfl, rfl⟩
    simp only [List.cons_append, List.nil_append]
    repeat (first | (refine A1 ⟨?_⟩; intros) | (refine Wcx (c1) ?_) | (refine Wdcx (c1) ?_) | (refine Wcgx (c1) ?_) | (refine Wdcgx (c1) ?_))
    refine WfT c3 ?_
    rintro _ _ ⟨rfl, rfl⟩
    simp only [List.cons_append, List.nil_append]
    repeat (first | (refine AS ⟨?_⟩; intros) | (refine O1 ⟨?_⟩; intros))
    rename_i b2 b4
    refine WP.perm (List.Perm.swap _ _ _) ?_
    refine WdM [11] [(b4, tkT, [lit (.int .i64 0), str [b], lit (.int .i64 lq), lit (.int .i64 cq)]), (r, rdT, rdG l (a + 1) lq (cq + 1))] (fun _ => [(b2, tkT, tkx ⟨0, [], 0, 0⟩)]) ?_
    refine MkD 11 ?_
    repeat (refine A1 ⟨?_⟩; intros)
    refine Wdo (ov_boxP (sv := ag _) rfl) ?_
    refine Wdo (ov_makeIface (s := pt _) (by kernel_rfl) rfl) ?_
    repeat (refine A1 ⟨?_⟩; intros)
    refine mkD0 ?_
    refine MkR (sv := top) (TS.store (sv := ag (tkx ⟨0, [], 0, 0⟩)) (ds := tkx ⟨0, [], 0, 0⟩) rfl rfl rfl rfl (HUpd.here _) rfl rfl) ?_
    refine MkD 1 ?_
    repeat (refine A1 ⟨?_⟩; intros)
    refine mkD0 ?_
    refine MkN ?_
    repeat (refine A1 ⟨?_⟩; intros)
    exact endHR _ [] (end2 (RV.cellA rfl (by (first | exact List.mem_cons_self | exact (List.mem_cons_of_mem _ List.mem_cons_self) | exact (List.mem_cons_of_mem _ (List.mem_cons_of_mem _ List.mem_cons_self)) | exact (List.mem_cons_of_mem _ (List.mem_cons_of_mem _ (List.mem_cons_of_mem _ List.mem_cons_self))) | exact (List.mem_cons_of_mem _ (List.mem_cons_of_mem _ (List.mem_cons_of_mem _ (List.mem_cons_of_mem _ List.mem_cons_self)))) | exact (List.mem_cons_of_mem _ (List.mem_cons_of_mem _ (List.mem_cons_of_mem _ (List.mem_cons_of_mem _ (List.mem_cons_of_mem _ List.mem_cons_self))))) | exact (List.mem_cons_of_mem _ (List.mem_cons_of_mem _ (List.mem_cons_of_mem _ (List.mem_cons_of_mem _ (List.mem_cons_of_mem _ (List.mem_cons_of_mem _ List.mem_cons_self)))))) | exact (List.mem_cons_of_mem _ (List.mem_cons_of_mem _ (List.mem_cons_of_mem _ (List.mem_cons_of_mem _ (List.mem_cons_of_mem _ (List.mem_cons_of_mem _ (List.mem_cons_of_mem _ List.mem_cons_self))))))))) rfl rfl) (RV.tmp rfl) (Le.refl _)) (List.nil_sublist _) rfl
end Go.Ab
