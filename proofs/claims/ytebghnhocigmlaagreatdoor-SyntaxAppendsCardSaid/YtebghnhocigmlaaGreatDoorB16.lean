/- Texts laid one behind the other: GLexW, GLexX, GPW, GPN, GPO. -/
import Derived.Test.YtebghnhocigmlaaGreatDoorB14
import Derived.Test.YtebghnhocigmlaaGreatDoorB12
import Derived.Test.YtebghnhocigmlaaGreatDoorB13
import Derived.Test.YtebghnhocigmlaaGreatDoorB15
namespace Go.Ab
open Go.Proofs
set_option linter.unusedSectionVars false
set_option linter.unusedVariables false
set_option linter.unusedSimpArgs false
variable [Base]
abbrev rdG (l : List UInt8) (k ln cl : Nat) : List SV := [str l, lit (.int .i64 k), lit (.int .i64 ln), lit (.int .i64 cl)]
theorem rdG_add (l : List UInt8) (k n ln cl : Nat) : rdG l (k + n) ln (cl + n) = [str l, lit (.int .i64 ((k : Int) + n)), lit (.int .i64 ln), lit (.int .i64 ((cl : Int) + n))] := by
  show [str l, lit (.int .i64 ((k + n : Nat) : Int)), lit (.int .i64 ln), lit (.int .i64 ((cl + n : Nat) : Int))] = _
  rw [show ((k + n : Nat) : Int) = (k : Int) + n by omega, show ((cl + n : Nat) : Int) = (cl : Int) + n by omega]
theorem gtake_pu (r : Nat) (l : List UInt8) (k n ln cl : Nat) (h : k + n ≤ l.length) (hl : l.length ≤ 100000) (hc : cl ≤ k + 1) :
    PuH Tryz.prog 203 [lit (.pointer (some ⟨r, 0, none⟩)), lit (.int .i64 n)] [(r, rdT, rdG l k ln cl)] (fun v H => v = str ((l.drop k).take n) ∧ H = [(r, rdT, rdG l (k + n) ln (cl + n))]) noX := by
  rw [← take_drop_eq]
  refine PuH.intro Tryz.func203 rfl (by kernel_rfl) fun C hC => ?_
  repeat (refine A1 ⟨?_⟩; intros)
  refine Wdo (ov_ssl (i := k) (j := k + n) rfl (fun y hy => by cases hy; exact ⟨_, _, rfl, rfl⟩) (fun h => by cases h) (fun y hy => by cases hy; exact ⟨_, _, rfl, by omega⟩) (fun h => by cases h) (by omega) h) ?_
  repeat (refine A1 ⟨?_⟩; intros)
  exact endHR _ _ (end1 (RV.tmp rfl) (Le.refl _)) (List.Sublist.refl _) ⟨rfl, by rw [rdG_add]⟩
theorem gsk_bd : ∀ (cm : Bool) (l : List UInt8) (ln cl k : Nat), ln ≤ k + 1 → cl ≤ k + 1 → (gsk cm l ln cl).2.1 ≤ k + (gsk cm l ln cl).1 + 1 ∧ (gsk cm l ln cl).2.2 ≤ k + (gsk cm l ln cl).1 + 1
  | _, [], _, _, _, h1, h2 => ⟨h1, h2⟩
  | cm, b :: r, ln, cl, k, h1, h2 => by
    rw [gsk]
    split
    · have := gsk_bd false r (ln + 1) 1 (k + 1) (by omega) (by omega)
      simp only; omega
    · split
      · have := gsk_bd true r ln (cl + 1) (k + 1) (by omega) (by omega)
        simp only; omega
      · split
        · have := gsk_bd false r ln (cl + 1) (k + 1) (by omega) (by omega)
          simp only; omega
        · simp only; omega
theorem clsN_rng (b : Nat) : 0 ≤ clsN b ∧ clsN b ≤ 5 := by
  unfold clsN
  repeat (first | omega | split)
structure SkSt where
  j : Nat
  ln : Nat
  cl : Nat
set_option maxHeartbeats 4000000 in
theorem gskip_pu (r : Nat) (l : List UInt8) (k ln cl : Nat) (hk : k ≤ l.length) (hl : l.length ≤ 100000) (hln : ln ≤ k + 1) (hcl : cl ≤ k + 1) :
    PuH Tryz.prog 201 [lit (.pointer (some ⟨r, 0, none⟩))] [(r, rdT, rdG l k ln cl)] (fun v H => v = Ab.tup [] ∧ H = [(r, rdT, rdG l (k + (gsk false (l.drop k) ln cl).1) (gsk false (l.drop k) ln cl).2.1 (gsk false (l.drop k) ln cl).2.2)]) noX := by
  generalize hq : gsk false (l.drop k) ln cl = q
  refine PuH.intro Tryz.func201 rfl (by kernel_rfl) fun C hC => ?_
  refine WP.block ?_
  refine WP.loopS (ι := SkSt) (fun x => x.j ≤ l.length ∧ (x.ln ≤ x.j + 1 ∧ x.cl ≤ x.j + 1) ∧ (x.j + (gsk false (l.drop x.j) x.ln x.cl).1 = k + q.1 ∧ (gsk false (l.drop x.j) x.ln x.cl).2 = q.2)) (fun x => l.length - x.j) (fun x => fm [(0, lit (.pointer (some ⟨r, 0, none⟩)))]) (fun x => [(r, rdT, rdG l x.j x.ln x.cl)]) ⟨k, ln, cl⟩ ⟨hk, ⟨hln, hcl⟩, by simp only; rw [hq], by simp only; rw [hq]⟩ (by (repeat (first | exact LeF.nil _ | refine LeF.cons (Le.refl _) ?_ | refine LeF.cons (Le.int (by omega)) ?_))) (List.Sublist.refl _) ?_
  clear hq hk hln hcl
  rintro ⟨j, jl, jc⟩ ⟨hj, ⟨hjl', hjc⟩, hs1, hs2⟩ K hK
  simp only at hj hjl' hjc hs1 hs2 ⊢
  by_cases hjl : j < l.length
  · obtain ⟨b, hd, hm, hg⟩ := at_byte hjl
    have hb := b.toNat_lt
    have c1 := classOf_pu (b := b.toNat) (by omega)
    rw [hd] at hs1 hs2
    by_cases h10 : b.toNat = 10
    · rw [gsk_nl h10] at hs1 hs2
      simp only at hs1 hs2
      have hc : clsN b.toNat = 1 := by rw [h10]; decide +kernel
      rw [hc, ← hg] at c1
      have c2 := gtake_pu r l j 1 jl jc (by omega) hl hjc
      rw [show ((1 : Nat) : Int) = 1 from rfl] at c2
      rw [hd, List.take_succ_cons, List.take_zero, show b = 10 from UInt8.toNat_inj.1 h10] at c2
      have hgo := fun F' H' => hK F' H' ⟨j + 1, jl + 1, 1⟩ ⟨by simp only; omega, ⟨by simp only; omega, by simp only; omega⟩, by simp only; omega, hs2⟩ (by simp only; omega)
      clear hK hs1 hs2
      repeat (first | (refine A1 ⟨?_⟩; intros) | (refine Wcx (c1) ?_) | (refine Wdcx (c1) ?_) | (refine Wcgx (c1) ?_) | (refine Wdcgx (c1) ?_))
      refine WfT c2 ?_
      rintro _ _ ⟨rfl, rfl⟩
      simp only [List.cons_append, List.nil_append]
      repeat (refine A1 ⟨?_⟩; intros)
      exact hgo _ _ (by (repeat (first | exact LeF.nil _ | refine LeF.cons (Le.refl _) ?_ | refine LeF.cons (Le.int (by omega)) ?_))) (List.Sublist.refl _)
    by_cases hc1 : clsN b.toNat = 1
    · rw [gsk_sp h10 hc1] at hs1 hs2
      simp only at hs1 hs2
      rw [hc1, ← hg] at c1
      have c2 := gtake_pu r l j 1 jl jc (by omega) hl hjc
      rw [show ((1 : Nat) : Int) = 1 from rfl] at c2
      rw [hd, List.take_succ_cons, List.take_zero] at c2
      have hbn : ¬ [b] = [10] := fun e => h10 (by rw [(List.cons.inj e).1]; rfl)
      have hgo := fun F' H' => hK F' H' ⟨j + 1, jl, jc + 1⟩ ⟨by simp only; omega, ⟨by simp only; omega, by simp only; omega⟩, by simp only; omega, hs2⟩ (by simp only; omega)
      clear hK hs1 hs2
      repeat (first | (refine A1 ⟨?_⟩; intros) | (refine Wcx (c1) ?_) | (refine Wdcx (c1) ?_) | (refine Wcgx (c1) ?_) | (refine Wdcgx (c1) ?_))
      refine WfT c2 ?_
      rintro _ _ ⟨rfl, rfl⟩
      simp only [List.cons_append, List.nil_append]
      repeat (refine A1 ⟨?_⟩; intros)
      exact hgo _ _ (by (repeat (first | exact LeF.nil _ | refine LeF.cons (Le.refl _) ?_ | refine LeF.cons (Le.int (by omega)) ?_))) (List.Sublist.refl _)
    by_cases hc2 : clsN b.toNat = 2
    · rw [gsk_hash hc2 h10, ← hd] at hs1 hs2
      rw [hc2, ← hg] at c1
      have c3 := sIdx_pu (l.drop j) (b := 10) (by omega)
      have hlen : (l.drop j).length = l.length - j := List.length_drop
      rcases idxB_spec (l.drop j) (b := 10) (by omega) with ⟨hi, hno⟩ | ⟨m, hi, hml, hm10, hno⟩
      · rw [gsk_cm jl jc (Nat.le_refl _) hno (.inl rfl), List.drop_length] at hs1 hs2
        rw [hi] at c3
        have c2 := gtake_pu r l j (l.length - j) jl jc (by omega) hl hjc
        rw [hlen] at hs1 hs2
        have hgo := fun F' H' => hK F' H' ⟨j + (l.length - j), jl, jc + (l.length - j)⟩ ⟨by simp only; omega, ⟨by simp only; omega, by simp only; omega⟩, by
          simp only
          rw [List.drop_eq_nil_of_le (by omega)]
          simp only at hs1
          omega, by
          simp only
          rw [List.drop_eq_nil_of_le (by omega)]
          exact hs2⟩ (by simp only; omega)
        have ei : ((l.length : Int) - j) = ((l.length - j : Nat) : Int) := by omega
        clear hK hs1 hs2 hno
        generalize l.length - j = n at *
        repeat (first | (refine A1 ⟨?_⟩; intros) | (refine Wcx (c1) ?_) | (refine Wdcx (c1) ?_) | (refine Wcgx (c1) ?_) | (refine Wdcgx (c1) ?_))
        refine Wdo (ov_ssl (i := j) (j := l.length) rfl (fun y hy => by cases hy; exact ⟨_, _, rfl, rfl⟩) (fun h => by cases h) (fun _ h => by cases h) (fun _ => rfl) (by omega) (Nat.le_refl _)) ?_
        rw [List.take_length]
        repeat (first | (refine A1 ⟨?_⟩; intros) | (refine Wcx (c3) ?_) | (refine Wdcx (c3) ?_) | (refine Wcgx (c3) ?_) | (refine Wdcgx (c3) ?_))
        rw [ei]
        refine WfT c2 ?_
        rintro _ _ ⟨rfl, rfl⟩
        simp only [List.cons_append, List.nil_append]
        repeat (refine A1 ⟨?_⟩; intros)
        exact hgo _ _ (by (repeat (first | exact LeF.nil _ | refine LeF.cons (Le.refl _) ?_ | refine LeF.cons (Le.int (by omega)) ?_))) (List.Sublist.refl _)
      · rw [gsk_cm jl jc (by omega) hno (.inr hm10), List.drop_drop] at hs1 hs2
        rw [hi] at c3
        have hm0 : m ≠ 0 := fun e => by
          rw [e, hd] at hm10
          exact h10 (by rw [show b = UInt8.ofNat 10 from hm10]; rfl)
        have c2 := gtake_pu r l j m jl jc (by omega) hl hjc
        have hgo := fun F' H' => hK F' H' ⟨j + m, jl, jc + m⟩ ⟨by simp only; omega, ⟨by simp only; omega, by simp only; omega⟩, by
          simp only at hs1 ⊢
          omega, hs2⟩ (by simp only; omega)
        clear hK hs1 hs2 hno
        repeat (first | (refine A1 ⟨?_⟩; intros) | (refine Wcx (c1) ?_) | (refine Wdcx (c1) ?_) | (refine Wcgx (c1) ?_) | (refine Wdcgx (c1) ?_))
        refine Wdo (ov_ssl (i := j) (j := l.length) rfl (fun y hy => by cases hy; exact ⟨_, _, rfl, rfl⟩) (fun h => by cases h) (fun _ h => by cases h) (fun _ => rfl) (by omega) (Nat.le_refl _)) ?_
        rw [List.take_length]
        repeat (first | (refine A1 ⟨?_⟩; intros) | (refine Wcx (c3) ?_) | (refine Wdcx (c3) ?_) | (refine Wcgx (c3) ?_) | (refine Wdcgx (c3) ?_))
        refine WfT c2 ?_
        rintro _ _ ⟨rfl, rfl⟩
        simp only [List.cons_append, List.nil_append]
        repeat (refine A1 ⟨?_⟩; intros)
        exact hgo _ _ (by (repeat (first | exact LeF.nil _ | refine LeF.cons (Le.refl _) ?_ | refine LeF.cons (Le.int (by omega)) ?_))) (List.Sublist.refl _)
    · rw [gsk_stop hc1 hc2 h10] at hs1 hs2
      simp only [Nat.add_zero] at hs1 hs2
      have hc0 := clsN_rng b.toNat
      rw [← hg] at c1 hc1 hc2 hc0
      obtain ⟨q1, q2, q3⟩ := q
      simp only [Prod.mk.injEq] at hs1 hs2
      obtain ⟨rfl, rfl⟩ := hs2
      clear hK
      generalize clsN (l.getD j 0).toNat = cc at *
      repeat (first | (refine A1 ⟨?_⟩; intros) | (refine Wcx (c1) ?_) | (refine Wdcx (c1) ?_) | (refine Wcgx (c1) ?_) | (refine Wdcgx (c1) ?_))
      exact endHR _ _ end0 (List.Sublist.refl _) ⟨rfl, by rw [hs1]⟩
  · rw [List.drop_eq_nil_of_le (by omega)] at hs1 hs2
    obtain ⟨q1, q2, q3⟩ := q
    simp only [gsk, Prod.mk.injEq, Nat.add_zero] at hs1 hs2
    obtain ⟨rfl, rfl⟩ := hs2
    clear hK
    repeat (refine A1 ⟨?_⟩; intros)
    exact endHN _ _ end0 (List.Sublist.refl _) ⟨rfl, by rw [hs1]⟩
set_option maxHeartbeats 4000000 in
theorem grun_pu (r : Nat) (l : List UInt8) (k ln cl : Nat) (hk : k ≤ l.length) (hl : l.length ≤ 100000) :
    PuH Tryz.prog 204 [lit (.pointer (some ⟨r, 0, none⟩)), sl [lit (.int .i64 3), lit (.int .i64 4)] 2] [(r, rdT, rdG l k ln cl)] (fun v H => v = lit (.int .i64 (grun isLD (l.drop k) : Nat)) ∧ H = [(r, rdT, rdG l k ln cl)]) noX := by
  refine PuH.intro Tryz.func204 rfl (by kernel_rfl) fun C hC => ?_
  repeat (refine A1 ⟨?_⟩; intros)
  refine WP.loopS (ι := Nat) (fun j => k + j ≤ l.length ∧ j + grun isLD (l.drop (k + j)) = grun isLD (l.drop k)) (fun j => l.length - (k + j))
    (fun j => fm [(0, lit (.pointer (some ⟨r, 0, none⟩))), (1, sl [lit (.int .i64 3), lit (.int .i64 4)] 2), (5, lit (.int .i64 j))]) (fun j => [(r, rdT, rdG l k ln cl)]) 0 ⟨hk, by rw [Nat.add_zero, Nat.zero_add]⟩ (by (repeat (first | exact LeF.nil _ | refine LeF.cons (Le.refl _) ?_ | refine LeF.cons (Le.int (by omega)) ?_))) (List.Sublist.refl _) ?_
  rintro j ⟨hj, hs⟩ K hK
  by_cases hjl : k + j < l.length
  · obtain ⟨b, hd, hm, hg⟩ := at_byte hjl
    have hb := b.toNat_lt
    have c1 := classOf_pu (b := b.toNat) (by omega)
    have hgo : isLD (clsN b.toNat) = true → ∀ F' H', LeF F' (fm [(0, lit (.pointer (some ⟨r, 0, none⟩))), (1, sl [lit (.int .i64 3), lit (.int .i64 4)] 2), (5, lit (.int .i64 (j + 1 : Nat)))]) → [(r, rdT, rdG l k ln cl)].Sublist H' → K F' H' := fun ht F' H' => hK F' H' (j + 1) ⟨by omega, by
      rw [hd, grun_t ht] at hs
      rw [show k + (j + 1) = k + j + 1 by omega]; omega⟩ (by omega)
    have hst : isLD (clsN b.toNat) = false → j = grun isLD (l.drop k) := fun hf => by
      rw [hd, grun_f hf] at hs
      omega
    rw [← hg] at c1 hgo hst
    clear hK hs
    generalize clsN (l.getD (k + j) 0).toNat = cc at *
    by_cases h3 : cc = 3
    · subst h3
      replace hgo := hgo rfl
      clear hst
      repeat (first | (refine A1 ⟨?_⟩; intros) | (refine Wcx (c1) ?_) | (refine Wdcx (c1) ?_) | (refine Wcgx (c1) ?_) | (refine Wdcgx (c1) ?_))
      refine WP.unroll 3 ?_
      refine WPR.succ ?_
      repeat (refine A1 ⟨?_⟩; intros)
      refine Wo (ov_idxS (cs' := [lit (.int .i64 3)]) rfl rfl (by omega) (by omega) rfl (by simp)) ?_
      repeat (refine A1 ⟨?_⟩; intros)
      exact hgo _ _ (by (repeat (first | exact LeF.nil _ | refine LeF.cons (Le.refl _) ?_ | refine LeF.cons (Le.int (by omega)) ?_))) (List.Sublist.refl _)
    by_cases h4 : cc = 4
    · subst h4
      replace hgo := hgo rfl
      clear hst
      repeat (first | (refine A1 ⟨?_⟩; intros) | (refine Wcx (c1) ?_) | (refine Wdcx (c1) ?_) | (refine Wcgx (c1) ?_) | (refine Wdcgx (c1) ?_))
      refine WP.unroll 3 ?_
      refine WPR.succ ?_
      repeat (refine A1 ⟨?_⟩; intros)
      refine Wo (ov_idxS (cs' := [lit (.int .i64 3)]) rfl rfl (by omega) (by omega) rfl (by simp)) ?_
      repeat (refine A1 ⟨?_⟩; intros)
      refine Wo (ov_idxS (cs' := [lit (.int .i64 4)]) rfl rfl (by omega) (by omega) rfl (by simp)) ?_
      repeat (refine A1 ⟨?_⟩; intros)
      exact hgo _ _ (by (repeat (first | exact LeF.nil _ | refine LeF.cons (Le.refl _) ?_ | refine LeF.cons (Le.int (by omega)) ?_))) (List.Sublist.refl _)
    · have hj' := hst (by unfold isLD; rw [decide_eq_false h3, decide_eq_false h4]; rfl)
      subst hj'
      clear hst hgo
      repeat (first | (refine A1 ⟨?_⟩; intros) | (refine Wcx (c1) ?_) | (refine Wdcx (c1) ?_) | (refine Wcgx (c1) ?_) | (refine Wdcgx (c1) ?_))
      refine WP.unroll 3 ?_
      refine WPR.succ ?_
      repeat (refine A1 ⟨?_⟩; intros)
      refine Wo (ov_idxS (cs' := [lit (.int .i64 3)]) rfl rfl (by omega) (by omega) rfl (by simp)) ?_
      repeat (refine A1 ⟨?_⟩; intros)
      refine Wo (ov_idxS (cs' := [lit (.int .i64 4)]) rfl rfl (by omega) (by omega) rfl (by simp)) ?_
      repeat (refine A1 ⟨?_⟩; intros)
      exact endHR _ _ (end1 (RV.tmp rfl) (Le.refl _)) (List.Sublist.refl _) ⟨rfl, rfl⟩
  · rw [List.drop_eq_nil_of_le (by omega)] at hs
    have hj' : j = grun isLD (l.drop k) := by unfold grun at hs ⊢; simpa using hs
    subst hj'
    clear hK
    repeat (refine A1 ⟨?_⟩; intros)
    exact endHR _ _ (end1 (RV.tmp rfl) (Le.refl _)) (List.Sublist.refl _) ⟨rfl, rfl⟩
set_option maxHeartbeats 4000000 in
theorem grunD_pu (r : Nat) (l : List UInt8) (k ln cl : Nat) (hk : k ≤ l.length) (hl : l.length ≤ 100000) :
    PuH Tryz.prog 204 [lit (.pointer (some ⟨r, 0, none⟩)), sl [lit (.int .i64 4)] 1] [(r, rdT, rdG l k ln cl)] (fun v H => v = lit (.int .i64 (grun isD (l.drop k) : Nat)) ∧ H = [(r, rdT, rdG l k ln cl)]) noX := by
  refine PuH.intro Tryz.func204 rfl (by kernel_rfl) fun C hC => ?_
  repeat (refine A1 ⟨?_⟩; intros)
  refine WP.loopS (ι := Nat) (fun j => k + j ≤ l.length ∧ j + grun isD (l.drop (k + j)) = grun isD (l.drop k)) (fun j => l.length - (k + j))
    (fun j => fm [(0, lit (.pointer (some ⟨r, 0, none⟩))), (1, sl [lit (.int .i64 4)] 1), (5, lit (.int .i64 j))]) (fun j => [(r, rdT, rdG l k ln cl)]) 0 ⟨hk, by rw [Nat.add_zero, Nat.zero_add]⟩ (by (repeat (first | exact LeF.nil _ | refine LeF.cons (Le.refl _) ?_ | refine LeF.cons (Le.int (by omega)) ?_))) (List.Sublist.refl _) ?_
  rintro j ⟨hj, hs⟩ K hK
  by_cases hjl : k + j < l.length
  · obtain ⟨b, hd, hm, hg⟩ := at_byte hjl
    have hb := b.toNat_lt
    have c1 := classOf_pu (b := b.toNat) (by omega)
    have hgo : isD (clsN b.toNat) = true → ∀ F' H', LeF F' (fm [(0, lit (.pointer (some ⟨r, 0, none⟩))), (1, sl [lit (.int .i64 4)] 1), (5, lit (.int .i64 (j + 1 : Nat)))]) → [(r, rdT, rdG l k ln cl)].Sublist H' → K F' H' := fun ht F' H' => hK F' H' (j + 1) ⟨by omega, by
      rw [hd, grun_t ht] at hs
      rw [show k + (j + 1) = k + j + 1 by omega]; omega⟩ (by omega)
    have hst : isD (clsN b.toNat) = false → j = grun isD (l.drop k) := fun hf => by
      rw [hd, grun_f hf] at hs
      omega
    rw [← hg] at c1 hgo hst
    clear hK hs
    generalize clsN (l.getD (k + j) 0).toNat = cc at *
    by_cases h4 : cc = 4
    · subst h4
      replace hgo := hgo rfl
      clear hst
      repeat (first | (refine A1 ⟨?_⟩; intros) | (refine Wcx (c1) ?_) | (refine Wdcx (c1) ?_) | (refine Wcgx (c1) ?_) | (refine Wdcgx (c1) ?_))
      refine WP.unroll 2 ?_
      refine WPR.succ ?_
      repeat (refine A1 ⟨?_⟩; intros)
      refine Wo (ov_idxS (cs' := [lit (.int .i64 4)]) rfl rfl (by omega) (by omega) rfl (by simp)) ?_
      repeat (refine A1 ⟨?_⟩; intros)
      exact hgo _ _ (by (repeat (first | exact LeF.nil _ | refine LeF.cons (Le.refl _) ?_ | refine LeF.cons (Le.int (by omega)) ?_))) (List.Sublist.refl _)
    · have hj' := hst (by unfold isD; rw [decide_eq_false h4])
      subst hj'
      clear hst hgo
      repeat (first | (refine A1 ⟨?_⟩; intros) | (refine Wcx (c1) ?_) | (refine Wdcx (c1) ?_) | (refine Wcgx (c1) ?_) | (refine Wdcgx (c1) ?_))
      refine WP.unroll 2 ?_
      refine WPR.succ ?_
      repeat (refine A1 ⟨?_⟩; intros)
      refine Wo (ov_idxS (cs' := [lit (.int .i64 4)]) rfl rfl (by omega) (by omega) rfl (by simp)) ?_
      repeat (refine A1 ⟨?_⟩; intros)
      exact endHR _ _ (end1 (RV.tmp rfl) (Le.refl _)) (List.Sublist.refl _) ⟨rfl, rfl⟩
  · rw [List.drop_eq_nil_of_le (by omega)] at hs
    have hj' : j = grun isD (l.drop k) := by unfold grun at hs ⊢; simpa using hs
    subst hj'
    clear hK
    repeat (refine A1 ⟨?_⟩; intros)
    exact endHR _ _ (end1 (RV.tmp rfl) (Le.refl _)) (List.Sublist.refl _) ⟨rfl, rfl⟩
def eg : Nat → Nat
  | 1 => 4
  | 2 => 3
  | _ => 5
abbrev erC (e : Er) : List SV := [lit (sent (eg e.k)), lit (.int .i64 e.l), lit (.int .i64 e.c), str e.t]
abbrev erSV (e : Er) : SV := ifc 32 (pt (erC e))
set_option maxHeartbeats 8000000 in
theorem gnext_pu [Sent 3] [Sent 4] (r : Nat) (l : List UInt8) (k ln cl : Nat) (hk : k ≤ l.length) (hl : l.length ≤ 100000) (hln : ln ≤ k + 1) (hcl : cl ≤ k + 1) :
    PuH Tryz.prog 145 [lit (.pointer (some ⟨r, 0, none⟩))] [(r, rdT, rdG l k ln cl)] (fun v H => match gnx (l.drop k) ln cl with
      | .ok (t, n) => v = Ab.tup [ag (tkx t), lit .nilIface] ∧ H = [(r, rdT, rdG l (k + n) t.l (t.c + t.t.length))]
      | .error e => v = Ab.tup [ag (tkx ⟨0, [], 0, 0⟩), erSV e]) noX := by
  have hsk := gsk_le false (l.drop k) ln cl
  rw [List.length_drop] at hsk
  have c0 := gskip_pu r l k ln cl hk hl hln hcl
  have hbd := gsk_bd false (l.drop k) ln cl k hln hcl
  have hhd := gsk_head false (l.drop k) ln cl
  unfold gnx
  rw [List.drop_drop] at hhd ⊢
  generalize gsk false (l.drop k) ln cl = q at *
  obtain ⟨q, lq, cq⟩ := q
  simp only at hsk c0 hbd hhd ⊢
  obtain ⟨hlq, hcq⟩ := hbd
  have ha : k + q ≤ l.length := by omega
  clear hsk
  obtain ⟨a, hqa⟩ : ∃ a, a = k + q := ⟨_, rfl⟩
  rw [← hqa] at ha c0 hlq hcq hhd ⊢
  by_cases hal : a < l.length
  case neg =>
    rw [List.drop_eq_nil_of_le (by omega)]
    refine PuH.intro Tryz.func145 rfl (by kernel_rfl) fun C hC => ?_
    repeat (refine A1 ⟨?_⟩; intros)
    refine WfT c0 ?_
    rintro _ _ ⟨rfl, rfl⟩
    simp only [List.cons_append, List.nil_append]
    repeat (refine A1 ⟨?_⟩; intros)
    exact endHR _ [(r, rdT, rdG l a lq cq)] (end2 (RV.cellA rfl (by repeat (first | exact List.mem_cons_self | apply List.mem_cons_of_mem)) rfl rfl) (RV.tmp rfl) (Le.refl _)) (by repeat (first | exact List.Sublist.refl _ | refine List.Sublist.cons _ ?_)) ⟨rfl, by rw [← hqa]; rfl⟩
  obtain ⟨b, hd, hm, hg⟩ := at_byte hal
  obtain ⟨hh1, hh2⟩ := hhd b _ hd
  clear hhd hm
  have hb := b.toNat_lt
  have c1 := classOf_pu (b := b.toNat) (by omega)
  by_cases h3 : clsN b.toNat = 3
  · rw [hd]
    simp only
    rw [if_pos h3, ← hd]
    rw [h3, ← hg] at c1
    have c2 := grun_pu r l a lq cq ha hl
    have hn1 := grun_t (p := isLD) (b := b) (by rw [h3]; rfl) (l.drop (a + 1))
    have hn2 := grun_le isLD (l.drop a)
    rw [← hd] at hn1
    rw [List.length_drop] at hn2
    have c3 := gtake_pu r l a (grun isLD (l.drop a)) lq cq (by omega) hl hcq
    have hlen : ((l.drop a).take (grun isLD (l.drop a))).length = grun isLD (l.drop a) := by rw [List.length_take, List.length_drop]; omega
    generalize grun isLD (l.drop (a + 1)) = n0 at *
    generalize grun isLD (l.drop a) = n at *
    generalize (l.drop a).take n = tx at *
    clear hd hg
    by_cases hlim : 24 < n
    · rw [if_pos hlim]
      simp only
      refine PuH.intro Tryz.func145 rfl (by kernel_rfl) fun C hC => ?_
      repeat (refine A1 ⟨?_⟩; intros)
      refine WfT c0 ?_
      rintro _ _ ⟨rfl, rfl⟩
      simp only [List.cons_append, List.nil_append]
      repeat (first | (refine A1 ⟨?_⟩; intros) | (refine Wcx (c1) ?_) | (refine Wdcx (c1) ?_) | (refine Wcgx (c1) ?_) | (refine Wdcgx (c1) ?_))
      refine WpubS 46 rfl (HDel.here _) (by omega) (by omega) ?_
      refine WfT c2 ?_
      rintro _ _ ⟨rfl, rfl⟩
      simp only [List.cons_append, List.nil_append]
      refine WfT c3 ?_
      rintro _ _ ⟨rfl, rfl⟩
      simp only [List.cons_append, List.nil_append]
      repeat (first | (refine AS ⟨?_⟩; intros) | (refine O1 ⟨?_⟩; intros))
      rename_i b2 b4 b46
      refine WP.perm (List.Perm.swap _ _ _) ?_
      refine WdM [11] [(b4, tkT, [lit (.int .i64 1), str tx, lit (.int .i64 lq), lit (.int .i64 cq)]), (r, rdT, rdG l (a + n) lq (cq + n))] (fun _ => [(b2, tkT, tkx ⟨0, [], 0, 0⟩)]) ?_
      refine MkD 11 ?_
      repeat (refine A1 ⟨?_⟩; intros)
      refine Wdo (ov_boxP (sv := ag _) rfl) ?_
      refine Wdo (ov_makeIface (s := pt _) (by kernel_rfl) rfl) ?_
      repeat (refine A1 ⟨?_⟩; intros)
      refine mkD0 ?_
      refine MkR (sv := top) (TS.store (sv := ag (tkx ⟨0, [], 0, 0⟩)) (ds := tkx ⟨0, [], 0, 0⟩) rfl rfl rfl rfl (HUpd.here _) rfl rfl) ?_
      refine MkD 1 ?_
      repeat (refine A1 ⟨?_⟩; intros)
      refine mkD0 ?_
      refine MkN ?_
      repeat (refine A1 ⟨?_⟩; intros)
      exact endHR _ [] (end2 (RV.cellA rfl (by repeat (first | exact List.mem_cons_self | apply List.mem_cons_of_mem)) rfl rfl) (RV.tmp rfl) (Le.refl _)) (List.nil_sublist _) rfl
    · rw [if_neg hlim]
      simp only
      rw [hlen]
      refine PuH.intro Tryz.func145 rfl (by kernel_rfl) fun C hC => ?_
      repeat (refine A1 ⟨?_⟩; intros)
      refine WfT c0 ?_
      rintro _ _ ⟨rfl, rfl⟩
      simp only [List.cons_append, List.nil_append]
      repeat (first | (refine A1 ⟨?_⟩; intros) | (refine Wcx (c1) ?_) | (refine Wdcx (c1) ?_) | (refine Wcgx (c1) ?_) | (refine Wdcgx (c1) ?_))
      refine WpubS 46 rfl (HDel.here _) (by omega) (by omega) ?_
      refine WfT c2 ?_
      rintro _ _ ⟨rfl, rfl⟩
      simp only [List.cons_append, List.nil_append]
      refine WfT c3 ?_
      rintro _ _ ⟨rfl, rfl⟩
      simp only [List.cons_append, List.nil_append]
      repeat (refine A1 ⟨?_⟩; intros)
      exact endHR _ [(r, rdT, rdG l (a + n) lq (cq + n))] (end2 (RV.cellA rfl (by repeat (first | exact List.mem_cons_self | apply List.mem_cons_of_mem)) rfl rfl) (RV.tmp rfl) (Le.refl _)) (by repeat (first | exact List.Sublist.refl _ | refine List.Sublist.cons _ ?_)) ⟨rfl, by rw [show k + (q + n) = a + n by omega]⟩
  by_cases h4 : clsN b.toNat = 4
  · rw [hd]
    simp only
    rw [if_neg h3]
    rw [if_pos h4, ← hd]
    rw [h4, ← hg] at c1
    have c2 := grunD_pu r l a lq cq ha hl
    have hn1 := grun_t (p := isD) (b := b) (by rw [h4]; rfl) (l.drop (a + 1))
    have hn2 := grun_le isD (l.drop a)
    rw [← hd] at hn1
    rw [List.length_drop] at hn2
    have c3 := gtake_pu r l a (grun isD (l.drop a)) lq cq (by omega) hl hcq
    have hlen : ((l.drop a).take (grun isD (l.drop a))).length = grun isD (l.drop a) := by rw [List.length_take, List.length_drop]; omega
    generalize grun isD (l.drop (a + 1)) = n0 at *
    generalize grun isD (l.drop a) = n at *
    generalize (l.drop a).take n = tx at *
    clear hd hg
    by_cases hlim : 4096 < n
    · rw [if_pos hlim]
      simp only
      refine PuH.intro Tryz.func145 rfl (by kernel_rfl) fun C hC => ?_
      repeat (refine A1 ⟨?_⟩; intros)
      refine WfT c0 ?_
      rintro _ _ ⟨rfl, rfl⟩
      simp only [List.cons_append, List.nil_append]
      repeat (first | (refine A1 ⟨?_⟩; intros) | (refine Wcx (c1) ?_) | (refine Wdcx (c1) ?_) | (refine Wcgx (c1) ?_) | (refine Wdcgx (c1) ?_))
      refine WpubS 60 rfl (HDel.here _) (by omega) (by omega) ?_
      refine WfT c2 ?_
      rintro _ _ ⟨rfl, rfl⟩
      simp only [List.cons_append, List.nil_append]
      refine WfT c3 ?_
      rintro _ _ ⟨rfl, rfl⟩
      simp only [List.cons_append, List.nil_append]
      repeat (first | (refine AS ⟨?_⟩; intros) | (refine O1 ⟨?_⟩; intros))
      rename_i b2 b4 b60
      refine WP.perm (List.Perm.swap _ _ _) ?_
      refine WdM [11] [(b4, tkT, [lit (.int .i64 2), str tx, lit (.int .i64 lq), lit (.int .i64 cq)]), (r, rdT, rdG l (a + n) lq (cq + n))] (fun _ => [(b2, tkT, tkx ⟨0, [], 0, 0⟩)]) ?_
      refine MkD 11 ?_
      repeat (refine A1 ⟨?_⟩; intros)
      refine Wdo (ov_boxP (sv := ag _) rfl) ?_
      refine Wdo (ov_makeIface (s := pt _) (by kernel_rfl) rfl) ?_
      repeat (refine A1 ⟨?_⟩; intros)
      refine mkD0 ?_
      refine MkR (sv := top) (TS.store (sv := ag (tkx ⟨0, [], 0, 0⟩)) (ds := tkx ⟨0, [], 0, 0⟩) rfl rfl rfl rfl (HUpd.here _) rfl rfl) ?_
      refine MkD 1 ?_
      repeat (refine A1 ⟨?_⟩; intros)
      refine mkD0 ?_
      refine MkN ?_
      repeat (refine A1 ⟨?_⟩; intros)
      exact endHR _ [] (end2 (RV.cellA rfl (by repeat (first | exact List.mem_cons_self | apply List.mem_cons_of_mem)) rfl rfl) (RV.tmp rfl) (Le.refl _)) (List.nil_sublist _) rfl
    · rw [if_neg hlim]
      simp only
      rw [hlen]
      refine PuH.intro Tryz.func145 rfl (by kernel_rfl) fun C hC => ?_
      repeat (refine A1 ⟨?_⟩; intros)
      refine WfT c0 ?_
      rintro _ _ ⟨rfl, rfl⟩
      simp only [List.cons_append, List.nil_append]
      repeat (first | (refine A1 ⟨?_⟩; intros) | (refine Wcx (c1) ?_) | (refine Wdcx (c1) ?_) | (refine Wcgx (c1) ?_) | (refine Wdcgx (c1) ?_))
      refine WpubS 60 rfl (HDel.here _) (by omega) (by omega) ?_
      refine WfT c2 ?_
      rintro _ _ ⟨rfl, rfl⟩
      simp only [List.cons_append, List.nil_append]
      refine WfT c3 ?_
      rintro _ _ ⟨rfl, rfl⟩
      simp only [List.cons_append, List.nil_append]
      repeat (refine A1 ⟨?_⟩; intros)
      exact endHR _ [(r, rdT, rdG l (a + n) lq (cq + n))] (end2 (RV.cellA rfl (by repeat (first | exact List.mem_cons_self | apply List.mem_cons_of_mem)) rfl rfl) (RV.tmp rfl) (Le.refl _)) (by repeat (first | exact List.Sublist.refl _ | refine List.Sublist.cons _ ?_)) ⟨rfl, by rw [show k + (q + n) = a + n by omega]⟩
  by_cases h5 : clsN b.toNat = 5
  · rw [hd]
    simp only
    rw [if_neg h3, if_neg h4, if_pos h5]
    rw [h5, ← hg] at c1
    have c3 := gtake_pu r l a 1 lq cq (by omega) hl hcq
    rw [hd, List.take_succ_cons, List.take_zero, show ((1 : Nat) : Int) = 1 from rfl] at c3
    clear hd hg
    refine PuH.intro Tryz.func145 rfl (by kernel_rfl) fun C hC => ?_
    repeat (refine A1 ⟨?_⟩; intros)
    refine WfT c0 ?_
    rintro _ _ ⟨rfl, rfl⟩
    simp only [List.cons_append, List.nil_append]
    repeat (first | (refine A1 ⟨?_⟩; intros) | (refine Wcx (c1) ?_) | (refine Wdcx (c1) ?_) | (refine Wcgx (c1) ?_) | (refine Wdcgx (c1) ?_))
    refine WfT c3 ?_
    rintro _ _ ⟨rfl, rfl⟩
    simp only [List.cons_append, List.nil_append]
    repeat (refine A1 ⟨?_⟩; intros)
    exact endHR _ [(r, rdT, rdG l (a + 1) lq (cq + 1))] (end2 (RV.cellA rfl (by repeat (first | exact List.mem_cons_self | apply List.mem_cons_of_mem)) rfl rfl) (RV.tmp rfl) (Le.refl _)) (by repeat (first | exact List.Sublist.refl _ | refine List.Sublist.cons _ ?_)) ⟨rfl, by rw [show k + (q + 1) = a + 1 by omega]; rfl⟩
  · rw [hd]
    simp only
    rw [if_neg h3, if_neg h4, if_neg h5]
    have c3 := gtake_pu r l a 1 lq cq (by omega) hl hcq
    rw [hd, List.take_succ_cons, List.take_zero, show ((1 : Nat) : Int) = 1 from rfl] at c3
    rw [← hg] at c1 h3 h4 h5 hh1 hh2
    generalize clsN (l.getD a 0).toNat = cc at *
    clear hd hg
    refine PuH.intro Tryz.func145 rfl (by kernel_rfl) fun C hC => ?_
    repeat (refine A1 ⟨?_⟩; intros)
    refine WfT c0 ?_
    rintro _ _ ⟨rfl, rfl⟩
    simp only [List.cons_append, List.nil_append]
    repeat (first | (refine A1 ⟨?_⟩; intros) | (refine Wcx (c1) ?_) | (refine Wdcx (c1) ?_) | (refine Wcgx (c1) ?_) | (refine Wdcgx (c1) ?_))
    refine WfT c3 ?_
    rintro _ _ ⟨rfl, rfl⟩
    simp only [List.cons_append, List.nil_append]
    repeat (first | (refine AS ⟨?_⟩; intros) | (refine O1 ⟨?_⟩; intros))
    rename_i b2 b4
    refine WP.perm (List.Perm.swap _ _ _) ?_
    refine WdM [11] [(b4, tkT, [lit (.int .i64 0), str [b], lit (.int .i64 lq), lit (.int .i64 cq)]), (r, rdT, rdG l (a + 1) lq (cq + 1))] (fun _ => [(b2, tkT, tkx ⟨0, [], 0, 0⟩)]) ?_
    refine MkD 11 ?_
    repeat (refine A1 ⟨?_⟩; intros)
    refine Wdo (ov_boxP (sv := ag _) rfl) ?_
    refine Wdo (ov_makeIface (s := pt _) (by kernel_rfl) rfl) ?_
    repeat (refine A1 ⟨?_⟩; intros)
    refine mkD0 ?_
    refine MkR (sv := top) (TS.store (sv := ag (tkx ⟨0, [], 0, 0⟩)) (ds := tkx ⟨0, [], 0, 0⟩) rfl rfl rfl rfl (HUpd.here _) rfl rfl) ?_
    refine MkD 1 ?_
    repeat (refine A1 ⟨?_⟩; intros)
    refine mkD0 ?_
    refine MkN ?_
    repeat (refine A1 ⟨?_⟩; intros)
    exact endHR _ [] (end2 (RV.cellA rfl (by repeat (first | exact List.mem_cons_self | apply List.mem_cons_of_mem)) rfl rfl) (RV.tmp rfl) (Le.refl _)) (List.nil_sublist _) rfl
section
variable {P : Program} {C : Ctx} {n : Nat} {F : Fr} {H : LH} {ops : Array Oper} {K : Fr → LH → Prop} {rest : List Oper} {ty : TypeId} {pos : String} {aft : Array Edge}
theorem WpanF {x : Operand} {t : TypeId} {s : SV} (hx : ev F x = ifc t s) (kx : C.pan (ifc t s) H) {d : Option Nat} : WPL P C n ops (⟨d, .panic x, ty, pos, aft, none⟩ :: rest) K F H := by
  unfold WPL
  intro a w hst Q hq
  obtain ⟨hdef, hn, m, h1, h2, h3, h4, h5⟩ := hst
  have hp : ∀ x, (ev F x).p m (a.eval x) := fun x => by
    cases x with
    | tmp t => exact h5 t
    | const v => unfold ev lit; rfl
    | global g => unfold ev lit; rfl
    | func f => unfold ev lit; rfl
  have e0 := hp x; rw [hx] at e0
  have e0' := e0
  unfold ifc at e0'
  obtain ⟨u, e0', _⟩ := e0'
  refine wpList_plain rfl fun K' hK' => ?_
  unfold Oper.wp
  have hrun : (execOp a.eval (⟨d, .panic x, ty, pos, aft, none⟩ : Oper)).run P w = .halt (.panic (a.eval x)) w := by
    simp [execOp, e0', Instr.panic]
  rw [hrun]
  exact hq.pan _ _ _ ⟨hdef, m, _, ifc t s, H, rfl, h1, h2, h3, h4, e0, kx⟩
theorem WpubI {l : List Oper} {b : Nat} {T t : TypeId} {cs : List SV} {H' : LH} (d : Nat) (hv : F d = lit (.iface t (.pointer (some ⟨b, 0, none⟩)))) (hdel : HDel b T cs H H')
    (h : WPL P C n ops l K (upd F d (ifc t (pt cs))) H') : WPL P C n ops l K F H :=
  WPL.pub hdel hv (fun m arr hm ha => by unfold ifc; exact ⟨_, rfl, pub_pt m arr hm ha⟩) h
end
theorem gfail_pu (s : SV) (hco : CO s [s]) (p : Nat) (a : Tok) (r : List Tok) (d : Nat) (hr : r.length ≤ 1000000) (k : Nat) : PuH Tryz.prog 93 [lit (.pointer (some ⟨p, 0, none⟩)), lit (sent (eg k))] [(p, psT, psC (a :: r) d s)] (fun _ _ => False) (fun pv _ => pv = erSV (ger k (a :: r))) := by
  have c := pnext_pu s hco a r d hr
  refine PuH.intro Tryz.func93 rfl (by kernel_rfl) fun C hC => ?_
  repeat (refine A1 ⟨?_⟩; intros)
  refine Wo (ov_callT c rfl (by repeat (first | exact List.mem_cons_self | apply List.mem_cons_of_mem))) ?_
  repeat (refine A1 ⟨?_⟩; intros)
  refine WpubI 16 rfl (HDel.here _) ?_
  refine WpanF (t := 32) (s := pt _) rfl ?_
  rw [hC]
  rfl
theorem gis_pu (s : SV) (hco : CO s [s]) (a : Tok) (r : List Tok) (d : Nat) (hr : r.length ≤ 1000000) (w : List UInt8) :
    PuM Tryz.prog 154 psT (fun p => [lit (.pointer (some ⟨p, 0, none⟩)), str w]) (psC (a :: r) d s) (fun _ : Unit => psC (a :: r) d s) (fun _ => lit (.bool (gis (a :: r) w))) := by
  have c := pnext_pu s hco a r d hr
  rw [gis_cons]
  by_cases hw' : a.t = w
  · rw [decide_eq_true hw', Bool.and_true]
    by_cases h1 : a.k = 1
    · rw [decide_eq_true h1, Bool.true_or]
      refine PuM.intro Tryz.func154 rfl (by kernel_rfl) fun C b => ?_
      repeat (refine A1 ⟨?_⟩; intros)
      refine Wo (ov_callT c rfl (by repeat (first | exact List.mem_cons_self | apply List.mem_cons_of_mem))) ?_
      repeat (refine A1 ⟨?_⟩; intros)
      exact endMR () _ (end1 (RV.tmp rfl) (Le.refl _)) (by repeat (first | exact List.mem_cons_self | apply List.mem_cons_of_mem)) (LeL.refl _)
    · by_cases h3 : a.k = 3
      · rw [decide_eq_false h1, decide_eq_true h3, Bool.false_or]
        refine PuM.intro Tryz.func154 rfl (by kernel_rfl) fun C b => ?_
        repeat (refine A1 ⟨?_⟩; intros)
        refine Wo (ov_callT c rfl (by repeat (first | exact List.mem_cons_self | apply List.mem_cons_of_mem))) ?_
        repeat (refine A1 ⟨?_⟩; intros)
        exact endMR () _ (end1 (RV.tmp rfl) (Le.refl _)) (by repeat (first | exact List.mem_cons_self | apply List.mem_cons_of_mem)) (LeL.refl _)
      · rw [decide_eq_false h1, decide_eq_false h3, Bool.false_or]
        refine PuM.intro Tryz.func154 rfl (by kernel_rfl) fun C b => ?_
        repeat (refine A1 ⟨?_⟩; intros)
        refine Wo (ov_callT c rfl (by repeat (first | exact List.mem_cons_self | apply List.mem_cons_of_mem))) ?_
        repeat (refine A1 ⟨?_⟩; intros)
        exact endMR () _ (end1 (RV.tmp rfl) (Le.refl _)) (by repeat (first | exact List.mem_cons_self | apply List.mem_cons_of_mem)) (LeL.refl _)
  · rw [decide_eq_false hw', Bool.and_false]
    refine PuM.intro Tryz.func154 rfl (by kernel_rfl) fun C b => ?_
    repeat (refine A1 ⟨?_⟩; intros)
    refine Wo (ov_callT c rfl (by repeat (first | exact List.mem_cons_self | apply List.mem_cons_of_mem))) ?_
    repeat (refine A1 ⟨?_⟩; intros)
    exact endMR () _ (end1 (RV.tmp rfl) (Le.refl _)) (by repeat (first | exact List.mem_cons_self | apply List.mem_cons_of_mem)) (LeL.refl _)
theorem gexpect_pu [Sent 4] (s : SV) (hco : CO s [s]) (p : Nat) (a : Tok) (r : List Tok) (d : Nat) (hr : r.length ≤ 1000000) (w : List UInt8) :
    PuH Tryz.prog 100 [lit (.pointer (some ⟨p, 0, none⟩)), str w] [(p, psT, psC (a :: r) d s)] (fun v H => gexpect w (a :: r) = .ok r ∧ gis (a :: r) w = true ∧ v = Ab.tup [] ∧ H = [(p, psT, psC r d s)]) (fun pv _ => gexpect w (a :: r) = .error (ger 1 (a :: r)) ∧ pv = erSV (ger 1 (a :: r))) := by
  have c := gis_pu s hco a r d hr w
  have c3 := gfail_pu s hco p a r d hr 1
  unfold gexpect
  cases h : gis (a :: r) w with
  | true =>
    rw [h] at c
    refine PuH.intro Tryz.func100 rfl (by kernel_rfl) fun C hC => ?_
    repeat (refine A1 ⟨?_⟩; intros)
    refine Wo (ov_callT c rfl (by repeat (first | exact List.mem_cons_self | apply List.mem_cons_of_mem))) ?_
    repeat (refine A1 ⟨?_⟩; intros)
    refine WfT (ptake_pu s hco p a r d hr) ?_
    rintro _ _ ⟨rfl, rfl⟩
    simp only [List.cons_append, List.nil_append]
    repeat (refine A1 ⟨?_⟩; intros)
    exact endHN _ _ end0 (List.Sublist.refl _) ⟨by trivial, by trivial, rfl, rfl⟩
  | false =>
    rw [h] at c
    refine PuH.intro Tryz.func100 rfl (by kernel_rfl) fun C hC => ?_
    repeat (refine A1 ⟨?_⟩; intros)
    refine Wo (ov_callT c rfl (by repeat (first | exact List.mem_cons_self | apply List.mem_cons_of_mem))) ?_
    repeat (refine A1 ⟨?_⟩; intros)
    refine WfX c3 ?_ ?_
    · rintro _ _ ⟨⟩
    · rintro _ _ h
      rw [hC]
      exact ⟨rfl, h⟩
theorem gaccept_pu (s : SV) (hco : CO s [s]) (p : Nat) (a : Tok) (r : List Tok) (d : Nat) (hr : r.length ≤ 1000000) (w : List UInt8) :
    PuH Tryz.prog 208 [lit (.pointer (some ⟨p, 0, none⟩)), str w] [(p, psT, psC (a :: r) d s)] (fun v H => v = lit (.bool (gis (a :: r) w)) ∧ H = [(p, psT, psC (if gis (a :: r) w = true then r else a :: r) d s)]) noX := by
  have c := gis_pu s hco a r d hr w
  cases h : gis (a :: r) w with
  | true =>
    rw [h] at c
    refine PuH.intro Tryz.func208 rfl (by kernel_rfl) fun C hC => ?_
    repeat (refine A1 ⟨?_⟩; intros)
    refine Wo (ov_callT c rfl (by repeat (first | exact List.mem_cons_self | apply List.mem_cons_of_mem))) ?_
    repeat (refine A1 ⟨?_⟩; intros)
    refine WfT (ptake_pu s hco p a r d hr) ?_
    rintro _ _ ⟨rfl, rfl⟩
    simp only [List.cons_append, List.nil_append]
    repeat (refine A1 ⟨?_⟩; intros)
    exact endHR _ _ (end1 (RV.tmp rfl) (Le.refl _)) (List.Sublist.refl _) ⟨rfl, rfl⟩
  | false =>
    rw [h] at c
    refine PuH.intro Tryz.func208 rfl (by kernel_rfl) fun C hC => ?_
    repeat (refine A1 ⟨?_⟩; intros)
    refine Wo (ov_callT c rfl (by repeat (first | exact List.mem_cons_self | apply List.mem_cons_of_mem))) ?_
    repeat (refine A1 ⟨?_⟩; intros)
    exact endHR _ _ (end1 (RV.tmp rfl) (Le.refl _)) (List.Sublist.refl _) ⟨rfl, rfl⟩
theorem gname_pu [Sent 4] (s : SV) (hco : CO s [s]) (p : Nat) (a : Tok) (r : List Tok) (d : Nat) (hr : r.length ≤ 1000000) : PuH Tryz.prog 149 [lit (.pointer (some ⟨p, 0, none⟩))] [(p, psT, psC (a :: r) d s)]
    (fun v H => (a.k = 1 ∧ resv a.t = false) ∧ v = str a.t ∧ H = [(p, psT, psC r d s)]) (fun pv _ => ¬(a.k = 1 ∧ resv a.t = false) ∧ pv = erSV (ger 1 (a :: r))) := by
  have c := pisName_pu s hco a r d hr
  have c3 := gfail_pu s hco p a r d hr 1
  by_cases h : a.k = 1 ∧ resv a.t = false
  · rw [decide_eq_true h] at c
    have h' := h
    clear h
    have h := (show Hid _ from h')
    clear h'
    refine PuH.intro Tryz.func149 rfl (by kernel_rfl) fun C hC => ?_
    repeat (refine A1 ⟨?_⟩; intros)
    refine Wo (ov_callT c rfl (by repeat (first | exact List.mem_cons_self | apply List.mem_cons_of_mem))) ?_
    repeat (refine A1 ⟨?_⟩; intros)
    refine WfT (ptake_pu s hco p a r d hr) ?_
    rintro _ _ ⟨rfl, rfl⟩
    simp only [List.cons_append, List.nil_append]
    repeat (refine A1 ⟨?_⟩; intros)
    exact endHR _ _ (end1 (RV.tmp rfl) (Le.refl _)) (List.Sublist.refl _) ⟨h, rfl, rfl⟩
  · rw [decide_eq_false h] at c
    have h' := h
    clear h
    have h := (show Hid _ from h')
    clear h'
    refine PuH.intro Tryz.func149 rfl (by kernel_rfl) fun C hC => ?_
    repeat (refine A1 ⟨?_⟩; intros)
    refine Wo (ov_callT c rfl (by repeat (first | exact List.mem_cons_self | apply List.mem_cons_of_mem))) ?_
    repeat (refine A1 ⟨?_⟩; intros)
    refine WfX c3 ?_ ?_
    · rintro _ _ ⟨⟩
    · rintro _ _ hx
      rw [hC]
      exact ⟨h, hx⟩
theorem gnumber_pu [Sent 4] (s : SV) (hco : CO s [s]) (p : Nat) (a : Tok) (r : List Tok) (d : Nat) (hr : r.length ≤ 1000000) : PuH Tryz.prog 148 [lit (.pointer (some ⟨p, 0, none⟩))] [(p, psT, psC (a :: r) d s)]
    (fun v H => a.k = 2 ∧ v = str a.t ∧ H = [(p, psT, psC r d s)]) (fun pv _ => a.k ≠ 2 ∧ pv = erSV (ger 1 (a :: r))) := by
  have c := pnext_pu s hco a r d hr
  have c3 := gfail_pu s hco p a r d hr 1
  by_cases hk : a.k = 2
  · refine PuH.intro Tryz.func148 rfl (by kernel_rfl) fun C hC => ?_
    repeat (refine A1 ⟨?_⟩; intros)
    refine Wo (ov_callT c rfl (by repeat (first | exact List.mem_cons_self | apply List.mem_cons_of_mem))) ?_
    repeat (refine A1 ⟨?_⟩; intros)
    refine WfT (ptake_pu s hco p a r d hr) ?_
    rintro _ _ ⟨rfl, rfl⟩
    simp only [List.cons_append, List.nil_append]
    repeat (refine A1 ⟨?_⟩; intros)
    exact endHR _ _ (end1 (RV.tmp rfl) (Le.refl _)) (List.Sublist.refl _) ⟨hk, rfl, rfl⟩
  · refine PuH.intro Tryz.func148 rfl (by kernel_rfl) fun C hC => ?_
    repeat (refine A1 ⟨?_⟩; intros)
    refine Wo (ov_callT c rfl (by repeat (first | exact List.mem_cons_self | apply List.mem_cons_of_mem))) ?_
    repeat (refine A1 ⟨?_⟩; intros)
    refine WfX c3 ?_ ?_
    · rintro _ _ ⟨⟩
    · rintro _ _ hx
      rw [hC]
      exact ⟨hk, hx⟩
theorem GOk.num {a : Tok} {r : List Tok} (h : GOk (a :: r)) (hk : a.k = 2) : allD a.t ∧ a.t ≠ [] ∧ a.t.length ≤ 4096 := by
  obtain ⟨a', r', e, hg⟩ := h.cons
  cases e
  rcases hg with ⟨h, _⟩ | h | ⟨_, h⟩ | h
  · omega
  · omega
  · exact h
  · omega
theorem sgnT_ap (neg : Bool) (l : List UInt8) : sgnT neg [] ++ l = sgnT neg l := by cases neg <;> rfl
theorem sgn_mk (n : Nat) : (mkRat (sv false n) 1).num.sign = if n = 0 then 0 else 1 := by
  have e : mkRat (sv false n) 1 = ((n : Int) : Rat) := by rw [Rat.mkRat_one]; rfl
  rw [e, Rat.num_intCast]
  cases n with
  | zero => rfl
  | succ n => rfl
theorem gnum_k {a : Tok} {r : List Tok} (h : a.k = 2) : gnum (a :: r) = .ok (a.t, r) := if_pos h
theorem gnum_e {a : Tok} {r : List Tok} (h : a.k ≠ 2) : gnum (a :: r) = .error (ger 1 (a :: r)) := if_neg h
theorem gratS_ok {neg : Bool} {a : Tok} {r : List Tok} (hk : a.k = 2) (h47 : gis r [47] = false) : gratS neg (a :: r) = .ok (mkRat (sv neg (dcv a.t)) 1, r) := by
  rw [gratS, gnum_k hk]
  exact if_neg (fun h => by rw [h47] at h; cases h)
theorem gratS_e {neg : Bool} {a : Tok} {r : List Tok} (hk : a.k ≠ 2) : gratS neg (a :: r) = .error (ger 1 (a :: r)) := by
  rw [gratS, gnum_e hk]
theorem gratS_s {neg : Bool} {a b c : Tok} {r : List Tok} (hk : a.k = 2) (h47 : gis (b :: c :: r) [47] = true) : gratS neg (a :: b :: c :: r) = if c.k = 2 then (if dcv c.t = 0 then .error (ger 3 (c :: r)) else .ok (mkRat (sv neg (dcv a.t)) (dcv c.t), r)) else .error (ger 1 (c :: r)) := by
  rw [gratS, gnum_k hk]
  dsimp only
  rw [if_pos h47, List.tail_cons]
  by_cases hc : c.k = 2
  · rw [if_pos hc, gnum_k hc]
  · rw [if_neg hc, gnum_e hc]
set_option maxHeartbeats 4000000 in
theorem gratA_pu [Sent 4] [Sent 5] (s : SV) (hco : CO s [s]) (p : Nat) (neg : Bool) (ts ts2 : List Tok) (hG : GOk ts2) (d : Nat) (hr : ts2.length ≤ 1000000)
    (c : PuH Tryz.prog 208 [lit (.pointer (some ⟨p, 0, none⟩)), str [45]] [(p, psT, psC ts d s)] (fun v H => v = lit (.bool neg) ∧ H = [(p, psT, psC ts2 d s)]) noX) :
    PuH Tryz.prog 205 [lit (.pointer (some ⟨p, 0, none⟩))] [(p, psT, psC ts d s)] (fun v H => ∃ x ts', gratS neg ts2 = .ok (x, ts') ∧ v = q x ∧ H = [(p, psT, psC ts' d s)]) (fun pv _ => ∃ e, gratS neg ts2 = .error e ∧ pv = erSV e) := by
  obtain ⟨a, r, rfl, -⟩ := hG.cons
  simp only [List.length_cons] at hr
  have c1 := gnumber_pu s hco p a r d (by omega)
  have e1 := fun l h1 h2 h3 => rparse_i neg l h1 h2 h3
  have e2 := fun l r h1 h2 h3 h4 h5 h6 h7 => rparse_f neg l r h1 h2 h3 h4 h5 h6 h7
  cases neg <;>
  · refine PuH.intro Tryz.func205 rfl (by kernel_rfl) fun C hC => ?_
    repeat (refine A1 ⟨?_⟩; intros)
    refine WfT c ?_
    rintro _ _ ⟨rfl, rfl⟩
    simp only [List.cons_append, List.nil_append]
    repeat (refine A1 ⟨?_⟩; intros)
    refine WfX c1 ?_ ?_
    · rintro _ _ ⟨hk, rfl, rfl⟩
      simp only [List.cons_append, List.nil_append]
      obtain ⟨n1, n2, n3⟩ := hG.num hk
      replace hG := hG.tail (by omega)
      obtain ⟨b, r1, rfl, -⟩ := hG.cons
      simp only [List.length_cons] at hr
      repeat (refine A1 ⟨?_⟩; intros)
      first | refine Wo (ov_sadd (a := sgnT true []) (b := a.t) rfl rfl (by simp [sgnT]; omega)) ?_ | refine Wo (ov_sadd (a := sgnT false []) (b := a.t) rfl rfl (by simp [sgnT]; omega)) ?_
      rw [sgnT_ap]
      have c2 := gaccept_pu s hco p b r1 d (by omega) [47]
      cases h47 : gis (b :: r1) [47] with
      | false =>
        rw [h47, if_neg (by decide)] at c2
        have c3 := e1 a.t n1 n2 n3
        repeat (refine A1 ⟨?_⟩; intros)
        refine WfT c2 ?_
        rintro _ _ ⟨rfl, rfl⟩
        simp only [List.cons_append, List.nil_append]
        repeat (first | (refine A1 ⟨?_⟩; intros) | (refine Wcx (c3) ?_) | (refine Wdcx (c3) ?_) | (refine Wcgx (c3) ?_) | (refine Wdcgx (c3) ?_))
        exact endHR _ [(p, psT, psC (b :: r1) d s)] (end1 (RV.cellA rfl (by repeat (first | exact List.mem_cons_self | apply List.mem_cons_of_mem)) rfl rfl) (Le.refl _)) (by repeat (first | exact List.Sublist.refl _ | refine List.Sublist.cons _ ?_)) ⟨_, _, gratS_ok hk h47, rfl, rfl⟩
      | true =>
        obtain ⟨e, r2, rfl, -⟩ := (hG.next h47).cons
        replace hG := hG.next h47
        simp only [List.length_cons] at hr
        rw [h47, if_pos rfl] at c2
        have c4 := gnumber_pu s hco p e r2 d (by omega)
        repeat (refine A1 ⟨?_⟩; intros)
        refine WfT c2 ?_
        rintro _ _ ⟨rfl, rfl⟩
        simp only [List.cons_append, List.nil_append]
        repeat (refine A1 ⟨?_⟩; intros)
        refine WfX c4 ?_ ?_
        · rintro _ _ ⟨hk', rfl, rfl⟩
          obtain ⟨m1, m2, m3⟩ := hG.num hk'
          have c5 := rparse_i false e.t m1 m2 m3
          rw [show sgnT false e.t = e.t from rfl] at c5
          simp only [List.cons_append, List.nil_append]
          have c6 := rsign_pu (mkRat (sv false (dcv e.t)) 1) (by have := q_ht (neg := false) (n := dcv e.t) (d := 1) (dcv_len m1 m3) (by rw [dgs_one]; decide); omega)
          rw [sgn_mk] at c6
          by_cases h0 : dcv e.t = 0
          · rw [if_pos h0] at c6
            repeat (first | (refine A1 ⟨?_⟩; intros) | (refine Wcx (c5) ?_) | (refine Wdcx (c5) ?_) | (refine Wcgx (c5) ?_) | (refine Wdcgx (c5) ?_) | (refine Wcx (c6) ?_) | (refine Wdcx (c6) ?_) | (refine Wcgx (c6) ?_) | (refine Wdcgx (c6) ?_))
            refine WfX (gfail_pu s hco p e r2 d (by omega) 3) ?_ ?_
            · rintro _ _ ⟨⟩
            · rintro _ _ hx
              rw [hC]
              exact ⟨_, (gratS_s hk h47).trans ((if_pos hk').trans (if_pos h0)), hx⟩
          · rw [if_neg h0] at c6
            have c7 := e2 a.t e.t n1 n2 n3 m1 m2 m3 h0
            repeat (first | (refine A1 ⟨?_⟩; intros) | (refine Wcx (c5) ?_) | (refine Wdcx (c5) ?_) | (refine Wcgx (c5) ?_) | (refine Wdcgx (c5) ?_) | (refine Wcx (c6) ?_) | (refine Wdcx (c6) ?_) | (refine Wcgx (c6) ?_) | (refine Wdcgx (c6) ?_))
            refine Wo (ov_sadd (a := [47]) (b := e.t) rfl rfl (by simp; omega)) ?_
            refine Wo (ov_sadd (a := sgnT _ a.t) (b := [47] ++ e.t) rfl rfl (by simp [sgnT]; omega)) ?_
            repeat (first | (refine A1 ⟨?_⟩; intros) | (refine Wcx (c7) ?_) | (refine Wdcx (c7) ?_) | (refine Wcgx (c7) ?_) | (refine Wdcgx (c7) ?_))
            exact endHR _ [(p, psT, psC r2 d s)] (end1 (RV.cellA rfl (by repeat (first | exact List.mem_cons_self | apply List.mem_cons_of_mem)) rfl rfl) (Le.refl _)) (by repeat (first | exact List.Sublist.refl _ | refine List.Sublist.cons _ ?_)) ⟨_, _, (gratS_s hk h47).trans ((if_pos hk').trans (if_neg h0)), rfl, rfl⟩
        · rintro _ _ ⟨hk', hx⟩
          rw [hC]
          exact ⟨_, (gratS_s hk h47).trans (if_neg hk'), hx⟩
    · rintro _ _ ⟨hk, hx⟩
      rw [hC]
      exact ⟨_, gratS_e hk, hx⟩
theorem grational_pu [Sent 4] [Sent 5] (s : SV) (hco : CO s [s]) (p : Nat) (ts : List Tok) (hG : GOk ts) (d : Nat) (hr : ts.length ≤ 1000000) :
    PuH Tryz.prog 205 [lit (.pointer (some ⟨p, 0, none⟩))] [(p, psT, psC ts d s)] (fun v H => ∃ x ts', grat ts = .ok (x, ts') ∧ v = q x ∧ H = [(p, psT, psC ts' d s)]) (fun pv _ => ∃ e, grat ts = .error e ∧ pv = erSV e) := by
  obtain ⟨a, r, rfl, -⟩ := hG.cons
  have hr' := hr
  simp only [List.length_cons] at hr'
  have c := gaccept_pu s hco p a r d (by omega) [45]
  unfold grat
  cases h : gis (a :: r) [45] with
  | true =>
    rw [h, if_pos rfl] at c
    simp only [if_pos, List.tail_cons]
    exact gratA_pu s hco p true _ _ (hG.next h) d (by omega) c
  | false =>
    rw [h, if_neg (by decide)] at c
    simp only [Bool.false_eq_true, if_false]
    exact gratA_pu s hco p false _ _ hG d hr c
theorem gnum_ok {ts ts' : List Tok} {n : List UInt8} (hG : GOk ts) (h : gnum ts = .ok (n, ts')) : GOk ts' ∧ ts'.length + 1 = ts.length := by
  obtain ⟨a, r, rfl, -⟩ := hG.cons
  by_cases hk : a.k = 2
  · rw [gnum_k hk] at h
    cases h
    exact ⟨hG.tail (by omega), rfl⟩
  · rw [gnum_e hk] at h
    cases h
theorem gexpect_ok {ts ts' : List Tok} {w : List UInt8} (hG : GOk ts) (h : gexpect w ts = .ok ts') : GOk ts' ∧ ts'.length + 1 = ts.length := by
  obtain ⟨a, r, rfl, -⟩ := hG.cons
  unfold gexpect at h
  split at h
  · next hk =>
    cases h
    exact ⟨hG.next hk, rfl⟩
  · cases h
theorem gis_tl {ts : List Tok} {w : List UInt8} (hG : GOk ts) (h : gis ts w = true) : GOk ts.tail ∧ ts.tail.length + 1 = ts.length := by
  obtain ⟨a, r, rfl, -⟩ := hG.cons
  exact ⟨hG.next h, rfl⟩
theorem gratS_okL {neg : Bool} {ts ts' : List Tok} {x : Rat} (hG : GOk ts) (h : gratS neg ts = .ok (x, ts')) : GOk ts' ∧ ts'.length + 1 ≤ ts.length := by
  unfold gratS at h
  split at h
  · cases h
  · next n ts2 e1 =>
    have g1 := gnum_ok hG e1
    split at h
    · next h47 =>
      have g2 := gis_tl g1.1 h47
      split at h
      · cases h
      · next d ts3 e2 =>
        have g3 := gnum_ok g2.1 e2
        split at h
        · cases h
        · cases h
          exact ⟨g3.1, by omega⟩
    · cases h
      exact ⟨g1.1, by omega⟩
theorem grat_ok {ts ts' : List Tok} {x : Rat} (hG : GOk ts) (h : grat ts = .ok (x, ts')) : GOk ts' ∧ ts'.length + 1 ≤ ts.length := by
  unfold grat at h
  split at h
  · next hk =>
    have g := gis_tl hG hk
    have := gratS_okL g.1 h
    exact ⟨this.1, by omega⟩
  · exact gratS_okL hG h
theorem gpt_ok {ts ts' : List Tok} {x : Rat × Rat} (hG : GOk ts) (h : gpt ts = .ok (x, ts')) : GOk ts' ∧ ts'.length + 1 ≤ ts.length := by
  unfold gpt at h
  split at h
  · cases h
  · next t1 e1 =>
    have g1 := gexpect_ok hG e1
    split at h
    · cases h
    · next x t2 e2 =>
      have g2 := grat_ok g1.1 e2
      split at h
      · cases h
      · next t3 e3 =>
        have g3 := gexpect_ok g2.1 e3
        split at h
        · cases h
        · next y t4 e4 =>
          have g4 := grat_ok g3.1 e4
          split at h
          · cases h
          · next t5 e5 =>
            have g5 := gexpect_ok g4.1 e5
            cases h
            exact ⟨g5.1, by omega⟩
set_option maxHeartbeats 4000000 in
theorem gpoint_pu [Sent 4] [Sent 5] (s : SV) (hco : CO s [s]) (p : Nat) (ts : List Tok) (hG : GOk ts) (d : Nat) (hr : ts.length ≤ 1000000) :
    PuH Tryz.prog 146 [lit (.pointer (some ⟨p, 0, none⟩))] [(p, psT, psC ts d s)] (fun v H => ∃ x ts', gpt ts = .ok (x, ts') ∧ v = pq x.1 x.2 ∧ H = [(p, psT, psC ts' d s)]) (fun pv _ => ∃ e, gpt ts = .error e ∧ pv = erSV e) := by
  obtain ⟨a, r, rfl, -⟩ := hG.cons
  simp only [List.length_cons] at hr
  have c1 := gexpect_pu s hco p a r d (by omega) [40]
  refine PuH.intro Tryz.func146 rfl (by kernel_rfl) fun C hC => ?_
  repeat (refine A1 ⟨?_⟩; intros)
  refine WfX c1 ?_ ?_
  · rintro _ _ ⟨e1, h1, rfl, rfl⟩
    have g1 := hG.next h1
    clear hG c1 h1
    have c2 := grational_pu s hco p r g1 d (by omega)
    simp only [List.cons_append, List.nil_append]
    repeat (refine A1 ⟨?_⟩; intros)
    refine WfX c2 ?_ ?_
    · rintro _ _ ⟨x, t2, e2, rfl, rfl⟩
      have g2 := grat_ok g1 e2
      obtain ⟨b, r2, rfl, -⟩ := g2.1.cons
      clear c2 g1
      simp only [List.length_cons] at g2
      have c3 := gexpect_pu s hco p b r2 d (by omega) [44]
      simp only [List.cons_append, List.nil_append]
      repeat (refine A1 ⟨?_⟩; intros)
      refine WfX c3 ?_ ?_
      · rintro _ _ ⟨e3, h3, rfl, rfl⟩
        have g3 := g2.1.next h3
        replace g2 := g2.2
        clear h3 c3
        have c4 := grational_pu s hco p r2 g3 d (by omega)
        simp only [List.cons_append, List.nil_append]
        repeat (refine A1 ⟨?_⟩; intros)
        refine WfX c4 ?_ ?_
        · rintro _ _ ⟨y, t4, e4, rfl, rfl⟩
          have g4 := grat_ok g3 e4
          obtain ⟨b', r4, rfl, -⟩ := g4.1.cons
          simp only [List.length_cons] at g4
          replace g4 := g4.2
          clear c4 g3
          have c5 := gexpect_pu s hco p b' r4 d (by omega) [41]
          simp only [List.cons_append, List.nil_append]
          repeat (refine A1 ⟨?_⟩; intros)
          refine WfX c5 ?_ ?_
          · rintro _ _ ⟨e5, h5, rfl, rfl⟩
            simp only [List.cons_append, List.nil_append]
            repeat (refine A1 ⟨?_⟩; intros)
            exact endHR _ [(p, psT, psC r4 d s)] (end1 (RV.cellA rfl (by repeat (first | exact List.mem_cons_self | apply List.mem_cons_of_mem)) rfl rfl) (Le.refl _)) (by repeat (first | exact List.Sublist.refl _ | refine List.Sublist.cons _ ?_)) ⟨(x, y), r4, by simp only [gpt, e1, e2, e3, e4, e5], rfl, rfl⟩
          · rintro _ _ ⟨e5, hx⟩
            rw [hC]
            exact ⟨_, by simp only [gpt, e1, e2, e3, e4, e5], hx⟩
        · rintro _ _ ⟨e, e4, hx⟩
          rw [hC]
          exact ⟨_, by simp only [gpt, e1, e2, e3, e4], hx⟩
      · rintro _ _ ⟨e3, hx⟩
        rw [hC]
        exact ⟨_, by simp only [gpt, e1, e2, e3], hx⟩
    · rintro _ _ ⟨e, e2, hx⟩
      rw [hC]
      exact ⟨_, by simp only [gpt, e1, e2], hx⟩
  · rintro _ _ ⟨e1, hx⟩
    rw [hC]
    exact ⟨_, by simp only [gpt, e1], hx⟩
end Go.Ab
