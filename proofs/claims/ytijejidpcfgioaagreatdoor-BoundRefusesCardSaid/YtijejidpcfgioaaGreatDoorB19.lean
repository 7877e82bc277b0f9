/- Texts laid one behind the other: Shape, RPart, StkP. -/
import Derived.Test.YtijejidpcfgioaaGreatDoorB18
import Derived.Test.YtijejidpcfgioaaGreatDoorB16
/- Parts of an expression: the reference's check of one part. -/
namespace Go.Ab
open Go.Proofs
set_option linter.unusedSectionVars false
set_option linter.unusedVariables false
set_option linter.unusedSimpArgs false
variable [Base]
theorem okN_1 {n : Nd} (h : n.k = 1) : okN n = ((zp n.a n.b && zp n.c n.e) && decide (n.op = 0) && decide (n.x = 0) && decide (n.y = 0)) := by
  have k1 : decide (n.k = 1) = true := decide_eq_true (by omega)
  have k4 : decide (n.k = 4) = false := decide_eq_false (by omega)
  have k5 : decide (n.k = 5) = false := decide_eq_false (by omega)
  have k6 : decide (n.k = 6) = false := decide_eq_false (by omega)
  have n6 : decide (n.k ≠ 6) = true := decide_eq_true (by omega)
  have g1 : decide (1 ≤ n.k) = true := decide_eq_true (by omega)
  have g6 : decide (n.k ≤ 6) = true := decide_eq_true (by omega)
  simp only [okN, k1, k4, k5, k6, n6, g1, g6]
  generalize (zp n.a n.b && zp n.c n.e) = A
  generalize decide (n.op = 0) = B
  generalize decide (n.x = 0) = D
  generalize decide (n.y = 0) = E
  generalize decide (1 ≤ n.op) = G
  generalize decide (n.op ≤ 4) = I
  generalize decide (n.nm.length = 0) = J
  revert A B D E G I J
  decide
theorem okN_23 {n : Nd} (h : n.k = 2 ∨ n.k = 3) : okN n = (decide (n.nm.length = 0) && (zp n.a n.b && zp n.c n.e) && decide (n.op = 0) && decide (n.x = 0) && decide (n.y = 0)) := by
  have k1 : decide (n.k = 1) = false := decide_eq_false (by omega)
  have k4 : decide (n.k = 4) = false := decide_eq_false (by omega)
  have k5 : decide (n.k = 5) = false := decide_eq_false (by omega)
  have k6 : decide (n.k = 6) = false := decide_eq_false (by omega)
  have n6 : decide (n.k ≠ 6) = true := decide_eq_true (by omega)
  have g1 : decide (1 ≤ n.k) = true := decide_eq_true (by omega)
  have g6 : decide (n.k ≤ 6) = true := decide_eq_true (by omega)
  simp only [okN, k1, k4, k5, k6, n6, g1, g6]
  generalize (zp n.a n.b && zp n.c n.e) = A
  generalize decide (n.op = 0) = B
  generalize decide (n.x = 0) = D
  generalize decide (n.y = 0) = E
  generalize decide (1 ≤ n.op) = G
  generalize decide (n.op ≤ 4) = I
  generalize decide (n.nm.length = 0) = J
  revert A B D E G I J
  decide
theorem okN_4 {n : Nd} (h : n.k = 4) : okN n = (decide (n.nm.length = 0) && decide (n.op = 0) && decide (n.x = 0) && decide (n.y = 0)) := by
  have k1 : decide (n.k = 1) = false := decide_eq_false (by omega)
  have k4 : decide (n.k = 4) = true := decide_eq_true (by omega)
  have k5 : decide (n.k = 5) = false := decide_eq_false (by omega)
  have k6 : decide (n.k = 6) = false := decide_eq_false (by omega)
  have n6 : decide (n.k ≠ 6) = true := decide_eq_true (by omega)
  have g1 : decide (1 ≤ n.k) = true := decide_eq_true (by omega)
  have g6 : decide (n.k ≤ 6) = true := decide_eq_true (by omega)
  simp only [okN, k1, k4, k5, k6, n6, g1, g6]
  generalize (zp n.a n.b && zp n.c n.e) = A
  generalize decide (n.op = 0) = B
  generalize decide (n.x = 0) = D
  generalize decide (n.y = 0) = E
  generalize decide (1 ≤ n.op) = G
  generalize decide (n.op ≤ 4) = I
  generalize decide (n.nm.length = 0) = J
  revert A B D E G I J
  decide
theorem okN_5 {n : Nd} (h : n.k = 5) : okN n = (decide (n.nm.length = 0) && (zp n.a n.b && zp n.c n.e) && decide (n.op = 0) && decide (n.y = 0)) := by
  have k1 : decide (n.k = 1) = false := decide_eq_false (by omega)
  have k4 : decide (n.k = 4) = false := decide_eq_false (by omega)
  have k5 : decide (n.k = 5) = true := decide_eq_true (by omega)
  have k6 : decide (n.k = 6) = false := decide_eq_false (by omega)
  have n6 : decide (n.k ≠ 6) = true := decide_eq_true (by omega)
  have g1 : decide (1 ≤ n.k) = true := decide_eq_true (by omega)
  have g6 : decide (n.k ≤ 6) = true := decide_eq_true (by omega)
  simp only [okN, k1, k4, k5, k6, n6, g1, g6]
  generalize (zp n.a n.b && zp n.c n.e) = A
  generalize decide (n.op = 0) = B
  generalize decide (n.x = 0) = D
  generalize decide (n.y = 0) = E
  generalize decide (1 ≤ n.op) = G
  generalize decide (n.op ≤ 4) = I
  generalize decide (n.nm.length = 0) = J
  revert A B D E G I J
  decide
theorem okN_6 {n : Nd} (h : n.k = 6) : okN n = (decide (n.nm.length = 0) && (zp n.a n.b && zp n.c n.e) && decide (1 ≤ n.op) && decide (n.op ≤ 4)) := by
  have k1 : decide (n.k = 1) = false := decide_eq_false (by omega)
  have k4 : decide (n.k = 4) = false := decide_eq_false (by omega)
  have k5 : decide (n.k = 5) = false := decide_eq_false (by omega)
  have k6 : decide (n.k = 6) = true := decide_eq_true (by omega)
  have n6 : decide (n.k ≠ 6) = false := decide_eq_false (by omega)
  have g1 : decide (1 ≤ n.k) = true := decide_eq_true (by omega)
  have g6 : decide (n.k ≤ 6) = true := decide_eq_true (by omega)
  simp only [okN, k1, k4, k5, k6, n6, g1, g6]
  generalize (zp n.a n.b && zp n.c n.e) = A
  generalize decide (n.op = 0) = B
  generalize decide (n.x = 0) = D
  generalize decide (n.y = 0) = E
  generalize decide (1 ≤ n.op) = G
  generalize decide (n.op ≤ 4) = I
  generalize decide (n.nm.length = 0) = J
  revert A B D E G I J
  decide
theorem okN_0 {n : Nd} (h : n.k < 1 ∨ 6 < n.k) : okN n = false := by
  have g : (decide (1 ≤ n.k) && decide (n.k ≤ 6)) = false := by
    rcases h with h | h
    · rw [decide_eq_false (show ¬ 1 ≤ n.k by omega)]; rfl
    · rw [decide_eq_false (show ¬ n.k ≤ 6 by omega), Bool.and_false]
  unfold okN
  rw [g]
  simp only [Bool.false_and]
set_option maxHeartbeats 1000000 in
theorem shape_pu (n : Nd) {L : Nat} (h : n.ok L) (hL : L ≤ 1000) : Pu Tryz.prog 63 [ag (ndx n)] (lit (.bool (okN n))) := by
  have c1 := rzero_pu n.a n.b h.a h.b hL
  have c2 := rzero_pu n.c n.e h.c h.e hL
  have e1 := @okN_1 _ n
  have e2 := @okN_23 _ n
  have e4 := @okN_4 _ n
  have e5 := @okN_5 _ n
  have e6 := @okN_6 _ n
  have e0 := @okN_0 _ n
  generalize okN n = R at *
  obtain ⟨nb, hnb⟩ : ∃ b, b = decide (n.nm.length = 0) := ⟨_, rfl⟩
  obtain ⟨hb, hhb⟩ : ∃ b, b = (zp n.a n.b && zp n.c n.e) := ⟨_, rfl⟩
  obtain ⟨ob, hob⟩ : ∃ b, b = decide (n.op = 0) := ⟨_, rfl⟩
  rw [← hnb, ← hhb, ← hob] at e2 e5
  rw [← hnb, ← hob] at e4
  rw [← hhb, ← hob] at e1
  rw [← hnb, ← hhb] at e6
  clear h
  refine Pu.intro Tryz.func63 rfl (by kernel_rfl) fun C => ?_
  repeat (first | (refine AS ⟨?_⟩; intros) | (refine O1 ⟨?_⟩; intros))
  rename_i b
  refine WP.via (fun F H => LeF F (fm [(1, lit (.pointer (some ⟨b, 0, none⟩))), (3, lit (.bool nb)), (4, lit (.bool hb)), (5, lit (.bool ob))]) ∧ H = [(b, 35, ndx n)]) ?_ ?_
  · refine WdM [] [(b, 35, ndx n)] (fun _ => []) ?_
    clear e0 e1 e2 e4 e5 e6

    by_cases o1 : n.op = 0
    · rw [decide_eq_true o1] at hob
      subst hob
      by_cases r1 : n.nm.length = 0
      · rw [decide_eq_true r1] at hnb
        have s1 := nil_dec.1 r1
        subst hnb
        cases z1 : zp n.a n.b with
        | false =>
          rw [z1] at c1 hhb
          rw [Bool.false_and] at hhb
          subst hhb
          refine MkD 17 ?_
          repeat (first | (refine A1 ⟨?_⟩; intros) | (refine Wcx (c1) ?_) | (refine Wdcx (c1) ?_) | (refine Wcgx (c1) ?_) | (refine Wdcgx (c1) ?_) | (refine Wcx (c2) ?_) | (refine Wdcx (c2) ?_) | (refine Wcgx (c2) ?_) | (refine Wdcgx (c2) ?_))
          refine mkD0 ?_
          refine MkN ?_
          refine thenN ?_
          exact ⟨by (repeat (first | exact LeF.nil _ | refine LeF.cons (Le.refl _) ?_ | refine LeF.cons (Le.int (by omega)) ?_)), rfl⟩
        | true =>
          rw [z1] at c1 hhb
          rw [Bool.true_and] at hhb
          cases z2 : zp n.c n.e with
          | false =>
            rw [z2] at c2 hhb
            subst hhb
            refine MkD 17 ?_
            repeat (first | (refine A1 ⟨?_⟩; intros) | (refine Wcx (c1) ?_) | (refine Wdcx (c1) ?_) | (refine Wcgx (c1) ?_) | (refine Wdcgx (c1) ?_) | (refine Wcx (c2) ?_) | (refine Wdcx (c2) ?_) | (refine Wcgx (c2) ?_) | (refine Wdcgx (c2) ?_))
            refine mkD0 ?_
            refine MkN ?_
            refine thenN ?_
            exact ⟨by (repeat (first | exact LeF.nil _ | refine LeF.cons (Le.refl _) ?_ | refine LeF.cons (Le.int (by omega)) ?_)), rfl⟩
          | true =>
            rw [z2] at c2 hhb
            subst hhb
            refine MkD 17 ?_
            repeat (first | (refine A1 ⟨?_⟩; intros) | (refine Wcx (c1) ?_) | (refine Wdcx (c1) ?_) | (refine Wcgx (c1) ?_) | (refine Wdcgx (c1) ?_) | (refine Wcx (c2) ?_) | (refine Wdcx (c2) ?_) | (refine Wcgx (c2) ?_) | (refine Wdcgx (c2) ?_))
            refine mkD0 ?_
            refine MkN ?_
            refine thenN ?_
            exact ⟨by (repeat (first | exact LeF.nil _ | refine LeF.cons (Le.refl _) ?_ | refine LeF.cons (Le.int (by omega)) ?_)), rfl⟩
      · rw [decide_eq_false r1] at hnb
        have s1 := nil_dec.2 r1
        subst hnb
        cases z1 : zp n.a n.b with
        | false =>
          rw [z1] at c1 hhb
          rw [Bool.false_and] at hhb
          subst hhb
          refine MkD 17 ?_
          repeat (first | (refine A1 ⟨?_⟩; intros) | (refine Wcx (c1) ?_) | (refine Wdcx (c1) ?_) | (refine Wcgx (c1) ?_) | (refine Wdcgx (c1) ?_) | (refine Wcx (c2) ?_) | (refine Wdcx (c2) ?_) | (refine Wcgx (c2) ?_) | (refine Wdcgx (c2) ?_))
          refine mkD0 ?_
          refine MkN ?_
          refine thenN ?_
          exact ⟨by (repeat (first | exact LeF.nil _ | refine LeF.cons (Le.refl _) ?_ | refine LeF.cons (Le.int (by omega)) ?_)), rfl⟩
        | true =>
          rw [z1] at c1 hhb
          rw [Bool.true_and] at hhb
          cases z2 : zp n.c n.e with
          | false =>
            rw [z2] at c2 hhb
            subst hhb
            refine MkD 17 ?_
            repeat (first | (refine A1 ⟨?_⟩; intros) | (refine Wcx (c1) ?_) | (refine Wdcx (c1) ?_) | (refine Wcgx (c1) ?_) | (refine Wdcgx (c1) ?_) | (refine Wcx (c2) ?_) | (refine Wdcx (c2) ?_) | (refine Wcgx (c2) ?_) | (refine Wdcgx (c2) ?_))
            refine mkD0 ?_
            refine MkN ?_
            refine thenN ?_
            exact ⟨by (repeat (first | exact LeF.nil _ | refine LeF.cons (Le.refl _) ?_ | refine LeF.cons (Le.int (by omega)) ?_)), rfl⟩
          | true =>
            rw [z2] at c2 hhb
            subst hhb
            refine MkD 17 ?_
            repeat (first | (refine A1 ⟨?_⟩; intros) | (refine Wcx (c1) ?_) | (refine Wdcx (c1) ?_) | (refine Wcgx (c1) ?_) | (refine Wdcgx (c1) ?_) | (refine Wcx (c2) ?_) | (refine Wdcx (c2) ?_) | (refine Wcgx (c2) ?_) | (refine Wdcgx (c2) ?_))
            refine mkD0 ?_
            refine MkN ?_
            refine thenN ?_
            exact ⟨by (repeat (first | exact LeF.nil _ | refine LeF.cons (Le.refl _) ?_ | refine LeF.cons (Le.int (by omega)) ?_)), rfl⟩
    · -- op
      rw [decide_eq_false o1] at hob
      subst hob
      by_cases r1 : n.nm.length = 0
      · rw [decide_eq_true r1] at hnb
        have s1 := nil_dec.1 r1
        subst hnb
        cases z1 : zp n.a n.b with
        | false =>
          rw [z1] at c1 hhb
          rw [Bool.false_and] at hhb
          subst hhb
          refine MkD 17 ?_
          repeat (first | (refine A1 ⟨?_⟩; intros) | (refine Wcx (c1) ?_) | (refine Wdcx (c1) ?_) | (refine Wcgx (c1) ?_) | (refine Wdcgx (c1) ?_) | (refine Wcx (c2) ?_) | (refine Wdcx (c2) ?_) | (refine Wcgx (c2) ?_) | (refine Wdcgx (c2) ?_))
          refine mkD0 ?_
          refine MkN ?_
          refine thenN ?_
          exact ⟨by (repeat (first | exact LeF.nil _ | refine LeF.cons (Le.refl _) ?_ | refine LeF.cons (Le.int (by omega)) ?_)), rfl⟩
        | true =>
          rw [z1] at c1 hhb
          rw [Bool.true_and] at hhb
          cases z2 : zp n.c n.e with
          | false =>
            rw [z2] at c2 hhb
            subst hhb
            refine MkD 17 ?_
            repeat (first | (refine A1 ⟨?_⟩; intros) | (refine Wcx (c1) ?_) | (refine Wdcx (c1) ?_) | (refine Wcgx (c1) ?_) | (refine Wdcgx (c1) ?_) | (refine Wcx (c2) ?_) | (refine Wdcx (c2) ?_) | (refine Wcgx (c2) ?_) | (refine Wdcgx (c2) ?_))
            refine mkD0 ?_
            refine MkN ?_
            refine thenN ?_
            exact ⟨by (repeat (first | exact LeF.nil _ | refine LeF.cons (Le.refl _) ?_ | refine LeF.cons (Le.int (by omega)) ?_)), rfl⟩
          | true =>
            rw [z2] at c2 hhb
            subst hhb
            refine MkD 17 ?_
            repeat (first | (refine A1 ⟨?_⟩; intros) | (refine Wcx (c1) ?_) | (refine Wdcx (c1) ?_) | (refine Wcgx (c1) ?_) | (refine Wdcgx (c1) ?_) | (refine Wcx (c2) ?_) | (refine Wdcx (c2) ?_) | (refine Wcgx (c2) ?_) | (refine Wdcgx (c2) ?_))
            refine mkD0 ?_
            refine MkN ?_
            refine thenN ?_
            exact ⟨by (repeat (first | exact LeF.nil _ | refine LeF.cons (Le.refl _) ?_ | refine LeF.cons (Le.int (by omega)) ?_)), rfl⟩
      · rw [decide_eq_false r1] at hnb
        have s1 := nil_dec.2 r1
        subst hnb
        cases z1 : zp n.a n.b with
        | false =>
          rw [z1] at c1 hhb
          rw [Bool.false_and] at hhb
          subst hhb
          refine MkD 17 ?_
          repeat (first | (refine A1 ⟨?_⟩; intros) | (refine Wcx (c1) ?_) | (refine Wdcx (c1) ?_) | (refine Wcgx (c1) ?_) | (refine Wdcgx (c1) ?_) | (refine Wcx (c2) ?_) | (refine Wdcx (c2) ?_) | (refine Wcgx (c2) ?_) | (refine Wdcgx (c2) ?_))
          refine mkD0 ?_
          refine MkN ?_
          refine thenN ?_
          exact ⟨by (repeat (first | exact LeF.nil _ | refine LeF.cons (Le.refl _) ?_ | refine LeF.cons (Le.int (by omega)) ?_)), rfl⟩
        | true =>
          rw [z1] at c1 hhb
          rw [Bool.true_and] at hhb
          cases z2 : zp n.c n.e with
          | false =>
            rw [z2] at c2 hhb
            subst hhb
            refine MkD 17 ?_
            repeat (first | (refine A1 ⟨?_⟩; intros) | (refine Wcx (c1) ?_) | (refine Wdcx (c1) ?_) | (refine Wcgx (c1) ?_) | (refine Wdcgx (c1) ?_) | (refine Wcx (c2) ?_) | (refine Wdcx (c2) ?_) | (refine Wcgx (c2) ?_) | (refine Wdcgx (c2) ?_))
            refine mkD0 ?_
            refine MkN ?_
            refine thenN ?_
            exact ⟨by (repeat (first | exact LeF.nil _ | refine LeF.cons (Le.refl _) ?_ | refine LeF.cons (Le.int (by omega)) ?_)), rfl⟩
          | true =>
            rw [z2] at c2 hhb
            subst hhb
            refine MkD 17 ?_
            repeat (first | (refine A1 ⟨?_⟩; intros) | (refine Wcx (c1) ?_) | (refine Wdcx (c1) ?_) | (refine Wcgx (c1) ?_) | (refine Wdcgx (c1) ?_) | (refine Wcx (c2) ?_) | (refine Wdcx (c2) ?_) | (refine Wcgx (c2) ?_) | (refine Wdcgx (c2) ?_))
            refine mkD0 ?_
            refine MkN ?_
            refine thenN ?_
            exact ⟨by (repeat (first | exact LeF.nil _ | refine LeF.cons (Le.refl _) ?_ | refine LeF.cons (Le.int (by omega)) ?_)), rfl⟩
  · rintro F H ⟨hF, rfl⟩
    refine WP.le hF ?_
    clear hF c1 c2 hnb hhb hob
    by_cases q1 : n.k = 1
    case pos =>
      have eR := e1 q1
      clear e0 e1 e2 e4 e5 e6
      cases hb with
      | false =>
        replace eR : R = false := by rw [eR]; simp only [Bool.and_false, Bool.false_and]
        subst eR
        repeat (refine A1 ⟨?_⟩; intros)
        ((first | refine endR ?_ | refine endN ?_); exact end1 (RV.tmp rfl) (Le.refl _))
      | true =>
        cases ob with
        | false =>
          replace eR : R = false := by rw [eR]; simp only [Bool.and_false, Bool.false_and]
          subst eR
          repeat (refine A1 ⟨?_⟩; intros)
          ((first | refine endR ?_ | refine endN ?_); exact end1 (RV.tmp rfl) (Le.refl _))
        | true =>
          by_cases p2 : n.x = 0
          case neg =>
            replace eR : R = false := by rw [eR, decide_eq_false p2]; simp only [Bool.and_false, Bool.false_and]
            subst eR
            repeat (refine A1 ⟨?_⟩; intros)
            ((first | refine endR ?_ | refine endN ?_); exact end1 (RV.tmp rfl) (Le.refl _))
          rw [decide_eq_true p2] at eR
          by_cases p1 : n.y = 0
          case neg =>
            replace eR : R = false := by rw [eR, decide_eq_false p1]; simp only [Bool.and_false, Bool.false_and]
            subst eR
            repeat (refine A1 ⟨?_⟩; intros)
            ((first | refine endR ?_ | refine endN ?_); exact end1 (RV.tmp rfl) (Le.refl _))
          rw [decide_eq_true p1] at eR
          replace eR : R = true := by rw [eR]; rfl
          subst eR
          repeat (refine A1 ⟨?_⟩; intros)
          ((first | refine endR ?_ | refine endN ?_); exact end1 (RV.tmp rfl) (Le.refl _))
    by_cases q2 : n.k = 2
    case pos =>
      have eR := e2 (.inl q2)
      clear e0 e1 e2 e4 e5 e6
      cases nb with
      | false =>
        replace eR : R = false := by rw [eR]; simp only [Bool.and_false, Bool.false_and]
        subst eR
        repeat (refine A1 ⟨?_⟩; intros)
        ((first | refine endR ?_ | refine endN ?_); exact end1 (RV.tmp rfl) (Le.refl _))
      | true =>
        cases hb with
        | false =>
          replace eR : R = false := by rw [eR]; simp only [Bool.and_false, Bool.false_and]
          subst eR
          repeat (refine A1 ⟨?_⟩; intros)
          ((first | refine endR ?_ | refine endN ?_); exact end1 (RV.tmp rfl) (Le.refl _))
        | true =>
          cases ob with
          | false =>
            replace eR : R = false := by rw [eR]; simp only [Bool.and_false, Bool.false_and]
            subst eR
            repeat (refine A1 ⟨?_⟩; intros)
            ((first | refine endR ?_ | refine endN ?_); exact end1 (RV.tmp rfl) (Le.refl _))
          | true =>
            by_cases p2 : n.x = 0
            case neg =>
              replace eR : R = false := by rw [eR, decide_eq_false p2]; simp only [Bool.and_false, Bool.false_and]
              subst eR
              repeat (refine A1 ⟨?_⟩; intros)
              ((first | refine endR ?_ | refine endN ?_); exact end1 (RV.tmp rfl) (Le.refl _))
            rw [decide_eq_true p2] at eR
            by_cases p1 : n.y = 0
            case neg =>
              replace eR : R = false := by rw [eR, decide_eq_false p1]; simp only [Bool.and_false, Bool.false_and]
              subst eR
              repeat (refine A1 ⟨?_⟩; intros)
              ((first | refine endR ?_ | refine endN ?_); exact end1 (RV.tmp rfl) (Le.refl _))
            rw [decide_eq_true p1] at eR
            replace eR : R = true := by rw [eR]; rfl
            subst eR
            repeat (refine A1 ⟨?_⟩; intros)
            ((first | refine endR ?_ | refine endN ?_); exact end1 (RV.tmp rfl) (Le.refl _))
    by_cases q3 : n.k = 3
    case pos =>
      have eR := e2 (.inr q3)
      clear e0 e1 e2 e4 e5 e6
      cases nb with
      | false =>
        replace eR : R = false := by rw [eR]; simp only [Bool.and_false, Bool.false_and]
        subst eR
        repeat (refine A1 ⟨?_⟩; intros)
        ((first | refine endR ?_ | refine endN ?_); exact end1 (RV.tmp rfl) (Le.refl _))
      | true =>
        cases hb with
        | false =>
          replace eR : R = false := by rw [eR]; simp only [Bool.and_false, Bool.false_and]
          subst eR
          repeat (refine A1 ⟨?_⟩; intros)
          ((first | refine endR ?_ | refine endN ?_); exact end1 (RV.tmp rfl) (Le.refl _))
        | true =>
          cases ob with
          | false =>
            replace eR : R = false := by rw [eR]; simp only [Bool.and_false, Bool.false_and]
            subst eR
            repeat (refine A1 ⟨?_⟩; intros)
            ((first | refine endR ?_ | refine endN ?_); exact end1 (RV.tmp rfl) (Le.refl _))
          | true =>
            by_cases p2 : n.x = 0
            case neg =>
              replace eR : R = false := by rw [eR, decide_eq_false p2]; simp only [Bool.and_false, Bool.false_and]
              subst eR
              repeat (refine A1 ⟨?_⟩; intros)
              ((first | refine endR ?_ | refine endN ?_); exact end1 (RV.tmp rfl) (Le.refl _))
            rw [decide_eq_true p2] at eR
            by_cases p1 : n.y = 0
            case neg =>
              replace eR : R = false := by rw [eR, decide_eq_false p1]; simp only [Bool.and_false, Bool.false_and]
              subst eR
              repeat (refine A1 ⟨?_⟩; intros)
              ((first | refine endR ?_ | refine endN ?_); exact end1 (RV.tmp rfl) (Le.refl _))
            rw [decide_eq_true p1] at eR
            replace eR : R = true := by rw [eR]; rfl
            subst eR
            repeat (refine A1 ⟨?_⟩; intros)
            ((first | refine endR ?_ | refine endN ?_); exact end1 (RV.tmp rfl) (Le.refl _))
    by_cases q4 : n.k = 4
    case pos =>
      have eR := e4 q4
      clear e0 e1 e2 e4 e5 e6
      cases nb with
      | false =>
        replace eR : R = false := by rw [eR]; simp only [Bool.and_false, Bool.false_and]
        subst eR
        repeat (refine A1 ⟨?_⟩; intros)
        ((first | refine endR ?_ | refine endN ?_); exact end1 (RV.tmp rfl) (Le.refl _))
      | true =>
        cases ob with
        | false =>
          replace eR : R = false := by rw [eR]; simp only [Bool.and_false, Bool.false_and]
          subst eR
          repeat (refine A1 ⟨?_⟩; intros)
          ((first | refine endR ?_ | refine endN ?_); exact end1 (RV.tmp rfl) (Le.refl _))
        | true =>
          by_cases p2 : n.x = 0
          case neg =>
            replace eR : R = false := by rw [eR, decide_eq_false p2]; simp only [Bool.and_false, Bool.false_and]
            subst eR
            repeat (refine A1 ⟨?_⟩; intros)
            ((first | refine endR ?_ | refine endN ?_); exact end1 (RV.tmp rfl) (Le.refl _))
          rw [decide_eq_true p2] at eR
          by_cases p1 : n.y = 0
          case neg =>
            replace eR : R = false := by rw [eR, decide_eq_false p1]; simp only [Bool.and_false, Bool.false_and]
            subst eR
            repeat (refine A1 ⟨?_⟩; intros)
            ((first | refine endR ?_ | refine endN ?_); exact end1 (RV.tmp rfl) (Le.refl _))
          rw [decide_eq_true p1] at eR
          replace eR : R = true := by rw [eR]; rfl
          subst eR
          repeat (refine A1 ⟨?_⟩; intros)
          ((first | refine endR ?_ | refine endN ?_); exact end1 (RV.tmp rfl) (Le.refl _))
    by_cases q5 : n.k = 5
    case pos =>
      have eR := e5 q5
      clear e0 e1 e2 e4 e5 e6
      cases nb with
      | false =>
        replace eR : R = false := by rw [eR]; simp only [Bool.and_false, Bool.false_and]
        subst eR
        repeat (refine A1 ⟨?_⟩; intros)
        ((first | refine endR ?_ | refine endN ?_); exact end1 (RV.tmp rfl) (Le.refl _))
      | true =>
        cases hb with
        | false =>
          replace eR : R = false := by rw [eR]; simp only [Bool.and_false, Bool.false_and]
          subst eR
          repeat (refine A1 ⟨?_⟩; intros)
          ((first | refine endR ?_ | refine endN ?_); exact end1 (RV.tmp rfl) (Le.refl _))
        | true =>
          cases ob with
          | false =>
            replace eR : R = false := by rw [eR]; simp only [Bool.and_false, Bool.false_and]
            subst eR
            repeat (refine A1 ⟨?_⟩; intros)
            ((first | refine endR ?_ | refine endN ?_); exact end1 (RV.tmp rfl) (Le.refl _))
          | true =>
            by_cases p1 : n.y = 0
            case neg =>
              replace eR : R = false := by rw [eR, decide_eq_false p1]; simp only [Bool.and_false, Bool.false_and]
              subst eR
              repeat (refine A1 ⟨?_⟩; intros)
              ((first | refine endR ?_ | refine endN ?_); exact end1 (RV.tmp rfl) (Le.refl _))
            rw [decide_eq_true p1] at eR
            replace eR : R = true := by rw [eR]; rfl
            subst eR
            repeat (refine A1 ⟨?_⟩; intros)
            ((first | refine endR ?_ | refine endN ?_); exact end1 (RV.tmp rfl) (Le.refl _))
    by_cases q6 : n.k = 6
    case pos =>
      have eR := e6 q6
      clear e0 e1 e2 e4 e5 e6
      cases nb with
      | false =>
        replace eR : R = false := by rw [eR]; simp only [Bool.and_false, Bool.false_and]
        subst eR
        repeat (refine A1 ⟨?_⟩; intros)
        ((first | refine endR ?_ | refine endN ?_); exact end1 (RV.tmp rfl) (Le.refl _))
      | true =>
        cases hb with
        | false =>
          replace eR : R = false := by rw [eR]; simp only [Bool.and_false, Bool.false_and]
          subst eR
          repeat (refine A1 ⟨?_⟩; intros)
          ((first | refine endR ?_ | refine endN ?_); exact end1 (RV.tmp rfl) (Le.refl _))
        | true =>
          by_cases p2 : 1 ≤ n.op
          case neg =>
            replace eR : R = false := by rw [eR, decide_eq_false p2]; simp only [Bool.and_false, Bool.false_and]
            subst eR
            repeat (refine A1 ⟨?_⟩; intros)
            ((first | refine endR ?_ | refine endN ?_); exact end1 (RV.tmp rfl) (Le.refl _))
          rw [decide_eq_true p2] at eR
          by_cases p1 : n.op ≤ 4
          case neg =>
            replace eR : R = false := by rw [eR, decide_eq_false p1]; simp only [Bool.and_false, Bool.false_and]
            subst eR
            repeat (refine A1 ⟨?_⟩; intros)
            ((first | refine endR ?_ | refine endN ?_); exact end1 (RV.tmp rfl) (Le.refl _))
          rw [decide_eq_true p1] at eR
          replace eR : R = true := by rw [eR]; rfl
          subst eR
          repeat (refine A1 ⟨?_⟩; intros)
          ((first | refine endR ?_ | refine endN ?_); exact end1 (RV.tmp rfl) (Le.refl _))
    have eR := e0 (by omega)
    clear e0 e1 e2 e4 e5 e6
    subst eR
    repeat (refine A1 ⟨?_⟩; intros)
    ((first | refine endR ?_ | refine endN ?_); exact end1 (RV.tmp rfl) (Le.refl _))
end Go.Ab
/- The reference's printer: parts. -/
namespace Go.Ab
open Go.Proofs
set_option linter.unusedSectionVars false
set_option linter.unusedVariables false
set_option linter.unusedSimpArgs false
variable [Base]
/-- the text of a tree, as the reference writes it -/
def Ex.rtxt : Ex → List UInt8
  | .leaf n => if n.k = 1 then n.nm else if n.k = 2 then [97, 108, 108] else if n.k = 3 then [110, 111, 110, 101] else [104, 97, 108, 102, 32] ++ rpT n.a n.b ++ [32] ++ rpT n.c n.e
  | .un _ x => [126] ++ par (decide (rk x.top < 3)) x.rtxt
  | .bi n l r => par (decide (rk l.top < rk n)) l.rtxt ++ sgn n.op ++ par (decide (rk r.top < rk n + 1)) r.rtxt
def Ex.dep : Ex → Nat
  | .leaf _ => 0
  | .un _ x => (if rk x.top < 3 then x.dep + 1 else x.dep) + 1
  | .bi n l r => max (if rk l.top < rk n then l.dep + 1 else l.dep) (if rk r.top < rk n + 1 then r.dep + 1 else r.dep)
theorem Ex.size_pos : ∀ t : Ex, 1 ≤ t.size
  | .leaf _ => Nat.le_refl _
  | .un _ x => by simp only [Ex.size]; omega
  | .bi _ l r => by simp only [Ex.size]; omega
theorem Ex.dep_le : ∀ t : Ex, t.dep ≤ 2 * t.size
  | .leaf _ => Nat.zero_le _
  | .un _ x => by
    have := x.dep_le
    simp only [Ex.dep, Ex.size]
    split <;> omega
  | .bi _ l r => by
    have h1 := l.dep_le
    have h2 := r.dep_le
    simp only [Ex.dep, Ex.size]
    split <;> split <;> omega
theorem Ex.rtxt_good : ∀ {t : Ex}, t.good = true → (∀ (ns : List Nd) (i : Nat), t.At ns i → t.rtxt = t.txt)
  | .leaf n, h, ns, i, hat => by
    obtain ⟨_, h1, h4⟩ := hat
    unfold Ex.rtxt Ex.txt
    unfold Ex.good at h
    by_cases k1 : n.k = 1
    · rw [if_pos k1, if_pos k1]
    rw [if_neg k1] at h ⊢
    rw [if_neg k1]
    by_cases k2 : n.k = 2
    · rw [if_pos k2, if_pos k2]
    rw [if_neg k2, if_neg k2]
    by_cases k3 : n.k = 3
    · rw [if_pos k3, if_pos k3]
    rw [if_neg k3, if_neg k3]
    rw [if_pos (by omega : n.k = 4)] at h
    rw [Bool.and_eq_true] at h
    rw [rpT_good h.1, rpT_good h.2]
    unfold ptxt2
    simp only [List.append_assoc, List.cons_append, List.nil_append]
  | .un n x, h, ns, i, hat => by
    obtain ⟨_, _, j, _, hx⟩ := hat
    unfold Ex.rtxt Ex.txt
    rw [Ex.rtxt_good (t := x) h ns j hx]
  | .bi n l r, h, ns, i, hat => by
    obtain ⟨_, _, _, j, k, _, _, hl, hr⟩ := hat
    have h' : (l.good && r.good) = true := h
    rw [Bool.and_eq_true] at h'
    unfold Ex.rtxt Ex.txt
    rw [Ex.rtxt_good h'.1 ns j hl, Ex.rtxt_good h'.2 ns k hr]
theorem Ex.rtxt_len {L : Nat} (hL : L ≤ 20) {ns : List Nd} (hok : ∀ n ∈ ns, n.ok L) : ∀ {t : Ex} {i : Nat}, t.At ns i → t.rtxt.length ≤ 2000 * t.size
  | .leaf n, i, hat => by
    have hm := hok n (List.mem_of_getElem? hat.1)
    have h1 := rpT_len hm.a hm.b
    have h2 := rpT_len hm.c hm.e
    have h3 := hm.nm
    simp only [Ex.rtxt, Ex.size]
    split
    · omega
    split
    · simp
    split
    · simp
    · simp only [List.length_append, List.length_cons, List.length_nil]; omega
  | .un n x, i, hat => by
    obtain ⟨_, _, j, _, hx⟩ := hat
    have h1 := Ex.rtxt_len hL hok hx
    have h2 := par_len (decide (rk x.top < 3)) x.rtxt
    simp only [Ex.rtxt, Ex.size, List.length_append, List.length_cons, List.length_nil]
    omega
  | .bi n l r, i, hat => by
    obtain ⟨_, _, _, j, k, _, _, hl, hr⟩ := hat
    have h1 := Ex.rtxt_len hL hok hl
    have h2 := Ex.rtxt_len hL hok hr
    have h3 := par_len (decide (rk l.top < rk n)) l.rtxt
    have h4 := par_len (decide (rk r.top < rk n + 1)) r.rtxt
    have h5 := sgn_len n.op
    simp only [Ex.rtxt, Ex.size, List.length_append]
    omega
theorem Ex.At.uniq {ns : List Nd} : ∀ {t t' : Ex} {i : Nat}, t.At ns i → t'.At ns i → t = t'
  | .leaf n, .leaf n', i, h, h' => by obtain ⟨a, _⟩ := h; obtain ⟨a', _⟩ := h'; rw [a] at a'; rw [Option.some.inj a']
  | .leaf n, .un n' x', i, h, h' => by obtain ⟨a, _, b⟩ := h; obtain ⟨a', b', _⟩ := h'; rw [a] at a'; obtain rfl := Option.some.inj a'; omega
  | .leaf n, .bi n' x' y', i, h, h' => by obtain ⟨a, _, b⟩ := h; obtain ⟨a', b', _⟩ := h'; rw [a] at a'; obtain rfl := Option.some.inj a'; omega
  | .un n x, .leaf n', i, h', h => by obtain ⟨a, _, b⟩ := h; obtain ⟨a', b', _⟩ := h'; rw [a] at a'; obtain rfl := Option.some.inj a'; omega
  | .un n x, .un n' x', i, h, h' => by
    obtain ⟨a, _, j, b, c⟩ := h
    obtain ⟨a', _, j', b', c'⟩ := h'
    rw [a] at a'; obtain rfl := Option.some.inj a'
    obtain rfl : j = j' := by omega
    rw [Ex.At.uniq c c']
  | .un n x, .bi n' x' y', i, h, h' => by obtain ⟨a, b, _⟩ := h; obtain ⟨a', b', _⟩ := h'; rw [a] at a'; obtain rfl := Option.some.inj a'; omega
  | .bi n x y, .leaf n', i, h', h => by obtain ⟨a, _, b⟩ := h; obtain ⟨a', b', _⟩ := h'; rw [a] at a'; obtain rfl := Option.some.inj a'; omega
  | .bi n x y, .un n' x', i, h', h => by obtain ⟨a, b, _⟩ := h; obtain ⟨a', b', _⟩ := h'; rw [a] at a'; obtain rfl := Option.some.inj a'; omega
  | .bi n x y, .bi n' x' y', i, h, h' => by
    obtain ⟨a, _, _, j, k, b, c, d, e⟩ := h
    obtain ⟨a', _, _, j', k', b', c', d', e'⟩ := h'
    rw [a] at a'; obtain rfl := Option.some.inj a'
    obtain rfl : j = j' := by omega
    obtain rfl : k = k' := by omega
    rw [Ex.At.uniq d d', Ex.At.uniq e e']
theorem rpart_leaf (w : Nat) (n : Nd) {L : Nat} (hn : n.ok L) (hL : L ≤ 20) (hk1 : 1 ≤ n.k) (hk4 : n.k ≤ 4) (bad : Bool) (X2 X3 X4 : SV) : PuH Tryz.prog 64 [lit (.pointer (some ⟨w, 0, none⟩)), ag (ndx n), X2, X3, X4] [(w, wT, wC bad false)]
    (fun r H => r = Ab.tup [str (Ex.leaf n).rtxt, lit (.int .i64 0)] ∧ H = [(w, wT, wC (bad || !(Ex.leaf n).good) false)]) noX := by
  by_cases k1 : n.k = 1
  · rw [show (Ex.leaf n).rtxt = n.nm from by unfold Ex.rtxt; rw [if_pos k1], show (Ex.leaf n).good = nmOk n.nm from by unfold Ex.good; rw [if_pos k1]]
    have hnm := hn.nm
    refine PuH.intro Tryz.func64 rfl (by kernel_rfl) fun C hC => ?_
    repeat (refine A1 ⟨?_⟩; intros)
    refine WfH (rname_pu w n.nm (by omega) bad false) ?_
    rintro _ _ ⟨rfl, rfl⟩
    simp only [List.cons_append, List.nil_append]
    repeat (refine A1 ⟨?_⟩; intros)
    exact endHR _ _ (end2 (RV.tmp rfl) (RV.tmp rfl) (Le.refl _)) (List.Sublist.cons_cons _ (List.nil_sublist _)) ⟨rfl, rfl⟩
  by_cases k2 : n.k = 2
  · rw [show (Ex.leaf n).rtxt = [97, 108, 108] from by unfold Ex.rtxt; rw [if_neg k1, if_pos k2], show (Ex.leaf n).good = true from by unfold Ex.good; rw [if_neg k1, if_neg (by omega)], Bool.not_true, Bool.or_false]
    refine PuH.intro Tryz.func64 rfl (by kernel_rfl) fun C hC => ?_
    repeat (refine A1 ⟨?_⟩; intros)
    exact endHR _ _ (end2 (RV.tmp (s := str [97, 108, 108]) rfl) (RV.tmp rfl) (Le.refl _)) (List.sublist_cons_self _ _) ⟨rfl, rfl⟩
  by_cases k3 : n.k = 3
  · rw [show (Ex.leaf n).rtxt = [110, 111, 110, 101] from by unfold Ex.rtxt; rw [if_neg k1, if_neg k2, if_pos k3], show (Ex.leaf n).good = true from by unfold Ex.good; rw [if_neg k1, if_neg (by omega)], Bool.not_true, Bool.or_false]
    refine PuH.intro Tryz.func64 rfl (by kernel_rfl) fun C hC => ?_
    repeat (refine A1 ⟨?_⟩; intros)
    exact endHR _ _ (end2 (RV.tmp (s := str [110, 111, 110, 101]) rfl) (RV.tmp rfl) (Le.refl _)) (List.sublist_cons_self _ _) ⟨rfl, rfl⟩
  have k4 : n.k = 4 := by omega
  rw [show (Ex.leaf n).rtxt = [104, 97, 108, 102, 32] ++ rpT n.a n.b ++ [32] ++ rpT n.c n.e from by unfold Ex.rtxt; rw [if_neg k1, if_neg k2, if_neg k3],
    show (Ex.leaf n).good = (nrmQ n.a && nrmQ n.b && (nrmQ n.c && nrmQ n.e)) from by unfold Ex.good; rw [if_neg k1, if_pos k4]]
  rw [show (bad || !(nrmQ n.a && nrmQ n.b && (nrmQ n.c && nrmQ n.e))) = (bad || !nrmQ n.a || !nrmQ n.b || !nrmQ n.c || !nrmQ n.e) from by
    generalize nrmQ n.a = q1; generalize nrmQ n.b = q2; generalize nrmQ n.c = q3; generalize nrmQ n.e = q4
    revert bad q1 q2 q3 q4; decide]
  have c1 := rpoint_pu w n.a n.b hn.a hn.b (by omega) bad false
  have c2 := rpoint_pu w n.c n.e hn.c hn.e (by omega) (bad || !nrmQ n.a || !nrmQ n.b) false
  have h1 := rpT_len hn.a hn.b
  have h2 := rpT_len hn.c hn.e
  have g1 : ([104, 97, 108, 102, 32] : List UInt8).length = 5 := rfl
  have g2 : ([32] : List UInt8).length = 1 := rfl
  generalize rpT n.a n.b = s1 at *
  generalize rpT n.c n.e = s2 at *
  have q1 : ([104, 97, 108, 102, 32] ++ s1).length = 5 + s1.length := by simp; omega
  have q2 : ([104, 97, 108, 102, 32] ++ s1 ++ [32]).length = 6 + s1.length := by simp; omega
  refine PuH.intro Tryz.func64 rfl (by kernel_rfl) fun C hC => ?_
  repeat (first | (refine AS ⟨?_⟩; intros) | (refine O1 ⟨?_⟩; intros))
  rename_i b6
  refine WP.perm (List.Perm.swap _ _ _) ?_
  refine WdM [3, 9] [(b6, 35, ndx n)] (fun s => [(w, wT, wC ([bad, bad || !nrmQ n.a || !nrmQ n.b, bad || !nrmQ n.a || !nrmQ n.b || !nrmQ n.c || !nrmQ n.e].getD s false) false)]) ?_
  refine MkD 3 ?_
  repeat (refine A1 ⟨?_⟩; intros)
  refine mkD0 ?_
  refine MkC c1 ?_
  refine MkD 5 ?_
  repeat (refine A1 ⟨?_⟩; intros)
  refine mkD0 ?_
  refine MkC c2 ?_
  refine MkD 3 ?_
  repeat (refine A1 ⟨?_⟩; intros)
  refine mkD0 ?_
  refine MkN ?_
  repeat (refine A1 ⟨?_⟩; intros)
  exact endHR _ _ (end2 (RV.tmp (s := str _) rfl) (RV.tmp rfl) (Le.refl _)) (List.sublist_append_left _ _) ⟨rfl, rfl⟩
set_option maxHeartbeats 1000000 in
theorem rpart_un {ns : List Nd} (hns : ns.length ≤ 100000) (w : Nat) (n : Nd) (x : Ex) (j : Nat) (hk : n.k = 5) (hx : n.x = j) (hat : ns[j]? = some x.top) (hl : x.rtxt.length ≤ 900000) (hd : x.dep ≤ 900000) (bad : Bool) :
    PuH Tryz.prog 64 [lit (.pointer (some ⟨w, 0, none⟩)), ag (ndx n), sl (ns.map ndx).flatten ns.length, sl [str x.rtxt] 1, sl [lit (.int .i64 x.dep)] 1] [(w, wT, wC bad false)]
      (fun r H => r = Ab.tup [str (Ex.un n x).rtxt, lit (.int .i64 (Ex.un n x).dep)] ∧ H = [(w, wT, wC bad false)]) noX := by
  have hjl : j < ns.length := (List.getElem?_eq_some_iff.1 hat).1
  have hcut := flat_at (f := ndx) (n := 19) ndx_len hat
  have hne : (ns.map ndx).flatten ≠ [] := flat_ne ndx_len (by omega) (fun e => by rw [e] at hjl; simp at hjl)
  have c0 := level_pu x.top
  change Pu _ _ _ (lit (.int .i64 (rk x.top))) at c0
  have c1 := wrap_pu x.rtxt x.dep (decide (rk x.top < 3)) (by omega) (by omega) (by omega)
  have p1 := par_len (decide (rk x.top < 3)) x.rtxt
  have e1 : (Ex.un n x).rtxt = [126] ++ par (decide (rk x.top < 3)) x.rtxt := rfl
  have e2 : ((Ex.un n x).dep : Int) = (if decide (rk x.top < 3) = true then (x.dep : Int) + 1 else x.dep) + 1 := by
    simp only [Ex.dep, decide_eq_true_eq]
    split <;> omega
  rw [e1, e2]
  generalize hs : par (decide (rk x.top < 3)) x.rtxt = s at *
  generalize hdd : (if decide (rk x.top < 3) = true then (x.dep : Int) + 1 else x.dep) = dd at *
  have hdd' : 0 ≤ dd ∧ dd ≤ 1000000 := by rw [← hdd]; split <;> omega
  have g1 : ([126] : List UInt8).length = 1 := rfl
  clear e1 e2 hs hdd
  by_cases hr : rk x.top < 3
  · rw [decide_eq_true hr] at c1
    generalize rk x.top = r at *
    refine PuH.intro Tryz.func64 rfl (by kernel_rfl) fun C hC => ?_
    repeat (first | (refine AS ⟨?_⟩; intros) | (refine O1 ⟨?_⟩; intros))
    rename_i b6
    refine WdM [] [(b6, 35, ndx n), (w, wT, wC bad false)] (fun _ => []) ?_
    refine MkD 19 ?_
    repeat (refine A1 ⟨?_⟩; intros)
    refine Wdo (ov_idxS (cs' := [str x.rtxt]) (i := 0) rfl rfl (by omega) (by omega) rfl (by simp)) ?_
    repeat (refine A1 ⟨?_⟩; intros)
    refine Wdo (ov_idxS (cs' := [lit (.int .i64 x.dep)]) (i := 0) rfl rfl (by omega) (by omega) rfl (by simp)) ?_
    repeat (refine A1 ⟨?_⟩; intros)
    rw [hx]
    refine Wdo (ov_idxS (cs' := ndx x.top) rfl rfl (by omega) (by omega) hcut hne) ?_
    repeat (first | (refine A1 ⟨?_⟩; intros) | (refine Wcx (c0) ?_) | (refine Wdcx (c0) ?_) | (refine Wcgx (c0) ?_) | (refine Wdcgx (c0) ?_) | (refine Wcx (c1) ?_) | (refine Wdcx (c1) ?_) | (refine Wcgx (c1) ?_) | (refine Wdcgx (c1) ?_))
    refine mkD0 ?_
    refine MkN ?_
    repeat (refine A1 ⟨?_⟩; intros)
    exact endHR _ _ (end2 (RV.tmp (s := str _) rfl) (RV.tmp rfl) (Le.refl _)) (List.sublist_cons_self _ _) ⟨rfl, rfl⟩
  · rw [decide_eq_false hr] at c1
    generalize rk x.top = r at *
    refine PuH.intro Tryz.func64 rfl (by kernel_rfl) fun C hC => ?_
    repeat (first | (refine AS ⟨?_⟩; intros) | (refine O1 ⟨?_⟩; intros))
    rename_i b6
    refine WdM [] [(b6, 35, ndx n), (w, wT, wC bad false)] (fun _ => []) ?_
    refine MkD 19 ?_
    repeat (refine A1 ⟨?_⟩; intros)
    refine Wdo (ov_idxS (cs' := [str x.rtxt]) (i := 0) rfl rfl (by omega) (by omega) rfl (by simp)) ?_
    repeat (refine A1 ⟨?_⟩; intros)
    refine Wdo (ov_idxS (cs' := [lit (.int .i64 x.dep)]) (i := 0) rfl rfl (by omega) (by omega) rfl (by simp)) ?_
    repeat (refine A1 ⟨?_⟩; intros)
    rw [hx]
    refine Wdo (ov_idxS (cs' := ndx x.top) rfl rfl (by omega) (by omega) hcut hne) ?_
    repeat (first | (refine A1 ⟨?_⟩; intros) | (refine Wcx (c0) ?_) | (refine Wdcx (c0) ?_) | (refine Wcgx (c0) ?_) | (refine Wdcgx (c0) ?_) | (refine Wcx (c1) ?_) | (refine Wdcx (c1) ?_) | (refine Wcgx (c1) ?_) | (refine Wdcgx (c1) ?_))
    refine mkD0 ?_
    refine MkN ?_
    repeat (refine A1 ⟨?_⟩; intros)
    exact endHR _ _ (end2 (RV.tmp (s := str _) rfl) (RV.tmp rfl) (Le.refl _)) (List.sublist_cons_self _ _) ⟨rfl, rfl⟩
def sgc (op : Int) : List UInt8 := if op = 1 then [43] else if op = 2 then [42] else if op = 3 then [45] else [94]
theorem sgn_c (op : Int) : sgn op = [32] ++ sgc op ++ [32] := by
  unfold sgn sgc
  split
  · rfl
  split
  · rfl
  split <;> rfl
abbrev sgcs : List SV := [str [], str [43], str [42], str [45], str [94]]
theorem sgcs_at {op : Int} (h1 : 1 ≤ op) (h4 : op ≤ 4) : sgcs[op.toNat]? = some (str (sgc op)) := by
  have h : op = 1 ∨ op = 2 ∨ op = 3 ∨ op = 4 := by omega
  rcases h with rfl | rfl | rfl | rfl <;> rfl
set_option maxHeartbeats 2000000 in
theorem rpart_bi {ns : List Nd} (hns : ns.length ≤ 100000) (w : Nat) (n : Nd) (x y : Ex) (j k : Nat) (hk : n.k = 6) (ho1 : 1 ≤ n.op) (ho4 : n.op ≤ 4) (hx : n.x = j) (hy : n.y = k) (hat : ns[j]? = some x.top) (hat2 : ns[k]? = some y.top)
    (hl : x.rtxt.length ≤ 900000) (hl2 : y.rtxt.length ≤ 900000) (hd : x.dep ≤ 900000) (hd2 : y.dep ≤ 900000) (bad : Bool) :
    PuH Tryz.prog 64 [lit (.pointer (some ⟨w, 0, none⟩)), ag (ndx n), sl (ns.map ndx).flatten ns.length, sl [str x.rtxt, str y.rtxt] 2, sl [lit (.int .i64 x.dep), lit (.int .i64 y.dep)] 2] [(w, wT, wC bad false)]
      (fun r H => r = Ab.tup [str (Ex.bi n x y).rtxt, lit (.int .i64 (Ex.bi n x y).dep)] ∧ H = [(w, wT, wC bad false)]) noX := by
  have hjl : j < ns.length := (List.getElem?_eq_some_iff.1 hat).1
  have hkl : k < ns.length := (List.getElem?_eq_some_iff.1 hat2).1
  have hcut := flat_at (f := ndx) (n := 19) ndx_len hat
  have hcut2 := flat_at (f := ndx) (n := 19) ndx_len hat2
  have hne : (ns.map ndx).flatten ≠ [] := flat_ne ndx_len (by omega) (fun e => by rw [e] at hjl; simp at hjl)
  have c0 := level_pu n
  change Pu _ _ _ (lit (.int .i64 (rk n))) at c0
  have c1 := level_pu x.top
  change Pu _ _ _ (lit (.int .i64 (rk x.top))) at c1
  have c2 := level_pu y.top
  change Pu _ _ _ (lit (.int .i64 (rk y.top))) at c2
  have c3 := wrap_pu x.rtxt x.dep (decide (rk x.top < rk n)) (by omega) (by omega) (by omega)
  have c4 := wrap_pu y.rtxt y.dep (decide (rk y.top < rk n + 1)) (by omega) (by omega) (by omega)
  have p1 := par_len (decide (rk x.top < rk n)) x.rtxt
  have p2 := par_len (decide (rk y.top < rk n + 1)) y.rtxt
  have hsg := sgcs_at ho1 ho4
  have hsl : (sgc n.op).length = 1 := by unfold sgc; split; rfl; split; rfl; split <;> rfl
  have e1 : (Ex.bi n x y).rtxt = par (decide (rk x.top < rk n)) x.rtxt ++ [32] ++ sgc n.op ++ [32] ++ par (decide (rk y.top < rk n + 1)) y.rtxt := by
    show _ ++ sgn n.op ++ _ = _
    rw [sgn_c]
    simp only [List.append_assoc]
  have e2 : ((Ex.bi n x y).dep : Int) = (if (if decide (rk x.top < rk n) = true then (x.dep : Int) + 1 else x.dep) < (if decide (rk y.top < rk n + 1) = true then (y.dep : Int) + 1 else y.dep) then (if decide (rk y.top < rk n + 1) = true then (y.dep : Int) + 1 else y.dep) else (if decide (rk x.top < rk n) = true then (x.dep : Int) + 1 else x.dep)) := by
    simp only [Ex.dep, decide_eq_true_eq]
    split <;> split <;> split <;> omega
  rw [e1, e2]
  generalize hs1 : par (decide (rk x.top < rk n)) x.rtxt = s1 at *
  generalize hs2 : par (decide (rk y.top < rk n + 1)) y.rtxt = s2 at *
  generalize hd1 : (if decide (rk x.top < rk n) = true then (x.dep : Int) + 1 else x.dep) = d1 at *
  generalize hdd2 : (if decide (rk y.top < rk n + 1) = true then (y.dep : Int) + 1 else y.dep) = d2 at *
  generalize sgc n.op = sg at *
  have g1 : (s1 ++ [32]).length = s1.length + 1 := by simp
  have g2 : (s1 ++ [32] ++ sg).length = s1.length + 2 := by simp; omega
  have g3 : (s1 ++ [32] ++ sg ++ [32]).length = s1.length + 3 := by simp; omega
  have g4 : ([32] : List UInt8).length = 1 := rfl
  generalize hb1 : decide (rk x.top < rk n) = b1 at *
  have hb2 : decide (rk y.top < rk n + 1) = decide (rk y.top ≤ rk n) := decide_eq_decide.2 (by omega)
  rw [hb2] at c4
  generalize hb3 : decide (rk y.top ≤ rk n) = b2 at *
  have hlt : ∀ z : Bool, decide (rk x.top < rk n) = z → (z = true → rk x.top < rk n) ∧ (z = false → ¬ rk x.top < rk n) := fun z h => by subst h; exact ⟨of_decide_eq_true, of_decide_eq_false⟩
  have hle : ∀ z : Bool, decide (rk y.top ≤ rk n) = z → (z = true → rk y.top ≤ rk n) ∧ (z = false → ¬ rk y.top ≤ rk n) := fun z h => by subst h; exact ⟨of_decide_eq_true, of_decide_eq_false⟩
  replace hlt := hlt _ hb1
  replace hle := hle _ hb3
  clear e1 e2 hs1 hs2 hd1 hdd2 hb1 hb2 hb3
  generalize rk x.top = r1 at *
  generalize rk y.top = r2 at *
  generalize rk n = r at *
  refine PuH.intro Tryz.func64 rfl (by kernel_rfl) fun C hC => ?_
  repeat (first | (refine AS ⟨?_⟩; intros) | (refine O1 ⟨?_⟩; intros) | (refine Wcx (c0) ?_) | (refine Wcgx (c0) ?_))
  rename_i b6
  refine WP.via (fun F H => LeF F (fm [(3, sl [str x.rtxt, str y.rtxt] 2), (4, sl [lit (.int .i64 x.dep), lit (.int .i64 y.dep)] 2), (2, sl (ns.map ndx).flatten ns.length), (6, lit (.pointer (some ⟨b6, 0, none⟩))), (14, lit (.int .i64 r)), (15, str s1), (16, lit (.int .i64 d1))]) ∧ H = [(b6, 35, ndx n), (w, wT, wC bad false)]) ?_ ?_
  · cases b1 with
    | true =>
      have hlt' := hlt.1 rfl
      clear hlt hle
      refine WdM [] [(b6, 35, ndx n), (w, wT, wC bad false)] (fun _ => []) ?_
      refine MkD 20 ?_
      repeat (refine A1 ⟨?_⟩; intros)
      refine Wdo (ov_idxS (cs' := [str x.rtxt]) (i := 0) rfl rfl (by omega) (by omega) rfl (by simp)) ?_
      repeat (refine A1 ⟨?_⟩; intros)
      refine Wdo (ov_idxS (cs' := [lit (.int .i64 x.dep)]) (i := 0) rfl rfl (by omega) (by omega) rfl (by simp)) ?_
      repeat (refine A1 ⟨?_⟩; intros)
      rw [hx]
      refine Wdo (ov_idxS (cs' := ndx x.top) rfl rfl (by omega) (by omega) hcut hne) ?_
      repeat (first | (refine A1 ⟨?_⟩; intros) | (refine Wcx (c1) ?_) | (refine Wdcx (c1) ?_) | (refine Wcgx (c1) ?_) | (refine Wdcgx (c1) ?_) | (refine Wcx (c3) ?_) | (refine Wdcx (c3) ?_) | (refine Wcgx (c3) ?_) | (refine Wdcgx (c3) ?_))
      refine mkD0 ?_
      refine MkN ?_
      refine thenN ?_
      exact ⟨by (repeat (first | exact LeF.nil _ | refine LeF.cons (Le.refl _) ?_ | refine LeF.cons (Le.int (by omega)) ?_)), rfl⟩
    | false =>
      have hlt' := hlt.2 rfl
      clear hlt hle
      refine WdM [] [(b6, 35, ndx n), (w, wT, wC bad false)] (fun _ => []) ?_
      refine MkD 20 ?_
      repeat (refine A1 ⟨?_⟩; intros)
      refine Wdo (ov_idxS (cs' := [str x.rtxt]) (i := 0) rfl rfl (by omega) (by omega) rfl (by simp)) ?_
      repeat (refine A1 ⟨?_⟩; intros)
      refine Wdo (ov_idxS (cs' := [lit (.int .i64 x.dep)]) (i := 0) rfl rfl (by omega) (by omega) rfl (by simp)) ?_
      repeat (refine A1 ⟨?_⟩; intros)
      rw [hx]
      refine Wdo (ov_idxS (cs' := ndx x.top) rfl rfl (by omega) (by omega) hcut hne) ?_
      repeat (first | (refine A1 ⟨?_⟩; intros) | (refine Wcx (c1) ?_) | (refine Wdcx (c1) ?_) | (refine Wcgx (c1) ?_) | (refine Wdcgx (c1) ?_) | (refine Wcx (c3) ?_) | (refine Wdcx (c3) ?_) | (refine Wcgx (c3) ?_) | (refine Wdcgx (c3) ?_))
      refine mkD0 ?_
      refine MkN ?_
      refine thenN ?_
      exact ⟨by (repeat (first | exact LeF.nil _ | refine LeF.cons (Le.refl _) ?_ | refine LeF.cons (Le.int (by omega)) ?_)), rfl⟩
  rintro F H ⟨hF, rfl⟩
  refine WP.le hF ?_
  clear hF hlt c1 c3
  refine WP.seq' ?_
  refine WP.via (fun F H => LeF F (fm [(6, lit (.pointer (some ⟨b6, 0, none⟩))), (15, str s1), (16, lit (.int .i64 d1)), (17, str s2), (18, lit (.int .i64 d2))]) ∧ H = [(b6, 35, ndx n), (w, wT, wC bad false)]) ?_ ?_
  · cases b2 with
    | true =>
      have hle' := hle.1 rfl
      clear hle
      refine WdM [] [(b6, 35, ndx n), (w, wT, wC bad false)] (fun _ => []) ?_
      refine MkD 20 ?_
      repeat (refine A1 ⟨?_⟩; intros)
      refine Wdo (ov_idxS (cs' := [str y.rtxt]) (i := 1) rfl rfl (by omega) (by omega) rfl (by simp)) ?_
      repeat (refine A1 ⟨?_⟩; intros)
      refine Wdo (ov_idxS (cs' := [lit (.int .i64 y.dep)]) (i := 1) rfl rfl (by omega) (by omega) rfl (by simp)) ?_
      repeat (refine A1 ⟨?_⟩; intros)
      rw [hy]
      refine Wdo (ov_idxS (cs' := ndx y.top) rfl rfl (by omega) (by omega) hcut2 hne) ?_
      repeat (first | (refine A1 ⟨?_⟩; intros) | (refine Wcx (c2) ?_) | (refine Wdcx (c2) ?_) | (refine Wcgx (c2) ?_) | (refine Wdcgx (c2) ?_) | (refine Wcx (c4) ?_) | (refine Wdcx (c4) ?_) | (refine Wcgx (c4) ?_) | (refine Wdcgx (c4) ?_))
      refine mkD0 ?_
      refine MkN ?_
      refine thenN ?_
      exact ⟨by (repeat (first | exact LeF.nil _ | refine LeF.cons (Le.refl _) ?_ | refine LeF.cons (Le.int (by omega)) ?_)), rfl⟩
    | false =>
      have hle' := hle.2 rfl
      clear hle
      refine WdM [] [(b6, 35, ndx n), (w, wT, wC bad false)] (fun _ => []) ?_
      refine MkD 20 ?_
      repeat (refine A1 ⟨?_⟩; intros)
      refine Wdo (ov_idxS (cs' := [str y.rtxt]) (i := 1) rfl rfl (by omega) (by omega) rfl (by simp)) ?_
      repeat (refine A1 ⟨?_⟩; intros)
      refine Wdo (ov_idxS (cs' := [lit (.int .i64 y.dep)]) (i := 1) rfl rfl (by omega) (by omega) rfl (by simp)) ?_
      repeat (refine A1 ⟨?_⟩; intros)
      rw [hy]
      refine Wdo (ov_idxS (cs' := ndx y.top) rfl rfl (by omega) (by omega) hcut2 hne) ?_
      repeat (first | (refine A1 ⟨?_⟩; intros) | (refine Wcx (c2) ?_) | (refine Wdcx (c2) ?_) | (refine Wcgx (c2) ?_) | (refine Wdcgx (c2) ?_) | (refine Wcx (c4) ?_) | (refine Wdcx (c4) ?_) | (refine Wcgx (c4) ?_) | (refine Wdcgx (c4) ?_))
      refine mkD0 ?_
      refine MkN ?_
      refine thenN ?_
      exact ⟨by (repeat (first | exact LeF.nil _ | refine LeF.cons (Le.refl _) ?_ | refine LeF.cons (Le.int (by omega)) ?_)), rfl⟩
  rintro F H ⟨hF, rfl⟩
  refine WP.le hF ?_
  clear hF hle c2 c4 c0
  repeat (refine A1 ⟨?_⟩; intros)
  refine Wo (ov_loadL rfl (by (first | exact List.mem_cons_self | exact (List.mem_cons_of_mem _ List.mem_cons_self) | exact (List.mem_cons_of_mem _ (List.mem_cons_of_mem _ List.mem_cons_self)) | exact (List.mem_cons_of_mem _ (List.mem_cons_of_mem _ (List.mem_cons_of_mem _ List.mem_cons_self))) | exact (List.mem_cons_of_mem _ (List.mem_cons_of_mem _ (List.mem_cons_of_mem _ (List.mem_cons_of_mem _ List.mem_cons_self)))) | exact (List.mem_cons_of_mem _ (List.mem_cons_of_mem _ (List.mem_cons_of_mem _ (List.mem_cons_of_mem _ (List.mem_cons_of_mem _ List.mem_cons_self))))) | exact (List.mem_cons_of_mem _ (List.mem_cons_of_mem _ (List.mem_cons_of_mem _ (List.mem_cons_of_mem _ (List.mem_cons_of_mem _ (List.mem_cons_of_mem _ List.mem_cons_self)))))) | exact (List.mem_cons_of_mem _ (List.mem_cons_of_mem _ (List.mem_cons_of_mem _ (List.mem_cons_of_mem _ (List.mem_cons_of_mem _ (List.mem_cons_of_mem _ (List.mem_cons_of_mem _ List.mem_cons_self))))))))) (by rw [Nat.mul_one]; exact hsg)) ?_
  repeat (refine A1 ⟨?_⟩; intros)
  refine Wo (ov_max rfl rfl rfl) ?_
  repeat (refine A1 ⟨?_⟩; intros)
  exact endHR _ _ (end2 (RV.tmp (s := str _) rfl) (RV.tmp rfl) (Le.refl _)) (List.Sublist.cons _ (List.sublist_cons_self _ _)) ⟨rfl, rfl⟩
end Go.Ab
/- The reference's stack of expressions, as a plain function; it accepts what the program's check accepts. -/
namespace Go.Ab
open Go.Proofs
set_option linter.unusedSectionVars false
set_option linter.unusedVariables false
set_option linter.unusedSimpArgs false
variable [Base]
/-- the stack, its top first, behind part number i -/
def stp (i : Nat) (n : Nd) (st : List (Ex × Nat)) : Option (List (Ex × Nat)) :=
  if okN n = true then
    if n.k = 5 then (match st with
      | (x, j) :: r => if n.x = (j : Nat) then some ((.un n x, i) :: r) else none
      | [] => none)
    else if n.k = 6 then (match st with
      | (y, k) :: (x, j) :: r => if n.x = (j : Nat) ∧ n.y = (k : Nat) then some ((.bi n x y, i) :: r) else none
      | _ => none)
    else some ((.leaf n, i) :: st)
  else none
def stk : List Nd → Nat → List (Ex × Nat) → Option (List (Ex × Nat))
  | [], _, st => some st
  | n :: ns, i, st => match stp i n st with
    | some st' => stk ns (i + 1) st'
    | none => none
theorem stk_cons (n : Nd) (ns : List Nd) (i : Nat) (st : List (Ex × Nat)) : stk (n :: ns) i st = match stp i n st with
    | some st' => stk ns (i + 1) st'
    | none => none := rfl
/-- the trees of a stack stand one behind the other -/
inductive Sk (ns : List Nd) (ss : List Nat) : Nat → List (Ex × Nat) → Prop
  | nil : Sk ns ss 0 []
  | cons {i : Nat} {t : Ex} {st : List (Ex × Nat)} (h1 : t.At ns i) (h2 : t.size = ss.getD i 0) (h3 : t.size ≤ i + 1) (h : Sk ns ss (i + 1 - t.size) st) : Sk ns ss (i + 1) ((t, i) :: st)
theorem Sk.more {ns : List Nd} {ss : List Nat} {i s : Nat} {st : List (Ex × Nat)} (h : Sk ns ss i st) : i ≤ ss.length → Sk ns (ss ++ [s]) i st := by
  induction h with
  | nil => exact fun _ => .nil
  | @cons i t st h1 h2 h3 _ ih =>
    intro hi
    refine .cons h1 ?_ h3 (ih (by have := t.size_pos; omega))
    rw [h2]
    simp [List.getD, List.getElem?_append_left (show i < ss.length by omega)]
theorem Sk.all {ns : List Nd} {ss : List Nat} {i : Nat} {st : List (Ex × Nat)} (h : Sk ns ss i st) : ∀ e ∈ st, e.1.At ns e.2 ∧ e.1.size ≤ i ∧ e.2 < i := by
  induction h with
  | nil => intro e he; cases he
  | @cons i t st h1 h2 h3 _ ih =>
    intro e he
    have := t.size_pos
    rcases List.mem_cons.1 he with rfl | he
    · exact ⟨h1, h3, Nat.lt_succ_self _⟩
    · obtain ⟨a, b, c⟩ := ih e he
      exact ⟨a, by omega, by omega⟩
/-- the stack's numbers are no more than the parts -/
theorem Sk.len {ns : List Nd} {ss : List Nat} {i : Nat} {st : List (Ex × Nat)} (h : Sk ns ss i st) : st.length ≤ i := by
  induction h with
  | nil => exact Nat.le_refl _
  | @cons i t st h1 h2 h3 _ ih =>
    have := t.size_pos
    simp only [List.length_cons]; omega
theorem getD_snoc (ss : List Nat) (s : Nat) : (ss ++ [s]).getD ss.length 0 = s := by simp [List.getD]
/-- both machines take the same parts -/
theorem stp_step {ns : List Nd} {ss : List Nat} {n : Nd} {st : List (Ex × Nat)} (hat : ns[ss.length]? = some n) (h : Sk ns ss ss.length st) :
    match stp ss.length n st with
    | some st' => ∃ s, step1 ss n = some s ∧ Sk ns (ss ++ [s]) (ss.length + 1) st'
    | none => step1 ss n = none := by
  generalize hi : ss.length = i at *
  unfold stp step1
  rw [hi]
  by_cases e : okN n = true
  · rw [if_pos e, if_pos e]
    obtain ⟨hk, ho⟩ := okN_k e
    by_cases k5 : n.k = 5
    · rw [if_pos k5, if_pos k5]
      cases h with
      | nil => simp only; rw [if_neg (by omega)]
      | @cons j t st' h1 h2 h3 h4 =>
        simp only [Nat.add_sub_cancel]
        by_cases hx : n.x = (j : Nat)
        · rw [if_pos hx, if_pos (by omega)]
          refine ⟨_, rfl, .cons ⟨hat, k5, j, hx, h1⟩ ?_ ?_ ?_⟩
          · rw [← hi, getD_snoc]; simp only [Ex.size]; omega
          · simp only [Ex.size]; omega
          · have := (Sk.more (s := 1 + ss.getD j 0) h4 (by omega))
            simp only [Ex.size]
            rw [show j + 1 + 1 - (1 + t.size) = j + 1 - t.size by omega]
            exact this
        · rw [if_neg hx, if_neg (by omega)]
    · rw [if_neg k5, if_neg k5]
      by_cases k6 : n.k = 6
      · rw [if_pos k6, if_pos k6]
        cases h with
        | nil => simp only; rw [if_neg (by omega)]
        | @cons k y st' h1 h2 h3 h4 =>
          simp only [Nat.add_sub_cancel]
          rw [← h2]
          have hy1 := y.size_pos
          generalize hm : k + 1 - y.size = m at h4
          cases h4 with
          | nil => simp only; rw [if_neg (by omega)]
          | @cons j x r g1 g2 g3 g4 =>
            simp only
            have hj : k - y.size = j := by omega
            rw [hj, ← g2]
            by_cases hx : n.x = (j : Nat) ∧ n.y = (k : Nat)
            · rw [if_pos hx, if_pos (by omega)]
              refine ⟨_, rfl, .cons ⟨hat, k6, ho k6, j, k, hx.1, hx.2, g1, h1⟩ ?_ ?_ ?_⟩
              · rw [← hi, getD_snoc]; simp only [Ex.size]; omega
              · simp only [Ex.size]; omega
              · have := (Sk.more (s := 1 + y.size + x.size) g4 (by omega))
                simp only [Ex.size]
                rw [show k + 1 + 1 - (1 + x.size + y.size) = j + 1 - x.size by omega]
                exact this
            · rw [if_neg hx, if_neg (by omega)]
      · rw [if_neg k6, if_neg k6]
        refine ⟨1, rfl, .cons ⟨hat, hk.1, by omega⟩ ?_ ?_ ?_⟩
        · rw [← hi, getD_snoc]; rfl
        · simp only [Ex.size]; omega
        · have := (Sk.more (s := 1) h (by omega))
          simpa [Ex.size] using this
  · rw [if_neg e, if_neg e]
theorem stk_sizes {ns : List Nd} : ∀ (rest : List Nd) (ss : List Nat) (st : List (Ex × Nat)), ns.drop ss.length = rest → ss.length ≤ ns.length → Sk ns ss ss.length st →
    match stk rest ss.length st with
    | some st' => ∃ out, sizes rest ss = some out ∧ out.length = ns.length ∧ Sk ns out ns.length st'
    | none => sizes rest ss = none
  | [], ss, st, hd, hl, h => by
    have hlen : ss.length = ns.length := by
      have := congrArg List.length hd
      simp at this
      omega
    unfold stk sizes
    exact ⟨ss, rfl, hlen, hlen ▸ h⟩
  | n :: rest, ss, st, hd, hl, h => by
    rw [stk_cons, sizes_cons]
    have hat : ns[ss.length]? = some n := by
      have := congrArg (·[0]?) hd
      simpa using this
    have hlt : ss.length < ns.length := (List.getElem?_eq_some_iff.1 hat).1
    have hs := stp_step hat h
    cases hst : stp ss.length n st with
    | none => rw [hst] at hs; simp only at hs ⊢; rw [hs]
    | some st' =>
      rw [hst] at hs
      obtain ⟨s, hs1, hs2⟩ := hs
      simp only
      rw [hs1]
      have hrec := stk_sizes rest (ss ++ [s]) st' (by
        rw [List.length_append, List.length_singleton]
        have := drop_cons hat
        rw [hd] at this
        exact ((List.cons.inj this).2).symm) (by simp; omega) (by rw [List.length_append, List.length_singleton]; exact hs2)
      rw [List.length_append, List.length_singleton] at hrec
      exact hrec
/-- the reference accepts what the program accepts, with the same tree -/
theorem stk_okL (ns : List Nd) : match stk ns 0 [] with
    | some st => okL ns = decide (st.length = 1) ∧ ∀ t j r, st = (t, j) :: r → t.At ns j ∧ (r = [] → j = ns.length - 1 ∧ t.size = ns.length)
    | none => okL ns = false := by
  have h := stk_sizes (ns := ns) ns [] [] rfl (Nat.zero_le _) .nil
  simp only [List.length_nil] at h
  cases hst : stk ns 0 [] with
  | none =>
    rw [hst] at h
    exact okL_none h
  | some st =>
    rw [hst] at h
    obtain ⟨out, h1, h2, h3⟩ := h
    simp only
    unfold okL
    rw [h1]
    simp only
    generalize hN : ns.length = N at *
    cases h3 with
    | nil => exact ⟨rfl, fun _ _ _ h => by cases h⟩
    | @cons i t st' g1 g2 g3 g4 =>
      simp only [Nat.add_sub_cancel]
      rw [← g2]
      have hp := t.size_pos
      generalize hm : i + 1 - t.size = m at g4
      cases g4 with
      | nil =>
        refine ⟨by simp; omega, fun t' j r he => ?_⟩
        cases he
        exact ⟨g1, fun _ => ⟨rfl, by omega⟩⟩
      | @cons i' t' st'' q1 q2 q3 q4 =>
        refine ⟨by simp; omega, fun t' j r he => ?_⟩
        cases he
        exact ⟨g1, fun hr => by cases hr⟩
/-- all trees of a stack are good -/
def stGood (st : List (Ex × Nat)) : Bool := st.all (·.1.good)
def stxt (st : List (Ex × Nat)) : List SV := (st.map fun e => str e.1.rtxt).reverse
def sdep (st : List (Ex × Nat)) : List SV := (st.map fun e => lit (.int .i64 (e.1.dep : Nat))).reverse
def stop (st : List (Ex × Nat)) : List SV := (st.map fun e => lit (.int .i64 (e.2 : Nat))).reverse
theorem stxt_cons (e : Ex × Nat) (r : List (Ex × Nat)) : stxt (e :: r) = stxt r ++ [str e.1.rtxt] := by simp [stxt]
theorem sdep_cons (e : Ex × Nat) (r : List (Ex × Nat)) : sdep (e :: r) = sdep r ++ [lit (.int .i64 (e.1.dep : Nat))] := by simp [sdep]
theorem stop_cons (e : Ex × Nat) (r : List (Ex × Nat)) : stop (e :: r) = stop r ++ [lit (.int .i64 (e.2 : Nat))] := by simp [stop]
theorem stxt_len (st : List (Ex × Nat)) : (stxt st).length = st.length := by simp [stxt]
theorem sdep_len (st : List (Ex × Nat)) : (sdep st).length = st.length := by simp [sdep]
theorem stop_len (st : List (Ex × Nat)) : (stop st).length = st.length := by simp [stop]
end Go.Ab
