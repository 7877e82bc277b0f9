/- Texts laid one behind the other: RefH, AffB, LnM, ImM, LnA. -/
import Derived.Test.YtmmifnkikifmnaaGreatDoorB12
import Derived.Test.YtmmifnkikifmnaaGreatDoorRefL
import Derived.Test.YtmmifnkikifmnaaGreatDoorB13
import Derived.Test.YtmmifnkikifmnaaGreatDoorB03
/- The reference's rationals: Part, Over. -/
namespace Go.Ab
open Go.Proofs
set_option linter.unusedSectionVars false
set_option linter.unusedVariables false
set_option linter.unusedSimpArgs false
variable [Base]
theorem rpart_pu (n : Int) (d : Nat) (h0 : -9223372036854775808 ≤ n) (h1 : n ≤ 9223372036854775807) (hd0 : d ≠ 0) (hd : d ≤ 9223372036854775807) : Pu Tryz.prog 111 [lit (.int .i64 n), lit (.int .i64 d)] (rq (mkRat n d)) := by
  have hn : il n ≤ 2 := len_le (k := 2) (by have : n.natAbs < 18446744073709551616 := by omega
                                            simpa using this)
  have hdl := len_le (n := d) (k := 2) (by simpa using (show d < 18446744073709551616 by omega))
  refine Pu.intro Tryz.func111 rfl (by kernel_rfl) fun C => ?_
  repeat (first | (refine A1 ⟨?_⟩; intros) | (refine Wcx (rint_pu n h0 h1) ?_) | (refine Wdcx (rint_pu n h0 h1) ?_) | (refine Wcgx (rint_pu n h0 h1) ?_) | (refine Wdcgx (rint_pu n h0 h1) ?_) | (refine Wcx (word_pu d (by omega)) ?_) | (refine Wdcx (word_pu d (by omega)) ?_) | (refine Wcgx (word_pu d (by omega)) ?_) | (refine Wdcgx (word_pu d (by omega)) ?_) | (refine Wcx (rfrac_pu n d (by omega) (by omega) hd0) ?_) | (refine Wdcx (rfrac_pu n d (by omega) (by omega) hd0) ?_) | (refine Wcgx (rfrac_pu n d (by omega) (by omega) hd0) ?_) | (refine Wdcgx (rfrac_pu n d (by omega) (by omega) hd0) ?_))
  ((first | refine endR ?_ | refine endN ?_); refine end1 (RV.cellA rfl (by (first | exact List.mem_cons_self | exact (List.mem_cons_of_mem _ List.mem_cons_self) | exact (List.mem_cons_of_mem _ (List.mem_cons_of_mem _ List.mem_cons_self)) | exact (List.mem_cons_of_mem _ (List.mem_cons_of_mem _ (List.mem_cons_of_mem _ List.mem_cons_self))) | exact (List.mem_cons_of_mem _ (List.mem_cons_of_mem _ (List.mem_cons_of_mem _ (List.mem_cons_of_mem _ List.mem_cons_self)))) | exact (List.mem_cons_of_mem _ (List.mem_cons_of_mem _ (List.mem_cons_of_mem _ (List.mem_cons_of_mem _ (List.mem_cons_of_mem _ List.mem_cons_self))))) | exact (List.mem_cons_of_mem _ (List.mem_cons_of_mem _ (List.mem_cons_of_mem _ (List.mem_cons_of_mem _ (List.mem_cons_of_mem _ (List.mem_cons_of_mem _ List.mem_cons_self)))))) | exact (List.mem_cons_of_mem _ (List.mem_cons_of_mem _ (List.mem_cons_of_mem _ (List.mem_cons_of_mem _ (List.mem_cons_of_mem _ (List.mem_cons_of_mem _ (List.mem_cons_of_mem _ List.mem_cons_self))))))))) (by (first | (simp only [List.drop_succ_cons, List.drop_zero, List.drop_nil, List.take_succ_cons, List.take_zero, List.take_nil, Nat.zero_add, Nat.add_zero, Nat.reduceAdd]; done) | (simp only [List.drop_succ_cons, List.drop_zero, List.drop_nil, List.take_succ_cons, List.take_zero, List.take_nil, Nat.zero_add, Nat.add_zero, Nat.reduceAdd]; exact rfl) | exact rfl)) rfl) (Le.refl _))
theorem over_mk (x y : Rat) : mkRat (x.num * sv (decide (y.num < 0)) y.den) (x.den * y.num.natAbs) = x / y := by
  rw [Rat.div_def, ← inv_mk]
  conv => rhs; rw [← Rat.mkRat_self x]
  rw [Rat.mkRat_mul_mkRat]
theorem rover_pu (x y : Rat) (hx : ht x ≤ 3000000) (hy : ht y ≤ 3000000) (h0 : y.num ≠ 0) : Pu Tryz.prog 154 [rq x, rq y] (rq (x / y)) := by
  have n1 := ht_num x
  have n2 := ht_num y
  have d1 := ht_den x
  have d2 := ht_den y
  have e2 : il y.num = (dgs y.num.natAbs).length := rfl
  have m1 := il_mul x.num (sv (decide (y.num < 0)) y.den)
  have e1 : il (sv (decide (y.num < 0)) y.den) = (dgs y.den).length := by unfold il; rw [sv_abs]
  have m4 := dlen_mul x.den y.num.natAbs
  have mi := rmul_int x.num (sv (decide (y.num < 0)) y.den) (show il x.num ≤ 100000000 by omega) (show il _ ≤ 100000000 by omega)
  have fr := rfrac_pu (x.num * sv (decide (y.num < 0)) y.den) (x.den * y.num.natAbs) (by omega) (by omega) (Nat.mul_ne_zero x.den_nz (by omega))
  rw [over_mk] at fr
  refine Pu.intro Tryz.func154 rfl (by kernel_rfl) fun C => ?_
  repeat (first | (refine A1 ⟨?_⟩; intros) | (refine Wcx (rden_pu _) ?_) | (refine Wdcx (rden_pu _) ?_) | (refine Wcgx (rden_pu _) ?_) | (refine Wdcgx (rden_pu _) ?_) | (refine Wcx (rmake_pu _ _ (by omega)) ?_) | (refine Wdcx (rmake_pu _ _ (by omega)) ?_) | (refine Wcgx (rmake_pu _ _ (by omega)) ?_) | (refine Wdcgx (rmake_pu _ _ (by omega)) ?_) | (refine Wcx (mi) ?_) | (refine Wdcx (mi) ?_) | (refine Wcgx (mi) ?_) | (refine Wdcgx (mi) ?_) | (refine Wcx (rprod_pu _ _ (by omega) (by omega)) ?_) | (refine Wdcx (rprod_pu _ _ (by omega) (by omega)) ?_) | (refine Wcgx (rprod_pu _ _ (by omega) (by omega)) ?_) | (refine Wdcgx (rprod_pu _ _ (by omega) (by omega)) ?_) | (refine Wcx (fr) ?_) | (refine Wdcx (fr) ?_) | (refine Wcgx (fr) ?_) | (refine Wdcgx (fr) ?_))
  ((first | refine endR ?_ | refine endN ?_); refine end1 (RV.cellA rfl (by (first | exact List.mem_cons_self | exact (List.mem_cons_of_mem _ List.mem_cons_self) | exact (List.mem_cons_of_mem _ (List.mem_cons_of_mem _ List.mem_cons_self)) | exact (List.mem_cons_of_mem _ (List.mem_cons_of_mem _ (List.mem_cons_of_mem _ List.mem_cons_self))) | exact (List.mem_cons_of_mem _ (List.mem_cons_of_mem _ (List.mem_cons_of_mem _ (List.mem_cons_of_mem _ List.mem_cons_self)))) | exact (List.mem_cons_of_mem _ (List.mem_cons_of_mem _ (List.mem_cons_of_mem _ (List.mem_cons_of_mem _ (List.mem_cons_of_mem _ List.mem_cons_self))))) | exact (List.mem_cons_of_mem _ (List.mem_cons_of_mem _ (List.mem_cons_of_mem _ (List.mem_cons_of_mem _ (List.mem_cons_of_mem _ (List.mem_cons_of_mem _ List.mem_cons_self)))))) | exact (List.mem_cons_of_mem _ (List.mem_cons_of_mem _ (List.mem_cons_of_mem _ (List.mem_cons_of_mem _ (List.mem_cons_of_mem _ (List.mem_cons_of_mem _ (List.mem_cons_of_mem _ List.mem_cons_self))))))))) (by (first | (simp only [List.drop_succ_cons, List.drop_zero, List.drop_nil, List.take_succ_cons, List.take_zero, List.take_nil, Nat.zero_add, Nat.add_zero, Nat.reduceAdd]; done) | (simp only [List.drop_succ_cons, List.drop_zero, List.drop_nil, List.take_succ_cons, List.take_zero, List.take_nil, Nat.zero_add, Nat.add_zero, Nat.reduceAdd]; exact rfl) | exact rfl)) rfl) (Le.refl _))
end Go.Ab
/- Package affine: Identity, Vector, Compose, Invert; the reference's After, Invert. -/
namespace Go.Ab
open Go.Proofs
set_option linter.unusedSectionVars false
set_option linter.unusedVariables false
set_option linter.unusedSimpArgs false
variable [Base]
def M6.det (m : M6 Rat) : Rat := m.a * m.e - m.d * m.b
/-- n first, then m -/
def M6.comp (m n : M6 Rat) : M6 Rat := ⟨m.a * n.a + m.b * n.d, m.a * n.b + m.b * n.e, m.a * n.c + m.b * n.f + m.c, m.d * n.a + m.e * n.d, m.d * n.b + m.e * n.e, m.d * n.c + m.e * n.f + m.f⟩
def M6.inv (m : M6 Rat) : M6 Rat :=
  ⟨m.e * m.det⁻¹, -m.b * m.det⁻¹, -(m.e * m.det⁻¹ * m.c + -m.b * m.det⁻¹ * m.f), -m.d * m.det⁻¹, m.a * m.det⁻¹, -(-m.d * m.det⁻¹ * m.c + m.a * m.det⁻¹ * m.f)⟩
theorem M6.det_ht {m : M6 Rat} {L : Nat} (h : m.le L) : ht m.det ≤ 4 * L + 3 := by
  obtain ⟨ha, hb, hc, hd, he, hf⟩ := h
  have l1 := ht_mul m.a m.e
  have l2 := ht_mul m.d m.b
  have l3 := ht_sub (m.a * m.e) (m.d * m.b)
  unfold M6.det; omega
theorem M6.comp_le {m n : M6 Rat} {L : Nat} (hm : m.le L) (hn : n.le L) : (m.comp n).le (5 * L + 4) := by
  obtain ⟨ha, hb, hc, hd, he, hf⟩ := hm
  obtain ⟨ka, kb, kc, kd, ke, kf⟩ := hn
  have g : ∀ {x y u v : Rat}, ht x ≤ L → ht y ≤ L → ht u ≤ L → ht v ≤ L → ht (x * y + u * v) ≤ 4 * L + 3 := fun {x y u v} h1 h2 h3 h4 => by
    have l1 := ht_mul x y
    have l2 := ht_mul u v
    have l3 := ht_add (x * y) (u * v)
    omega
  have g2 : ∀ {x y u v z : Rat}, ht x ≤ L → ht y ≤ L → ht u ≤ L → ht v ≤ L → ht z ≤ L → ht (x * y + u * v + z) ≤ 5 * L + 4 := fun {x y u v z} h1 h2 h3 h4 h5 => by
    have l1 := g h1 h2 h3 h4
    have l3 := ht_add (x * y + u * v) z
    omega
  exact ⟨Nat.le_trans (g ha ka hb kd) (by omega), Nat.le_trans (g ha kb hb ke) (by omega), g2 ha kc hb kf hc, Nat.le_trans (g hd ka he kd) (by omega), Nat.le_trans (g hd kb he ke) (by omega), g2 hd kc he kf hf⟩
theorem M6.inv_le {m : M6 Rat} {L : Nat} (h : m.le L) : m.inv.le (14 * L + 20) := by
  have hd0 := M6.det_ht h
  have hi := ht_inv m.det
  obtain ⟨ha, hb, hc, hd, he, hf⟩ := h
  have g : ∀ {x : Rat}, ht x ≤ L → ht (x * m.det⁻¹) ≤ 5 * L + 5 := fun {x} h1 => by
    have l1 := ht_mul x m.det⁻¹
    omega
  have nb : ht (-m.b) ≤ L := by rw [ht_neg]; exact hb
  have nd : ht (-m.d) ≤ L := by rw [ht_neg]; exact hd
  have g2 : ∀ {x y : Rat}, ht x ≤ L → ht y ≤ L → ht (-(x * m.det⁻¹ * m.c + y * m.det⁻¹ * m.f)) ≤ 14 * L + 20 := fun {x y} h1 h2 => by
    have k1 := g h1
    have k2 := g h2
    have l1 := ht_mul (x * m.det⁻¹) m.c
    have l2 := ht_mul (y * m.det⁻¹) m.f
    have l3 := ht_add (x * m.det⁻¹ * m.c) (y * m.det⁻¹ * m.f)
    rw [ht_neg]; omega
  exact ⟨Nat.le_trans (g he) (by omega), Nat.le_trans (g nb) (by omega), g2 he nb, Nat.le_trans (g nd) (by omega), Nat.le_trans (g ha) (by omega), g2 nd ha⟩
theorem aof_q {m : M6 Rat} (h : m.le 100000) : Pu Tryz.prog 56 [mq m] (mf m) := by
  have := aof_pu (M6.of_ok h) (by omega)
  rwa [M6.of_v] at this
theorem translation_raw {a b : RQ} {L : Nat} (ha : a.ok L) (hb : b.ok L) (hL : L ≤ 10000) : Pu Tryz.prog 64 [pr a b] (mq ⟨1, 0, a.v, 0, 1, b.v⟩) := by
  have h0 := ht_zero
  have h1 := ht_one
  have k1 := ht_v ha
  have k2 := ht_v hb
  have hw := awrite_pu (m := ⟨1, 0, a.v, 0, 1, b.v⟩) (L := 10001) ⟨by simp only; omega, by simp only; omega, by simp only; omega, by simp only; omega, by simp only; omega, by simp only; omega⟩ (by omega)
  simp only [mf, r0_zero, r1_zero, r2_zero] at hw
  refine Pu.intro Tryz.func64 rfl (by kernel_rfl) fun C => ?_
  repeat (first | (refine A1 ⟨?_⟩; intros) | (refine Wcx (fint1) ?_) | (refine Wdcx (fint1) ?_) | (refine Wcgx (fint1) ?_) | (refine Wdcgx (fint1) ?_) | (refine Wcx (ptOf_pu ha hb (by omega)) ?_) | (refine Wdcx (ptOf_pu ha hb (by omega)) ?_) | (refine Wcgx (ptOf_pu ha hb (by omega)) ?_) | (refine Wdcgx (ptOf_pu ha hb (by omega)) ?_) | (refine Wcx (hw) ?_) | (refine Wdcx (hw) ?_) | (refine Wcgx (hw) ?_) | (refine Wdcgx (hw) ?_))
  ((first | refine endR ?_ | refine endN ?_); refine end1 (RV.cellA rfl (by (first | exact List.mem_cons_self | exact (List.mem_cons_of_mem _ List.mem_cons_self) | exact (List.mem_cons_of_mem _ (List.mem_cons_of_mem _ List.mem_cons_self)) | exact (List.mem_cons_of_mem _ (List.mem_cons_of_mem _ (List.mem_cons_of_mem _ List.mem_cons_self))) | exact (List.mem_cons_of_mem _ (List.mem_cons_of_mem _ (List.mem_cons_of_mem _ (List.mem_cons_of_mem _ List.mem_cons_self)))) | exact (List.mem_cons_of_mem _ (List.mem_cons_of_mem _ (List.mem_cons_of_mem _ (List.mem_cons_of_mem _ (List.mem_cons_of_mem _ List.mem_cons_self))))) | exact (List.mem_cons_of_mem _ (List.mem_cons_of_mem _ (List.mem_cons_of_mem _ (List.mem_cons_of_mem _ (List.mem_cons_of_mem _ (List.mem_cons_of_mem _ List.mem_cons_self)))))) | exact (List.mem_cons_of_mem _ (List.mem_cons_of_mem _ (List.mem_cons_of_mem _ (List.mem_cons_of_mem _ (List.mem_cons_of_mem _ (List.mem_cons_of_mem _ (List.mem_cons_of_mem _ List.mem_cons_self))))))))) (by (first | (simp only [List.drop_succ_cons, List.drop_zero, List.drop_nil, List.take_succ_cons, List.take_zero, List.take_nil, Nat.zero_add, Nat.add_zero, Nat.reduceAdd]; done) | (simp only [List.drop_succ_cons, List.drop_zero, List.drop_nil, List.take_succ_cons, List.take_zero, List.take_nil, Nat.zero_add, Nat.add_zero, Nat.reduceAdd]; exact rfl) | exact rfl)) rfl) (Le.refl _))
theorem compose_q {m n : M6 Rat} (hm : m.le 1000) (hn : n.le 1000) : Pu Tryz.prog 17 [mq m, mq n] (mq (m.comp n)) := by
  have up : ∀ {x : M6 Rat}, x.le 1000 → x.le 100000 := fun {x} h => ⟨Nat.le_trans h.a (by omega), Nat.le_trans h.b (by omega), Nat.le_trans h.c (by omega), Nat.le_trans h.d (by omega), Nat.le_trans h.e (by omega), Nat.le_trans h.f (by omega)⟩
  have o1 := aof_q (up hm)
  have o2 := aof_q (up hn)
  have v1 := avector_pu hm (by omega) n.a n.d hn.a hn.d
  have v2 := avector_pu hm (by omega) n.b n.e hn.b hn.e
  have v3 := aapply_pu hm (by omega) n.c n.f hn.c hn.f
  have w := awrite_pu (M6.comp_le hm hn) (by omega)
  refine Pu.intro Tryz.func17 rfl (by kernel_rfl) fun C => ?_
  repeat (first | (refine A1 ⟨?_⟩; intros) | (refine Wcx (o1) ?_) | (refine Wdcx (o1) ?_) | (refine Wcgx (o1) ?_) | (refine Wdcgx (o1) ?_) | (refine Wcx (o2) ?_) | (refine Wdcx (o2) ?_) | (refine Wcgx (o2) ?_) | (refine Wdcgx (o2) ?_) | (refine Wcx (v1) ?_) | (refine Wdcx (v1) ?_) | (refine Wcgx (v1) ?_) | (refine Wdcgx (v1) ?_) | (refine Wcx (v2) ?_) | (refine Wdcx (v2) ?_) | (refine Wcgx (v2) ?_) | (refine Wdcgx (v2) ?_) | (refine Wcx (v3) ?_) | (refine Wdcx (v3) ?_) | (refine Wcgx (v3) ?_) | (refine Wdcgx (v3) ?_) | (refine Wcx (w) ?_) | (refine Wdcx (w) ?_) | (refine Wcgx (w) ?_) | (refine Wdcgx (w) ?_))
  ((first | refine endR ?_ | refine endN ?_); refine end1 (RV.cellA rfl (by (first | exact List.mem_cons_self | exact (List.mem_cons_of_mem _ List.mem_cons_self) | exact (List.mem_cons_of_mem _ (List.mem_cons_of_mem _ List.mem_cons_self)) | exact (List.mem_cons_of_mem _ (List.mem_cons_of_mem _ (List.mem_cons_of_mem _ List.mem_cons_self))) | exact (List.mem_cons_of_mem _ (List.mem_cons_of_mem _ (List.mem_cons_of_mem _ (List.mem_cons_of_mem _ List.mem_cons_self)))) | exact (List.mem_cons_of_mem _ (List.mem_cons_of_mem _ (List.mem_cons_of_mem _ (List.mem_cons_of_mem _ (List.mem_cons_of_mem _ List.mem_cons_self))))) | exact (List.mem_cons_of_mem _ (List.mem_cons_of_mem _ (List.mem_cons_of_mem _ (List.mem_cons_of_mem _ (List.mem_cons_of_mem _ (List.mem_cons_of_mem _ List.mem_cons_self)))))) | exact (List.mem_cons_of_mem _ (List.mem_cons_of_mem _ (List.mem_cons_of_mem _ (List.mem_cons_of_mem _ (List.mem_cons_of_mem _ (List.mem_cons_of_mem _ (List.mem_cons_of_mem _ List.mem_cons_self))))))))) (by (first | (simp only [List.drop_succ_cons, List.drop_zero, List.drop_nil, List.take_succ_cons, List.take_zero, List.take_nil, Nat.zero_add, Nat.add_zero, Nat.reduceAdd]; done) | (simp only [List.drop_succ_cons, List.drop_zero, List.drop_nil, List.take_succ_cons, List.take_zero, List.take_nil, Nat.zero_add, Nat.add_zero, Nat.reduceAdd]; exact rfl) | exact rfl)) rfl) (Le.refl _))
theorem pneg_pu (x y : Rat) (hx : ht x ≤ 1000000) (hy : ht y ≤ 1000000) : Pu Tryz.prog 119 [pp x y] (pp (-x) (-y)) := by
  refine Pu.intro Tryz.func119 rfl (by kernel_rfl) fun C => ?_
  repeat (first | (refine A1 ⟨?_⟩; intros) | (refine Wcx (rneg_pu x (by omega)) ?_) | (refine Wdcx (rneg_pu x (by omega)) ?_) | (refine Wcgx (rneg_pu x (by omega)) ?_) | (refine Wdcgx (rneg_pu x (by omega)) ?_) | (refine Wcx (rneg_pu y (by omega)) ?_) | (refine Wdcx (rneg_pu y (by omega)) ?_) | (refine Wcgx (rneg_pu y (by omega)) ?_) | (refine Wdcgx (rneg_pu y (by omega)) ?_))
  ((first | refine endR ?_ | refine endN ?_); refine end1 (RV.cellA rfl (by (first | exact List.mem_cons_self | exact (List.mem_cons_of_mem _ List.mem_cons_self) | exact (List.mem_cons_of_mem _ (List.mem_cons_of_mem _ List.mem_cons_self)) | exact (List.mem_cons_of_mem _ (List.mem_cons_of_mem _ (List.mem_cons_of_mem _ List.mem_cons_self))) | exact (List.mem_cons_of_mem _ (List.mem_cons_of_mem _ (List.mem_cons_of_mem _ (List.mem_cons_of_mem _ List.mem_cons_self)))) | exact (List.mem_cons_of_mem _ (List.mem_cons_of_mem _ (List.mem_cons_of_mem _ (List.mem_cons_of_mem _ (List.mem_cons_of_mem _ List.mem_cons_self))))) | exact (List.mem_cons_of_mem _ (List.mem_cons_of_mem _ (List.mem_cons_of_mem _ (List.mem_cons_of_mem _ (List.mem_cons_of_mem _ (List.mem_cons_of_mem _ List.mem_cons_self)))))) | exact (List.mem_cons_of_mem _ (List.mem_cons_of_mem _ (List.mem_cons_of_mem _ (List.mem_cons_of_mem _ (List.mem_cons_of_mem _ (List.mem_cons_of_mem _ (List.mem_cons_of_mem _ List.mem_cons_self))))))))) (by (first | (simp only [List.drop_succ_cons, List.drop_zero, List.drop_nil, List.take_succ_cons, List.take_zero, List.take_nil, Nat.zero_add, Nat.add_zero, Nat.reduceAdd]; done) | (simp only [List.drop_succ_cons, List.drop_zero, List.drop_nil, List.take_succ_cons, List.take_zero, List.take_nil, Nat.zero_add, Nat.add_zero, Nat.reduceAdd]; exact rfl) | exact rfl)) rfl) (Le.refl _))
theorem inverse_pu {m : M6 Rat} {L : Nat} (h : m.le L) (hL : L ≤ 1000) : Pu Tryz.prog 63 [mf m] (mf m.inv) := by
  have hd0 := M6.det_ht h
  have hi := ht_inv m.det
  have hdet := adet_pu h (by omega)
  have hin := inv_pu (m.a * m.e - m.d * m.b) (by unfold M6.det at hd0; omega)
  obtain ⟨ha, hb, hc, hd, he, hf⟩ := h
  have nb := ht_neg m.b
  have nd := ht_neg m.d
  have s1 := pscale_pu m.e (-m.d) m.det⁻¹ (by omega) (by omega) (by omega)
  have s2 := pscale_pu (-m.b) m.a m.det⁻¹ (by omega) (by omega) (by omega)
  have l1 := ht_mul m.e m.det⁻¹
  have l2 := ht_mul (-m.d) m.det⁻¹
  have l3 := ht_mul (-m.b) m.det⁻¹
  have l4 := ht_mul m.a m.det⁻¹
  have h0 := ht_zero
  have v := avector_pu (m := ⟨m.e * m.det⁻¹, -m.b * m.det⁻¹, 0, -m.d * m.det⁻¹, m.a * m.det⁻¹, 0⟩) (L := 10000) ⟨by simp only; omega, by simp only; omega, by simp only; omega, by simp only; omega, by simp only; omega, by simp only; omega⟩ (by omega) m.c m.f (by omega) (by omega)
  have k1 := ht_mul (m.e * m.det⁻¹) m.c
  have k2 := ht_mul (-m.b * m.det⁻¹) m.f
  have k3 := ht_mul (-m.d * m.det⁻¹) m.c
  have k4 := ht_mul (m.a * m.det⁻¹) m.f
  have k5 := ht_add (m.e * m.det⁻¹ * m.c) (-m.b * m.det⁻¹ * m.f)
  have k6 := ht_add (-m.d * m.det⁻¹ * m.c) (m.a * m.det⁻¹ * m.f)
  have ng := pneg_pu (m.e * m.det⁻¹ * m.c + -m.b * m.det⁻¹ * m.f) (-m.d * m.det⁻¹ * m.c + m.a * m.det⁻¹ * m.f) (by omega) (by omega)
  have n1 := rneg_pu m.d (by omega)
  have n2 := rneg_pu m.b (by omega)
  simp only [mf, r0_zero, r1_zero, r2_zero] at v
  rw [show m.a * m.e - m.d * m.b = m.det from rfl] at hdet hin
  clear k1 k2 k3 k4 k5 k6 l1 l2 l3 l4 hd0 hi nb nd
  refine Pu.intro Tryz.func63 rfl (by kernel_rfl) fun C => ?_
  repeat (first | (refine A1 ⟨?_⟩; intros) | (refine Wcx (hdet) ?_) | (refine Wdcx (hdet) ?_) | (refine Wcgx (hdet) ?_) | (refine Wdcgx (hdet) ?_) | (refine Wcx (hin) ?_) | (refine Wdcx (hin) ?_) | (refine Wcgx (hin) ?_) | (refine Wdcgx (hin) ?_) | (refine Wcx (n1) ?_) | (refine Wdcx (n1) ?_) | (refine Wcgx (n1) ?_) | (refine Wdcgx (n1) ?_) | (refine Wcx (s1) ?_) | (refine Wdcx (s1) ?_) | (refine Wcgx (s1) ?_) | (refine Wdcgx (s1) ?_) | (refine Wcx (n2) ?_) | (refine Wdcx (n2) ?_) | (refine Wcgx (n2) ?_) | (refine Wdcgx (n2) ?_) | (refine Wcx (s2) ?_) | (refine Wdcx (s2) ?_) | (refine Wcgx (s2) ?_) | (refine Wdcgx (s2) ?_) | (refine Wcx (v) ?_) | (refine Wdcx (v) ?_) | (refine Wcgx (v) ?_) | (refine Wdcgx (v) ?_) | (refine Wcx (ng) ?_) | (refine Wdcx (ng) ?_) | (refine Wcgx (ng) ?_) | (refine Wdcgx (ng) ?_))
  ((first | refine endR ?_ | refine endN ?_); refine end1 (RV.cellA rfl (by (first | exact List.mem_cons_self | exact (List.mem_cons_of_mem _ List.mem_cons_self) | exact (List.mem_cons_of_mem _ (List.mem_cons_of_mem _ List.mem_cons_self)) | exact (List.mem_cons_of_mem _ (List.mem_cons_of_mem _ (List.mem_cons_of_mem _ List.mem_cons_self))) | exact (List.mem_cons_of_mem _ (List.mem_cons_of_mem _ (List.mem_cons_of_mem _ (List.mem_cons_of_mem _ List.mem_cons_self)))) | exact (List.mem_cons_of_mem _ (List.mem_cons_of_mem _ (List.mem_cons_of_mem _ (List.mem_cons_of_mem _ (List.mem_cons_of_mem _ List.mem_cons_self))))) | exact (List.mem_cons_of_mem _ (List.mem_cons_of_mem _ (List.mem_cons_of_mem _ (List.mem_cons_of_mem _ (List.mem_cons_of_mem _ (List.mem_cons_of_mem _ List.mem_cons_self)))))) | exact (List.mem_cons_of_mem _ (List.mem_cons_of_mem _ (List.mem_cons_of_mem _ (List.mem_cons_of_mem _ (List.mem_cons_of_mem _ (List.mem_cons_of_mem _ (List.mem_cons_of_mem _ List.mem_cons_self))))))))) (by (first | (simp only [List.drop_succ_cons, List.drop_zero, List.drop_nil, List.take_succ_cons, List.take_zero, List.take_nil, Nat.zero_add, Nat.add_zero, Nat.reduceAdd]; done) | (simp only [List.drop_succ_cons, List.drop_zero, List.drop_nil, List.take_succ_cons, List.take_zero, List.take_nil, Nat.zero_add, Nat.add_zero, Nat.reduceAdd]; exact rfl) | exact rfl)) rfl) (Le.refl _))
end Go.Ab
/- Lines with coprime integers; images of lines under affine maps: plain laws. -/
namespace Go.Ab
open Go.Proofs
set_option linter.unusedSectionVars false
set_option linter.unusedVariables false
set_option linter.unusedSimpArgs false
variable [Base]
/-- the greatest common divisor of two rational numbers -/
def rgcd (x y : Rat) : Rat := mkRat (Nat.gcd (x.num.natAbs * y.den) (y.num.natAbs * x.den) : Nat) (x.den * y.den)
theorem cross_mk {x : Rat} {p : Int} {d : Nat} (hd : d ≠ 0) (h : x = mkRat p d) : x.num * d = p * x.den := by
  have h1 := Rat.mkRat_self x
  rw [← h1] at h
  conv at h => lhs; rw [h1]
  have := (Rat.mkRat_eq_iff (n₁ := x.num) (n₂ := p) x.den_nz hd).1 (by rw [Rat.mkRat_self]; exact h)
  rw [this]
theorem rgcd_of {x y : Rat} {p q : Int} {d : Nat} (hd : d ≠ 0) (hx : x = mkRat p d) (hy : y = mkRat q d) : rgcd x y = mkRat (Nat.gcd p.natAbs q.natAbs : Nat) d := by
  have cx := congrArg Int.natAbs (cross_mk hd hx)
  have cy := congrArg Int.natAbs (cross_mk hd hy)
  rw [Int.natAbs_mul, Int.natAbs_mul, Int.natAbs_natCast, Int.natAbs_natCast] at cx cy
  unfold rgcd
  rw [Rat.mkRat_eq_iff (Nat.mul_ne_zero x.den_nz y.den_nz) hd]
  have : Nat.gcd (x.num.natAbs * y.den) (y.num.natAbs * x.den) * d = Nat.gcd p.natAbs q.natAbs * (x.den * y.den) := by
    rw [← Nat.gcd_mul_right, ← Nat.gcd_mul_right]
    congr 1
    · rw [Nat.mul_right_comm, cx, Nat.mul_assoc]
    · rw [Nat.mul_right_comm, cy, Nat.mul_assoc, Nat.mul_comm y.den]
  exact_mod_cast this
theorem common (x y : Rat) : ∃ (p q : Int) (d : Nat), d ≠ 0 ∧ x = mkRat p d ∧ y = mkRat q d := by
  refine ⟨x.num * y.den, y.num * x.den, x.den * y.den, Nat.mul_ne_zero x.den_nz y.den_nz, ?_, ?_⟩
  · rw [Rat.mkRat_mul_right y.den_nz, Rat.mkRat_self]
  · rw [Nat.mul_comm x.den, Rat.mkRat_mul_right x.den_nz, Rat.mkRat_self]
theorem rgcd_mul (t x y : Rat) (ht : 0 < t) : rgcd (t * x) (t * y) = t * rgcd x y := by
  obtain ⟨p, q, d, hd, hx, hy⟩ := common x y
  have hn : 0 < t.num := by
    have h0 := Rat.num_nonneg.2 (Rat.le_of_lt ht)
    have h1 : t.num ≠ 0 := fun e => by rw [Rat.num_eq_zero.1 e] at ht; exact absurd ht (by decide)
    omega
  have e : t = mkRat t.num t.den := (Rat.mkRat_self t).symm
  have hx' : t * x = mkRat (t.num * p) (t.den * d) := by conv => lhs; rw [e, hx, Rat.mkRat_mul_mkRat]
  have hy' : t * y = mkRat (t.num * q) (t.den * d) := by conv => lhs; rw [e, hy, Rat.mkRat_mul_mkRat]
  rw [rgcd_of (Nat.mul_ne_zero t.den_nz hd) hx' hy', rgcd_of hd hx hy, Int.natAbs_mul, Int.natAbs_mul, Nat.gcd_mul_left]
  conv => rhs; rw [e, Rat.mkRat_mul_mkRat]
  congr 1
  rw [Int.natCast_mul, Int.natAbs_of_nonneg (Int.le_of_lt hn)]
theorem rgcd_nonneg (x y : Rat) : 0 ≤ rgcd x y := by
  unfold rgcd
  rw [← Rat.num_nonneg, Rat.num_mkRat]
  rw [if_neg (Nat.mul_ne_zero x.den_nz y.den_nz)]
  exact Int.ediv_nonneg (Int.natCast_nonneg _) (Int.natCast_nonneg _)
theorem rgcd_dvd (x y : Rat) : ∃ k l : Int, x = k * rgcd x y ∧ y = l * rgcd x y := by
  obtain ⟨p, q, d, hd, hx, hy⟩ := common x y
  rw [rgcd_of hd hx hy]
  have h1 : (Nat.gcd p.natAbs q.natAbs : Int) ∣ p := Int.ofNat_dvd_left.2 (Nat.gcd_dvd_left _ _)
  have h2 : (Nat.gcd p.natAbs q.natAbs : Int) ∣ q := Int.ofNat_dvd_left.2 (Nat.gcd_dvd_right _ _)
  obtain ⟨k, hk⟩ := h1
  obtain ⟨l, hl⟩ := h2
  have key : ∀ (z k : Int), z = (Nat.gcd p.natAbs q.natAbs : Int) * k → mkRat z d = (k : Rat) * mkRat (Nat.gcd p.natAbs q.natAbs : Nat) d := fun z k h => by
    have e : (k : Rat) = mkRat k 1 := (Rat.mkRat_one k).symm
    rw [e, Rat.mkRat_mul_mkRat, Nat.one_mul, h, Int.mul_comm]
  exact ⟨k, l, by rw [hx]; exact key p k hk, by rw [hy]; exact key q l hl⟩
theorem rgcd_zero {x y : Rat} (h : rgcd x y = 0) : x = 0 ∧ y = 0 := by
  obtain ⟨k, l, h1, h2⟩ := rgcd_dvd x y
  rw [h, Rat.mul_zero] at h1 h2
  exact ⟨h1, h2⟩
theorem rgcd_ints (a b : Int) : rgcd a b = ((Nat.gcd a.natAbs b.natAbs : Nat) : Rat) := by
  unfold rgcd
  rw [Rat.num_intCast, Rat.num_intCast, Rat.den_intCast, Rat.den_intCast, Nat.mul_one, Nat.mul_one, Nat.mul_one, Rat.mkRat_one]; rfl
/-- a line with integer coefficients -/
structure Li where
  a : Int
  b : Int
  c : Int
def Li.ok (l : Li) : Prop := Nat.gcd (Nat.gcd l.a.natAbs l.b.natAbs) l.c.natAbs = 1 ∧ (l.a ≠ 0 ∨ l.b ≠ 0)
def g3 (a b c : Rat) : Rat := rgcd (rgcd a b) c
/-- the coprime integers in the proportion of three numbers -/
def prim (a b c : Rat) : Li := ⟨(a * (g3 a b c)⁻¹).num, (b * (g3 a b c)⁻¹).num, (c * (g3 a b c)⁻¹).num⟩
theorem g3_mul (t a b c : Rat) (ht : 0 < t) : g3 (t * a) (t * b) (t * c) = t * g3 a b c := by unfold g3; rw [rgcd_mul t a b ht, rgcd_mul t _ c ht]
theorem g3_pos {a b c : Rat} (h : a ≠ 0 ∨ b ≠ 0) : 0 < g3 a b c := by
  have h0 := rgcd_nonneg (rgcd a b) c
  rcases Rat.le_iff_lt_or_eq.1 h0 with h1 | h1
  · exact h1
  · exfalso
    have h2 := (rgcd_zero h1.symm).1
    have h3 := rgcd_zero h2
    rcases h with h | h
    · exact h h3.1
    · exact h h3.2
theorem num_int {x : Rat} (h : x.den = 1) : (x.num : Rat) = x := by
  apply Rat.ext <;> simp [h]
theorem prim_eq {a b c : Rat} (h : a ≠ 0 ∨ b ≠ 0) : a * (g3 a b c)⁻¹ = ((prim a b c).a : Rat) ∧ b * (g3 a b c)⁻¹ = ((prim a b c).b : Rat) ∧ c * (g3 a b c)⁻¹ = ((prim a b c).c : Rat) := by
  have hg := g3_pos (c := c) h
  have hne : g3 a b c ≠ 0 := fun e => by rw [e] at hg; exact absurd hg (by decide)
  obtain ⟨k, l, h1, h2⟩ := rgcd_dvd a b
  obtain ⟨u, v, h3, h4⟩ := rgcd_dvd (rgcd a b) c
  have ea : a * (g3 a b c)⁻¹ = ((k * u : Int) : Rat) := by
    have : a = ((k * u : Int) : Rat) * g3 a b c := by rw [Rat.intCast_mul, Rat.mul_assoc]; unfold g3; rw [← h3]; exact h1
    generalize g3 a b c = g at *
    rw [this, Rat.mul_assoc, Rat.mul_inv_cancel _ hne, Rat.mul_one]
  have eb : b * (g3 a b c)⁻¹ = ((l * u : Int) : Rat) := by
    have : b = ((l * u : Int) : Rat) * g3 a b c := by rw [Rat.intCast_mul, Rat.mul_assoc]; unfold g3; rw [← h3]; exact h2
    generalize g3 a b c = g at *
    rw [this, Rat.mul_assoc, Rat.mul_inv_cancel _ hne, Rat.mul_one]
  have ec : c * (g3 a b c)⁻¹ = ((v : Int) : Rat) := by
    have : c = ((v : Int) : Rat) * g3 a b c := h4
    generalize g3 a b c = g at *
    rw [this, Rat.mul_assoc, Rat.mul_inv_cancel _ hne, Rat.mul_one]
  unfold prim
  simp only []
  rw [ea, eb, ec, Rat.num_intCast, Rat.num_intCast, Rat.num_intCast]
  exact ⟨rfl, rfl, rfl⟩
theorem prim_ok {a b c : Rat} (h : a ≠ 0 ∨ b ≠ 0) : (prim a b c).ok := by
  have hg := g3_pos (c := c) h
  have hne : g3 a b c ≠ 0 := fun e => by rw [e] at hg; exact absurd hg (by decide)
  obtain ⟨e1, e2, e3⟩ := prim_eq (c := c) h
  have hi : 0 < (g3 a b c)⁻¹ := Rat.inv_pos.2 hg
  have h1 := g3_mul (g3 a b c)⁻¹ a b c hi
  rw [Rat.inv_mul_cancel _ hne, Rat.mul_comm _ a, Rat.mul_comm _ b, Rat.mul_comm _ c, e1, e2, e3] at h1
  unfold g3 at h1
  rw [rgcd_ints, show ((Nat.gcd (prim a b c).a.natAbs (prim a b c).b.natAbs : Nat) : Rat) = (((Nat.gcd (prim a b c).a.natAbs (prim a b c).b.natAbs : Nat) : Int) : Rat) from rfl, rgcd_ints, Int.natAbs_natCast] at h1
  refine ⟨by exact_mod_cast h1, ?_⟩
  rcases h with h | h
  · left; intro e
    rw [e] at e1
    rcases Rat.mul_eq_zero.1 (e1.trans rfl) with h5 | h5
    · exact h h5
    · rw [h5] at hi; exact absurd hi (by decide)
  · right; intro e
    rw [e] at e2
    rcases Rat.mul_eq_zero.1 (e2.trans rfl) with h5 | h5
    · exact h h5
    · rw [h5] at hi; exact absurd hi (by decide)
theorem prim_mul (t a b c : Rat) (ht : 0 < t) : prim (t * a) (t * b) (t * c) = prim a b c := by
  have hne : t ≠ 0 := fun e => by rw [e] at ht; exact absurd ht (by decide)
  have key : ∀ x : Rat, t * x * (t * g3 a b c)⁻¹ = x * (g3 a b c)⁻¹ := fun x => by
    rw [Rat.inv_mul_rev, Rat.mul_comm t x, Rat.mul_assoc, ← Rat.mul_assoc t, Rat.mul_comm t, Rat.mul_assoc (g3 a b c)⁻¹, Rat.mul_inv_cancel _ hne, Rat.mul_one]
  unfold prim
  rw [g3_mul t a b c ht, key, key, key]
theorem prim_id {l : Li} (h : l.ok) : prim l.a l.b l.c = l := by
  have : g3 l.a l.b l.c = 1 := by
    unfold g3
    rw [rgcd_ints, show ((Nat.gcd l.a.natAbs l.b.natAbs : Nat) : Rat) = (((Nat.gcd l.a.natAbs l.b.natAbs : Nat) : Int) : Rat) from rfl, rgcd_ints, Int.natAbs_natCast, h.1]; rfl
  unfold prim
  rw [this, show (1 : Rat)⁻¹ = 1 from by decide +kernel, Rat.mul_one, Rat.mul_one, Rat.mul_one, Rat.num_intCast, Rat.num_intCast, Rat.num_intCast]
theorem M6.inv_det {m : M6 Rat} (h : m.det ≠ 0) : m.inv.det = m.det⁻¹ := by
  have hd : m.det = m.a * m.e - m.d * m.b := rfl
  unfold M6.inv
  generalize hk : m.det⁻¹ = k
  have h1 : m.det * k = 1 := by rw [← hk]; exact Rat.mul_inv_cancel _ h
  unfold M6.det
  simp only []
  generalize m.det = D at *
  subst hd
  grind
def M6.invk (m : M6 Rat) (k : Rat) : M6 Rat := ⟨m.e * k, -m.b * k, -(m.e * k * m.c + -m.b * k * m.f), -m.d * k, m.a * k, -(-m.d * k * m.c + m.a * k * m.f)⟩
theorem M6.inv_k (m : M6 Rat) : m.inv = m.invk m.det⁻¹ := rfl
theorem M6.invk_k (m : M6 Rat) {k : Rat} (h : m.det * k = 1) : (m.invk k).invk m.det = m := by
  have hd : m.det = m.a * m.e - m.d * m.b := rfl
  generalize m.det = D at *
  obtain ⟨a, b, c, d, e, f⟩ := m
  simp only [M6.invk] at *
  congr 1 <;> grind
theorem M6.inv_inv {m : M6 Rat} (h : m.det ≠ 0) : m.inv.inv = m := by
  rw [M6.inv_k m.inv, M6.inv_det h, Rat.inv_inv, M6.inv_k m]
  exact M6.invk_k m (Rat.mul_inv_cancel _ h)
/-- the image of a line -/
def Li.im (m : M6 Rat) (l : Li) : Li := prim (l.a * m.inv.a + l.b * m.inv.d) (l.a * m.inv.b + l.b * m.inv.e) (l.a * m.inv.c + l.b * m.inv.f + l.c)
theorem Li.im_ne {m : M6 Rat} {l : Li} (h : m.det ≠ 0) (hl : l.ok) : (l.a : Rat) * m.inv.a + l.b * m.inv.d ≠ 0 ∨ (l.a : Rat) * m.inv.b + l.b * m.inv.e ≠ 0 := by
  have h1 : m.det * m.det⁻¹ = 1 := Rat.mul_inv_cancel _ h
  have hd : m.det = m.a * m.e - m.d * m.b := rfl
  unfold M6.inv
  simp only []
  generalize m.det⁻¹ = k at *
  generalize m.det = D at *
  by_cases e1 : (l.a : Rat) * (m.e * k) + l.b * (-m.d * k) = 0
  · right
    intro e2
    have ha : (l.a : Rat) = 0 := by grind
    have hb : (l.b : Rat) = 0 := by grind
    rcases hl.2 with h | h
    · exact h (by exact_mod_cast ha)
    · exact h (by exact_mod_cast hb)
  · exact .inl e1
theorem Li.im_ok {m : M6 Rat} {l : Li} (h : m.det ≠ 0) (hl : l.ok) : (l.im m).ok := prim_ok (Li.im_ne h hl)
theorem Li.im_inv {m : M6 Rat} {l : Li} (h : m.det ≠ 0) (hl : l.ok) : (l.im m).im m.inv = l := by
  have hne := Li.im_ne h hl
  obtain ⟨e1, e2, e3⟩ := prim_eq (c := l.a * m.inv.c + l.b * m.inv.f + l.c) hne
  have hg := g3_pos (c := l.a * m.inv.c + l.b * m.inv.f + l.c) hne
  have hi : 0 < (g3 (l.a * m.inv.a + l.b * m.inv.d) (l.a * m.inv.b + l.b * m.inv.e) (l.a * m.inv.c + l.b * m.inv.f + l.c))⁻¹ := Rat.inv_pos.2 hg
  have h1 : m.det * m.det⁻¹ = 1 := Rat.mul_inv_cancel _ h
  have hd : m.det = m.a * m.e - m.d * m.b := rfl
  have key : (l.im m).im m.inv = prim (((l.im m).a : Rat) * m.a + (l.im m).b * m.d) (((l.im m).a : Rat) * m.b + (l.im m).b * m.e) (((l.im m).a : Rat) * m.c + (l.im m).b * m.f + (l.im m).c) := by
    unfold Li.im
    rw [M6.inv_inv h]
  rw [key]
  unfold Li.im
  rw [← e1, ← e2, ← e3]
  generalize (g3 (l.a * m.inv.a + l.b * m.inv.d) (l.a * m.inv.b + l.b * m.inv.e) (l.a * m.inv.c + l.b * m.inv.f + l.c))⁻¹ = t at *
  have z : prim (t * l.a) (t * l.b) (t * l.c) = l := by rw [prim_mul t _ _ _ hi]; exact prim_id hl
  clear e1 e2 e3 key hne hg
  unfold M6.inv
  simp only []
  generalize m.det⁻¹ = k at *
  generalize m.det = D at *
  rw [← z]
  congr 1 <;> grind
end Go.Ab
/- Lines: coprime integers out of integers; the image of a line as the reference makes it: plain laws. -/
namespace Go.Ab
open Go.Proofs
set_option linter.unusedSectionVars false
set_option linter.unusedVariables false
set_option linter.unusedSimpArgs false
variable [Base]
def Li.neg (l : Li) : Li := ⟨-l.a, -l.b, -l.c⟩
theorem g3_ints (a b c : Int) : g3 a b c = ((Nat.gcd (Nat.gcd a.natAbs b.natAbs) c.natAbs : Nat) : Rat) := by
  unfold g3
  rw [rgcd_ints, show ((Nat.gcd a.natAbs b.natAbs : Nat) : Rat) = (((Nat.gcd a.natAbs b.natAbs : Nat) : Int) : Rat) from rfl, rgcd_ints, Int.natAbs_natCast]
theorem mul_inv_int {a : Int} {g : Nat} (hg : g ≠ 0) (h : g ∣ a.natAbs) : ((a : Rat) * ((g : Nat) : Rat)⁻¹).num = sv (decide (a < 0)) (a.natAbs / g) := by
  obtain ⟨k, hk⟩ := h
  have hgr : ((g : Nat) : Rat) ≠ 0 := by exact_mod_cast hg
  have ek : a.natAbs / g = k := by rw [hk, Nat.mul_div_cancel_left _ (Nat.pos_of_ne_zero hg)]
  have ea : a = (g : Int) * sv (decide (a < 0)) k := by
    have h0 := sv_int a
    rw [hk] at h0
    conv => lhs; rw [← h0]
    cases decide (a < 0)
    · simp [sv]
    · simp [sv, Int.mul_neg]
  rw [ek]
  generalize sv (decide (a < 0)) k = z at *
  have : (a : Rat) * ((g : Nat) : Rat)⁻¹ = (z : Rat) := by
    rw [ea, Rat.intCast_mul, Rat.mul_comm, ← Rat.mul_assoc]
    rw [show ((g : Int) : Rat) = ((g : Nat) : Rat) from rfl, Rat.inv_mul_cancel _ hgr, Rat.one_mul]
  rw [this, Rat.num_intCast]
theorem g_ne {a b : Int} (c : Int) (h : a ≠ 0 ∨ b ≠ 0) : Nat.gcd (Nat.gcd a.natAbs b.natAbs) c.natAbs ≠ 0 := by
  intro e
  have h1 := (Nat.gcd_eq_zero_iff.1 e).1
  have h2 := Nat.gcd_eq_zero_iff.1 h1
  omega
theorem prim_ints {a b : Int} (c : Int) (h : a ≠ 0 ∨ b ≠ 0) : prim a b c = ⟨sv (decide (a < 0)) (a.natAbs / Nat.gcd (Nat.gcd a.natAbs b.natAbs) c.natAbs), sv (decide (b < 0)) (b.natAbs / Nat.gcd (Nat.gcd a.natAbs b.natAbs) c.natAbs),
    sv (decide (c < 0)) (c.natAbs / Nat.gcd (Nat.gcd a.natAbs b.natAbs) c.natAbs)⟩ := by
  have hg := g_ne c h
  have d1 : Nat.gcd (Nat.gcd a.natAbs b.natAbs) c.natAbs ∣ a.natAbs := Nat.dvd_trans (Nat.gcd_dvd_left _ _) (Nat.gcd_dvd_left _ _)
  have d2 : Nat.gcd (Nat.gcd a.natAbs b.natAbs) c.natAbs ∣ b.natAbs := Nat.dvd_trans (Nat.gcd_dvd_left _ _) (Nat.gcd_dvd_right _ _)
  have d3 : Nat.gcd (Nat.gcd a.natAbs b.natAbs) c.natAbs ∣ c.natAbs := Nat.gcd_dvd_right _ _
  unfold prim
  rw [g3_ints]
  generalize Nat.gcd (Nat.gcd a.natAbs b.natAbs) c.natAbs = g at *
  rw [mul_inv_int hg d1, mul_inv_int hg d2, mul_inv_int hg d3]
theorem prim_abs {a b : Int} (c : Int) (h : a ≠ 0 ∨ b ≠ 0) : (prim a b c).a.natAbs ≤ a.natAbs ∧ (prim a b c).b.natAbs ≤ b.natAbs ∧ (prim a b c).c.natAbs ≤ c.natAbs := by
  rw [prim_ints c h]
  simp only [sv_abs]
  exact ⟨Nat.div_le_self _ _, Nat.div_le_self _ _, Nat.div_le_self _ _⟩
theorem rgcd_neg (x y : Rat) : rgcd (-x) (-y) = rgcd x y := by
  unfold rgcd
  rw [Rat.neg_num, Rat.neg_den, Rat.neg_num, Rat.neg_den, Int.natAbs_neg, Int.natAbs_neg]
theorem rgcd_negr (x y : Rat) : rgcd x (-y) = rgcd x y := by
  unfold rgcd
  rw [Rat.neg_num, Rat.neg_den, Int.natAbs_neg]
theorem prim_neg (a b c : Rat) : prim (-a) (-b) (-c) = (prim a b c).neg := by
  unfold prim Li.neg g3
  rw [rgcd_neg, rgcd_negr]
  simp only [Rat.neg_mul, Rat.neg_num]
/-- the line through two points -/
def thr (x y u v : Rat) : Li := prim (-(v - y)) (u - x) (-(-(v - y) * x + (u - x) * y))
/-- the image of a line as the reference makes it -/
def Li.rim (m : M6 Rat) (l : Li) : Li :=
  let f : Rat := -(l.c / (l.b * l.b + -l.a * -l.a))
  let x := f * l.a
  let y := f * l.b
  let u := x + 1 * l.b
  let v := y + 1 * -l.a
  let t := thr (m.a * x + m.b * y + m.c) (m.d * x + m.e * y + m.f) (m.a * u + m.b * v + m.c) (m.d * u + m.e * v + m.f)
  if m.det < 0 then t.neg else t
theorem Li.n_pos {l : Li} (hl : l.ok) : (0 : Rat) < l.b * l.b + -l.a * -l.a := by
  have h : 0 < l.b * l.b + -l.a * -l.a := by
    have h1 : 0 ≤ l.b * l.b := by rcases Int.le_total 0 l.b with h | h; exact Int.mul_nonneg h h; exact Int.mul_nonneg_of_nonpos_of_nonpos h h
    have h2 : 0 ≤ -l.a * -l.a := by rcases Int.le_total 0 (-l.a) with h | h; exact Int.mul_nonneg h h; exact Int.mul_nonneg_of_nonpos_of_nonpos h h
    rcases hl.2 with h | h
    · have : -l.a * -l.a ≠ 0 := fun e => by rcases Int.mul_eq_zero.1 e with e | e <;> omega
      omega
    · have : l.b * l.b ≠ 0 := fun e => by rcases Int.mul_eq_zero.1 e with e | e <;> omega
      omega
  exact_mod_cast h
theorem Li.rim_im {m : M6 Rat} {l : Li} (h : m.det ≠ 0) (hl : l.ok) : l.rim m = l.im m := by
  have hn := Li.n_pos hl
  have hne : (l.b * l.b + -l.a * -l.a : Rat) ≠ 0 := fun e => by rw [e] at hn; exact absurd hn (by decide)
  obtain ⟨f, hf⟩ : ∃ f : Rat, f = -(l.c / (l.b * l.b + -l.a * -l.a)) := ⟨_, rfl⟩
  have hfn : f * (l.b * l.b + -l.a * -l.a) = -l.c := by rw [hf, Rat.neg_mul, Rat.div_mul_cancel hne]
  have h1 : m.det * m.det⁻¹ = 1 := Rat.mul_inv_cancel _ h
  have hd : m.det = m.a * m.e - m.d * m.b := rfl
  unfold Li.rim thr
  simp only []
  rw [← hf]
  have key : ∀ t : Rat, t * m.det⁻¹ = 1 → prim (-(m.d * (f * l.a + 1 * l.b) + m.e * (f * l.b + 1 * -l.a) + m.f - (m.d * (f * l.a) + m.e * (f * l.b) + m.f))) (m.a * (f * l.a + 1 * l.b) + m.b * (f * l.b + 1 * -l.a) + m.c - (m.a * (f * l.a) + m.b * (f * l.b) + m.c))
      (-(-(m.d * (f * l.a + 1 * l.b) + m.e * (f * l.b + 1 * -l.a) + m.f - (m.d * (f * l.a) + m.e * (f * l.b) + m.f)) * (m.a * (f * l.a) + m.b * (f * l.b) + m.c) + (m.a * (f * l.a + 1 * l.b) + m.b * (f * l.b + 1 * -l.a) + m.c - (m.a * (f * l.a) + m.b * (f * l.b) + m.c)) * (m.d * (f * l.a) + m.e * (f * l.b) + m.f)))
      = prim (t * (l.a * m.inv.a + l.b * m.inv.d)) (t * (l.a * m.inv.b + l.b * m.inv.e)) (t * (l.a * m.inv.c + l.b * m.inv.f + l.c)) := by
    intro t ht
    unfold M6.inv
    simp only []
    generalize m.det⁻¹ = k at *
    generalize m.det = D at *
    have e : t = D := by grind
    subst e
    clear hf hn hne hl
    generalize (l.a : Rat) = A at *
    generalize (l.b : Rat) = B at *
    generalize (l.c : Rat) = C at *
    obtain ⟨a, b, c, d, e, f'⟩ := m
    simp only at *
    congr 1 <;> grind
  rw [key m.det h1]
  by_cases hneg : m.det < 0
  · rw [if_pos hneg]
    have hp : 0 < -m.det := by have := Rat.neg_lt_neg hneg; rwa [Rat.neg_zero] at this
    have e : ∀ x : Rat, m.det * x = -(-m.det * x) := fun x => by rw [Rat.neg_mul, Rat.neg_neg]
    rw [e, e, e, prim_neg, prim_mul _ _ _ _ hp]
    unfold Li.neg Li.im
    simp
  · rw [if_neg hneg]
    have hp : 0 < m.det := by
      rcases Rat.le_iff_lt_or_eq.1 (Rat.not_lt.1 hneg) with h2 | h2
      · exact h2
      · exact absurd h2.symm h
    rw [prim_mul _ _ _ _ hp]
    rfl
end Go.Ab
/- Packages nat, integer, frac, geo: normal forms, comparisons, common divisors; lines. -/
namespace Go.Ab
open Go.Proofs
set_option linter.unusedSectionVars false
set_option linter.unusedVariables false
set_option linter.unusedSimpArgs false
variable [Base]
/-- digits in normal form -/
def nrm (xs : List Nat) : Bool := decide (xs.length = 0) || decide (xs.getD (xs.length - 1) 0 ≠ 0)
theorem nrm_dgs (n : Nat) : nrm (dgs n) = true := by
  by_cases h : n = 0
  · subst h; rw [dgs_zero]; rfl
  · obtain ⟨k, h1, h2, _⟩ := dgs_top h
    unfold nrm
    rw [h1, Nat.add_sub_cancel, decide_eq_true h2, Bool.or_true]
theorem natNormal_pu (xs : List Nat) (hl : xs.length ≤ 1000000000) : Pu Tryz.prog 194 [dg xs] (lit (.bool (nrm xs))) := by
  unfold nrm
  by_cases h : xs.length = 0
  · rw [decide_eq_true h, Bool.true_or]
    refine Pu.intro Tryz.func194 rfl (by kernel_rfl) fun C => ?_
    repeat (refine A1 ⟨?_⟩; intros)
    ((first | refine endR ?_ | refine endN ?_); exact end1 (RV.tmp rfl) (Le.refl _))
  · rw [decide_eq_false h, Bool.false_or]
    by_cases h1 : xs.getD (xs.length - 1) 0 = 0
    · rw [decide_eq_false (fun e => e h1)]
      refine Pu.intro Tryz.func194 rfl (by kernel_rfl) fun C => ?_
      repeat (refine A1 ⟨?_⟩; intros)
      ((first | refine endR ?_ | refine endN ?_); exact end1 (RV.tmp rfl) (Le.refl _))
    · rw [decide_eq_true h1]
      refine Pu.intro Tryz.func194 rfl (by kernel_rfl) fun C => ?_
      repeat (refine A1 ⟨?_⟩; intros)
      ((first | refine endR ?_ | refine endN ?_); exact end1 (RV.tmp rfl) (Le.refl _))
/-- a sign and digits in normal form -/
def nrmI (s : Bool) (xs : List Nat) : Bool := nrm xs && (!s || decide (0 < xs.length))
theorem nrmI_int (z : Int) : nrmI (decide (z < 0)) (dgs z.natAbs) = true := by
  unfold nrmI
  rw [nrm_dgs, Bool.true_and]
  by_cases h : z < 0
  · rw [decide_eq_true h, decide_eq_true (dgs_len_pos (by omega)), Bool.or_true]
  · rw [decide_eq_false h]; rfl
theorem intNormal_pu (s : Bool) (xs : List Nat) (hl : xs.length ≤ 1000000000) : Pu Tryz.prog 140 [raw s xs] (lit (.bool (nrmI s xs))) := by
  have hn := natNormal_pu xs hl
  unfold nrmI
  cases hx : nrm xs with
  | false =>
    rw [hx] at hn
    refine Pu.intro Tryz.func140 rfl (by kernel_rfl) fun C => ?_
    repeat (first | (refine A1 ⟨?_⟩; intros) | (refine Wcx (hn) ?_) | (refine Wdcx (hn) ?_) | (refine Wcgx (hn) ?_) | (refine Wdcgx (hn) ?_))
    ((first | refine endR ?_ | refine endN ?_); exact end1 (RV.tmp rfl) (Le.refl _))
  | true =>
    rw [hx] at hn
    cases s with
    | false =>
      refine Pu.intro Tryz.func140 rfl (by kernel_rfl) fun C => ?_
      repeat (first | (refine A1 ⟨?_⟩; intros) | (refine Wcx (hn) ?_) | (refine Wdcx (hn) ?_) | (refine Wcgx (hn) ?_) | (refine Wdcgx (hn) ?_))
      ((first | refine endR ?_ | refine endN ?_); exact end1 (RV.tmp rfl) (Le.refl _))
    | true =>
      by_cases h : 0 < xs.length
      · rw [decide_eq_true h]
        refine Pu.intro Tryz.func140 rfl (by kernel_rfl) fun C => ?_
        repeat (first | (refine A1 ⟨?_⟩; intros) | (refine Wcx (hn) ?_) | (refine Wdcx (hn) ?_) | (refine Wcgx (hn) ?_) | (refine Wdcgx (hn) ?_))
        ((first | refine endR ?_ | refine endN ?_); exact end1 (RV.tmp rfl) (Le.refl _))
      · rw [decide_eq_false h]
        refine Pu.intro Tryz.func140 rfl (by kernel_rfl) fun C => ?_
        repeat (first | (refine A1 ⟨?_⟩; intros) | (refine Wcx (hn) ?_) | (refine Wdcx (hn) ?_) | (refine Wcgx (hn) ?_) | (refine Wdcgx (hn) ?_))
        ((first | refine endR ?_ | refine endN ?_); exact end1 (RV.tmp rfl) (Le.refl _))
theorem intNormal_z (z : Int) (hl : il z ≤ 1000000000) : Pu Tryz.prog 140 [int z] (lit (.bool true)) := by
  have := intNormal_pu (decide (z < 0)) (dgs z.natAbs) hl
  rwa [nrmI_int] at this
theorem whole_pu (z : Int) (hl : il z ≤ 10000000) : Pu Tryz.prog 141 [int z] (fr (z : Rat)) := by
  have r := reduce_pu (decide (z < 0)) (dgs z.natAbs) [1] hl (by decide) (D_dgs _) (D.cons (by omega) D.nil)
  rw [val_dgs, sv_int, show val [1] = 1 from rfl, Rat.mkRat_one] at r
  refine Pu.intro Tryz.func141 rfl (by kernel_rfl) fun C => ?_
  repeat (refine A1 ⟨?_⟩; intros)
  refine WpubD (ds := [1]) 4 rfl (HDel.here _) rfl (by omega) (by omega) ?_
  repeat (first | (refine A1 ⟨?_⟩; intros) | (refine Wcx (r) ?_) | (refine Wdcx (r) ?_) | (refine Wcgx (r) ?_) | (refine Wdcgx (r) ?_))
  ((first | refine endR ?_ | refine endN ?_); refine end1 (RV.cellA rfl (by (first | exact List.mem_cons_self | exact (List.mem_cons_of_mem _ List.mem_cons_self) | exact (List.mem_cons_of_mem _ (List.mem_cons_of_mem _ List.mem_cons_self)) | exact (List.mem_cons_of_mem _ (List.mem_cons_of_mem _ (List.mem_cons_of_mem _ List.mem_cons_self))) | exact (List.mem_cons_of_mem _ (List.mem_cons_of_mem _ (List.mem_cons_of_mem _ (List.mem_cons_of_mem _ List.mem_cons_self)))) | exact (List.mem_cons_of_mem _ (List.mem_cons_of_mem _ (List.mem_cons_of_mem _ (List.mem_cons_of_mem _ (List.mem_cons_of_mem _ List.mem_cons_self))))) | exact (List.mem_cons_of_mem _ (List.mem_cons_of_mem _ (List.mem_cons_of_mem _ (List.mem_cons_of_mem _ (List.mem_cons_of_mem _ (List.mem_cons_of_mem _ List.mem_cons_self)))))) | exact (List.mem_cons_of_mem _ (List.mem_cons_of_mem _ (List.mem_cons_of_mem _ (List.mem_cons_of_mem _ (List.mem_cons_of_mem _ (List.mem_cons_of_mem _ (List.mem_cons_of_mem _ List.mem_cons_self))))))))) (by (first | (simp only [List.drop_succ_cons, List.drop_zero, List.drop_nil, List.take_succ_cons, List.take_zero, List.take_nil, Nat.zero_add, Nat.add_zero, Nat.reduceAdd]; done) | (simp only [List.drop_succ_cons, List.drop_zero, List.drop_nil, List.take_succ_cons, List.take_zero, List.take_nil, Nat.zero_add, Nat.add_zero, Nat.reduceAdd]; exact rfl) | exact rfl)) rfl) (Le.refl _))
theorem gcd_n (a b : Nat) (h1 : (dgs a).length ≤ 10000000) (h2 : (dgs b).length ≤ 10000000) : Pu Tryz.prog 198 [nat a, nat b] (nat (Nat.gcd a b)) := by
  have := gcd_nat (dgs a) (dgs b) h1 h2 (D_dgs _) (D_dgs _)
  rwa [val_dgs, val_dgs] at this
theorem dlen_gcd_le {a b n : Nat} (ha : (dgs a).length ≤ n) (hb : (dgs b).length ≤ n) : (dgs (Nat.gcd a b)).length ≤ n := by
  by_cases h : a = 0
  · subst h; rw [Nat.gcd_zero_left]; exact hb
  · exact Nat.le_trans (len_mono (Nat.gcd_le_left b (by omega))) ha
theorem ht_rgcd (x y : Rat) : ht (rgcd x y) ≤ ht x + ht y + 1 := by
  have h1 := ht_num x
  have h2 := ht_den x
  have h3 := ht_num y
  have h4 := ht_den y
  have e1 : il x.num = (dgs x.num.natAbs).length := rfl
  have e2 : il y.num = (dgs y.num.natAbs).length := rfl
  have m1 := dlen_mul x.num.natAbs y.den
  have m2 := dlen_mul y.num.natAbs x.den
  have m3 := dlen_mul x.den y.den
  have m4 := dlen_gcd_le (n := ht x + ht y) (a := x.num.natAbs * y.den) (b := y.num.natAbs * x.den) (by omega) (by omega)
  have := ht_mk ((Nat.gcd (x.num.natAbs * y.den) (y.num.natAbs * x.den) : Nat) : Int) (x.den * y.den)
  rw [il_nat] at this
  unfold rgcd; omega
theorem eq_int {x : Rat} (h : x.den = 1) : x = (x.num : Rat) := (num_int h).symm
set_option maxHeartbeats 1000000 in
theorem frgcd_pu (x y : Rat) (hx : ht x ≤ 3000000) (hy : ht y ≤ 3000000) : Pu Tryz.prog 142 [fr x, fr y] (fr (rgcd x y)) := by
  have d1 := x.den_pos
  have d2 := y.den_pos
  by_cases h : (small x ∧ small y) ∧ x.den = 1 ∧ y.den = 1
  · obtain ⟨⟨hsx, hsy⟩, h1, h2⟩ := h
    have e : rgcd x y = ((Nat.gcd x.num.natAbs y.num.natAbs : Nat) : Rat) := by
      have := rgcd_ints x.num y.num
      rwa [← eq_int h1, ← eq_int h2] at this
    have bx := hsx.1
    have byy := hsy.1
    have hg : Nat.gcd x.num.natAbs y.num.natAbs < 4611686018427387904 := by
      by_cases h0 : x.num.natAbs = 0
      · rw [h0, Nat.gcd_zero_left]; exact byy
      · exact Nat.lt_of_le_of_lt (Nat.gcd_le_left _ (by omega)) bx
    have hs : small ((Nat.gcd x.num.natAbs y.num.natAbs : Nat) : Rat) := by
      unfold small; rw [Rat.num_natCast, Rat.den_natCast]; omega
    rw [e, fr_s hsx, fr_s hsy, fr_s hs, Rat.num_natCast, Rat.den_natCast]
    have g := fgcd_pu x.num.natAbs y.num.natAbs (by omega) (by omega)
    have a1 := abs_pu x.num (by omega) (by omega)
    have a2 := abs_pu y.num (by omega) (by omega)
    generalize Nat.gcd x.num.natAbs y.num.natAbs = k at *
    refine Pu.intro Tryz.func142 rfl (by kernel_rfl) fun C => ?_
    repeat (first | (refine A1 ⟨?_⟩; intros) | (refine Wcx (a1) ?_) | (refine Wdcx (a1) ?_) | (refine Wcgx (a1) ?_) | (refine Wdcgx (a1) ?_) | (refine Wcx (a2) ?_) | (refine Wdcx (a2) ?_) | (refine Wcgx (a2) ?_) | (refine Wdcgx (a2) ?_) | (refine Wcx (g) ?_) | (refine Wdcx (g) ?_) | (refine Wcgx (g) ?_) | (refine Wdcgx (g) ?_))
    refine endR (end1 (RV.cellA rfl List.mem_cons_self rfl rfl) (Le.ag ⟨Le.refl _, Le.int (by omega), Le.refl _, trivial⟩))
  · have h1 := ht_num x
    have h2 := ht_den x
    have h3 := ht_num y
    have h4 := ht_den y
    have e1 : il x.num = (dgs x.num.natAbs).length := rfl
    have e2 : il y.num = (dgs y.num.natAbs).length := rfl
    have m1 := dlen_mul x.num.natAbs y.den
    have m2 := dlen_mul y.num.natAbs x.den
    have m3 := dlen_mul x.den y.den
    have m4 := dlen_gcd_le (n := ht x + ht y) (a := x.num.natAbs * y.den) (b := y.num.natAbs * x.den) (by omega) (by omega)
    have c1 := den_pu x (by omega)
    have c2 := den_pu y (by omega)
    have c3 := mul_n x.den y.den (by omega) (by omega)
    have c4 := num_pu x (by omega)
    have c5 := num_pu y (by omega)
    have c6 := mul_n x.num.natAbs y.den (by omega) (by omega)
    have c7 := mul_n y.num.natAbs x.den (by omega) (by omega)
    have c8 := gcd_n (x.num.natAbs * y.den) (y.num.natAbs * x.den) (by omega) (by omega)
    have c9 := reduce_int ((Nat.gcd (x.num.natAbs * y.den) (y.num.natAbs * x.den) : Nat) : Int) (x.den * y.den) (by rw [il_nat]; omega) (by omega)
    rw [int_nat] at c9
    clear m1 m2 m3 m4 h1 h2 h3 h4 e1 e2
    by_cases hsx : small x
    · by_cases hsy : small y
      · by_cases hx1 : x.den = 1
        · have hy1 : y.den ≠ 1 := fun e => h ⟨⟨hsx, hsy⟩, hx1, e⟩
          clear h
          rw [fr_s hsx, fr_s hsy]
          rw [fr_s hsx] at c1 c4
          rw [fr_s hsy] at c2 c5
          refine Pu.intro Tryz.func142 rfl (by kernel_rfl) fun C => ?_
          repeat (first | (refine A1 ⟨?_⟩; intros) | (refine Wcx (c1) ?_) | (refine Wdcx (c1) ?_) | (refine Wcgx (c1) ?_) | (refine Wdcgx (c1) ?_) | (refine Wcx (c2) ?_) | (refine Wdcx (c2) ?_) | (refine Wcgx (c2) ?_) | (refine Wdcgx (c2) ?_) | (refine Wcx (c3) ?_) | (refine Wdcx (c3) ?_) | (refine Wcgx (c3) ?_) | (refine Wdcgx (c3) ?_) | (refine Wcx (c4) ?_) | (refine Wdcx (c4) ?_) | (refine Wcgx (c4) ?_) | (refine Wdcgx (c4) ?_) | (refine Wcx (c6) ?_) | (refine Wdcx (c6) ?_) | (refine Wcgx (c6) ?_) | (refine Wdcgx (c6) ?_) | (refine Wcx (c5) ?_) | (refine Wdcx (c5) ?_) | (refine Wcgx (c5) ?_) | (refine Wdcgx (c5) ?_) | (refine Wcx (c7) ?_) | (refine Wdcx (c7) ?_) | (refine Wcgx (c7) ?_) | (refine Wdcgx (c7) ?_) | (refine Wcx (c8) ?_) | (refine Wdcx (c8) ?_) | (refine Wcgx (c8) ?_) | (refine Wdcgx (c8) ?_) | (refine Wcx (c9) ?_) | (refine Wdcx (c9) ?_) | (refine Wcgx (c9) ?_) | (refine Wdcgx (c9) ?_))
          ((first | refine endR ?_ | refine endN ?_); refine end1 (RV.cellA rfl (by (first | exact List.mem_cons_self | exact (List.mem_cons_of_mem _ List.mem_cons_self) | exact (List.mem_cons_of_mem _ (List.mem_cons_of_mem _ List.mem_cons_self)) | exact (List.mem_cons_of_mem _ (List.mem_cons_of_mem _ (List.mem_cons_of_mem _ List.mem_cons_self))) | exact (List.mem_cons_of_mem _ (List.mem_cons_of_mem _ (List.mem_cons_of_mem _ (List.mem_cons_of_mem _ List.mem_cons_self)))) | exact (List.mem_cons_of_mem _ (List.mem_cons_of_mem _ (List.mem_cons_of_mem _ (List.mem_cons_of_mem _ (List.mem_cons_of_mem _ List.mem_cons_self))))) | exact (List.mem_cons_of_mem _ (List.mem_cons_of_mem _ (List.mem_cons_of_mem _ (List.mem_cons_of_mem _ (List.mem_cons_of_mem _ (List.mem_cons_of_mem _ List.mem_cons_self)))))) | exact (List.mem_cons_of_mem _ (List.mem_cons_of_mem _ (List.mem_cons_of_mem _ (List.mem_cons_of_mem _ (List.mem_cons_of_mem _ (List.mem_cons_of_mem _ (List.mem_cons_of_mem _ List.mem_cons_self))))))))) (by (first | (simp only [List.drop_succ_cons, List.drop_zero, List.drop_nil, List.take_succ_cons, List.take_zero, List.take_nil, Nat.zero_add, Nat.add_zero, Nat.reduceAdd]; done) | (simp only [List.drop_succ_cons, List.drop_zero, List.drop_nil, List.take_succ_cons, List.take_zero, List.take_nil, Nat.zero_add, Nat.add_zero, Nat.reduceAdd]; exact rfl) | exact rfl)) rfl) (Le.refl _))
        · clear h
          rw [fr_s hsx, fr_s hsy]
          rw [fr_s hsx] at c1 c4
          rw [fr_s hsy] at c2 c5
          refine Pu.intro Tryz.func142 rfl (by kernel_rfl) fun C => ?_
          repeat (first | (refine A1 ⟨?_⟩; intros) | (refine Wcx (c1) ?_) | (refine Wdcx (c1) ?_) | (refine Wcgx (c1) ?_) | (refine Wdcgx (c1) ?_) | (refine Wcx (c2) ?_) | (refine Wdcx (c2) ?_) | (refine Wcgx (c2) ?_) | (refine Wdcgx (c2) ?_) | (refine Wcx (c3) ?_) | (refine Wdcx (c3) ?_) | (refine Wcgx (c3) ?_) | (refine Wdcgx (c3) ?_) | (refine Wcx (c4) ?_) | (refine Wdcx (c4) ?_) | (refine Wcgx (c4) ?_) | (refine Wdcgx (c4) ?_) | (refine Wcx (c6) ?_) | (refine Wdcx (c6) ?_) | (refine Wcgx (c6) ?_) | (refine Wdcgx (c6) ?_) | (refine Wcx (c5) ?_) | (refine Wdcx (c5) ?_) | (refine Wcgx (c5) ?_) | (refine Wdcgx (c5) ?_) | (refine Wcx (c7) ?_) | (refine Wdcx (c7) ?_) | (refine Wcgx (c7) ?_) | (refine Wdcgx (c7) ?_) | (refine Wcx (c8) ?_) | (refine Wdcx (c8) ?_) | (refine Wcgx (c8) ?_) | (refine Wdcgx (c8) ?_) | (refine Wcx (c9) ?_) | (refine Wdcx (c9) ?_) | (refine Wcgx (c9) ?_) | (refine Wdcgx (c9) ?_))
          ((first | refine endR ?_ | refine endN ?_); refine end1 (RV.cellA rfl (by (first | exact List.mem_cons_self | exact (List.mem_cons_of_mem _ List.mem_cons_self) | exact (List.mem_cons_of_mem _ (List.mem_cons_of_mem _ List.mem_cons_self)) | exact (List.mem_cons_of_mem _ (List.mem_cons_of_mem _ (List.mem_cons_of_mem _ List.mem_cons_self))) | exact (List.mem_cons_of_mem _ (List.mem_cons_of_mem _ (List.mem_cons_of_mem _ (List.mem_cons_of_mem _ List.mem_cons_self)))) | exact (List.mem_cons_of_mem _ (List.mem_cons_of_mem _ (List.mem_cons_of_mem _ (List.mem_cons_of_mem _ (List.mem_cons_of_mem _ List.mem_cons_self))))) | exact (List.mem_cons_of_mem _ (List.mem_cons_of_mem _ (List.mem_cons_of_mem _ (List.mem_cons_of_mem _ (List.mem_cons_of_mem _ (List.mem_cons_of_mem _ List.mem_cons_self)))))) | exact (List.mem_cons_of_mem _ (List.mem_cons_of_mem _ (List.mem_cons_of_mem _ (List.mem_cons_of_mem _ (List.mem_cons_of_mem _ (List.mem_cons_of_mem _ (List.mem_cons_of_mem _ List.mem_cons_self))))))))) (by (first | (simp only [List.drop_succ_cons, List.drop_zero, List.drop_nil, List.take_succ_cons, List.take_zero, List.take_nil, Nat.zero_add, Nat.add_zero, Nat.reduceAdd]; done) | (simp only [List.drop_succ_cons, List.drop_zero, List.drop_nil, List.take_succ_cons, List.take_zero, List.take_nil, Nat.zero_add, Nat.add_zero, Nat.reduceAdd]; exact rfl) | exact rfl)) rfl) (Le.refl _))
      · clear h
        rw [fr_s hsx, fr_b hsy]
        rw [fr_s hsx] at c1 c4
        rw [fr_b hsy] at c2 c5
        refine Pu.intro Tryz.func142 rfl (by kernel_rfl) fun C => ?_
        repeat (first | (refine A1 ⟨?_⟩; intros) | (refine Wcx (c1) ?_) | (refine Wdcx (c1) ?_) | (refine Wcgx (c1) ?_) | (refine Wdcgx (c1) ?_) | (refine Wcx (c2) ?_) | (refine Wdcx (c2) ?_) | (refine Wcgx (c2) ?_) | (refine Wdcgx (c2) ?_) | (refine Wcx (c3) ?_) | (refine Wdcx (c3) ?_) | (refine Wcgx (c3) ?_) | (refine Wdcgx (c3) ?_) | (refine Wcx (c4) ?_) | (refine Wdcx (c4) ?_) | (refine Wcgx (c4) ?_) | (refine Wdcgx (c4) ?_) | (refine Wcx (c6) ?_) | (refine Wdcx (c6) ?_) | (refine Wcgx (c6) ?_) | (refine Wdcgx (c6) ?_) | (refine Wcx (c5) ?_) | (refine Wdcx (c5) ?_) | (refine Wcgx (c5) ?_) | (refine Wdcgx (c5) ?_) | (refine Wcx (c7) ?_) | (refine Wdcx (c7) ?_) | (refine Wcgx (c7) ?_) | (refine Wdcgx (c7) ?_) | (refine Wcx (c8) ?_) | (refine Wdcx (c8) ?_) | (refine Wcgx (c8) ?_) | (refine Wdcgx (c8) ?_) | (refine Wcx (c9) ?_) | (refine Wdcx (c9) ?_) | (refine Wcgx (c9) ?_) | (refine Wdcgx (c9) ?_))
        ((first | refine endR ?_ | refine endN ?_); refine end1 (RV.cellA rfl (by (first | exact List.mem_cons_self | exact (List.mem_cons_of_mem _ List.mem_cons_self) | exact (List.mem_cons_of_mem _ (List.mem_cons_of_mem _ List.mem_cons_self)) | exact (List.mem_cons_of_mem _ (List.mem_cons_of_mem _ (List.mem_cons_of_mem _ List.mem_cons_self))) | exact (List.mem_cons_of_mem _ (List.mem_cons_of_mem _ (List.mem_cons_of_mem _ (List.mem_cons_of_mem _ List.mem_cons_self)))) | exact (List.mem_cons_of_mem _ (List.mem_cons_of_mem _ (List.mem_cons_of_mem _ (List.mem_cons_of_mem _ (List.mem_cons_of_mem _ List.mem_cons_self))))) | exact (List.mem_cons_of_mem _ (List.mem_cons_of_mem _ (List.mem_cons_of_mem _ (List.mem_cons_of_mem _ (List.mem_cons_of_mem _ (List.mem_cons_of_mem _ List.mem_cons_self)))))) | exact (List.mem_cons_of_mem _ (List.mem_cons_of_mem _ (List.mem_cons_of_mem _ (List.mem_cons_of_mem _ (List.mem_cons_of_mem _ (List.mem_cons_of_mem _ (List.mem_cons_of_mem _ List.mem_cons_self))))))))) (by (first | (simp only [List.drop_succ_cons, List.drop_zero, List.drop_nil, List.take_succ_cons, List.take_zero, List.take_nil, Nat.zero_add, Nat.add_zero, Nat.reduceAdd]; done) | (simp only [List.drop_succ_cons, List.drop_zero, List.drop_nil, List.take_succ_cons, List.take_zero, List.take_nil, Nat.zero_add, Nat.add_zero, Nat.reduceAdd]; exact rfl) | exact rfl)) rfl) (Le.refl _))
    · clear h
      rw [fr_b hsx]
      rw [fr_b hsx] at c1 c4
      refine Pu.intro Tryz.func142 rfl (by kernel_rfl) fun C => ?_
      repeat (first | (refine A1 ⟨?_⟩; intros) | (refine Wcx (c1) ?_) | (refine Wdcx (c1) ?_) | (refine Wcgx (c1) ?_) | (refine Wdcgx (c1) ?_) | (refine Wcx (c2) ?_) | (refine Wdcx (c2) ?_) | (refine Wcgx (c2) ?_) | (refine Wdcgx (c2) ?_) | (refine Wcx (c3) ?_) | (refine Wdcx (c3) ?_) | (refine Wcgx (c3) ?_) | (refine Wdcgx (c3) ?_) | (refine Wcx (c4) ?_) | (refine Wdcx (c4) ?_) | (refine Wcgx (c4) ?_) | (refine Wdcgx (c4) ?_) | (refine Wcx (c6) ?_) | (refine Wdcx (c6) ?_) | (refine Wcgx (c6) ?_) | (refine Wdcgx (c6) ?_) | (refine Wcx (c5) ?_) | (refine Wdcx (c5) ?_) | (refine Wcgx (c5) ?_) | (refine Wdcgx (c5) ?_) | (refine Wcx (c7) ?_) | (refine Wdcx (c7) ?_) | (refine Wcgx (c7) ?_) | (refine Wdcgx (c7) ?_) | (refine Wcx (c8) ?_) | (refine Wdcx (c8) ?_) | (refine Wcgx (c8) ?_) | (refine Wdcgx (c8) ?_) | (refine Wcx (c9) ?_) | (refine Wdcx (c9) ?_) | (refine Wcgx (c9) ?_) | (refine Wdcgx (c9) ?_))
      ((first | refine endR ?_ | refine endN ?_); refine end1 (RV.cellA rfl (by (first | exact List.mem_cons_self | exact (List.mem_cons_of_mem _ List.mem_cons_self) | exact (List.mem_cons_of_mem _ (List.mem_cons_of_mem _ List.mem_cons_self)) | exact (List.mem_cons_of_mem _ (List.mem_cons_of_mem _ (List.mem_cons_of_mem _ List.mem_cons_self))) | exact (List.mem_cons_of_mem _ (List.mem_cons_of_mem _ (List.mem_cons_of_mem _ (List.mem_cons_of_mem _ List.mem_cons_self)))) | exact (List.mem_cons_of_mem _ (List.mem_cons_of_mem _ (List.mem_cons_of_mem _ (List.mem_cons_of_mem _ (List.mem_cons_of_mem _ List.mem_cons_self))))) | exact (List.mem_cons_of_mem _ (List.mem_cons_of_mem _ (List.mem_cons_of_mem _ (List.mem_cons_of_mem _ (List.mem_cons_of_mem _ (List.mem_cons_of_mem _ List.mem_cons_self)))))) | exact (List.mem_cons_of_mem _ (List.mem_cons_of_mem _ (List.mem_cons_of_mem _ (List.mem_cons_of_mem _ (List.mem_cons_of_mem _ (List.mem_cons_of_mem _ (List.mem_cons_of_mem _ List.mem_cons_self))))))))) (by (first | (simp only [List.drop_succ_cons, List.drop_zero, List.drop_nil, List.take_succ_cons, List.take_zero, List.take_nil, Nat.zero_add, Nat.add_zero, Nat.reduceAdd]; done) | (simp only [List.drop_succ_cons, List.drop_zero, List.drop_nil, List.take_succ_cons, List.take_zero, List.take_nil, Nat.zero_add, Nat.add_zero, Nat.reduceAdd]; exact rfl) | exact rfl)) rfl) (Le.refl _))
end Go.Ab
