/- Package affine: Identity, Vector, Compose, Invert; the reference's After, Invert. -/
import Derived.Test.YthgobgompobhhaaGreatDoorErr
import Derived.Test.YthgobgompobhhaaGreatDoorLaw26A
import Derived.Test.YthgobgompobhhaaGreatDoorRefH
namespace Go.Ab
open Go.Proofs
set_option linter.unusedSectionVars false
variable [Base]
def M6.det (m : M6 Rat) : Rat := m.a * m.e - m.d * m.b
/-- n first, then m -/
def M6.comp (m n : M6 Rat) : M6 Rat := ⟨m.a * n.a + m.b * n.d, m.a * n.b + m.b * n.e, m.a * n.c + m.b * n.f + m.c, m.d * n.a + m.e * n.d, m.d * n.b + m.e * n.e, m.d * n.c + m.e * n.f + m.f⟩
def M6.inv (m : M6 Rat) : M6 Rat :=
  ⟨m.e * m.det⁻¹, -m.b * m.det⁻¹, -(m.e * m.det⁻¹ * m.c + -m.b * m.det⁻¹ * m.f), -m.d * m.det⁻¹, m.a * m.det⁻¹, -(-m.d * m.det⁻¹ * m.c + m.a * m.det⁻¹ * m.f)⟩
theorem M6.det_ht {m : M6 Rat} {L : Nat} (h : m.le L) : ht m.det ≤ 4 * L + 3 := by
  obtain ⟨ha, hb, hc, hd, he, hf⟩ := h
  have l1 := ht_mul m.a m.e
  have l2 := ht_mul m.d m.b
  have l3 := ht_sub (m.a * m.e) (m.d * m.b)
  unfold M6.det; omega
theorem M6.comp_le {m n : M6 Rat} {L : Nat} (hm : m.le L) (hn : n.le L) : (m.comp n).le (5 * L + 4) := by
  obtain ⟨ha, hb, hc, hd, he, hf⟩ := hm
  obtain ⟨ka, kb, kc, kd, ke, kf⟩ := hn
  have g : ∀ {x y u v : Rat}, ht x ≤ L → ht y ≤ L → ht u ≤ L → ht v ≤ L → ht (x * y + u * v) ≤ 4 * L + 3 := fun {x y u v} h1 h2 h3 h4 => by
    have l1 := ht_mul x y
    have l2 := ht_mul u v
    have l3 := ht_add (x * y) (u * v)
    omega
  have g2 : ∀ {x y u v z : Rat}, ht x ≤ L → ht y ≤ L → ht u ≤ L → ht v ≤ L → ht z ≤ L → ht (x * y + u * v + z) ≤ 5 * L + 4 := fun {x y u v z} h1 h2 h3 h4 h5 => by
    have l1 := g h1 h2 h3 h4
    have l3 := ht_add (x * y + u * v) z
    omega
  exact ⟨Nat.le_trans (g ha ka hb kd) (by omega), Nat.le_trans (g ha kb hb ke) (by omega), g2 ha kc hb kf hc, Nat.le_trans (g hd ka he kd) (by omega), Nat.le_trans (g hd kb he ke) (by omega), g2 hd kc he kf hf⟩
theorem M6.inv_le {m : M6 Rat} {L : Nat} (h : m.le L) : m.inv.le (14 * L + 20) := by
  have hd0 := M6.det_ht h
  have hi := ht_inv m.det
  obtain ⟨ha, hb, hc, hd, he, hf⟩ := h
  have g : ∀ {x : Rat}, ht x ≤ L → ht (x * m.det⁻¹) ≤ 5 * L + 5 := fun {x} h1 => by
    have l1 := ht_mul x m.det⁻¹
    omega
  have nb : ht (-m.b) ≤ L := by rw [ht_neg]; exact hb
  have nd : ht (-m.d) ≤ L := by rw [ht_neg]; exact hd
  have g2 : ∀ {x y : Rat}, ht x ≤ L → ht y ≤ L → ht (-(x * m.det⁻¹ * m.c + y * m.det⁻¹ * m.f)) ≤ 14 * L + 20 := fun {x y} h1 h2 => by
    have k1 := g h1
    have k2 := g h2
    have l1 := ht_mul (x * m.det⁻¹) m.c
    have l2 := ht_mul (y * m.det⁻¹) m.f
    have l3 := ht_add (x * m.det⁻¹ * m.c) (y * m.det⁻¹ * m.f)
    rw [ht_neg]; omega
  exact ⟨Nat.le_trans (g he) (by omega), Nat.le_trans (g nb) (by omega), g2 he nb, Nat.le_trans (g nd) (by omega), Nat.le_trans (g ha) (by omega), g2 nd ha⟩
theorem aof_q {m : M6 Rat} (h : m.le 100000) : Pu Tryz.prog 50 [mq m] (mf m) := by
  have := aof_pu (M6.of_ok h) (by omega)
  rwa [M6.of_v] at this
theorem translation_raw {a b : RQ} {L : Nat} (ha : a.ok L) (hb : b.ok L) (hL : L ≤ 10000) : Pu Tryz.prog 14 [pr a b] (mq ⟨1, 0, a.v, 0, 1, b.v⟩) := by
  have h0 := ht_zero
  have h1 := ht_one
  have k1 := ht_v ha
  have k2 := ht_v hb
  have hw := awrite_pu (m := ⟨1, 0, a.v, 0, 1, b.v⟩) (L := 10001) ⟨by simp only; omega, by simp only; omega, by simp only; omega, by simp only; omega, by simp only; omega, by simp only; omega⟩ (by omega)
  simp only [mf, r0_zero, r1_zero, r2_zero] at hw
  refine Pu.intro Tryz.func14 rfl (by kernel_rfl) fun C => ?_
  repeat (first | (refine A1 ⟨?_⟩; intros) | (refine Wcx (fint1) ?_) | (refine Wdcx (fint1) ?_) | (refine Wcgx (fint1) ?_) | (refine Wdcgx (fint1) ?_) | (refine Wcx (ptOf_pu ha hb (by omega)) ?_) | (refine Wdcx (ptOf_pu ha hb (by omega)) ?_) | (refine Wcgx (ptOf_pu ha hb (by omega)) ?_) | (refine Wdcgx (ptOf_pu ha hb (by omega)) ?_) | (refine Wcx (hw) ?_) | (refine Wdcx (hw) ?_) | (refine Wcgx (hw) ?_) | (refine Wdcgx (hw) ?_))
  ((first | refine endR ?_ | refine endN ?_); refine end1 (RV.cellA rfl (by (first | exact List.mem_cons_self | exact (List.mem_cons_of_mem _ List.mem_cons_self) | exact (List.mem_cons_of_mem _ (List.mem_cons_of_mem _ List.mem_cons_self)) | exact (List.mem_cons_of_mem _ (List.mem_cons_of_mem _ (List.mem_cons_of_mem _ List.mem_cons_self))) | exact (List.mem_cons_of_mem _ (List.mem_cons_of_mem _ (List.mem_cons_of_mem _ (List.mem_cons_of_mem _ List.mem_cons_self)))) | exact (List.mem_cons_of_mem _ (List.mem_cons_of_mem _ (List.mem_cons_of_mem _ (List.mem_cons_of_mem _ (List.mem_cons_of_mem _ List.mem_cons_self))))) | exact (List.mem_cons_of_mem _ (List.mem_cons_of_mem _ (List.mem_cons_of_mem _ (List.mem_cons_of_mem _ (List.mem_cons_of_mem _ (List.mem_cons_of_mem _ List.mem_cons_self)))))) | exact (List.mem_cons_of_mem _ (List.mem_cons_of_mem _ (List.mem_cons_of_mem _ (List.mem_cons_of_mem _ (List.mem_cons_of_mem _ (List.mem_cons_of_mem _ (List.mem_cons_of_mem _ List.mem_cons_self))))))))) (by (first | (simp only [List.drop_succ_cons, List.drop_zero, List.drop_nil, List.take_succ_cons, List.take_zero, List.take_nil, Nat.zero_add, Nat.add_zero, Nat.reduceAdd]; done) | (simp only [List.drop_succ_cons, List.drop_zero, List.drop_nil, List.take_succ_cons, List.take_zero, List.take_nil, Nat.zero_add, Nat.add_zero, Nat.reduceAdd]; exact rfl) | exact rfl)) rfl) (Le.refl _))
theorem identity_pu : Pu Tryz.prog 12 [] (mq ⟨1, 0, 0, 0, 1, 0⟩) := by
  have hd : D ([] : List Nat) := fun _ h => by cases h
  have hk : (⟨false, [], []⟩ : RQ).ok 1 := ⟨hd, hd, by simp, by simp⟩
  have hv : (⟨false, [], []⟩ : RQ).v = 0 := by unfold RQ.v; simp [val, sv, Rat.mkRat_zero]
  have ht := (translation_raw hk hk (by omega)).arg (l' := [ag [lit (.bool false), lit (.slice none 0 0), lit (.slice none 0 0), lit (.bool false), lit (.slice none 0 0), lit (.slice none 0 0)]])
    ⟨Le.ag ⟨Le.refl _, le_nil, le_nil, Le.refl _, le_nil, le_nil, trivial⟩, trivial⟩
  rw [hv] at ht
  refine Pu.intro Tryz.func12 rfl (by kernel_rfl) fun C => ?_
  repeat (first | (refine A1 ⟨?_⟩; intros) | (refine Wcx (ht) ?_) | (refine Wdcx (ht) ?_) | (refine Wcgx (ht) ?_) | (refine Wdcgx (ht) ?_))
  ((first | refine endR ?_ | refine endN ?_); refine end1 (RV.cellA rfl (by (first | exact List.mem_cons_self | exact (List.mem_cons_of_mem _ List.mem_cons_self) | exact (List.mem_cons_of_mem _ (List.mem_cons_of_mem _ List.mem_cons_self)) | exact (List.mem_cons_of_mem _ (List.mem_cons_of_mem _ (List.mem_cons_of_mem _ List.mem_cons_self))) | exact (List.mem_cons_of_mem _ (List.mem_cons_of_mem _ (List.mem_cons_of_mem _ (List.mem_cons_of_mem _ List.mem_cons_self)))) | exact (List.mem_cons_of_mem _ (List.mem_cons_of_mem _ (List.mem_cons_of_mem _ (List.mem_cons_of_mem _ (List.mem_cons_of_mem _ List.mem_cons_self))))) | exact (List.mem_cons_of_mem _ (List.mem_cons_of_mem _ (List.mem_cons_of_mem _ (List.mem_cons_of_mem _ (List.mem_cons_of_mem _ (List.mem_cons_of_mem _ List.mem_cons_self)))))) | exact (List.mem_cons_of_mem _ (List.mem_cons_of_mem _ (List.mem_cons_of_mem _ (List.mem_cons_of_mem _ (List.mem_cons_of_mem _ (List.mem_cons_of_mem _ (List.mem_cons_of_mem _ List.mem_cons_self))))))))) (by (first | (simp only [List.drop_succ_cons, List.drop_zero, List.drop_nil, List.take_succ_cons, List.take_zero, List.take_nil, Nat.zero_add, Nat.add_zero, Nat.reduceAdd]; done) | (simp only [List.drop_succ_cons, List.drop_zero, List.drop_nil, List.take_succ_cons, List.take_zero, List.take_nil, Nat.zero_add, Nat.add_zero, Nat.reduceAdd]; exact rfl) | exact rfl)) rfl) (Le.refl _))
theorem aVector_q {m : M6 Rat} (h : m.le 10000) {x y : Rat} (hx : ht x ≤ 10000) (hy : ht y ≤ 10000) : Pu Tryz.prog 23 [mq m, pq x y] (pq (m.a * x + m.b * y) (m.d * x + m.e * y)) := by
  have hv := avector_pu h (by omega) x y hx hy
  have ho := aof_q (m := m) ⟨Nat.le_trans h.a (by omega), Nat.le_trans h.b (by omega), Nat.le_trans h.c (by omega), Nat.le_trans h.d (by omega), Nat.le_trans h.e (by omega), Nat.le_trans h.f (by omega)⟩
  obtain ⟨ha, hb, hc, hd, he, hf⟩ := h
  have h1 := ht_mul m.a x
  have h2 := ht_mul m.b y
  have h3 := ht_mul m.d x
  have h4 := ht_mul m.e y
  have h5 := ht_add (m.a * x) (m.b * y)
  have h6 := ht_add (m.d * x) (m.e * y)
  have hp := papi_pu (m.a * x + m.b * y) (m.d * x + m.e * y) (by omega) (by omega)
  refine Pu.intro Tryz.func23 rfl (by kernel_rfl) fun C => ?_
  repeat (first | (refine A1 ⟨?_⟩; intros) | (refine Wcx (ho) ?_) | (refine Wdcx (ho) ?_) | (refine Wcgx (ho) ?_) | (refine Wdcgx (ho) ?_) | (refine Wcx (ptOf_q x y (by omega) (by omega)) ?_) | (refine Wdcx (ptOf_q x y (by omega) (by omega)) ?_) | (refine Wcgx (ptOf_q x y (by omega) (by omega)) ?_) | (refine Wdcgx (ptOf_q x y (by omega) (by omega)) ?_) | (refine Wcx (hv) ?_) | (refine Wdcx (hv) ?_) | (refine Wcgx (hv) ?_) | (refine Wdcgx (hv) ?_) | (refine Wcx (hp) ?_) | (refine Wdcx (hp) ?_) | (refine Wcgx (hp) ?_) | (refine Wdcgx (hp) ?_))
  ((first | refine endR ?_ | refine endN ?_); refine end1 (RV.cellA rfl (by (first | exact List.mem_cons_self | exact (List.mem_cons_of_mem _ List.mem_cons_self) | exact (List.mem_cons_of_mem _ (List.mem_cons_of_mem _ List.mem_cons_self)) | exact (List.mem_cons_of_mem _ (List.mem_cons_of_mem _ (List.mem_cons_of_mem _ List.mem_cons_self))) | exact (List.mem_cons_of_mem _ (List.mem_cons_of_mem _ (List.mem_cons_of_mem _ (List.mem_cons_of_mem _ List.mem_cons_self)))) | exact (List.mem_cons_of_mem _ (List.mem_cons_of_mem _ (List.mem_cons_of_mem _ (List.mem_cons_of_mem _ (List.mem_cons_of_mem _ List.mem_cons_self))))) | exact (List.mem_cons_of_mem _ (List.mem_cons_of_mem _ (List.mem_cons_of_mem _ (List.mem_cons_of_mem _ (List.mem_cons_of_mem _ (List.mem_cons_of_mem _ List.mem_cons_self)))))) | exact (List.mem_cons_of_mem _ (List.mem_cons_of_mem _ (List.mem_cons_of_mem _ (List.mem_cons_of_mem _ (List.mem_cons_of_mem _ (List.mem_cons_of_mem _ (List.mem_cons_of_mem _ List.mem_cons_self))))))))) (by (first | (simp only [List.drop_succ_cons, List.drop_zero, List.drop_nil, List.take_succ_cons, List.take_zero, List.take_nil, Nat.zero_add, Nat.add_zero, Nat.reduceAdd]; done) | (simp only [List.drop_succ_cons, List.drop_zero, List.drop_nil, List.take_succ_cons, List.take_zero, List.take_nil, Nat.zero_add, Nat.add_zero, Nat.reduceAdd]; exact rfl) | exact rfl)) rfl) (Le.refl _))
theorem compose_q {m n : M6 Rat} (hm : m.le 1000) (hn : n.le 1000) : Pu Tryz.prog 25 [mq m, mq n] (mq (m.comp n)) := by
  have up : ∀ {x : M6 Rat}, x.le 1000 → x.le 100000 := fun {x} h => ⟨Nat.le_trans h.a (by omega), Nat.le_trans h.b (by omega), Nat.le_trans h.c (by omega), Nat.le_trans h.d (by omega), Nat.le_trans h.e (by omega), Nat.le_trans h.f (by omega)⟩
  have o1 := aof_q (up hm)
  have o2 := aof_q (up hn)
  have v1 := avector_pu hm (by omega) n.a n.d hn.a hn.d
  have v2 := avector_pu hm (by omega) n.b n.e hn.b hn.e
  have v3 := aapply_pu hm (by omega) n.c n.f hn.c hn.f
  have w := awrite_pu (M6.comp_le hm hn) (by omega)
  refine Pu.intro Tryz.func25 rfl (by kernel_rfl) fun C => ?_
  repeat (first | (refine A1 ⟨?_⟩; intros) | (refine Wcx (o1) ?_) | (refine Wdcx (o1) ?_) | (refine Wcgx (o1) ?_) | (refine Wdcgx (o1) ?_) | (refine Wcx (o2) ?_) | (refine Wdcx (o2) ?_) | (refine Wcgx (o2) ?_) | (refine Wdcgx (o2) ?_) | (refine Wcx (v1) ?_) | (refine Wdcx (v1) ?_) | (refine Wcgx (v1) ?_) | (refine Wdcgx (v1) ?_) | (refine Wcx (v2) ?_) | (refine Wdcx (v2) ?_) | (refine Wcgx (v2) ?_) | (refine Wdcgx (v2) ?_) | (refine Wcx (v3) ?_) | (refine Wdcx (v3) ?_) | (refine Wcgx (v3) ?_) | (refine Wdcgx (v3) ?_) | (refine Wcx (w) ?_) | (refine Wdcx (w) ?_) | (refine Wcgx (w) ?_) | (refine Wdcgx (w) ?_))
  ((first | refine endR ?_ | refine endN ?_); refine end1 (RV.cellA rfl (by (first | exact List.mem_cons_self | exact (List.mem_cons_of_mem _ List.mem_cons_self) | exact (List.mem_cons_of_mem _ (List.mem_cons_of_mem _ List.mem_cons_self)) | exact (List.mem_cons_of_mem _ (List.mem_cons_of_mem _ (List.mem_cons_of_mem _ List.mem_cons_self))) | exact (List.mem_cons_of_mem _ (List.mem_cons_of_mem _ (List.mem_cons_of_mem _ (List.mem_cons_of_mem _ List.mem_cons_self)))) | exact (List.mem_cons_of_mem _ (List.mem_cons_of_mem _ (List.mem_cons_of_mem _ (List.mem_cons_of_mem _ (List.mem_cons_of_mem _ List.mem_cons_self))))) | exact (List.mem_cons_of_mem _ (List.mem_cons_of_mem _ (List.mem_cons_of_mem _ (List.mem_cons_of_mem _ (List.mem_cons_of_mem _ (List.mem_cons_of_mem _ List.mem_cons_self)))))) | exact (List.mem_cons_of_mem _ (List.mem_cons_of_mem _ (List.mem_cons_of_mem _ (List.mem_cons_of_mem _ (List.mem_cons_of_mem _ (List.mem_cons_of_mem _ (List.mem_cons_of_mem _ List.mem_cons_self))))))))) (by (first | (simp only [List.drop_succ_cons, List.drop_zero, List.drop_nil, List.take_succ_cons, List.take_zero, List.take_nil, Nat.zero_add, Nat.add_zero, Nat.reduceAdd]; done) | (simp only [List.drop_succ_cons, List.drop_zero, List.drop_nil, List.take_succ_cons, List.take_zero, List.take_nil, Nat.zero_add, Nat.add_zero, Nat.reduceAdd]; exact rfl) | exact rfl)) rfl) (Le.refl _))
theorem pneg_pu (x y : Rat) (hx : ht x ≤ 1000000) (hy : ht y ≤ 1000000) : Pu Tryz.prog 118 [pp x y] (pp (-x) (-y)) := by
  refine Pu.intro Tryz.func118 rfl (by kernel_rfl) fun C => ?_
  repeat (first | (refine A1 ⟨?_⟩; intros) | (refine Wcx (rneg_pu x (by omega)) ?_) | (refine Wdcx (rneg_pu x (by omega)) ?_) | (refine Wcgx (rneg_pu x (by omega)) ?_) | (refine Wdcgx (rneg_pu x (by omega)) ?_) | (refine Wcx (rneg_pu y (by omega)) ?_) | (refine Wdcx (rneg_pu y (by omega)) ?_) | (refine Wcgx (rneg_pu y (by omega)) ?_) | (refine Wdcgx (rneg_pu y (by omega)) ?_))
  ((first | refine endR ?_ | refine endN ?_); refine end1 (RV.cellA rfl (by (first | exact List.mem_cons_self | exact (List.mem_cons_of_mem _ List.mem_cons_self) | exact (List.mem_cons_of_mem _ (List.mem_cons_of_mem _ List.mem_cons_self)) | exact (List.mem_cons_of_mem _ (List.mem_cons_of_mem _ (List.mem_cons_of_mem _ List.mem_cons_self))) | exact (List.mem_cons_of_mem _ (List.mem_cons_of_mem _ (List.mem_cons_of_mem _ (List.mem_cons_of_mem _ List.mem_cons_self)))) | exact (List.mem_cons_of_mem _ (List.mem_cons_of_mem _ (List.mem_cons_of_mem _ (List.mem_cons_of_mem _ (List.mem_cons_of_mem _ List.mem_cons_self))))) | exact (List.mem_cons_of_mem _ (List.mem_cons_of_mem _ (List.mem_cons_of_mem _ (List.mem_cons_of_mem _ (List.mem_cons_of_mem _ (List.mem_cons_of_mem _ List.mem_cons_self)))))) | exact (List.mem_cons_of_mem _ (List.mem_cons_of_mem _ (List.mem_cons_of_mem _ (List.mem_cons_of_mem _ (List.mem_cons_of_mem _ (List.mem_cons_of_mem _ (List.mem_cons_of_mem _ List.mem_cons_self))))))))) (by (first | (simp only [List.drop_succ_cons, List.drop_zero, List.drop_nil, List.take_succ_cons, List.take_zero, List.take_nil, Nat.zero_add, Nat.add_zero, Nat.reduceAdd]; done) | (simp only [List.drop_succ_cons, List.drop_zero, List.drop_nil, List.take_succ_cons, List.take_zero, List.take_nil, Nat.zero_add, Nat.add_zero, Nat.reduceAdd]; exact rfl) | exact rfl)) rfl) (Le.refl _))
theorem inverse_pu {m : M6 Rat} {L : Nat} (h : m.le L) (hL : L ≤ 1000) : Pu Tryz.prog 70 [mf m] (mf m.inv) := by
  have hd0 := M6.det_ht h
  have hi := ht_inv m.det
  have hdet := adet_pu h (by omega)
  have hin := inv_pu (m.a * m.e - m.d * m.b) (by unfold M6.det at hd0; omega)
  obtain ⟨ha, hb, hc, hd, he, hf⟩ := h
  have nb := ht_neg m.b
  have nd := ht_neg m.d
  have s1 := pscale_pu m.e (-m.d) m.det⁻¹ (by omega) (by omega) (by omega)
  have s2 := pscale_pu (-m.b) m.a m.det⁻¹ (by omega) (by omega) (by omega)
  have l1 := ht_mul m.e m.det⁻¹
  have l2 := ht_mul (-m.d) m.det⁻¹
  have l3 := ht_mul (-m.b) m.det⁻¹
  have l4 := ht_mul m.a m.det⁻¹
  have h0 := ht_zero
  have v := avector_pu (m := ⟨m.e * m.det⁻¹, -m.b * m.det⁻¹, 0, -m.d * m.det⁻¹, m.a * m.det⁻¹, 0⟩) (L := 10000) ⟨by simp only; omega, by simp only; omega, by simp only; omega, by simp only; omega, by simp only; omega, by simp only; omega⟩ (by omega) m.c m.f (by omega) (by omega)
  have k1 := ht_mul (m.e * m.det⁻¹) m.c
  have k2 := ht_mul (-m.b * m.det⁻¹) m.f
  have k3 := ht_mul (-m.d * m.det⁻¹) m.c
  have k4 := ht_mul (m.a * m.det⁻¹) m.f
  have k5 := ht_add (m.e * m.det⁻¹ * m.c) (-m.b * m.det⁻¹ * m.f)
  have k6 := ht_add (-m.d * m.det⁻¹ * m.c) (m.a * m.det⁻¹ * m.f)
  have ng := pneg_pu (m.e * m.det⁻¹ * m.c + -m.b * m.det⁻¹ * m.f) (-m.d * m.det⁻¹ * m.c + m.a * m.det⁻¹ * m.f) (by omega) (by omega)
  have n1 := rneg_pu m.d (by omega)
  have n2 := rneg_pu m.b (by omega)
  simp only [mf, r0_zero, r1_zero, r2_zero] at v
  rw [show m.a * m.e - m.d * m.b = m.det from rfl] at hdet hin
  clear k1 k2 k3 k4 k5 k6 l1 l2 l3 l4 hd0 hi nb nd
  refine Pu.intro Tryz.func70 rfl (by kernel_rfl) fun C => ?_
  repeat (first | (refine A1 ⟨?_⟩; intros) | (refine Wcx (hdet) ?_) | (refine Wdcx (hdet) ?_) | (refine Wcgx (hdet) ?_) | (refine Wdcgx (hdet) ?_) | (refine Wcx (hin) ?_) | (refine Wdcx (hin) ?_) | (refine Wcgx (hin) ?_) | (refine Wdcgx (hin) ?_) | (refine Wcx (n1) ?_) | (refine Wdcx (n1) ?_) | (refine Wcgx (n1) ?_) | (refine Wdcgx (n1) ?_) | (refine Wcx (s1) ?_) | (refine Wdcx (s1) ?_) | (refine Wcgx (s1) ?_) | (refine Wdcgx (s1) ?_) | (refine Wcx (n2) ?_) | (refine Wdcx (n2) ?_) | (refine Wcgx (n2) ?_) | (refine Wdcgx (n2) ?_) | (refine Wcx (s2) ?_) | (refine Wdcx (s2) ?_) | (refine Wcgx (s2) ?_) | (refine Wdcgx (s2) ?_) | (refine Wcx (v) ?_) | (refine Wdcx (v) ?_) | (refine Wcgx (v) ?_) | (refine Wdcgx (v) ?_) | (refine Wcx (ng) ?_) | (refine Wdcx (ng) ?_) | (refine Wcgx (ng) ?_) | (refine Wdcgx (ng) ?_))
  ((first | refine endR ?_ | refine endN ?_); refine end1 (RV.cellA rfl (by (first | exact List.mem_cons_self | exact (List.mem_cons_of_mem _ List.mem_cons_self) | exact (List.mem_cons_of_mem _ (List.mem_cons_of_mem _ List.mem_cons_self)) | exact (List.mem_cons_of_mem _ (List.mem_cons_of_mem _ (List.mem_cons_of_mem _ List.mem_cons_self))) | exact (List.mem_cons_of_mem _ (List.mem_cons_of_mem _ (List.mem_cons_of_mem _ (List.mem_cons_of_mem _ List.mem_cons_self)))) | exact (List.mem_cons_of_mem _ (List.mem_cons_of_mem _ (List.mem_cons_of_mem _ (List.mem_cons_of_mem _ (List.mem_cons_of_mem _ List.mem_cons_self))))) | exact (List.mem_cons_of_mem _ (List.mem_cons_of_mem _ (List.mem_cons_of_mem _ (List.mem_cons_of_mem _ (List.mem_cons_of_mem _ (List.mem_cons_of_mem _ List.mem_cons_self)))))) | exact (List.mem_cons_of_mem _ (List.mem_cons_of_mem _ (List.mem_cons_of_mem _ (List.mem_cons_of_mem _ (List.mem_cons_of_mem _ (List.mem_cons_of_mem _ (List.mem_cons_of_mem _ List.mem_cons_self))))))))) (by (first | (simp only [List.drop_succ_cons, List.drop_zero, List.drop_nil, List.take_succ_cons, List.take_zero, List.take_nil, Nat.zero_add, Nat.add_zero, Nat.reduceAdd]; done) | (simp only [List.drop_succ_cons, List.drop_zero, List.drop_nil, List.take_succ_cons, List.take_zero, List.take_nil, Nat.zero_add, Nat.add_zero, Nat.reduceAdd]; exact rfl) | exact rfl)) rfl) (Le.refl _))
end Go.Ab
