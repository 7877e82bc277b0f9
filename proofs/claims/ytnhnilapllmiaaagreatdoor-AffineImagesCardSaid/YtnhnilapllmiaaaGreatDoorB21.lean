/- Texts laid one behind the other: GBase, ImgR, TapeR, Images. -/
import Derived.Test.YtnhnilapllmiaaaGreatDoorB18
import Derived.Test.YtnhnilapllmiaaaGreatDoorB14
import Derived.Test.YtnhnilapllmiaaaGreatDoorB20
import Derived.Test.YtnhnilapllmiaaaGreatDoorB17
import Derived.Test.YtnhnilapllmiaaaGreatDoorB19
import Derived.Test.YtnhnilapllmiaaaGreatDoorB16
set_option linter.unusedSectionVars false
set_option linter.unusedVariables false
set_option linter.unusedSimpArgs false
namespace Go.Ab
open Go.Proofs
variable [Base]
theorem Li.le.gr {l : Li} {L L' : Nat} (h : l.le L) (k : L ≤ L') : l.le L' := ⟨Nat.le_trans h.a k, Nat.le_trans h.b k, Nat.le_trans h.c k⟩
theorem ht_int2 (z : Int) {L : Nat} (h : il z ≤ L) : ht (z : Rat) ≤ max L 1 := by
  rw [ht_of_int]; omega
def Li.bf (l : Li) : Rat := -((l.c : Rat) / ((l.b : Rat) * l.b + -(l.a : Rat) * -(l.a : Rat)))
theorem Li.bf_ht {l : Li} (h : l.le 1) : ht l.bf ≤ 10 := by
  unfold Li.bf
  have ha : ht (l.a : Rat) ≤ 1 := by have := ht_int2 l.a h.a; omega
  have hb : ht (l.b : Rat) ≤ 1 := by have := ht_int2 l.b h.b; omega
  have hc : ht (l.c : Rat) ≤ 1 := by have := ht_int2 l.c h.c; omega
  have h1 := ht_mul (l.b : Rat) l.b
  have h2 := ht_mul (-(l.a : Rat)) (-(l.a : Rat))
  have h3 := ht_add ((l.b : Rat) * l.b) (-(l.a : Rat) * -(l.a : Rat))
  have h4 := ht_inv ((l.b : Rat) * l.b + -(l.a : Rat) * -(l.a : Rat))
  have h5 := ht_mul (l.c : Rat) ((l.b : Rat) * l.b + -(l.a : Rat) * -(l.a : Rat))⁻¹
  rw [ht_neg] at h2 ⊢
  rw [Rat.div_def]
  omega
theorem rbase_pu {l : Li} (hok : l.ok) (h : l.le 1) : Pu Tryz.prog 64 [lq l] (rp (l.bf * l.a) (l.bf * l.b)) := by
  have hf := Li.bf_ht h
  have ha : ht (l.a : Rat) ≤ 1 := by have := ht_int2 l.a h.a; omega
  have hb : ht (l.b : Rat) ≤ 1 := by have := ht_int2 l.b h.b; omega
  have hc : ht (l.c : Rat) ≤ 1 := by have := ht_int2 l.c h.c; omega
  have h1 := ht_mul (l.b : Rat) l.b
  have h2 := ht_mul (-(l.a : Rat)) (-(l.a : Rat))
  have h3 := ht_add ((l.b : Rat) * l.b) (-(l.a : Rat) * -(l.a : Rat))
  have ha' : ht (-(l.a : Rat)) ≤ 1 := by rw [ht_neg]; exact ha
  have hn := Li.n_pos hok
  have hne : ((l.b : Rat) * l.b + -(l.a : Rat) * -(l.a : Rat)).num ≠ 0 := fun e => by
    have : (l.b : Rat) * l.b + -(l.a : Rat) * -(l.a : Rat) = 0 := Rat.num_eq_zero.1 e
    rw [this] at hn; exact absurd hn (by decide)
  have c1 := rdir_pu l (h.gr (by omega))
  have c2 := rgq_pu l.c
  have c3 := rdot_pu (l.b : Rat) (-(l.a : Rat)) l.b (-(l.a : Rat)) (by omega) (by omega) (by omega) (by omega) (by omega) (by omega)
  have c4 := rover_pu (l.c : Rat) ((l.b : Rat) * l.b + -(l.a : Rat) * -(l.a : Rat)) (by omega) (by omega) hne
  have hq : ht ((l.c : Rat) / ((l.b : Rat) * l.b + -(l.a : Rat) * -(l.a : Rat))) ≤ 10 := by rw [← ht_neg]; exact hf
  have c5 := ropp_pu ((l.c : Rat) / ((l.b : Rat) * l.b + -(l.a : Rat) * -(l.a : Rat))) (by omega)
  rw [show -((l.c : Rat) / ((l.b : Rat) * l.b + -(l.a : Rat) * -(l.a : Rat))) = l.bf from rfl] at c5
  have c6 := rgq_pu l.a
  have c7 := rgq_pu l.b
  have c8 := rtimes_pu l.bf (l.a : Rat) (by omega) (by omega)
  have c9 := rtimes_pu l.bf (l.b : Rat) (by omega) (by omega)
  clear hf ha hb hc h1 h2 h3 ha' hn hne hq
  refine Pu.intro Tryz.func64 rfl (by kernel_rfl) fun C => ?_
  repeat (first | (refine A1 ⟨?_⟩; intros) | (refine Wcx (c1) ?_) | (refine Wdcx (c1) ?_) | (refine Wcgx (c1) ?_) | (refine Wdcgx (c1) ?_) | (refine Wcx (c2) ?_) | (refine Wdcx (c2) ?_) | (refine Wcgx (c2) ?_) | (refine Wdcgx (c2) ?_) | (refine Wcx (c3) ?_) | (refine Wdcx (c3) ?_) | (refine Wcgx (c3) ?_) | (refine Wdcgx (c3) ?_) | (refine Wcx (c4) ?_) | (refine Wdcx (c4) ?_) | (refine Wcgx (c4) ?_) | (refine Wdcgx (c4) ?_) | (refine Wcx (c5) ?_) | (refine Wdcx (c5) ?_) | (refine Wcgx (c5) ?_) | (refine Wdcgx (c5) ?_) | (refine Wcx (c6) ?_) | (refine Wdcx (c6) ?_) | (refine Wcgx (c6) ?_) | (refine Wdcgx (c6) ?_) | (refine Wcx (c7) ?_) | (refine Wdcx (c7) ?_) | (refine Wcgx (c7) ?_) | (refine Wdcgx (c7) ?_) | (refine Wcx (c8) ?_) | (refine Wdcx (c8) ?_) | (refine Wcgx (c8) ?_) | (refine Wdcgx (c8) ?_) | (refine Wcx (c9) ?_) | (refine Wdcx (c9) ?_) | (refine Wcgx (c9) ?_) | (refine Wdcgx (c9) ?_))
  ((first | refine endR ?_ | refine endN ?_); refine end1 (RV.cellA rfl (by repeat (first | exact List.mem_cons_self | apply List.mem_cons_of_mem)) (by (try simp only [List.drop_succ_cons, List.drop_zero, List.drop_nil, List.take_succ_cons, List.take_zero, List.take_nil, Nat.zero_add, Nat.add_zero, Nat.reduceAdd]) <;> exact rfl) rfl) (Le.refl _))
theorem M6.vec_ne {m : M6 Rat} (h : m.det ≠ 0) {x y : Rat} (hxy : x ≠ 0 ∨ y ≠ 0) : m.a * x + m.b * y ≠ 0 ∨ m.d * x + m.e * y ≠ 0 := by
  by_cases h1 : m.a * x + m.b * y = 0
  · by_cases h2 : m.d * x + m.e * y = 0
    · exfalso
      have hd : m.det = m.a * m.e - m.d * m.b := rfl
      have e1 : m.det * x = 0 := by
        rw [hd]
        have : (m.a * m.e - m.d * m.b) * x = m.e * (m.a * x + m.b * y) - m.b * (m.d * x + m.e * y) := by grind
        rw [this, h1, h2]; grind
      have e2 : m.det * y = 0 := by
        rw [hd]
        have : (m.a * m.e - m.d * m.b) * y = m.a * (m.d * x + m.e * y) - m.d * (m.a * x + m.b * y) := by grind
        rw [this, h1, h2]; grind
      rcases hxy with k | k
      · rcases Rat.mul_eq_zero.1 e1 with e | e
        · exact h e
        · exact k e
      · rcases Rat.mul_eq_zero.1 e2 with e | e
        · exact h e
        · exact k e
    · exact .inr h2
  · exact .inl h1
theorem Li.ne {l : Li} (h : l.ok) : (l.b : Rat) ≠ 0 ∨ -(l.a : Rat) ≠ 0 := by
  rcases h.2 with h | h
  · exact .inr fun e => h (by have : (l.a : Rat) = 0 := by rw [← Rat.neg_neg (l.a : Rat), e]; rfl
                              exact int_zero.1 this)
  · exact .inl fun e => h (int_zero.1 e)
set_option maxHeartbeats 2000000 in
theorem mline_pu {m : M6 Rat} {l : Li} (hm : m.le 1) (hdet : m.det ≠ 0) (hok : l.ok) (h : l.le 1) : Pu Tryz.prog 21 [rm m, lq l] (lq (l.im m)) := by
  have hrim := Li.rim_im hdet hok
  have hil := Li.im_le' (L := 1) hm h (by omega) (by omega)
  rw [← hrim] at hil ⊢
  have hf := Li.bf_ht h
  have ha : ht (l.a : Rat) ≤ 1 := by have := ht_int2 l.a h.a; omega
  have hb : ht (l.b : Rat) ≤ 1 := by have := ht_int2 l.b h.b; omega
  have ha' : ht (-(l.a : Rat)) ≤ 1 := by rw [ht_neg]; exact ha
  have x1 := ht_mul l.bf (l.a : Rat)
  have x2 := ht_mul l.bf (l.b : Rat)
  have x3 := ht_mul 1 (l.b : Rat)
  have x4 := ht_mul 1 (-(l.a : Rat))
  have o1 := ht_one
  have x5 := ht_add (l.bf * (l.a : Rat)) (1 * (l.b : Rat))
  have x6 := ht_add (l.bf * (l.b : Rat)) (1 * -(l.a : Rat))
  have c1 := rbase_pu hok h
  have c2 := rdir_pu l (h.to (by omega))
  have c3 := gadd_pu (l.bf * (l.a : Rat)) (l.bf * (l.b : Rat)) 1 (l.b : Rat) (-(l.a : Rat)) (by omega) (by omega) (by omega) (by omega) (by omega)
  have c4 := mapply_pu (hm.le_mono (L' := 30) (by omega)) (by omega) (l.bf * (l.a : Rat)) (l.bf * (l.b : Rat)) (by omega) (by omega)
  have c5 := mapply_pu (hm.le_mono (L' := 30) (by omega)) (by omega) (l.bf * (l.a : Rat) + 1 * (l.b : Rat)) (l.bf * (l.b : Rat) + 1 * -(l.a : Rat)) (by omega) (by omega)
  have y1 := apply_le (hm.le_mono (L' := 30) (by omega)) (x := l.bf * (l.a : Rat)) (y := l.bf * (l.b : Rat)) (by omega) (by omega)
  have y2 := apply_le (hm.le_mono (L' := 30) (by omega)) (x := l.bf * (l.a : Rat) + 1 * (l.b : Rat)) (y := l.bf * (l.b : Rat) + 1 * -(l.a : Rat)) (by omega) (by omega)
  have hne := M6.vec_ne hdet (Li.ne hok)
  have c6 := through_pu (L := 1000) (by omega) (x := m.a * (l.bf * (l.a : Rat)) + m.b * (l.bf * (l.b : Rat)) + m.c) (y := m.d * (l.bf * (l.a : Rat)) + m.e * (l.bf * (l.b : Rat)) + m.f)
    (u := m.a * (l.bf * (l.a : Rat) + 1 * (l.b : Rat)) + m.b * (l.bf * (l.b : Rat) + 1 * -(l.a : Rat)) + m.c) (v := m.d * (l.bf * (l.a : Rat) + 1 * (l.b : Rat)) + m.e * (l.bf * (l.b : Rat) + 1 * -(l.a : Rat)) + m.f) (by omega) (by omega) (by omega) (by omega) (by
      rcases hne with k | k
      · left; intro e; apply k; rw [← e]; grind
      · right; intro e; apply k; rw [← e]; grind)
  have c7 := mdet_pu (hm.le_mono (L' := 30) (by omega)) (by omega)
  rw [show m.a * m.e - m.b * m.d = m.det by unfold M6.det; grind] at c7
  have hdl := M6.det_ht hm
  have c8 := rs_pu m.det (by omega)
  obtain ⟨t, htr⟩ : ∃ t, t = thr (m.a * (l.bf * (l.a : Rat)) + m.b * (l.bf * (l.b : Rat)) + m.c) (m.d * (l.bf * (l.a : Rat)) + m.e * (l.bf * (l.b : Rat)) + m.f)
    (m.a * (l.bf * (l.a : Rat) + 1 * (l.b : Rat)) + m.b * (l.bf * (l.b : Rat) + 1 * -(l.a : Rat)) + m.c) (m.d * (l.bf * (l.a : Rat) + 1 * (l.b : Rat)) + m.e * (l.bf * (l.b : Rat) + 1 * -(l.a : Rat)) + m.f) := ⟨_, rfl⟩
  have hrt : l.rim m = if m.det < 0 then t.neg else t := by rw [htr]; rfl
  rw [← htr] at c6
  rw [hrt] at hil ⊢
  clear hrim hrt htr hf ha hb ha' x1 x2 x3 x4 x5 x6 o1 y1 y2 hne hdl
  by_cases hneg : m.det < 0
  · rw [if_pos hneg] at hil ⊢
    have hs : m.det.num.sign < 0 := by
      rw [Int.sign_neg_iff]
      have := Rat.num_nonneg (q := m.det)
      have h1 : ¬0 ≤ m.det := by grind
      have h2 : ¬0 ≤ m.det.num := fun e => h1 (this.1 e)
      omega
    have htl : t.le 100000 := ⟨by have := hil.a; rwa [show t.neg.a = -t.a from rfl, il_neg] at this, by have := hil.b; rwa [show t.neg.b = -t.b from rfl, il_neg] at this, by have := hil.c; rwa [show t.neg.c = -t.c from rfl, il_neg] at this⟩
    have c9 := rrev_pu t (htl.to (by omega))
    generalize m.det.num.sign = z at *
    clear hil htl hneg
    refine Pu.intro Tryz.func21 rfl (by kernel_rfl) fun C => ?_
    repeat (first | (refine A1 ⟨?_⟩; intros) | (refine Wcx (c1) ?_) | (refine Wdcx (c1) ?_) | (refine Wcgx (c1) ?_) | (refine Wdcgx (c1) ?_) | (refine Wcx (c2) ?_) | (refine Wdcx (c2) ?_) | (refine Wcgx (c2) ?_) | (refine Wdcgx (c2) ?_) | (refine Wcx (c3) ?_) | (refine Wdcx (c3) ?_) | (refine Wcgx (c3) ?_) | (refine Wdcgx (c3) ?_) | (refine Wcx (c4) ?_) | (refine Wdcx (c4) ?_) | (refine Wcgx (c4) ?_) | (refine Wdcgx (c4) ?_) | (refine Wcx (c5) ?_) | (refine Wdcx (c5) ?_) | (refine Wcgx (c5) ?_) | (refine Wdcgx (c5) ?_) | (refine Wcx (c6) ?_) | (refine Wdcx (c6) ?_) | (refine Wcgx (c6) ?_) | (refine Wdcgx (c6) ?_) | (refine Wcx (c7) ?_) | (refine Wdcx (c7) ?_) | (refine Wcgx (c7) ?_) | (refine Wdcgx (c7) ?_) | (refine Wcx (c8) ?_) | (refine Wdcx (c8) ?_) | (refine Wcgx (c8) ?_) | (refine Wdcgx (c8) ?_) | (refine Wcx (c9) ?_) | (refine Wdcx (c9) ?_) | (refine Wcgx (c9) ?_) | (refine Wdcgx (c9) ?_) | (refine Wcx (rof1) ?_) | (refine Wdcx (rof1) ?_) | (refine Wcgx (rof1) ?_) | (refine Wdcgx (rof1) ?_))
    ((first | refine endR ?_ | refine endN ?_); refine end1 (RV.cellA rfl (by repeat (first | exact List.mem_cons_self | apply List.mem_cons_of_mem)) (by (try simp only [List.drop_succ_cons, List.drop_zero, List.drop_nil, List.take_succ_cons, List.take_zero, List.take_nil, Nat.zero_add, Nat.add_zero, Nat.reduceAdd]) <;> exact rfl) rfl) (Le.refl _))
  · rw [if_neg hneg] at hil ⊢
    have hs : ¬ m.det.num.sign < 0 := by
      rw [Int.sign_neg_iff]
      have := Rat.num_nonneg (q := m.det)
      have h1 : 0 ≤ m.det := by grind
      have h2 : 0 ≤ m.det.num := this.2 h1
      omega
    generalize m.det.num.sign = z at *
    clear hil hneg
    refine Pu.intro Tryz.func21 rfl (by kernel_rfl) fun C => ?_
    repeat (first | (refine A1 ⟨?_⟩; intros) | (refine Wcx (c1) ?_) | (refine Wdcx (c1) ?_) | (refine Wcgx (c1) ?_) | (refine Wdcgx (c1) ?_) | (refine Wcx (c2) ?_) | (refine Wdcx (c2) ?_) | (refine Wcgx (c2) ?_) | (refine Wdcgx (c2) ?_) | (refine Wcx (c3) ?_) | (refine Wdcx (c3) ?_) | (refine Wcgx (c3) ?_) | (refine Wdcgx (c3) ?_) | (refine Wcx (c4) ?_) | (refine Wdcx (c4) ?_) | (refine Wcgx (c4) ?_) | (refine Wdcgx (c4) ?_) | (refine Wcx (c5) ?_) | (refine Wdcx (c5) ?_) | (refine Wcgx (c5) ?_) | (refine Wdcgx (c5) ?_) | (refine Wcx (c6) ?_) | (refine Wdcx (c6) ?_) | (refine Wcgx (c6) ?_) | (refine Wdcgx (c6) ?_) | (refine Wcx (c7) ?_) | (refine Wdcx (c7) ?_) | (refine Wcgx (c7) ?_) | (refine Wdcgx (c7) ?_) | (refine Wcx (c8) ?_) | (refine Wdcx (c8) ?_) | (refine Wcgx (c8) ?_) | (refine Wdcgx (c8) ?_) | (refine Wcx (rof1) ?_) | (refine Wdcx (rof1) ?_) | (refine Wcgx (rof1) ?_) | (refine Wdcgx (rof1) ?_))
    ((first | refine endR ?_ | refine endN ?_); refine end1 (RV.cellA rfl (by repeat (first | exact List.mem_cons_self | apply List.mem_cons_of_mem)) (by (try simp only [List.drop_succ_cons, List.drop_zero, List.drop_nil, List.take_succ_cons, List.take_zero, List.take_nil, Nat.zero_add, Nat.add_zero, Nat.reduceAdd]) <;> exact rfl) rfl) (Le.refl _))
abbrev rmc (m : M6 Rat) : List SV := [lit (.bool (decide (m.a.num < 0))), nat m.a.num.natAbs, dg (dden m.a.den), lit (.bool (decide (m.b.num < 0))), nat m.b.num.natAbs, dg (dden m.b.den), lit (.bool (decide (m.c.num < 0))), nat m.c.num.natAbs, dg (dden m.c.den),
  lit (.bool (decide (m.d.num < 0))), nat m.d.num.natAbs, dg (dden m.d.den), lit (.bool (decide (m.e.num < 0))), nat m.e.num.natAbs, dg (dden m.e.den), lit (.bool (decide (m.f.num < 0))), nat m.f.num.natAbs, dg (dden m.f.den)]
theorem mtree_pu {m : M6 Rat} (hm : m.le 1) (hdet : m.det ≠ 0) : ∀ t : Tr, (t.all fun l => l.ok ∧ l.le 1) → Pu Tryz.prog 25 [rm m, rt t] (rt (t.im m)) := by
  intro t
  induction t with
  | leaf i =>
    intro _
    simp only [Tr.im]
    unfold rt
    rw [rc_leaf]
    refine Pu.intro Tryz.func25 rfl (by kernel_rfl) fun C => ?_
    repeat (refine A1 ⟨?_⟩; intros)
    ((first | refine endR ?_ | refine endN ?_); exact end1 (RV.tmp rfl) (Le.refl _))
  | node l a b iha ihb =>
    intro ⟨⟨hok, hle⟩, hla, hlb⟩
    have c2 := mline_pu hm hdet hok hle
    have c3 := iha hla
    have c4 := ihb hlb
    simp only [Tr.im]
    unfold rt at *
    rw [rc_node]
    refine Pu.intro Tryz.func25 rfl (by kernel_rfl) fun C => ?_
    repeat (first | (refine A1 ⟨?_⟩; intros) | (refine Wcx (c2) ?_) | (refine Wdcx (c2) ?_) | (refine Wcgx (c2) ?_) | (refine Wdcgx (c2) ?_) | (refine Wcx (c3) ?_) | (refine Wdcx (c3) ?_) | (refine Wcgx (c3) ?_) | (refine Wdcgx (c3) ?_) | (refine Wcx (c4) ?_) | (refine Wdcx (c4) ?_) | (refine Wcgx (c4) ?_) | (refine Wdcgx (c4) ?_))
    refine Wdo (ov_boxP (sv := ag [lit (.bool false), lit (.bool false), lit (.bool (decide ((l.im m).a < 0))), nat (l.im m).a.natAbs, lit (.bool (decide ((l.im m).b < 0))), nat (l.im m).b.natAbs, lit (.bool (decide ((l.im m).c < 0))), nat (l.im m).c.natAbs, pt (rc (a.im m)), pt (rc (b.im m))]) rfl) ?_
    repeat (refine A1 ⟨?_⟩; intros)
    ((first | refine endR ?_ | refine endN ?_); exact end1 (RV.tmp rfl) (Le.refl _))
set_option maxHeartbeats 4000000 in
theorem mring_pu {m : M6 Rat} {l : List Pq} {L : Nat} (hm : m.le L) (hL : L ≤ 400) (hl : l.length ≤ 100000) (hh : ∀ p ∈ l, ht p.1 ≤ L ∧ ht p.2 ≤ L) : Pu Tryz.prog 23 [rm m, rps l] (rps (l.map m.app)) := by
  have epp : rps (l.map m.app) = sl ((l.map fun p => rpx (m.app p)).flatten) l.length := by
    show sl ((l.map m.app).map rpx).flatten (l.map m.app).length = _
    rw [List.map_map, List.length_map]; rfl
  rw [epp]
  refine Pu.intro Tryz.func23 rfl (by kernel_rfl) fun C => ?_
  repeat (refine A1 ⟨?_⟩; intros)
  rename_i bm
  refine WP.loopS (ι := RwSt) (fun y => y.k ≤ l.length ∧ Own 83 6 y.k ((l.take y.k).map fun p => rpx (m.app p)).flatten y.s y.Hs) (fun y => l.length - y.k) (fun y => fm [(2, lit (.pointer (some ⟨bm, 0, none⟩))), (5, y.s), (8, rps l), (9, lit (.int .i64 l.length)), (10, lit (.int .i64 y.k))]) (fun y => (bm, 32, rmc m) :: y.Hs) ⟨0, lit (.slice none 0 0), []⟩
    ⟨Nat.zero_le _, Own.nil _ _⟩ (by (repeat (first | exact LeF.nil _ | refine LeF.cons (Le.refl _) ?_ | refine LeF.cons (Le.int (by omega)) ?_))) (List.Sublist.refl _) ?_
  rintro ⟨k, s, Hs⟩ ⟨hk, hown⟩ K hK
  simp only at hk hown ⊢
  have hco := hown.co
  by_cases hkl : k < l.length
  · have hget := List.getElem?_eq_getElem hkl
    generalize l[k] = p at hget
    obtain ⟨h1, h2⟩ := hh p (List.mem_of_getElem? hget)
    have hat := flat_at (f := rpx) (n := 6) rpx_len hget
    have hne : (l.map rpx).flatten ≠ [] := flat_ne rpx_len (by omega) (fun e => by rw [e] at hkl; simp at hkl)
    have c := mapply_pu hm (by omega) p.1 p.2 h1 h2
    have hgo := fun s' Hs' h F' H' => hK F' H' ⟨k + 1, s', Hs'⟩ ⟨by simp only; omega, h⟩ (by simp only; omega)
    simp only [map_take_snoc (f := fun p => rpx (m.app p)) hget] at hgo
    clear hK hh
    repeat (refine A1 ⟨?_⟩; intros)
    refine Wo (ov_idxS (cs' := rpx p) rfl rfl (by omega) (by omega) hat hne) ?_
    repeat (first | (refine A1 ⟨?_⟩; intros) | (refine Wcx (c) ?_) | (refine Wdcx (c) ?_) | (refine Wcgx (c) ?_) | (refine Wdcgx (c) ?_))
    refine Wown hown (by omega) (fun s2 H2 hown' => ?_)
    have hco2 := hown'.co
    replace hgo := hgo s2 H2 hown'
    simp only [List.cons_append, List.nil_append]
    clear hown hown'
    repeat (refine A1 ⟨?_⟩; intros)
    exact hgo _ _ (by (repeat (first | exact LeF.nil _ | refine LeF.cons (Le.refl _) ?_ | refine LeF.cons (Le.int (by omega)) ?_))) (by repeat (first | exact List.Sublist.refl _ | refine List.Sublist.cons _ ?_))
  · have hke : k = l.length := by omega
    subst hke
    rw [List.take_length] at hown
    refine WP.rowS 5 hown rfl (show ([(bm, 32, rmc m)] ++ Hs).Perm _ from List.perm_append_comm) ?_
    clear hK hown
    repeat (refine A1 ⟨?_⟩; intros)
    exact endR (end1 (RV.tmp rfl) (Le.refl _))
set_option maxHeartbeats 4000000 in
theorem samePs_pu (l : List Pq) (hl : l.length ≤ 100000) (hh : ∀ p ∈ l, ht p.1 ≤ 100000000 ∧ ht p.2 ≤ 100000000) : Pu Tryz.prog 22 [aps l, aps l] (lit (.bool true)) := by
  refine Pu.intro Tryz.func22 rfl (by kernel_rfl) fun C => ?_
  repeat (refine A1 ⟨?_⟩; intros)
  refine WP.loopS (ι := Nat) (fun k => k ≤ l.length) (fun k => l.length - k) (fun k => fm [(0, aps l), (1, aps l), (11, aps l), (12, lit (.int .i64 l.length)), (13, lit (.int .i64 k))]) (fun _ => []) 0
    (Nat.zero_le _) (by (repeat (first | exact LeF.nil _ | refine LeF.cons (Le.refl _) ?_ | refine LeF.cons (Le.int (by omega)) ?_))) (List.nil_sublist _) ?_
  rintro k hk K hK
  by_cases hkl : k < l.length
  · have hget := List.getElem?_eq_getElem hkl
    generalize l[k] = p at hget
    obtain ⟨h1, h2⟩ := hh p (List.mem_of_getElem? hget)
    have hat := flat_at (f := apx) (n := 6) apx_len hget
    have hne : (l.map apx).flatten ≠ [] := flat_ne apx_len (by omega) (fun e => by rw [e] at hkl; simp at hkl)
    have c := sameP_pu p.1 p.2 h1 h2
    have hgo := fun F' H' => hK F' H' (k + 1) (by omega) (by omega)
    clear hK hh
    repeat (refine A1 ⟨?_⟩; intros)
    refine Wdo (ov_idxS (cs' := apx p) rfl rfl (by omega) (by omega) hat hne) ?_
    repeat (refine A1 ⟨?_⟩; intros)
    refine Wdo (ov_idxS (cs' := apx p) rfl rfl (by omega) (by omega) hat hne) ?_
    repeat (first | (refine A1 ⟨?_⟩; intros) | (refine Wcx (c) ?_) | (refine Wdcx (c) ?_) | (refine Wcgx (c) ?_) | (refine Wdcgx (c) ?_))
    exact hgo _ _ (by (repeat (first | exact LeF.nil _ | refine LeF.cons (Le.refl _) ?_ | refine LeF.cons (Le.int (by omega)) ?_))) (List.nil_sublist _)
  · have hke : k = l.length := by omega
    subst hke
    repeat (refine A1 ⟨?_⟩; intros)
    exact endR (end1 (RV.tmp rfl) (Le.refl _))
abbrev iq (x y : Int) : Pq := ((x : Rat), (y : Rat))
def Iq (p : Pq) : Prop := ∃ a b : Int, p = iq a b ∧ a.natAbs ≤ 1000 ∧ b.natAbs ≤ 1000
theorem Iq.ht {p : Pq} (h : Iq p) : Ab.ht p.1 ≤ 1 ∧ Ab.ht p.2 ≤ 1 := by obtain ⟨a, b, rfl, ha, hb⟩ := h; exact ⟨ht_i a ha, ht_i b hb⟩
def rgOk (l : List Pq) : Prop := l.length ≤ 6 ∧ (∀ p ∈ l, Iq p) ∧ 3 ≤ (srt l).length ∧ ∀ (i : Nat) (a b : Pq), l[i]? = some a → l[(i + 1) % l.length]? = some b → a ≠ b
abbrev ringR : SV := ex fun l : { l : List Pq // rgOk l } => rps l.1
theorem three {l : List Pq} {p q r : Pq} (hp : p ∈ l) (hq : q ∈ l) (hr : r ∈ l) (h1 : p ≠ q) (h2 : p ≠ r) (h3 : q ≠ r) : 3 ≤ (srt l).length := by
  have hn : [p, q, r].Nodup := by simp [h1, h2, h3]
  exact nodup_len hn fun x hx => (srt_mem l x).2 (by
    simp only [List.mem_cons, List.not_mem_nil, or_false] at hx
    rcases hx with rfl | rfl | rfl <;> assumption)
theorem iq_inj {a b c d : Int} : iq a b = iq c d ↔ a = c ∧ b = d := by
  unfold iq
  rw [Prod.mk.injEq]
  constructor
  · rintro ⟨h1, h2⟩; exact ⟨by exact_mod_cast h1, by exact_mod_cast h2⟩
  · rintro ⟨rfl, rfl⟩; exact ⟨rfl, rfl⟩
theorem rg3 {a b c d e f : Int} (ha : a.natAbs ≤ 1000) (hb : b.natAbs ≤ 1000) (hc : c.natAbs ≤ 1000) (hd : d.natAbs ≤ 1000) (he : e.natAbs ≤ 1000) (hf : f.natAbs ≤ 1000) (h1 : a ≠ c ∨ b ≠ d) (h2 : a ≠ e ∨ b ≠ f) (h3 : c ≠ e ∨ d ≠ f) : rgOk [iq a b, iq c d, iq e f] := by
  have n1 : iq a b ≠ iq c d := fun h => by rw [iq_inj] at h; omega
  have n2 : iq a b ≠ iq e f := fun h => by rw [iq_inj] at h; omega
  have n3 : iq c d ≠ iq e f := fun h => by rw [iq_inj] at h; omega
  refine ⟨by simp, fun p hp => ?_, three (p := iq a b) (q := iq c d) (r := iq e f) (by simp) (by simp) (by simp) n1 n2 n3, fun i x y hx hy => ?_⟩
  · simp only [List.mem_cons, List.not_mem_nil, or_false] at hp
    rcases hp with rfl | rfl | rfl
    · exact ⟨_, _, rfl, ha, hb⟩
    · exact ⟨_, _, rfl, hc, hd⟩
    · exact ⟨_, _, rfl, he, hf⟩
  · match i, hx, hy with
    | 0, hx, hy => simp only [List.length_cons, List.length_nil, Nat.reduceAdd, Nat.reduceMod, List.getElem?_cons_zero, List.getElem?_cons_succ, Option.some.injEq] at hx hy; rw [← hx, ← hy]; exact n1
    | 1, hx, hy => simp only [List.length_cons, List.length_nil, Nat.reduceAdd, Nat.reduceMod, List.getElem?_cons_zero, List.getElem?_cons_succ, Option.some.injEq] at hx hy; rw [← hx, ← hy]; exact n3
    | 2, hx, hy => simp only [List.length_cons, List.length_nil, Nat.reduceAdd, Nat.reduceMod, List.getElem?_cons_zero, List.getElem?_cons_succ, Option.some.injEq] at hx hy; rw [← hx, ← hy]; exact n2.symm
theorem rg4 {a b c d : Int} (ha : a.natAbs ≤ 1000) (hb : b.natAbs ≤ 1000) (hc : c.natAbs ≤ 1000) (hd : d.natAbs ≤ 1000) (h1 : a ≠ c) (h2 : b ≠ d) : rgOk [iq a b, iq c b, iq c d, iq a d] := by
  have n1 : iq a b ≠ iq c b := fun h => by rw [iq_inj] at h; omega
  have n2 : iq a b ≠ iq c d := fun h => by rw [iq_inj] at h; omega
  have n3 : iq c b ≠ iq c d := fun h => by rw [iq_inj] at h; omega
  have n4 : iq c d ≠ iq a d := fun h => by rw [iq_inj] at h; omega
  have n5 : iq a d ≠ iq a b := fun h => by rw [iq_inj] at h; omega
  refine ⟨by simp, fun p hp => ?_, three (p := iq a b) (q := iq c b) (r := iq c d) (by simp) (by simp) (by simp) n1 n2 n3, fun i x y hx hy => ?_⟩
  · simp only [List.mem_cons, List.not_mem_nil, or_false] at hp
    rcases hp with rfl | rfl | rfl | rfl
    · exact ⟨_, _, rfl, ha, hb⟩
    · exact ⟨_, _, rfl, hc, hb⟩
    · exact ⟨_, _, rfl, hc, hd⟩
    · exact ⟨_, _, rfl, ha, hd⟩
  · match i, hx, hy with
    | 0, hx, hy => simp only [List.length_cons, List.length_nil, Nat.reduceAdd, Nat.reduceMod, List.getElem?_cons_zero, List.getElem?_cons_succ, Option.some.injEq] at hx hy; rw [← hx, ← hy]; exact n1
    | 1, hx, hy => simp only [List.length_cons, List.length_nil, Nat.reduceAdd, Nat.reduceMod, List.getElem?_cons_zero, List.getElem?_cons_succ, Option.some.injEq] at hx hy; rw [← hx, ← hy]; exact n3
    | 2, hx, hy => simp only [List.length_cons, List.length_nil, Nat.reduceAdd, Nat.reduceMod, List.getElem?_cons_zero, List.getElem?_cons_succ, Option.some.injEq] at hx hy; rw [← hx, ← hy]; exact n4
    | 3, hx, hy => simp only [List.length_cons, List.length_nil, Nat.reduceAdd, Nat.reduceMod, List.getElem?_cons_zero, List.getElem?_cons_succ, Option.some.injEq] at hx hy; rw [← hx, ← hy]; exact n5
def chn (l : List Pq) : Prop := ∀ (i : Nat) (a b : Pq), l[i]? = some a → l[i + 1]? = some b → a ≠ b
theorem chn_snoc {l : List Pq} {p : Pq} (h : chn l) (hp : ∀ o, l[l.length - 1]? = some o → o ≠ p) : chn (l ++ [p]) := by
  intro i a b ha hb
  have hi : i + 1 < (l ++ [p]).length := (List.getElem?_eq_some_iff.1 hb).1
  rw [List.length_append, List.length_singleton] at hi
  by_cases he : i + 1 < l.length
  · rw [List.getElem?_append_left (by omega)] at ha
    rw [List.getElem?_append_left he] at hb
    exact h i a b ha hb
  · have hl : l.length = i + 1 := by omega
    rw [List.getElem?_append_left (by omega)] at ha
    rw [List.getElem?_append_right (by omega), hl, Nat.sub_self] at hb
    simp only [List.getElem?_cons_zero, Option.some.injEq] at hb
    rw [← hb]
    exact hp a (by rw [hl]; exact ha)
theorem chn_take {l : List Pq} {k : Nat} (h : chn l) : chn (l.take k) := by
  intro i a b ha hb
  rw [List.getElem?_take] at ha hb
  split at ha
  · split at hb
    · exact h i a b ha hb
    · cases hb
  · cases ha
def shq (l : List Pq) : Prop := l.length ≤ 6 ∧ ∀ p ∈ l, Iq p
theorem rg_close {l : List Pq} (hs : shq l) (hc : chn l) (h3 : 3 ≤ (srt l).length) (hl : ∀ a b, l[0]? = some a → l[l.length - 1]? = some b → a ≠ b) : rgOk l := by
  refine ⟨hs.1, hs.2, h3, fun i a b ha hb => ?_⟩
  have hi : i < l.length := (List.getElem?_eq_some_iff.1 ha).1
  by_cases he : i + 1 < l.length
  · rw [Nat.mod_eq_of_lt he] at hb
    exact hc i a b ha hb
  · have hl' : l.length = i + 1 := by omega
    rw [hl', Nat.mod_self] at hb
    exact (hl b a hb (by rw [hl']; exact ha)).symm
theorem nab {a b : Int} (ha : a.natAbs ≤ 4) (hb : b.natAbs ≤ 4) : (a + b).natAbs ≤ 1000 := by omega
theorem ne_add {a b c d : Int} (h : b ≠ 0 ∨ d ≠ 0) : a ≠ a + b ∨ c ≠ c + d := by omega
theorem ne_add2 {p q u v u' v' : Int} (h : u ≠ v ∨ u' ≠ v') : p + u ≠ p + v ∨ q + u' ≠ q + v' := by omega
theorem ht4 {x : Int} (h : x.natAbs ≤ 4) : ht (x : Rat) ≤ 1 := ht_i x (Nat.le_trans h (by decide))
theorem addI_pu {a b u v : Int} (ha : a.natAbs ≤ 4) (hb : b.natAbs ≤ 4) (hu : u.natAbs ≤ 4) (hv : v.natAbs ≤ 4) : Pu Tryz.prog 31 [rp a b, rq 1, rp u v] (rp ((a + u : Int) : Rat) ((b + v : Int) : Rat)) := by
  have h := fun {x : Int} (h : x.natAbs ≤ 4) => Nat.le_trans (ht4 h) (show 1 ≤ 1000000 by decide)
  have a1 := gadd_pu a b 1 u v (h ha) (h hb) (by rw [ht_one]; decide) (h hu) (h hv)
  rwa [show (a : Rat) + 1 * (u : Rat) = ((a + u : Int) : Rat) by push_cast; grind, show (b : Rat) + 1 * (v : Rat) = ((b + v : Int) : Rat) by push_cast; grind] at a1
theorem crossI_pu {a b u v : Int} (ha : a.natAbs ≤ 4) (hb : b.natAbs ≤ 4) (hu : u.natAbs ≤ 4) (hv : v.natAbs ≤ 4) : Pu Tryz.prog 34 [rp a b, rp u v] (rq ((a * v - b * u : Int) : Rat)) ∧ Pu Tryz.prog 16 [rq ((a * v - b * u : Int) : Rat)] (lit (.int .i64 (a * v - b * u).sign)) := by
  have h := fun {x : Int} (h : x.natAbs ≤ 4) => Nat.le_trans (ht4 h) (show 1 ≤ 100000 by decide)
  have cc := rcross_pu a b u v (h ha) (h hb) (h hu) (h hv)
  have m1 := mul_le4 ha hv
  have m2 := mul_le4 hb hu
  rw [show (a : Rat) * (v : Rat) - (b : Rat) * (u : Rat) = ((a * v - b * u : Int) : Rat) by push_cast; rfl] at cc
  refine ⟨cc, ?_⟩
  clear cc h ha hb hu hv
  generalize a * v = x at *
  generalize b * u = y at *
  have cs := rs_pu ((x - y : Int) : Rat) (by have := ht_i (x - y) (by omega); omega)
  rwa [Rat.num_intCast] at cs
theorem cross_ne {a b u v : Int} (h0 : a * v - b * u ≠ 0) : a ≠ u ∨ b ≠ v := by
  rcases Int.decEq a u with h | h
  · exact .inl h
  · rcases Int.decEq b v with h' | h'
    · exact .inr h'
    · exfalso; apply h0; rw [h, h', Int.mul_comm]; omega
structure RgSt where
  i : Nat
  l : List Pq
  s : SV
  Hs : LH
theorem iq_ok {x y : Int} (hx : x.natAbs ≤ 4) (hy : y.natAbs ≤ 4) : Iq (iq x y) := ⟨x, y, rfl, by omega, by omega⟩
theorem iq_ht {x y : Int} (hx : x.natAbs ≤ 4) (hy : y.natAbs ≤ 4) : ht (iq x y).1 ≤ 1 ∧ ht (iq x y).2 ≤ 1 := ⟨ht_i x (by omega), ht_i y (by omega)⟩
set_option maxHeartbeats 4000000 in
theorem tring_pu (zs : List Int) (hz : zs.length ≤ 400) : PuT 7 zs [] ringR := by
  refine PuM.intro Tryz.func7 rfl (by kernel_rfl) fun C b => ?_
  repeat (refine A1 ⟨?_⟩; intros)
  refine Wtx (next_pu zs hz 4 (by omega) (by omega)) (by repeat (first | exact List.mem_cons_self | apply List.mem_cons_of_mem)) fun k => ?_
  obtain ⟨k, hk⟩ := k
  simp only []
  refine WPL.nil ?_
  refine thenN ?_
  refine WP.block ?_
  refine WP.viaB (fun F H => LeF F (fm [(0, lit (.pointer (some ⟨b, 0, none⟩)))]) ∧ [(b, 79, tapeC zs)].Sublist H) ?_ ?_
  · by_cases k0 : k = 0
    · subst k0
      clear hk
      repeat (refine A1 ⟨?_⟩; intros)
      refine Wtx (next_pu zs hz 5 (by omega) (by omega)) (by repeat (first | exact List.mem_cons_self | apply List.mem_cons_of_mem)) fun a => ?_
      obtain ⟨a, ha⟩ := a
      simp only []
      repeat (refine A1 ⟨?_⟩; intros)
      refine Wtx (next_pu zs hz 5 (by omega) (by omega)) (by repeat (first | exact List.mem_cons_self | apply List.mem_cons_of_mem)) fun a2 => ?_
      obtain ⟨b', hb'⟩ := a2
      simp only []
      repeat (refine A1 ⟨?_⟩; intros)
      refine Wtx (next_pu zs hz 4 (by omega) (by omega)) (by repeat (first | exact List.mem_cons_self | apply List.mem_cons_of_mem)) fun a3 => ?_
      obtain ⟨c, hc⟩ := a3
      simp only []
      repeat (refine A1 ⟨?_⟩; intros)
      refine Wtx (next_pu zs hz 4 (by omega) (by omega)) (by repeat (first | exact List.mem_cons_self | apply List.mem_cons_of_mem)) fun a4 => ?_
      obtain ⟨d, hd⟩ := a4
      simp only []
      have hR := rg4 (a := (a : Int) - 4) (b := (b' : Int) - 4) (c := (a : Int) - 4 + 1 + c) (d := (b' : Int) - 4 + 1 + d) (by omega) (by omega) (by omega) (by omega) (by omega) (by omega)
      have c1 := xy_pu ((a : Int) - 4) ((b' : Int) - 4) (by omega) (by omega) (by omega) (by omega)
      have c2 := xy_pu ((a : Int) - 4 + 1 + c) ((b' : Int) - 4) (by omega) (by omega) (by omega) (by omega)
      have c3 := xy_pu ((a : Int) - 4 + 1 + c) ((b' : Int) - 4 + 1 + d) (by omega) (by omega) (by omega) (by omega)
      have c4 := xy_pu ((a : Int) - 4) ((b' : Int) - 4 + 1 + d) (by omega) (by omega) (by omega) (by omega)
      repeat (refine A1 ⟨?_⟩; intros)
      refine Wcx c1 ?_
      repeat (refine A1 ⟨?_⟩; intros)
      refine Wcx c2 ?_
      repeat (refine A1 ⟨?_⟩; intros)
      refine Wcx c3 ?_
      repeat (refine A1 ⟨?_⟩; intros)
      refine Wcx c4 ?_
      refine Wo (ov_bsL rpx_len [iq ((a : Int) - 4) ((b' : Int) - 4), iq ((a : Int) - 4 + 1 + c) ((b' : Int) - 4), iq ((a : Int) - 4 + 1 + c) ((b' : Int) - 4 + 1 + d), iq ((a : Int) - 4) ((b' : Int) - 4 + 1 + d)] (r := [(0, rpx (iq ((a : Int) - 4) ((b' : Int) - 4))), (1, rpx (iq ((a : Int) - 4 + 1 + c) ((b' : Int) - 4))), (2, rpx (iq ((a : Int) - 4 + 1 + c) ((b' : Int) - 4 + 1 + d))), (3, rpx (iq ((a : Int) - 4) ((b' : Int) - 4 + 1 + d)))]) (.pt rfl (.pt rfl (.pt rfl (.pt rfl .nil))))) ?_
      repeat (refine A1 ⟨?_⟩; intros)
      exact endMR () _ (end1 (RV.tmp rfl) (Le.ex ⟨_, hR⟩ (Le.refl _))) (by repeat (first | exact List.mem_cons_self | apply List.mem_cons_of_mem)) (LeL.refl _)
    · by_cases k1 : k = 1
      · subst k1
        clear hk
        repeat (refine A1 ⟨?_⟩; intros)
        refine Wtx (tp_pu zs hz) (by repeat (first | exact List.mem_cons_self | apply List.mem_cons_of_mem)) fun p => ?_
        obtain ⟨⟨px, py⟩, hpx, hpy⟩ := p
        simp only at hpx hpy
        simp only []
        repeat (refine A1 ⟨?_⟩; intros)
        refine Wtx (tv_pu zs hz) (by repeat (first | exact List.mem_cons_self | apply List.mem_cons_of_mem)) fun u => ?_
        obtain ⟨⟨ux, uy⟩, ⟨hux, huy⟩, hu0⟩ := u
        simp only at hux huy hu0
        simp only []
        repeat (refine A1 ⟨?_⟩; intros)
        refine Wtx (tv_pu zs hz) (by repeat (first | exact List.mem_cons_self | apply List.mem_cons_of_mem)) fun v => ?_
        obtain ⟨⟨vx, vy⟩, ⟨hvx, hvy⟩, hv0⟩ := v
        simp only at hvx hvy hv0
        simp only []
        obtain ⟨cc, cs⟩ := crossI_pu hux huy hvx hvy
        by_cases h0 : ux * vy - uy * vx = 0
        · rw [h0] at cc cs
          clear hu0 hv0 hpx hpy hux huy hvx hvy h0
          repeat (first | (refine A1 ⟨?_⟩; intros) | (refine Wcx (cc) ?_) | (refine Wdcx (cc) ?_) | (refine Wcgx (cc) ?_) | (refine Wdcgx (cc) ?_) | (refine Wcx (cs) ?_) | (refine Wdcx (cs) ?_) | (refine Wcgx (cs) ?_) | (refine Wdcgx (cs) ?_))
          exact ⟨by (repeat (first | exact LeF.nil _ | refine LeF.cons (Le.refl _) ?_ | refine LeF.cons (Le.int (by omega)) ?_)), by repeat (first | exact List.Sublist.refl _ | refine List.Sublist.cons _ ?_)⟩
        · have hs0 : (ux * vy - uy * vx).sign ≠ 0 := fun e => h0 (Int.sign_eq_zero_iff_zero.1 e)
          have a1 := addI_pu hpx hpy hux huy
          have a2 := addI_pu hpx hpy hvx hvy
          have hR := rg3 (a := px) (b := py) (c := px + ux) (d := py + uy) (e := px + vx) (f := py + vy) (Nat.le_trans hpx (by decide)) (Nat.le_trans hpy (by decide)) (nab hpx hux) (nab hpy huy) (nab hpx hvx) (nab hpy hvy) (ne_add hu0) (ne_add hv0) (ne_add2 (cross_ne h0))
          generalize (ux * vy - uy * vx).sign = s at *
          generalize ux * vy - uy * vx = z at *
          clear h0 hu0 hv0 hpx hpy hux huy hvx hvy
          repeat (first | (refine A1 ⟨?_⟩; intros) | (refine Wcx (cc) ?_) | (refine Wdcx (cc) ?_) | (refine Wcgx (cc) ?_) | (refine Wdcgx (cc) ?_) | (refine Wcx (cs) ?_) | (refine Wdcx (cs) ?_) | (refine Wcgx (cs) ?_) | (refine Wdcgx (cs) ?_))
          repeat (first | (refine Wdcx rof1 ?_) | (refine Wdcx a1 ?_) | (refine Wdcx a2 ?_) | (refine Wdo (ov_bsL rpx_len [iq px py, iq (px + ux) (py + uy), iq (px + vx) (py + vy)] (r := [(0, rpx (iq px py)), (1, rpx (iq (px + ux) (py + uy))), (2, rpx (iq (px + vx) (py + vy)))]) (.pt rfl (.pt rfl (.pt rfl .nil)))) ?_) | (refine A1 ⟨?_⟩; intros))
          exact endMR () _ (end1 (RV.tmp rfl) (Le.ex ⟨_, hR⟩ (Le.refl _))) (by repeat (first | exact List.mem_cons_self | apply List.mem_cons_of_mem)) (LeL.refl _)
      · repeat (refine A1 ⟨?_⟩; intros)
        exact ⟨by (repeat (first | exact LeF.nil _ | refine LeF.cons (Le.refl _) ?_ | refine LeF.cons (Le.int (by omega)) ?_)), by repeat (first | exact List.Sublist.refl _ | refine List.Sublist.cons _ ?_)⟩
  · rintro F' H' ⟨hF, hH⟩
    refine WP.sub hH (WP.le hF ?_)
    clear hF hH
    repeat (refine A1 ⟨?_⟩; intros)
    refine Wtx (next_pu zs hz 4 (by omega) (by omega)) (by repeat (first | exact List.mem_cons_self | apply List.mem_cons_of_mem)) fun n0 => ?_
    obtain ⟨n0, hn0⟩ := n0
    simp only []
    repeat (refine A1 ⟨?_⟩; intros)
    refine WP.loopS (ι := RgSt) (fun y => y.l.length + y.i ≤ 6 ∧ chn y.l ∧ (∀ p ∈ y.l, Iq p) ∧ Own 83 6 y.l.length (y.l.map rpx).flatten y.s y.Hs) (fun y => y.i)
      (fun y => fm [(0, lit (.pointer (some ⟨b, 0, none⟩))), (10, y.s), (11, lit (.int .i64 (y.i : Nat)))]) (fun y => (b, 79, tapeC zs) :: y.Hs) ⟨3 + n0, [], lit (.slice none 0 0), []⟩
      ⟨by simp only [List.length_nil]; omega, fun i a b h => by simp at h, fun p h => (by cases h), Own.nil _ _⟩ (by (repeat (first | exact LeF.nil _ | refine LeF.cons (Le.refl _) ?_ | refine LeF.cons (Le.int (by omega)) ?_))) (List.Sublist.refl _) ?_
    rintro ⟨i, l, s, Hs⟩ ⟨hli, hch, hsh, hown⟩ K hK
    simp only at hli hch hsh hown ⊢
    by_cases hi : 0 < i
    · have hgo : ∀ l' s' Hs', l'.length ≤ l.length + 1 → chn l' → (∀ p ∈ l', Iq p) → Own 83 6 l'.length (l'.map rpx).flatten s' Hs' → ∀ F' H', LeF F' (fm [(0, lit (.pointer (some ⟨b, 0, none⟩))), (10, s'), (11, lit (.int .i64 ((i - 1 : Nat) : Int)))]) → ((b, 79, tapeC zs) :: Hs').Sublist H' → K F' H' :=
        fun l' s' Hs' h1 h2 h3 h4 F' H' h5 h6 => hK F' H' ⟨i - 1, l', s', Hs'⟩ ⟨by simp only; omega, h2, h3, h4⟩ (by simp only; omega) h5 h6
      clear hK
      have hco := hown.co
      by_cases hl0 : l.length = 0
      · obtain rfl := List.eq_nil_of_length_eq_zero hl0
        repeat (refine A1 ⟨?_⟩; intros)
        refine Wtx (tp_pu zs hz) (by repeat (first | exact List.mem_cons_self | apply List.mem_cons_of_mem)) fun p => ?_
        obtain ⟨⟨x, y⟩, hx, hy⟩ := p
        simp only at hx hy
        simp only []
        repeat (refine A1 ⟨?_⟩; intros)
        refine Wdo (ov_lenOwn hown rfl) ?_
        repeat (refine A1 ⟨?_⟩; intros)
        refine Wown hown (by decide) (fun s2 H2 hown' => ?_)
        have hown2 : Own 83 6 [iq x y].length ([iq x y].map rpx).flatten s2 H2 := hown'
        have hco2 := hown2.co
        have hgo2 := hgo [iq x y] s2 H2 (by simp) (fun i a b h h' => by cases i <;> simp at h') (fun p hp => by rw [List.mem_singleton] at hp; subst hp; exact iq_ok hx hy) hown2
        clear hgo hown hown' hown2
        simp only [List.cons_append, List.nil_append]
        repeat (refine A1 ⟨?_⟩; intros)
        exact hgo2 _ _ (by (repeat (first | exact LeF.nil _ | refine LeF.cons (Le.refl _) ?_ | refine LeF.cons (Le.int (by omega)) ?_))) (by repeat (first | exact List.Sublist.refl _ | refine List.Sublist.cons _ ?_))
      · obtain ⟨b2, c2, hnc, hcm, rfl, rfl⟩ := hown.blk (by omega)
        have hget := List.getElem?_eq_getElem (show l.length - 1 < l.length by omega)
        generalize l[l.length - 1]'(by omega) = o at hget
        have ho := (hsh o (List.mem_of_getElem? hget)).ht
        have hrow := row_at rpx_len (List.replicate (c2 * 6 - l.length * 6) top) hget
        have eidx : ((l.length : Int) - 1).toNat * 6 = (l.length - 1) * 6 := by omega
        rw [← eidx] at hrow
        clear eidx
        repeat (refine A1 ⟨?_⟩; intros)
        refine Wtx (tp_pu zs hz) (by repeat (first | exact List.mem_cons_self | apply List.mem_cons_of_mem)) fun p => ?_
        obtain ⟨⟨x, y⟩, hx, hy⟩ := p
        simp only at hx hy
        simp only []
        have hp := iq_ht hx hy
        have c := rsame_pu o.1 o.2 (iq x y).1 (iq x y).2 (by omega) (by omega) (by omega) (by omega)
        by_cases hop : o = iq x y
        · rw [decide_eq_true (show o.1 = (iq x y).1 ∧ o.2 = (iq x y).2 by rw [hop]; exact ⟨rfl, rfl⟩)] at c
          have hgo2 := hgo l _ _ (by omega) hch hsh hown
          clear hgo hown hch hsh hget ho hp hop
          repeat (refine A1 ⟨?_⟩; intros)
          refine Wdog (ov_loadLA rfl (by repeat (first | exact List.mem_cons_self | apply List.mem_cons_of_mem)) hrow (by exact rfl)) ?_
          repeat (first | (refine A1 ⟨?_⟩; intros) | (refine Wcx (c) ?_) | (refine Wdcx (c) ?_) | (refine Wcgx (c) ?_) | (refine Wdcgx (c) ?_))
          exact hgo2 _ _ (by (repeat (first | exact LeF.nil _ | refine LeF.cons (Le.refl _) ?_ | refine LeF.cons (Le.int (by omega)) ?_))) (by repeat (first | exact List.Sublist.refl _ | refine List.Sublist.cons _ ?_))
        · rw [decide_eq_false (show ¬(o.1 = (iq x y).1 ∧ o.2 = (iq x y).2) from fun e => hop (Prod.ext e.1 e.2))] at c
          have hch2 := chn_snoc (p := iq x y) hch (fun a ha => by rw [hget] at ha; cases ha; exact hop)
          have hgo2 := fun s' Hs' => hgo (l ++ [iq x y]) s' Hs' (by simp) hch2 (fun p hp' => by
            rcases List.mem_append.1 hp' with h | h
            · exact hsh p h
            · rw [List.mem_singleton] at h; subst h; exact iq_ok hx hy)
          clear hgo hch hsh hget ho hp hop hch2
          repeat (refine A1 ⟨?_⟩; intros)
          refine Wdog (ov_loadLA rfl (by repeat (first | exact List.mem_cons_self | apply List.mem_cons_of_mem)) hrow (by exact rfl)) ?_
          repeat (first | (refine A1 ⟨?_⟩; intros) | (refine Wcx (c) ?_) | (refine Wdcx (c) ?_) | (refine Wcgx (c) ?_) | (refine Wdcgx (c) ?_))
          refine Wown hown (by omega) (fun s2 H2 hown' => ?_)
          have hown2 : Own 83 6 (l ++ [iq x y]).length ((l ++ [iq x y]).map rpx).flatten s2 H2 := by
            rw [List.length_append, List.length_singleton, List.map_append, List.flatten_append]
            exact hown'
          have hco2 := hown2.co
          replace hgo2 := hgo2 s2 H2 hown2
          clear hown hown' hown2
          simp only [List.cons_append, List.nil_append]
          repeat (refine A1 ⟨?_⟩; intros)
          exact hgo2 _ _ (by (repeat (first | exact LeF.nil _ | refine LeF.cons (Le.refl _) ?_ | refine LeF.cons (Le.int (by omega)) ?_))) (by repeat (first | exact List.Sublist.refl _ | refine List.Sublist.cons _ ?_))
    · have hi0 : i = 0 := by omega
      subst hi0
      have hl6 : l.length ≤ 6 := by omega
      clear hK hli hi
      refine WP.rowS 10 hown rfl (show ([(b, 79, tapeC zs)] ++ Hs).Perm _ from List.perm_append_comm) ?_
      clear hown
      have t0 := xy_pu 0 0 (by decide) (by decide) (by decide) (by decide)
      have t1 := xy_pu 2 0 (by decide) (by decide) (by decide) (by decide)
      have t2 := xy_pu 0 2 (by decide) (by decide) (by decide) (by decide)
      have hT := rg3 (a := 0) (b := 0) (c := 2) (d := 0) (e := 0) (f := 2) (by decide) (by decide) (by decide) (by decide) (by decide) (by decide) (by decide) (by decide) (by decide)
      repeat (refine A1 ⟨?_⟩; intros)
      refine WP.loopS (ι := List Pq) (fun y => chn y ∧ y.length ≤ 6 ∧ ∀ p ∈ y, Iq p) (fun y => y.length) (fun y => fm [(0, lit (.pointer (some ⟨b, 0, none⟩))), (10, rps y)]) (fun y => [(b, 79, tapeC zs)]) l
        ⟨hch, hl6, hsh⟩ (by (repeat (first | exact LeF.nil _ | refine LeF.cons (Le.refl _) ?_ | refine LeF.cons (Le.int (by omega)) ?_))) (List.Sublist.refl _) ?_
      clear hch hl6 hsh
      rintro l ⟨hch, hl6, hsh⟩ K hK
      have hfl := flat_len rpx_len l
      have cs := sorted_pu l (by omega) (fun p hp => by have := (hsh p hp).ht; omega)
      have hsl := srt_len l
      by_cases h1 : 1 < l.length
      · have hget := List.getElem?_eq_getElem (show l.length - 1 < l.length by omega)
        generalize l[l.length - 1]'(by omega) = o at hget
        have ho := (hsh o (List.mem_of_getElem? hget)).ht
        have hat := flat_at (f := rpx) (n := 6) rpx_len hget
        have hget0 := List.getElem?_eq_getElem (show 0 < l.length by omega)
        generalize l[0]'(by omega) = a at hget0
        have ha := (hsh a (List.mem_of_getElem? hget0)).ht
        have hat0 := flat_at (f := rpx) (n := 6) rpx_len hget0
        have hne : (l.map rpx).flatten ≠ [] := flat_ne rpx_len (by omega) (fun e => by rw [e] at h1; simp at h1)
        have eidx : ((l.length : Int) - 1).toNat * 6 = (l.length - 1) * 6 := by omega
        rw [← eidx] at hat
        clear eidx
        have c := rsame_pu a.1 a.2 o.1 o.2 (by omega) (by omega) (by omega) (by omega)
        by_cases hao : a = o
        · rw [decide_eq_true (show a.1 = o.1 ∧ a.2 = o.2 by rw [hao]; exact ⟨rfl, rfl⟩)] at c
          have hgo := fun F' H' => hK F' H' (l.take (l.length - 1)) ⟨chn_take hch, by rw [List.length_take]; omega, fun p hp => hsh p (List.mem_of_mem_take hp)⟩ (by rw [List.length_take]; omega)
          have hft := flat_take rpx_len l (l.length - 1)
          have hrp : rps (l.take (l.length - 1)) = sl ((l.take (l.length - 1)).map rpx).flatten (l.length - 1) := congrArg (fun n : Nat => sl ((l.take (l.length - 1)).map rpx).flatten n) (show (l.take (l.length - 1)).length = l.length - 1 by rw [List.length_take]; omega)
          clear hK hch hsh hget hget0 ho ha hao cs hsl t0 t1 t2
          repeat (refine A1 ⟨?_⟩; intros)
          refine Wdog (ov_idxS (cs' := rpx a) rfl rfl (by omega) (by omega) hat0 hne) ?_
          repeat (refine A1 ⟨?_⟩; intros)
          refine Wdog (ov_idxS (cs' := rpx o) rfl rfl (by omega) (by omega) hat hne) ?_
          repeat (first | (refine A1 ⟨?_⟩; intros) | (refine Wcx (c) ?_) | (refine Wdcx (c) ?_) | (refine Wcgx (c) ?_) | (refine Wdcgx (c) ?_))
          refine Wo (ov_slT (l.length - 1) rfl rfl (by omega) (by omega)) ?_
          rw [hft, ← hrp]
          repeat (refine A1 ⟨?_⟩; intros)
          exact hgo _ _ (by (repeat (first | exact LeF.nil _ | refine LeF.cons (Le.refl _) ?_ | refine LeF.cons (Le.int (by omega)) ?_))) (List.Sublist.refl _)
        · rw [decide_eq_false (show ¬(a.1 = o.1 ∧ a.2 = o.2) from fun e => hao (Prod.ext e.1 e.2))] at c
          by_cases h3 : (srt l).length < 3
          · clear hK hch hsh hget hget0 ho ha hao hfl
            repeat (refine A1 ⟨?_⟩; intros)
            refine Wdog (ov_idxS (cs' := rpx a) rfl rfl (by omega) (by omega) hat0 hne) ?_
            repeat (refine A1 ⟨?_⟩; intros)
            refine Wdog (ov_idxS (cs' := rpx o) rfl rfl (by omega) (by omega) hat hne) ?_
            repeat (first | (refine A1 ⟨?_⟩; intros) | (refine Wcx (c) ?_) | (refine Wdcx (c) ?_) | (refine Wcgx (c) ?_) | (refine Wdcgx (c) ?_) | (refine Wcx (cs) ?_) | (refine Wdcx (cs) ?_) | (refine Wcgx (cs) ?_) | (refine Wdcgx (cs) ?_) | (refine Wcx (t0) ?_) | (refine Wdcx (t0) ?_) | (refine Wcgx (t0) ?_) | (refine Wdcgx (t0) ?_) | (refine Wcx (t1) ?_) | (refine Wdcx (t1) ?_) | (refine Wcgx (t1) ?_) | (refine Wdcgx (t1) ?_))
            refine Wcx t2 ?_
            refine Wo (ov_bsL rpx_len [iq 0 0, iq 2 0, iq 0 2] (r := [(0, rpx (iq 0 0)), (1, rpx (iq 2 0)), (2, rpx (iq 0 2))]) (.pt rfl (.pt rfl (.pt rfl .nil)))) ?_
            repeat (refine A1 ⟨?_⟩; intros)
            exact endMR () _ (end1 (RV.tmp rfl) (Le.ex ⟨_, hT⟩ (Le.refl _))) (by repeat (first | exact List.mem_cons_self | apply List.mem_cons_of_mem)) (LeL.refl _)
          · have hR := rg_close ⟨hl6, hsh⟩ hch (by omega) (fun x y hx hy => by rw [hget0] at hx; rw [hget] at hy; cases hx; cases hy; exact hao)
            clear hK hch hsh hget hget0 ho ha hao hfl t0 t1 t2
            repeat (refine A1 ⟨?_⟩; intros)
            refine Wdog (ov_idxS (cs' := rpx a) rfl rfl (by omega) (by omega) hat0 hne) ?_
            repeat (refine A1 ⟨?_⟩; intros)
            refine Wdog (ov_idxS (cs' := rpx o) rfl rfl (by omega) (by omega) hat hne) ?_
            repeat (first | (refine A1 ⟨?_⟩; intros) | (refine Wcx (c) ?_) | (refine Wdcx (c) ?_) | (refine Wcgx (c) ?_) | (refine Wdcgx (c) ?_) | (refine Wcx (cs) ?_) | (refine Wdcx (cs) ?_) | (refine Wcgx (cs) ?_) | (refine Wdcgx (cs) ?_))
            exact endMR () _ (end1 (RV.tmp rfl) (Le.ex ⟨l, hR⟩ (Le.refl _))) (by repeat (first | exact List.mem_cons_self | apply List.mem_cons_of_mem)) (LeL.refl _)
      · have h3 : (srt l).length < 3 := by omega
        clear hK hch hsh hfl
        repeat (first | (refine A1 ⟨?_⟩; intros) | (refine Wcx (cs) ?_) | (refine Wdcx (cs) ?_) | (refine Wcgx (cs) ?_) | (refine Wdcgx (cs) ?_) | (refine Wcx (t0) ?_) | (refine Wdcx (t0) ?_) | (refine Wcgx (t0) ?_) | (refine Wdcgx (t0) ?_) | (refine Wcx (t1) ?_) | (refine Wdcx (t1) ?_) | (refine Wcgx (t1) ?_) | (refine Wdcgx (t1) ?_))
        refine Wcx t2 ?_
        refine Wo (ov_bsL rpx_len [iq 0 0, iq 2 0, iq 0 2] (r := [(0, rpx (iq 0 0)), (1, rpx (iq 2 0)), (2, rpx (iq 0 2))]) (.pt rfl (.pt rfl (.pt rfl .nil)))) ?_
        repeat (refine A1 ⟨?_⟩; intros)
        exact endMR () _ (end1 (RV.tmp rfl) (Le.ex ⟨_, hT⟩ (Le.refl _))) (by repeat (first | exact List.mem_cons_self | apply List.mem_cons_of_mem)) (LeL.refl _)
theorem rgOk.ht {l : List Pq} (h : rgOk l) : ∀ p ∈ l, Ab.ht p.1 ≤ 1 ∧ Ab.ht p.2 ≤ 1 := fun p hp => (h.2.1 p hp).ht
theorem rgOk.bad {l : List Pq} (h : rgOk l) : ∀ i, i < l.length → badE l i = false := by
  intro i hi
  have h1 : (i + 1) % l.length < l.length := Nat.mod_lt _ (by omega)
  have e1 := List.getElem?_eq_getElem hi
  have e2 := List.getElem?_eq_getElem h1
  have hne := h.2.2.2 i _ _ e1 e2
  unfold badE
  rw [e1, e2]
  exact decide_eq_false fun e => hne (Option.some.inj e)
set_option maxRecDepth 20000 in
set_option maxHeartbeats 4000000 in
theorem images_pu (zs : List Int) (hz : zs.length ≤ 9223372036854775807) [Sent 0] : Pu Tryz.prog 3 [nsl .i64 zs] (lit (.bool true)) := by
  have hk : (zs.take (min zs.length 400)).length ≤ 400 := by simp; omega
  have hnew := new_pu zs hz
  generalize zs.take (min zs.length 400) = ys at *
  have hmap := tmap_pu ys hk
  have hln := tl_pu ys hk
  have hrg := tring_pu ys hk
  have htr := ttree_pu ys hk 3 (by omega)
  clear hz
  refine Pu.intro Tryz.func3 rfl (by kernel_rfl) fun C => ?_
  repeat (refine A1 ⟨?_⟩; intros)
  refine WPL.callN hnew rfl rfl fun bb => ?_
  repeat (refine A1 ⟨?_⟩; intros)
  refine Wtx hmap (by repeat (first | exact List.mem_cons_self | apply List.mem_cons_of_mem)) fun ma => ?_
  obtain ⟨m, hm⟩ := ma
  simp only []
  repeat (refine A1 ⟨?_⟩; intros)
  refine Wtx hln (by repeat (first | exact List.mem_cons_self | apply List.mem_cons_of_mem)) fun a => ?_
  obtain ⟨a, hok, hle⟩ := a
  simp only []
  repeat (refine A1 ⟨?_⟩; intros)
  refine Wtx hrg (by repeat (first | exact List.mem_cons_self | apply List.mem_cons_of_mem)) fun r => ?_
  obtain ⟨r, hr⟩ := r
  simp only []
  repeat (refine A1 ⟨?_⟩; intros)
  refine Wtx htr (by repeat (first | exact List.mem_cons_self | apply List.mem_cons_of_mem)) fun t => ?_
  obtain ⟨t, ht, hs⟩ := t
  simp only []
  have hs' : t.size ≤ 8 := by have : 2 ^ 3 = 8 := rfl; omega
  have hbad := hr.bad
  have hr2 := hr.ht
  obtain ⟨hr1, hr5, hr3, hr4⟩ := hr
  have c1 := writeM_pu hm (by omega)
  have c2 := toL_pu a (hle.to (by omega))
  have c3 := toPs_pu r (by omega) (fun p hp => by have := hr2 p hp; omega)
  have c4 := rwrite_pu t (t.all_mono (fun l h => h.2.to (by omega)) ht) (by omega)
  have c5 := mdet_pu (hm.le_mono (L' := 30) (by omega)) (by omega)
  rw [show m.a * m.e - m.b * m.d = m.det by unfold M6.det; grind] at c5
  have hd := M6.det_ht hm
  have c6 := rs_pu m.det (by omega)
  clear hr4 hr5 hd
  by_cases hz : m.det = 0
  · have d1 := aLine_f hm (by omega) hz hok (hle.to (by omega))
    have d2 := aRing_f hm (by omega) hz (by omega) (fun p hp => by have := hr2 p hp; omega) hr3 hbad
    have d3 := aTree_f hm (by omega) hz (t.all_mono (fun l h => ⟨h.1, h.2.to (by omega)⟩) ht) (by omega)
    have d4 := is_pu 0
    have hs : m.det.num.sign = 0 := by rw [hz]; rfl
    rw [hs] at c6
    clear hbad hr2 hr3 hr1 ht
    repeat (first | (refine A1 ⟨?_⟩; intros) | (refine Wcx (c1) ?_) | (refine Wdcx (c1) ?_) | (refine Wcgx (c1) ?_) | (refine Wdcgx (c1) ?_) | (refine Wcx (c2) ?_) | (refine Wdcx (c2) ?_) | (refine Wcgx (c2) ?_) | (refine Wdcgx (c2) ?_) | (refine Wcx (c3) ?_) | (refine Wdcx (c3) ?_) | (refine Wcgx (c3) ?_) | (refine Wdcgx (c3) ?_) | (refine Wcx (c4) ?_) | (refine Wdcx (c4) ?_) | (refine Wcgx (c4) ?_) | (refine Wdcgx (c4) ?_) | (refine Wcx (c5) ?_) | (refine Wdcx (c5) ?_) | (refine Wcgx (c5) ?_) | (refine Wdcgx (c5) ?_) | (refine Wcx (c6) ?_) | (refine Wdcx (c6) ?_) | (refine Wcgx (c6) ?_) | (refine Wdcgx (c6) ?_) | (refine Wcx (d1) ?_) | (refine Wdcx (d1) ?_) | (refine Wcgx (d1) ?_) | (refine Wdcgx (d1) ?_) | (refine Wcx (d2) ?_) | (refine Wdcx (d2) ?_) | (refine Wcgx (d2) ?_) | (refine Wdcgx (d2) ?_) | (refine Wcx (d3) ?_) | (refine Wdcx (d3) ?_) | (refine Wcgx (d3) ?_) | (refine Wdcgx (d3) ?_) | (refine Wcx (d4) ?_) | (refine Wdcx (d4) ?_) | (refine Wcgx (d4) ?_) | (refine Wdcgx (d4) ?_) | (refine Wcx (known26) ?_) | (refine Wdcx (known26) ?_) | (refine Wcgx (known26) ?_) | (refine Wdcgx (known26) ?_))
    ((first | refine endR ?_ | refine endN ?_); exact end1 (RV.tmp rfl) (Le.refl _))
  · have hs : m.det.num.sign ≠ 0 := fun e => hz (Rat.num_eq_zero.1 (Int.sign_eq_zero_iff_zero.1 e))
    have d1 := aLine_t hm hle (by omega) (by omega) hz hok
    have d2 := aRing_t hm (by omega) hz (by omega) hr2 hr3 hbad
    have d3 := aTree_t hm (by omega) (by omega) hz ht (by omega)
    have hil := Li.im_le' hm hle (by omega) (by omega)
    have hlm : (r.map m.app).length = r.length := List.length_map ..
    have hrm : ∀ p ∈ r.map m.app, Ab.ht p.1 ≤ 1000 ∧ Ab.ht p.2 ≤ 1000 := fun p hp => by
      obtain ⟨q, hq, rfl⟩ := List.mem_map.1 hp
      obtain ⟨h1, h2⟩ := hr2 q hq
      have := apply_le hm h1 h2
      simp only [M6.app]
      omega
    have e1 := mline_pu hm hz hok hle
    have e2 := toL_pu (a.im m) (hil.to (by omega))
    have e3 := sameL_pu (a.im m) (hil.to (by omega))
    have e4 := mring_pu hm (by omega) (by omega) hr2
    have e5 := toPs_pu (r.map m.app) (by omega) (fun p hp => by have := hrm p hp; omega)
    have e6 := samePs_pu (r.map m.app) (by omega) (fun p hp => by have := hrm p hp; omega)
    have e7 := mtree_pu hm hz t ht
    have hti := t.im_all (p := fun l => l.ok ∧ l.le 1) (q := fun l => l.le 1000000) (fun l h => (Li.im_le' hm h.2 (by omega) (by omega)).to (by omega)) ht
    have e8 := rwrite_pu (t.im m) hti (by rw [Tr.im_size]; omega)
    have e9 := sameT_pu (t.im m) hti (by rw [Tr.im_size]; omega)
    clear hbad hr2 hr3 hr1 ht hil hlm hrm hti
    generalize m.det.num.sign = s at *
    repeat (first | (refine A1 ⟨?_⟩; intros) | (refine Wcx (c1) ?_) | (refine Wdcx (c1) ?_) | (refine Wcgx (c1) ?_) | (refine Wdcgx (c1) ?_) | (refine Wcx (c2) ?_) | (refine Wdcx (c2) ?_) | (refine Wcgx (c2) ?_) | (refine Wdcgx (c2) ?_) | (refine Wcx (c3) ?_) | (refine Wdcx (c3) ?_) | (refine Wcgx (c3) ?_) | (refine Wdcgx (c3) ?_) | (refine Wcx (c4) ?_) | (refine Wdcx (c4) ?_) | (refine Wcgx (c4) ?_) | (refine Wdcgx (c4) ?_) | (refine Wcx (c5) ?_) | (refine Wdcx (c5) ?_) | (refine Wcgx (c5) ?_) | (refine Wdcgx (c5) ?_) | (refine Wcx (c6) ?_) | (refine Wdcx (c6) ?_) | (refine Wcgx (c6) ?_) | (refine Wdcgx (c6) ?_) | (refine Wcx (d1) ?_) | (refine Wdcx (d1) ?_) | (refine Wcgx (d1) ?_) | (refine Wdcgx (d1) ?_) | (refine Wcx (d2) ?_) | (refine Wdcx (d2) ?_) | (refine Wcgx (d2) ?_) | (refine Wdcgx (d2) ?_) | (refine Wcx (d3) ?_) | (refine Wdcx (d3) ?_) | (refine Wcgx (d3) ?_) | (refine Wdcgx (d3) ?_) | (refine Wcx (e1) ?_) | (refine Wdcx (e1) ?_) | (refine Wcgx (e1) ?_) | (refine Wdcgx (e1) ?_) | (refine Wcx (e2) ?_) | (refine Wdcx (e2) ?_) | (refine Wcgx (e2) ?_) | (refine Wdcgx (e2) ?_) | (refine Wcx (e3) ?_) | (refine Wdcx (e3) ?_) | (refine Wcgx (e3) ?_) | (refine Wdcgx (e3) ?_) | (refine Wcx (e4) ?_) | (refine Wdcx (e4) ?_) | (refine Wcgx (e4) ?_) | (refine Wdcgx (e4) ?_) | (refine Wcx (e5) ?_) | (refine Wdcx (e5) ?_) | (refine Wcgx (e5) ?_) | (refine Wdcgx (e5) ?_) | (refine Wcx (e6) ?_) | (refine Wdcx (e6) ?_) | (refine Wcgx (e6) ?_) | (refine Wdcgx (e6) ?_) | (refine Wcx (e7) ?_) | (refine Wdcx (e7) ?_) | (refine Wcgx (e7) ?_) | (refine Wdcgx (e7) ?_) | (refine Wcx (e8) ?_) | (refine Wdcx (e8) ?_) | (refine Wcgx (e8) ?_) | (refine Wdcgx (e8) ?_) | (refine Wcx (e9) ?_) | (refine Wdcx (e9) ?_) | (refine Wcgx (e9) ?_) | (refine Wdcgx (e9) ?_) | (refine Wcx (known26) ?_) | (refine Wdcx (known26) ?_) | (refine Wcgx (known26) ?_) | (refine Wdcgx (known26) ?_))
    ((first | refine endR ?_ | refine endN ?_); exact end1 (RV.tmp rfl) (Le.refl _))
end Go.Ab
