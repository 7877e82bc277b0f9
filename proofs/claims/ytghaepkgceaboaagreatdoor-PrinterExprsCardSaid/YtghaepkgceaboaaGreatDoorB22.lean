/- Texts laid one behind the other: ImM, AffC, LnC, RLn, Ex, TapeB. -/
import Derived.Test.YtghaepkgceaboaaGreatDoorB15
import Derived.Test.YtghaepkgceaboaaGreatDoorB14
import Derived.Test.YtghaepkgceaboaaGreatDoorB03
import Derived.Test.YtghaepkgceaboaaGreatDoorB04
import Derived.Test.YtghaepkgceaboaaGreatDoorB05
/- Lines: coprime integers out of integers; the image of a line as the reference makes it: plain laws. -/
namespace Go.Ab
open Go.Proofs
set_option linter.unusedSectionVars false
set_option linter.unusedVariables false
set_option linter.unusedSimpArgs false
variable [Base]
def Li.neg (l : Li) : Li := ⟨-l.a, -l.b, -l.c⟩
theorem g3_ints (a b c : Int) : g3 a b c = ((Nat.gcd (Nat.gcd a.natAbs b.natAbs) c.natAbs : Nat) : Rat) := by
  unfold g3
  rw [rgcd_ints, show ((Nat.gcd a.natAbs b.natAbs : Nat) : Rat) = (((Nat.gcd a.natAbs b.natAbs : Nat) : Int) : Rat) from rfl, rgcd_ints, Int.natAbs_natCast]
theorem mul_inv_int {a : Int} {g : Nat} (hg : g ≠ 0) (h : g ∣ a.natAbs) : ((a : Rat) * ((g : Nat) : Rat)⁻¹).num = sv (decide (a < 0)) (a.natAbs / g) := by
  obtain ⟨k, hk⟩ := h
  have hgr : ((g : Nat) : Rat) ≠ 0 := by exact_mod_cast hg
  have ek : a.natAbs / g = k := by rw [hk, Nat.mul_div_cancel_left _ (Nat.pos_of_ne_zero hg)]
  have ea : a = (g : Int) * sv (decide (a < 0)) k := by
    have h0 := sv_int a
    rw [hk] at h0
    conv => lhs; rw [← h0]
    cases decide (a < 0)
    · simp [sv]
    · simp [sv, Int.mul_neg]
  rw [ek]
  generalize sv (decide (a < 0)) k = z at *
  have : (a : Rat) * ((g : Nat) : Rat)⁻¹ = (z : Rat) := by
    rw [ea, Rat.intCast_mul, Rat.mul_comm, ← Rat.mul_assoc]
    rw [show ((g : Int) : Rat) = ((g : Nat) : Rat) from rfl, Rat.inv_mul_cancel _ hgr, Rat.one_mul]
  rw [this, Rat.num_intCast]
theorem g_ne {a b : Int} (c : Int) (h : a ≠ 0 ∨ b ≠ 0) : Nat.gcd (Nat.gcd a.natAbs b.natAbs) c.natAbs ≠ 0 := by
  intro e
  have h1 := (Nat.gcd_eq_zero_iff.1 e).1
  have h2 := Nat.gcd_eq_zero_iff.1 h1
  omega
theorem prim_ints {a b : Int} (c : Int) (h : a ≠ 0 ∨ b ≠ 0) : prim a b c = ⟨sv (decide (a < 0)) (a.natAbs / Nat.gcd (Nat.gcd a.natAbs b.natAbs) c.natAbs), sv (decide (b < 0)) (b.natAbs / Nat.gcd (Nat.gcd a.natAbs b.natAbs) c.natAbs),
    sv (decide (c < 0)) (c.natAbs / Nat.gcd (Nat.gcd a.natAbs b.natAbs) c.natAbs)⟩ := by
  have hg := g_ne c h
  have d1 : Nat.gcd (Nat.gcd a.natAbs b.natAbs) c.natAbs ∣ a.natAbs := Nat.dvd_trans (Nat.gcd_dvd_left _ _) (Nat.gcd_dvd_left _ _)
  have d2 : Nat.gcd (Nat.gcd a.natAbs b.natAbs) c.natAbs ∣ b.natAbs := Nat.dvd_trans (Nat.gcd_dvd_left _ _) (Nat.gcd_dvd_right _ _)
  have d3 : Nat.gcd (Nat.gcd a.natAbs b.natAbs) c.natAbs ∣ c.natAbs := Nat.gcd_dvd_right _ _
  unfold prim
  rw [g3_ints]
  generalize Nat.gcd (Nat.gcd a.natAbs b.natAbs) c.natAbs = g at *
  rw [mul_inv_int hg d1, mul_inv_int hg d2, mul_inv_int hg d3]
theorem prim_abs {a b : Int} (c : Int) (h : a ≠ 0 ∨ b ≠ 0) : (prim a b c).a.natAbs ≤ a.natAbs ∧ (prim a b c).b.natAbs ≤ b.natAbs ∧ (prim a b c).c.natAbs ≤ c.natAbs := by
  rw [prim_ints c h]
  simp only [sv_abs]
  exact ⟨Nat.div_le_self _ _, Nat.div_le_self _ _, Nat.div_le_self _ _⟩
theorem rgcd_neg (x y : Rat) : rgcd (-x) (-y) = rgcd x y := by
  unfold rgcd
  rw [Rat.neg_num, Rat.neg_den, Rat.neg_num, Rat.neg_den, Int.natAbs_neg, Int.natAbs_neg]
theorem rgcd_negr (x y : Rat) : rgcd x (-y) = rgcd x y := by
  unfold rgcd
  rw [Rat.neg_num, Rat.neg_den, Int.natAbs_neg]
theorem prim_neg (a b c : Rat) : prim (-a) (-b) (-c) = (prim a b c).neg := by
  unfold prim Li.neg g3
  rw [rgcd_neg, rgcd_negr]
  simp only [Rat.neg_mul, Rat.neg_num]
/-- the line through two points -/
def thr (x y u v : Rat) : Li := prim (-(v - y)) (u - x) (-(-(v - y) * x + (u - x) * y))
/-- the image of a line as the reference makes it -/
def Li.rim (m : M6 Rat) (l : Li) : Li :=
  let f : Rat := -(l.c / (l.b * l.b + -l.a * -l.a))
  let x := f * l.a
  let y := f * l.b
  let u := x + 1 * l.b
  let v := y + 1 * -l.a
  let t := thr (m.a * x + m.b * y + m.c) (m.d * x + m.e * y + m.f) (m.a * u + m.b * v + m.c) (m.d * u + m.e * v + m.f)
  if m.det < 0 then t.neg else t
theorem Li.n_pos {l : Li} (hl : l.ok) : (0 : Rat) < l.b * l.b + -l.a * -l.a := by
  have h : 0 < l.b * l.b + -l.a * -l.a := by
    have h1 : 0 ≤ l.b * l.b := by rcases Int.le_total 0 l.b with h | h; exact Int.mul_nonneg h h; exact Int.mul_nonneg_of_nonpos_of_nonpos h h
    have h2 : 0 ≤ -l.a * -l.a := by rcases Int.le_total 0 (-l.a) with h | h; exact Int.mul_nonneg h h; exact Int.mul_nonneg_of_nonpos_of_nonpos h h
    rcases hl.2 with h | h
    · have : -l.a * -l.a ≠ 0 := fun e => by rcases Int.mul_eq_zero.1 e with e | e <;> omega
      omega
    · have : l.b * l.b ≠ 0 := fun e => by rcases Int.mul_eq_zero.1 e with e | e <;> omega
      omega
  exact_mod_cast h
theorem Li.rim_im {m : M6 Rat} {l : Li} (h : m.det ≠ 0) (hl : l.ok) : l.rim m = l.im m := by
  have hn := Li.n_pos hl
  have hne : (l.b * l.b + -l.a * -l.a : Rat) ≠ 0 := fun e => by rw [e] at hn; exact absurd hn (by decide)
  obtain ⟨f, hf⟩ : ∃ f : Rat, f = -(l.c / (l.b * l.b + -l.a * -l.a)) := ⟨_, rfl⟩
  have hfn : f * (l.b * l.b + -l.a * -l.a) = -l.c := by rw [hf, Rat.neg_mul, Rat.div_mul_cancel hne]
  have h1 : m.det * m.det⁻¹ = 1 := Rat.mul_inv_cancel _ h
  have hd : m.det = m.a * m.e - m.d * m.b := rfl
  unfold Li.rim thr
  simp only []
  rw [← hf]
  have key : ∀ t : Rat, t * m.det⁻¹ = 1 → prim (-(m.d * (f * l.a + 1 * l.b) + m.e * (f * l.b + 1 * -l.a) + m.f - (m.d * (f * l.a) + m.e * (f * l.b) + m.f))) (m.a * (f * l.a + 1 * l.b) + m.b * (f * l.b + 1 * -l.a) + m.c - (m.a * (f * l.a) + m.b * (f * l.b) + m.c))
      (-(-(m.d * (f * l.a + 1 * l.b) + m.e * (f * l.b + 1 * -l.a) + m.f - (m.d * (f * l.a) + m.e * (f * l.b) + m.f)) * (m.a * (f * l.a) + m.b * (f * l.b) + m.c) + (m.a * (f * l.a + 1 * l.b) + m.b * (f * l.b + 1 * -l.a) + m.c - (m.a * (f * l.a) + m.b * (f * l.b) + m.c)) * (m.d * (f * l.a) + m.e * (f * l.b) + m.f)))
      = prim (t * (l.a * m.inv.a + l.b * m.inv.d)) (t * (l.a * m.inv.b + l.b * m.inv.e)) (t * (l.a * m.inv.c + l.b * m.inv.f + l.c)) := by
    intro t ht
    unfold M6.inv
    simp only []
    generalize m.det⁻¹ = k at *
    generalize m.det = D at *
    have e : t = D := by grind
    subst e
    clear hf hn hne hl
    generalize (l.a : Rat) = A at *
    generalize (l.b : Rat) = B at *
    generalize (l.c : Rat) = C at *
    obtain ⟨a, b, c, d, e, f'⟩ := m
    simp only at *
    congr 1 <;> grind
  rw [key m.det h1]
  by_cases hneg : m.det < 0
  · rw [if_pos hneg]
    have hp : 0 < -m.det := by have := Rat.neg_lt_neg hneg; rwa [Rat.neg_zero] at this
    have e : ∀ x : Rat, m.det * x = -(-m.det * x) := fun x => by rw [Rat.neg_mul, Rat.neg_neg]
    rw [e, e, e, prim_neg, prim_mul _ _ _ _ hp]
    unfold Li.neg Li.im
    simp
  · rw [if_neg hneg]
    have hp : 0 < m.det := by
      rcases Rat.le_iff_lt_or_eq.1 (Rat.not_lt.1 hneg) with h2 | h2
      · exact h2
      · exact absurd h2.symm h
    rw [prim_mul _ _ _ _ hp]
    rfl
end Go.Ab
/- Package affine: Invert; the reference's After, Invert. -/
namespace Go.Ab
open Go.Proofs
set_option linter.unusedSectionVars false
set_option linter.unusedVariables false
set_option linter.unusedSimpArgs false
variable [Base]
/-- a map all of whose numbers are zero values -/
abbrev mz : SV := ag [lit (.bool false), lit (.slice none 0 0), lit (.slice none 0 0), lit (.bool false), lit (.slice none 0 0), lit (.slice none 0 0), lit (.bool false), lit (.slice none 0 0), lit (.slice none 0 0), lit (.bool false), lit (.slice none 0 0), lit (.slice none 0 0), lit (.bool false), lit (.slice none 0 0), lit (.slice none 0 0), lit (.bool false), lit (.slice none 0 0), lit (.slice none 0 0)]
end Go.Ab
/- Packages geo, affine: lines made, lines read, images of lines. -/
namespace Go.Ab
open Go.Proofs
set_option linter.unusedSectionVars false
set_option linter.unusedVariables false
set_option linter.unusedSimpArgs false
variable [Base]
theorem ht_g3 {a b c : Rat} {L : Nat} (ha : ht a ≤ L) (hb : ht b ≤ L) (hc : ht c ≤ L) : ht (rgcd a b) ≤ 2 * L + 1 ∧ ht (g3 a b c) ≤ 3 * L + 2 ∧ ht (g3 a b c)⁻¹ ≤ 3 * L + 3 := by
  have h1 := ht_rgcd a b
  have h2 := ht_rgcd (rgcd a b) c
  have h3 := ht_inv (g3 a b c)
  have e : g3 a b c = rgcd (rgcd a b) c := rfl
  rw [← e] at h2
  omega
theorem prim_le {a b c : Rat} {L : Nat} (ha : ht a ≤ L) (hb : ht b ≤ L) (hc : ht c ≤ L) : (prim a b c).le (4 * L + 4) := by
  obtain ⟨_, _, h3⟩ := ht_g3 ha hb hc
  have k1 := ht_mul a (g3 a b c)⁻¹
  have k2 := ht_mul b (g3 a b c)⁻¹
  have k3 := ht_mul c (g3 a b c)⁻¹
  have n1 := ht_num (a * (g3 a b c)⁻¹)
  have n2 := ht_num (b * (g3 a b c)⁻¹)
  have n3 := ht_num (c * (g3 a b c)⁻¹)
  unfold prim
  constructor <;> simp only <;> omega
theorem Li.im_le {m : M6 Rat} {l : Li} {L : Nat} (hm : m.le L) (h : l.le L) (h1 : 1 ≤ L) : (l.im m).le (200 * L + 200) := by
  have hi := M6.inv_le hm
  obtain ⟨i1, i2, i3, i4, i5, i6⟩ := hi
  obtain ⟨ha, hb, hc⟩ := h
  have e1 := ht_of_int l.a
  have e2 := ht_of_int l.b
  have e3 := ht_of_int l.c
  have k1 := ht_mul (l.a : Rat) m.inv.a
  have k2 := ht_mul (l.b : Rat) m.inv.d
  have k3 := ht_mul (l.a : Rat) m.inv.b
  have k4 := ht_mul (l.b : Rat) m.inv.e
  have k5 := ht_mul (l.a : Rat) m.inv.c
  have k6 := ht_mul (l.b : Rat) m.inv.f
  have j1 := ht_add ((l.a : Rat) * m.inv.a) (l.b * m.inv.d)
  have j2 := ht_add ((l.a : Rat) * m.inv.b) (l.b * m.inv.e)
  have j3 := ht_add ((l.a : Rat) * m.inv.c) (l.b * m.inv.f)
  have j4 := ht_add ((l.a : Rat) * m.inv.c + l.b * m.inv.f) l.c
  unfold Li.im
  have := prim_le (a := l.a * m.inv.a + l.b * m.inv.d) (b := l.a * m.inv.b + l.b * m.inv.e) (c := l.a * m.inv.c + l.b * m.inv.f + l.c) (L := 46 * L + 48) (by omega) (by omega) (by omega)
  exact ⟨Nat.le_trans this.a (by omega), Nat.le_trans this.b (by omega), Nat.le_trans this.c (by omega)⟩
end Go.Ab
/- The reference of layers 4 and 5: lines. -/
namespace Go.Ab
open Go.Proofs
set_option linter.unusedSectionVars false
set_option linter.unusedVariables false
set_option linter.unusedSimpArgs false
variable [Base]
theorem rmakeL_pu {a b : Int} (c : Int) (ha : il a ≤ 1000000) (hb : il b ≤ 1000000) (hc : il c ≤ 1000000) (h : a ≠ 0 ∨ b ≠ 0) : Pu Tryz.prog 215 [int a, int b, int c] (Ab.tup [lq (prim a b c), lit (.bool true)]) := by
  have hg := g_ne c h
  have hg1 : Nat.gcd a.natAbs b.natAbs ≠ 0 := fun e => by rw [Nat.gcd_eq_zero_iff] at e; omega
  have k1 := dlen_gcd_le (a := a.natAbs) (b := b.natAbs) (n := 1000000) ha hb
  have c1 := rcommon_pu a.natAbs b.natAbs (show il a ≤ _ by omega) (show il b ≤ _ by omega)
  have c2 := rcommon_pu (Nat.gcd a.natAbs b.natAbs) c.natAbs (by omega) (show il c ≤ _ by omega)
  have k2 := dlen_gcd_le (a := Nat.gcd a.natAbs b.natAbs) (b := c.natAbs) (n := 1000000) k1 hc
  have e := prim_ints c h
  have ea := congrArg Li.a e
  have eb := congrArg Li.b e
  have ec := congrArg Li.c e
  clear e
  simp only at ea eb ec
  generalize prim a b c = l at *
  have hn1 := dgs_ne_nil hg1
  generalize Nat.gcd a.natAbs b.natAbs = g1 at *
  generalize Nat.gcd g1 c.natAbs = g at *
  have d1 := rdivide_pu a.natAbs g hg (show il a ≤ _ by omega) (by omega)
  have d2 := rdivide_pu b.natAbs g hg (show il b ≤ _ by omega) (by omega)
  have d3 := rdivide_pu c.natAbs g hg (show il c ≤ _ by omega) (by omega)
  have m1 := rmake_pu (decide (a < 0)) (a.natAbs / g) (Nat.le_trans (len_mono (Nat.div_le_self _ _)) (show il a ≤ _ by omega))
  have m2 := rmake_pu (decide (b < 0)) (b.natAbs / g) (Nat.le_trans (len_mono (Nat.div_le_self _ _)) (show il b ≤ _ by omega))
  have m3 := rmake_pu (decide (c < 0)) (c.natAbs / g) (Nat.le_trans (len_mono (Nat.div_le_self _ _)) (show il c ≤ _ by omega))
  rw [← ea] at m1
  rw [← eb] at m2
  rw [← ec] at m3
  clear ea eb ec ha hb hc hg hg1 k1 k2 h
  refine Pu.intro Tryz.func215 rfl (by kernel_rfl) fun C => ?_
  repeat (first | (refine A1 ⟨?_⟩; intros) | (refine Wcx (c1) ?_) | (refine Wdcx (c1) ?_) | (refine Wcgx (c1) ?_) | (refine Wdcgx (c1) ?_) | (refine Wcx (c2) ?_) | (refine Wdcx (c2) ?_) | (refine Wcgx (c2) ?_) | (refine Wdcgx (c2) ?_) | (refine Wcx (d1) ?_) | (refine Wdcx (d1) ?_) | (refine Wcgx (d1) ?_) | (refine Wdcgx (d1) ?_) | (refine Wcx (d2) ?_) | (refine Wdcx (d2) ?_) | (refine Wcgx (d2) ?_) | (refine Wdcgx (d2) ?_) | (refine Wcx (d3) ?_) | (refine Wdcx (d3) ?_) | (refine Wcgx (d3) ?_) | (refine Wdcgx (d3) ?_) | (refine Wcx (m1) ?_) | (refine Wdcx (m1) ?_) | (refine Wcgx (m1) ?_) | (refine Wdcgx (m1) ?_) | (refine Wcx (m2) ?_) | (refine Wdcx (m2) ?_) | (refine Wcgx (m2) ?_) | (refine Wdcgx (m2) ?_) | (refine Wcx (m3) ?_) | (refine Wdcx (m3) ?_) | (refine Wcgx (m3) ?_) | (refine Wdcgx (m3) ?_))
  ((first | refine endR ?_ | refine endN ?_); exact end2 (RV.cellA rfl (by (first | exact List.mem_cons_self | exact (List.mem_cons_of_mem _ List.mem_cons_self) | exact (List.mem_cons_of_mem _ (List.mem_cons_of_mem _ List.mem_cons_self)) | exact (List.mem_cons_of_mem _ (List.mem_cons_of_mem _ (List.mem_cons_of_mem _ List.mem_cons_self))) | exact (List.mem_cons_of_mem _ (List.mem_cons_of_mem _ (List.mem_cons_of_mem _ (List.mem_cons_of_mem _ List.mem_cons_self)))) | exact (List.mem_cons_of_mem _ (List.mem_cons_of_mem _ (List.mem_cons_of_mem _ (List.mem_cons_of_mem _ (List.mem_cons_of_mem _ List.mem_cons_self))))) | exact (List.mem_cons_of_mem _ (List.mem_cons_of_mem _ (List.mem_cons_of_mem _ (List.mem_cons_of_mem _ (List.mem_cons_of_mem _ (List.mem_cons_of_mem _ List.mem_cons_self)))))) | exact (List.mem_cons_of_mem _ (List.mem_cons_of_mem _ (List.mem_cons_of_mem _ (List.mem_cons_of_mem _ (List.mem_cons_of_mem _ (List.mem_cons_of_mem _ (List.mem_cons_of_mem _ List.mem_cons_self))))))))) (by (first | (simp only [List.drop_succ_cons, List.drop_zero, List.drop_nil, List.take_succ_cons, List.take_zero, List.take_nil, Nat.zero_add, Nat.add_zero, Nat.reduceAdd]; done) | (simp only [List.drop_succ_cons, List.drop_zero, List.drop_nil, List.take_succ_cons, List.take_zero, List.take_nil, Nat.zero_add, Nat.add_zero, Nat.reduceAdd]; exact rfl) | exact rfl)) rfl) (RV.tmp rfl) (Le.refl _))
theorem rgq_pu (a : Int) : Pu Tryz.prog 241 [int a] (rq (a : Rat)) := by
  rw [rq_int]
  refine Pu.intro Tryz.func241 rfl (by kernel_rfl) fun C => ?_
  repeat (refine A1 ⟨?_⟩; intros)
  exact endR (end1 (RV.cellA rfl List.mem_cons_self rfl rfl) (Le.ag ⟨Le.refl _, Le.refl _, le_nil, trivial⟩))
theorem rsub_pt (x y u v : Rat) (hx : ht x ≤ 100000) (hy : ht y ≤ 100000) (hu : ht u ≤ 100000) (hv : ht v ≤ 100000) : Pu Tryz.prog 200 [rp x y, rp u v] (rp (x - u) (y - v)) := by
  have o := rof_pu (-1) (by omega) (by omega)
  have h1 : ht ((-1 : Int) : Rat) ≤ 1 := ht_int _ (by omega)
  have a := gadd_pu x y ((-1 : Int) : Rat) u v (by omega) (by omega) (by omega) (by omega) (by omega)
  have e : ∀ x u : Rat, x + ((-1 : Int) : Rat) * u = x - u := fun x u => by rw [show ((-1 : Int) : Rat) = -1 from rfl]; grind
  rw [e, e] at a
  refine Pu.intro Tryz.func200 rfl (by kernel_rfl) fun C => ?_
  repeat (first | (refine A1 ⟨?_⟩; intros) | (refine Wcx (o) ?_) | (refine Wdcx (o) ?_) | (refine Wcgx (o) ?_) | (refine Wdcgx (o) ?_) | (refine Wcx (a) ?_) | (refine Wdcx (a) ?_) | (refine Wcgx (a) ?_) | (refine Wdcgx (a) ?_))
  ((first | refine endR ?_ | refine endN ?_); refine end1 (RV.cellA rfl (by (first | exact List.mem_cons_self | exact (List.mem_cons_of_mem _ List.mem_cons_self) | exact (List.mem_cons_of_mem _ (List.mem_cons_of_mem _ List.mem_cons_self)) | exact (List.mem_cons_of_mem _ (List.mem_cons_of_mem _ (List.mem_cons_of_mem _ List.mem_cons_self))) | exact (List.mem_cons_of_mem _ (List.mem_cons_of_mem _ (List.mem_cons_of_mem _ (List.mem_cons_of_mem _ List.mem_cons_self)))) | exact (List.mem_cons_of_mem _ (List.mem_cons_of_mem _ (List.mem_cons_of_mem _ (List.mem_cons_of_mem _ (List.mem_cons_of_mem _ List.mem_cons_self))))) | exact (List.mem_cons_of_mem _ (List.mem_cons_of_mem _ (List.mem_cons_of_mem _ (List.mem_cons_of_mem _ (List.mem_cons_of_mem _ (List.mem_cons_of_mem _ List.mem_cons_self)))))) | exact (List.mem_cons_of_mem _ (List.mem_cons_of_mem _ (List.mem_cons_of_mem _ (List.mem_cons_of_mem _ (List.mem_cons_of_mem _ (List.mem_cons_of_mem _ (List.mem_cons_of_mem _ List.mem_cons_self))))))))) (by (first | (simp only [List.drop_succ_cons, List.drop_zero, List.drop_nil, List.take_succ_cons, List.take_zero, List.take_nil, Nat.zero_add, Nat.add_zero, Nat.reduceAdd]; done) | (simp only [List.drop_succ_cons, List.drop_zero, List.drop_nil, List.take_succ_cons, List.take_zero, List.take_nil, Nat.zero_add, Nat.add_zero, Nat.reduceAdd]; exact rfl) | exact rfl)) rfl) (Le.refl _))
theorem rdir_pu (l : Li) (h : l.le 1000000) : Pu Tryz.prog 198 [lq l] (rp (l.b : Rat) (-(l.a : Rat))) := by
  have q1 := rgq_pu l.b
  have q2 := rgq_pu l.a
  have o := ropp_pu (l.a : Rat) (by rw [ht_of_int]; have := h.a; omega)
  refine Pu.intro Tryz.func198 rfl (by kernel_rfl) fun C => ?_
  repeat (first | (refine A1 ⟨?_⟩; intros) | (refine Wcx (q1) ?_) | (refine Wdcx (q1) ?_) | (refine Wcgx (q1) ?_) | (refine Wdcgx (q1) ?_) | (refine Wcx (q2) ?_) | (refine Wdcx (q2) ?_) | (refine Wcgx (q2) ?_) | (refine Wdcgx (q2) ?_) | (refine Wcx (o) ?_) | (refine Wdcx (o) ?_) | (refine Wcgx (o) ?_) | (refine Wdcgx (o) ?_))
  ((first | refine endR ?_ | refine endN ?_); refine end1 (RV.cellA rfl (by (first | exact List.mem_cons_self | exact (List.mem_cons_of_mem _ List.mem_cons_self) | exact (List.mem_cons_of_mem _ (List.mem_cons_of_mem _ List.mem_cons_self)) | exact (List.mem_cons_of_mem _ (List.mem_cons_of_mem _ (List.mem_cons_of_mem _ List.mem_cons_self))) | exact (List.mem_cons_of_mem _ (List.mem_cons_of_mem _ (List.mem_cons_of_mem _ (List.mem_cons_of_mem _ List.mem_cons_self)))) | exact (List.mem_cons_of_mem _ (List.mem_cons_of_mem _ (List.mem_cons_of_mem _ (List.mem_cons_of_mem _ (List.mem_cons_of_mem _ List.mem_cons_self))))) | exact (List.mem_cons_of_mem _ (List.mem_cons_of_mem _ (List.mem_cons_of_mem _ (List.mem_cons_of_mem _ (List.mem_cons_of_mem _ (List.mem_cons_of_mem _ List.mem_cons_self)))))) | exact (List.mem_cons_of_mem _ (List.mem_cons_of_mem _ (List.mem_cons_of_mem _ (List.mem_cons_of_mem _ (List.mem_cons_of_mem _ (List.mem_cons_of_mem _ (List.mem_cons_of_mem _ List.mem_cons_self))))))))) (by (first | (simp only [List.drop_succ_cons, List.drop_zero, List.drop_nil, List.take_succ_cons, List.take_zero, List.take_nil, Nat.zero_add, Nat.add_zero, Nat.reduceAdd]; done) | (simp only [List.drop_succ_cons, List.drop_zero, List.drop_nil, List.take_succ_cons, List.take_zero, List.take_nil, Nat.zero_add, Nat.add_zero, Nat.reduceAdd]; exact rfl) | exact rfl)) rfl) (Le.refl _))
theorem rrev_pu (l : Li) (h : l.le 1000000) : Pu Tryz.prog 161 [lq l] (lq l.neg) := by
  have m1 := rminus_int l.a (show il l.a ≤ _ by have := h.a; omega)
  have m2 := rminus_int l.b (show il l.b ≤ _ by have := h.b; omega)
  have m3 := rminus_int l.c (show il l.c ≤ _ by have := h.c; omega)
  refine Pu.intro Tryz.func161 rfl (by kernel_rfl) fun C => ?_
  repeat (first | (refine A1 ⟨?_⟩; intros) | (refine Wcx (m1) ?_) | (refine Wdcx (m1) ?_) | (refine Wcgx (m1) ?_) | (refine Wdcgx (m1) ?_) | (refine Wcx (m2) ?_) | (refine Wdcx (m2) ?_) | (refine Wcgx (m2) ?_) | (refine Wdcgx (m2) ?_) | (refine Wcx (m3) ?_) | (refine Wdcx (m3) ?_) | (refine Wcgx (m3) ?_) | (refine Wdcgx (m3) ?_))
  ((first | refine endR ?_ | refine endN ?_); refine end1 (RV.cellA rfl (by (first | exact List.mem_cons_self | exact (List.mem_cons_of_mem _ List.mem_cons_self) | exact (List.mem_cons_of_mem _ (List.mem_cons_of_mem _ List.mem_cons_self)) | exact (List.mem_cons_of_mem _ (List.mem_cons_of_mem _ (List.mem_cons_of_mem _ List.mem_cons_self))) | exact (List.mem_cons_of_mem _ (List.mem_cons_of_mem _ (List.mem_cons_of_mem _ (List.mem_cons_of_mem _ List.mem_cons_self)))) | exact (List.mem_cons_of_mem _ (List.mem_cons_of_mem _ (List.mem_cons_of_mem _ (List.mem_cons_of_mem _ (List.mem_cons_of_mem _ List.mem_cons_self))))) | exact (List.mem_cons_of_mem _ (List.mem_cons_of_mem _ (List.mem_cons_of_mem _ (List.mem_cons_of_mem _ (List.mem_cons_of_mem _ (List.mem_cons_of_mem _ List.mem_cons_self)))))) | exact (List.mem_cons_of_mem _ (List.mem_cons_of_mem _ (List.mem_cons_of_mem _ (List.mem_cons_of_mem _ (List.mem_cons_of_mem _ (List.mem_cons_of_mem _ (List.mem_cons_of_mem _ List.mem_cons_self))))))))) (by (first | (simp only [List.drop_succ_cons, List.drop_zero, List.drop_nil, List.take_succ_cons, List.take_zero, List.take_nil, Nat.zero_add, Nat.add_zero, Nat.reduceAdd]; done) | (simp only [List.drop_succ_cons, List.drop_zero, List.drop_nil, List.take_succ_cons, List.take_zero, List.take_nil, Nat.zero_add, Nat.add_zero, Nat.reduceAdd]; exact rfl) | exact rfl)) rfl) (Le.refl _))
theorem rdot_pu (x y u v : Rat) (hx : ht x ≤ 1000000) (hy : ht y ≤ 1000000) (hu : ht u ≤ 1000000) (hv : ht v ≤ 1000000) (h1 : ht (x * u) ≤ 3000000) (h2 : ht (y * v) ≤ 3000000) : Pu Tryz.prog 244 [rp x y, rp u v] (rq (x * u + y * v)) := by
  have t1 := rtimes_pu x u (by omega) (by omega)
  have t2 := rtimes_pu y v (by omega) (by omega)
  have p := rplus_pu (x * u) (y * v) h1 h2
  refine Pu.intro Tryz.func244 rfl (by kernel_rfl) fun C => ?_
  repeat (first | (refine A1 ⟨?_⟩; intros) | (refine Wcx (t1) ?_) | (refine Wdcx (t1) ?_) | (refine Wcgx (t1) ?_) | (refine Wdcgx (t1) ?_) | (refine Wcx (t2) ?_) | (refine Wdcx (t2) ?_) | (refine Wcgx (t2) ?_) | (refine Wdcgx (t2) ?_) | (refine Wcx (p) ?_) | (refine Wdcx (p) ?_) | (refine Wcgx (p) ?_) | (refine Wdcgx (p) ?_))
  ((first | refine endR ?_ | refine endN ?_); refine end1 (RV.cellA rfl (by (first | exact List.mem_cons_self | exact (List.mem_cons_of_mem _ List.mem_cons_self) | exact (List.mem_cons_of_mem _ (List.mem_cons_of_mem _ List.mem_cons_self)) | exact (List.mem_cons_of_mem _ (List.mem_cons_of_mem _ (List.mem_cons_of_mem _ List.mem_cons_self))) | exact (List.mem_cons_of_mem _ (List.mem_cons_of_mem _ (List.mem_cons_of_mem _ (List.mem_cons_of_mem _ List.mem_cons_self)))) | exact (List.mem_cons_of_mem _ (List.mem_cons_of_mem _ (List.mem_cons_of_mem _ (List.mem_cons_of_mem _ (List.mem_cons_of_mem _ List.mem_cons_self))))) | exact (List.mem_cons_of_mem _ (List.mem_cons_of_mem _ (List.mem_cons_of_mem _ (List.mem_cons_of_mem _ (List.mem_cons_of_mem _ (List.mem_cons_of_mem _ List.mem_cons_self)))))) | exact (List.mem_cons_of_mem _ (List.mem_cons_of_mem _ (List.mem_cons_of_mem _ (List.mem_cons_of_mem _ (List.mem_cons_of_mem _ (List.mem_cons_of_mem _ (List.mem_cons_of_mem _ List.mem_cons_self))))))))) (by (first | (simp only [List.drop_succ_cons, List.drop_zero, List.drop_nil, List.take_succ_cons, List.take_zero, List.take_nil, Nat.zero_add, Nat.add_zero, Nat.reduceAdd]; done) | (simp only [List.drop_succ_cons, List.drop_zero, List.drop_nil, List.take_succ_cons, List.take_zero, List.take_nil, Nat.zero_add, Nat.add_zero, Nat.reduceAdd]; exact rfl) | exact rfl)) rfl) (Le.refl _))
theorem rcross_pu (x y u v : Rat) (hx : ht x ≤ 100000) (hy : ht y ≤ 100000) (hu : ht u ≤ 100000) (hv : ht v ≤ 100000) : Pu Tryz.prog 47 [rp x y, rp u v] (rq (x * v - y * u)) := by
  have h1 := ht_mul x v
  have h2 := ht_mul y u
  have t1 := rtimes_pu x v (by omega) (by omega)
  have t2 := rtimes_pu y u (by omega) (by omega)
  have p := rqsub_pu (x * v) (y * u) (by omega) (by omega)
  refine Pu.intro Tryz.func47 rfl (by kernel_rfl) fun C => ?_
  repeat (first | (refine A1 ⟨?_⟩; intros) | (refine Wcx (t1) ?_) | (refine Wdcx (t1) ?_) | (refine Wcgx (t1) ?_) | (refine Wdcgx (t1) ?_) | (refine Wcx (t2) ?_) | (refine Wdcx (t2) ?_) | (refine Wcgx (t2) ?_) | (refine Wdcgx (t2) ?_) | (refine Wcx (p) ?_) | (refine Wdcx (p) ?_) | (refine Wcgx (p) ?_) | (refine Wdcgx (p) ?_))
  ((first | refine endR ?_ | refine endN ?_); refine end1 (RV.cellA rfl (by (first | exact List.mem_cons_self | exact (List.mem_cons_of_mem _ List.mem_cons_self) | exact (List.mem_cons_of_mem _ (List.mem_cons_of_mem _ List.mem_cons_self)) | exact (List.mem_cons_of_mem _ (List.mem_cons_of_mem _ (List.mem_cons_of_mem _ List.mem_cons_self))) | exact (List.mem_cons_of_mem _ (List.mem_cons_of_mem _ (List.mem_cons_of_mem _ (List.mem_cons_of_mem _ List.mem_cons_self)))) | exact (List.mem_cons_of_mem _ (List.mem_cons_of_mem _ (List.mem_cons_of_mem _ (List.mem_cons_of_mem _ (List.mem_cons_of_mem _ List.mem_cons_self))))) | exact (List.mem_cons_of_mem _ (List.mem_cons_of_mem _ (List.mem_cons_of_mem _ (List.mem_cons_of_mem _ (List.mem_cons_of_mem _ (List.mem_cons_of_mem _ List.mem_cons_self)))))) | exact (List.mem_cons_of_mem _ (List.mem_cons_of_mem _ (List.mem_cons_of_mem _ (List.mem_cons_of_mem _ (List.mem_cons_of_mem _ (List.mem_cons_of_mem _ (List.mem_cons_of_mem _ List.mem_cons_self))))))))) (by (first | (simp only [List.drop_succ_cons, List.drop_zero, List.drop_nil, List.take_succ_cons, List.take_zero, List.take_nil, Nat.zero_add, Nat.add_zero, Nat.reduceAdd]; done) | (simp only [List.drop_succ_cons, List.drop_zero, List.drop_nil, List.take_succ_cons, List.take_zero, List.take_nil, Nat.zero_add, Nat.add_zero, Nat.reduceAdd]; exact rfl) | exact rfl)) rfl) (Le.refl _))
theorem mul_dens {a : Rat} (m : Nat) {n : Nat} (h : n = a.den * m) : a * ((n : Int) : Rat) = ((a.num * m : Int) : Rat) := by
  subst h
  have h1 : a * (a.den : Rat) = (a.num : Rat) := by
    conv => lhs; lhs; rw [← Rat.mkRat_self a]
    rw [show (a.den : Rat) = mkRat (a.den : Int) 1 from (Rat.mkRat_one _).symm, Rat.mkRat_mul_mkRat, Nat.mul_one]
    have := Rat.mkRat_mul_right (n := a.num) (d := 1) a.den_nz
    rw [Nat.one_mul] at this
    rw [this, Rat.mkRat_one]
  rw [show (((a.den * m : Nat) : Int) : Rat) = (a.den : Rat) * (m : Rat) from by push_cast; rfl, ← Rat.mul_assoc, h1]
  push_cast
  rfl
theorem leRaw (m : Nat) : LeL [ag [lit (.bool false), nat m, lit (.slice none 0 0)]] [rq ((m : Int) : Rat)] := by
  rw [rq_int]
  refine ⟨Le.ag ⟨?_, ?_, le_nil, trivial⟩, trivial⟩
  · rw [decide_eq_false (by omega)]; exact Le.refl _
  · rw [Int.natAbs_natCast]; exact Le.refl _
set_option maxHeartbeats 1000000 in
theorem through_pu {x y u v : Rat} {L : Nat} (hL : L ≤ 10000) (hx : ht x ≤ L) (hy : ht y ≤ L) (hu : ht u ≤ L) (hv : ht v ≤ L) (h : u - x ≠ 0 ∨ v - y ≠ 0) : Pu Tryz.prog 168 [rp x y, rp u v] (Ab.tup [lq (thr x y u v), lit (.bool true)]) := by
  have s := rsub_pt u v x y (by omega) (by omega) (by omega) (by omega)
  have k1 := ht_sub u x
  have k2 := ht_sub v y
  have k3 := ht_neg (v - y)
  have n1 := ropp_pu (v - y) (by omega)
  have k4 := ht_mul (-(v - y)) x
  have k5 := ht_mul (u - x) y
  have t1 := rtimes_pu (-(v - y)) x (by omega) (by omega)
  have t2 := rtimes_pu (u - x) y (by omega) (by omega)
  have k6 := ht_add (-(v - y) * x) ((u - x) * y)
  have p1 := rplus_pu (-(v - y) * x) ((u - x) * y) (by omega) (by omega)
  have n2 := ropp_pu (-(v - y) * x + (u - x) * y) (by omega)
  have k7 := ht_neg (-(v - y) * x + (u - x) * y)
  have hab : -(v - y) ≠ 0 ∨ u - x ≠ 0 := by
    rcases h with h | h
    · exact .inr h
    · exact .inl fun e => h (by rw [← Rat.neg_neg (v - y), e]; rfl)
  unfold thr
  generalize -(v - y) = a at *
  generalize u - x = b at *
  generalize -(a * x + b * y) = c at *
  have e1 := rden_pu a
  have e2 := rden_pu b
  have e3 := rden_pu c
  have l1 := ht_den a
  have l2 := ht_den b
  have l3 := ht_den c
  have l4 := dlen_mul a.den b.den
  have l5 := dlen_mul (a.den * b.den) c.den
  have q1 := rprod_pu a.den b.den (by omega) (by omega)
  have q2 := rprod_pu (a.den * b.den) c.den (by omega) (by omega)
  have m1 := rmake_pu false (a.den * b.den * c.den) (by omega)
  rw [sv_nat, int_nat] at m1
  obtain ⟨m, hm⟩ : ∃ m, m = a.den * b.den * c.den := ⟨_, rfl⟩
  have fa := mul_dens (a := a) (b.den * c.den) (n := m) (by rw [hm, Nat.mul_assoc])
  have fb := mul_dens (a := b) (a.den * c.den) (n := m) (by rw [hm, Nat.mul_comm a.den, Nat.mul_assoc])
  have fc := mul_dens (a := c) (a.den * b.den) (n := m) (by rw [hm, Nat.mul_comm])
  have hmp : (0 : Rat) < ((m : Int) : Rat) := by
    have : 0 < m := by rw [hm]; exact Nat.mul_pos (Nat.mul_pos a.den_pos b.den_pos) c.den_pos
    exact_mod_cast this
  rw [← hm] at q2 m1 l5
  have hmh : ht ((m : Int) : Rat) ≤ max (dgs m).length 1 := by rw [ht_of_int]; exact Nat.le_refl _
  have g1 := (rtimes_pu a ((m : Int) : Rat) (by omega) (by omega)).arg (l' := [rq a, ag [lit (.bool false), nat m, lit (.slice none 0 0)]]) ⟨Le.refl _, leRaw m⟩
  have g2 := (rtimes_pu b ((m : Int) : Rat) (by omega) (by omega)).arg (l' := [rq b, ag [lit (.bool false), nat m, lit (.slice none 0 0)]]) ⟨Le.refl _, leRaw m⟩
  have g3 := (rtimes_pu c ((m : Int) : Rat) (by omega) (by omega)).arg (l' := [rq c, ag [lit (.bool false), nat m, lit (.slice none 0 0)]]) ⟨Le.refl _, leRaw m⟩
  have o1 := ht_mul a ((m : Int) : Rat)
  have o2 := ht_mul b ((m : Int) : Rat)
  have o3 := ht_mul c ((m : Int) : Rat)
  have ep : prim a b c = prim (((m : Int) : Rat) * a) (((m : Int) : Rat) * b) (((m : Int) : Rat) * c) := (prim_mul _ _ _ _ hmp).symm
  rw [Rat.mul_comm _ a, Rat.mul_comm _ b, Rat.mul_comm _ c] at ep
  have hne : a * ((m : Int) : Rat) ≠ 0 ∨ b * ((m : Int) : Rat) ≠ 0 := by
    have h0 : ((m : Int) : Rat) ≠ 0 := fun e => by rw [e] at hmp; exact absurd hmp (by decide)
    rcases hab with h | h
    · exact .inl fun e => by rcases Rat.mul_eq_zero.1 e with e | e; exact h e; exact h0 e
    · exact .inr fun e => by rcases Rat.mul_eq_zero.1 e with e | e; exact h e; exact h0 e
  rw [fa] at g1 o1
  rw [fb] at g2 o2
  rw [fc] at g3 o3
  rw [fa, fb, fc] at ep
  rw [fa, fb] at hne
  rw [ep]
  clear fa fb fc ep hmp hab h hm
  generalize a.num * ((b.den * c.den : Nat) : Int) = A at *
  generalize b.num * ((a.den * c.den : Nat) : Int) = B at *
  generalize c.num * ((a.den * b.den : Nat) : Int) = C' at *
  rw [ht_of_int] at o1 o2 o3
  have hne' : A ≠ 0 ∨ B ≠ 0 := by
    rcases hne with h | h
    · exact .inl fun e => h (by rw [e]; rfl)
    · exact .inr fun e => h (by rw [e]; rfl)
  have mk := rmakeL_pu C' (a := A) (b := B) (by omega) (by omega) (by omega) hne'
  simp only [rq_int] at g1 g2 g3
  generalize prim (A : Rat) (B : Rat) (C' : Rat) = r at *
  clear o1 o2 o3 hmh k1 k2 k3 k4 k5 k6 k7 l1 l2 l3 l4 l5 hne hne' hx hy hu hv
  refine Pu.intro Tryz.func168 rfl (by kernel_rfl) fun C => ?_
  repeat (first | (refine AS ⟨?_⟩; intros) | (refine O1 ⟨?_⟩; intros) | (refine Wcx (s) ?_) | (refine Wcgx (s) ?_) | (refine Wcx (n1) ?_) | (refine Wcgx (n1) ?_))
  refine WdL 7 1 ?_
  repeat (first | (refine A1 ⟨?_⟩; intros) | (refine Wcx (n1) ?_) | (refine Wdcx (n1) ?_) | (refine Wcgx (n1) ?_) | (refine Wdcgx (n1) ?_))
  refine dL2 fun b7 b8 => ?_
  refine Gs (sv := rq a) (cs' := [lit (.bool (decide (a.num < 0))), nat a.num.natAbs, dg (dden a.den)]) rfl rfl rfl (by first | exact .here _ | exact .there _ (.here _)) rfl rfl ?_ ?_
  · (repeat (first | exact LOk.nil | refine Lsk ?_ | refine Lcv ?_))
  refine Gn ?_ ?_
  · (repeat (first | exact LOk.nil | refine Lsk ?_ | refine Lcv ?_))
  repeat (first | (refine A1 ⟨?_⟩; intros) | (refine Wo (ov_fieldA rfl rfl (by kernel_rfl) rfl) ?_) | (refine Wdo (ov_fieldA rfl rfl (by kernel_rfl) rfl) ?_) | (refine Wcx (s) ?_) | (refine Wdcx (s) ?_) | (refine Wcgx (s) ?_) | (refine Wdcgx (s) ?_) | (refine Wcx (n1) ?_) | (refine Wdcx (n1) ?_) | (refine Wcgx (n1) ?_) | (refine Wdcgx (n1) ?_) | (refine Wcx (t1) ?_) | (refine Wdcx (t1) ?_) | (refine Wcgx (t1) ?_) | (refine Wdcgx (t1) ?_) | (refine Wcx (t2) ?_) | (refine Wdcx (t2) ?_) | (refine Wcgx (t2) ?_) | (refine Wdcgx (t2) ?_) | (refine Wcx (p1) ?_) | (refine Wdcx (p1) ?_) | (refine Wcgx (p1) ?_) | (refine Wdcgx (p1) ?_) | (refine Wcx (n2) ?_) | (refine Wdcx (n2) ?_) | (refine Wcgx (n2) ?_) | (refine Wdcgx (n2) ?_) | (refine Wcx (e1) ?_) | (refine Wdcx (e1) ?_) | (refine Wcgx (e1) ?_) | (refine Wdcgx (e1) ?_) | (refine Wcx (e2) ?_) | (refine Wdcx (e2) ?_) | (refine Wcgx (e2) ?_) | (refine Wdcgx (e2) ?_) | (refine Wcx (e3) ?_) | (refine Wdcx (e3) ?_) | (refine Wcgx (e3) ?_) | (refine Wdcgx (e3) ?_) | (refine Wcx (q1) ?_) | (refine Wdcx (q1) ?_) | (refine Wcgx (q1) ?_) | (refine Wdcgx (q1) ?_) | (refine Wcx (q2) ?_) | (refine Wdcx (q2) ?_) | (refine Wcgx (q2) ?_) | (refine Wdcgx (q2) ?_) | (refine Wcx (m1) ?_) | (refine Wdcx (m1) ?_) | (refine Wcgx (m1) ?_) | (refine Wdcgx (m1) ?_) | (refine Wcx (g1) ?_) | (refine Wdcx (g1) ?_) | (refine Wcgx (g1) ?_) | (refine Wdcgx (g1) ?_) | (refine Wcx (g2) ?_) | (refine Wdcx (g2) ?_) | (refine Wcgx (g2) ?_) | (refine Wdcgx (g2) ?_) | (refine Wcx (g3) ?_) | (refine Wdcx (g3) ?_) | (refine Wcgx (g3) ?_) | (refine Wdcgx (g3) ?_) | (refine Wcx (mk) ?_) | (refine Wdcx (mk) ?_) | (refine Wcgx (mk) ?_) | (refine Wdcgx (mk) ?_))
  ((first | refine endR ?_ | refine endN ?_); exact end2 (RV.cellA rfl (by (first | exact List.mem_cons_self | exact (List.mem_cons_of_mem _ List.mem_cons_self) | exact (List.mem_cons_of_mem _ (List.mem_cons_of_mem _ List.mem_cons_self)) | exact (List.mem_cons_of_mem _ (List.mem_cons_of_mem _ (List.mem_cons_of_mem _ List.mem_cons_self))) | exact (List.mem_cons_of_mem _ (List.mem_cons_of_mem _ (List.mem_cons_of_mem _ (List.mem_cons_of_mem _ List.mem_cons_self)))) | exact (List.mem_cons_of_mem _ (List.mem_cons_of_mem _ (List.mem_cons_of_mem _ (List.mem_cons_of_mem _ (List.mem_cons_of_mem _ List.mem_cons_self))))) | exact (List.mem_cons_of_mem _ (List.mem_cons_of_mem _ (List.mem_cons_of_mem _ (List.mem_cons_of_mem _ (List.mem_cons_of_mem _ (List.mem_cons_of_mem _ List.mem_cons_self)))))) | exact (List.mem_cons_of_mem _ (List.mem_cons_of_mem _ (List.mem_cons_of_mem _ (List.mem_cons_of_mem _ (List.mem_cons_of_mem _ (List.mem_cons_of_mem _ (List.mem_cons_of_mem _ List.mem_cons_self))))))))) (by (first | (simp only [List.drop_succ_cons, List.drop_zero, List.drop_nil, List.take_succ_cons, List.take_zero, List.take_nil, Nat.zero_add, Nat.add_zero, Nat.reduceAdd]; done) | (simp only [List.drop_succ_cons, List.drop_zero, List.drop_nil, List.take_succ_cons, List.take_zero, List.take_nil, Nat.zero_add, Nat.add_zero, Nat.reduceAdd]; exact rfl) | exact rfl)) rfl) (RV.tmp rfl) (Le.refl _))
end Go.Ab
/- Values of which only the kind is known, in regions that draw their order. -/
namespace Go.Ab
open Go.Proofs
set_option linter.unusedSectionVars false
set_option linter.unusedVariables false
set_option linter.unusedSimpArgs false
variable [Base]
section
variable {P : Program} {F : Fr} {H : LH} {ty : TypeId}
theorem ArgsOk.exAt {m : Mem} {α : Type} {g : α → SV} : ∀ {pre post : List SV} {vs : List Value}, ArgsOk m (pre ++ ex g :: post) vs → ∃ x, ArgsOk m (pre ++ g x :: post) vs
  | [], _, [], h => h.elim
  | [], _, v :: vs, h => by
    have h1 := h.1
    unfold ex at h1
    obtain ⟨x, hx⟩ := h1
    exact ⟨x, hx, h.2⟩
  | _ :: _, _, [], h => h.elim
  | s :: pre, post, v :: vs, h => by
    obtain ⟨x, hx⟩ := ArgsOk.exAt (pre := pre) (post := post) h.2
    exact ⟨x, h.1, hx⟩
theorem ex_mk {α : Type} {m : Mem} {v : Value} {g : α → SV} (x : α) (h : (g x).p m v) : (ex g).p m v := by unfold ex; exact ⟨x, h⟩
theorem Le.exL {α : Type} {g : α → SV} {s : SV} (h : ∀ x, Le (g x) s) : Le (Ab.ex g) s := fun m v hv => by
  unfold Ab.ex at hv
  obtain ⟨x, hx⟩ := hv
  exact h x m v hx
/-- a function over a value of which only the kind is known -/
theorem Pu.exAt {f : FuncId} {α : Type} (pre post : List SV) {g r : α → SV} (x0 : α) (h : ∀ x, Pu P f (pre ++ g x :: post) (r x)) : Pu P f (pre ++ ex g :: post) (ex r) := by
  unfold Pu at *
  exact ⟨(h x0).1, fun m w vs hm ha => by
    obtain ⟨x, hx⟩ := ha.exAt
    exact ((h x).2 m w vs hm hx).mono fun _ _ ⟨v, m', e, hp, k⟩ => ⟨v, m', e, ex_mk x hp, k⟩⟩
/-- .. that makes no difference to the result -/
theorem Pu.exAt' {f : FuncId} {α : Type} (pre post : List SV) {g : α → SV} {r : SV} (x0 : α) (h : ∀ x, Pu P f (pre ++ g x :: post) r) : Pu P f (pre ++ ex g :: post) r := by
  unfold Pu at *
  exact ⟨(h x0).1, fun m w vs hm ha => by
    obtain ⟨x, hx⟩ := ha.exAt
    exact (h x).2 m w vs hm hx⟩
theorem OpV.mono' {op : Op} {s s' : SV} (h : OpV P op ty F H s) (k : Le s s') : OpV P op ty F H s' := by
  unfold OpV at *
  exact fun m w o a ho hty h1 h2 h3 K Q hK => h m w o a ho hty h1 h2 h3 K Q fun v m' w' hp => hK v m' w' (k _ _ hp)
theorem OpV.exc {op : Op} {α : Type} (t : Nat) {f : α → SV} {s : SV} (x0 : α) (hf : F t = ex f) (h : ∀ x, OpV P op ty (upd F t (f x)) H s) : OpV P op ty F H s := by
    unfold OpV at *
    intro m w o a ho hty h1 h2 h3 K Q hK
    have key : ∃ x : α, (.tmp t ∈ op.operands → (f x).p m (a.eval (.tmp t))) := by
      by_cases ht : .tmp t ∈ op.operands
      · have h0 := h3 t ht
        rw [hf] at h0
        unfold ex at h0
        obtain ⟨x, hx⟩ := h0
        exact ⟨x, fun _ => hx⟩
      · exact ⟨x0, fun k => (ht k).elim⟩
    obtain ⟨x, hx⟩ := key
    refine h x m w o a ho hty h1 h2 (fun t' ht' => ?_) K Q hK
    by_cases e : t' = t
    · subst e; rw [upd_eq]; exact hx ht'
    · rw [upd_ne e]; exact h3 t' ht'
/-- an operation over a value of which only the kind is known -/
theorem OpV.exd {op : Op} {α : Type} (t : Nat) {f g : α → SV} (x0 : α) (hf : F t = ex f) (h : ∀ x, OpV P op ty (upd F t (f x)) H (g x)) : OpV P op ty F H (ex g) :=
  OpV.exc t x0 hf fun x => (h x).mono' fun _ _ hp => ex_mk x hp
end
end Go.Ab
/- The scenes' tape: points, vectors, lines, trees. -/
namespace Go.Ab
open Go.Proofs
set_option linter.unusedSectionVars false
set_option linter.unusedVariables false
set_option linter.unusedSimpArgs false
variable [Base]
theorem rsame_pu (x y u v : Rat) (hx : ht x ≤ 3000000) (hy : ht y ≤ 3000000) (hu : ht u ≤ 3000000) (hv : ht v ≤ 3000000) : Pu Tryz.prog 49 [rp x y, rp u v] (lit (.bool (decide (x = u ∧ y = v)))) := by
  have c1 := rc_pu x u hx hu
  have c2 := rc_pu y v hy hv
  have e1 := sub_sign_zero (x := x) (y := u)
  have e2 := sub_sign_zero (x := y) (y := v)
  generalize (x - u).num.sign = s at *
  generalize (y - v).num.sign = t at *
  clear hx hy hu hv
  by_cases h1 : x = u
  · have hs := e1.2 h1
    by_cases h2 : y = v
    · have ht := e2.2 h2
      rw [decide_eq_true ⟨h1, h2⟩]
      clear e1 e2
      subst hs ht
      refine Pu.intro Tryz.func49 rfl (by kernel_rfl) fun C => ?_
      repeat (first | (refine A1 ⟨?_⟩; intros) | (refine Wcx (c1) ?_) | (refine Wdcx (c1) ?_) | (refine Wcgx (c1) ?_) | (refine Wdcgx (c1) ?_) | (refine Wcx (c2) ?_) | (refine Wdcx (c2) ?_) | (refine Wcgx (c2) ?_) | (refine Wdcgx (c2) ?_))
      ((first | refine endR ?_ | refine endN ?_); exact end1 (RV.tmp rfl) (Le.refl _))
    · have ht : t ≠ 0 := fun e => h2 (e2.1 e)
      rw [decide_eq_false (fun h => h2 h.2)]
      clear e1 e2
      subst hs
      refine Pu.intro Tryz.func49 rfl (by kernel_rfl) fun C => ?_
      repeat (first | (refine A1 ⟨?_⟩; intros) | (refine Wcx (c1) ?_) | (refine Wdcx (c1) ?_) | (refine Wcgx (c1) ?_) | (refine Wdcgx (c1) ?_) | (refine Wcx (c2) ?_) | (refine Wdcx (c2) ?_) | (refine Wcgx (c2) ?_) | (refine Wdcgx (c2) ?_))
      ((first | refine endR ?_ | refine endN ?_); exact end1 (RV.tmp rfl) (Le.refl _))
  · have hs : s ≠ 0 := fun e => h1 (e1.1 e)
    rw [decide_eq_false (fun h => h1 h.1)]
    clear e1 e2
    refine Pu.intro Tryz.func49 rfl (by kernel_rfl) fun C => ?_
    repeat (first | (refine A1 ⟨?_⟩; intros) | (refine Wcx (c1) ?_) | (refine Wdcx (c1) ?_) | (refine Wcgx (c1) ?_) | (refine Wdcgx (c1) ?_) | (refine Wcx (c2) ?_) | (refine Wdcx (c2) ?_) | (refine Wcgx (c2) ?_) | (refine Wdcgx (c2) ?_))
    ((first | refine endR ?_ | refine endN ?_); exact end1 (RV.tmp rfl) (Le.refl _))
/-- a point with small integer coordinates -/
abbrev intP : SV := ex fun p : { p : Int × Int // p.1.natAbs ≤ 4 ∧ p.2.natAbs ≤ 4 } => rp (p.1.1 : Rat) (p.1.2 : Rat)
/-- such a vector other than 0 -/
abbrev intV : SV := ex fun p : { p : Int × Int // (p.1.natAbs ≤ 4 ∧ p.2.natAbs ≤ 4) ∧ (p.1 ≠ 0 ∨ p.2 ≠ 0) } => rp (p.1.1 : Rat) (p.1.2 : Rat)
theorem tp_pu (zs : List Int) (hz : zs.length ≤ 400) : PuT 41 zs [] intP := by
  refine PuM.intro Tryz.func41 rfl (by kernel_rfl) fun C b => ?_
  repeat (refine A1 ⟨?_⟩; intros)
  refine Wtx (next_pu zs hz 9 (by omega) (by omega)) (by (first | exact List.mem_cons_self | exact (List.mem_cons_of_mem _ List.mem_cons_self) | exact (List.mem_cons_of_mem _ (List.mem_cons_of_mem _ List.mem_cons_self)) | exact (List.mem_cons_of_mem _ (List.mem_cons_of_mem _ (List.mem_cons_of_mem _ List.mem_cons_self))) | exact (List.mem_cons_of_mem _ (List.mem_cons_of_mem _ (List.mem_cons_of_mem _ (List.mem_cons_of_mem _ List.mem_cons_self)))) | exact (List.mem_cons_of_mem _ (List.mem_cons_of_mem _ (List.mem_cons_of_mem _ (List.mem_cons_of_mem _ (List.mem_cons_of_mem _ List.mem_cons_self))))) | exact (List.mem_cons_of_mem _ (List.mem_cons_of_mem _ (List.mem_cons_of_mem _ (List.mem_cons_of_mem _ (List.mem_cons_of_mem _ (List.mem_cons_of_mem _ List.mem_cons_self)))))) | exact (List.mem_cons_of_mem _ (List.mem_cons_of_mem _ (List.mem_cons_of_mem _ (List.mem_cons_of_mem _ (List.mem_cons_of_mem _ (List.mem_cons_of_mem _ (List.mem_cons_of_mem _ List.mem_cons_self))))))))) fun x => ?_
  obtain ⟨x, hx⟩ := x
  simp only []
  repeat (refine A1 ⟨?_⟩; intros)
  refine Wtx (next_pu zs hz 9 (by omega) (by omega)) (by (first | exact List.mem_cons_self | exact (List.mem_cons_of_mem _ List.mem_cons_self) | exact (List.mem_cons_of_mem _ (List.mem_cons_of_mem _ List.mem_cons_self)) | exact (List.mem_cons_of_mem _ (List.mem_cons_of_mem _ (List.mem_cons_of_mem _ List.mem_cons_self))) | exact (List.mem_cons_of_mem _ (List.mem_cons_of_mem _ (List.mem_cons_of_mem _ (List.mem_cons_of_mem _ List.mem_cons_self)))) | exact (List.mem_cons_of_mem _ (List.mem_cons_of_mem _ (List.mem_cons_of_mem _ (List.mem_cons_of_mem _ (List.mem_cons_of_mem _ List.mem_cons_self))))) | exact (List.mem_cons_of_mem _ (List.mem_cons_of_mem _ (List.mem_cons_of_mem _ (List.mem_cons_of_mem _ (List.mem_cons_of_mem _ (List.mem_cons_of_mem _ List.mem_cons_self)))))) | exact (List.mem_cons_of_mem _ (List.mem_cons_of_mem _ (List.mem_cons_of_mem _ (List.mem_cons_of_mem _ (List.mem_cons_of_mem _ (List.mem_cons_of_mem _ (List.mem_cons_of_mem _ List.mem_cons_self))))))))) fun y => ?_
  obtain ⟨y, hy⟩ := y
  simp only []
  repeat (first | (refine A1 ⟨?_⟩; intros) | (refine Wcx (xy_pu ((x : Int) - 4) ((y : Int) - 4) (by omega) (by omega) (by omega) (by omega)) ?_) | (refine Wdcx (xy_pu ((x : Int) - 4) ((y : Int) - 4) (by omega) (by omega) (by omega) (by omega)) ?_) | (refine Wcgx (xy_pu ((x : Int) - 4) ((y : Int) - 4) (by omega) (by omega) (by omega) (by omega)) ?_) | (refine Wdcgx (xy_pu ((x : Int) - 4) ((y : Int) - 4) (by omega) (by omega) (by omega) (by omega)) ?_))
  exact endMR () _ (end1 (RV.cellA rfl (by (first | exact List.mem_cons_self | exact (List.mem_cons_of_mem _ List.mem_cons_self) | exact (List.mem_cons_of_mem _ (List.mem_cons_of_mem _ List.mem_cons_self)) | exact (List.mem_cons_of_mem _ (List.mem_cons_of_mem _ (List.mem_cons_of_mem _ List.mem_cons_self))) | exact (List.mem_cons_of_mem _ (List.mem_cons_of_mem _ (List.mem_cons_of_mem _ (List.mem_cons_of_mem _ List.mem_cons_self)))) | exact (List.mem_cons_of_mem _ (List.mem_cons_of_mem _ (List.mem_cons_of_mem _ (List.mem_cons_of_mem _ (List.mem_cons_of_mem _ List.mem_cons_self))))) | exact (List.mem_cons_of_mem _ (List.mem_cons_of_mem _ (List.mem_cons_of_mem _ (List.mem_cons_of_mem _ (List.mem_cons_of_mem _ (List.mem_cons_of_mem _ List.mem_cons_self)))))) | exact (List.mem_cons_of_mem _ (List.mem_cons_of_mem _ (List.mem_cons_of_mem _ (List.mem_cons_of_mem _ (List.mem_cons_of_mem _ (List.mem_cons_of_mem _ (List.mem_cons_of_mem _ List.mem_cons_self))))))))) rfl rfl) (Le.ex ⟨((x : Int) - 4, (y : Int) - 4), by simp only; omega, by simp only; omega⟩ (Le.refl _))) (by (first | exact List.mem_cons_self | exact (List.mem_cons_of_mem _ List.mem_cons_self) | exact (List.mem_cons_of_mem _ (List.mem_cons_of_mem _ List.mem_cons_self)) | exact (List.mem_cons_of_mem _ (List.mem_cons_of_mem _ (List.mem_cons_of_mem _ List.mem_cons_self))) | exact (List.mem_cons_of_mem _ (List.mem_cons_of_mem _ (List.mem_cons_of_mem _ (List.mem_cons_of_mem _ List.mem_cons_self)))) | exact (List.mem_cons_of_mem _ (List.mem_cons_of_mem _ (List.mem_cons_of_mem _ (List.mem_cons_of_mem _ (List.mem_cons_of_mem _ List.mem_cons_self))))) | exact (List.mem_cons_of_mem _ (List.mem_cons_of_mem _ (List.mem_cons_of_mem _ (List.mem_cons_of_mem _ (List.mem_cons_of_mem _ (List.mem_cons_of_mem _ List.mem_cons_self)))))) | exact (List.mem_cons_of_mem _ (List.mem_cons_of_mem _ (List.mem_cons_of_mem _ (List.mem_cons_of_mem _ (List.mem_cons_of_mem _ (List.mem_cons_of_mem _ (List.mem_cons_of_mem _ List.mem_cons_self))))))))) (LeL.refl _)
theorem ht_i (z : Int) (h : z.natAbs ≤ 1000) : ht (z : Rat) ≤ 1 := ht_int z (by omega)
theorem leZP : LeL [ag [lit (.bool false), lit (.slice none 0 0), lit (.slice none 0 0), lit (.bool false), lit (.slice none 0 0), lit (.slice none 0 0)]] [rp 0 0] :=
  ⟨Le.ag (by repeat (first | exact trivial | refine ⟨?_, ?_⟩ | exact Le.refl _ | exact leN0 | exact leD0)), trivial⟩
theorem int_zero {z : Int} : ((z : Rat) = 0) ↔ z = 0 := by constructor <;> intro h <;> exact_mod_cast h
theorem tv_pu (zs : List Int) (hz : zs.length ≤ 400) : PuT 44 zs [] intV := by
  refine PuM.intro Tryz.func44 rfl (by kernel_rfl) fun C b => ?_
  repeat (refine A1 ⟨?_⟩; intros)
  refine Wtx (tp_pu zs hz) (by (first | exact List.mem_cons_self | exact (List.mem_cons_of_mem _ List.mem_cons_self) | exact (List.mem_cons_of_mem _ (List.mem_cons_of_mem _ List.mem_cons_self)) | exact (List.mem_cons_of_mem _ (List.mem_cons_of_mem _ (List.mem_cons_of_mem _ List.mem_cons_self))) | exact (List.mem_cons_of_mem _ (List.mem_cons_of_mem _ (List.mem_cons_of_mem _ (List.mem_cons_of_mem _ List.mem_cons_self)))) | exact (List.mem_cons_of_mem _ (List.mem_cons_of_mem _ (List.mem_cons_of_mem _ (List.mem_cons_of_mem _ (List.mem_cons_of_mem _ List.mem_cons_self))))) | exact (List.mem_cons_of_mem _ (List.mem_cons_of_mem _ (List.mem_cons_of_mem _ (List.mem_cons_of_mem _ (List.mem_cons_of_mem _ (List.mem_cons_of_mem _ List.mem_cons_self)))))) | exact (List.mem_cons_of_mem _ (List.mem_cons_of_mem _ (List.mem_cons_of_mem _ (List.mem_cons_of_mem _ (List.mem_cons_of_mem _ (List.mem_cons_of_mem _ (List.mem_cons_of_mem _ List.mem_cons_self))))))))) fun p => ?_
  obtain ⟨⟨x, y⟩, hx, hy⟩ := p
  simp only at hx hy
  simp only []
  have h0 := ht_zero
  have hx' := ht_i x (by omega)
  have hy' := ht_i y (by omega)
  have c1 := (rsame_pu x y 0 0 (by omega) (by omega) (by omega) (by omega)).arg (l' := [rp x y, ag [lit (.bool false), lit (.slice none 0 0), lit (.slice none 0 0), lit (.bool false), lit (.slice none 0 0), lit (.slice none 0 0)]]) ⟨Le.refl _, leZP⟩
  have c2 := xy_pu 1 0 (by omega) (by omega) (by omega) (by omega)
  by_cases h : x = 0 ∧ y = 0
  · rw [decide_eq_true (show (x : Rat) = 0 ∧ (y : Rat) = 0 from ⟨int_zero.2 h.1, int_zero.2 h.2⟩)] at c1
    clear h hx' hy' h0
    repeat (first | (refine A1 ⟨?_⟩; intros) | (refine Wcx (c1) ?_) | (refine Wdcx (c1) ?_) | (refine Wcgx (c1) ?_) | (refine Wdcgx (c1) ?_) | (refine Wcx (c2) ?_) | (refine Wdcx (c2) ?_) | (refine Wcgx (c2) ?_) | (refine Wdcgx (c2) ?_))
    exact endMR () _ (end1 (RV.cellA rfl (by (first | exact List.mem_cons_self | exact (List.mem_cons_of_mem _ List.mem_cons_self) | exact (List.mem_cons_of_mem _ (List.mem_cons_of_mem _ List.mem_cons_self)) | exact (List.mem_cons_of_mem _ (List.mem_cons_of_mem _ (List.mem_cons_of_mem _ List.mem_cons_self))) | exact (List.mem_cons_of_mem _ (List.mem_cons_of_mem _ (List.mem_cons_of_mem _ (List.mem_cons_of_mem _ List.mem_cons_self)))) | exact (List.mem_cons_of_mem _ (List.mem_cons_of_mem _ (List.mem_cons_of_mem _ (List.mem_cons_of_mem _ (List.mem_cons_of_mem _ List.mem_cons_self))))) | exact (List.mem_cons_of_mem _ (List.mem_cons_of_mem _ (List.mem_cons_of_mem _ (List.mem_cons_of_mem _ (List.mem_cons_of_mem _ (List.mem_cons_of_mem _ List.mem_cons_self)))))) | exact (List.mem_cons_of_mem _ (List.mem_cons_of_mem _ (List.mem_cons_of_mem _ (List.mem_cons_of_mem _ (List.mem_cons_of_mem _ (List.mem_cons_of_mem _ (List.mem_cons_of_mem _ List.mem_cons_self))))))))) rfl rfl) (Le.ex ⟨(1, 0), by decide, by decide⟩ (Le.refl _))) (by (first | exact List.mem_cons_self | exact (List.mem_cons_of_mem _ List.mem_cons_self) | exact (List.mem_cons_of_mem _ (List.mem_cons_of_mem _ List.mem_cons_self)) | exact (List.mem_cons_of_mem _ (List.mem_cons_of_mem _ (List.mem_cons_of_mem _ List.mem_cons_self))) | exact (List.mem_cons_of_mem _ (List.mem_cons_of_mem _ (List.mem_cons_of_mem _ (List.mem_cons_of_mem _ List.mem_cons_self)))) | exact (List.mem_cons_of_mem _ (List.mem_cons_of_mem _ (List.mem_cons_of_mem _ (List.mem_cons_of_mem _ (List.mem_cons_of_mem _ List.mem_cons_self))))) | exact (List.mem_cons_of_mem _ (List.mem_cons_of_mem _ (List.mem_cons_of_mem _ (List.mem_cons_of_mem _ (List.mem_cons_of_mem _ (List.mem_cons_of_mem _ List.mem_cons_self)))))) | exact (List.mem_cons_of_mem _ (List.mem_cons_of_mem _ (List.mem_cons_of_mem _ (List.mem_cons_of_mem _ (List.mem_cons_of_mem _ (List.mem_cons_of_mem _ (List.mem_cons_of_mem _ List.mem_cons_self))))))))) (LeL.refl _)
  · rw [decide_eq_false (show ¬((x : Rat) = 0 ∧ (y : Rat) = 0) from fun e => h ⟨int_zero.1 e.1, int_zero.1 e.2⟩)] at c1
    have hv : x ≠ 0 ∨ y ≠ 0 := by omega
    clear h hx' hy' h0
    repeat (first | (refine A1 ⟨?_⟩; intros) | (refine Wcx (c1) ?_) | (refine Wdcx (c1) ?_) | (refine Wcgx (c1) ?_) | (refine Wdcgx (c1) ?_) | (refine Wcx (c2) ?_) | (refine Wdcx (c2) ?_) | (refine Wcgx (c2) ?_) | (refine Wdcgx (c2) ?_))
    exact endMR () _ (end1 (RV.cellA rfl (by (first | exact List.mem_cons_self | exact (List.mem_cons_of_mem _ List.mem_cons_self) | exact (List.mem_cons_of_mem _ (List.mem_cons_of_mem _ List.mem_cons_self)) | exact (List.mem_cons_of_mem _ (List.mem_cons_of_mem _ (List.mem_cons_of_mem _ List.mem_cons_self))) | exact (List.mem_cons_of_mem _ (List.mem_cons_of_mem _ (List.mem_cons_of_mem _ (List.mem_cons_of_mem _ List.mem_cons_self)))) | exact (List.mem_cons_of_mem _ (List.mem_cons_of_mem _ (List.mem_cons_of_mem _ (List.mem_cons_of_mem _ (List.mem_cons_of_mem _ List.mem_cons_self))))) | exact (List.mem_cons_of_mem _ (List.mem_cons_of_mem _ (List.mem_cons_of_mem _ (List.mem_cons_of_mem _ (List.mem_cons_of_mem _ (List.mem_cons_of_mem _ List.mem_cons_self)))))) | exact (List.mem_cons_of_mem _ (List.mem_cons_of_mem _ (List.mem_cons_of_mem _ (List.mem_cons_of_mem _ (List.mem_cons_of_mem _ (List.mem_cons_of_mem _ (List.mem_cons_of_mem _ List.mem_cons_self))))))))) rfl rfl) (Le.ex ⟨(x, y), ⟨hx, hy⟩, hv⟩ (Le.refl _))) (by (first | exact List.mem_cons_self | exact (List.mem_cons_of_mem _ List.mem_cons_self) | exact (List.mem_cons_of_mem _ (List.mem_cons_of_mem _ List.mem_cons_self)) | exact (List.mem_cons_of_mem _ (List.mem_cons_of_mem _ (List.mem_cons_of_mem _ List.mem_cons_self))) | exact (List.mem_cons_of_mem _ (List.mem_cons_of_mem _ (List.mem_cons_of_mem _ (List.mem_cons_of_mem _ List.mem_cons_self)))) | exact (List.mem_cons_of_mem _ (List.mem_cons_of_mem _ (List.mem_cons_of_mem _ (List.mem_cons_of_mem _ (List.mem_cons_of_mem _ List.mem_cons_self))))) | exact (List.mem_cons_of_mem _ (List.mem_cons_of_mem _ (List.mem_cons_of_mem _ (List.mem_cons_of_mem _ (List.mem_cons_of_mem _ (List.mem_cons_of_mem _ List.mem_cons_self)))))) | exact (List.mem_cons_of_mem _ (List.mem_cons_of_mem _ (List.mem_cons_of_mem _ (List.mem_cons_of_mem _ (List.mem_cons_of_mem _ (List.mem_cons_of_mem _ (List.mem_cons_of_mem _ List.mem_cons_self))))))))) (LeL.refl _)
/-- a line with short coefficients -/
abbrev smallL : SV := ex fun l : { l : Li // l.ok ∧ l.le 1 } => lq l.1
theorem thr_int (x y u v : Int) : thr x y ((x : Rat) + 1 * u) ((y : Rat) + 1 * v) = prim ((-v : Int) : Rat) ((u : Int) : Rat) ((v * x - u * y : Int) : Rat) := by
  unfold thr
  push_cast
  congr 1 <;> grind
theorem il_le (z : Int) (h : z.natAbs ≤ 1000) : il z ≤ 1 := len_le (k := 1) (by simp; omega)
theorem mul_le4 {a b : Int} (ha : a.natAbs ≤ 4) (hb : b.natAbs ≤ 4) : (a * b).natAbs ≤ 16 := by rw [Int.natAbs_mul]; exact Nat.mul_le_mul ha hb
/-- the line through a point in a direction -/
theorem lthr_pu {x y u v : Int} (hx : x.natAbs ≤ 4) (hy : y.natAbs ≤ 4) (hu : u.natAbs ≤ 4) (hv : v.natAbs ≤ 4) (hne : u ≠ 0 ∨ v ≠ 0) :
    (∃ l : Li, l.ok ∧ l.le 1 ∧ l = thr x y ((x : Rat) + 1 * u) ((y : Rat) + 1 * v)) ∧ Pu Tryz.prog 42 [rp x y, rq 1, rp u v] (rp ((x : Rat) + 1 * u) ((y : Rat) + 1 * v)) ∧
    Pu Tryz.prog 168 [rp x y, rp ((x : Rat) + 1 * u) ((y : Rat) + 1 * v)] (Ab.tup [lq (thr x y ((x : Rat) + 1 * u) ((y : Rat) + 1 * v)), lit (.bool true)]) := by
  have hx' := ht_i x (by omega)
  have hy' := ht_i y (by omega)
  have hu' := ht_i u (by omega)
  have hv' := ht_i v (by omega)
  have h1 := ht_one
  have a := gadd_pu x y 1 u v (by omega) (by omega) (by omega) (by omega) (by omega)
  have k1 := ht_mul 1 (u : Rat)
  have k2 := ht_mul 1 (v : Rat)
  have k3 := ht_add (x : Rat) (1 * u)
  have k4 := ht_add (y : Rat) (1 * v)
  have t := through_pu (x := x) (y := y) (u := (x : Rat) + 1 * u) (v := (y : Rat) + 1 * v) (L := 10) (by omega) (by omega) (by omega) (by omega) (by omega) (by
    rw [show (x : Rat) + 1 * u - x = u from by grind, show (y : Rat) + 1 * v - y = v from by grind]
    rcases hne with h | h
    · exact .inl fun e => h (int_zero.1 e)
    · exact .inr fun e => h (int_zero.1 e))
  refine ⟨?_, a, t⟩
  rw [thr_int]
  have hne' : -v ≠ 0 ∨ u ≠ 0 := by omega
  have hm1 := mul_le4 hv hx
  have hm2 := mul_le4 hu hy
  have hok : (prim ((-v : Int) : Rat) ((u : Int) : Rat) ((v * x - u * y : Int) : Rat)).ok := prim_ok (by
    rcases hne' with h | h
    · exact .inl fun e => h (int_zero.1 e)
    · exact .inr fun e => h (int_zero.1 e))
  obtain ⟨q1, q2, q3⟩ := prim_abs (v * x - u * y) hne'
  generalize v * x = e1 at *
  generalize u * y = e2 at *
  exact ⟨_, hok, ⟨il_le _ (by omega), il_le _ (by omega), il_le _ (by omega)⟩, rfl⟩
theorem tl_pu (zs : List Int) (hz : zs.length ≤ 400) : PuT 120 zs [] smallL := by
  refine PuM.intro Tryz.func120 rfl (by kernel_rfl) fun C b => ?_
  repeat (refine A1 ⟨?_⟩; intros)
  refine Wtx (tp_pu zs hz) (by (first | exact List.mem_cons_self | exact (List.mem_cons_of_mem _ List.mem_cons_self) | exact (List.mem_cons_of_mem _ (List.mem_cons_of_mem _ List.mem_cons_self)) | exact (List.mem_cons_of_mem _ (List.mem_cons_of_mem _ (List.mem_cons_of_mem _ List.mem_cons_self))) | exact (List.mem_cons_of_mem _ (List.mem_cons_of_mem _ (List.mem_cons_of_mem _ (List.mem_cons_of_mem _ List.mem_cons_self)))) | exact (List.mem_cons_of_mem _ (List.mem_cons_of_mem _ (List.mem_cons_of_mem _ (List.mem_cons_of_mem _ (List.mem_cons_of_mem _ List.mem_cons_self))))) | exact (List.mem_cons_of_mem _ (List.mem_cons_of_mem _ (List.mem_cons_of_mem _ (List.mem_cons_of_mem _ (List.mem_cons_of_mem _ (List.mem_cons_of_mem _ List.mem_cons_self)))))) | exact (List.mem_cons_of_mem _ (List.mem_cons_of_mem _ (List.mem_cons_of_mem _ (List.mem_cons_of_mem _ (List.mem_cons_of_mem _ (List.mem_cons_of_mem _ (List.mem_cons_of_mem _ List.mem_cons_self))))))))) fun p => ?_
  obtain ⟨⟨x, y⟩, hx, hy⟩ := p
  simp only at hx hy
  simp only []
  have x0 : { p : Int × Int // (p.1.natAbs ≤ 4 ∧ p.2.natAbs ≤ 4) ∧ (p.1 ≠ 0 ∨ p.2 ≠ 0) } := ⟨(1, 0), by decide, by decide⟩
  repeat (first | (refine A1 ⟨?_⟩; intros) | (refine Wcx (rof1) ?_) | (refine Wdcx (rof1) ?_) | (refine Wcgx (rof1) ?_) | (refine Wdcgx (rof1) ?_))
  refine Wdo (ov_callT (tv_pu zs hz) rfl (by (first | exact List.mem_cons_self | exact (List.mem_cons_of_mem _ List.mem_cons_self) | exact (List.mem_cons_of_mem _ (List.mem_cons_of_mem _ List.mem_cons_self)) | exact (List.mem_cons_of_mem _ (List.mem_cons_of_mem _ (List.mem_cons_of_mem _ List.mem_cons_self))) | exact (List.mem_cons_of_mem _ (List.mem_cons_of_mem _ (List.mem_cons_of_mem _ (List.mem_cons_of_mem _ List.mem_cons_self)))) | exact (List.mem_cons_of_mem _ (List.mem_cons_of_mem _ (List.mem_cons_of_mem _ (List.mem_cons_of_mem _ (List.mem_cons_of_mem _ List.mem_cons_self))))) | exact (List.mem_cons_of_mem _ (List.mem_cons_of_mem _ (List.mem_cons_of_mem _ (List.mem_cons_of_mem _ (List.mem_cons_of_mem _ (List.mem_cons_of_mem _ List.mem_cons_self)))))) | exact (List.mem_cons_of_mem _ (List.mem_cons_of_mem _ (List.mem_cons_of_mem _ (List.mem_cons_of_mem _ (List.mem_cons_of_mem _ (List.mem_cons_of_mem _ (List.mem_cons_of_mem _ List.mem_cons_self)))))))))) ?_
  refine Wdc (Pu.exAt [rp x y, rq 1] [] x0 fun v => (lthr_pu hx hy v.2.1.1 v.2.1.2 v.2.2).2.1) ?_
  refine Wdc (Pu.exAt [rp x y] [] x0 fun v => (lthr_pu hx hy v.2.1.1 v.2.1.2 v.2.2).2.2) ?_
  refine Wdo (OpV.exd 15 x0 rfl fun v => Ov0) ?_
  refine Wdo (OpV.exd 8 x0 rfl fun v => Ov0) ?_
  refine Wdo (OpV.exc 8 x0 rfl fun v => Ov0) ?_
  repeat (refine A1 ⟨?_⟩; intros)
  refine WPL.exd (d := 16) rfl fun v => ?_
  obtain ⟨⟨l, hok, hle, e⟩, _⟩ := lthr_pu hx hy v.2.1.1 v.2.1.2 v.2.2
  rw [← e]
  repeat (refine A1 ⟨?_⟩; intros)
  exact endMR () _ (end1 (RV.cellA rfl (by (first | exact List.mem_cons_self | exact (List.mem_cons_of_mem _ List.mem_cons_self) | exact (List.mem_cons_of_mem _ (List.mem_cons_of_mem _ List.mem_cons_self)) | exact (List.mem_cons_of_mem _ (List.mem_cons_of_mem _ (List.mem_cons_of_mem _ List.mem_cons_self))) | exact (List.mem_cons_of_mem _ (List.mem_cons_of_mem _ (List.mem_cons_of_mem _ (List.mem_cons_of_mem _ List.mem_cons_self)))) | exact (List.mem_cons_of_mem _ (List.mem_cons_of_mem _ (List.mem_cons_of_mem _ (List.mem_cons_of_mem _ (List.mem_cons_of_mem _ List.mem_cons_self))))) | exact (List.mem_cons_of_mem _ (List.mem_cons_of_mem _ (List.mem_cons_of_mem _ (List.mem_cons_of_mem _ (List.mem_cons_of_mem _ (List.mem_cons_of_mem _ List.mem_cons_self)))))) | exact (List.mem_cons_of_mem _ (List.mem_cons_of_mem _ (List.mem_cons_of_mem _ (List.mem_cons_of_mem _ (List.mem_cons_of_mem _ (List.mem_cons_of_mem _ (List.mem_cons_of_mem _ List.mem_cons_self))))))))) rfl rfl) (Le.ex ⟨l, hok, hle⟩ (Le.refl _))) (by (first | exact List.mem_cons_self | exact (List.mem_cons_of_mem _ List.mem_cons_self) | exact (List.mem_cons_of_mem _ (List.mem_cons_of_mem _ List.mem_cons_self)) | exact (List.mem_cons_of_mem _ (List.mem_cons_of_mem _ (List.mem_cons_of_mem _ List.mem_cons_self))) | exact (List.mem_cons_of_mem _ (List.mem_cons_of_mem _ (List.mem_cons_of_mem _ (List.mem_cons_of_mem _ List.mem_cons_self)))) | exact (List.mem_cons_of_mem _ (List.mem_cons_of_mem _ (List.mem_cons_of_mem _ (List.mem_cons_of_mem _ (List.mem_cons_of_mem _ List.mem_cons_self))))) | exact (List.mem_cons_of_mem _ (List.mem_cons_of_mem _ (List.mem_cons_of_mem _ (List.mem_cons_of_mem _ (List.mem_cons_of_mem _ (List.mem_cons_of_mem _ List.mem_cons_self)))))) | exact (List.mem_cons_of_mem _ (List.mem_cons_of_mem _ (List.mem_cons_of_mem _ (List.mem_cons_of_mem _ (List.mem_cons_of_mem _ (List.mem_cons_of_mem _ (List.mem_cons_of_mem _ List.mem_cons_self))))))))) (LeL.refl _)
end Go.Ab
