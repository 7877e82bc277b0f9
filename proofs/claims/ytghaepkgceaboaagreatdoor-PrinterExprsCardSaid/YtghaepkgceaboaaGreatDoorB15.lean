/- Texts laid one behind the other: AffB, LnM, LnA, LnB, Nrm, Fmt, Wrt. -/
import Derived.Test.YtghaepkgceaboaaGreatDoorB14
import Derived.Test.YtghaepkgceaboaaGreatDoorB13
import Derived.Test.YtghaepkgceaboaaGreatDoorB04
import Derived.Test.YtghaepkgceaboaaGreatDoorB05
/- Package affine: Identity, Vector, Compose, Invert; the reference's After, Invert. -/
namespace Go.Ab
open Go.Proofs
set_option linter.unusedSectionVars false
set_option linter.unusedVariables false
set_option linter.unusedSimpArgs false
variable [Base]
def M6.det (m : M6 Rat) : Rat := m.a * m.e - m.d * m.b
/-- n first, then m -/
def M6.comp (m n : M6 Rat) : M6 Rat := ⟨m.a * n.a + m.b * n.d, m.a * n.b + m.b * n.e, m.a * n.c + m.b * n.f + m.c, m.d * n.a + m.e * n.d, m.d * n.b + m.e * n.e, m.d * n.c + m.e * n.f + m.f⟩
def M6.inv (m : M6 Rat) : M6 Rat :=
  ⟨m.e * m.det⁻¹, -m.b * m.det⁻¹, -(m.e * m.det⁻¹ * m.c + -m.b * m.det⁻¹ * m.f), -m.d * m.det⁻¹, m.a * m.det⁻¹, -(-m.d * m.det⁻¹ * m.c + m.a * m.det⁻¹ * m.f)⟩
theorem M6.det_ht {m : M6 Rat} {L : Nat} (h : m.le L) : ht m.det ≤ 4 * L + 3 := by
  obtain ⟨ha, hb, hc, hd, he, hf⟩ := h
  have l1 := ht_mul m.a m.e
  have l2 := ht_mul m.d m.b
  have l3 := ht_sub (m.a * m.e) (m.d * m.b)
  unfold M6.det; omega
theorem M6.comp_le {m n : M6 Rat} {L : Nat} (hm : m.le L) (hn : n.le L) : (m.comp n).le (5 * L + 4) := by
  obtain ⟨ha, hb, hc, hd, he, hf⟩ := hm
  obtain ⟨ka, kb, kc, kd, ke, kf⟩ := hn
  have g : ∀ {x y u v : Rat}, ht x ≤ L → ht y ≤ L → ht u ≤ L → ht v ≤ L → ht (x * y + u * v) ≤ 4 * L + 3 := fun {x y u v} h1 h2 h3 h4 => by
    have l1 := ht_mul x y
    have l2 := ht_mul u v
    have l3 := ht_add (x * y) (u * v)
    omega
  have g2 : ∀ {x y u v z : Rat}, ht x ≤ L → ht y ≤ L → ht u ≤ L → ht v ≤ L → ht z ≤ L → ht (x * y + u * v + z) ≤ 5 * L + 4 := fun {x y u v z} h1 h2 h3 h4 h5 => by
    have l1 := g h1 h2 h3 h4
    have l3 := ht_add (x * y + u * v) z
    omega
  exact ⟨Nat.le_trans (g ha ka hb kd) (by omega), Nat.le_trans (g ha kb hb ke) (by omega), g2 ha kc hb kf hc, Nat.le_trans (g hd ka he kd) (by omega), Nat.le_trans (g hd kb he ke) (by omega), g2 hd kc he kf hf⟩
theorem M6.inv_le {m : M6 Rat} {L : Nat} (h : m.le L) : m.inv.le (14 * L + 20) := by
  have hd0 := M6.det_ht h
  have hi := ht_inv m.det
  obtain ⟨ha, hb, hc, hd, he, hf⟩ := h
  have g : ∀ {x : Rat}, ht x ≤ L → ht (x * m.det⁻¹) ≤ 5 * L + 5 := fun {x} h1 => by
    have l1 := ht_mul x m.det⁻¹
    omega
  have nb : ht (-m.b) ≤ L := by rw [ht_neg]; exact hb
  have nd : ht (-m.d) ≤ L := by rw [ht_neg]; exact hd
  have g2 : ∀ {x y : Rat}, ht x ≤ L → ht y ≤ L → ht (-(x * m.det⁻¹ * m.c + y * m.det⁻¹ * m.f)) ≤ 14 * L + 20 := fun {x y} h1 h2 => by
    have k1 := g h1
    have k2 := g h2
    have l1 := ht_mul (x * m.det⁻¹) m.c
    have l2 := ht_mul (y * m.det⁻¹) m.f
    have l3 := ht_add (x * m.det⁻¹ * m.c) (y * m.det⁻¹ * m.f)
    rw [ht_neg]; omega
  exact ⟨Nat.le_trans (g he) (by omega), Nat.le_trans (g nb) (by omega), g2 he nb, Nat.le_trans (g nd) (by omega), Nat.le_trans (g ha) (by omega), g2 nd ha⟩
end Go.Ab
/- Lines with coprime integers; images of lines under affine maps: plain laws. -/
namespace Go.Ab
open Go.Proofs
set_option linter.unusedSectionVars false
set_option linter.unusedVariables false
set_option linter.unusedSimpArgs false
variable [Base]
/-- the greatest common divisor of two rational numbers -/
def rgcd (x y : Rat) : Rat := mkRat (Nat.gcd (x.num.natAbs * y.den) (y.num.natAbs * x.den) : Nat) (x.den * y.den)
theorem cross_mk {x : Rat} {p : Int} {d : Nat} (hd : d ≠ 0) (h : x = mkRat p d) : x.num * d = p * x.den := by
  have h1 := Rat.mkRat_self x
  rw [← h1] at h
  conv at h => lhs; rw [h1]
  have := (Rat.mkRat_eq_iff (n₁ := x.num) (n₂ := p) x.den_nz hd).1 (by rw [Rat.mkRat_self]; exact h)
  rw [this]
theorem rgcd_of {x y : Rat} {p q : Int} {d : Nat} (hd : d ≠ 0) (hx : x = mkRat p d) (hy : y = mkRat q d) : rgcd x y = mkRat (Nat.gcd p.natAbs q.natAbs : Nat) d := by
  have cx := congrArg Int.natAbs (cross_mk hd hx)
  have cy := congrArg Int.natAbs (cross_mk hd hy)
  rw [Int.natAbs_mul, Int.natAbs_mul, Int.natAbs_natCast, Int.natAbs_natCast] at cx cy
  unfold rgcd
  rw [Rat.mkRat_eq_iff (Nat.mul_ne_zero x.den_nz y.den_nz) hd]
  have : Nat.gcd (x.num.natAbs * y.den) (y.num.natAbs * x.den) * d = Nat.gcd p.natAbs q.natAbs * (x.den * y.den) := by
    rw [← Nat.gcd_mul_right, ← Nat.gcd_mul_right]
    congr 1
    · rw [Nat.mul_right_comm, cx, Nat.mul_assoc]
    · rw [Nat.mul_right_comm, cy, Nat.mul_assoc, Nat.mul_comm y.den]
  exact_mod_cast this
theorem common (x y : Rat) : ∃ (p q : Int) (d : Nat), d ≠ 0 ∧ x = mkRat p d ∧ y = mkRat q d := by
  refine ⟨x.num * y.den, y.num * x.den, x.den * y.den, Nat.mul_ne_zero x.den_nz y.den_nz, ?_, ?_⟩
  · rw [Rat.mkRat_mul_right y.den_nz, Rat.mkRat_self]
  · rw [Nat.mul_comm x.den, Rat.mkRat_mul_right x.den_nz, Rat.mkRat_self]
theorem rgcd_mul (t x y : Rat) (ht : 0 < t) : rgcd (t * x) (t * y) = t * rgcd x y := by
  obtain ⟨p, q, d, hd, hx, hy⟩ := common x y
  have hn : 0 < t.num := by
    have h0 := Rat.num_nonneg.2 (Rat.le_of_lt ht)
    have h1 : t.num ≠ 0 := fun e => by rw [Rat.num_eq_zero.1 e] at ht; exact absurd ht (by decide)
    omega
  have e : t = mkRat t.num t.den := (Rat.mkRat_self t).symm
  have hx' : t * x = mkRat (t.num * p) (t.den * d) := by conv => lhs; rw [e, hx, Rat.mkRat_mul_mkRat]
  have hy' : t * y = mkRat (t.num * q) (t.den * d) := by conv => lhs; rw [e, hy, Rat.mkRat_mul_mkRat]
  rw [rgcd_of (Nat.mul_ne_zero t.den_nz hd) hx' hy', rgcd_of hd hx hy, Int.natAbs_mul, Int.natAbs_mul, Nat.gcd_mul_left]
  conv => rhs; rw [e, Rat.mkRat_mul_mkRat]
  congr 1
  rw [Int.natCast_mul, Int.natAbs_of_nonneg (Int.le_of_lt hn)]
theorem rgcd_nonneg (x y : Rat) : 0 ≤ rgcd x y := by
  unfold rgcd
  rw [← Rat.num_nonneg, Rat.num_mkRat]
  rw [if_neg (Nat.mul_ne_zero x.den_nz y.den_nz)]
  exact Int.ediv_nonneg (Int.natCast_nonneg _) (Int.natCast_nonneg _)
theorem rgcd_dvd (x y : Rat) : ∃ k l : Int, x = k * rgcd x y ∧ y = l * rgcd x y := by
  obtain ⟨p, q, d, hd, hx, hy⟩ := common x y
  rw [rgcd_of hd hx hy]
  have h1 : (Nat.gcd p.natAbs q.natAbs : Int) ∣ p := Int.ofNat_dvd_left.2 (Nat.gcd_dvd_left _ _)
  have h2 : (Nat.gcd p.natAbs q.natAbs : Int) ∣ q := Int.ofNat_dvd_left.2 (Nat.gcd_dvd_right _ _)
  obtain ⟨k, hk⟩ := h1
  obtain ⟨l, hl⟩ := h2
  have key : ∀ (z k : Int), z = (Nat.gcd p.natAbs q.natAbs : Int) * k → mkRat z d = (k : Rat) * mkRat (Nat.gcd p.natAbs q.natAbs : Nat) d := fun z k h => by
    have e : (k : Rat) = mkRat k 1 := (Rat.mkRat_one k).symm
    rw [e, Rat.mkRat_mul_mkRat, Nat.one_mul, h, Int.mul_comm]
  exact ⟨k, l, by rw [hx]; exact key p k hk, by rw [hy]; exact key q l hl⟩
theorem rgcd_zero {x y : Rat} (h : rgcd x y = 0) : x = 0 ∧ y = 0 := by
  obtain ⟨k, l, h1, h2⟩ := rgcd_dvd x y
  rw [h, Rat.mul_zero] at h1 h2
  exact ⟨h1, h2⟩
theorem rgcd_ints (a b : Int) : rgcd a b = ((Nat.gcd a.natAbs b.natAbs : Nat) : Rat) := by
  unfold rgcd
  rw [Rat.num_intCast, Rat.num_intCast, Rat.den_intCast, Rat.den_intCast, Nat.mul_one, Nat.mul_one, Nat.mul_one, Rat.mkRat_one]; rfl
/-- a line with integer coefficients -/
structure Li where
  a : Int
  b : Int
  c : Int
def Li.ok (l : Li) : Prop := Nat.gcd (Nat.gcd l.a.natAbs l.b.natAbs) l.c.natAbs = 1 ∧ (l.a ≠ 0 ∨ l.b ≠ 0)
def g3 (a b c : Rat) : Rat := rgcd (rgcd a b) c
/-- the coprime integers in the proportion of three numbers -/
def prim (a b c : Rat) : Li := ⟨(a * (g3 a b c)⁻¹).num, (b * (g3 a b c)⁻¹).num, (c * (g3 a b c)⁻¹).num⟩
theorem g3_mul (t a b c : Rat) (ht : 0 < t) : g3 (t * a) (t * b) (t * c) = t * g3 a b c := by unfold g3; rw [rgcd_mul t a b ht, rgcd_mul t _ c ht]
theorem g3_pos {a b c : Rat} (h : a ≠ 0 ∨ b ≠ 0) : 0 < g3 a b c := by
  have h0 := rgcd_nonneg (rgcd a b) c
  rcases Rat.le_iff_lt_or_eq.1 h0 with h1 | h1
  · exact h1
  · exfalso
    have h2 := (rgcd_zero h1.symm).1
    have h3 := rgcd_zero h2
    rcases h with h | h
    · exact h h3.1
    · exact h h3.2
theorem num_int {x : Rat} (h : x.den = 1) : (x.num : Rat) = x := by
  apply Rat.ext <;> simp [h]
theorem prim_eq {a b c : Rat} (h : a ≠ 0 ∨ b ≠ 0) : a * (g3 a b c)⁻¹ = ((prim a b c).a : Rat) ∧ b * (g3 a b c)⁻¹ = ((prim a b c).b : Rat) ∧ c * (g3 a b c)⁻¹ = ((prim a b c).c : Rat) := by
  have hg := g3_pos (c := c) h
  have hne : g3 a b c ≠ 0 := fun e => by rw [e] at hg; exact absurd hg (by decide)
  obtain ⟨k, l, h1, h2⟩ := rgcd_dvd a b
  obtain ⟨u, v, h3, h4⟩ := rgcd_dvd (rgcd a b) c
  have ea : a * (g3 a b c)⁻¹ = ((k * u : Int) : Rat) := by
    have : a = ((k * u : Int) : Rat) * g3 a b c := by rw [Rat.intCast_mul, Rat.mul_assoc]; unfold g3; rw [← h3]; exact h1
    generalize g3 a b c = g at *
    rw [this, Rat.mul_assoc, Rat.mul_inv_cancel _ hne, Rat.mul_one]
  have eb : b * (g3 a b c)⁻¹ = ((l * u : Int) : Rat) := by
    have : b = ((l * u : Int) : Rat) * g3 a b c := by rw [Rat.intCast_mul, Rat.mul_assoc]; unfold g3; rw [← h3]; exact h2
    generalize g3 a b c = g at *
    rw [this, Rat.mul_assoc, Rat.mul_inv_cancel _ hne, Rat.mul_one]
  have ec : c * (g3 a b c)⁻¹ = ((v : Int) : Rat) := by
    have : c = ((v : Int) : Rat) * g3 a b c := h4
    generalize g3 a b c = g at *
    rw [this, Rat.mul_assoc, Rat.mul_inv_cancel _ hne, Rat.mul_one]
  unfold prim
  simp only []
  rw [ea, eb, ec, Rat.num_intCast, Rat.num_intCast, Rat.num_intCast]
  exact ⟨rfl, rfl, rfl⟩
theorem prim_ok {a b c : Rat} (h : a ≠ 0 ∨ b ≠ 0) : (prim a b c).ok := by
  have hg := g3_pos (c := c) h
  have hne : g3 a b c ≠ 0 := fun e => by rw [e] at hg; exact absurd hg (by decide)
  obtain ⟨e1, e2, e3⟩ := prim_eq (c := c) h
  have hi : 0 < (g3 a b c)⁻¹ := Rat.inv_pos.2 hg
  have h1 := g3_mul (g3 a b c)⁻¹ a b c hi
  rw [Rat.inv_mul_cancel _ hne, Rat.mul_comm _ a, Rat.mul_comm _ b, Rat.mul_comm _ c, e1, e2, e3] at h1
  unfold g3 at h1
  rw [rgcd_ints, show ((Nat.gcd (prim a b c).a.natAbs (prim a b c).b.natAbs : Nat) : Rat) = (((Nat.gcd (prim a b c).a.natAbs (prim a b c).b.natAbs : Nat) : Int) : Rat) from rfl, rgcd_ints, Int.natAbs_natCast] at h1
  refine ⟨by exact_mod_cast h1, ?_⟩
  rcases h with h | h
  · left; intro e
    rw [e] at e1
    rcases Rat.mul_eq_zero.1 (e1.trans rfl) with h5 | h5
    · exact h h5
    · rw [h5] at hi; exact absurd hi (by decide)
  · right; intro e
    rw [e] at e2
    rcases Rat.mul_eq_zero.1 (e2.trans rfl) with h5 | h5
    · exact h h5
    · rw [h5] at hi; exact absurd hi (by decide)
theorem prim_mul (t a b c : Rat) (ht : 0 < t) : prim (t * a) (t * b) (t * c) = prim a b c := by
  have hne : t ≠ 0 := fun e => by rw [e] at ht; exact absurd ht (by decide)
  have key : ∀ x : Rat, t * x * (t * g3 a b c)⁻¹ = x * (g3 a b c)⁻¹ := fun x => by
    rw [Rat.inv_mul_rev, Rat.mul_comm t x, Rat.mul_assoc, ← Rat.mul_assoc t, Rat.mul_comm t, Rat.mul_assoc (g3 a b c)⁻¹, Rat.mul_inv_cancel _ hne, Rat.mul_one]
  unfold prim
  rw [g3_mul t a b c ht, key, key, key]
theorem prim_id {l : Li} (h : l.ok) : prim l.a l.b l.c = l := by
  have : g3 l.a l.b l.c = 1 := by
    unfold g3
    rw [rgcd_ints, show ((Nat.gcd l.a.natAbs l.b.natAbs : Nat) : Rat) = (((Nat.gcd l.a.natAbs l.b.natAbs : Nat) : Int) : Rat) from rfl, rgcd_ints, Int.natAbs_natCast, h.1]; rfl
  unfold prim
  rw [this, show (1 : Rat)⁻¹ = 1 from by decide +kernel, Rat.mul_one, Rat.mul_one, Rat.mul_one, Rat.num_intCast, Rat.num_intCast, Rat.num_intCast]
theorem M6.inv_det {m : M6 Rat} (h : m.det ≠ 0) : m.inv.det = m.det⁻¹ := by
  have hd : m.det = m.a * m.e - m.d * m.b := rfl
  unfold M6.inv
  generalize hk : m.det⁻¹ = k
  have h1 : m.det * k = 1 := by rw [← hk]; exact Rat.mul_inv_cancel _ h
  unfold M6.det
  simp only []
  generalize m.det = D at *
  subst hd
  grind
def M6.invk (m : M6 Rat) (k : Rat) : M6 Rat := ⟨m.e * k, -m.b * k, -(m.e * k * m.c + -m.b * k * m.f), -m.d * k, m.a * k, -(-m.d * k * m.c + m.a * k * m.f)⟩
theorem M6.inv_k (m : M6 Rat) : m.inv = m.invk m.det⁻¹ := rfl
theorem M6.invk_k (m : M6 Rat) {k : Rat} (h : m.det * k = 1) : (m.invk k).invk m.det = m := by
  have hd : m.det = m.a * m.e - m.d * m.b := rfl
  generalize m.det = D at *
  obtain ⟨a, b, c, d, e, f⟩ := m
  simp only [M6.invk] at *
  congr 1 <;> grind
theorem M6.inv_inv {m : M6 Rat} (h : m.det ≠ 0) : m.inv.inv = m := by
  rw [M6.inv_k m.inv, M6.inv_det h, Rat.inv_inv, M6.inv_k m]
  exact M6.invk_k m (Rat.mul_inv_cancel _ h)
/-- the image of a line -/
def Li.im (m : M6 Rat) (l : Li) : Li := prim (l.a * m.inv.a + l.b * m.inv.d) (l.a * m.inv.b + l.b * m.inv.e) (l.a * m.inv.c + l.b * m.inv.f + l.c)
theorem Li.im_ne {m : M6 Rat} {l : Li} (h : m.det ≠ 0) (hl : l.ok) : (l.a : Rat) * m.inv.a + l.b * m.inv.d ≠ 0 ∨ (l.a : Rat) * m.inv.b + l.b * m.inv.e ≠ 0 := by
  have h1 : m.det * m.det⁻¹ = 1 := Rat.mul_inv_cancel _ h
  have hd : m.det = m.a * m.e - m.d * m.b := rfl
  unfold M6.inv
  simp only []
  generalize m.det⁻¹ = k at *
  generalize m.det = D at *
  by_cases e1 : (l.a : Rat) * (m.e * k) + l.b * (-m.d * k) = 0
  · right
    intro e2
    have ha : (l.a : Rat) = 0 := by grind
    have hb : (l.b : Rat) = 0 := by grind
    rcases hl.2 with h | h
    · exact h (by exact_mod_cast ha)
    · exact h (by exact_mod_cast hb)
  · exact .inl e1
theorem Li.im_ok {m : M6 Rat} {l : Li} (h : m.det ≠ 0) (hl : l.ok) : (l.im m).ok := prim_ok (Li.im_ne h hl)
theorem Li.im_inv {m : M6 Rat} {l : Li} (h : m.det ≠ 0) (hl : l.ok) : (l.im m).im m.inv = l := by
  have hne := Li.im_ne h hl
  obtain ⟨e1, e2, e3⟩ := prim_eq (c := l.a * m.inv.c + l.b * m.inv.f + l.c) hne
  have hg := g3_pos (c := l.a * m.inv.c + l.b * m.inv.f + l.c) hne
  have hi : 0 < (g3 (l.a * m.inv.a + l.b * m.inv.d) (l.a * m.inv.b + l.b * m.inv.e) (l.a * m.inv.c + l.b * m.inv.f + l.c))⁻¹ := Rat.inv_pos.2 hg
  have h1 : m.det * m.det⁻¹ = 1 := Rat.mul_inv_cancel _ h
  have hd : m.det = m.a * m.e - m.d * m.b := rfl
  have key : (l.im m).im m.inv = prim (((l.im m).a : Rat) * m.a + (l.im m).b * m.d) (((l.im m).a : Rat) * m.b + (l.im m).b * m.e) (((l.im m).a : Rat) * m.c + (l.im m).b * m.f + (l.im m).c) := by
    unfold Li.im
    rw [M6.inv_inv h]
  rw [key]
  unfold Li.im
  rw [← e1, ← e2, ← e3]
  generalize (g3 (l.a * m.inv.a + l.b * m.inv.d) (l.a * m.inv.b + l.b * m.inv.e) (l.a * m.inv.c + l.b * m.inv.f + l.c))⁻¹ = t at *
  have z : prim (t * l.a) (t * l.b) (t * l.c) = l := by rw [prim_mul t _ _ _ hi]; exact prim_id hl
  clear e1 e2 e3 key hne hg
  unfold M6.inv
  simp only []
  generalize m.det⁻¹ = k at *
  generalize m.det = D at *
  rw [← z]
  congr 1 <;> grind
end Go.Ab
/- Packages nat, integer, frac, geo: normal forms, comparisons, common divisors; lines. -/
namespace Go.Ab
open Go.Proofs
set_option linter.unusedSectionVars false
set_option linter.unusedVariables false
set_option linter.unusedSimpArgs false
variable [Base]
/-- digits in normal form -/
def nrm (xs : List Nat) : Bool := decide (xs.length = 0) || decide (xs.getD (xs.length - 1) 0 ≠ 0)
theorem nrm_dgs (n : Nat) : nrm (dgs n) = true := by
  by_cases h : n = 0
  · subst h; rw [dgs_zero]; rfl
  · obtain ⟨k, h1, h2, _⟩ := dgs_top h
    unfold nrm
    rw [h1, Nat.add_sub_cancel, decide_eq_true h2, Bool.or_true]
theorem natNormal_pu (xs : List Nat) (hl : xs.length ≤ 1000000000) : Pu Tryz.prog 260 [dg xs] (lit (.bool (nrm xs))) := by
  unfold nrm
  by_cases h : xs.length = 0
  · rw [decide_eq_true h, Bool.true_or]
    refine Pu.intro Tryz.func260 rfl (by kernel_rfl) fun C => ?_
    repeat (refine A1 ⟨?_⟩; intros)
    ((first | refine endR ?_ | refine endN ?_); exact end1 (RV.tmp rfl) (Le.refl _))
  · rw [decide_eq_false h, Bool.false_or]
    by_cases h1 : xs.getD (xs.length - 1) 0 = 0
    · rw [decide_eq_false (fun e => e h1)]
      refine Pu.intro Tryz.func260 rfl (by kernel_rfl) fun C => ?_
      repeat (refine A1 ⟨?_⟩; intros)
      ((first | refine endR ?_ | refine endN ?_); exact end1 (RV.tmp rfl) (Le.refl _))
    · rw [decide_eq_true h1]
      refine Pu.intro Tryz.func260 rfl (by kernel_rfl) fun C => ?_
      repeat (refine A1 ⟨?_⟩; intros)
      ((first | refine endR ?_ | refine endN ?_); exact end1 (RV.tmp rfl) (Le.refl _))
/-- a sign and digits in normal form -/
def nrmI (s : Bool) (xs : List Nat) : Bool := nrm xs && (!s || decide (0 < xs.length))
theorem nrmI_int (z : Int) : nrmI (decide (z < 0)) (dgs z.natAbs) = true := by
  unfold nrmI
  rw [nrm_dgs, Bool.true_and]
  by_cases h : z < 0
  · rw [decide_eq_true h, decide_eq_true (dgs_len_pos (by omega)), Bool.or_true]
  · rw [decide_eq_false h]; rfl
theorem intNormal_pu (s : Bool) (xs : List Nat) (hl : xs.length ≤ 1000000000) : Pu Tryz.prog 259 [raw s xs] (lit (.bool (nrmI s xs))) := by
  have hn := natNormal_pu xs hl
  unfold nrmI
  cases hx : nrm xs with
  | false =>
    rw [hx] at hn
    refine Pu.intro Tryz.func259 rfl (by kernel_rfl) fun C => ?_
    repeat (first | (refine A1 ⟨?_⟩; intros) | (refine Wcx (hn) ?_) | (refine Wdcx (hn) ?_) | (refine Wcgx (hn) ?_) | (refine Wdcgx (hn) ?_))
    ((first | refine endR ?_ | refine endN ?_); exact end1 (RV.tmp rfl) (Le.refl _))
  | true =>
    rw [hx] at hn
    cases s with
    | false =>
      refine Pu.intro Tryz.func259 rfl (by kernel_rfl) fun C => ?_
      repeat (first | (refine A1 ⟨?_⟩; intros) | (refine Wcx (hn) ?_) | (refine Wdcx (hn) ?_) | (refine Wcgx (hn) ?_) | (refine Wdcgx (hn) ?_))
      ((first | refine endR ?_ | refine endN ?_); exact end1 (RV.tmp rfl) (Le.refl _))
    | true =>
      by_cases h : 0 < xs.length
      · rw [decide_eq_true h]
        refine Pu.intro Tryz.func259 rfl (by kernel_rfl) fun C => ?_
        repeat (first | (refine A1 ⟨?_⟩; intros) | (refine Wcx (hn) ?_) | (refine Wdcx (hn) ?_) | (refine Wcgx (hn) ?_) | (refine Wdcgx (hn) ?_))
        ((first | refine endR ?_ | refine endN ?_); exact end1 (RV.tmp rfl) (Le.refl _))
      · rw [decide_eq_false h]
        refine Pu.intro Tryz.func259 rfl (by kernel_rfl) fun C => ?_
        repeat (first | (refine A1 ⟨?_⟩; intros) | (refine Wcx (hn) ?_) | (refine Wdcx (hn) ?_) | (refine Wcgx (hn) ?_) | (refine Wdcgx (hn) ?_))
        ((first | refine endR ?_ | refine endN ?_); exact end1 (RV.tmp rfl) (Le.refl _))
theorem intNormal_z (z : Int) (hl : il z ≤ 1000000000) : Pu Tryz.prog 259 [int z] (lit (.bool true)) := by
  have := intNormal_pu (decide (z < 0)) (dgs z.natAbs) hl
  rwa [nrmI_int] at this
theorem gcd_n (a b : Nat) (h1 : (dgs a).length ≤ 10000000) (h2 : (dgs b).length ≤ 10000000) : Pu Tryz.prog 261 [nat a, nat b] (nat (Nat.gcd a b)) := by
  have := gcd_nat (dgs a) (dgs b) h1 h2 (D_dgs _) (D_dgs _)
  rwa [val_dgs, val_dgs] at this
theorem dlen_gcd_le {a b n : Nat} (ha : (dgs a).length ≤ n) (hb : (dgs b).length ≤ n) : (dgs (Nat.gcd a b)).length ≤ n := by
  by_cases h : a = 0
  · subst h; rw [Nat.gcd_zero_left]; exact hb
  · exact Nat.le_trans (len_mono (Nat.gcd_le_left b (by omega))) ha
theorem ht_rgcd (x y : Rat) : ht (rgcd x y) ≤ ht x + ht y + 1 := by
  have h1 := ht_num x
  have h2 := ht_den x
  have h3 := ht_num y
  have h4 := ht_den y
  have e1 : il x.num = (dgs x.num.natAbs).length := rfl
  have e2 : il y.num = (dgs y.num.natAbs).length := rfl
  have m1 := dlen_mul x.num.natAbs y.den
  have m2 := dlen_mul y.num.natAbs x.den
  have m3 := dlen_mul x.den y.den
  have m4 := dlen_gcd_le (n := ht x + ht y) (a := x.num.natAbs * y.den) (b := y.num.natAbs * x.den) (by omega) (by omega)
  have := ht_mk ((Nat.gcd (x.num.natAbs * y.den) (y.num.natAbs * x.den) : Nat) : Int) (x.den * y.den)
  rw [il_nat] at this
  unfold rgcd; omega
theorem eq_int {x : Rat} (h : x.den = 1) : x = (x.num : Rat) := (num_int h).symm
end Go.Ab
/- Packages frac, geo, affine: comparisons; lines: reading, writing, making, images. -/
namespace Go.Ab
open Go.Proofs
set_option linter.unusedSectionVars false
set_option linter.unusedVariables false
set_option linter.unusedSimpArgs false
variable [Base]
theorem mk_sign (a : Int) {d : Nat} (hd : d ≠ 0) : (mkRat a d).num.sign = a.sign := by
  rw [(mk_num a hd).1]
  have hg : 0 < Int.gcd a d := Nat.pos_of_ne_zero (fun e => by have := (Int.gcd_eq_zero_iff.1 e).2; omega)
  obtain ⟨q, hq⟩ := Int.gcd_dvd_left a d
  generalize Int.gcd a d = g at *
  subst hq
  have h1 : ((g : Nat) : Int).sign = 1 := Int.sign_eq_one_of_pos (by omega)
  rw [Int.mul_ediv_cancel_left _ (by omega), Int.sign_mul, h1, Int.one_mul]
theorem sub_sign {x y : Rat} (h : x.den = y.den) : (x - y).num.sign = (x.num - y.num).sign := by
  have hd : y.den ≠ 0 := y.den_nz
  have h1 : ((y.den : Nat) : Int).sign = 1 := Int.sign_eq_one_of_pos (by omega)
  rw [Rat.sub_def', h, ← Int.sub_mul, mk_sign _ (Nat.mul_ne_zero hd hd), Int.sign_mul, h1, Int.mul_one]
theorem sub_sign_zero {x y : Rat} : (x - y).num.sign = 0 ↔ x = y := by
  rw [Int.sign_eq_zero_iff_zero, Rat.num_eq_zero]
  constructor
  · intro h; have := congrArg (· + y) h; simp only [Rat.sub_eq_add_neg, Rat.add_assoc, Rat.neg_add_cancel, Rat.add_zero, Rat.zero_add] at this; exact this
  · intro h; rw [h, Rat.sub_self]
/-- a line of package geo -/
abbrev lf (a b c : Rat) : SV := ag [lit (.int .i64 (r0 a)), lit (.int .i64 (r1 a)), r2 a, lit (.int .i64 (r0 b)), lit (.int .i64 (r1 b)), r2 b, lit (.int .i64 (r0 c)), lit (.int .i64 (r1 c)), r2 c]
/-- a line of package api, and of the reference -/
abbrev lq (l : Li) : SV := ag [lit (.bool (decide (l.a < 0))), nat l.a.natAbs, lit (.bool (decide (l.b < 0))), nat l.b.natAbs, lit (.bool (decide (l.c < 0))), nat l.c.natAbs]
structure Li.le (l : Li) (L : Nat) : Prop where
  a : il l.a ≤ L
  b : il l.b ≤ L
  c : il l.c ≤ L
theorem ht_of_int (z : Int) : ht (z : Rat) = max (il z) 1 := by
  unfold ht
  rw [Rat.num_intCast, Rat.den_intCast, dgs_one]; rfl
/-- three rational numbers, one behind the other -/
abbrev fr3 (a b c : Rat) : List SV := [lit (.int .i64 (r0 a)), lit (.int .i64 (r1 a)), r2 a, lit (.int .i64 (r0 b)), lit (.int .i64 (r1 b)), r2 b, lit (.int .i64 (r0 c)), lit (.int .i64 (r1 c)), r2 c]
end Go.Ab
/- Rational numbers in normal form: the program's check and the reference's. -/
namespace Go.Ab
open Go.Proofs
set_option linter.unusedSectionVars false
set_option linter.unusedVariables false
set_option linter.unusedSimpArgs false
variable [Base]
theorem nrm_eq {xs : List Nat} (hD : D xs) (h : nrm xs = true) : xs = dgs (val xs) := by
  rw [← trimL_eq hD]
  rcases List.eq_nil_or_concat xs with e | ⟨ys, y, e⟩
  · subst e; rfl
  · rw [List.concat_eq_append] at e
    subst e
    have hy : y ≠ 0 := by
      unfold nrm at h
      simp at h
      exact h
    rw [trimL_snoc_ne ys y hy]
/-- in normal form -/
def nrmQ (r : RQ) : Bool := decide (r.s = decide (r.v.num < 0) ∧ r.n = dgs r.v.num.natAbs ∧ r.d = dgs r.v.den)
theorem nrmQ_q {r : RQ} (h : nrmQ r = true) : qr r = q r.v := by
  obtain ⟨h1, h2, h3⟩ := of_decide_eq_true h
  show ag [lit (.bool r.s), dg r.n, dg r.d] = ag [lit (.bool (decide (r.v.num < 0))), nat r.v.num.natAbs, nat r.v.den]
  rw [← h1, nat, ← h2, nat, ← h3]
theorem nrmQ_eq {r : RQ} (h1 : D r.n) (h2 : D r.d) : nrmQ r = (nrmI r.s r.n && nrm r.d && decide (r.d.length ≠ 0) && decide (Nat.gcd (val r.n) (val r.d) = 1)) := by
  apply Bool.eq_iff_iff.2
  constructor
  · intro h
    obtain ⟨a1, a2, a3⟩ := of_decide_eq_true h
    have e1 : nrmI r.s r.n = true := by rw [a1, a2]; exact nrmI_int _
    have e2 : nrm r.d = true := by rw [a3]; exact nrm_dgs _
    have e3 : r.d.length ≠ 0 := by rw [a3]; exact dgs_ne_nil r.v.den_nz
    have e4 : Nat.gcd (val r.n) (val r.d) = 1 := by rw [a2, a3, val_dgs, val_dgs]; exact r.v.reduced
    rw [e1, e2, decide_eq_true e3, decide_eq_true e4]; rfl
  · intro h
    simp only [Bool.and_eq_true, decide_eq_true_eq] at h
    obtain ⟨⟨⟨e1, e2⟩, e3⟩, e4⟩ := h
    have hs : nrm r.n = true ∧ (r.s = true → 0 < r.n.length) := by
      unfold nrmI at e1
      simp only [Bool.and_eq_true, Bool.or_eq_true, Bool.not_eq_true', decide_eq_true_eq] at e1
      refine ⟨e1.1, fun h => ?_⟩
      rcases e1.2 with h' | h'
      · rw [h] at h'; cases h'
      · exact h'
    have b1 := nrm_eq h1 hs.1
    have b2 := nrm_eq h2 e2
    have hd : val r.d ≠ 0 := fun e => by rw [e, dgs_zero] at b2; rw [b2] at e3; exact e3 rfl
    have hv : r.v.num = sv r.s (val r.n) ∧ r.v.den = val r.d := by
      have := mk_sv r.s (val r.n) hd
      rw [e4, Nat.div_one, Nat.div_one] at this
      exact this
    unfold nrmQ
    rw [hv.1, hv.2, sv_abs, ← b1, ← b2, sv_neg]
    refine decide_eq_true ⟨?_, rfl, rfl⟩
    cases hrs : r.s with
    | false => rfl
    | true =>
      have hp := hs.2 hrs
      have : 0 < val r.n := Nat.pos_of_ne_zero fun e => by rw [e, dgs_zero] at b1; rw [b1] at hp; simp at hp
      simp [this]
theorem blen_1 {n : Nat} : blen n = 1 ↔ n = 1 := by
  have h0 := blen0 (n := n)
  have h1 := blen1 (n := n)
  omega
theorem fnormal_pu {r : RQ} {L : Nat} (h : r.ok L) (hL : L ≤ 1000000) : Pu Tryz.prog 226 [qr r] (lit (.bool (nrmQ r))) := by
  obtain ⟨h1, h2, h3, h4⟩ := h
  rw [nrmQ_eq h1 h2]
  have c1 := intNormal_pu r.s r.n (by omega)
  have c2 := natNormal_pu r.d (by omega)
  cases e1 : nrmI r.s r.n with
  | false =>
    rw [e1] at c1
    refine Pu.intro Tryz.func226 rfl (by kernel_rfl) fun C => ?_
    repeat (first | (refine A1 ⟨?_⟩; intros) | (refine Wcx (c1) ?_) | (refine Wdcx (c1) ?_) | (refine Wcgx (c1) ?_) | (refine Wdcgx (c1) ?_))
    ((first | refine endR ?_ | refine endN ?_); exact end1 (RV.tmp rfl) (Le.refl _))
  | true =>
    rw [e1] at c1
    cases e2 : nrm r.d with
    | false =>
      rw [e2] at c2
      refine Pu.intro Tryz.func226 rfl (by kernel_rfl) fun C => ?_
      repeat (first | (refine A1 ⟨?_⟩; intros) | (refine Wcx (c1) ?_) | (refine Wdcx (c1) ?_) | (refine Wcgx (c1) ?_) | (refine Wdcgx (c1) ?_) | (refine Wcx (c2) ?_) | (refine Wdcx (c2) ?_) | (refine Wcgx (c2) ?_) | (refine Wdcgx (c2) ?_))
      ((first | refine endR ?_ | refine endN ?_); exact end1 (RV.tmp rfl) (Le.refl _))
    | true =>
      rw [e2] at c2
      by_cases e3 : r.d.length = 0
      · rw [decide_eq_false (p := r.d.length ≠ 0) (fun h => h e3)]
        refine Pu.intro Tryz.func226 rfl (by kernel_rfl) fun C => ?_
        repeat (first | (refine A1 ⟨?_⟩; intros) | (refine Wcx (c1) ?_) | (refine Wdcx (c1) ?_) | (refine Wcgx (c1) ?_) | (refine Wdcgx (c1) ?_) | (refine Wcx (c2) ?_) | (refine Wdcx (c2) ?_) | (refine Wcgx (c2) ?_) | (refine Wdcgx (c2) ?_))
        ((first | refine endR ?_ | refine endN ?_); exact end1 (RV.tmp rfl) (Le.refl _))
      · rw [decide_eq_true (p := r.d.length ≠ 0) e3]
        have hn : nrm r.n = true := by
          unfold nrmI at e1
          simp only [Bool.and_eq_true] at e1
          exact e1.1
        have b1 := nrm_eq h1 hn
        have b2 := nrm_eq h2 e2
        have c3 := gcd_n (val r.n) (val r.d) (by rw [← b1]; omega) (by rw [← b2]; omega)
        rw [nat, nat, ← b1, ← b2] at c3
        have hg := dlen_gcd_le (a := val r.n) (b := val r.d) (n := L) (by rw [← b1]; omega) (by rw [← b2]; omega)
        have c4 := bits_nat (dgs (Nat.gcd (val r.n) (val r.d))) (by omega) (D_dgs _)
        rw [val_dgs] at c4
        have hb := blen_1 (n := Nat.gcd (val r.n) (val r.d))
        clear b1 b2 hn e1 e2
        by_cases hg1 : Nat.gcd (val r.n) (val r.d) = 1
        · have hbl := hb.2 hg1
          rw [decide_eq_true hg1]
          clear hb
          rw [hbl] at c4
          generalize Nat.gcd (val r.n) (val r.d) = g at *
          clear hbl
          refine Pu.intro Tryz.func226 rfl (by kernel_rfl) fun C => ?_
          repeat (first | (refine A1 ⟨?_⟩; intros) | (refine Wcx (c1) ?_) | (refine Wdcx (c1) ?_) | (refine Wcgx (c1) ?_) | (refine Wdcgx (c1) ?_) | (refine Wcx (c2) ?_) | (refine Wdcx (c2) ?_) | (refine Wcgx (c2) ?_) | (refine Wdcgx (c2) ?_) | (refine Wcx (c3) ?_) | (refine Wdcx (c3) ?_) | (refine Wcgx (c3) ?_) | (refine Wdcgx (c3) ?_) | (refine Wcx (c4) ?_) | (refine Wdcx (c4) ?_) | (refine Wcgx (c4) ?_) | (refine Wdcgx (c4) ?_))
          ((first | refine endR ?_ | refine endN ?_); exact end1 (RV.tmp rfl) (Le.refl _))
        · have hbl : blen (Nat.gcd (val r.n) (val r.d)) ≠ 1 := fun e => hg1 (hb.1 e)
          rw [decide_eq_false hg1]
          clear hb
          generalize blen (Nat.gcd (val r.n) (val r.d)) = bl at *
          refine Pu.intro Tryz.func226 rfl (by kernel_rfl) fun C => ?_
          repeat (first | (refine A1 ⟨?_⟩; intros) | (refine Wcx (c1) ?_) | (refine Wdcx (c1) ?_) | (refine Wcgx (c1) ?_) | (refine Wdcgx (c1) ?_) | (refine Wcx (c2) ?_) | (refine Wdcx (c2) ?_) | (refine Wcgx (c2) ?_) | (refine Wdcgx (c2) ?_) | (refine Wcx (c3) ?_) | (refine Wdcx (c3) ?_) | (refine Wcgx (c3) ?_) | (refine Wdcgx (c3) ?_) | (refine Wcx (c4) ?_) | (refine Wdcx (c4) ?_) | (refine Wcgx (c4) ?_) | (refine Wdcgx (c4) ?_))
          ((first | refine endR ?_ | refine endN ?_); exact end1 (RV.tmp rfl) (Le.refl _))
theorem sameQ_g (s t : Bool) (xs ys us vs : List Nat) (hx : xs.length ≤ 1000000) (hy : ys.length ≤ 1000000) (hu : us.length ≤ 1000000) (hv : vs.length ≤ 1000000) : Pu Tryz.prog 140 [qraw s xs ys, qraw t us vs] (lit (.bool (decide ((s = t ∧ xs = us) ∧ ys = vs)))) := by
  have c1 := sameI_pu s t xs us (by omega) (by omega)
  have c2 := sameN_pu ys vs (by omega) (by omega)
  by_cases h1 : s = t ∧ xs = us
  · rw [decide_eq_true h1] at c1
    by_cases h2 : ys = vs
    · rw [decide_eq_true h2] at c2
      rw [decide_eq_true ⟨h1, h2⟩]
      refine Pu.intro Tryz.func140 rfl (by kernel_rfl) fun C => ?_
      repeat (first | (refine A1 ⟨?_⟩; intros) | (refine Wcx (c1) ?_) | (refine Wdcx (c1) ?_) | (refine Wcgx (c1) ?_) | (refine Wdcgx (c1) ?_) | (refine Wcx (c2) ?_) | (refine Wdcx (c2) ?_) | (refine Wcgx (c2) ?_) | (refine Wdcgx (c2) ?_))
      ((first | refine endR ?_ | refine endN ?_); exact end1 (RV.tmp rfl) (Le.refl _))
    · rw [decide_eq_false h2] at c2
      rw [decide_eq_false (fun h => h2 h.2)]
      refine Pu.intro Tryz.func140 rfl (by kernel_rfl) fun C => ?_
      repeat (first | (refine A1 ⟨?_⟩; intros) | (refine Wcx (c1) ?_) | (refine Wdcx (c1) ?_) | (refine Wcgx (c1) ?_) | (refine Wdcgx (c1) ?_) | (refine Wcx (c2) ?_) | (refine Wdcx (c2) ?_) | (refine Wcgx (c2) ?_) | (refine Wdcgx (c2) ?_))
      ((first | refine endR ?_ | refine endN ?_); exact end1 (RV.tmp rfl) (Le.refl _))
  · rw [decide_eq_false h1] at c1
    rw [decide_eq_false (fun h => h1 h.1)]
    refine Pu.intro Tryz.func140 rfl (by kernel_rfl) fun C => ?_
    repeat (first | (refine A1 ⟨?_⟩; intros) | (refine Wcx (c1) ?_) | (refine Wdcx (c1) ?_) | (refine Wcgx (c1) ?_) | (refine Wdcgx (c1) ?_) | (refine Wcx (c2) ?_) | (refine Wdcx (c2) ?_) | (refine Wcgx (c2) ?_) | (refine Wdcgx (c2) ?_))
    ((first | refine endR ?_ | refine endN ?_); exact end1 (RV.tmp rfl) (Le.refl _))
theorem rnormalQ_pu {r : RQ} {L : Nat} (h : r.ok L) (hL : L ≤ 1000) : Pu Tryz.prog 97 [qr r] (lit (.bool (nrmQ r))) := by
  cases hn : nrmQ r with
  | true =>
    rw [nrmQ_q hn]
    exact normalQ_t r.v (ht_v h) (by omega)
  | false =>
    have hne := of_decide_eq_false hn
    have hht := ht_v h
    have c1 := q_pu h (by omega)
    have c2 := toQ_pu r.v (by omega)
    have n1 := ht_num r.v
    have n2 := ht_den r.v
    obtain ⟨h1, h2, h3, h4⟩ := h
    have c3 := sameQ_g r.s (decide (r.v.num < 0)) r.n r.d (dgs r.v.num.natAbs) (dgs r.v.den) (by omega) (by omega) (show il r.v.num ≤ _ by omega) (by omega)
    rw [decide_eq_false (p := (r.s = decide (r.v.num < 0) ∧ r.n = dgs r.v.num.natAbs) ∧ r.d = dgs r.v.den) (fun h => hne ⟨h.1.1, h.1.2, h.2⟩)] at c3
    clear hne hn
    refine Pu.intro Tryz.func97 rfl (by kernel_rfl) fun C => ?_
    repeat (first | (refine A1 ⟨?_⟩; intros) | (refine Wcx (c1) ?_) | (refine Wdcx (c1) ?_) | (refine Wcgx (c1) ?_) | (refine Wdcgx (c1) ?_) | (refine Wcx (c2) ?_) | (refine Wdcx (c2) ?_) | (refine Wcgx (c2) ?_) | (refine Wdcgx (c2) ?_) | (refine Wcx (c3) ?_) | (refine Wdcx (c3) ?_) | (refine Wcgx (c3) ?_) | (refine Wdcgx (c3) ?_))
    ((first | refine endR ?_ | refine endN ?_); exact end1 (RV.tmp rfl) (Le.refl _))
end Go.Ab
/- Packages integer, frac, rational: texts. -/
namespace Go.Ab
open Go.Proofs
set_option linter.unusedSectionVars false
set_option linter.unusedVariables false
set_option linter.unusedSimpArgs false
variable [Base]
theorem formatI_pu (z : Int) {L : Nat} (hz : il z ≤ L) (hL : L ≤ 10000) : Pu Tryz.prog 266 [int z] (str (if z < 0 then [45] ++ dec z.natAbs else dec z.natAbs)) := by
  have e1 : il z = (dgs z.natAbs).length := rfl
  have c := sign_raw (decide (z < 0)) (dgs z.natAbs) (by omega) (D_dgs _)
  rw [val_dgs, sv_int] at c
  have c1 := formatN_pu z.natAbs (L := L) (by omega) (by omega)
  have hl := dec_len (n := z.natAbs) (L := L) (by omega)
  generalize dec z.natAbs = s at *
  have k1 : ([45] : List UInt8).length = 1 := rfl
  by_cases h : z < 0
  · rw [Int.sign_eq_neg_one_of_neg h] at c
    rw [if_pos h]
    refine Pu.intro Tryz.func266 rfl (by kernel_rfl) fun C => ?_
    repeat (first | (refine A1 ⟨?_⟩; intros) | (refine Wcx (c) ?_) | (refine Wdcx (c) ?_) | (refine Wcgx (c) ?_) | (refine Wdcgx (c) ?_) | (refine Wcx (c1) ?_) | (refine Wdcx (c1) ?_) | (refine Wcgx (c1) ?_) | (refine Wdcgx (c1) ?_))
    ((first | refine endR ?_ | refine endN ?_); exact end1 (RV.tmp rfl) (Le.refl _))
  · obtain ⟨hs, hs2⟩ : 0 ≤ z.sign ∧ z.sign ≤ 1 := by
      rcases Int.lt_trichotomy z 0 with h0 | h0 | h0
      · omega
      · rw [h0]; decide
      · rw [Int.sign_eq_one_of_pos h0]; omega
    generalize z.sign = g at *
    rw [if_neg h]
    refine Pu.intro Tryz.func266 rfl (by kernel_rfl) fun C => ?_
    repeat (first | (refine A1 ⟨?_⟩; intros) | (refine Wcx (c) ?_) | (refine Wdcx (c) ?_) | (refine Wcgx (c) ?_) | (refine Wdcgx (c) ?_) | (refine Wcx (c1) ?_) | (refine Wdcx (c1) ?_) | (refine Wcgx (c1) ?_) | (refine Wdcgx (c1) ?_))
    ((first | refine endR ?_ | refine endN ?_); exact end1 (RV.tmp rfl) (Le.refl _))
theorem rwhole_pu (x : Rat) (h : ht x ≤ 10000000) : Pu Tryz.prog 268 [fr x] (lit (.bool (decide (x.den = 1)))) := by
  have b1 := ht_den x
  by_cases hs : small x
  · rw [fr_s hs]
    have h1 := hs.2
    by_cases h2 : x.den = 1
    · rw [decide_eq_true h2, h2]
      refine Pu.intro Tryz.func268 rfl (by kernel_rfl) fun C => ?_
      repeat (refine A1 ⟨?_⟩; intros)
      ((first | refine endR ?_ | refine endN ?_); exact end1 (RV.tmp rfl) (Le.refl _))
    · rw [decide_eq_false h2]
      have h3 := x.den_nz
      refine Pu.intro Tryz.func268 rfl (by kernel_rfl) fun C => ?_
      repeat (refine A1 ⟨?_⟩; intros)
      ((first | refine endR ?_ | refine endN ?_); exact end1 (RV.tmp rfl) (Le.refl _))
  · rw [fr_b hs]
    have c := bits_nat (dgs x.den) (by omega) (D_dgs _)
    rw [val_dgs] at c
    have h1 := blen_1 (n := x.den)
    by_cases h2 : x.den = 1
    · have h3 := h1.2 h2
      rw [decide_eq_true h2]
      refine Pu.intro Tryz.func268 rfl (by kernel_rfl) fun C => ?_
      repeat (first | (refine A1 ⟨?_⟩; intros) | (refine Wcx (c) ?_) | (refine Wdcx (c) ?_) | (refine Wcgx (c) ?_) | (refine Wdcgx (c) ?_))
      ((first | refine endR ?_ | refine endN ?_); exact end1 (RV.tmp rfl) (Le.refl _))
    · have h3 : blen x.den ≠ 1 := fun h => h2 (h1.1 h)
      rw [decide_eq_false h2]
      refine Pu.intro Tryz.func268 rfl (by kernel_rfl) fun C => ?_
      repeat (first | (refine A1 ⟨?_⟩; intros) | (refine Wcx (c) ?_) | (refine Wdcx (c) ?_) | (refine Wcgx (c) ?_) | (refine Wdcgx (c) ?_))
      ((first | refine endR ?_ | refine endN ?_); exact end1 (RV.tmp rfl) (Le.refl _))
theorem string_pu (x : Rat) {L : Nat} (hx : ht x ≤ L) (hL : L ≤ 10000) : Pu Tryz.prog 230 [fr x] (str (fmt x)) := by
  have n1 := ht_num x
  have n2 := ht_den x
  have a1 := num_pu x (by omega)
  have a2 := den_pu x (by omega)
  have a3 := rwhole_pu x (by omega)
  have c1 := formatI_pu x.num (L := L) (by omega) (by omega)
  have c2 := formatN_pu x.den (L := L) (by omega) (by omega)
  have l1 := dec_len (n := x.num.natAbs) (L := L) (show il x.num ≤ L by omega)
  have l2 := dec_len (n := x.den) (L := L) (by omega)
  have k1 : ([45] : List UInt8).length = 1 := rfl
  have k2 : ([47] : List UInt8).length = 1 := rfl
  unfold fmt
  have l3 : (if x.num < 0 then [45] ++ dec x.num.natAbs else dec x.num.natAbs).length ≤ 10 * L + 2 := by
    split
    · rw [List.length_append, k1]; omega
    · omega
  generalize (if x.num < 0 then [45] ++ dec x.num.natAbs else dec x.num.natAbs) = D1 at *
  generalize hD2 : dec x.den = D2 at *
  have k3 : ([47] ++ D2).length = D2.length + 1 := by simp
  by_cases h2 : x.den = 1
  · rw [if_pos h2, List.append_nil]
    rw [decide_eq_true h2] at a3
    refine Pu.intro Tryz.func230 rfl (by kernel_rfl) fun C => ?_
    repeat (first | (refine A1 ⟨?_⟩; intros) | (refine Wcx (a1) ?_) | (refine Wdcx (a1) ?_) | (refine Wcgx (a1) ?_) | (refine Wdcgx (a1) ?_) | (refine Wcx (a2) ?_) | (refine Wdcx (a2) ?_) | (refine Wcgx (a2) ?_) | (refine Wdcgx (a2) ?_) | (refine Wcx (a3) ?_) | (refine Wdcx (a3) ?_) | (refine Wcgx (a3) ?_) | (refine Wdcgx (a3) ?_) | (refine Wcx (c1) ?_) | (refine Wdcx (c1) ?_) | (refine Wcgx (c1) ?_) | (refine Wdcgx (c1) ?_) | (refine Wcx (c2) ?_) | (refine Wdcx (c2) ?_) | (refine Wcgx (c2) ?_) | (refine Wdcgx (c2) ?_))
    ((first | refine endR ?_ | refine endN ?_); exact end1 (RV.tmp rfl) (Le.refl _))
  · rw [if_neg h2]
    rw [decide_eq_false h2] at a3
    refine Pu.intro Tryz.func230 rfl (by kernel_rfl) fun C => ?_
    repeat (first | (refine A1 ⟨?_⟩; intros) | (refine Wcx (a1) ?_) | (refine Wdcx (a1) ?_) | (refine Wcgx (a1) ?_) | (refine Wdcgx (a1) ?_) | (refine Wcx (a2) ?_) | (refine Wdcx (a2) ?_) | (refine Wcgx (a2) ?_) | (refine Wdcgx (a2) ?_) | (refine Wcx (a3) ?_) | (refine Wdcx (a3) ?_) | (refine Wcgx (a3) ?_) | (refine Wdcgx (a3) ?_) | (refine Wcx (c1) ?_) | (refine Wdcx (c1) ?_) | (refine Wcgx (c1) ?_) | (refine Wdcgx (c1) ?_) | (refine Wcx (c2) ?_) | (refine Wdcx (c2) ?_) | (refine Wcgx (c2) ?_) | (refine Wdcgx (c2) ?_))
    ((first | refine endR ?_ | refine endN ?_); exact end1 (RV.tmp rfl) (Le.refl _))
theorem formatQ_pu (x : Rat) {L : Nat} (hx : ht x ≤ L) (hL : L ≤ 10000) : Pu Tryz.prog 182 [q x] (str (fmt x)) := by
  have n1 := ht_num x
  have n2 := ht_den x
  have e1 : il x.num = (dgs x.num.natAbs).length := rfl
  have c1 := of_raw (decide (x.num < 0)) (dgs x.num.natAbs) (dgs x.den) (by omega) (by omega) (D_dgs _) (D_dgs _)
  rw [val_dgs, val_dgs, sv_int, Rat.mkRat_self] at c1
  have c2 := string_pu x hx hL
  refine Pu.intro Tryz.func182 rfl (by kernel_rfl) fun C => ?_
  repeat (first | (refine A1 ⟨?_⟩; intros) | (refine Wcx (c1) ?_) | (refine Wdcx (c1) ?_) | (refine Wcgx (c1) ?_) | (refine Wdcgx (c1) ?_) | (refine Wcx (c2) ?_) | (refine Wdcx (c2) ?_) | (refine Wcgx (c2) ?_) | (refine Wdcgx (c2) ?_))
  ((first | refine endR ?_ | refine endN ?_); exact end1 (RV.tmp rfl) (Le.refl _))
end Go.Ab
/- Package grammar: numbers and points into the writer. -/
namespace Go.Ab
open Go.Proofs
set_option linter.unusedSectionVars false
set_option linter.unusedVariables false
set_option linter.unusedSimpArgs false
variable [Base]
/-- a writer at w that has written l -/
def Wtr (w : Nat) (l : List UInt8) (d : Nat) (H : LH) : Prop := ∃ a s Hb, (a = fresh ∨ a = self w) ∧ Byt l s Hb ∧ H = (w, 136, wrC a s d false) :: Hb
theorem putW_pu {w b d : Nat} {l : List UInt8} {H : LH} (h : Wtr w l d H) (t : List UInt8) (hl : l.length + t.length ≤ 1000000000) :
    PuH Tryz.prog 65 [lit (.pointer (some ⟨w, 0, none⟩)), lit (.slice (some ⟨b, 0, none⟩) 1 1)] ((b, 9, [str t]) :: H) (fun r H' => r = Ab.tup [] ∧ Wtr w (l ++ t) d H') noX := by
  obtain ⟨a, s, Hb, ha, hb, rfl⟩ := h
  exact (put1_pu ha hb t hl d false).mono (fun r H' => by
    rintro ⟨s', Hb', hb', rfl, rfl⟩
    exact ⟨rfl, _, _, _, .inr rfl, hb', rfl⟩) fun _ _ h => h
theorem digits_pu (w n : Nat) (hn : (dgs n).length ≤ 300) : PuH Tryz.prog 181 [lit (.pointer (some ⟨w, 0, none⟩)), nat n] [] (fun r H' => r = Ab.tup [] ∧ H' = []) noX := by
  have c := bits_nat (dgs n) (by omega) (D_dgs _)
  have hb := blen_val (D_dgs n)
  rw [val_dgs] at c hb
  refine PuH.intro Tryz.func181 rfl (by kernel_rfl) fun C hC => ?_
  repeat (first | (refine A1 ⟨?_⟩; intros) | (refine Wcx (c) ?_) | (refine Wdcx (c) ?_) | (refine Wcgx (c) ?_) | (refine Wdcgx (c) ?_))
  exact endHN _ _ end0 (List.Sublist.refl _) ⟨rfl, rfl⟩
theorem rational_pu {w d : Nat} {l : List UInt8} {H : LH} (h : Wtr w l d H) (r : RQ) {L : Nat} (hr : r.ok L) (hL : L ≤ 200) (hl : l.length ≤ 100000000) :
    PuH Tryz.prog 139 [lit (.pointer (some ⟨w, 0, none⟩)), qr r] H (fun r' H' => nrmQ r = true ∧ r' = Ab.tup [] ∧ Wtr w (l ++ fmt r.v) d H') (fun pv _ => nrmQ r = false ∧ pv = inval) := by
  have c0 := fnormal_pu hr (by omega)
  have c1 : Pu Tryz.prog 180 [qr r] (lit (.bool (nrmQ r))) := by
    refine Pu.intro Tryz.func180 rfl (by kernel_rfl) fun C => ?_
    repeat (first | (refine A1 ⟨?_⟩; intros) | (refine Wcx (c0) ?_) | (refine Wdcx (c0) ?_) | (refine Wcgx (c0) ?_) | (refine Wdcgx (c0) ?_))
    ((first | refine endR ?_ | refine endN ?_); exact end1 (RV.tmp rfl) (Le.refl _))
  clear c0
  have hht := ht_v hr
  cases hn : nrmQ r with
  | false =>
    rw [hn] at c1
    refine PuH.intro Tryz.func139 rfl (by kernel_rfl) fun C hC => ?_
    repeat (first | (refine A1 ⟨?_⟩; intros) | (refine Wcx (c1) ?_) | (refine Wdcx (c1) ?_) | (refine Wcgx (c1) ?_) | (refine Wdcgx (c1) ?_))
    refine WneedF ?_
    rw [hC]
    exact ⟨rfl, rfl⟩
  | true =>
    rw [hn] at c1
    rw [nrmQ_q hn] at c1 ⊢
    have n1 := ht_num r.v
    have n2 := ht_den r.v
    have e1 : il r.v.num = (dgs r.v.num.natAbs).length := rfl
    have c2 := formatQ_pu r.v hht (by omega)
    have hf := fmt_len hht
    generalize r.v = x at *
    refine PuH.intro Tryz.func139 rfl (by kernel_rfl) fun C hC => ?_
    repeat (first | (refine A1 ⟨?_⟩; intros) | (refine Wcx (c1) ?_) | (refine Wdcx (c1) ?_) | (refine Wcgx (c1) ?_) | (refine Wdcgx (c1) ?_))
    refine WneedT ?_
    repeat (refine A1 ⟨?_⟩; intros)
    refine WfH (digits_pu w x.num.natAbs (by omega)) ?_
    rintro _ _ ⟨rfl, rfl⟩
    simp only [List.cons_append, List.nil_append]
    repeat (refine A1 ⟨?_⟩; intros)
    refine WfH (digits_pu w x.den (by omega)) ?_
    rintro _ _ ⟨rfl, rfl⟩
    simp only [List.cons_append, List.nil_append]
    repeat (first | (refine A1 ⟨?_⟩; intros) | (refine Wcx (c2) ?_) | (refine Wdcx (c2) ?_) | (refine Wcgx (c2) ?_) | (refine Wdcgx (c2) ?_))
    refine WfH (putW_pu h (fmt x) (by omega)) ?_
    rintro _ _ ⟨rfl, h'⟩
    repeat (refine A1 ⟨?_⟩; intros)
    exact endHN _ _ end0 (List.sublist_append_left _ _) ⟨by trivial, rfl, h'⟩
def ptxt (a b : RQ) : List UInt8 := [40] ++ fmt a.v ++ [44] ++ fmt b.v ++ [41]
theorem ptxt_len {a b : RQ} {L : Nat} (ha : a.ok L) (hb : b.ok L) : (ptxt a b).length ≤ 40 * L + 60 := by
  have h1 := fmt_len (ht_v ha)
  have h2 := fmt_len (ht_v hb)
  unfold ptxt
  simp only [List.length_append, List.length_cons, List.length_nil]
  omega
theorem point_pu {w d : Nat} {l : List UInt8} {H : LH} (h : Wtr w l d H) (a b : RQ) {L : Nat} (ha : a.ok L) (hb : b.ok L) (hL : L ≤ 200) (hl : l.length ≤ 90000000) :
    PuH Tryz.prog 96 [lit (.pointer (some ⟨w, 0, none⟩)), pr a b] H (fun r' H' => (nrmQ a && nrmQ b) = true ∧ r' = Ab.tup [] ∧ Wtr w (l ++ ptxt a b) d H') (fun pv _ => (nrmQ a && nrmQ b) = false ∧ pv = inval) := by
  have h1 := fmt_len (ht_v ha)
  have h2 := fmt_len (ht_v hb)
  have k1 : ([40] : List UInt8).length = 1 := rfl
  have k2 : ([44] : List UInt8).length = 1 := rfl
  have k3 : ([41] : List UInt8).length = 1 := rfl
  refine PuH.intro Tryz.func96 rfl (by kernel_rfl) fun C hC => ?_
  repeat (refine A1 ⟨?_⟩; intros)
  refine WfH (putW_pu h [40] (by omega)) ?_
  rintro _ _ ⟨rfl, g1⟩
  refine WPL.perm List.perm_append_comm ?_
  simp only [List.cons_append, List.nil_append]
  repeat (refine A1 ⟨?_⟩; intros)
  refine WfX (rational_pu g1 a ha hL (by rw [List.length_append]; omega)) ?_ ?_
  · rintro _ _ ⟨n1, rfl, g2⟩
    simp only [List.cons_append, List.nil_append]
    repeat (refine A1 ⟨?_⟩; intros)
    have hl2 : (l ++ [40] ++ fmt a.v).length ≤ l.length + 20 * (L + 1) + 5 := by
      rw [List.length_append, List.length_append]; omega
    refine WfH (putW_pu g2 [44] (by omega)) ?_
    rintro _ _ ⟨rfl, g3⟩
    refine WPL.perm List.perm_append_comm ?_
    simp only [List.cons_append, List.nil_append]
    repeat (refine A1 ⟨?_⟩; intros)
    refine WfX (rational_pu g3 b hb hL (by rw [List.length_append]; omega)) ?_ ?_
    · rintro _ _ ⟨n2, rfl, g4⟩
      simp only [List.cons_append, List.nil_append]
      repeat (refine A1 ⟨?_⟩; intros)
      refine WfH (putW_pu g4 [41] (by rw [List.length_append, List.length_append]; omega)) ?_
      rintro _ _ ⟨rfl, g5⟩
      repeat (refine A1 ⟨?_⟩; intros)
      exact endHN _ _ end0 (List.sublist_append_left _ _) ⟨by rw [n1, n2]; rfl, rfl, by simpa only [ptxt, List.append_assoc] using g5⟩
    · rintro _ _ ⟨n2, rfl⟩
      rw [hC]
      exact ⟨by rw [n1, n2]; rfl, rfl⟩
  · rintro _ _ ⟨n1, rfl⟩
    rw [hC]
    exact ⟨by rw [n1]; rfl, rfl⟩
/-- two points, each behind a blank -/
def ptxt2 (a b c e : RQ) : List UInt8 := [32] ++ ptxt a b ++ ([32] ++ ptxt c e)
theorem points_pu {w d bp : Nat} {l : List UInt8} {H : LH} (h : Wtr w l d H) (a b c e : RQ) {L : Nat} (ha : a.ok L) (hb : b.ok L) (hc : c.ok L) (he : e.ok L) (hL : L ≤ 200) (hl : l.length ≤ 80000000) :
    PuH Tryz.prog 94 [lit (.pointer (some ⟨w, 0, none⟩)), lit (.slice (some ⟨bp, 0, none⟩) 2 2)]
      ((bp, 31, [lit (.bool a.s), dg a.n, dg a.d, lit (.bool b.s), dg b.n, dg b.d, lit (.bool c.s), dg c.n, dg c.d, lit (.bool e.s), dg e.n, dg e.d]) :: H)
      (fun r' H' => (nrmQ a && nrmQ b && (nrmQ c && nrmQ e)) = true ∧ r' = Ab.tup [] ∧ Wtr w (l ++ ptxt2 a b c e) d H') (fun pv _ => (nrmQ a && nrmQ b && (nrmQ c && nrmQ e)) = false ∧ pv = inval) := by
  have h1 := ptxt_len ha hb
  have h2 := ptxt_len hc he
  have k1 : ([32] : List UInt8).length = 1 := rfl
  refine PuH.intro Tryz.func94 rfl (by kernel_rfl) fun C hC => ?_
  repeat (refine A1 ⟨?_⟩; intros)
  refine WneedT ?_
  repeat (refine A1 ⟨?_⟩; intros)
  refine WP.unroll 3 ?_
  refine WPR.succ ?_
  repeat (refine A1 ⟨?_⟩; intros)
  refine WfH (putW_pu h [32] (by omega)) ?_
  rintro _ _ ⟨rfl, g1⟩
  refine WPL.perm List.perm_append_comm ?_
  simp only [List.cons_append, List.nil_append]
  repeat (refine A1 ⟨?_⟩; intros)
  refine WfX (point_pu g1 a b ha hb hL (by rw [List.length_append]; omega)) ?_ ?_
  · rintro _ _ ⟨n1, rfl, g2⟩
    simp only [List.cons_append, List.nil_append]
    repeat (refine A1 ⟨?_⟩; intros)
    have hl2 : (l ++ [32] ++ ptxt a b).length = l.length + 1 + (ptxt a b).length := by
      rw [List.length_append, List.length_append]; omega
    refine WfH (putW_pu g2 [32] (by omega)) ?_
    rintro _ _ ⟨rfl, g3⟩
    refine WPL.perm List.perm_append_comm ?_
    simp only [List.cons_append, List.nil_append]
    repeat (refine A1 ⟨?_⟩; intros)
    refine WfX (point_pu g3 c e hc he hL (by rw [List.length_append]; omega)) ?_ ?_
    · rintro _ _ ⟨n2, rfl, g4⟩
      simp only [List.cons_append, List.nil_append]
      repeat (refine A1 ⟨?_⟩; intros)
      refine endHN _ _ end0 ?_ ⟨by rw [n1, n2]; rfl, rfl, by simpa only [ptxt2, List.append_assoc] using g4⟩
      repeat (first | exact List.Sublist.refl _ | refine List.Sublist.cons _ ?_)
    · rintro _ _ ⟨n2, rfl⟩
      rw [hC]
      exact ⟨by rw [n1, n2]; rfl, rfl⟩
  · rintro _ _ ⟨n1, rfl⟩
    rw [hC]
    exact ⟨by rw [n1]; rfl, rfl⟩
end Go.Ab
