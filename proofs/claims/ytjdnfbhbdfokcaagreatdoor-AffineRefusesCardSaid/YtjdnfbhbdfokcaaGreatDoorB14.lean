/- Texts laid one behind the other: LnM, LnA, LnB, RgM. -/
import Derived.Test.YtjdnfbhbdfokcaaGreatDoorB13
import Derived.Test.YtjdnfbhbdfokcaaGreatDoorB10
set_option linter.unusedSectionVars false
set_option linter.unusedVariables false
set_option linter.unusedSimpArgs false
namespace Go.Ab
open Go.Proofs
variable [Base]
def rgcd (x y : Rat) : Rat := mkRat (Nat.gcd (x.num.natAbs * y.den) (y.num.natAbs * x.den) : Nat) (x.den * y.den)
theorem cross_mk {x : Rat} {p : Int} {d : Nat} (hd : d ≠ 0) (h : x = mkRat p d) : x.num * d = p * x.den := by
  have h1 := Rat.mkRat_self x
  rw [← h1] at h
  conv at h => lhs; rw [h1]
  have := (Rat.mkRat_eq_iff (n₁ := x.num) (n₂ := p) x.den_nz hd).1 (by rw [Rat.mkRat_self]; exact h)
  rw [this]
theorem rgcd_of {x y : Rat} {p q : Int} {d : Nat} (hd : d ≠ 0) (hx : x = mkRat p d) (hy : y = mkRat q d) : rgcd x y = mkRat (Nat.gcd p.natAbs q.natAbs : Nat) d := by
  have cx := congrArg Int.natAbs (cross_mk hd hx)
  have cy := congrArg Int.natAbs (cross_mk hd hy)
  rw [Int.natAbs_mul, Int.natAbs_mul, Int.natAbs_natCast, Int.natAbs_natCast] at cx cy
  unfold rgcd
  rw [Rat.mkRat_eq_iff (Nat.mul_ne_zero x.den_nz y.den_nz) hd]
  have : Nat.gcd (x.num.natAbs * y.den) (y.num.natAbs * x.den) * d = Nat.gcd p.natAbs q.natAbs * (x.den * y.den) := by
    rw [← Nat.gcd_mul_right, ← Nat.gcd_mul_right]
    congr 1
    · rw [Nat.mul_right_comm, cx, Nat.mul_assoc]
    · rw [Nat.mul_right_comm, cy, Nat.mul_assoc, Nat.mul_comm y.den]
  exact_mod_cast this
theorem common (x y : Rat) : ∃ (p q : Int) (d : Nat), d ≠ 0 ∧ x = mkRat p d ∧ y = mkRat q d := by
  refine ⟨x.num * y.den, y.num * x.den, x.den * y.den, Nat.mul_ne_zero x.den_nz y.den_nz, ?_, ?_⟩
  · rw [Rat.mkRat_mul_right y.den_nz, Rat.mkRat_self]
  · rw [Nat.mul_comm x.den, Rat.mkRat_mul_right x.den_nz, Rat.mkRat_self]
theorem rgcd_nonneg (x y : Rat) : 0 ≤ rgcd x y := by
  unfold rgcd
  rw [← Rat.num_nonneg, Rat.num_mkRat]
  rw [if_neg (Nat.mul_ne_zero x.den_nz y.den_nz)]
  exact Int.ediv_nonneg (Int.natCast_nonneg _) (Int.natCast_nonneg _)
theorem rgcd_dvd (x y : Rat) : ∃ k l : Int, x = k * rgcd x y ∧ y = l * rgcd x y := by
  obtain ⟨p, q, d, hd, hx, hy⟩ := common x y
  rw [rgcd_of hd hx hy]
  have h1 : (Nat.gcd p.natAbs q.natAbs : Int) ∣ p := Int.ofNat_dvd_left.2 (Nat.gcd_dvd_left _ _)
  have h2 : (Nat.gcd p.natAbs q.natAbs : Int) ∣ q := Int.ofNat_dvd_left.2 (Nat.gcd_dvd_right _ _)
  obtain ⟨k, hk⟩ := h1
  obtain ⟨l, hl⟩ := h2
  have key : ∀ (z k : Int), z = (Nat.gcd p.natAbs q.natAbs : Int) * k → mkRat z d = (k : Rat) * mkRat (Nat.gcd p.natAbs q.natAbs : Nat) d := fun z k h => by
    have e : (k : Rat) = mkRat k 1 := (Rat.mkRat_one k).symm
    rw [e, Rat.mkRat_mul_mkRat, Nat.one_mul, h, Int.mul_comm]
  exact ⟨k, l, by rw [hx]; exact key p k hk, by rw [hy]; exact key q l hl⟩
theorem rgcd_zero {x y : Rat} (h : rgcd x y = 0) : x = 0 ∧ y = 0 := by
  obtain ⟨k, l, h1, h2⟩ := rgcd_dvd x y
  rw [h, Rat.mul_zero] at h1 h2
  exact ⟨h1, h2⟩
theorem rgcd_ints (a b : Int) : rgcd a b = ((Nat.gcd a.natAbs b.natAbs : Nat) : Rat) := by
  unfold rgcd
  rw [Rat.num_intCast, Rat.num_intCast, Rat.den_intCast, Rat.den_intCast, Nat.mul_one, Nat.mul_one, Nat.mul_one, Rat.mkRat_one]; rfl
structure Li where
  a : Int
  b : Int
  c : Int
def Li.ok (l : Li) : Prop := Nat.gcd (Nat.gcd l.a.natAbs l.b.natAbs) l.c.natAbs = 1 ∧ (l.a ≠ 0 ∨ l.b ≠ 0)
def g3 (a b c : Rat) : Rat := rgcd (rgcd a b) c
def prim (a b c : Rat) : Li := ⟨(a * (g3 a b c)⁻¹).num, (b * (g3 a b c)⁻¹).num, (c * (g3 a b c)⁻¹).num⟩
theorem g3_pos {a b c : Rat} (h : a ≠ 0 ∨ b ≠ 0) : 0 < g3 a b c := by
  have h0 := rgcd_nonneg (rgcd a b) c
  rcases Rat.le_iff_lt_or_eq.1 h0 with h1 | h1
  · exact h1
  · exfalso
    have h2 := (rgcd_zero h1.symm).1
    have h3 := rgcd_zero h2
    rcases h with h | h
    · exact h h3.1
    · exact h h3.2
theorem num_int {x : Rat} (h : x.den = 1) : (x.num : Rat) = x := by
  apply Rat.ext <;> simp [h]
theorem prim_eq {a b c : Rat} (h : a ≠ 0 ∨ b ≠ 0) : a * (g3 a b c)⁻¹ = ((prim a b c).a : Rat) ∧ b * (g3 a b c)⁻¹ = ((prim a b c).b : Rat) ∧ c * (g3 a b c)⁻¹ = ((prim a b c).c : Rat) := by
  have hg := g3_pos (c := c) h
  have hne : g3 a b c ≠ 0 := fun e => by rw [e] at hg; exact absurd hg (by decide)
  obtain ⟨k, l, h1, h2⟩ := rgcd_dvd a b
  obtain ⟨u, v, h3, h4⟩ := rgcd_dvd (rgcd a b) c
  have ea : a * (g3 a b c)⁻¹ = ((k * u : Int) : Rat) := by
    have : a = ((k * u : Int) : Rat) * g3 a b c := by rw [Rat.intCast_mul, Rat.mul_assoc]; unfold g3; rw [← h3]; exact h1
    generalize g3 a b c = g at *
    rw [this, Rat.mul_assoc, Rat.mul_inv_cancel _ hne, Rat.mul_one]
  have eb : b * (g3 a b c)⁻¹ = ((l * u : Int) : Rat) := by
    have : b = ((l * u : Int) : Rat) * g3 a b c := by rw [Rat.intCast_mul, Rat.mul_assoc]; unfold g3; rw [← h3]; exact h2
    generalize g3 a b c = g at *
    rw [this, Rat.mul_assoc, Rat.mul_inv_cancel _ hne, Rat.mul_one]
  have ec : c * (g3 a b c)⁻¹ = ((v : Int) : Rat) := by
    have : c = ((v : Int) : Rat) * g3 a b c := h4
    generalize g3 a b c = g at *
    rw [this, Rat.mul_assoc, Rat.mul_inv_cancel _ hne, Rat.mul_one]
  unfold prim
  simp only []
  rw [ea, eb, ec, Rat.num_intCast, Rat.num_intCast, Rat.num_intCast]
  exact ⟨rfl, rfl, rfl⟩
def Li.im (m : M6 Rat) (l : Li) : Li := prim (l.a * m.inv.a + l.b * m.inv.d) (l.a * m.inv.b + l.b * m.inv.e) (l.a * m.inv.c + l.b * m.inv.f + l.c)
theorem Li.im_ne {m : M6 Rat} {l : Li} (h : m.det ≠ 0) (hl : l.ok) : (l.a : Rat) * m.inv.a + l.b * m.inv.d ≠ 0 ∨ (l.a : Rat) * m.inv.b + l.b * m.inv.e ≠ 0 := by
  have h1 : m.det * m.det⁻¹ = 1 := Rat.mul_inv_cancel _ h
  have hd : m.det = m.a * m.e - m.d * m.b := rfl
  unfold M6.inv
  simp only []
  generalize m.det⁻¹ = k at *
  generalize m.det = D at *
  by_cases e1 : (l.a : Rat) * (m.e * k) + l.b * (-m.d * k) = 0
  · right
    intro e2
    have ha : (l.a : Rat) = 0 := by grind
    have hb : (l.b : Rat) = 0 := by grind
    rcases hl.2 with h | h
    · exact h (by exact_mod_cast ha)
    · exact h (by exact_mod_cast hb)
  · exact .inl e1
def nrm (xs : List Nat) : Bool := decide (xs.length = 0) || decide (xs.getD (xs.length - 1) 0 ≠ 0)
theorem nrm_dgs (n : Nat) : nrm (dgs n) = true := by
  by_cases h : n = 0
  · subst h; rw [dgs_zero]; rfl
  · obtain ⟨k, h1, h2, _⟩ := dgs_top h
    unfold nrm
    rw [h1, Nat.add_sub_cancel, decide_eq_true h2, Bool.or_true]
theorem natNormal_pu (xs : List Nat) (hl : xs.length ≤ 1000000000) : Pu Tryz.prog 127 [dg xs] (lit (.bool (nrm xs))) := by
  unfold nrm
  by_cases h : xs.length = 0
  · rw [decide_eq_true h, Bool.true_or]
    refine Pu.intro Tryz.func127 rfl (by kernel_rfl) fun C => ?_
    repeat (refine A1 ⟨?_⟩; intros)
    ((first | refine endR ?_ | refine endN ?_); exact end1 (RV.tmp rfl) (Le.refl _))
  · rw [decide_eq_false h, Bool.false_or]
    by_cases h1 : xs.getD (xs.length - 1) 0 = 0
    · rw [decide_eq_false (fun e => e h1)]
      refine Pu.intro Tryz.func127 rfl (by kernel_rfl) fun C => ?_
      repeat (refine A1 ⟨?_⟩; intros)
      ((first | refine endR ?_ | refine endN ?_); exact end1 (RV.tmp rfl) (Le.refl _))
    · rw [decide_eq_true h1]
      refine Pu.intro Tryz.func127 rfl (by kernel_rfl) fun C => ?_
      repeat (refine A1 ⟨?_⟩; intros)
      ((first | refine endR ?_ | refine endN ?_); exact end1 (RV.tmp rfl) (Le.refl _))
def nrmI (s : Bool) (xs : List Nat) : Bool := nrm xs && (!s || decide (0 < xs.length))
theorem nrmI_int (z : Int) : nrmI (decide (z < 0)) (dgs z.natAbs) = true := by
  unfold nrmI
  rw [nrm_dgs, Bool.true_and]
  by_cases h : z < 0
  · rw [decide_eq_true h, decide_eq_true (dgs_len_pos (by omega)), Bool.or_true]
  · rw [decide_eq_false h]; rfl
theorem intNormal_pu (s : Bool) (xs : List Nat) (hl : xs.length ≤ 1000000000) : Pu Tryz.prog 74 [raw s xs] (lit (.bool (nrmI s xs))) := by
  have hn := natNormal_pu xs hl
  unfold nrmI
  cases hx : nrm xs with
  | false =>
    rw [hx] at hn
    refine Pu.intro Tryz.func74 rfl (by kernel_rfl) fun C => ?_
    repeat (first | (refine A1 ⟨?_⟩; intros) | (refine Wcx (hn) ?_) | (refine Wdcx (hn) ?_) | (refine Wcgx (hn) ?_) | (refine Wdcgx (hn) ?_))
    ((first | refine endR ?_ | refine endN ?_); exact end1 (RV.tmp rfl) (Le.refl _))
  | true =>
    rw [hx] at hn
    cases s with
    | false =>
      refine Pu.intro Tryz.func74 rfl (by kernel_rfl) fun C => ?_
      repeat (first | (refine A1 ⟨?_⟩; intros) | (refine Wcx (hn) ?_) | (refine Wdcx (hn) ?_) | (refine Wcgx (hn) ?_) | (refine Wdcgx (hn) ?_))
      ((first | refine endR ?_ | refine endN ?_); exact end1 (RV.tmp rfl) (Le.refl _))
    | true =>
      by_cases h : 0 < xs.length
      · rw [decide_eq_true h]
        refine Pu.intro Tryz.func74 rfl (by kernel_rfl) fun C => ?_
        repeat (first | (refine A1 ⟨?_⟩; intros) | (refine Wcx (hn) ?_) | (refine Wdcx (hn) ?_) | (refine Wcgx (hn) ?_) | (refine Wdcgx (hn) ?_))
        ((first | refine endR ?_ | refine endN ?_); exact end1 (RV.tmp rfl) (Le.refl _))
      · rw [decide_eq_false h]
        refine Pu.intro Tryz.func74 rfl (by kernel_rfl) fun C => ?_
        repeat (first | (refine A1 ⟨?_⟩; intros) | (refine Wcx (hn) ?_) | (refine Wdcx (hn) ?_) | (refine Wcgx (hn) ?_) | (refine Wdcgx (hn) ?_))
        ((first | refine endR ?_ | refine endN ?_); exact end1 (RV.tmp rfl) (Le.refl _))
theorem intNormal_z (z : Int) (hl : il z ≤ 1000000000) : Pu Tryz.prog 74 [int z] (lit (.bool true)) := by
  have := intNormal_pu (decide (z < 0)) (dgs z.natAbs) hl
  rwa [nrmI_int] at this
theorem whole_pu (z : Int) (hl : il z ≤ 10000000) : Pu Tryz.prog 75 [int z] (fr (z : Rat)) := by
  have r := reduce_pu (decide (z < 0)) (dgs z.natAbs) [1] hl (by decide) (D_dgs _) (D.cons (by omega) D.nil)
  rw [val_dgs, sv_int, show val [1] = 1 from rfl, Rat.mkRat_one] at r
  refine Pu.intro Tryz.func75 rfl (by kernel_rfl) fun C => ?_
  repeat (refine A1 ⟨?_⟩; intros)
  refine WpubD (ds := [1]) 4 rfl (HDel.here _) rfl (by omega) (by omega) ?_
  repeat (first | (refine A1 ⟨?_⟩; intros) | (refine Wcx (r) ?_) | (refine Wdcx (r) ?_) | (refine Wcgx (r) ?_) | (refine Wdcgx (r) ?_))
  ((first | refine endR ?_ | refine endN ?_); refine end1 (RV.cellA rfl (by repeat (first | exact List.mem_cons_self | apply List.mem_cons_of_mem)) (by (try simp only [List.drop_succ_cons, List.drop_zero, List.drop_nil, List.take_succ_cons, List.take_zero, List.take_nil, Nat.zero_add, Nat.add_zero, Nat.reduceAdd]) <;> exact rfl) rfl) (Le.refl _))
theorem gcd_n (a b : Nat) (h1 : (dgs a).length ≤ 10000000) (h2 : (dgs b).length ≤ 10000000) : Pu Tryz.prog 131 [nat a, nat b] (nat (Nat.gcd a b)) := by
  have := gcd_nat (dgs a) (dgs b) h1 h2 (D_dgs _) (D_dgs _)
  rwa [val_dgs, val_dgs] at this
theorem dlen_gcd_le {a b n : Nat} (ha : (dgs a).length ≤ n) (hb : (dgs b).length ≤ n) : (dgs (Nat.gcd a b)).length ≤ n := by
  by_cases h : a = 0
  · subst h; rw [Nat.gcd_zero_left]; exact hb
  · exact Nat.le_trans (len_mono (Nat.gcd_le_left b (by omega))) ha
theorem ht_rgcd (x y : Rat) : ht (rgcd x y) ≤ ht x + ht y + 1 := by
  have h1 := ht_num x
  have h2 := ht_den x
  have h3 := ht_num y
  have h4 := ht_den y
  have e1 : il x.num = (dgs x.num.natAbs).length := rfl
  have e2 : il y.num = (dgs y.num.natAbs).length := rfl
  have m1 := dlen_mul x.num.natAbs y.den
  have m2 := dlen_mul y.num.natAbs x.den
  have m3 := dlen_mul x.den y.den
  have m4 := dlen_gcd_le (n := ht x + ht y) (a := x.num.natAbs * y.den) (b := y.num.natAbs * x.den) (by omega) (by omega)
  have := ht_mk ((Nat.gcd (x.num.natAbs * y.den) (y.num.natAbs * x.den) : Nat) : Int) (x.den * y.den)
  rw [il_nat] at this
  unfold rgcd; omega
theorem eq_int {x : Rat} (h : x.den = 1) : x = (x.num : Rat) := (num_int h).symm
set_option maxHeartbeats 1000000 in
theorem frgcd_pu (x y : Rat) (hx : ht x ≤ 3000000) (hy : ht y ≤ 3000000) : Pu Tryz.prog 76 [fr x, fr y] (fr (rgcd x y)) := by
  have d1 := x.den_pos
  have d2 := y.den_pos
  by_cases h : (small x ∧ small y) ∧ x.den = 1 ∧ y.den = 1
  · obtain ⟨⟨hsx, hsy⟩, h1, h2⟩ := h
    have e : rgcd x y = ((Nat.gcd x.num.natAbs y.num.natAbs : Nat) : Rat) := by
      have := rgcd_ints x.num y.num
      rwa [← eq_int h1, ← eq_int h2] at this
    have bx := hsx.1
    have byy := hsy.1
    have hg : Nat.gcd x.num.natAbs y.num.natAbs < 4611686018427387904 := by
      by_cases h0 : x.num.natAbs = 0
      · rw [h0, Nat.gcd_zero_left]; exact byy
      · exact Nat.lt_of_le_of_lt (Nat.gcd_le_left _ (by omega)) bx
    have hs : small ((Nat.gcd x.num.natAbs y.num.natAbs : Nat) : Rat) := by
      unfold small; rw [Rat.num_natCast, Rat.den_natCast]; omega
    rw [e, fr_s hsx, fr_s hsy, fr_s hs, Rat.num_natCast, Rat.den_natCast]
    have g := fgcd_pu x.num.natAbs y.num.natAbs (by omega) (by omega)
    have a1 := abs_pu x.num (by omega) (by omega)
    have a2 := abs_pu y.num (by omega) (by omega)
    generalize Nat.gcd x.num.natAbs y.num.natAbs = k at *
    refine Pu.intro Tryz.func76 rfl (by kernel_rfl) fun C => ?_
    repeat (first | (refine A1 ⟨?_⟩; intros) | (refine Wcx (a1) ?_) | (refine Wdcx (a1) ?_) | (refine Wcgx (a1) ?_) | (refine Wdcgx (a1) ?_) | (refine Wcx (a2) ?_) | (refine Wdcx (a2) ?_) | (refine Wcgx (a2) ?_) | (refine Wdcgx (a2) ?_) | (refine Wcx (g) ?_) | (refine Wdcx (g) ?_) | (refine Wcgx (g) ?_) | (refine Wdcgx (g) ?_))
    refine endR (end1 (RV.cellA rfl List.mem_cons_self rfl rfl) (Le.ag ⟨Le.refl _, Le.int (by omega), Le.refl _, trivial⟩))
  · have h1 := ht_num x
    have h2 := ht_den x
    have h3 := ht_num y
    have h4 := ht_den y
    have e1 : il x.num = (dgs x.num.natAbs).length := rfl
    have e2 : il y.num = (dgs y.num.natAbs).length := rfl
    have m1 := dlen_mul x.num.natAbs y.den
    have m2 := dlen_mul y.num.natAbs x.den
    have m3 := dlen_mul x.den y.den
    have m4 := dlen_gcd_le (n := ht x + ht y) (a := x.num.natAbs * y.den) (b := y.num.natAbs * x.den) (by omega) (by omega)
    have c1 := den_pu x (by omega)
    have c2 := den_pu y (by omega)
    have c3 := mul_n x.den y.den (by omega) (by omega)
    have c4 := num_pu x (by omega)
    have c5 := num_pu y (by omega)
    have c6 := mul_n x.num.natAbs y.den (by omega) (by omega)
    have c7 := mul_n y.num.natAbs x.den (by omega) (by omega)
    have c8 := gcd_n (x.num.natAbs * y.den) (y.num.natAbs * x.den) (by omega) (by omega)
    have c9 := reduce_int ((Nat.gcd (x.num.natAbs * y.den) (y.num.natAbs * x.den) : Nat) : Int) (x.den * y.den) (by rw [il_nat]; omega) (by omega)
    rw [int_nat] at c9
    clear m1 m2 m3 m4 h1 h2 h3 h4 e1 e2
    by_cases hsx : small x
    · by_cases hsy : small y
      · by_cases hx1 : x.den = 1
        · have hy1 : y.den ≠ 1 := fun e => h ⟨⟨hsx, hsy⟩, hx1, e⟩
          clear h
          rw [fr_s hsx, fr_s hsy]
          rw [fr_s hsx] at c1 c4
          rw [fr_s hsy] at c2 c5
          refine Pu.intro Tryz.func76 rfl (by kernel_rfl) fun C => ?_
          repeat (first | (refine A1 ⟨?_⟩; intros) | (refine Wcx (c1) ?_) | (refine Wdcx (c1) ?_) | (refine Wcgx (c1) ?_) | (refine Wdcgx (c1) ?_) | (refine Wcx (c2) ?_) | (refine Wdcx (c2) ?_) | (refine Wcgx (c2) ?_) | (refine Wdcgx (c2) ?_) | (refine Wcx (c3) ?_) | (refine Wdcx (c3) ?_) | (refine Wcgx (c3) ?_) | (refine Wdcgx (c3) ?_) | (refine Wcx (c4) ?_) | (refine Wdcx (c4) ?_) | (refine Wcgx (c4) ?_) | (refine Wdcgx (c4) ?_) | (refine Wcx (c6) ?_) | (refine Wdcx (c6) ?_) | (refine Wcgx (c6) ?_) | (refine Wdcgx (c6) ?_) | (refine Wcx (c5) ?_) | (refine Wdcx (c5) ?_) | (refine Wcgx (c5) ?_) | (refine Wdcgx (c5) ?_) | (refine Wcx (c7) ?_) | (refine Wdcx (c7) ?_) | (refine Wcgx (c7) ?_) | (refine Wdcgx (c7) ?_) | (refine Wcx (c8) ?_) | (refine Wdcx (c8) ?_) | (refine Wcgx (c8) ?_) | (refine Wdcgx (c8) ?_) | (refine Wcx (c9) ?_) | (refine Wdcx (c9) ?_) | (refine Wcgx (c9) ?_) | (refine Wdcgx (c9) ?_))
          ((first | refine endR ?_ | refine endN ?_); refine end1 (RV.cellA rfl (by repeat (first | exact List.mem_cons_self | apply List.mem_cons_of_mem)) (by (try simp only [List.drop_succ_cons, List.drop_zero, List.drop_nil, List.take_succ_cons, List.take_zero, List.take_nil, Nat.zero_add, Nat.add_zero, Nat.reduceAdd]) <;> exact rfl) rfl) (Le.refl _))
        · clear h
          rw [fr_s hsx, fr_s hsy]
          rw [fr_s hsx] at c1 c4
          rw [fr_s hsy] at c2 c5
          refine Pu.intro Tryz.func76 rfl (by kernel_rfl) fun C => ?_
          repeat (first | (refine A1 ⟨?_⟩; intros) | (refine Wcx (c1) ?_) | (refine Wdcx (c1) ?_) | (refine Wcgx (c1) ?_) | (refine Wdcgx (c1) ?_) | (refine Wcx (c2) ?_) | (refine Wdcx (c2) ?_) | (refine Wcgx (c2) ?_) | (refine Wdcgx (c2) ?_) | (refine Wcx (c3) ?_) | (refine Wdcx (c3) ?_) | (refine Wcgx (c3) ?_) | (refine Wdcgx (c3) ?_) | (refine Wcx (c4) ?_) | (refine Wdcx (c4) ?_) | (refine Wcgx (c4) ?_) | (refine Wdcgx (c4) ?_) | (refine Wcx (c6) ?_) | (refine Wdcx (c6) ?_) | (refine Wcgx (c6) ?_) | (refine Wdcgx (c6) ?_) | (refine Wcx (c5) ?_) | (refine Wdcx (c5) ?_) | (refine Wcgx (c5) ?_) | (refine Wdcgx (c5) ?_) | (refine Wcx (c7) ?_) | (refine Wdcx (c7) ?_) | (refine Wcgx (c7) ?_) | (refine Wdcgx (c7) ?_) | (refine Wcx (c8) ?_) | (refine Wdcx (c8) ?_) | (refine Wcgx (c8) ?_) | (refine Wdcgx (c8) ?_) | (refine Wcx (c9) ?_) | (refine Wdcx (c9) ?_) | (refine Wcgx (c9) ?_) | (refine Wdcgx (c9) ?_))
          ((first | refine endR ?_ | refine endN ?_); refine end1 (RV.cellA rfl (by repeat (first | exact List.mem_cons_self | apply List.mem_cons_of_mem)) (by (try simp only [List.drop_succ_cons, List.drop_zero, List.drop_nil, List.take_succ_cons, List.take_zero, List.take_nil, Nat.zero_add, Nat.add_zero, Nat.reduceAdd]) <;> exact rfl) rfl) (Le.refl _))
      · clear h
        rw [fr_s hsx, fr_b hsy]
        rw [fr_s hsx] at c1 c4
        rw [fr_b hsy] at c2 c5
        refine Pu.intro Tryz.func76 rfl (by kernel_rfl) fun C => ?_
        repeat (first | (refine A1 ⟨?_⟩; intros) | (refine Wcx (c1) ?_) | (refine Wdcx (c1) ?_) | (refine Wcgx (c1) ?_) | (refine Wdcgx (c1) ?_) | (refine Wcx (c2) ?_) | (refine Wdcx (c2) ?_) | (refine Wcgx (c2) ?_) | (refine Wdcgx (c2) ?_) | (refine Wcx (c3) ?_) | (refine Wdcx (c3) ?_) | (refine Wcgx (c3) ?_) | (refine Wdcgx (c3) ?_) | (refine Wcx (c4) ?_) | (refine Wdcx (c4) ?_) | (refine Wcgx (c4) ?_) | (refine Wdcgx (c4) ?_) | (refine Wcx (c6) ?_) | (refine Wdcx (c6) ?_) | (refine Wcgx (c6) ?_) | (refine Wdcgx (c6) ?_) | (refine Wcx (c5) ?_) | (refine Wdcx (c5) ?_) | (refine Wcgx (c5) ?_) | (refine Wdcgx (c5) ?_) | (refine Wcx (c7) ?_) | (refine Wdcx (c7) ?_) | (refine Wcgx (c7) ?_) | (refine Wdcgx (c7) ?_) | (refine Wcx (c8) ?_) | (refine Wdcx (c8) ?_) | (refine Wcgx (c8) ?_) | (refine Wdcgx (c8) ?_) | (refine Wcx (c9) ?_) | (refine Wdcx (c9) ?_) | (refine Wcgx (c9) ?_) | (refine Wdcgx (c9) ?_))
        ((first | refine endR ?_ | refine endN ?_); refine end1 (RV.cellA rfl (by repeat (first | exact List.mem_cons_self | apply List.mem_cons_of_mem)) (by (try simp only [List.drop_succ_cons, List.drop_zero, List.drop_nil, List.take_succ_cons, List.take_zero, List.take_nil, Nat.zero_add, Nat.add_zero, Nat.reduceAdd]) <;> exact rfl) rfl) (Le.refl _))
    · clear h
      rw [fr_b hsx]
      rw [fr_b hsx] at c1 c4
      refine Pu.intro Tryz.func76 rfl (by kernel_rfl) fun C => ?_
      repeat (first | (refine A1 ⟨?_⟩; intros) | (refine Wcx (c1) ?_) | (refine Wdcx (c1) ?_) | (refine Wcgx (c1) ?_) | (refine Wdcgx (c1) ?_) | (refine Wcx (c2) ?_) | (refine Wdcx (c2) ?_) | (refine Wcgx (c2) ?_) | (refine Wdcgx (c2) ?_) | (refine Wcx (c3) ?_) | (refine Wdcx (c3) ?_) | (refine Wcgx (c3) ?_) | (refine Wdcgx (c3) ?_) | (refine Wcx (c4) ?_) | (refine Wdcx (c4) ?_) | (refine Wcgx (c4) ?_) | (refine Wdcgx (c4) ?_) | (refine Wcx (c6) ?_) | (refine Wdcx (c6) ?_) | (refine Wcgx (c6) ?_) | (refine Wdcgx (c6) ?_) | (refine Wcx (c5) ?_) | (refine Wdcx (c5) ?_) | (refine Wcgx (c5) ?_) | (refine Wdcgx (c5) ?_) | (refine Wcx (c7) ?_) | (refine Wdcx (c7) ?_) | (refine Wcgx (c7) ?_) | (refine Wdcgx (c7) ?_) | (refine Wcx (c8) ?_) | (refine Wdcx (c8) ?_) | (refine Wcgx (c8) ?_) | (refine Wdcgx (c8) ?_) | (refine Wcx (c9) ?_) | (refine Wdcx (c9) ?_) | (refine Wcgx (c9) ?_) | (refine Wdcgx (c9) ?_))
      ((first | refine endR ?_ | refine endN ?_); refine end1 (RV.cellA rfl (by repeat (first | exact List.mem_cons_self | apply List.mem_cons_of_mem)) (by (try simp only [List.drop_succ_cons, List.drop_zero, List.drop_nil, List.take_succ_cons, List.take_zero, List.take_nil, Nat.zero_add, Nat.add_zero, Nat.reduceAdd]) <;> exact rfl) rfl) (Le.refl _))
theorem fsign_pu (x : Rat) (h : ht x ≤ 10000000) : Pu Tryz.prog 166 [fr x] (lit (.int .i64 x.num.sign)) := by
  by_cases hs : small x
  · rw [fr_s hs]
    rcases Int.lt_trichotomy x.num 0 with h0 | h0 | h0
    · rw [Int.sign_eq_neg_one_of_neg h0]
      refine Pu.intro Tryz.func166 rfl (by kernel_rfl) fun C => ?_
      repeat (refine A1 ⟨?_⟩; intros)
      ((first | refine endR ?_ | refine endN ?_); exact end1 (RV.tmp rfl) (Le.refl _))
    · rw [h0]
      refine Pu.intro Tryz.func166 rfl (by kernel_rfl) fun C => ?_
      repeat (refine A1 ⟨?_⟩; intros)
      ((first | refine endR ?_ | refine endN ?_); exact end1 (RV.tmp rfl) (Le.refl _))
    · rw [Int.sign_eq_one_of_pos h0]
      refine Pu.intro Tryz.func166 rfl (by kernel_rfl) fun C => ?_
      repeat (refine A1 ⟨?_⟩; intros)
      ((first | refine endR ?_ | refine endN ?_); exact end1 (RV.tmp rfl) (Le.refl _))
  · have h1 := ht_num x
    have e1 : il x.num = (dgs x.num.natAbs).length := rfl
    have c := sign_raw (decide (x.num < 0)) (dgs x.num.natAbs) (by omega) (D_dgs _)
    rw [val_dgs, sv_int] at c
    rw [fr_b hs]
    refine Pu.intro Tryz.func166 rfl (by kernel_rfl) fun C => ?_
    repeat (first | (refine A1 ⟨?_⟩; intros) | (refine Wcx (c) ?_) | (refine Wdcx (c) ?_) | (refine Wcgx (c) ?_) | (refine Wdcgx (c) ?_))
    ((first | refine endR ?_ | refine endN ?_); exact end1 (RV.tmp rfl) (Le.refl _))
theorem mk_sign (a : Int) {d : Nat} (hd : d ≠ 0) : (mkRat a d).num.sign = a.sign := by
  rw [(mk_num a hd).1]
  have hg : 0 < Int.gcd a d := Nat.pos_of_ne_zero (fun e => by have := (Int.gcd_eq_zero_iff.1 e).2; omega)
  obtain ⟨q, hq⟩ := Int.gcd_dvd_left a d
  generalize Int.gcd a d = g at *
  subst hq
  have h1 : ((g : Nat) : Int).sign = 1 := Int.sign_eq_one_of_pos (by omega)
  rw [Int.mul_ediv_cancel_left _ (by omega), Int.sign_mul, h1, Int.one_mul]
theorem sub_sign {x y : Rat} (h : x.den = y.den) : (x - y).num.sign = (x.num - y.num).sign := by
  have hd : y.den ≠ 0 := y.den_nz
  have h1 : ((y.den : Nat) : Int).sign = 1 := Int.sign_eq_one_of_pos (by omega)
  rw [Rat.sub_def', h, ← Int.sub_mul, mk_sign _ (Nat.mul_ne_zero hd hd), Int.sign_mul, h1, Int.mul_one]
theorem fcmp_pu (x y : Rat) (hx : ht x ≤ 3000000) (hy : ht y ≤ 3000000) : Pu Tryz.prog 132 [fr x, fr y] (lit (.int .i64 (x - y).num.sign)) := by
  have hb := ht_sub x y
  have c1 := rsub_pu x y hx hy
  have c2 := fsign_pu (x - y) (by omega)
  by_cases h : (small x ∧ small y) ∧ x.den = y.den
  · obtain ⟨⟨hsx, hsy⟩, hd⟩ := h
    rw [fr_s hsx, fr_s hsy, sub_sign hd, hd]
    rcases Int.lt_trichotomy x.num y.num with h0 | h0 | h0
    · rw [Int.sign_eq_neg_one_of_neg (by omega)]
      refine Pu.intro Tryz.func132 rfl (by kernel_rfl) fun C => ?_
      repeat (refine A1 ⟨?_⟩; intros)
      ((first | refine endR ?_ | refine endN ?_); exact end1 (RV.tmp rfl) (Le.refl _))
    · rw [h0, Int.sub_self]
      refine Pu.intro Tryz.func132 rfl (by kernel_rfl) fun C => ?_
      repeat (refine A1 ⟨?_⟩; intros)
      ((first | refine endR ?_ | refine endN ?_); exact end1 (RV.tmp rfl) (Le.refl _))
    · rw [Int.sign_eq_one_of_pos (by omega)]
      refine Pu.intro Tryz.func132 rfl (by kernel_rfl) fun C => ?_
      repeat (refine A1 ⟨?_⟩; intros)
      ((first | refine endR ?_ | refine endN ?_); exact end1 (RV.tmp rfl) (Le.refl _))
  · clear hb
    by_cases hsx : small x
    · by_cases hsy : small y
      · have hd : x.den ≠ y.den := fun e => h ⟨⟨hsx, hsy⟩, e⟩
        clear h
        rw [fr_s hsx, fr_s hsy] at c1 ⊢
        refine Pu.intro Tryz.func132 rfl (by kernel_rfl) fun C => ?_
        repeat (first | (refine A1 ⟨?_⟩; intros) | (refine Wcx (c1) ?_) | (refine Wdcx (c1) ?_) | (refine Wcgx (c1) ?_) | (refine Wdcgx (c1) ?_) | (refine Wcx (c2) ?_) | (refine Wdcx (c2) ?_) | (refine Wcgx (c2) ?_) | (refine Wdcgx (c2) ?_))
        ((first | refine endR ?_ | refine endN ?_); exact end1 (RV.tmp rfl) (Le.refl _))
      · clear h
        rw [fr_s hsx, fr_b hsy] at c1 ⊢
        refine Pu.intro Tryz.func132 rfl (by kernel_rfl) fun C => ?_
        repeat (first | (refine A1 ⟨?_⟩; intros) | (refine Wcx (c1) ?_) | (refine Wdcx (c1) ?_) | (refine Wcgx (c1) ?_) | (refine Wdcgx (c1) ?_) | (refine Wcx (c2) ?_) | (refine Wdcx (c2) ?_) | (refine Wcgx (c2) ?_) | (refine Wdcgx (c2) ?_))
        ((first | refine endR ?_ | refine endN ?_); exact end1 (RV.tmp rfl) (Le.refl _))
    · clear h
      rw [fr_b hsx] at c1 ⊢
      refine Pu.intro Tryz.func132 rfl (by kernel_rfl) fun C => ?_
      repeat (first | (refine A1 ⟨?_⟩; intros) | (refine Wcx (c1) ?_) | (refine Wdcx (c1) ?_) | (refine Wcgx (c1) ?_) | (refine Wdcgx (c1) ?_) | (refine Wcx (c2) ?_) | (refine Wdcx (c2) ?_) | (refine Wcgx (c2) ?_) | (refine Wdcgx (c2) ?_))
      ((first | refine endR ?_ | refine endN ?_); exact end1 (RV.tmp rfl) (Le.refl _))
theorem sub_sign_zero {x y : Rat} : (x - y).num.sign = 0 ↔ x = y := by
  rw [Int.sign_eq_zero_iff_zero, Rat.num_eq_zero]
  constructor
  · intro h; have := congrArg (· + y) h; simp only [Rat.sub_eq_add_neg, Rat.add_assoc, Rat.neg_add_cancel, Rat.add_zero, Rat.zero_add] at this; exact this
  · intro h; rw [h, Rat.sub_self]
theorem fequal_pu (x y : Rat) (hx : ht x ≤ 3000000) (hy : ht y ≤ 3000000) : Pu Tryz.prog 77 [fr x, fr y] (lit (.bool (decide (x = y)))) := by
  have c := fcmp_pu x y hx hy
  have e := @sub_sign_zero _ x y
  by_cases h : x = y
  · rw [decide_eq_true h]
    rw [e.2 h] at c
    refine Pu.intro Tryz.func77 rfl (by kernel_rfl) fun C => ?_
    repeat (first | (refine A1 ⟨?_⟩; intros) | (refine Wcx (c) ?_) | (refine Wdcx (c) ?_) | (refine Wcgx (c) ?_) | (refine Wdcgx (c) ?_))
    ((first | refine endR ?_ | refine endN ?_); exact end1 (RV.tmp rfl) (Le.refl _))
  · rw [decide_eq_false h]
    have e' : (x - y).num.sign ≠ 0 := fun k => h (e.1 k)
    clear e
    generalize (x - y).num.sign = s at *
    refine Pu.intro Tryz.func77 rfl (by kernel_rfl) fun C => ?_
    repeat (first | (refine A1 ⟨?_⟩; intros) | (refine Wcx (c) ?_) | (refine Wdcx (c) ?_) | (refine Wcgx (c) ?_) | (refine Wdcgx (c) ?_))
    ((first | refine endR ?_ | refine endN ?_); exact end1 (RV.tmp rfl) (Le.refl _))
abbrev lf (a b c : Rat) : SV := ag [lit (.int .i64 (r0 a)), lit (.int .i64 (r1 a)), r2 a, lit (.int .i64 (r0 b)), lit (.int .i64 (r1 b)), r2 b, lit (.int .i64 (r0 c)), lit (.int .i64 (r1 c)), r2 c]
abbrev lq (l : Li) : SV := ag [lit (.bool (decide (l.a < 0))), nat l.a.natAbs, lit (.bool (decide (l.b < 0))), nat l.b.natAbs, lit (.bool (decide (l.c < 0))), nat l.c.natAbs]
structure Li.le (l : Li) (L : Nat) : Prop where
  a : il l.a ≤ L
  b : il l.b ≤ L
  c : il l.c ≤ L
theorem lnormal_pu (a b c : Rat) : Pu Tryz.prog 79 [lf a b c] (pp a b) := by
  refine Pu.intro Tryz.func79 rfl (by kernel_rfl) fun C => ?_
  repeat (refine A1 ⟨?_⟩; intros)
  ((first | refine endR ?_ | refine endN ?_); refine end1 (RV.cellA rfl (by repeat (first | exact List.mem_cons_self | apply List.mem_cons_of_mem)) (by (try simp only [List.drop_succ_cons, List.drop_zero, List.drop_nil, List.take_succ_cons, List.take_zero, List.take_nil, Nat.zero_add, Nat.add_zero, Nat.reduceAdd]) <;> exact rfl) rfl) (Le.refl _))
theorem pdot_pu (x y u v : Rat) (hx : ht x ≤ 1000000) (hy : ht y ≤ 1000000) (hu : ht u ≤ 1000000) (hv : ht v ≤ 1000000) : Pu Tryz.prog 81 [pp x y, pp u v] (fr (x * u + y * v)) := by
  have h1 := ht_mul x u
  have h2 := ht_mul y v
  refine Pu.intro Tryz.func81 rfl (by kernel_rfl) fun C => ?_
  repeat (first | (refine A1 ⟨?_⟩; intros) | (refine Wcx (rmul_pu x u (by omega) (by omega)) ?_) | (refine Wdcx (rmul_pu x u (by omega) (by omega)) ?_) | (refine Wcgx (rmul_pu x u (by omega) (by omega)) ?_) | (refine Wdcgx (rmul_pu x u (by omega) (by omega)) ?_) | (refine Wcx (rmul_pu y v (by omega) (by omega)) ?_) | (refine Wdcx (rmul_pu y v (by omega) (by omega)) ?_) | (refine Wcgx (rmul_pu y v (by omega) (by omega)) ?_) | (refine Wdcgx (rmul_pu y v (by omega) (by omega)) ?_) | (refine Wcx (radd_pu (x * u) (y * v) (by omega) (by omega)) ?_) | (refine Wdcx (radd_pu (x * u) (y * v) (by omega) (by omega)) ?_) | (refine Wcgx (radd_pu (x * u) (y * v) (by omega) (by omega)) ?_) | (refine Wdcgx (radd_pu (x * u) (y * v) (by omega) (by omega)) ?_))
  ((first | refine endR ?_ | refine endN ?_); refine end1 (RV.cellA rfl (by repeat (first | exact List.mem_cons_self | apply List.mem_cons_of_mem)) (by (try simp only [List.drop_succ_cons, List.drop_zero, List.drop_nil, List.take_succ_cons, List.take_zero, List.take_nil, Nat.zero_add, Nat.add_zero, Nat.reduceAdd]) <;> exact rfl) rfl) (Le.refl _))
theorem lvalue_pu (a b c x y : Rat) (ha : ht a ≤ 100000) (hb : ht b ≤ 100000) (hc : ht c ≤ 100000) (hx : ht x ≤ 100000) (hy : ht y ≤ 100000) : Pu Tryz.prog 82 [lf a b c, pp x y] (fr (a * x + b * y + c)) := by
  have h1 := ht_mul a x
  have h2 := ht_mul b y
  have h3 := ht_add (a * x) (b * y)
  have c1 := lnormal_pu a b c
  have c2 := pdot_pu a b x y (by omega) (by omega) (by omega) (by omega)
  have c3 := radd_pu (a * x + b * y) c (by omega) (by omega)
  refine Pu.intro Tryz.func82 rfl (by kernel_rfl) fun C => ?_
  repeat (first | (refine A1 ⟨?_⟩; intros) | (refine Wcx (c1) ?_) | (refine Wdcx (c1) ?_) | (refine Wcgx (c1) ?_) | (refine Wdcgx (c1) ?_) | (refine Wcx (c2) ?_) | (refine Wdcx (c2) ?_) | (refine Wcgx (c2) ?_) | (refine Wdcgx (c2) ?_) | (refine Wcx (c3) ?_) | (refine Wdcx (c3) ?_) | (refine Wcgx (c3) ?_) | (refine Wdcgx (c3) ?_))
  ((first | refine endR ?_ | refine endN ?_); refine end1 (RV.cellA rfl (by repeat (first | exact List.mem_cons_self | apply List.mem_cons_of_mem)) (by (try simp only [List.drop_succ_cons, List.drop_zero, List.drop_nil, List.take_succ_cons, List.take_zero, List.take_nil, Nat.zero_add, Nat.add_zero, Nat.reduceAdd]) <;> exact rfl) rfl) (Le.refl _))
theorem ht_of_int (z : Int) : ht (z : Rat) = max (il z) 1 := by
  unfold ht
  rw [Rat.num_intCast, Rat.den_intCast, dgs_one]; rfl
theorem lapi_pu (l : Li) (h : l.le 1000000) : Pu Tryz.prog 33 [lf l.a l.b l.c] (lq l) := by
  obtain ⟨ha, hb, hc⟩ := h
  have e1 := ht_of_int l.a
  have e2 := ht_of_int l.b
  have e3 := ht_of_int l.c
  have c1 := num_pu (l.a : Rat) (by omega)
  have c2 := num_pu (l.b : Rat) (by omega)
  have c3 := num_pu (l.c : Rat) (by omega)
  rw [Rat.num_intCast] at c1 c2 c3
  refine Pu.intro Tryz.func33 rfl (by kernel_rfl) fun C => ?_
  repeat (first | (refine A1 ⟨?_⟩; intros) | (refine Wcx (c1) ?_) | (refine Wdcx (c1) ?_) | (refine Wcgx (c1) ?_) | (refine Wdcgx (c1) ?_) | (refine Wcx (c2) ?_) | (refine Wdcx (c2) ?_) | (refine Wcgx (c2) ?_) | (refine Wdcgx (c2) ?_) | (refine Wcx (c3) ?_) | (refine Wdcx (c3) ?_) | (refine Wcgx (c3) ?_) | (refine Wdcgx (c3) ?_))
  ((first | refine endR ?_ | refine endN ?_); refine end1 (RV.cellA rfl (by repeat (first | exact List.mem_cons_self | apply List.mem_cons_of_mem)) (by (try simp only [List.drop_succ_cons, List.drop_zero, List.drop_nil, List.take_succ_cons, List.take_zero, List.take_nil, Nat.zero_add, Nat.add_zero, Nat.reduceAdd]) <;> exact rfl) rfl) (Le.refl _))
theorem mulM (v : Value) (w : World) : (Go.method ((Tryz.prog).types.size + Made.depth) 90 v "Mul").run Tryz.prog w = .ok (137, v) w := by kernel_rfl
abbrev fr3 (a b c : Rat) : List SV := [lit (.int .i64 (r0 a)), lit (.int .i64 (r1 a)), r2 a, lit (.int .i64 (r0 b)), lit (.int .i64 (r1 b)), r2 b, lit (.int .i64 (r0 c)), lit (.int .i64 (r1 c)), r2 c]
set_option maxRecDepth 20000 in
set_option maxHeartbeats 1000000 in
theorem scaled_pu (b0 : Nat) (f a b c : Rat) (hf : ht f ≤ 1000000) (ha : ht a ≤ 1000000) (hb : ht b ≤ 1000000) (hc : ht c ≤ 1000000) :
    PuH Tryz.prog 136 [fr f, lit (.slice (some ⟨b0, 0, none⟩) 3 3)] [(b0, 90, fr3 a b c)] (fun r H => r = lit (.slice (some ⟨b0, 0, none⟩) 3 3) ∧ H = [(b0, 90, fr3 (a * f) (b * f) (c * f))]) noX := by
  have m1 := rmul_pu a f (by omega) (by omega)
  have m2 := rmul_pu b f (by omega) (by omega)
  have m3 := rmul_pu c f (by omega) (by omega)
  refine PuH.intro Tryz.func136 rfl (by kernel_rfl) fun C hC => ?_
  repeat (refine A1 ⟨?_⟩; intros)
  refine WP.unroll 4 ?_
  repeat (refine A1 ⟨?_⟩; intros)
  refine Wdo (ov_invoke mulM m1 rfl rfl) ?_
  repeat (refine A1 ⟨?_⟩; intros)
  refine Wdo (ov_invoke mulM m2 rfl rfl) ?_
  repeat (refine A1 ⟨?_⟩; intros)
  refine Wdo (ov_invoke mulM m3 rfl rfl) ?_
  repeat (refine A1 ⟨?_⟩; intros)
  exact endHR _ _ (end1 (RV.tmp rfl) (Le.refl _)) (List.Sublist.cons _ (List.Sublist.refl _)) ⟨rfl, rfl⟩
abbrev Pq := Rat × Rat
def pcmp (p q : Pq) : Int := if p.1 = q.1 then (p.2 - q.2).num.sign else (p.1 - q.1).num.sign
def plt (p q : Pq) : Bool := decide (pcmp p q < 0)
theorem sub_sign_neg {x y : Rat} : (x - y).num.sign < 0 ↔ x < y := by
  rw [Int.sign_neg_iff]
  have h0 := Rat.num_nonneg (q := x - y)
  constructor
  · intro h
    have h1 : ¬0 ≤ x - y := fun e => by have := h0.2 e; omega
    grind
  · intro h
    have h1 : ¬0 ≤ x - y := fun e => by grind
    have h2 : ¬0 ≤ (x - y).num := fun e => h1 (h0.1 e)
    omega
theorem plt_iff {p q : Pq} : plt p q = true ↔ p.1 < q.1 ∨ p.1 = q.1 ∧ p.2 < q.2 := by
  unfold plt pcmp
  rw [decide_eq_true_eq]
  split
  · next h => rw [sub_sign_neg]; constructor
              · intro h'; exact .inr ⟨h, h'⟩
              · rintro (h' | h')
                · grind
                · exact h'.2
  · next h => rw [sub_sign_neg]; constructor
              · intro h'; exact .inl h'
              · rintro (h' | h')
                · exact h'
                · exact absurd h'.1 h
theorem pcmp_zero {p q : Pq} : pcmp p q = 0 ↔ p = q := by
  obtain ⟨x, y⟩ := p
  obtain ⟨u, v⟩ := q
  unfold pcmp
  simp only [Prod.mk.injEq]
  split
  · next h => rw [sub_sign_zero]; exact ⟨fun e => ⟨h, e⟩, fun e => e.2⟩
  · next h => rw [sub_sign_zero]; exact ⟨fun e => absurd e h, fun e => e.1⟩
theorem plt_trans {p q r : Pq} (h1 : plt p q = true) (h2 : plt q r = true) : plt p r = true := by
  rw [plt_iff] at *
  grind
theorem plt_irr {p : Pq} : plt p p = false := by
  rw [Bool.eq_false_iff]
  intro h
  rw [plt_iff] at h
  grind
theorem plt_tri {p q : Pq} (h : plt p q = false) (hne : p ≠ q) : plt q p = true := by
  rw [Bool.eq_false_iff, ne_eq, plt_iff] at h
  rw [plt_iff]
  obtain ⟨x, y⟩ := p
  obtain ⟨u, v⟩ := q
  simp only [ne_eq, Prod.mk.injEq] at hne h ⊢
  grind
def pat (out : List Pq) (p : Pq) : Nat := (out.takeWhile fun o => plt o p).length
def pins (out : List Pq) (p : Pq) : List Pq := if out[pat out p]? = some p then out else out.take (pat out p) ++ p :: out.drop (pat out p)
def srt (l : List Pq) : List Pq := l.foldl pins []
theorem srt_snoc (l : List Pq) (p : Pq) : srt (l ++ [p]) = pins (srt l) p := by unfold srt; rw [List.foldl_append]; rfl
theorem srt_take {l : List Pq} {k : Nat} {p : Pq} (h : l[k]? = some p) : srt (l.take (k + 1)) = pins (srt (l.take k)) p := by
  obtain ⟨h1, h2⟩ := List.getElem?_eq_some_iff.1 h
  rw [List.take_succ_eq_append_getElem h1, h2, srt_snoc]
theorem pat_le (out : List Pq) (p : Pq) : pat out p ≤ out.length := (List.takeWhile_sublist _).length_le
theorem tw_take {α : Type} {f : α → Bool} : ∀ (l : List α), l.take (l.takeWhile f).length = l.takeWhile f
  | [] => rfl
  | a :: l => by
    rw [List.takeWhile_cons]
    split
    · rw [List.length_cons, List.take_succ_cons, tw_take l]
    · rfl
theorem tw_next {α : Type} {f : α → Bool} : ∀ {l : List α} {a : α}, l[(l.takeWhile f).length]? = some a → f a = false
  | [], a, h => by simp at h
  | b :: l, a, h => by
    rw [List.takeWhile_cons] at h
    cases hb : f b with
    | true =>
      rw [if_pos hb] at h
      exact tw_next (by simpa using h)
    | false =>
      rw [if_neg (by rw [hb]; decide)] at h
      simp at h
      rw [← h]; exact hb
theorem tw_lt {α : Type} {f : α → Bool} : ∀ {l : List α} {j : Nat} {a : α}, l[j]? = some a → j < (l.takeWhile f).length → f a = true
  | [], j, a, h, _ => by simp at h
  | b :: l, j, a, h, hj => by
    rw [List.takeWhile_cons] at hj
    cases hb : f b with
    | false => rw [if_neg (by rw [hb]; decide)] at hj; simp at hj
    | true =>
      rw [if_pos hb, List.length_cons] at hj
      cases j with
      | zero => simp at h; rw [← h]; exact hb
      | succ j => exact tw_lt (by simpa using h) (by omega)
theorem pat_step {out : List Pq} {p o : Pq} {j : Nat} (hj : j ≤ pat out p) (ho : out[j]? = some o) : (plt o p = true → j + 1 ≤ pat out p) ∧ (plt o p = false → j = pat out p) := by
  constructor
  · intro h
    rcases Nat.lt_or_ge j (pat out p) with hl | hl
    · exact hl
    · have e : j = pat out p := by omega
      rw [e] at ho
      have := tw_next (f := fun o => plt o p) ho
      rw [h] at this; cases this
  · intro h
    rcases Nat.lt_or_ge j (pat out p) with hl | hl
    · have := tw_lt (f := fun o => plt o p) ho hl
      rw [h] at this; cases this
    · omega
theorem pins_len (out : List Pq) (p : Pq) : (pins out p).length ≤ out.length + 1 := by
  unfold pins
  split
  · omega
  · rw [List.length_append, List.length_cons, List.length_take, List.length_drop]; omega
theorem srt_len : ∀ (l : List Pq), (srt l).length ≤ l.length := by
  have h : ∀ (l out : List Pq), (l.foldl pins out).length ≤ out.length + l.length := by
    intro l
    induction l with
    | nil => intro out; simp
    | cons a l ih => intro out; have := ih (pins out a); have := pins_len out a; simp only [List.foldl_cons, List.length_cons]; omega
  intro l
  have := h l []
  simpa [srt] using this
theorem pins_mem {out : List Pq} {p q : Pq} : q ∈ pins out p ↔ q = p ∨ q ∈ out := by
  unfold pins
  split
  · next h =>
    have hm := List.mem_of_getElem? h
    constructor
    · exact .inr
    · rintro (rfl | h')
      · exact hm
      · exact h'
  · rw [List.mem_append, List.mem_cons]
    constructor
    · rintro (h | h | h)
      · exact .inr (List.mem_of_mem_take h)
      · exact .inl h
      · exact .inr (List.mem_of_mem_drop h)
    · rintro (h | h)
      · exact .inr (.inl h)
      · rw [← List.take_append_drop (pat out p) out, List.mem_append] at h
        rcases h with h | h
        · exact .inl h
        · exact .inr (.inr h)
theorem srt_mem (l : List Pq) (q : Pq) : q ∈ srt l ↔ q ∈ l := by
  have h : ∀ (l out : List Pq), q ∈ l.foldl pins out ↔ q ∈ out ∨ q ∈ l := by
    intro l
    induction l with
    | nil => intro out; simp
    | cons a l ih =>
      intro out
      rw [List.foldl_cons, ih, pins_mem, List.mem_cons]
      constructor
      · rintro ((h | h) | h)
        · exact .inr (.inl h)
        · exact .inl h
        · exact .inr (.inr h)
      · rintro (h | h | h)
        · exact .inl (.inr h)
        · exact .inl (.inl h)
        · exact .inr h
  unfold srt
  rw [h]; simp
abbrev Asc (l : List Pq) : Prop := l.Pairwise fun a b => plt a b = true
theorem pins_asc {out : List Pq} {p : Pq} (h : Asc out) : Asc (pins out p) := by
  unfold pins
  split
  · exact h
  · next hne =>
    have hs := h
    rw [← List.take_append_drop (pat out p) out] at hs
    obtain ⟨h1, h2, h3⟩ := List.pairwise_append.1 hs
    have hlt : ∀ a ∈ out.take (pat out p), plt a p = true := fun a ha => by
      unfold pat at ha
      rw [tw_take] at ha
      exact List.all_eq_true.1 (List.all_takeWhile (p := fun o => plt o p) (l := out)) a ha
    have hgt : ∀ b ∈ out.drop (pat out p), plt p b = true := by
      cases hd : out.drop (pat out p) with
      | nil => intro b hb; cases hb
      | cons c r =>
        have hc : out[pat out p]? = some c := by
          have := congrArg (fun l => l[0]?) hd
          simpa [List.getElem?_drop] using this
        have hcp : plt c p = false := tw_next (f := fun o => plt o p) hc
        have hpc : plt p c = true := plt_tri hcp (fun e => hne (by rw [hc, e]))
        rw [hd] at h2
        intro b hb
        rcases List.mem_cons.1 hb with rfl | hb
        · exact hpc
        · exact plt_trans hpc ((List.pairwise_cons.1 h2).1 b hb)
    refine List.pairwise_append.2 ⟨h1, List.pairwise_cons.2 ⟨hgt, h2⟩, ?_⟩
    intro a ha b hb
    rcases List.mem_cons.1 hb with rfl | hb
    · exact hlt a ha
    · exact plt_trans (hlt a ha) (hgt b hb)
theorem srt_asc (l : List Pq) : Asc (srt l) := by
  have h : ∀ (l out : List Pq), Asc out → Asc (l.foldl pins out) := by
    intro l
    induction l with
    | nil => intro out h; exact h
    | cons a l ih => intro out h; exact ih _ (pins_asc h)
  exact h l [] List.Pairwise.nil
theorem asc_nodup {l : List Pq} (h : Asc l) : l.Nodup := by
  unfold List.Nodup
  refine h.imp fun {a b} hab e => ?_
  rw [e, plt_irr] at hab; cases hab
def dst (l : List Pq) : List Pq := l.foldl (fun out p => if p ∈ out then out else out ++ [p]) []
theorem dst_snoc (l : List Pq) (p : Pq) : dst (l ++ [p]) = if p ∈ dst l then dst l else dst l ++ [p] := by unfold dst; rw [List.foldl_append]; rfl
theorem dst_spec (l : List Pq) : (dst l).Nodup ∧ ∀ q, q ∈ dst l ↔ q ∈ l := by
  have h : ∀ (l out : List Pq), out.Nodup → (l.foldl (fun out p => if p ∈ out then out else out ++ [p]) out).Nodup ∧ ∀ q, q ∈ l.foldl (fun out p => if p ∈ out then out else out ++ [p]) out ↔ q ∈ out ∨ q ∈ l := by
    intro l
    induction l with
    | nil => intro out h; exact ⟨h, fun q => by simp⟩
    | cons a l ih =>
      intro out h
      rw [List.foldl_cons]
      by_cases ha : a ∈ out
      · rw [if_pos ha]
        obtain ⟨i1, i2⟩ := ih out h
        refine ⟨i1, fun q => ?_⟩
        rw [i2, List.mem_cons]
        constructor
        · rintro (h | h)
          · exact .inl h
          · exact .inr (.inr h)
        · rintro (h | rfl | h)
          · exact .inl h
          · exact .inl ha
          · exact .inr h
      · rw [if_neg ha]
        obtain ⟨i1, i2⟩ := ih (out ++ [a]) (by
          rw [List.nodup_append]
          refine ⟨h, by simp, fun x hx y hy e => ?_⟩
          rw [List.mem_singleton] at hy
          rw [e, hy] at hx
          exact ha hx)
        refine ⟨i1, fun q => ?_⟩
        rw [i2, List.mem_append, List.mem_singleton, List.mem_cons]
        constructor
        · rintro ((h | h) | h)
          · exact .inl h
          · exact .inr (.inl h)
          · exact .inr (.inr h)
        · rintro (h | h | h)
          · exact .inl (.inl h)
          · exact .inl (.inr h)
          · exact .inr h
  obtain ⟨h1, h2⟩ := h l [] List.nodup_nil
  exact ⟨h1, fun q => by have := h2 q; simp only [List.not_mem_nil, false_or] at this; exact this⟩
theorem nodup_len {α : Type} [DecidableEq α] : ∀ {a b : List α}, a.Nodup → (∀ q ∈ a, q ∈ b) → a.length ≤ b.length
  | [], b, _, _ => Nat.zero_le _
  | x :: a, b, h, hs => by
    obtain ⟨h1, h2⟩ := List.nodup_cons.1 h
    have hx := hs x List.mem_cons_self
    have := nodup_len (b := b.erase x) h2 fun q hq => (List.mem_erase_of_ne (fun e => h1 (by rw [← e]; exact hq))).2 (hs q (List.mem_cons_of_mem _ hq))
    rw [List.length_erase_of_mem hx] at this
    have : 0 < b.length := List.length_pos_of_mem hx
    rw [List.length_cons]; omega
theorem dst_srt (l : List Pq) : (dst l).length = (srt l).length := by
  obtain ⟨h1, h2⟩ := dst_spec l
  refine Nat.le_antisymm (nodup_len h1 fun q hq => (srt_mem l q).2 ((h2 q).1 hq)) (nodup_len (asc_nodup (srt_asc l)) fun q hq => (h2 q).2 ((srt_mem l q).1 hq))
end Go.Ab
