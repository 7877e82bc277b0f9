/- Texts laid one behind the other: LnB, Tape, AffC. -/
import Derived.Test.YtmmifnkikifmnaaGreatDoorB14
import Derived.Test.YtmmifnkikifmnaaGreatDoorB03
import Derived.Test.YtmmifnkikifmnaaGreatDoorB13
/- Packages frac, geo, affine: comparisons; lines: reading, writing, making, images. -/
namespace Go.Ab
open Go.Proofs
set_option linter.unusedSectionVars false
set_option linter.unusedVariables false
set_option linter.unusedSimpArgs false
variable [Base]
theorem fsign_pu (x : Rat) (h : ht x ≤ 10000000) : Pu Tryz.prog 244 [fr x] (lit (.int .i64 x.num.sign)) := by
  by_cases hs : small x
  · rw [fr_s hs]
    rcases Int.lt_trichotomy x.num 0 with h0 | h0 | h0
    · rw [Int.sign_eq_neg_one_of_neg h0]
      refine Pu.intro Tryz.func244 rfl (by kernel_rfl) fun C => ?_
      repeat (refine A1 ⟨?_⟩; intros)
      ((first | refine endR ?_ | refine endN ?_); exact end1 (RV.tmp rfl) (Le.refl _))
    · rw [h0]
      refine Pu.intro Tryz.func244 rfl (by kernel_rfl) fun C => ?_
      repeat (refine A1 ⟨?_⟩; intros)
      ((first | refine endR ?_ | refine endN ?_); exact end1 (RV.tmp rfl) (Le.refl _))
    · rw [Int.sign_eq_one_of_pos h0]
      refine Pu.intro Tryz.func244 rfl (by kernel_rfl) fun C => ?_
      repeat (refine A1 ⟨?_⟩; intros)
      ((first | refine endR ?_ | refine endN ?_); exact end1 (RV.tmp rfl) (Le.refl _))
  · have h1 := ht_num x
    have e1 : il x.num = (dgs x.num.natAbs).length := rfl
    have c := sign_raw (decide (x.num < 0)) (dgs x.num.natAbs) (by omega) (D_dgs _)
    rw [val_dgs, sv_int] at c
    rw [fr_b hs]
    refine Pu.intro Tryz.func244 rfl (by kernel_rfl) fun C => ?_
    repeat (first | (refine A1 ⟨?_⟩; intros) | (refine Wcx (c) ?_) | (refine Wdcx (c) ?_) | (refine Wcgx (c) ?_) | (refine Wdcgx (c) ?_))
    ((first | refine endR ?_ | refine endN ?_); exact end1 (RV.tmp rfl) (Le.refl _))
theorem mk_sign (a : Int) {d : Nat} (hd : d ≠ 0) : (mkRat a d).num.sign = a.sign := by
  rw [(mk_num a hd).1]
  have hg : 0 < Int.gcd a d := Nat.pos_of_ne_zero (fun e => by have := (Int.gcd_eq_zero_iff.1 e).2; omega)
  obtain ⟨q, hq⟩ := Int.gcd_dvd_left a d
  generalize Int.gcd a d = g at *
  subst hq
  have h1 : ((g : Nat) : Int).sign = 1 := Int.sign_eq_one_of_pos (by omega)
  rw [Int.mul_ediv_cancel_left _ (by omega), Int.sign_mul, h1, Int.one_mul]
theorem sub_sign {x y : Rat} (h : x.den = y.den) : (x - y).num.sign = (x.num - y.num).sign := by
  have hd : y.den ≠ 0 := y.den_nz
  have h1 : ((y.den : Nat) : Int).sign = 1 := Int.sign_eq_one_of_pos (by omega)
  rw [Rat.sub_def', h, ← Int.sub_mul, mk_sign _ (Nat.mul_ne_zero hd hd), Int.sign_mul, h1, Int.mul_one]
theorem fcmp_pu (x y : Rat) (hx : ht x ≤ 3000000) (hy : ht y ≤ 3000000) : Pu Tryz.prog 199 [fr x, fr y] (lit (.int .i64 (x - y).num.sign)) := by
  have hb := ht_sub x y
  have c1 := rsub_pu x y hx hy
  have c2 := fsign_pu (x - y) (by omega)
  by_cases h : (small x ∧ small y) ∧ x.den = y.den
  · obtain ⟨⟨hsx, hsy⟩, hd⟩ := h
    rw [fr_s hsx, fr_s hsy, sub_sign hd, hd]
    rcases Int.lt_trichotomy x.num y.num with h0 | h0 | h0
    · rw [Int.sign_eq_neg_one_of_neg (by omega)]
      refine Pu.intro Tryz.func199 rfl (by kernel_rfl) fun C => ?_
      repeat (refine A1 ⟨?_⟩; intros)
      ((first | refine endR ?_ | refine endN ?_); exact end1 (RV.tmp rfl) (Le.refl _))
    · rw [h0, Int.sub_self]
      refine Pu.intro Tryz.func199 rfl (by kernel_rfl) fun C => ?_
      repeat (refine A1 ⟨?_⟩; intros)
      ((first | refine endR ?_ | refine endN ?_); exact end1 (RV.tmp rfl) (Le.refl _))
    · rw [Int.sign_eq_one_of_pos (by omega)]
      refine Pu.intro Tryz.func199 rfl (by kernel_rfl) fun C => ?_
      repeat (refine A1 ⟨?_⟩; intros)
      ((first | refine endR ?_ | refine endN ?_); exact end1 (RV.tmp rfl) (Le.refl _))
  · clear hb
    by_cases hsx : small x
    · by_cases hsy : small y
      · have hd : x.den ≠ y.den := fun e => h ⟨⟨hsx, hsy⟩, e⟩
        clear h
        rw [fr_s hsx, fr_s hsy] at c1 ⊢
        refine Pu.intro Tryz.func199 rfl (by kernel_rfl) fun C => ?_
        repeat (first | (refine A1 ⟨?_⟩; intros) | (refine Wcx (c1) ?_) | (refine Wdcx (c1) ?_) | (refine Wcgx (c1) ?_) | (refine Wdcgx (c1) ?_) | (refine Wcx (c2) ?_) | (refine Wdcx (c2) ?_) | (refine Wcgx (c2) ?_) | (refine Wdcgx (c2) ?_))
        ((first | refine endR ?_ | refine endN ?_); exact end1 (RV.tmp rfl) (Le.refl _))
      · clear h
        rw [fr_s hsx, fr_b hsy] at c1 ⊢
        refine Pu.intro Tryz.func199 rfl (by kernel_rfl) fun C => ?_
        repeat (first | (refine A1 ⟨?_⟩; intros) | (refine Wcx (c1) ?_) | (refine Wdcx (c1) ?_) | (refine Wcgx (c1) ?_) | (refine Wdcgx (c1) ?_) | (refine Wcx (c2) ?_) | (refine Wdcx (c2) ?_) | (refine Wcgx (c2) ?_) | (refine Wdcgx (c2) ?_))
        ((first | refine endR ?_ | refine endN ?_); exact end1 (RV.tmp rfl) (Le.refl _))
    · clear h
      rw [fr_b hsx] at c1 ⊢
      refine Pu.intro Tryz.func199 rfl (by kernel_rfl) fun C => ?_
      repeat (first | (refine A1 ⟨?_⟩; intros) | (refine Wcx (c1) ?_) | (refine Wdcx (c1) ?_) | (refine Wcgx (c1) ?_) | (refine Wdcgx (c1) ?_) | (refine Wcx (c2) ?_) | (refine Wdcx (c2) ?_) | (refine Wcgx (c2) ?_) | (refine Wdcgx (c2) ?_))
      ((first | refine endR ?_ | refine endN ?_); exact end1 (RV.tmp rfl) (Le.refl _))
theorem sub_sign_zero {x y : Rat} : (x - y).num.sign = 0 ↔ x = y := by
  rw [Int.sign_eq_zero_iff_zero, Rat.num_eq_zero]
  constructor
  · intro h; have := congrArg (· + y) h; simp only [Rat.sub_eq_add_neg, Rat.add_assoc, Rat.neg_add_cancel, Rat.add_zero, Rat.zero_add] at this; exact this
  · intro h; rw [h, Rat.sub_self]
theorem fequal_pu (x y : Rat) (hx : ht x ≤ 3000000) (hy : ht y ≤ 3000000) : Pu Tryz.prog 143 [fr x, fr y] (lit (.bool (decide (x = y)))) := by
  have c := fcmp_pu x y hx hy
  have e := @sub_sign_zero _ x y
  by_cases h : x = y
  · rw [decide_eq_true h]
    rw [e.2 h] at c
    refine Pu.intro Tryz.func143 rfl (by kernel_rfl) fun C => ?_
    repeat (first | (refine A1 ⟨?_⟩; intros) | (refine Wcx (c) ?_) | (refine Wdcx (c) ?_) | (refine Wcgx (c) ?_) | (refine Wdcgx (c) ?_))
    ((first | refine endR ?_ | refine endN ?_); exact end1 (RV.tmp rfl) (Le.refl _))
  · rw [decide_eq_false h]
    have e' : (x - y).num.sign ≠ 0 := fun k => h (e.1 k)
    clear e
    generalize (x - y).num.sign = s at *
    refine Pu.intro Tryz.func143 rfl (by kernel_rfl) fun C => ?_
    repeat (first | (refine A1 ⟨?_⟩; intros) | (refine Wcx (c) ?_) | (refine Wdcx (c) ?_) | (refine Wcgx (c) ?_) | (refine Wdcgx (c) ?_))
    ((first | refine endR ?_ | refine endN ?_); exact end1 (RV.tmp rfl) (Le.refl _))
/-- a line of package geo -/
abbrev lf (a b c : Rat) : SV := ag [lit (.int .i64 (r0 a)), lit (.int .i64 (r1 a)), r2 a, lit (.int .i64 (r0 b)), lit (.int .i64 (r1 b)), r2 b, lit (.int .i64 (r0 c)), lit (.int .i64 (r1 c)), r2 c]
/-- a line of package api, and of the reference -/
abbrev lq (l : Li) : SV := ag [lit (.bool (decide (l.a < 0))), nat l.a.natAbs, lit (.bool (decide (l.b < 0))), nat l.b.natAbs, lit (.bool (decide (l.c < 0))), nat l.c.natAbs]
structure Li.le (l : Li) (L : Nat) : Prop where
  a : il l.a ≤ L
  b : il l.b ≤ L
  c : il l.c ≤ L
theorem lnormal_pu (a b c : Rat) : Pu Tryz.prog 144 [lf a b c] (pp a b) := by
  refine Pu.intro Tryz.func144 rfl (by kernel_rfl) fun C => ?_
  repeat (refine A1 ⟨?_⟩; intros)
  ((first | refine endR ?_ | refine endN ?_); refine end1 (RV.cellA rfl (by (first | exact List.mem_cons_self | exact (List.mem_cons_of_mem _ List.mem_cons_self) | exact (List.mem_cons_of_mem _ (List.mem_cons_of_mem _ List.mem_cons_self)) | exact (List.mem_cons_of_mem _ (List.mem_cons_of_mem _ (List.mem_cons_of_mem _ List.mem_cons_self))) | exact (List.mem_cons_of_mem _ (List.mem_cons_of_mem _ (List.mem_cons_of_mem _ (List.mem_cons_of_mem _ List.mem_cons_self)))) | exact (List.mem_cons_of_mem _ (List.mem_cons_of_mem _ (List.mem_cons_of_mem _ (List.mem_cons_of_mem _ (List.mem_cons_of_mem _ List.mem_cons_self))))) | exact (List.mem_cons_of_mem _ (List.mem_cons_of_mem _ (List.mem_cons_of_mem _ (List.mem_cons_of_mem _ (List.mem_cons_of_mem _ (List.mem_cons_of_mem _ List.mem_cons_self)))))) | exact (List.mem_cons_of_mem _ (List.mem_cons_of_mem _ (List.mem_cons_of_mem _ (List.mem_cons_of_mem _ (List.mem_cons_of_mem _ (List.mem_cons_of_mem _ (List.mem_cons_of_mem _ List.mem_cons_self))))))))) (by (first | (simp only [List.drop_succ_cons, List.drop_zero, List.drop_nil, List.take_succ_cons, List.take_zero, List.take_nil, Nat.zero_add, Nat.add_zero, Nat.reduceAdd]; done) | (simp only [List.drop_succ_cons, List.drop_zero, List.drop_nil, List.take_succ_cons, List.take_zero, List.take_nil, Nat.zero_add, Nat.add_zero, Nat.reduceAdd]; exact rfl) | exact rfl)) rfl) (Le.refl _))
theorem pdot_pu (x y u v : Rat) (hx : ht x ≤ 1000000) (hy : ht y ≤ 1000000) (hu : ht u ≤ 1000000) (hv : ht v ≤ 1000000) : Pu Tryz.prog 146 [pp x y, pp u v] (fr (x * u + y * v)) := by
  have h1 := ht_mul x u
  have h2 := ht_mul y v
  refine Pu.intro Tryz.func146 rfl (by kernel_rfl) fun C => ?_
  repeat (first | (refine A1 ⟨?_⟩; intros) | (refine Wcx (rmul_pu x u (by omega) (by omega)) ?_) | (refine Wdcx (rmul_pu x u (by omega) (by omega)) ?_) | (refine Wcgx (rmul_pu x u (by omega) (by omega)) ?_) | (refine Wdcgx (rmul_pu x u (by omega) (by omega)) ?_) | (refine Wcx (rmul_pu y v (by omega) (by omega)) ?_) | (refine Wdcx (rmul_pu y v (by omega) (by omega)) ?_) | (refine Wcgx (rmul_pu y v (by omega) (by omega)) ?_) | (refine Wdcgx (rmul_pu y v (by omega) (by omega)) ?_) | (refine Wcx (radd_pu (x * u) (y * v) (by omega) (by omega)) ?_) | (refine Wdcx (radd_pu (x * u) (y * v) (by omega) (by omega)) ?_) | (refine Wcgx (radd_pu (x * u) (y * v) (by omega) (by omega)) ?_) | (refine Wdcgx (radd_pu (x * u) (y * v) (by omega) (by omega)) ?_))
  ((first | refine endR ?_ | refine endN ?_); refine end1 (RV.cellA rfl (by (first | exact List.mem_cons_self | exact (List.mem_cons_of_mem _ List.mem_cons_self) | exact (List.mem_cons_of_mem _ (List.mem_cons_of_mem _ List.mem_cons_self)) | exact (List.mem_cons_of_mem _ (List.mem_cons_of_mem _ (List.mem_cons_of_mem _ List.mem_cons_self))) | exact (List.mem_cons_of_mem _ (List.mem_cons_of_mem _ (List.mem_cons_of_mem _ (List.mem_cons_of_mem _ List.mem_cons_self)))) | exact (List.mem_cons_of_mem _ (List.mem_cons_of_mem _ (List.mem_cons_of_mem _ (List.mem_cons_of_mem _ (List.mem_cons_of_mem _ List.mem_cons_self))))) | exact (List.mem_cons_of_mem _ (List.mem_cons_of_mem _ (List.mem_cons_of_mem _ (List.mem_cons_of_mem _ (List.mem_cons_of_mem _ (List.mem_cons_of_mem _ List.mem_cons_self)))))) | exact (List.mem_cons_of_mem _ (List.mem_cons_of_mem _ (List.mem_cons_of_mem _ (List.mem_cons_of_mem _ (List.mem_cons_of_mem _ (List.mem_cons_of_mem _ (List.mem_cons_of_mem _ List.mem_cons_self))))))))) (by (first | (simp only [List.drop_succ_cons, List.drop_zero, List.drop_nil, List.take_succ_cons, List.take_zero, List.take_nil, Nat.zero_add, Nat.add_zero, Nat.reduceAdd]; done) | (simp only [List.drop_succ_cons, List.drop_zero, List.drop_nil, List.take_succ_cons, List.take_zero, List.take_nil, Nat.zero_add, Nat.add_zero, Nat.reduceAdd]; exact rfl) | exact rfl)) rfl) (Le.refl _))
theorem lvalue_pu (a b c x y : Rat) (ha : ht a ≤ 100000) (hb : ht b ≤ 100000) (hc : ht c ≤ 100000) (hx : ht x ≤ 100000) (hy : ht y ≤ 100000) : Pu Tryz.prog 147 [lf a b c, pp x y] (fr (a * x + b * y + c)) := by
  have h1 := ht_mul a x
  have h2 := ht_mul b y
  have h3 := ht_add (a * x) (b * y)
  have c1 := lnormal_pu a b c
  have c2 := pdot_pu a b x y (by omega) (by omega) (by omega) (by omega)
  have c3 := radd_pu (a * x + b * y) c (by omega) (by omega)
  refine Pu.intro Tryz.func147 rfl (by kernel_rfl) fun C => ?_
  repeat (first | (refine A1 ⟨?_⟩; intros) | (refine Wcx (c1) ?_) | (refine Wdcx (c1) ?_) | (refine Wcgx (c1) ?_) | (refine Wdcgx (c1) ?_) | (refine Wcx (c2) ?_) | (refine Wdcx (c2) ?_) | (refine Wcgx (c2) ?_) | (refine Wdcgx (c2) ?_) | (refine Wcx (c3) ?_) | (refine Wdcx (c3) ?_) | (refine Wcgx (c3) ?_) | (refine Wdcgx (c3) ?_))
  ((first | refine endR ?_ | refine endN ?_); refine end1 (RV.cellA rfl (by (first | exact List.mem_cons_self | exact (List.mem_cons_of_mem _ List.mem_cons_self) | exact (List.mem_cons_of_mem _ (List.mem_cons_of_mem _ List.mem_cons_self)) | exact (List.mem_cons_of_mem _ (List.mem_cons_of_mem _ (List.mem_cons_of_mem _ List.mem_cons_self))) | exact (List.mem_cons_of_mem _ (List.mem_cons_of_mem _ (List.mem_cons_of_mem _ (List.mem_cons_of_mem _ List.mem_cons_self)))) | exact (List.mem_cons_of_mem _ (List.mem_cons_of_mem _ (List.mem_cons_of_mem _ (List.mem_cons_of_mem _ (List.mem_cons_of_mem _ List.mem_cons_self))))) | exact (List.mem_cons_of_mem _ (List.mem_cons_of_mem _ (List.mem_cons_of_mem _ (List.mem_cons_of_mem _ (List.mem_cons_of_mem _ (List.mem_cons_of_mem _ List.mem_cons_self)))))) | exact (List.mem_cons_of_mem _ (List.mem_cons_of_mem _ (List.mem_cons_of_mem _ (List.mem_cons_of_mem _ (List.mem_cons_of_mem _ (List.mem_cons_of_mem _ (List.mem_cons_of_mem _ List.mem_cons_self))))))))) (by (first | (simp only [List.drop_succ_cons, List.drop_zero, List.drop_nil, List.take_succ_cons, List.take_zero, List.take_nil, Nat.zero_add, Nat.add_zero, Nat.reduceAdd]; done) | (simp only [List.drop_succ_cons, List.drop_zero, List.drop_nil, List.take_succ_cons, List.take_zero, List.take_nil, Nat.zero_add, Nat.add_zero, Nat.reduceAdd]; exact rfl) | exact rfl)) rfl) (Le.refl _))
theorem ht_of_int (z : Int) : ht (z : Rat) = max (il z) 1 := by
  unfold ht
  rw [Rat.num_intCast, Rat.den_intCast, dgs_one]; rfl
theorem lapi_pu (l : Li) (h : l.le 1000000) : Pu Tryz.prog 85 [lf l.a l.b l.c] (lq l) := by
  obtain ⟨ha, hb, hc⟩ := h
  have e1 := ht_of_int l.a
  have e2 := ht_of_int l.b
  have e3 := ht_of_int l.c
  have c1 := num_pu (l.a : Rat) (by omega)
  have c2 := num_pu (l.b : Rat) (by omega)
  have c3 := num_pu (l.c : Rat) (by omega)
  rw [Rat.num_intCast] at c1 c2 c3
  refine Pu.intro Tryz.func85 rfl (by kernel_rfl) fun C => ?_
  repeat (first | (refine A1 ⟨?_⟩; intros) | (refine Wcx (c1) ?_) | (refine Wdcx (c1) ?_) | (refine Wcgx (c1) ?_) | (refine Wdcgx (c1) ?_) | (refine Wcx (c2) ?_) | (refine Wdcx (c2) ?_) | (refine Wcgx (c2) ?_) | (refine Wdcgx (c2) ?_) | (refine Wcx (c3) ?_) | (refine Wdcx (c3) ?_) | (refine Wcgx (c3) ?_) | (refine Wdcgx (c3) ?_))
  ((first | refine endR ?_ | refine endN ?_); refine end1 (RV.cellA rfl (by (first | exact List.mem_cons_self | exact (List.mem_cons_of_mem _ List.mem_cons_self) | exact (List.mem_cons_of_mem _ (List.mem_cons_of_mem _ List.mem_cons_self)) | exact (List.mem_cons_of_mem _ (List.mem_cons_of_mem _ (List.mem_cons_of_mem _ List.mem_cons_self))) | exact (List.mem_cons_of_mem _ (List.mem_cons_of_mem _ (List.mem_cons_of_mem _ (List.mem_cons_of_mem _ List.mem_cons_self)))) | exact (List.mem_cons_of_mem _ (List.mem_cons_of_mem _ (List.mem_cons_of_mem _ (List.mem_cons_of_mem _ (List.mem_cons_of_mem _ List.mem_cons_self))))) | exact (List.mem_cons_of_mem _ (List.mem_cons_of_mem _ (List.mem_cons_of_mem _ (List.mem_cons_of_mem _ (List.mem_cons_of_mem _ (List.mem_cons_of_mem _ List.mem_cons_self)))))) | exact (List.mem_cons_of_mem _ (List.mem_cons_of_mem _ (List.mem_cons_of_mem _ (List.mem_cons_of_mem _ (List.mem_cons_of_mem _ (List.mem_cons_of_mem _ (List.mem_cons_of_mem _ List.mem_cons_self))))))))) (by (first | (simp only [List.drop_succ_cons, List.drop_zero, List.drop_nil, List.take_succ_cons, List.take_zero, List.take_nil, Nat.zero_add, Nat.add_zero, Nat.reduceAdd]; done) | (simp only [List.drop_succ_cons, List.drop_zero, List.drop_nil, List.take_succ_cons, List.take_zero, List.take_nil, Nat.zero_add, Nat.add_zero, Nat.reduceAdd]; exact rfl) | exact rfl)) rfl) (Le.refl _))
theorem mulM (v : Value) (w : World) : (Go.method ((Tryz.prog).types.size + Made.depth) 130 v "Mul").run Tryz.prog w = .ok (181, v) w := by kernel_rfl
/-- three rational numbers, one behind the other -/
abbrev fr3 (a b c : Rat) : List SV := [lit (.int .i64 (r0 a)), lit (.int .i64 (r1 a)), r2 a, lit (.int .i64 (r0 b)), lit (.int .i64 (r1 b)), r2 b, lit (.int .i64 (r0 c)), lit (.int .i64 (r1 c)), r2 c]
set_option maxRecDepth 20000 in
set_option maxHeartbeats 1000000 in
theorem scaled_pu (b0 : Nat) (f a b c : Rat) (hf : ht f ≤ 1000000) (ha : ht a ≤ 1000000) (hb : ht b ≤ 1000000) (hc : ht c ≤ 1000000) :
    PuH Tryz.prog 200 [fr f, lit (.slice (some ⟨b0, 0, none⟩) 3 3)] [(b0, 130, fr3 a b c)] (fun r H => r = lit (.slice (some ⟨b0, 0, none⟩) 3 3) ∧ H = [(b0, 130, fr3 (a * f) (b * f) (c * f))]) noX := by
  have m1 := rmul_pu a f (by omega) (by omega)
  have m2 := rmul_pu b f (by omega) (by omega)
  have m3 := rmul_pu c f (by omega) (by omega)
  refine PuH.intro Tryz.func200 rfl (by kernel_rfl) fun C hC => ?_
  repeat (refine A1 ⟨?_⟩; intros)
  refine WP.unroll 4 ?_
  repeat (refine A1 ⟨?_⟩; intros)
  refine Wdo (ov_invoke mulM m1 rfl rfl) ?_
  repeat (refine A1 ⟨?_⟩; intros)
  refine Wdo (ov_invoke mulM m2 rfl rfl) ?_
  repeat (refine A1 ⟨?_⟩; intros)
  refine Wdo (ov_invoke mulM m3 rfl rfl) ?_
  repeat (refine A1 ⟨?_⟩; intros)
  exact endHR _ _ (end1 (RV.tmp rfl) (Le.refl _)) (List.Sublist.cons _ (List.Sublist.refl _)) ⟨rfl, rfl⟩
end Go.Ab
/- The scenes' tape: UNDER WAY. -/
namespace Go.Ab
open Go.Proofs
set_option linter.unusedSectionVars false
set_option linter.unusedVariables false
set_option linter.unusedSimpArgs false
variable [Base]
/-- a tape: its list, and any place in it -/
abbrev tapeC (zs : List Int) : List SV := [nsl .i64 zs, ex fun k : { k : Nat // k ≤ zs.length } => lit (.int .i64 (k.1 : Int))]
section
variable {P : Program} {F : Fr} {H : LH}
variable {C : Ctx} {n : Nat} {ops : Array Oper} {K : Fr → LH → Prop} {rest : List Oper} {ty : TypeId} {pos : String} {aft : Array Edge}
/-- a call of a function of the tape -/
theorem Wt {d : Nat} {f : FuncId} {l : List Operand} {tys : Array TypeId} {T : TypeId} {b : Nat} {args : Nat → List SV} {cs : List SV} {res : SV} (hc : PuM P f T args cs (fun _ : Unit => cs) (fun _ => res)) (hm : (b, T, cs) ∈ H) (k : WPL P C n ops rest K (upd F d res) H)
    (ha : l.map (ev F) = args b := by exact rfl) (hd : Nat.blt d n = true := by exact rfl) : WPL P C n ops (⟨some d, .call ⟨.value (.func f), l.toArray, tys⟩, ty, pos, aft, none⟩ :: rest) K F H := WPL.val (ov_callT hc ha hm) hd k
/-- .. whose result is one of many -/
theorem Wtx {d : Nat} {f : FuncId} {l : List Operand} {tys : Array TypeId} {T : TypeId} {b : Nat} {args : Nat → List SV} {cs : List SV} {α : Type} {res : α → SV} (hc : PuM P f T args cs (fun _ : Unit => cs) (fun _ => ex res)) (hm : (b, T, cs) ∈ H) (k : ∀ x, WPL P C n ops rest K (upd F d (res x)) H)
    (ha : l.map (ev F) = args b := by exact rfl) (hd : Nat.blt d n = true := by exact rfl) : WPL P C n ops (⟨some d, .call ⟨.value (.func f), l.toArray, tys⟩, ty, pos, aft, none⟩ :: rest) K F H :=
  WPL.val (ov_callT hc ha hm) hd (WPL.exd (d := d) upd_eq fun x => by
    have e : upd (upd F d (ex res)) d (res x) = upd F d (res x) := by
      funext t
      by_cases h : t = d
      · subst h; rw [upd_eq, upd_eq]
      · rw [upd_ne h, upd_ne h, upd_ne h]
    rw [e]; exact k x)
theorem endNwR {rs : Array ResultVar} {T : TypeId} {cs : List SV} (b : Nat) (cs0 : List SV) (h : Ends P rs.toList (lit (.pointer (some ⟨b, 0, none⟩))) F H) (hm : (b, T, cs0) ∈ H) (hl : LeL cs0 cs) : endNw P rs T cs .ret F H := ⟨b, cs0, h, hm, hl⟩
theorem endMR {rs : Array ResultVar} {α : Type} {b : Nat} {T : TypeId} {cs' : α → List SV} {res : α → SV} (x : α) (cs : List SV) (h : Ends P rs.toList (res x) F H) (hm : (b, T, cs) ∈ H) (hl : LeL cs (cs' x)) : endM P rs b T cs' res .ret F H := ⟨x, h, cs, hm, hl⟩
theorem All2.exI {α : Type} {m : Mem} {f : α → SV} : ∀ {cs : List SV} {vs : List Value} (i : Nat), All2 m cs vs → cs[i]? = some (ex f) → ∃ x, All2 m (cs.set i (f x)) vs
  | [], _, i, _, h => by simp at h
  | _ :: _, [], _, h, _ => h.elim
  | s :: cs, v :: vs, 0, h, hi => by
    simp only [List.getElem?_cons_zero, Option.some.injEq] at hi
    subst hi
    have h1 := h.1.1
    unfold ex at h1
    obtain ⟨x, hx⟩ := h1
    exact ⟨x, ⟨hx, h.1.2⟩, h.2⟩
  | s :: cs, v :: vs, i + 1, h, hi => by
    obtain ⟨x, hx⟩ := All2.exI i h.2 (by simpa using hi)
    exact ⟨x, h.1, hx⟩
/-- what a cell of a block holds is one of many -/
theorem WP.exH {C : Ctx} {n : Nat} {Q : Exit → Fr → LH → Prop} {α : Type} {f : α → SV} {c : Code} {b : Nat} {T : TypeId} {cs : List SV} {H' : α → LH} (i : Nat) (hi : cs[i]? = some (ex f)) (hu : ∀ x, HUpd b T cs (cs.set i (f x)) H (H' x)) (x0 : α)
    (k : ∀ x, WP P C n c Q F (H' x)) : WP P C n c Q F H := by
  unfold WP at *
  rintro a w ⟨hdef, hn, m, h1, h2, h3, h4, h5⟩
  obtain ⟨g1, arr, g2, g3⟩ := h2.2 _ (hu x0).mem
  obtain ⟨x, hx⟩ := g3.exI i hi
  refine k x a w ⟨hdef, hn, m, h1, ⟨(hu x).keys ▸ h2.1, fun e he => ?_⟩, h3, fun e he => ?_, h5⟩
  · rcases (hu x).mem' h2.1 e he with rfl | ⟨he', _⟩
    · exact ⟨g1, arr, g2, hx⟩
    · exact h2.2 e he'
  · have : e.1 ∈ (H' x).map (·.1) := List.mem_map.2 ⟨e, he, rfl⟩
    rw [(hu x).keys] at this
    obtain ⟨e', he', hk'⟩ := List.mem_map.1 this
    exact hk' ▸ h4 e' he'
end
theorem new_pu (zs : List Int) (hz : zs.length ≤ 9223372036854775807) : PuN Tryz.prog 8 118 [nsl .i64 zs] (tapeC (zs.take (min zs.length 400))) := by
  obtain ⟨k, hk⟩ : ∃ k, k = min zs.length 400 := ⟨_, rfl⟩
  rw [← hk]
  by_cases h : zs.length ≤ 400
  · have hk : k = zs.length := by omega
    subst hk
    refine PuN.intro Tryz.func8 rfl (by kernel_rfl) fun C => ?_
    repeat (refine A1 ⟨?_⟩; intros)
    refine Wo (ov_sliceN (i := 0) (j := zs.length) rfl (fun _ h => by cases h) (fun _ => rfl) (fun y h => ⟨_, _, by cases h; exact rfl, rfl⟩) (fun h => by cases h) (by omega) (by omega) rfl) ?_
    repeat (refine A1 ⟨?_⟩; intros)
    exact endNwR _ _ (end1 (RV.tmp rfl) (Le.refl _)) List.mem_cons_self ⟨Le.refl _, Le.ex ⟨0, by simp⟩ (Le.refl _), trivial⟩
  · have hk : k = 400 := by omega
    subst hk
    refine PuN.intro Tryz.func8 rfl (by kernel_rfl) fun C => ?_
    repeat (refine A1 ⟨?_⟩; intros)
    refine Wo (ov_sliceN (i := 0) (j := 400) rfl (fun _ h => by cases h) (fun _ => rfl) (fun y h => ⟨_, _, by cases h; exact rfl, rfl⟩) (fun h => by cases h) (by omega) (by omega) rfl) ?_
    repeat (refine A1 ⟨?_⟩; intros)
    exact endNwR _ _ (end1 (RV.tmp rfl) (Le.refl _)) List.mem_cons_self ⟨Le.refl _, Le.ex ⟨0, by simp⟩ (Le.refl _), trivial⟩
/-- a function of the tape, which goes on somewhere in it -/
abbrev PuT (f : FuncId) (zs : List Int) (args : List SV) (res : SV) : Prop := PuM Tryz.prog f 118 (fun b => lit (.pointer (some ⟨b, 0, none⟩)) :: args) (tapeC zs) (fun _ : Unit => tapeC zs) (fun _ => res)
/-- a number below n -/
abbrev below (n : Nat) : SV := ex fun k : { k : Nat // k < n } => lit (.int .i64 (k.1 : Int))
theorem next_pu (zs : List Int) (hz : zs.length ≤ 400) (n : Nat) (hn : 0 < n) (hn' : n ≤ 1000000000) : PuT 52 zs [lit (.int .i64 n)] (below n) := by
  refine PuM.intro Tryz.func52 rfl (by kernel_rfl) fun C b => ?_
  refine WP.exH 1 rfl (fun x => HUpd.here _) ⟨0, by omega⟩ fun x => ?_
  obtain ⟨k, hk⟩ := x
  simp only [tapeC, List.set_cons_succ, List.set_cons_zero]
  by_cases hkl : k < zs.length
  · have m1 := Int.tmod_lt_of_pos (zs.getD k 0) (show (0 : Int) < n by omega)
    have m2 := Int.lt_tmod_of_pos (zs.getD k 0) (show (0 : Int) < n by omega)
    repeat (refine A1 ⟨?_⟩; intros)
    generalize (zs.getD k 0).tmod (n : Int) = r at *
    refine WPd (fun h => ?_) (fun h => ?_)
    · repeat (refine A1 ⟨?_⟩; intros)
      exact endMR () _ (end1 (RV.tmp rfl) (Le.ex ⟨(r + n).toNat, by omega⟩ (Le.int (by simp only; omega)))) List.mem_cons_self ⟨Le.refl _, Le.ex ⟨k + 1, by omega⟩ (Le.refl _), trivial⟩
    · repeat (refine A1 ⟨?_⟩; intros)
      exact endMR () _ (end1 (RV.tmp rfl) (Le.ex ⟨r.toNat, by omega⟩ (Le.int (by simp only; omega)))) List.mem_cons_self ⟨Le.refl _, Le.ex ⟨k + 1, by omega⟩ (Le.refl _), trivial⟩
  · repeat (refine A1 ⟨?_⟩; intros)
    exact endMR () _ (end1 (RV.tmp rfl) (Le.ex ⟨0, hn⟩ (Le.refl _))) List.mem_cons_self ⟨Le.refl _, Le.ex ⟨k, hk⟩ (Le.refl _), trivial⟩
/-- a rational whose parts have one digit -/
abbrev smallR : SV := ex fun x : { x : Rat // ht x ≤ 1 } => rq x.1
theorem ht_mkz (z : Int) (d : Nat) (hz : z.natAbs < 4294967296) (hd : d < 4294967296) : ht (mkRat z d) ≤ 1 := by
  have h := ht_mk z d
  have h1 : il z ≤ 1 := len_le (k := 1) (by simpa using hz)
  have h2 := len_le (n := d) (k := 1) (by simpa using hd)
  omega
theorem ht_int (z : Int) (h : z.natAbs < 4294967296) : ht (z : Rat) ≤ 1 := by
  unfold ht
  rw [Rat.num_intCast, Rat.den_intCast, dgs_one]
  have : il z ≤ 1 := len_le (k := 1) (by simpa using h)
  simp; omega
theorem tq_pu (zs : List Int) (hz : zs.length ≤ 400) : PuT 51 zs [] smallR := by
  refine PuM.intro Tryz.func51 rfl (by kernel_rfl) fun C b => ?_
  repeat (refine A1 ⟨?_⟩; intros)
  refine Wtx (next_pu zs hz 9 (by omega) (by omega)) (List.mem_cons_of_mem _ List.mem_cons_self) fun k => ?_
  obtain ⟨k, hk⟩ := k
  simp only []
  repeat (refine A1 ⟨?_⟩; intros)
  refine Wtx (next_pu zs hz 6 (by omega) (by omega)) (List.mem_cons_of_mem _ List.mem_cons_self) fun j => ?_
  obtain ⟨j, hj⟩ := j
  simp only []
  have fin : ∀ (x : Rat), ht x ≤ 1 → Le (ag [lit (.bool (decide (x.num < 0))), nat x.num.natAbs, dg (dden x.den)]) smallR := fun x hx => Le.ex ⟨x, hx⟩ (Le.refl _)
  by_cases hj0 : j = 0
  · have hp := rpart_pu (2 * ((k : Int) - 4) + 1) 2 (by omega) (by omega) (by omega) (by omega)
    repeat (first | (refine A1 ⟨?_⟩; intros) | (refine Wcx (hp) ?_) | (refine Wdcx (hp) ?_) | (refine Wcgx (hp) ?_) | (refine Wdcgx (hp) ?_))
    exact endMR () _ (end1 (RV.cellA rfl List.mem_cons_self rfl rfl) (fin _ (ht_mkz _ _ (by omega) (by omega)))) (List.mem_cons_of_mem _ List.mem_cons_self) (LeL.refl _)
  · by_cases hj1 : j = 1
    · have hp := rpart_pu (3 * ((k : Int) - 4) + 1) 3 (by omega) (by omega) (by omega) (by omega)
      repeat (first | (refine A1 ⟨?_⟩; intros) | (refine Wcx (hp) ?_) | (refine Wdcx (hp) ?_) | (refine Wcgx (hp) ?_) | (refine Wdcgx (hp) ?_))
      exact endMR () _ (end1 (RV.cellA rfl List.mem_cons_self rfl rfl) (fin _ (ht_mkz _ _ (by omega) (by omega)))) (List.mem_cons_of_mem _ List.mem_cons_self) (LeL.refl _)
    · have hp := rof_pu ((k : Int) - 4) (by omega) (by omega)
      repeat (first | (refine A1 ⟨?_⟩; intros) | (refine Wcx (hp) ?_) | (refine Wdcx (hp) ?_) | (refine Wcgx (hp) ?_) | (refine Wdcgx (hp) ?_))
      exact endMR () _ (end1 (RV.cellA rfl List.mem_cons_self rfl rfl) (fin _ (ht_int _ (by omega)))) (List.mem_cons_of_mem _ List.mem_cons_self) (LeL.refl _)
theorem leN0 : Le (lit (.slice none 0 0)) (nat (0 : Rat).num.natAbs) := by
  rw [show (0 : Rat).num.natAbs = 0 from rfl, show nat 0 = dg [] from by show dg (dgs 0) = _; rw [dgs_zero]]
  exact le_nil
theorem leD0 : Le (lit (.slice none 0 0)) (dg (dden (0 : Rat).den)) := by
  rw [show (0 : Rat).den = 1 from rfl, dden_one]; exact le_nil
abbrev smallP : SV := ex fun p : { p : Rat × Rat // ht p.1 ≤ 1 ∧ ht p.2 ≤ 1 } => rp p.1.1 p.1.2
abbrev smallM : SV := ex fun m : { m : M6 Rat // m.le 1 } => rm m.1
theorem tpoint_pu (zs : List Int) (hz : zs.length ≤ 400) : PuT 12 zs [] smallP := by
  refine PuM.intro Tryz.func12 rfl (by kernel_rfl) fun C b => ?_
  repeat (refine A1 ⟨?_⟩; intros)
  refine Wtx (tq_pu zs hz) (List.mem_cons_of_mem _ List.mem_cons_self) fun x => ?_
  repeat (refine A1 ⟨?_⟩; intros)
  refine Wtx (tq_pu zs hz) (List.mem_cons_of_mem _ List.mem_cons_self) fun y => ?_
  repeat (refine A1 ⟨?_⟩; intros)
  exact endMR () _ (end1 (RV.cellA rfl List.mem_cons_self rfl rfl) (Le.ex ⟨(x.1, y.1), x.2, y.2⟩ (Le.refl _))) (List.mem_cons_of_mem _ List.mem_cons_self) (LeL.refl _)
theorem tmap_pu (zs : List Int) (hz : zs.length ≤ 400) : PuT 10 zs [] smallM := by
  have h0 : ht 0 ≤ 1 := by rw [show (0 : Rat) = ((0 : Int) : Rat) from rfl]; exact ht_int 0 (by omega)
  have h1 : ht 1 ≤ 1 := by rw [ht_one]; omega
  refine PuM.intro Tryz.func10 rfl (by kernel_rfl) fun C b => ?_
  repeat (first | (refine A1 ⟨?_⟩; intros) | (refine Wcx (rof1) ?_) | (refine Wdcx (rof1) ?_) | (refine Wcgx (rof1) ?_) | (refine Wdcgx (rof1) ?_))
  refine Wtx (tq_pu zs hz) (List.mem_cons_of_mem _ List.mem_cons_self) fun c => ?_
  repeat (refine A1 ⟨?_⟩; intros)
  refine Wtx (tq_pu zs hz) (List.mem_cons_of_mem _ List.mem_cons_self) fun f => ?_
  repeat (refine A1 ⟨?_⟩; intros)
  refine Wtx (next_pu zs hz 4 (by omega) (by omega)) (List.mem_cons_of_mem _ (List.mem_cons_of_mem _ List.mem_cons_self)) fun j => ?_
  obtain ⟨j, hj⟩ := j
  simp only []
  by_cases hj0 : j = 0
  · repeat (refine A1 ⟨?_⟩; intros)
    refine Wtx (tq_pu zs hz) (List.mem_cons_of_mem _ (List.mem_cons_of_mem _ List.mem_cons_self)) fun xa => ?_
    repeat (refine A1 ⟨?_⟩; intros)
    refine Wtx (tq_pu zs hz) (List.mem_cons_of_mem _ (List.mem_cons_of_mem _ List.mem_cons_self)) fun xb => ?_
    repeat (refine A1 ⟨?_⟩; intros)
    refine Wtx (tq_pu zs hz) (List.mem_cons_of_mem _ (List.mem_cons_of_mem _ List.mem_cons_self)) fun xd => ?_
    repeat (refine A1 ⟨?_⟩; intros)
    refine Wtx (tq_pu zs hz) (List.mem_cons_of_mem _ (List.mem_cons_of_mem _ List.mem_cons_self)) fun xe => ?_
    repeat (refine A1 ⟨?_⟩; intros)
    exact endMR () _ (end1 (RV.cellA rfl (List.mem_cons_of_mem _ List.mem_cons_self) rfl rfl) (Le.ex ⟨⟨xa.1, xb.1, c.1, xd.1, xe.1, f.1⟩, ⟨xa.2, xb.2, c.2, xd.2, xe.2, f.2⟩⟩ (Le.ag (by repeat (first | exact trivial | refine ⟨?_, ?_⟩ | exact Le.refl _ | exact leN0 | exact leD0))))) (List.mem_cons_of_mem _ (List.mem_cons_of_mem _ List.mem_cons_self)) (LeL.refl _)
  · by_cases hj1 : j = 1
    · repeat (first | (refine A1 ⟨?_⟩; intros) | (refine Wcx (rof1) ?_) | (refine Wdcx (rof1) ?_) | (refine Wcgx (rof1) ?_) | (refine Wdcgx (rof1) ?_))
      exact endMR () _ (end1 (RV.cellA rfl (List.mem_cons_of_mem _ List.mem_cons_self) rfl rfl) (Le.ex ⟨⟨0, 1, c.1, 1, 0, f.1⟩, ⟨h0, h1, c.2, h1, h0, f.2⟩⟩ (Le.ag (by repeat (first | exact trivial | refine ⟨?_, ?_⟩ | exact Le.refl _ | exact leN0 | exact leD0))))) (List.mem_cons_of_mem _ (List.mem_cons_of_mem _ List.mem_cons_self)) (LeL.refl _)
    · by_cases hj2 : j = 2
      · repeat (refine A1 ⟨?_⟩; intros)
        refine Wtx (tq_pu zs hz) (List.mem_cons_of_mem _ (List.mem_cons_of_mem _ List.mem_cons_self)) fun xb => ?_
        repeat (refine A1 ⟨?_⟩; intros)
        exact endMR () _ (end1 (RV.cellA rfl (List.mem_cons_of_mem _ List.mem_cons_self) rfl rfl) (Le.ex ⟨⟨1, xb.1, c.1, 0, 1, f.1⟩, ⟨h1, xb.2, c.2, h0, h1, f.2⟩⟩ (Le.ag (by repeat (first | exact trivial | refine ⟨?_, ?_⟩ | exact Le.refl _ | exact leN0 | exact leD0))))) (List.mem_cons_of_mem _ (List.mem_cons_of_mem _ List.mem_cons_self)) (LeL.refl _)
      · repeat (refine A1 ⟨?_⟩; intros)
        exact endMR () _ (end1 (RV.cellA rfl (List.mem_cons_of_mem _ List.mem_cons_self) rfl rfl) (Le.ex ⟨⟨1, 0, c.1, 0, 1, f.1⟩, ⟨h1, h0, c.2, h0, h1, f.2⟩⟩ (Le.ag (by repeat (first | exact trivial | refine ⟨?_, ?_⟩ | exact Le.refl _ | exact leN0 | exact leD0))))) (List.mem_cons_of_mem _ (List.mem_cons_of_mem _ List.mem_cons_self)) (LeL.refl _)
end Go.Ab
/- Package affine: Invert; the reference's After, Invert. -/
namespace Go.Ab
open Go.Proofs
set_option linter.unusedSectionVars false
set_option linter.unusedVariables false
set_option linter.unusedSimpArgs false
variable [Base]
theorem regular_f {m : M6 Rat} {L : Nat} (h : m.le L) (hL : L ≤ 100000) (h0 : m.det = 0) [Sent 0] : Pu Tryz.prog 62 [mq m] (Ab.tup [mf m, lit (sent 0)]) := by
  have hd := adet_pu h (by omega)
  have ho := aof_q (m := m) ⟨Nat.le_trans h.a (by omega), Nat.le_trans h.b (by omega), Nat.le_trans h.c (by omega), Nat.le_trans h.d (by omega), Nat.le_trans h.e (by omega), Nat.le_trans h.f (by omega)⟩
  have hz := zero_pu m.det
  rw [show m.a * m.e - m.d * m.b = m.det from rfl] at hd
  rw [decide_eq_true (Rat.num_eq_zero.2 h0)] at hz
  refine Pu.intro Tryz.func62 rfl (by kernel_rfl) fun C => ?_
  repeat (first | (refine A1 ⟨?_⟩; intros) | (refine Wcx (ho) ?_) | (refine Wdcx (ho) ?_) | (refine Wcgx (ho) ?_) | (refine Wdcgx (ho) ?_) | (refine Wcx (hd) ?_) | (refine Wdcx (hd) ?_) | (refine Wcgx (hd) ?_) | (refine Wdcgx (hd) ?_) | (refine Wcx (hz) ?_) | (refine Wdcx (hz) ?_) | (refine Wcgx (hz) ?_) | (refine Wdcgx (hz) ?_))
  repeat' (first | (refine A1 ⟨?_⟩; intros) | exact WPI.nil | refine And.intro ?_ ?_)
  all_goals ((first | refine endR ?_ | refine endN ?_); exact end2 (RV.cellA rfl (by (first | exact List.mem_cons_self | exact (List.mem_cons_of_mem _ List.mem_cons_self) | exact (List.mem_cons_of_mem _ (List.mem_cons_of_mem _ List.mem_cons_self)) | exact (List.mem_cons_of_mem _ (List.mem_cons_of_mem _ (List.mem_cons_of_mem _ List.mem_cons_self))) | exact (List.mem_cons_of_mem _ (List.mem_cons_of_mem _ (List.mem_cons_of_mem _ (List.mem_cons_of_mem _ List.mem_cons_self)))) | exact (List.mem_cons_of_mem _ (List.mem_cons_of_mem _ (List.mem_cons_of_mem _ (List.mem_cons_of_mem _ (List.mem_cons_of_mem _ List.mem_cons_self))))) | exact (List.mem_cons_of_mem _ (List.mem_cons_of_mem _ (List.mem_cons_of_mem _ (List.mem_cons_of_mem _ (List.mem_cons_of_mem _ (List.mem_cons_of_mem _ List.mem_cons_self)))))) | exact (List.mem_cons_of_mem _ (List.mem_cons_of_mem _ (List.mem_cons_of_mem _ (List.mem_cons_of_mem _ (List.mem_cons_of_mem _ (List.mem_cons_of_mem _ (List.mem_cons_of_mem _ List.mem_cons_self))))))))) (by (first | (simp only [List.drop_succ_cons, List.drop_zero, List.drop_nil, List.take_succ_cons, List.take_zero, List.take_nil, Nat.zero_add, Nat.add_zero, Nat.reduceAdd]; done) | (simp only [List.drop_succ_cons, List.drop_zero, List.drop_nil, List.take_succ_cons, List.take_zero, List.take_nil, Nat.zero_add, Nat.add_zero, Nat.reduceAdd]; exact rfl) | exact rfl)) rfl) (RV.tmp rfl) (Le.refl _))
theorem regular_t {m : M6 Rat} {L : Nat} (h : m.le L) (hL : L ≤ 100000) (h0 : m.det ≠ 0) : Pu Tryz.prog 62 [mq m] (Ab.tup [mf m, lit .nilIface]) := by
  have hd := adet_pu h (by omega)
  have ho := aof_q (m := m) ⟨Nat.le_trans h.a (by omega), Nat.le_trans h.b (by omega), Nat.le_trans h.c (by omega), Nat.le_trans h.d (by omega), Nat.le_trans h.e (by omega), Nat.le_trans h.f (by omega)⟩
  have hz := zero_pu m.det
  rw [show m.a * m.e - m.d * m.b = m.det from rfl] at hd
  rw [decide_eq_false (fun e => h0 (Rat.num_eq_zero.1 e))] at hz
  refine Pu.intro Tryz.func62 rfl (by kernel_rfl) fun C => ?_
  repeat (first | (refine A1 ⟨?_⟩; intros) | (refine Wcx (ho) ?_) | (refine Wdcx (ho) ?_) | (refine Wcgx (ho) ?_) | (refine Wdcgx (ho) ?_) | (refine Wcx (hd) ?_) | (refine Wdcx (hd) ?_) | (refine Wcgx (hd) ?_) | (refine Wdcgx (hd) ?_) | (refine Wcx (hz) ?_) | (refine Wdcx (hz) ?_) | (refine Wcgx (hz) ?_) | (refine Wdcgx (hz) ?_))
  ((first | refine endR ?_ | refine endN ?_); exact end2 (RV.cellA rfl (by (first | exact List.mem_cons_self | exact (List.mem_cons_of_mem _ List.mem_cons_self) | exact (List.mem_cons_of_mem _ (List.mem_cons_of_mem _ List.mem_cons_self)) | exact (List.mem_cons_of_mem _ (List.mem_cons_of_mem _ (List.mem_cons_of_mem _ List.mem_cons_self))) | exact (List.mem_cons_of_mem _ (List.mem_cons_of_mem _ (List.mem_cons_of_mem _ (List.mem_cons_of_mem _ List.mem_cons_self)))) | exact (List.mem_cons_of_mem _ (List.mem_cons_of_mem _ (List.mem_cons_of_mem _ (List.mem_cons_of_mem _ (List.mem_cons_of_mem _ List.mem_cons_self))))) | exact (List.mem_cons_of_mem _ (List.mem_cons_of_mem _ (List.mem_cons_of_mem _ (List.mem_cons_of_mem _ (List.mem_cons_of_mem _ (List.mem_cons_of_mem _ List.mem_cons_self)))))) | exact (List.mem_cons_of_mem _ (List.mem_cons_of_mem _ (List.mem_cons_of_mem _ (List.mem_cons_of_mem _ (List.mem_cons_of_mem _ (List.mem_cons_of_mem _ (List.mem_cons_of_mem _ List.mem_cons_self))))))))) (by (first | (simp only [List.drop_succ_cons, List.drop_zero, List.drop_nil, List.take_succ_cons, List.take_zero, List.take_nil, Nat.zero_add, Nat.add_zero, Nat.reduceAdd]; done) | (simp only [List.drop_succ_cons, List.drop_zero, List.drop_nil, List.take_succ_cons, List.take_zero, List.take_nil, Nat.zero_add, Nat.add_zero, Nat.reduceAdd]; exact rfl) | exact rfl)) rfl) (RV.tmp rfl) (Le.refl _))
/-- a map all of whose numbers are zero values -/
abbrev mz : SV := ag [lit (.bool false), lit (.slice none 0 0), lit (.slice none 0 0), lit (.bool false), lit (.slice none 0 0), lit (.slice none 0 0), lit (.bool false), lit (.slice none 0 0), lit (.slice none 0 0), lit (.bool false), lit (.slice none 0 0), lit (.slice none 0 0), lit (.bool false), lit (.slice none 0 0), lit (.slice none 0 0), lit (.bool false), lit (.slice none 0 0), lit (.slice none 0 0)]
theorem invert_f {m : M6 Rat} {L : Nat} (h : m.le L) (hL : L ≤ 100000) (h0 : m.det = 0) [Sent 0] : Pu Tryz.prog 18 [mq m] (Ab.tup [mz, lit (sent 0)]) := by
  have hr := regular_f h hL h0
  refine Pu.intro Tryz.func18 rfl (by kernel_rfl) fun C => ?_
  repeat (first | (refine A1 ⟨?_⟩; intros) | (refine Wcx (hr) ?_) | (refine Wdcx (hr) ?_) | (refine Wcgx (hr) ?_) | (refine Wdcgx (hr) ?_))
  ((first | refine endR ?_ | refine endN ?_); exact end2 (RV.cellA rfl (by (first | exact List.mem_cons_self | exact (List.mem_cons_of_mem _ List.mem_cons_self) | exact (List.mem_cons_of_mem _ (List.mem_cons_of_mem _ List.mem_cons_self)) | exact (List.mem_cons_of_mem _ (List.mem_cons_of_mem _ (List.mem_cons_of_mem _ List.mem_cons_self))) | exact (List.mem_cons_of_mem _ (List.mem_cons_of_mem _ (List.mem_cons_of_mem _ (List.mem_cons_of_mem _ List.mem_cons_self)))) | exact (List.mem_cons_of_mem _ (List.mem_cons_of_mem _ (List.mem_cons_of_mem _ (List.mem_cons_of_mem _ (List.mem_cons_of_mem _ List.mem_cons_self))))) | exact (List.mem_cons_of_mem _ (List.mem_cons_of_mem _ (List.mem_cons_of_mem _ (List.mem_cons_of_mem _ (List.mem_cons_of_mem _ (List.mem_cons_of_mem _ List.mem_cons_self)))))) | exact (List.mem_cons_of_mem _ (List.mem_cons_of_mem _ (List.mem_cons_of_mem _ (List.mem_cons_of_mem _ (List.mem_cons_of_mem _ (List.mem_cons_of_mem _ (List.mem_cons_of_mem _ List.mem_cons_self))))))))) (by (first | (simp only [List.drop_succ_cons, List.drop_zero, List.drop_nil, List.take_succ_cons, List.take_zero, List.take_nil, Nat.zero_add, Nat.add_zero, Nat.reduceAdd]; done) | (simp only [List.drop_succ_cons, List.drop_zero, List.drop_nil, List.take_succ_cons, List.take_zero, List.take_nil, Nat.zero_add, Nat.add_zero, Nat.reduceAdd]; exact rfl) | exact rfl)) rfl) (RV.tmp rfl) (Le.refl _))
theorem invert_t {m : M6 Rat} {L : Nat} (h : m.le L) (hL : L ≤ 1000) (h0 : m.det ≠ 0) : Pu Tryz.prog 18 [mq m] (Ab.tup [mq m.inv, lit .nilIface]) := by
  have hr := regular_t h (by omega) h0
  have hi := inverse_pu h hL
  have hw := awrite_pu (M6.inv_le h) (by omega)
  refine Pu.intro Tryz.func18 rfl (by kernel_rfl) fun C => ?_
  repeat (first | (refine A1 ⟨?_⟩; intros) | (refine Wcx (hr) ?_) | (refine Wdcx (hr) ?_) | (refine Wcgx (hr) ?_) | (refine Wdcgx (hr) ?_) | (refine Wcx (hi) ?_) | (refine Wdcx (hi) ?_) | (refine Wcgx (hi) ?_) | (refine Wdcgx (hi) ?_) | (refine Wcx (hw) ?_) | (refine Wdcx (hw) ?_) | (refine Wcgx (hw) ?_) | (refine Wdcgx (hw) ?_))
  ((first | refine endR ?_ | refine endN ?_); exact end2 (RV.cellA rfl (by (first | exact List.mem_cons_self | exact (List.mem_cons_of_mem _ List.mem_cons_self) | exact (List.mem_cons_of_mem _ (List.mem_cons_of_mem _ List.mem_cons_self)) | exact (List.mem_cons_of_mem _ (List.mem_cons_of_mem _ (List.mem_cons_of_mem _ List.mem_cons_self))) | exact (List.mem_cons_of_mem _ (List.mem_cons_of_mem _ (List.mem_cons_of_mem _ (List.mem_cons_of_mem _ List.mem_cons_self)))) | exact (List.mem_cons_of_mem _ (List.mem_cons_of_mem _ (List.mem_cons_of_mem _ (List.mem_cons_of_mem _ (List.mem_cons_of_mem _ List.mem_cons_self))))) | exact (List.mem_cons_of_mem _ (List.mem_cons_of_mem _ (List.mem_cons_of_mem _ (List.mem_cons_of_mem _ (List.mem_cons_of_mem _ (List.mem_cons_of_mem _ List.mem_cons_self)))))) | exact (List.mem_cons_of_mem _ (List.mem_cons_of_mem _ (List.mem_cons_of_mem _ (List.mem_cons_of_mem _ (List.mem_cons_of_mem _ (List.mem_cons_of_mem _ (List.mem_cons_of_mem _ List.mem_cons_self))))))))) (by (first | (simp only [List.drop_succ_cons, List.drop_zero, List.drop_nil, List.take_succ_cons, List.take_zero, List.take_nil, Nat.zero_add, Nat.add_zero, Nat.reduceAdd]; done) | (simp only [List.drop_succ_cons, List.drop_zero, List.drop_nil, List.take_succ_cons, List.take_zero, List.take_nil, Nat.zero_add, Nat.add_zero, Nat.reduceAdd]; exact rfl) | exact rfl)) rfl) (RV.tmp rfl) (Le.refl _))
end Go.Ab
