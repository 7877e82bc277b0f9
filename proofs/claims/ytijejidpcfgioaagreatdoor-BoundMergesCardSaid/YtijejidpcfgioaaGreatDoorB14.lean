/- Texts laid one behind the other: Err, AffB, LnM, LnA, LnB, Nrm, Fmt, Wrt, Node. -/
import Derived.Test.YtijejidpcfgioaaGreatDoorB04
import Derived.Laws.Externs
import Derived.Test.YtijejidpcfgioaaGreatDoorB13
import Derived.Test.YtijejidpcfgioaaGreatDoorB05
/- Sentinel errors: package variables that hold a pointer to an errors.errorString; errors.Is of one and the same. -/
namespace Go.Ab
open Go.Proofs
set_option linter.unusedSectionVars false
set_option linter.unusedVariables false
set_option linter.unusedSimpArgs false
variable [Base]
/-- where a sentinel's text lies -/
def addrIn : Option Value → Addr
  | some (.iface _ (.pointer (some a))) => a
  | _ => ⟨0, 0, none⟩
def gaddr (g : Nat) : Addr := match Base.mem g with
  | some (.cells arr _ _) => addrIn arr[0]?
  | _ => ⟨0, 0, none⟩
/-- a sentinel -/
abbrev sent (g : Nat) : Value := .iface 330 (.pointer (some (gaddr g)))
class Sent (g : Nat) : Prop where
  h : ∃ (a : Addr) (T : TypeId) (fz : Nat × Nat), Base.mem g = some (.cells #[.iface 330 (.pointer (some a))] T fz)
instance (g : Nat) [s : Sent g] : GV g (sent g) := ⟨by
  obtain ⟨a, T, fz, h⟩ := s.h
  refine ⟨T, fz, ?_⟩
  unfold sent gaddr
  rw [h]; rfl⟩
theorem isTypeOf (v : Value) (w : World) : (Extern.ReflectliteType.typeOf #[.iface 330 v]).run Tryz.prog w = .ok (.iface 125 (.agg #[.pointer (some ⟨(Tryz.prog).globals.size, 330, none⟩)])) w := by kernel_rfl
theorem isComparable (w : World) : ((Extern.ReflectliteType.method fun t => do Extern.Rtype.noPackHeld "Comparable" t; pure (.bool (← typeInfo t).comparable)) #[.agg #[.pointer (some ⟨(Tryz.prog).globals.size, 330, none⟩)]]).run Tryz.prog w = .ok (.bool true) w := by kernel_rfl
theorem isMethodC (v : Value) (w : World) : (Go.method ((Tryz.prog).types.size + Made.depth) 125 v "Comparable").run Tryz.prog w = .ok (309, v) w := by kernel_rfl
section
variable {F : Fr} {H : LH} {ty : TypeId}
theorem ov_typeOf {x : Operand} {v : Value} {tys : Array TypeId} (hx : ev F x = lit (.iface 330 v)) : OpV Tryz.prog (.call ⟨.value (.func 44), [x].toArray, tys⟩) ty F H (lit (.iface 125 (.agg #[.pointer (some ⟨(Tryz.prog).globals.size, 330, none⟩)]))) :=
  OpV.pure fun m w o a ho _ _ _ h => by
    have h0 := h x (by simp [Op.operands, Call.operands]); rw [hx, lit_p] at h0
    have h8 := @run_callFunc_extern Tryz.prog 44 _ Extern.ReflectliteType.typeOf Tryz.func44 (by kernel_rfl) (by kernel_rfl) (by kernel_rfl) (by kernel_rfl)
    refine ⟨_, ?_, lit_p.2 rfl⟩
    have := h8 #[a.eval x] w
    rw [h0, isTypeOf, ← h0] at this
    simp only [execOp, ho, resolve, Sem.run_bind, Sem.run_pure, Result.andThen_ok]
    have e1 : a.eval (.func 44) = .func (.func 44) #[] #[] := rfl
    simp only [e1, Deferred.ofValue, Sem.run_pure, Result.andThen_ok, invoke, List.map_toArray, List.map_cons, List.map_nil, Array.empty_append, Array.append_empty, this]
theorem ov_cmpble {x : Operand} {tys : Array TypeId} (hx : ev F x = lit (.iface 125 (.agg #[.pointer (some ⟨(Tryz.prog).globals.size, 330, none⟩)]))) : OpV Tryz.prog (.call ⟨.invoke x "Comparable", #[], tys⟩) ty F H (lit (.bool true)) :=
  OpV.pure fun m w o a ho _ _ _ h => by
    have h0 := h x (by simp [Op.operands, Call.operands]); rw [hx, lit_p] at h0
    have h8 := @run_callFunc_extern Tryz.prog 309 _ (Extern.ReflectliteType.method fun t => do Extern.Rtype.noPackHeld "Comparable" t; pure (.bool (← typeInfo t).comparable)) Tryz.func309 (by kernel_rfl) (by kernel_rfl) (by kernel_rfl) (by kernel_rfl)
    refine ⟨_, ?_, lit_p.2 rfl⟩
    have := h8 #[.agg #[.pointer (some ⟨(Tryz.prog).globals.size, 330, none⟩)]] w
    have hc := isComparable w
    have hm := isMethodC (.agg #[.pointer (some ⟨(Tryz.prog).globals.size, 330, none⟩)]) w
    rw [hc] at this
    have hz : (callMethod (.iface 125 (.agg #[.pointer (some ⟨(Tryz.prog).globals.size, 330, none⟩)])) "Comparable" #[]).run Tryz.prog w = .ok (.value (.bool true)) w := by
      simp only [callMethod, Sem.run_bind, run_program, Result.andThen_ok, hm, Array.append_empty, this]
    have he : execOp a.eval o = callMethod (a.eval x) "Comparable" #[] := by
      simp [execOp, ho, resolve, invoke]
    rw [he, h0, hz]
theorem ov_isame {g : Nat} {x y : Operand} {T' : TypeId} (hx : ev F x = lit (sent g)) (hy : ev F y = lit (sent g)) : OpV Tryz.prog (.binOp .eql 38 x y T') ty F H (lit (.bool true)) :=
  ov_bin hx hy (fun w => by
    obtain ⟨i, hi, hc⟩ := Option.map_eq_some_iff.1 (show ((Tryz.prog).info? 330).map (·.comparable) = some true by kernel_rfl)
    obtain ⟨j, hj, _⟩ := Option.map_eq_some_iff.1 (show ((Tryz.prog).info? 332).map (·.size) = some 1 by kernel_rfl)
    exact run_eql_iface_ptr_same w _ Tryz.underlying38 Tryz.underlying330 hi hc hj) (fun w => by simp [Go.eqGuard])
end
theorem is1_pu (g : Nat) : Pu Tryz.prog 45 [lit (sent g), lit (sent g), lit (.bool true)] (lit (.bool true)) := by
  refine Pu.intro Tryz.func45 rfl (by kernel_rfl) fun C => ?_
  repeat (refine A1 ⟨?_⟩; intros)
  refine WP.loop (ι := Unit) (fun _ => True) (fun _ => 0) (fun _ => fm [(0, lit (sent g)), (1, lit (sent g)), (2, lit (.bool true))]) (fun _ => []) () trivial (by (repeat (first | exact LeF.nil _ | refine LeF.cons (Le.refl _) ?_ | refine LeF.cons (Le.int (by omega)) ?_))) rfl ?_
  rintro _ _ K hK
  repeat (refine A1 ⟨?_⟩; intros)
  refine WgE ?_
  refine Wo (ov_isame rfl rfl) ?_
  repeat (refine A1 ⟨?_⟩; intros)
  ((first | refine endR ?_ | refine endN ?_); exact end1 (RV.tmp rfl) (Le.refl _))
theorem is_pu (g : Nat) : Pu Tryz.prog 22 [lit (sent g), lit (sent g)] (lit (.bool true)) := by
  refine Pu.intro Tryz.func22 rfl (by kernel_rfl) fun C => ?_
  repeat (refine A1 ⟨?_⟩; intros)
  refine Wo (ov_typeOf rfl) ?_
  refine Wo (ov_cmpble rfl) ?_
  repeat (first | (refine A1 ⟨?_⟩; intros) | (refine Wcx (is1_pu g) ?_) | (refine Wdcx (is1_pu g) ?_) | (refine Wcgx (is1_pu g) ?_) | (refine Wdcgx (is1_pu g) ?_))
  ((first | refine endR ?_ | refine endN ?_); exact end1 (RV.tmp rfl) (Le.refl _))
end Go.Ab
/- Package affine: Identity, Vector, Compose, Invert; the reference's After, Invert. -/
namespace Go.Ab
open Go.Proofs
set_option linter.unusedSectionVars false
set_option linter.unusedVariables false
set_option linter.unusedSimpArgs false
variable [Base]
end Go.Ab
/- Lines with coprime integers; images of lines under affine maps: plain laws. -/
namespace Go.Ab
open Go.Proofs
set_option linter.unusedSectionVars false
set_option linter.unusedVariables false
set_option linter.unusedSimpArgs false
variable [Base]
/-- the greatest common divisor of two rational numbers -/
def rgcd (x y : Rat) : Rat := mkRat (Nat.gcd (x.num.natAbs * y.den) (y.num.natAbs * x.den) : Nat) (x.den * y.den)
/-- a line with integer coefficients -/
structure Li where
  a : Int
  b : Int
  c : Int
def Li.ok (l : Li) : Prop := Nat.gcd (Nat.gcd l.a.natAbs l.b.natAbs) l.c.natAbs = 1 ∧ (l.a ≠ 0 ∨ l.b ≠ 0)
def g3 (a b c : Rat) : Rat := rgcd (rgcd a b) c
end Go.Ab
/- Packages nat, integer, frac, geo: normal forms, comparisons, common divisors; lines. -/
namespace Go.Ab
open Go.Proofs
set_option linter.unusedSectionVars false
set_option linter.unusedVariables false
set_option linter.unusedSimpArgs false
variable [Base]
/-- digits in normal form -/
def nrm (xs : List Nat) : Bool := decide (xs.length = 0) || decide (xs.getD (xs.length - 1) 0 ≠ 0)
theorem nrm_dgs (n : Nat) : nrm (dgs n) = true := by
  by_cases h : n = 0
  · subst h; rw [dgs_zero]; rfl
  · obtain ⟨k, h1, h2, _⟩ := dgs_top h
    unfold nrm
    rw [h1, Nat.add_sub_cancel, decide_eq_true h2, Bool.or_true]
theorem natNormal_pu (xs : List Nat) (hl : xs.length ≤ 1000000000) : Pu Tryz.prog 251 [dg xs] (lit (.bool (nrm xs))) := by
  unfold nrm
  by_cases h : xs.length = 0
  · rw [decide_eq_true h, Bool.true_or]
    refine Pu.intro Tryz.func251 rfl (by kernel_rfl) fun C => ?_
    repeat (refine A1 ⟨?_⟩; intros)
    ((first | refine endR ?_ | refine endN ?_); exact end1 (RV.tmp rfl) (Le.refl _))
  · rw [decide_eq_false h, Bool.false_or]
    by_cases h1 : xs.getD (xs.length - 1) 0 = 0
    · rw [decide_eq_false (fun e => e h1)]
      refine Pu.intro Tryz.func251 rfl (by kernel_rfl) fun C => ?_
      repeat (refine A1 ⟨?_⟩; intros)
      ((first | refine endR ?_ | refine endN ?_); exact end1 (RV.tmp rfl) (Le.refl _))
    · rw [decide_eq_true h1]
      refine Pu.intro Tryz.func251 rfl (by kernel_rfl) fun C => ?_
      repeat (refine A1 ⟨?_⟩; intros)
      ((first | refine endR ?_ | refine endN ?_); exact end1 (RV.tmp rfl) (Le.refl _))
/-- a sign and digits in normal form -/
def nrmI (s : Bool) (xs : List Nat) : Bool := nrm xs && (!s || decide (0 < xs.length))
theorem nrmI_int (z : Int) : nrmI (decide (z < 0)) (dgs z.natAbs) = true := by
  unfold nrmI
  rw [nrm_dgs, Bool.true_and]
  by_cases h : z < 0
  · rw [decide_eq_true h, decide_eq_true (dgs_len_pos (by omega)), Bool.or_true]
  · rw [decide_eq_false h]; rfl
theorem intNormal_pu (s : Bool) (xs : List Nat) (hl : xs.length ≤ 1000000000) : Pu Tryz.prog 250 [raw s xs] (lit (.bool (nrmI s xs))) := by
  have hn := natNormal_pu xs hl
  unfold nrmI
  cases hx : nrm xs with
  | false =>
    rw [hx] at hn
    refine Pu.intro Tryz.func250 rfl (by kernel_rfl) fun C => ?_
    repeat (first | (refine A1 ⟨?_⟩; intros) | (refine Wcx (hn) ?_) | (refine Wdcx (hn) ?_) | (refine Wcgx (hn) ?_) | (refine Wdcgx (hn) ?_))
    ((first | refine endR ?_ | refine endN ?_); exact end1 (RV.tmp rfl) (Le.refl _))
  | true =>
    rw [hx] at hn
    cases s with
    | false =>
      refine Pu.intro Tryz.func250 rfl (by kernel_rfl) fun C => ?_
      repeat (first | (refine A1 ⟨?_⟩; intros) | (refine Wcx (hn) ?_) | (refine Wdcx (hn) ?_) | (refine Wcgx (hn) ?_) | (refine Wdcgx (hn) ?_))
      ((first | refine endR ?_ | refine endN ?_); exact end1 (RV.tmp rfl) (Le.refl _))
    | true =>
      by_cases h : 0 < xs.length
      · rw [decide_eq_true h]
        refine Pu.intro Tryz.func250 rfl (by kernel_rfl) fun C => ?_
        repeat (first | (refine A1 ⟨?_⟩; intros) | (refine Wcx (hn) ?_) | (refine Wdcx (hn) ?_) | (refine Wcgx (hn) ?_) | (refine Wdcgx (hn) ?_))
        ((first | refine endR ?_ | refine endN ?_); exact end1 (RV.tmp rfl) (Le.refl _))
      · rw [decide_eq_false h]
        refine Pu.intro Tryz.func250 rfl (by kernel_rfl) fun C => ?_
        repeat (first | (refine A1 ⟨?_⟩; intros) | (refine Wcx (hn) ?_) | (refine Wdcx (hn) ?_) | (refine Wcgx (hn) ?_) | (refine Wdcgx (hn) ?_))
        ((first | refine endR ?_ | refine endN ?_); exact end1 (RV.tmp rfl) (Le.refl _))
theorem gcd_n (a b : Nat) (h1 : (dgs a).length ≤ 10000000) (h2 : (dgs b).length ≤ 10000000) : Pu Tryz.prog 252 [nat a, nat b] (nat (Nat.gcd a b)) := by
  have := gcd_nat (dgs a) (dgs b) h1 h2 (D_dgs _) (D_dgs _)
  rwa [val_dgs, val_dgs] at this
theorem dlen_gcd_le {a b n : Nat} (ha : (dgs a).length ≤ n) (hb : (dgs b).length ≤ n) : (dgs (Nat.gcd a b)).length ≤ n := by
  by_cases h : a = 0
  · subst h; rw [Nat.gcd_zero_left]; exact hb
  · exact Nat.le_trans (len_mono (Nat.gcd_le_left b (by omega))) ha
end Go.Ab
/- Packages frac, geo, affine: comparisons; lines: reading, writing, making, images. -/
namespace Go.Ab
open Go.Proofs
set_option linter.unusedSectionVars false
set_option linter.unusedVariables false
set_option linter.unusedSimpArgs false
variable [Base]
theorem sub_sign_zero {x y : Rat} : (x - y).num.sign = 0 ↔ x = y := by
  rw [Int.sign_eq_zero_iff_zero, Rat.num_eq_zero]
  constructor
  · intro h; have := congrArg (· + y) h; simp only [Rat.sub_eq_add_neg, Rat.add_assoc, Rat.neg_add_cancel, Rat.add_zero, Rat.zero_add] at this; exact this
  · intro h; rw [h, Rat.sub_self]
structure Li.le (l : Li) (L : Nat) : Prop where
  a : il l.a ≤ L
  b : il l.b ≤ L
  c : il l.c ≤ L
end Go.Ab
/- Rational numbers in normal form: the program's check and the reference's. -/
namespace Go.Ab
open Go.Proofs
set_option linter.unusedSectionVars false
set_option linter.unusedVariables false
set_option linter.unusedSimpArgs false
variable [Base]
theorem nrm_eq {xs : List Nat} (hD : D xs) (h : nrm xs = true) : xs = dgs (val xs) := by
  rw [← trimL_eq hD]
  rcases List.eq_nil_or_concat xs with e | ⟨ys, y, e⟩
  · subst e; rfl
  · rw [List.concat_eq_append] at e
    subst e
    have hy : y ≠ 0 := by
      unfold nrm at h
      simp at h
      exact h
    rw [trimL_snoc_ne ys y hy]
/-- in normal form -/
def nrmQ (r : RQ) : Bool := decide (r.s = decide (r.v.num < 0) ∧ r.n = dgs r.v.num.natAbs ∧ r.d = dgs r.v.den)
theorem nrmQ_q {r : RQ} (h : nrmQ r = true) : qr r = q r.v := by
  obtain ⟨h1, h2, h3⟩ := of_decide_eq_true h
  show ag [lit (.bool r.s), dg r.n, dg r.d] = ag [lit (.bool (decide (r.v.num < 0))), nat r.v.num.natAbs, nat r.v.den]
  rw [← h1, nat, ← h2, nat, ← h3]
theorem nrmQ_eq {r : RQ} (h1 : D r.n) (h2 : D r.d) : nrmQ r = (nrmI r.s r.n && nrm r.d && decide (r.d.length ≠ 0) && decide (Nat.gcd (val r.n) (val r.d) = 1)) := by
  apply Bool.eq_iff_iff.2
  constructor
  · intro h
    obtain ⟨a1, a2, a3⟩ := of_decide_eq_true h
    have e1 : nrmI r.s r.n = true := by rw [a1, a2]; exact nrmI_int _
    have e2 : nrm r.d = true := by rw [a3]; exact nrm_dgs _
    have e3 : r.d.length ≠ 0 := by rw [a3]; exact dgs_ne_nil r.v.den_nz
    have e4 : Nat.gcd (val r.n) (val r.d) = 1 := by rw [a2, a3, val_dgs, val_dgs]; exact r.v.reduced
    rw [e1, e2, decide_eq_true e3, decide_eq_true e4]; rfl
  · intro h
    simp only [Bool.and_eq_true, decide_eq_true_eq] at h
    obtain ⟨⟨⟨e1, e2⟩, e3⟩, e4⟩ := h
    have hs : nrm r.n = true ∧ (r.s = true → 0 < r.n.length) := by
      unfold nrmI at e1
      simp only [Bool.and_eq_true, Bool.or_eq_true, Bool.not_eq_true', decide_eq_true_eq] at e1
      refine ⟨e1.1, fun h => ?_⟩
      rcases e1.2 with h' | h'
      · rw [h] at h'; cases h'
      · exact h'
    have b1 := nrm_eq h1 hs.1
    have b2 := nrm_eq h2 e2
    have hd : val r.d ≠ 0 := fun e => by rw [e, dgs_zero] at b2; rw [b2] at e3; exact e3 rfl
    have hv : r.v.num = sv r.s (val r.n) ∧ r.v.den = val r.d := by
      have := mk_sv r.s (val r.n) hd
      rw [e4, Nat.div_one, Nat.div_one] at this
      exact this
    unfold nrmQ
    rw [hv.1, hv.2, sv_abs, ← b1, ← b2, sv_neg]
    refine decide_eq_true ⟨?_, rfl, rfl⟩
    cases hrs : r.s with
    | false => rfl
    | true =>
      have hp := hs.2 hrs
      have : 0 < val r.n := Nat.pos_of_ne_zero fun e => by rw [e, dgs_zero] at b1; rw [b1] at hp; simp at hp
      simp [this]
theorem blen_1 {n : Nat} : blen n = 1 ↔ n = 1 := by
  have h0 := blen0 (n := n)
  have h1 := blen1 (n := n)
  omega
theorem fnormal_pu {r : RQ} {L : Nat} (h : r.ok L) (hL : L ≤ 1000000) : Pu Tryz.prog 227 [qr r] (lit (.bool (nrmQ r))) := by
  obtain ⟨h1, h2, h3, h4⟩ := h
  rw [nrmQ_eq h1 h2]
  have c1 := intNormal_pu r.s r.n (by omega)
  have c2 := natNormal_pu r.d (by omega)
  cases e1 : nrmI r.s r.n with
  | false =>
    rw [e1] at c1
    refine Pu.intro Tryz.func227 rfl (by kernel_rfl) fun C => ?_
    repeat (first | (refine A1 ⟨?_⟩; intros) | (refine Wcx (c1) ?_) | (refine Wdcx (c1) ?_) | (refine Wcgx (c1) ?_) | (refine Wdcgx (c1) ?_))
    ((first | refine endR ?_ | refine endN ?_); exact end1 (RV.tmp rfl) (Le.refl _))
  | true =>
    rw [e1] at c1
    cases e2 : nrm r.d with
    | false =>
      rw [e2] at c2
      refine Pu.intro Tryz.func227 rfl (by kernel_rfl) fun C => ?_
      repeat (first | (refine A1 ⟨?_⟩; intros) | (refine Wcx (c1) ?_) | (refine Wdcx (c1) ?_) | (refine Wcgx (c1) ?_) | (refine Wdcgx (c1) ?_) | (refine Wcx (c2) ?_) | (refine Wdcx (c2) ?_) | (refine Wcgx (c2) ?_) | (refine Wdcgx (c2) ?_))
      ((first | refine endR ?_ | refine endN ?_); exact end1 (RV.tmp rfl) (Le.refl _))
    | true =>
      rw [e2] at c2
      by_cases e3 : r.d.length = 0
      · rw [decide_eq_false (p := r.d.length ≠ 0) (fun h => h e3)]
        refine Pu.intro Tryz.func227 rfl (by kernel_rfl) fun C => ?_
        repeat (first | (refine A1 ⟨?_⟩; intros) | (refine Wcx (c1) ?_) | (refine Wdcx (c1) ?_) | (refine Wcgx (c1) ?_) | (refine Wdcgx (c1) ?_) | (refine Wcx (c2) ?_) | (refine Wdcx (c2) ?_) | (refine Wcgx (c2) ?_) | (refine Wdcgx (c2) ?_))
        ((first | refine endR ?_ | refine endN ?_); exact end1 (RV.tmp rfl) (Le.refl _))
      · rw [decide_eq_true (p := r.d.length ≠ 0) e3]
        have hn : nrm r.n = true := by
          unfold nrmI at e1
          simp only [Bool.and_eq_true] at e1
          exact e1.1
        have b1 := nrm_eq h1 hn
        have b2 := nrm_eq h2 e2
        have c3 := gcd_n (val r.n) (val r.d) (by rw [← b1]; omega) (by rw [← b2]; omega)
        rw [nat, nat, ← b1, ← b2] at c3
        have hg := dlen_gcd_le (a := val r.n) (b := val r.d) (n := L) (by rw [← b1]; omega) (by rw [← b2]; omega)
        have c4 := bits_nat (dgs (Nat.gcd (val r.n) (val r.d))) (by omega) (D_dgs _)
        rw [val_dgs] at c4
        have hb := blen_1 (n := Nat.gcd (val r.n) (val r.d))
        clear b1 b2 hn e1 e2
        by_cases hg1 : Nat.gcd (val r.n) (val r.d) = 1
        · have hbl := hb.2 hg1
          rw [decide_eq_true hg1]
          clear hb
          rw [hbl] at c4
          generalize Nat.gcd (val r.n) (val r.d) = g at *
          clear hbl
          refine Pu.intro Tryz.func227 rfl (by kernel_rfl) fun C => ?_
          repeat (first | (refine A1 ⟨?_⟩; intros) | (refine Wcx (c1) ?_) | (refine Wdcx (c1) ?_) | (refine Wcgx (c1) ?_) | (refine Wdcgx (c1) ?_) | (refine Wcx (c2) ?_) | (refine Wdcx (c2) ?_) | (refine Wcgx (c2) ?_) | (refine Wdcgx (c2) ?_) | (refine Wcx (c3) ?_) | (refine Wdcx (c3) ?_) | (refine Wcgx (c3) ?_) | (refine Wdcgx (c3) ?_) | (refine Wcx (c4) ?_) | (refine Wdcx (c4) ?_) | (refine Wcgx (c4) ?_) | (refine Wdcgx (c4) ?_))
          ((first | refine endR ?_ | refine endN ?_); exact end1 (RV.tmp rfl) (Le.refl _))
        · have hbl : blen (Nat.gcd (val r.n) (val r.d)) ≠ 1 := fun e => hg1 (hb.1 e)
          rw [decide_eq_false hg1]
          clear hb
          generalize blen (Nat.gcd (val r.n) (val r.d)) = bl at *
          refine Pu.intro Tryz.func227 rfl (by kernel_rfl) fun C => ?_
          repeat (first | (refine A1 ⟨?_⟩; intros) | (refine Wcx (c1) ?_) | (refine Wdcx (c1) ?_) | (refine Wcgx (c1) ?_) | (refine Wdcgx (c1) ?_) | (refine Wcx (c2) ?_) | (refine Wdcx (c2) ?_) | (refine Wcgx (c2) ?_) | (refine Wdcgx (c2) ?_) | (refine Wcx (c3) ?_) | (refine Wdcx (c3) ?_) | (refine Wcgx (c3) ?_) | (refine Wdcgx (c3) ?_) | (refine Wcx (c4) ?_) | (refine Wdcx (c4) ?_) | (refine Wcgx (c4) ?_) | (refine Wdcgx (c4) ?_))
          ((first | refine endR ?_ | refine endN ?_); exact end1 (RV.tmp rfl) (Le.refl _))
end Go.Ab
/- Packages integer, frac, rational: texts. -/
namespace Go.Ab
open Go.Proofs
set_option linter.unusedSectionVars false
set_option linter.unusedVariables false
set_option linter.unusedSimpArgs false
variable [Base]
theorem formatI_pu (z : Int) {L : Nat} (hz : il z ≤ L) (hL : L ≤ 10000) : Pu Tryz.prog 257 [int z] (str (if z < 0 then [45] ++ dec z.natAbs else dec z.natAbs)) := by
  have e1 : il z = (dgs z.natAbs).length := rfl
  have c := sign_raw (decide (z < 0)) (dgs z.natAbs) (by omega) (D_dgs _)
  rw [val_dgs, sv_int] at c
  have c1 := formatN_pu z.natAbs (L := L) (by omega) (by omega)
  have hl := dec_len (n := z.natAbs) (L := L) (by omega)
  generalize dec z.natAbs = s at *
  have k1 : ([45] : List UInt8).length = 1 := rfl
  by_cases h : z < 0
  · rw [Int.sign_eq_neg_one_of_neg h] at c
    rw [if_pos h]
    refine Pu.intro Tryz.func257 rfl (by kernel_rfl) fun C => ?_
    repeat (first | (refine A1 ⟨?_⟩; intros) | (refine Wcx (c) ?_) | (refine Wdcx (c) ?_) | (refine Wcgx (c) ?_) | (refine Wdcgx (c) ?_) | (refine Wcx (c1) ?_) | (refine Wdcx (c1) ?_) | (refine Wcgx (c1) ?_) | (refine Wdcgx (c1) ?_))
    ((first | refine endR ?_ | refine endN ?_); exact end1 (RV.tmp rfl) (Le.refl _))
  · obtain ⟨hs, hs2⟩ : 0 ≤ z.sign ∧ z.sign ≤ 1 := by
      rcases Int.lt_trichotomy z 0 with h0 | h0 | h0
      · omega
      · rw [h0]; decide
      · rw [Int.sign_eq_one_of_pos h0]; omega
    generalize z.sign = g at *
    rw [if_neg h]
    refine Pu.intro Tryz.func257 rfl (by kernel_rfl) fun C => ?_
    repeat (first | (refine A1 ⟨?_⟩; intros) | (refine Wcx (c) ?_) | (refine Wdcx (c) ?_) | (refine Wcgx (c) ?_) | (refine Wdcgx (c) ?_) | (refine Wcx (c1) ?_) | (refine Wdcx (c1) ?_) | (refine Wcgx (c1) ?_) | (refine Wdcgx (c1) ?_))
    ((first | refine endR ?_ | refine endN ?_); exact end1 (RV.tmp rfl) (Le.refl _))
theorem rwhole_pu (x : Rat) (h : ht x ≤ 10000000) : Pu Tryz.prog 259 [fr x] (lit (.bool (decide (x.den = 1)))) := by
  have b1 := ht_den x
  by_cases hs : small x
  · rw [fr_s hs]
    have h1 := hs.2
    by_cases h2 : x.den = 1
    · rw [decide_eq_true h2, h2]
      refine Pu.intro Tryz.func259 rfl (by kernel_rfl) fun C => ?_
      repeat (refine A1 ⟨?_⟩; intros)
      ((first | refine endR ?_ | refine endN ?_); exact end1 (RV.tmp rfl) (Le.refl _))
    · rw [decide_eq_false h2]
      have h3 := x.den_nz
      refine Pu.intro Tryz.func259 rfl (by kernel_rfl) fun C => ?_
      repeat (refine A1 ⟨?_⟩; intros)
      ((first | refine endR ?_ | refine endN ?_); exact end1 (RV.tmp rfl) (Le.refl _))
  · rw [fr_b hs]
    have c := bits_nat (dgs x.den) (by omega) (D_dgs _)
    rw [val_dgs] at c
    have h1 := blen_1 (n := x.den)
    by_cases h2 : x.den = 1
    · have h3 := h1.2 h2
      rw [decide_eq_true h2]
      refine Pu.intro Tryz.func259 rfl (by kernel_rfl) fun C => ?_
      repeat (first | (refine A1 ⟨?_⟩; intros) | (refine Wcx (c) ?_) | (refine Wdcx (c) ?_) | (refine Wcgx (c) ?_) | (refine Wdcgx (c) ?_))
      ((first | refine endR ?_ | refine endN ?_); exact end1 (RV.tmp rfl) (Le.refl _))
    · have h3 : blen x.den ≠ 1 := fun h => h2 (h1.1 h)
      rw [decide_eq_false h2]
      refine Pu.intro Tryz.func259 rfl (by kernel_rfl) fun C => ?_
      repeat (first | (refine A1 ⟨?_⟩; intros) | (refine Wcx (c) ?_) | (refine Wdcx (c) ?_) | (refine Wcgx (c) ?_) | (refine Wdcgx (c) ?_))
      ((first | refine endR ?_ | refine endN ?_); exact end1 (RV.tmp rfl) (Le.refl _))
theorem string_pu (x : Rat) {L : Nat} (hx : ht x ≤ L) (hL : L ≤ 10000) : Pu Tryz.prog 231 [fr x] (str (fmt x)) := by
  have n1 := ht_num x
  have n2 := ht_den x
  have a1 := num_pu x (by omega)
  have a2 := den_pu x (by omega)
  have a3 := rwhole_pu x (by omega)
  have c1 := formatI_pu x.num (L := L) (by omega) (by omega)
  have c2 := formatN_pu x.den (L := L) (by omega) (by omega)
  have l1 := dec_len (n := x.num.natAbs) (L := L) (show il x.num ≤ L by omega)
  have l2 := dec_len (n := x.den) (L := L) (by omega)
  have k1 : ([45] : List UInt8).length = 1 := rfl
  have k2 : ([47] : List UInt8).length = 1 := rfl
  unfold fmt
  have l3 : (if x.num < 0 then [45] ++ dec x.num.natAbs else dec x.num.natAbs).length ≤ 10 * L + 2 := by
    split
    · rw [List.length_append, k1]; omega
    · omega
  generalize (if x.num < 0 then [45] ++ dec x.num.natAbs else dec x.num.natAbs) = D1 at *
  generalize hD2 : dec x.den = D2 at *
  have k3 : ([47] ++ D2).length = D2.length + 1 := by simp
  by_cases h2 : x.den = 1
  · rw [if_pos h2, List.append_nil]
    rw [decide_eq_true h2] at a3
    refine Pu.intro Tryz.func231 rfl (by kernel_rfl) fun C => ?_
    repeat (first | (refine A1 ⟨?_⟩; intros) | (refine Wcx (a1) ?_) | (refine Wdcx (a1) ?_) | (refine Wcgx (a1) ?_) | (refine Wdcgx (a1) ?_) | (refine Wcx (a2) ?_) | (refine Wdcx (a2) ?_) | (refine Wcgx (a2) ?_) | (refine Wdcgx (a2) ?_) | (refine Wcx (a3) ?_) | (refine Wdcx (a3) ?_) | (refine Wcgx (a3) ?_) | (refine Wdcgx (a3) ?_) | (refine Wcx (c1) ?_) | (refine Wdcx (c1) ?_) | (refine Wcgx (c1) ?_) | (refine Wdcgx (c1) ?_) | (refine Wcx (c2) ?_) | (refine Wdcx (c2) ?_) | (refine Wcgx (c2) ?_) | (refine Wdcgx (c2) ?_))
    ((first | refine endR ?_ | refine endN ?_); exact end1 (RV.tmp rfl) (Le.refl _))
  · rw [if_neg h2]
    rw [decide_eq_false h2] at a3
    refine Pu.intro Tryz.func231 rfl (by kernel_rfl) fun C => ?_
    repeat (first | (refine A1 ⟨?_⟩; intros) | (refine Wcx (a1) ?_) | (refine Wdcx (a1) ?_) | (refine Wcgx (a1) ?_) | (refine Wdcgx (a1) ?_) | (refine Wcx (a2) ?_) | (refine Wdcx (a2) ?_) | (refine Wcgx (a2) ?_) | (refine Wdcgx (a2) ?_) | (refine Wcx (a3) ?_) | (refine Wdcx (a3) ?_) | (refine Wcgx (a3) ?_) | (refine Wdcgx (a3) ?_) | (refine Wcx (c1) ?_) | (refine Wdcx (c1) ?_) | (refine Wcgx (c1) ?_) | (refine Wdcgx (c1) ?_) | (refine Wcx (c2) ?_) | (refine Wdcx (c2) ?_) | (refine Wcgx (c2) ?_) | (refine Wdcgx (c2) ?_))
    ((first | refine endR ?_ | refine endN ?_); exact end1 (RV.tmp rfl) (Le.refl _))
theorem formatQ_pu (x : Rat) {L : Nat} (hx : ht x ≤ L) (hL : L ≤ 10000) : Pu Tryz.prog 201 [q x] (str (fmt x)) := by
  have n1 := ht_num x
  have n2 := ht_den x
  have e1 : il x.num = (dgs x.num.natAbs).length := rfl
  have c1 := of_raw (decide (x.num < 0)) (dgs x.num.natAbs) (dgs x.den) (by omega) (by omega) (D_dgs _) (D_dgs _)
  rw [val_dgs, val_dgs, sv_int, Rat.mkRat_self] at c1
  have c2 := string_pu x hx hL
  refine Pu.intro Tryz.func201 rfl (by kernel_rfl) fun C => ?_
  repeat (first | (refine A1 ⟨?_⟩; intros) | (refine Wcx (c1) ?_) | (refine Wdcx (c1) ?_) | (refine Wcgx (c1) ?_) | (refine Wdcgx (c1) ?_) | (refine Wcx (c2) ?_) | (refine Wdcx (c2) ?_) | (refine Wcgx (c2) ?_) | (refine Wdcgx (c2) ?_))
  ((first | refine endR ?_ | refine endN ?_); exact end1 (RV.tmp rfl) (Le.refl _))
end Go.Ab
/- Package grammar: numbers and points into the writer. -/
namespace Go.Ab
open Go.Proofs
set_option linter.unusedSectionVars false
set_option linter.unusedVariables false
set_option linter.unusedSimpArgs false
variable [Base]
/-- a writer at w that has written l -/
def Wtr (w : Nat) (l : List UInt8) (d : Nat) (H : LH) : Prop := ∃ a s Hb, (a = fresh ∨ a = self w) ∧ Byt l s Hb ∧ H = (w, 190, wrC a s d false) :: Hb
theorem putW_pu {w b d : Nat} {l : List UInt8} {H : LH} (h : Wtr w l d H) (t : List UInt8) (hl : l.length + t.length ≤ 1000000000) :
    PuH Tryz.prog 89 [lit (.pointer (some ⟨w, 0, none⟩)), lit (.slice (some ⟨b, 0, none⟩) 1 1)] ((b, 9, [str t]) :: H) (fun r H' => r = Ab.tup [] ∧ Wtr w (l ++ t) d H') noX := by
  obtain ⟨a, s, Hb, ha, hb, rfl⟩ := h
  exact (put1_pu ha hb t hl d false).mono (fun r H' => by
    rintro ⟨s', Hb', hb', rfl, rfl⟩
    exact ⟨rfl, _, _, _, .inr rfl, hb', rfl⟩) fun _ _ h => h
theorem digits_pu (w n : Nat) (hn : (dgs n).length ≤ 300) : PuH Tryz.prog 200 [lit (.pointer (some ⟨w, 0, none⟩)), nat n] [] (fun r H' => r = Ab.tup [] ∧ H' = []) noX := by
  have c := bits_nat (dgs n) (by omega) (D_dgs _)
  have hb := blen_val (D_dgs n)
  rw [val_dgs] at c hb
  refine PuH.intro Tryz.func200 rfl (by kernel_rfl) fun C hC => ?_
  repeat (first | (refine A1 ⟨?_⟩; intros) | (refine Wcx (c) ?_) | (refine Wdcx (c) ?_) | (refine Wcgx (c) ?_) | (refine Wdcgx (c) ?_))
  exact endHN _ _ end0 (List.Sublist.refl _) ⟨rfl, rfl⟩
theorem rational_pu {w d : Nat} {l : List UInt8} {H : LH} (h : Wtr w l d H) (r : RQ) {L : Nat} (hr : r.ok L) (hL : L ≤ 200) (hl : l.length ≤ 100000000) :
    PuH Tryz.prog 171 [lit (.pointer (some ⟨w, 0, none⟩)), qr r] H (fun r' H' => nrmQ r = true ∧ r' = Ab.tup [] ∧ Wtr w (l ++ fmt r.v) d H') (fun pv _ => nrmQ r = false ∧ pv = inval) := by
  have c0 := fnormal_pu hr (by omega)
  have c1 : Pu Tryz.prog 199 [qr r] (lit (.bool (nrmQ r))) := by
    refine Pu.intro Tryz.func199 rfl (by kernel_rfl) fun C => ?_
    repeat (first | (refine A1 ⟨?_⟩; intros) | (refine Wcx (c0) ?_) | (refine Wdcx (c0) ?_) | (refine Wcgx (c0) ?_) | (refine Wdcgx (c0) ?_))
    ((first | refine endR ?_ | refine endN ?_); exact end1 (RV.tmp rfl) (Le.refl _))
  clear c0
  have hht := ht_v hr
  cases hn : nrmQ r with
  | false =>
    rw [hn] at c1
    refine PuH.intro Tryz.func171 rfl (by kernel_rfl) fun C hC => ?_
    repeat (first | (refine A1 ⟨?_⟩; intros) | (refine Wcx (c1) ?_) | (refine Wdcx (c1) ?_) | (refine Wcgx (c1) ?_) | (refine Wdcgx (c1) ?_))
    refine WneedF ?_
    rw [hC]
    exact ⟨rfl, rfl⟩
  | true =>
    rw [hn] at c1
    rw [nrmQ_q hn] at c1 ⊢
    have n1 := ht_num r.v
    have n2 := ht_den r.v
    have e1 : il r.v.num = (dgs r.v.num.natAbs).length := rfl
    have c2 := formatQ_pu r.v hht (by omega)
    have hf := fmt_len hht
    generalize r.v = x at *
    refine PuH.intro Tryz.func171 rfl (by kernel_rfl) fun C hC => ?_
    repeat (first | (refine A1 ⟨?_⟩; intros) | (refine Wcx (c1) ?_) | (refine Wdcx (c1) ?_) | (refine Wcgx (c1) ?_) | (refine Wdcgx (c1) ?_))
    refine WneedT ?_
    repeat (refine A1 ⟨?_⟩; intros)
    refine WfH (digits_pu w x.num.natAbs (by omega)) ?_
    rintro _ _ ⟨rfl, rfl⟩
    simp only [List.cons_append, List.nil_append]
    repeat (refine A1 ⟨?_⟩; intros)
    refine WfH (digits_pu w x.den (by omega)) ?_
    rintro _ _ ⟨rfl, rfl⟩
    simp only [List.cons_append, List.nil_append]
    repeat (first | (refine A1 ⟨?_⟩; intros) | (refine Wcx (c2) ?_) | (refine Wdcx (c2) ?_) | (refine Wcgx (c2) ?_) | (refine Wdcgx (c2) ?_))
    refine WfH (putW_pu h (fmt x) (by omega)) ?_
    rintro _ _ ⟨rfl, h'⟩
    repeat (refine A1 ⟨?_⟩; intros)
    exact endHN _ _ end0 (List.sublist_append_left _ _) ⟨by trivial, rfl, h'⟩
def ptxt (a b : RQ) : List UInt8 := [40] ++ fmt a.v ++ [44] ++ fmt b.v ++ [41]
theorem ptxt_len {a b : RQ} {L : Nat} (ha : a.ok L) (hb : b.ok L) : (ptxt a b).length ≤ 40 * L + 60 := by
  have h1 := fmt_len (ht_v ha)
  have h2 := fmt_len (ht_v hb)
  unfold ptxt
  simp only [List.length_append, List.length_cons, List.length_nil]
  omega
theorem point_pu {w d : Nat} {l : List UInt8} {H : LH} (h : Wtr w l d H) (a b : RQ) {L : Nat} (ha : a.ok L) (hb : b.ok L) (hL : L ≤ 200) (hl : l.length ≤ 90000000) :
    PuH Tryz.prog 131 [lit (.pointer (some ⟨w, 0, none⟩)), pr a b] H (fun r' H' => (nrmQ a && nrmQ b) = true ∧ r' = Ab.tup [] ∧ Wtr w (l ++ ptxt a b) d H') (fun pv _ => (nrmQ a && nrmQ b) = false ∧ pv = inval) := by
  have h1 := fmt_len (ht_v ha)
  have h2 := fmt_len (ht_v hb)
  have k1 : ([40] : List UInt8).length = 1 := rfl
  have k2 : ([44] : List UInt8).length = 1 := rfl
  have k3 : ([41] : List UInt8).length = 1 := rfl
  refine PuH.intro Tryz.func131 rfl (by kernel_rfl) fun C hC => ?_
  repeat (refine A1 ⟨?_⟩; intros)
  refine WfH (putW_pu h [40] (by omega)) ?_
  rintro _ _ ⟨rfl, g1⟩
  refine WPL.perm List.perm_append_comm ?_
  simp only [List.cons_append, List.nil_append]
  repeat (refine A1 ⟨?_⟩; intros)
  refine WfX (rational_pu g1 a ha hL (by rw [List.length_append]; omega)) ?_ ?_
  · rintro _ _ ⟨n1, rfl, g2⟩
    simp only [List.cons_append, List.nil_append]
    repeat (refine A1 ⟨?_⟩; intros)
    have hl2 : (l ++ [40] ++ fmt a.v).length ≤ l.length + 20 * (L + 1) + 5 := by
      rw [List.length_append, List.length_append]; omega
    refine WfH (putW_pu g2 [44] (by omega)) ?_
    rintro _ _ ⟨rfl, g3⟩
    refine WPL.perm List.perm_append_comm ?_
    simp only [List.cons_append, List.nil_append]
    repeat (refine A1 ⟨?_⟩; intros)
    refine WfX (rational_pu g3 b hb hL (by rw [List.length_append]; omega)) ?_ ?_
    · rintro _ _ ⟨n2, rfl, g4⟩
      simp only [List.cons_append, List.nil_append]
      repeat (refine A1 ⟨?_⟩; intros)
      refine WfH (putW_pu g4 [41] (by rw [List.length_append, List.length_append]; omega)) ?_
      rintro _ _ ⟨rfl, g5⟩
      repeat (refine A1 ⟨?_⟩; intros)
      exact endHN _ _ end0 (List.sublist_append_left _ _) ⟨by rw [n1, n2]; rfl, rfl, by simpa only [ptxt, List.append_assoc] using g5⟩
    · rintro _ _ ⟨n2, rfl⟩
      rw [hC]
      exact ⟨by rw [n1, n2]; rfl, rfl⟩
  · rintro _ _ ⟨n1, rfl⟩
    rw [hC]
    exact ⟨by rw [n1]; rfl, rfl⟩
/-- two points, each behind a blank -/
def ptxt2 (a b c e : RQ) : List UInt8 := [32] ++ ptxt a b ++ ([32] ++ ptxt c e)
theorem points_pu {w d bp : Nat} {l : List UInt8} {H : LH} (h : Wtr w l d H) (a b c e : RQ) {L : Nat} (ha : a.ok L) (hb : b.ok L) (hc : c.ok L) (he : e.ok L) (hL : L ≤ 200) (hl : l.length ≤ 80000000) :
    PuH Tryz.prog 129 [lit (.pointer (some ⟨w, 0, none⟩)), lit (.slice (some ⟨bp, 0, none⟩) 2 2)]
      ((bp, 33, [lit (.bool a.s), dg a.n, dg a.d, lit (.bool b.s), dg b.n, dg b.d, lit (.bool c.s), dg c.n, dg c.d, lit (.bool e.s), dg e.n, dg e.d]) :: H)
      (fun r' H' => (nrmQ a && nrmQ b && (nrmQ c && nrmQ e)) = true ∧ r' = Ab.tup [] ∧ Wtr w (l ++ ptxt2 a b c e) d H') (fun pv _ => (nrmQ a && nrmQ b && (nrmQ c && nrmQ e)) = false ∧ pv = inval) := by
  have h1 := ptxt_len ha hb
  have h2 := ptxt_len hc he
  have k1 : ([32] : List UInt8).length = 1 := rfl
  refine PuH.intro Tryz.func129 rfl (by kernel_rfl) fun C hC => ?_
  repeat (refine A1 ⟨?_⟩; intros)
  refine WneedT ?_
  repeat (refine A1 ⟨?_⟩; intros)
  refine WP.unroll 3 ?_
  refine WPR.succ ?_
  repeat (refine A1 ⟨?_⟩; intros)
  refine WfH (putW_pu h [32] (by omega)) ?_
  rintro _ _ ⟨rfl, g1⟩
  refine WPL.perm List.perm_append_comm ?_
  simp only [List.cons_append, List.nil_append]
  repeat (refine A1 ⟨?_⟩; intros)
  refine WfX (point_pu g1 a b ha hb hL (by rw [List.length_append]; omega)) ?_ ?_
  · rintro _ _ ⟨n1, rfl, g2⟩
    simp only [List.cons_append, List.nil_append]
    repeat (refine A1 ⟨?_⟩; intros)
    have hl2 : (l ++ [32] ++ ptxt a b).length = l.length + 1 + (ptxt a b).length := by
      rw [List.length_append, List.length_append]; omega
    refine WfH (putW_pu g2 [32] (by omega)) ?_
    rintro _ _ ⟨rfl, g3⟩
    refine WPL.perm List.perm_append_comm ?_
    simp only [List.cons_append, List.nil_append]
    repeat (refine A1 ⟨?_⟩; intros)
    refine WfX (point_pu g3 c e hc he hL (by rw [List.length_append]; omega)) ?_ ?_
    · rintro _ _ ⟨n2, rfl, g4⟩
      simp only [List.cons_append, List.nil_append]
      repeat (refine A1 ⟨?_⟩; intros)
      refine endHN _ _ end0 ?_ ⟨by rw [n1, n2]; rfl, rfl, by simpa only [ptxt2, List.append_assoc] using g4⟩
      repeat (first | exact List.Sublist.refl _ | refine List.Sublist.cons _ ?_)
    · rintro _ _ ⟨n2, rfl⟩
      rw [hC]
      exact ⟨by rw [n1, n2]; rfl, rfl⟩
  · rintro _ _ ⟨n1, rfl⟩
    rw [hC]
    exact ⟨by rw [n1]; rfl, rfl⟩
end Go.Ab
/- Parts of an expression: the checks of one part, program and reference. -/
namespace Go.Ab
open Go.Proofs
set_option linter.unusedSectionVars false
set_option linter.unusedVariables false
set_option linter.unusedSimpArgs false
variable [Base]
/-- one part of an expression's list: kind, name, two points (From: a b, Way: c e), operator, children, line and column -/
structure Nd where
  k : Int
  nm : List UInt8
  a : RQ
  b : RQ
  c : RQ
  e : RQ
  op : Int
  x : Int
  y : Int
  ln : Int
  cl : Int
def i64R (z : Int) : Prop := -9223372036854775808 ≤ z ∧ z ≤ 9223372036854775807
/-- its cells -/
abbrev ndx (n : Nd) : List SV := [lit (.int .i64 n.k), str n.nm, lit (.bool n.a.s), dg n.a.n, dg n.a.d, lit (.bool n.b.s), dg n.b.n, dg n.b.d, lit (.bool n.c.s), dg n.c.n, dg n.c.d, lit (.bool n.e.s), dg n.e.n, dg n.e.d, lit (.int .i64 n.op), lit (.int .i64 n.x), lit (.int .i64 n.y), lit (.int .i64 n.ln), lit (.int .i64 n.cl)]
/-- in bounds: small numbers, a short name -/
structure Nd.ok (L : Nat) (n : Nd) : Prop where
  a : n.a.ok L
  b : n.b.ok L
  c : n.c.ok L
  e : n.e.ok L
  nm : n.nm.length ≤ 100
def zq (r : RQ) : Bool := !r.s && decide (r.n.length = 0) && decide (r.d.length = 0)
def zp (a b : RQ) : Bool := zq a && zq b
/-- the fields that its kind does not use are empty -/
def okN (n : Nd) : Bool :=
  (decide (1 ≤ n.k) && decide (n.k ≤ 6)) && (decide (n.k = 1) || decide (n.nm.length = 0)) && (decide (n.k = 4) || (zp n.a n.b && zp n.c n.e)) && ((decide (n.k = 6) && decide (1 ≤ n.op) && decide (n.op ≤ 4)) || (decide (n.k ≠ 6) && decide (n.op = 0))) && (decide (n.k = 6) || decide (n.y = 0)) && ((decide (n.k = 6) || decide (n.k = 5)) || decide (n.x = 0))
theorem zeroRat_pu (r : RQ) {L : Nat} (h : r.ok L) (hL : L ≤ 1000) : Pu Tryz.prog 197 [qr r] (lit (.bool (zq r))) := by
  obtain ⟨_, _, h1, h2⟩ := h
  show Pu _ _ [ag [lit (.bool r.s), dg r.n, dg r.d]] _
  cases hs : r.s with
  | true =>
    rw [show zq r = false from by unfold zq; rw [hs]; rfl]
    refine Pu.intro Tryz.func197 rfl (by kernel_rfl) fun C => ?_
    repeat (refine A1 ⟨?_⟩; intros)
    ((first | refine endR ?_ | refine endN ?_); exact end1 (RV.tmp rfl) (Le.refl _))
  | false =>
    by_cases hn : r.n.length = 0 ∧ r.d.length = 0
    · obtain ⟨hn1, hn2⟩ := hn
      rw [show zq r = true from by unfold zq; rw [hs, decide_eq_true hn1, decide_eq_true hn2]; rfl]
      refine Pu.intro Tryz.func197 rfl (by kernel_rfl) fun C => ?_
      repeat (refine A1 ⟨?_⟩; intros)
      ((first | refine endR ?_ | refine endN ?_); exact end1 (RV.tmp rfl) (Le.refl _))
    · rw [show zq r = false from by unfold zq; rw [hs, Bool.not_false, Bool.true_and, ← Bool.decide_and]; exact decide_eq_false hn]
      have hn' : r.n.length + r.d.length ≠ 0 := by omega
      clear hn
      refine Pu.intro Tryz.func197 rfl (by kernel_rfl) fun C => ?_
      repeat (refine A1 ⟨?_⟩; intros)
      ((first | refine endR ?_ | refine endN ?_); exact end1 (RV.tmp rfl) (Le.refl _))
theorem zeroPoint_pu (a b : RQ) {L : Nat} (ha : a.ok L) (hb : b.ok L) (hL : L ≤ 1000) : Pu Tryz.prog 167 [pr a b] (lit (.bool (zp a b))) := by
  have c1 := zeroRat_pu a ha hL
  have c2 := zeroRat_pu b hb hL
  unfold zp
  cases hs : zq a with
  | true =>
    rw [hs] at c1
    refine Pu.intro Tryz.func167 rfl (by kernel_rfl) fun C => ?_
    repeat (first | (refine A1 ⟨?_⟩; intros) | (refine Wcx (c1) ?_) | (refine Wdcx (c1) ?_) | (refine Wcgx (c1) ?_) | (refine Wdcgx (c1) ?_) | (refine Wcx (c2) ?_) | (refine Wdcx (c2) ?_) | (refine Wcgx (c2) ?_) | (refine Wdcgx (c2) ?_))
    ((first | refine endR ?_ | refine endN ?_); exact end1 (RV.tmp rfl) (Le.refl _))
  | false =>
    rw [hs] at c1
    refine Pu.intro Tryz.func167 rfl (by kernel_rfl) fun C => ?_
    repeat (first | (refine A1 ⟨?_⟩; intros) | (refine Wcx (c1) ?_) | (refine Wdcx (c1) ?_) | (refine Wcgx (c1) ?_) | (refine Wdcgx (c1) ?_) | (refine Wcx (c2) ?_) | (refine Wdcx (c2) ?_) | (refine Wcgx (c2) ?_) | (refine Wdcgx (c2) ?_))
    ((first | refine endR ?_ | refine endN ?_); exact end1 (RV.tmp rfl) (Le.refl _))
theorem rank_pu (n : Nd) : Pu Tryz.prog 151 [ag (ndx n)] (lit (.int .i64 (if n.k = 6 then (if n.op = 2 then 2 else 1) else 3))) := by
  by_cases h1 : n.k = 6
  · rw [if_pos h1]
    by_cases h2 : n.op = 2
    · rw [if_pos h2]
      refine Pu.intro Tryz.func151 rfl (by kernel_rfl) fun C => ?_
      repeat (refine A1 ⟨?_⟩; intros)
      ((first | refine endR ?_ | refine endN ?_); exact end1 (RV.tmp rfl) (Le.refl _))
    · rw [if_neg h2]
      refine Pu.intro Tryz.func151 rfl (by kernel_rfl) fun C => ?_
      repeat (refine A1 ⟨?_⟩; intros)
      ((first | refine endR ?_ | refine endN ?_); exact end1 (RV.tmp rfl) (Le.refl _))
  · rw [if_neg h1]
    refine Pu.intro Tryz.func151 rfl (by kernel_rfl) fun C => ?_
    repeat (refine A1 ⟨?_⟩; intros)
    ((first | refine endR ?_ | refine endN ?_); exact end1 (RV.tmp rfl) (Le.refl _))
theorem nil_dec {l : List UInt8} : (l.length = 0 → l = []) ∧ (l.length ≠ 0 → ¬l = []) :=
  ⟨fun h => List.eq_nil_of_length_eq_zero h, fun h e => h (by rw [e]; rfl)⟩
set_option maxHeartbeats 1000000 in
theorem checkExpr_pu (n : Nd) {L : Nat} (h : n.ok L) (hL : L ≤ 1000) : PuH Tryz.prog 147 [ag (ndx n)] [] (fun r H => okN n = true ∧ r = Ab.tup [] ∧ H = []) (fun pv _ => okN n = false ∧ pv = inval) := by
  have c1 := zeroPoint_pu n.a n.b h.a h.b hL
  have c2 := zeroPoint_pu n.c n.e h.c h.e hL
  -- gen
  clear h
  refine PuH.intro Tryz.func147 rfl (by kernel_rfl) fun C hC => ?_
  by_cases p1 : 1 ≤ n.k
  case neg =>
    have dp1 := decide_eq_false p1
    repeat (refine A1 ⟨?_⟩; intros)
    refine WneedF ?_
    rw [hC]
    exact ⟨by simp only [okN, dp1, Bool.and_true, Bool.true_and, Bool.and_false, Bool.false_and, Bool.or_true, Bool.true_or, Bool.or_false, Bool.false_or], rfl⟩
  have dp1 := decide_eq_true p1
  by_cases p2 : n.k ≤ 6
  case neg =>
    have dp2 := decide_eq_false p2
    repeat (refine A1 ⟨?_⟩; intros)
    refine WneedF ?_
    rw [hC]
    exact ⟨by simp only [okN, dp1, dp2, Bool.and_true, Bool.true_and, Bool.and_false, Bool.false_and, Bool.or_true, Bool.true_or, Bool.or_false, Bool.false_or], rfl⟩
  have dp2 := decide_eq_true p2
  repeat (refine A1 ⟨?_⟩; intros)
  refine WneedT ?_
  by_cases q1 : n.k = 1
  case pos =>
    have dk1 : decide (n.k = 1) = true := decide_eq_true (by omega)
    have dk4 : decide (n.k = 4) = false := decide_eq_false (by omega)
    have dk5 : decide (n.k = 5) = false := decide_eq_false (by omega)
    have dk6 : decide (n.k = 6) = false := decide_eq_false (by omega)
    have dn6 : decide (n.k ≠ 6) = true := decide_eq_true (by omega)
    repeat (refine A1 ⟨?_⟩; intros)
    refine WneedT ?_
    cases z1 : zp n.a n.b with
    | false =>
      rw [z1] at c1
      repeat (first | (refine A1 ⟨?_⟩; intros) | (refine Wcx (c1) ?_) | (refine Wdcx (c1) ?_) | (refine Wcgx (c1) ?_) | (refine Wdcgx (c1) ?_) | (refine Wcx (c2) ?_) | (refine Wdcx (c2) ?_) | (refine Wcgx (c2) ?_) | (refine Wdcgx (c2) ?_))
      refine WneedF ?_
      rw [hC]
      exact ⟨by simp only [okN, dp1, dp2, dk1, dk4, dk5, dk6, dn6, z1, Bool.and_true, Bool.true_and, Bool.and_false, Bool.false_and, Bool.or_true, Bool.true_or, Bool.or_false, Bool.false_or], rfl⟩
    | true =>
      rw [z1] at c1
      cases z2 : zp n.c n.e with
      | false =>
        rw [z2] at c2
        repeat (first | (refine A1 ⟨?_⟩; intros) | (refine Wcx (c1) ?_) | (refine Wdcx (c1) ?_) | (refine Wcgx (c1) ?_) | (refine Wdcgx (c1) ?_) | (refine Wcx (c2) ?_) | (refine Wdcx (c2) ?_) | (refine Wcgx (c2) ?_) | (refine Wdcgx (c2) ?_))
        refine WneedF ?_
        rw [hC]
        exact ⟨by simp only [okN, dp1, dp2, dk1, dk4, dk5, dk6, dn6, z1, z2, Bool.and_true, Bool.true_and, Bool.and_false, Bool.false_and, Bool.or_true, Bool.true_or, Bool.or_false, Bool.false_or], rfl⟩
      | true =>
        rw [z2] at c2
        repeat (first | (refine A1 ⟨?_⟩; intros) | (refine Wcx (c1) ?_) | (refine Wdcx (c1) ?_) | (refine Wcgx (c1) ?_) | (refine Wdcgx (c1) ?_) | (refine Wcx (c2) ?_) | (refine Wdcx (c2) ?_) | (refine Wcgx (c2) ?_) | (refine Wdcgx (c2) ?_))
        refine WneedT ?_
        by_cases o1 : n.op = 0
        case neg =>
          have do1 := decide_eq_false o1
          repeat (refine A1 ⟨?_⟩; intros)
          refine WneedF ?_
          rw [hC]
          exact ⟨by simp only [okN, dp1, dp2, dk1, dk4, dk5, dk6, dn6, z1, z2, do1, Bool.and_true, Bool.true_and, Bool.and_false, Bool.false_and, Bool.or_true, Bool.true_or, Bool.or_false, Bool.false_or], rfl⟩
        have do1 := decide_eq_true o1
        repeat (refine A1 ⟨?_⟩; intros)
        refine WneedT ?_
        by_cases y1 : n.y = 0
        case neg =>
          have dy1 := decide_eq_false y1
          repeat (refine A1 ⟨?_⟩; intros)
          refine WneedF ?_
          rw [hC]
          exact ⟨by simp only [okN, dp1, dp2, dk1, dk4, dk5, dk6, dn6, z1, z2, do1, dy1, Bool.and_true, Bool.true_and, Bool.and_false, Bool.false_and, Bool.or_true, Bool.true_or, Bool.or_false, Bool.false_or], rfl⟩
        have dy1 := decide_eq_true y1
        repeat (refine A1 ⟨?_⟩; intros)
        refine WneedT ?_
        by_cases x1 : n.x = 0
        case neg =>
          have dx1 := decide_eq_false x1
          repeat (refine A1 ⟨?_⟩; intros)
          refine WneedF ?_
          rw [hC]
          exact ⟨by simp only [okN, dp1, dp2, dk1, dk4, dk5, dk6, dn6, z1, z2, do1, dy1, dx1, Bool.and_true, Bool.true_and, Bool.and_false, Bool.false_and, Bool.or_true, Bool.true_or, Bool.or_false, Bool.false_or], rfl⟩
        have dx1 := decide_eq_true x1
        repeat (refine A1 ⟨?_⟩; intros)
        refine WneedT ?_
        repeat (refine A1 ⟨?_⟩; intros)
        exact endHN _ _ end0 (List.nil_sublist _) ⟨by simp only [okN, dp1, dp2, dk1, dk4, dk5, dk6, dn6, z1, z2, do1, dy1, dx1, Bool.and_true, Bool.true_and, Bool.and_false, Bool.false_and, Bool.or_true, Bool.true_or, Bool.or_false, Bool.false_or], rfl, rfl⟩
  by_cases q4 : n.k = 4
  case pos =>
    have dk1 : decide (n.k = 1) = false := decide_eq_false (by omega)
    have dk4 : decide (n.k = 4) = true := decide_eq_true (by omega)
    have dk5 : decide (n.k = 5) = false := decide_eq_false (by omega)
    have dk6 : decide (n.k = 6) = false := decide_eq_false (by omega)
    have dn6 : decide (n.k ≠ 6) = true := decide_eq_true (by omega)
    by_cases r1 : n.nm.length = 0
    case neg =>
      have dr1 := decide_eq_false r1
      have sr1 := nil_dec.2 r1
      repeat (refine A1 ⟨?_⟩; intros)
      refine WneedF ?_
      rw [hC]
      exact ⟨by simp only [okN, dp1, dp2, dk1, dk4, dk5, dk6, dn6, dr1, Bool.and_true, Bool.true_and, Bool.and_false, Bool.false_and, Bool.or_true, Bool.true_or, Bool.or_false, Bool.false_or], rfl⟩
    have dr1 := decide_eq_true r1
    have sr1 := nil_dec.1 r1
    repeat (refine A1 ⟨?_⟩; intros)
    refine WneedT ?_
    repeat (first | (refine A1 ⟨?_⟩; intros) | (refine Wcx (c1) ?_) | (refine Wdcx (c1) ?_) | (refine Wcgx (c1) ?_) | (refine Wdcgx (c1) ?_) | (refine Wcx (c2) ?_) | (refine Wdcx (c2) ?_) | (refine Wcgx (c2) ?_) | (refine Wdcgx (c2) ?_))
    refine WneedT ?_
    by_cases o1 : n.op = 0
    case neg =>
      have do1 := decide_eq_false o1
      repeat (refine A1 ⟨?_⟩; intros)
      refine WneedF ?_
      rw [hC]
      exact ⟨by simp only [okN, dp1, dp2, dk1, dk4, dk5, dk6, dn6, dr1, do1, Bool.and_true, Bool.true_and, Bool.and_false, Bool.false_and, Bool.or_true, Bool.true_or, Bool.or_false, Bool.false_or], rfl⟩
    have do1 := decide_eq_true o1
    repeat (refine A1 ⟨?_⟩; intros)
    refine WneedT ?_
    by_cases y1 : n.y = 0
    case neg =>
      have dy1 := decide_eq_false y1
      repeat (refine A1 ⟨?_⟩; intros)
      refine WneedF ?_
      rw [hC]
      exact ⟨by simp only [okN, dp1, dp2, dk1, dk4, dk5, dk6, dn6, dr1, do1, dy1, Bool.and_true, Bool.true_and, Bool.and_false, Bool.false_and, Bool.or_true, Bool.true_or, Bool.or_false, Bool.false_or], rfl⟩
    have dy1 := decide_eq_true y1
    repeat (refine A1 ⟨?_⟩; intros)
    refine WneedT ?_
    by_cases x1 : n.x = 0
    case neg =>
      have dx1 := decide_eq_false x1
      repeat (refine A1 ⟨?_⟩; intros)
      refine WneedF ?_
      rw [hC]
      exact ⟨by simp only [okN, dp1, dp2, dk1, dk4, dk5, dk6, dn6, dr1, do1, dy1, dx1, Bool.and_true, Bool.true_and, Bool.and_false, Bool.false_and, Bool.or_true, Bool.true_or, Bool.or_false, Bool.false_or], rfl⟩
    have dx1 := decide_eq_true x1
    repeat (refine A1 ⟨?_⟩; intros)
    refine WneedT ?_
    repeat (refine A1 ⟨?_⟩; intros)
    exact endHN _ _ end0 (List.nil_sublist _) ⟨by simp only [okN, dp1, dp2, dk1, dk4, dk5, dk6, dn6, dr1, do1, dy1, dx1, Bool.and_true, Bool.true_and, Bool.and_false, Bool.false_and, Bool.or_true, Bool.true_or, Bool.or_false, Bool.false_or], rfl, rfl⟩
  by_cases q5 : n.k = 5
  case pos =>
    have dk1 : decide (n.k = 1) = false := decide_eq_false (by omega)
    have dk4 : decide (n.k = 4) = false := decide_eq_false (by omega)
    have dk5 : decide (n.k = 5) = true := decide_eq_true (by omega)
    have dk6 : decide (n.k = 6) = false := decide_eq_false (by omega)
    have dn6 : decide (n.k ≠ 6) = true := decide_eq_true (by omega)
    by_cases r1 : n.nm.length = 0
    case neg =>
      have dr1 := decide_eq_false r1
      have sr1 := nil_dec.2 r1
      repeat (refine A1 ⟨?_⟩; intros)
      refine WneedF ?_
      rw [hC]
      exact ⟨by simp only [okN, dp1, dp2, dk1, dk4, dk5, dk6, dn6, dr1, Bool.and_true, Bool.true_and, Bool.and_false, Bool.false_and, Bool.or_true, Bool.true_or, Bool.or_false, Bool.false_or], rfl⟩
    have dr1 := decide_eq_true r1
    have sr1 := nil_dec.1 r1
    repeat (refine A1 ⟨?_⟩; intros)
    refine WneedT ?_
    cases z1 : zp n.a n.b with
    | false =>
      rw [z1] at c1
      repeat (first | (refine A1 ⟨?_⟩; intros) | (refine Wcx (c1) ?_) | (refine Wdcx (c1) ?_) | (refine Wcgx (c1) ?_) | (refine Wdcgx (c1) ?_) | (refine Wcx (c2) ?_) | (refine Wdcx (c2) ?_) | (refine Wcgx (c2) ?_) | (refine Wdcgx (c2) ?_))
      refine WneedF ?_
      rw [hC]
      exact ⟨by simp only [okN, dp1, dp2, dk1, dk4, dk5, dk6, dn6, dr1, z1, Bool.and_true, Bool.true_and, Bool.and_false, Bool.false_and, Bool.or_true, Bool.true_or, Bool.or_false, Bool.false_or], rfl⟩
    | true =>
      rw [z1] at c1
      cases z2 : zp n.c n.e with
      | false =>
        rw [z2] at c2
        repeat (first | (refine A1 ⟨?_⟩; intros) | (refine Wcx (c1) ?_) | (refine Wdcx (c1) ?_) | (refine Wcgx (c1) ?_) | (refine Wdcgx (c1) ?_) | (refine Wcx (c2) ?_) | (refine Wdcx (c2) ?_) | (refine Wcgx (c2) ?_) | (refine Wdcgx (c2) ?_))
        refine WneedF ?_
        rw [hC]
        exact ⟨by simp only [okN, dp1, dp2, dk1, dk4, dk5, dk6, dn6, dr1, z1, z2, Bool.and_true, Bool.true_and, Bool.and_false, Bool.false_and, Bool.or_true, Bool.true_or, Bool.or_false, Bool.false_or], rfl⟩
      | true =>
        rw [z2] at c2
        repeat (first | (refine A1 ⟨?_⟩; intros) | (refine Wcx (c1) ?_) | (refine Wdcx (c1) ?_) | (refine Wcgx (c1) ?_) | (refine Wdcgx (c1) ?_) | (refine Wcx (c2) ?_) | (refine Wdcx (c2) ?_) | (refine Wcgx (c2) ?_) | (refine Wdcgx (c2) ?_))
        refine WneedT ?_
        by_cases o1 : n.op = 0
        case neg =>
          have do1 := decide_eq_false o1
          repeat (refine A1 ⟨?_⟩; intros)
          refine WneedF ?_
          rw [hC]
          exact ⟨by simp only [okN, dp1, dp2, dk1, dk4, dk5, dk6, dn6, dr1, z1, z2, do1, Bool.and_true, Bool.true_and, Bool.and_false, Bool.false_and, Bool.or_true, Bool.true_or, Bool.or_false, Bool.false_or], rfl⟩
        have do1 := decide_eq_true o1
        repeat (refine A1 ⟨?_⟩; intros)
        refine WneedT ?_
        by_cases y1 : n.y = 0
        case neg =>
          have dy1 := decide_eq_false y1
          repeat (refine A1 ⟨?_⟩; intros)
          refine WneedF ?_
          rw [hC]
          exact ⟨by simp only [okN, dp1, dp2, dk1, dk4, dk5, dk6, dn6, dr1, z1, z2, do1, dy1, Bool.and_true, Bool.true_and, Bool.and_false, Bool.false_and, Bool.or_true, Bool.true_or, Bool.or_false, Bool.false_or], rfl⟩
        have dy1 := decide_eq_true y1
        repeat (refine A1 ⟨?_⟩; intros)
        refine WneedT ?_
        repeat (refine A1 ⟨?_⟩; intros)
        refine WneedT ?_
        repeat (refine A1 ⟨?_⟩; intros)
        exact endHN _ _ end0 (List.nil_sublist _) ⟨by simp only [okN, dp1, dp2, dk1, dk4, dk5, dk6, dn6, dr1, z1, z2, do1, dy1, Bool.and_true, Bool.true_and, Bool.and_false, Bool.false_and, Bool.or_true, Bool.true_or, Bool.or_false, Bool.false_or], rfl, rfl⟩
  by_cases q6 : n.k = 6
  case pos =>
    have dk1 : decide (n.k = 1) = false := decide_eq_false (by omega)
    have dk4 : decide (n.k = 4) = false := decide_eq_false (by omega)
    have dk5 : decide (n.k = 5) = false := decide_eq_false (by omega)
    have dk6 : decide (n.k = 6) = true := decide_eq_true (by omega)
    have dn6 : decide (n.k ≠ 6) = false := decide_eq_false (by omega)
    by_cases r1 : n.nm.length = 0
    case neg =>
      have dr1 := decide_eq_false r1
      have sr1 := nil_dec.2 r1
      repeat (refine A1 ⟨?_⟩; intros)
      refine WneedF ?_
      rw [hC]
      exact ⟨by simp only [okN, dp1, dp2, dk1, dk4, dk5, dk6, dn6, dr1, Bool.and_true, Bool.true_and, Bool.and_false, Bool.false_and, Bool.or_true, Bool.true_or, Bool.or_false, Bool.false_or], rfl⟩
    have dr1 := decide_eq_true r1
    have sr1 := nil_dec.1 r1
    repeat (refine A1 ⟨?_⟩; intros)
    refine WneedT ?_
    cases z1 : zp n.a n.b with
    | false =>
      rw [z1] at c1
      repeat (first | (refine A1 ⟨?_⟩; intros) | (refine Wcx (c1) ?_) | (refine Wdcx (c1) ?_) | (refine Wcgx (c1) ?_) | (refine Wdcgx (c1) ?_) | (refine Wcx (c2) ?_) | (refine Wdcx (c2) ?_) | (refine Wcgx (c2) ?_) | (refine Wdcgx (c2) ?_))
      refine WneedF ?_
      rw [hC]
      exact ⟨by simp only [okN, dp1, dp2, dk1, dk4, dk5, dk6, dn6, dr1, z1, Bool.and_true, Bool.true_and, Bool.and_false, Bool.false_and, Bool.or_true, Bool.true_or, Bool.or_false, Bool.false_or], rfl⟩
    | true =>
      rw [z1] at c1
      cases z2 : zp n.c n.e with
      | false =>
        rw [z2] at c2
        repeat (first | (refine A1 ⟨?_⟩; intros) | (refine Wcx (c1) ?_) | (refine Wdcx (c1) ?_) | (refine Wcgx (c1) ?_) | (refine Wdcgx (c1) ?_) | (refine Wcx (c2) ?_) | (refine Wdcx (c2) ?_) | (refine Wcgx (c2) ?_) | (refine Wdcgx (c2) ?_))
        refine WneedF ?_
        rw [hC]
        exact ⟨by simp only [okN, dp1, dp2, dk1, dk4, dk5, dk6, dn6, dr1, z1, z2, Bool.and_true, Bool.true_and, Bool.and_false, Bool.false_and, Bool.or_true, Bool.true_or, Bool.or_false, Bool.false_or], rfl⟩
      | true =>
        rw [z2] at c2
        repeat (first | (refine A1 ⟨?_⟩; intros) | (refine Wcx (c1) ?_) | (refine Wdcx (c1) ?_) | (refine Wcgx (c1) ?_) | (refine Wdcgx (c1) ?_) | (refine Wcx (c2) ?_) | (refine Wdcx (c2) ?_) | (refine Wcgx (c2) ?_) | (refine Wdcgx (c2) ?_))
        refine WneedT ?_
        by_cases o1 : 1 ≤ n.op
        case neg =>
          have do1 := decide_eq_false o1
          repeat (refine A1 ⟨?_⟩; intros)
          refine WneedF ?_
          rw [hC]
          exact ⟨by simp only [okN, dp1, dp2, dk1, dk4, dk5, dk6, dn6, dr1, z1, z2, do1, Bool.and_true, Bool.true_and, Bool.and_false, Bool.false_and, Bool.or_true, Bool.true_or, Bool.or_false, Bool.false_or], rfl⟩
        have do1 := decide_eq_true o1
        by_cases o2 : n.op ≤ 4
        case neg =>
          have do2 := decide_eq_false o2
          repeat (refine A1 ⟨?_⟩; intros)
          refine WneedF ?_
          rw [hC]
          exact ⟨by simp only [okN, dp1, dp2, dk1, dk4, dk5, dk6, dn6, dr1, z1, z2, do1, do2, Bool.and_true, Bool.true_and, Bool.and_false, Bool.false_and, Bool.or_true, Bool.true_or, Bool.or_false, Bool.false_or], rfl⟩
        have do2 := decide_eq_true o2
        repeat (refine A1 ⟨?_⟩; intros)
        refine WneedT ?_
        repeat (refine A1 ⟨?_⟩; intros)
        refine WneedT ?_
        repeat (refine A1 ⟨?_⟩; intros)
        refine WneedT ?_
        repeat (refine A1 ⟨?_⟩; intros)
        exact endHN _ _ end0 (List.nil_sublist _) ⟨by simp only [okN, dp1, dp2, dk1, dk4, dk5, dk6, dn6, dr1, z1, z2, do1, do2, Bool.and_true, Bool.true_and, Bool.and_false, Bool.false_and, Bool.or_true, Bool.true_or, Bool.or_false, Bool.false_or], rfl, rfl⟩
  have dk1 : decide (n.k = 1) = false := decide_eq_false (by omega)
  have dk4 : decide (n.k = 4) = false := decide_eq_false (by omega)
  have dk5 : decide (n.k = 5) = false := decide_eq_false (by omega)
  have dk6 : decide (n.k = 6) = false := decide_eq_false (by omega)
  have dn6 : decide (n.k ≠ 6) = true := decide_eq_true (by omega)
  by_cases r1 : n.nm.length = 0
  case neg =>
    have dr1 := decide_eq_false r1
    have sr1 := nil_dec.2 r1
    repeat (refine A1 ⟨?_⟩; intros)
    refine WneedF ?_
    rw [hC]
    exact ⟨by simp only [okN, dp1, dp2, dk1, dk4, dk5, dk6, dn6, dr1, Bool.and_true, Bool.true_and, Bool.and_false, Bool.false_and, Bool.or_true, Bool.true_or, Bool.or_false, Bool.false_or], rfl⟩
  have dr1 := decide_eq_true r1
  have sr1 := nil_dec.1 r1
  repeat (refine A1 ⟨?_⟩; intros)
  refine WneedT ?_
  cases z1 : zp n.a n.b with
  | false =>
    rw [z1] at c1
    repeat (first | (refine A1 ⟨?_⟩; intros) | (refine Wcx (c1) ?_) | (refine Wdcx (c1) ?_) | (refine Wcgx (c1) ?_) | (refine Wdcgx (c1) ?_) | (refine Wcx (c2) ?_) | (refine Wdcx (c2) ?_) | (refine Wcgx (c2) ?_) | (refine Wdcgx (c2) ?_))
    refine WneedF ?_
    rw [hC]
    exact ⟨by simp only [okN, dp1, dp2, dk1, dk4, dk5, dk6, dn6, dr1, z1, Bool.and_true, Bool.true_and, Bool.and_false, Bool.false_and, Bool.or_true, Bool.true_or, Bool.or_false, Bool.false_or], rfl⟩
  | true =>
    rw [z1] at c1
    cases z2 : zp n.c n.e with
    | false =>
      rw [z2] at c2
      repeat (first | (refine A1 ⟨?_⟩; intros) | (refine Wcx (c1) ?_) | (refine Wdcx (c1) ?_) | (refine Wcgx (c1) ?_) | (refine Wdcgx (c1) ?_) | (refine Wcx (c2) ?_) | (refine Wdcx (c2) ?_) | (refine Wcgx (c2) ?_) | (refine Wdcgx (c2) ?_))
      refine WneedF ?_
      rw [hC]
      exact ⟨by simp only [okN, dp1, dp2, dk1, dk4, dk5, dk6, dn6, dr1, z1, z2, Bool.and_true, Bool.true_and, Bool.and_false, Bool.false_and, Bool.or_true, Bool.true_or, Bool.or_false, Bool.false_or], rfl⟩
    | true =>
      rw [z2] at c2
      repeat (first | (refine A1 ⟨?_⟩; intros) | (refine Wcx (c1) ?_) | (refine Wdcx (c1) ?_) | (refine Wcgx (c1) ?_) | (refine Wdcgx (c1) ?_) | (refine Wcx (c2) ?_) | (refine Wdcx (c2) ?_) | (refine Wcgx (c2) ?_) | (refine Wdcgx (c2) ?_))
      refine WneedT ?_
      by_cases o1 : n.op = 0
      case neg =>
        have do1 := decide_eq_false o1
        repeat (refine A1 ⟨?_⟩; intros)
        refine WneedF ?_
        rw [hC]
        exact ⟨by simp only [okN, dp1, dp2, dk1, dk4, dk5, dk6, dn6, dr1, z1, z2, do1, Bool.and_true, Bool.true_and, Bool.and_false, Bool.false_and, Bool.or_true, Bool.true_or, Bool.or_false, Bool.false_or], rfl⟩
      have do1 := decide_eq_true o1
      repeat (refine A1 ⟨?_⟩; intros)
      refine WneedT ?_
      by_cases y1 : n.y = 0
      case neg =>
        have dy1 := decide_eq_false y1
        repeat (refine A1 ⟨?_⟩; intros)
        refine WneedF ?_
        rw [hC]
        exact ⟨by simp only [okN, dp1, dp2, dk1, dk4, dk5, dk6, dn6, dr1, z1, z2, do1, dy1, Bool.and_true, Bool.true_and, Bool.and_false, Bool.false_and, Bool.or_true, Bool.true_or, Bool.or_false, Bool.false_or], rfl⟩
      have dy1 := decide_eq_true y1
      repeat (refine A1 ⟨?_⟩; intros)
      refine WneedT ?_
      by_cases x1 : n.x = 0
      case neg =>
        have dx1 := decide_eq_false x1
        repeat (refine A1 ⟨?_⟩; intros)
        refine WneedF ?_
        rw [hC]
        exact ⟨by simp only [okN, dp1, dp2, dk1, dk4, dk5, dk6, dn6, dr1, z1, z2, do1, dy1, dx1, Bool.and_true, Bool.true_and, Bool.and_false, Bool.false_and, Bool.or_true, Bool.true_or, Bool.or_false, Bool.false_or], rfl⟩
      have dx1 := decide_eq_true x1
      repeat (refine A1 ⟨?_⟩; intros)
      refine WneedT ?_
      repeat (refine A1 ⟨?_⟩; intros)
      exact endHN _ _ end0 (List.nil_sublist _) ⟨by simp only [okN, dp1, dp2, dk1, dk4, dk5, dk6, dn6, dr1, z1, z2, do1, dy1, dx1, Bool.and_true, Bool.true_and, Bool.and_false, Bool.false_and, Bool.or_true, Bool.true_or, Bool.or_false, Bool.false_or], rfl, rfl⟩
  -- end
end Go.Ab
