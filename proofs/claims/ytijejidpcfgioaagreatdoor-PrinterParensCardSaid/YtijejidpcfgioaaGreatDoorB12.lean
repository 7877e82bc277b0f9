/- Texts laid one behind the other: LnA, Nrm, Wr. -/
import Derived.Test.YtijejidpcfgioaaGreatDoorB11
import Derived.Test.YtijejidpcfgioaaGreatDoorB04
/- Packages nat, integer, frac, geo: normal forms, comparisons, common divisors; lines. -/
namespace Go.Ab
open Go.Proofs
set_option linter.unusedSectionVars false
set_option linter.unusedVariables false
set_option linter.unusedSimpArgs false
variable [Base]
/-- digits in normal form -/
def nrm (xs : List Nat) : Bool := decide (xs.length = 0) || decide (xs.getD (xs.length - 1) 0 ≠ 0)
theorem nrm_dgs (n : Nat) : nrm (dgs n) = true := by
  by_cases h : n = 0
  · subst h; rw [dgs_zero]; rfl
  · obtain ⟨k, h1, h2, _⟩ := dgs_top h
    unfold nrm
    rw [h1, Nat.add_sub_cancel, decide_eq_true h2, Bool.or_true]
theorem natNormal_pu (xs : List Nat) (hl : xs.length ≤ 1000000000) : Pu Tryz.prog 251 [dg xs] (lit (.bool (nrm xs))) := by
  unfold nrm
  by_cases h : xs.length = 0
  · rw [decide_eq_true h, Bool.true_or]
    refine Pu.intro Tryz.func251 rfl (by kernel_rfl) fun C => ?_
    repeat (refine A1 ⟨?_⟩; intros)
    ((first | refine endR ?_ | refine endN ?_); exact end1 (RV.tmp rfl) (Le.refl _))
  · rw [decide_eq_false h, Bool.false_or]
    by_cases h1 : xs.getD (xs.length - 1) 0 = 0
    · rw [decide_eq_false (fun e => e h1)]
      refine Pu.intro Tryz.func251 rfl (by kernel_rfl) fun C => ?_
      repeat (refine A1 ⟨?_⟩; intros)
      ((first | refine endR ?_ | refine endN ?_); exact end1 (RV.tmp rfl) (Le.refl _))
    · rw [decide_eq_true h1]
      refine Pu.intro Tryz.func251 rfl (by kernel_rfl) fun C => ?_
      repeat (refine A1 ⟨?_⟩; intros)
      ((first | refine endR ?_ | refine endN ?_); exact end1 (RV.tmp rfl) (Le.refl _))
/-- a sign and digits in normal form -/
def nrmI (s : Bool) (xs : List Nat) : Bool := nrm xs && (!s || decide (0 < xs.length))
theorem nrmI_int (z : Int) : nrmI (decide (z < 0)) (dgs z.natAbs) = true := by
  unfold nrmI
  rw [nrm_dgs, Bool.true_and]
  by_cases h : z < 0
  · rw [decide_eq_true h, decide_eq_true (dgs_len_pos (by omega)), Bool.or_true]
  · rw [decide_eq_false h]; rfl
theorem intNormal_pu (s : Bool) (xs : List Nat) (hl : xs.length ≤ 1000000000) : Pu Tryz.prog 250 [raw s xs] (lit (.bool (nrmI s xs))) := by
  have hn := natNormal_pu xs hl
  unfold nrmI
  cases hx : nrm xs with
  | false =>
    rw [hx] at hn
    refine Pu.intro Tryz.func250 rfl (by kernel_rfl) fun C => ?_
    repeat (first | (refine A1 ⟨?_⟩; intros) | (refine Wcx (hn) ?_) | (refine Wdcx (hn) ?_) | (refine Wcgx (hn) ?_) | (refine Wdcgx (hn) ?_))
    ((first | refine endR ?_ | refine endN ?_); exact end1 (RV.tmp rfl) (Le.refl _))
  | true =>
    rw [hx] at hn
    cases s with
    | false =>
      refine Pu.intro Tryz.func250 rfl (by kernel_rfl) fun C => ?_
      repeat (first | (refine A1 ⟨?_⟩; intros) | (refine Wcx (hn) ?_) | (refine Wdcx (hn) ?_) | (refine Wcgx (hn) ?_) | (refine Wdcgx (hn) ?_))
      ((first | refine endR ?_ | refine endN ?_); exact end1 (RV.tmp rfl) (Le.refl _))
    | true =>
      by_cases h : 0 < xs.length
      · rw [decide_eq_true h]
        refine Pu.intro Tryz.func250 rfl (by kernel_rfl) fun C => ?_
        repeat (first | (refine A1 ⟨?_⟩; intros) | (refine Wcx (hn) ?_) | (refine Wdcx (hn) ?_) | (refine Wcgx (hn) ?_) | (refine Wdcgx (hn) ?_))
        ((first | refine endR ?_ | refine endN ?_); exact end1 (RV.tmp rfl) (Le.refl _))
      · rw [decide_eq_false h]
        refine Pu.intro Tryz.func250 rfl (by kernel_rfl) fun C => ?_
        repeat (first | (refine A1 ⟨?_⟩; intros) | (refine Wcx (hn) ?_) | (refine Wdcx (hn) ?_) | (refine Wcgx (hn) ?_) | (refine Wdcgx (hn) ?_))
        ((first | refine endR ?_ | refine endN ?_); exact end1 (RV.tmp rfl) (Le.refl _))
theorem gcd_n (a b : Nat) (h1 : (dgs a).length ≤ 10000000) (h2 : (dgs b).length ≤ 10000000) : Pu Tryz.prog 252 [nat a, nat b] (nat (Nat.gcd a b)) := by
  have := gcd_nat (dgs a) (dgs b) h1 h2 (D_dgs _) (D_dgs _)
  rwa [val_dgs, val_dgs] at this
theorem dlen_gcd_le {a b n : Nat} (ha : (dgs a).length ≤ n) (hb : (dgs b).length ≤ n) : (dgs (Nat.gcd a b)).length ≤ n := by
  by_cases h : a = 0
  · subst h; rw [Nat.gcd_zero_left]; exact hb
  · exact Nat.le_trans (len_mono (Nat.gcd_le_left b (by omega))) ha
end Go.Ab
/- Rational numbers in normal form: the program's check and the reference's. -/
namespace Go.Ab
open Go.Proofs
set_option linter.unusedSectionVars false
set_option linter.unusedVariables false
set_option linter.unusedSimpArgs false
variable [Base]
theorem nrm_eq {xs : List Nat} (hD : D xs) (h : nrm xs = true) : xs = dgs (val xs) := by
  rw [← trimL_eq hD]
  rcases List.eq_nil_or_concat xs with e | ⟨ys, y, e⟩
  · subst e; rfl
  · rw [List.concat_eq_append] at e
    subst e
    have hy : y ≠ 0 := by
      unfold nrm at h
      simp at h
      exact h
    rw [trimL_snoc_ne ys y hy]
/-- in normal form -/
def nrmQ (r : RQ) : Bool := decide (r.s = decide (r.v.num < 0) ∧ r.n = dgs r.v.num.natAbs ∧ r.d = dgs r.v.den)
theorem nrmQ_q {r : RQ} (h : nrmQ r = true) : qr r = q r.v := by
  obtain ⟨h1, h2, h3⟩ := of_decide_eq_true h
  show ag [lit (.bool r.s), dg r.n, dg r.d] = ag [lit (.bool (decide (r.v.num < 0))), nat r.v.num.natAbs, nat r.v.den]
  rw [← h1, nat, ← h2, nat, ← h3]
theorem nrmQ_eq {r : RQ} (h1 : D r.n) (h2 : D r.d) : nrmQ r = (nrmI r.s r.n && nrm r.d && decide (r.d.length ≠ 0) && decide (Nat.gcd (val r.n) (val r.d) = 1)) := by
  apply Bool.eq_iff_iff.2
  constructor
  · intro h
    obtain ⟨a1, a2, a3⟩ := of_decide_eq_true h
    have e1 : nrmI r.s r.n = true := by rw [a1, a2]; exact nrmI_int _
    have e2 : nrm r.d = true := by rw [a3]; exact nrm_dgs _
    have e3 : r.d.length ≠ 0 := by rw [a3]; exact dgs_ne_nil r.v.den_nz
    have e4 : Nat.gcd (val r.n) (val r.d) = 1 := by rw [a2, a3, val_dgs, val_dgs]; exact r.v.reduced
    rw [e1, e2, decide_eq_true e3, decide_eq_true e4]; rfl
  · intro h
    simp only [Bool.and_eq_true, decide_eq_true_eq] at h
    obtain ⟨⟨⟨e1, e2⟩, e3⟩, e4⟩ := h
    have hs : nrm r.n = true ∧ (r.s = true → 0 < r.n.length) := by
      unfold nrmI at e1
      simp only [Bool.and_eq_true, Bool.or_eq_true, Bool.not_eq_true', decide_eq_true_eq] at e1
      refine ⟨e1.1, fun h => ?_⟩
      rcases e1.2 with h' | h'
      · rw [h] at h'; cases h'
      · exact h'
    have b1 := nrm_eq h1 hs.1
    have b2 := nrm_eq h2 e2
    have hd : val r.d ≠ 0 := fun e => by rw [e, dgs_zero] at b2; rw [b2] at e3; exact e3 rfl
    have hv : r.v.num = sv r.s (val r.n) ∧ r.v.den = val r.d := by
      have := mk_sv r.s (val r.n) hd
      rw [e4, Nat.div_one, Nat.div_one] at this
      exact this
    unfold nrmQ
    rw [hv.1, hv.2, sv_abs, ← b1, ← b2, sv_neg]
    refine decide_eq_true ⟨?_, rfl, rfl⟩
    cases hrs : r.s with
    | false => rfl
    | true =>
      have hp := hs.2 hrs
      have : 0 < val r.n := Nat.pos_of_ne_zero fun e => by rw [e, dgs_zero] at b1; rw [b1] at hp; simp at hp
      simp [this]
theorem blen_1 {n : Nat} : blen n = 1 ↔ n = 1 := by
  have h0 := blen0 (n := n)
  have h1 := blen1 (n := n)
  omega
theorem fnormal_pu {r : RQ} {L : Nat} (h : r.ok L) (hL : L ≤ 1000000) : Pu Tryz.prog 227 [qr r] (lit (.bool (nrmQ r))) := by
  obtain ⟨h1, h2, h3, h4⟩ := h
  rw [nrmQ_eq h1 h2]
  have c1 := intNormal_pu r.s r.n (by omega)
  have c2 := natNormal_pu r.d (by omega)
  cases e1 : nrmI r.s r.n with
  | false =>
    rw [e1] at c1
    refine Pu.intro Tryz.func227 rfl (by kernel_rfl) fun C => ?_
    repeat (first | (refine A1 ⟨?_⟩; intros) | (refine Wcx (c1) ?_) | (refine Wdcx (c1) ?_) | (refine Wcgx (c1) ?_) | (refine Wdcgx (c1) ?_))
    ((first | refine endR ?_ | refine endN ?_); exact end1 (RV.tmp rfl) (Le.refl _))
  | true =>
    rw [e1] at c1
    cases e2 : nrm r.d with
    | false =>
      rw [e2] at c2
      refine Pu.intro Tryz.func227 rfl (by kernel_rfl) fun C => ?_
      repeat (first | (refine A1 ⟨?_⟩; intros) | (refine Wcx (c1) ?_) | (refine Wdcx (c1) ?_) | (refine Wcgx (c1) ?_) | (refine Wdcgx (c1) ?_) | (refine Wcx (c2) ?_) | (refine Wdcx (c2) ?_) | (refine Wcgx (c2) ?_) | (refine Wdcgx (c2) ?_))
      ((first | refine endR ?_ | refine endN ?_); exact end1 (RV.tmp rfl) (Le.refl _))
    | true =>
      rw [e2] at c2
      by_cases e3 : r.d.length = 0
      · rw [decide_eq_false (p := r.d.length ≠ 0) (fun h => h e3)]
        refine Pu.intro Tryz.func227 rfl (by kernel_rfl) fun C => ?_
        repeat (first | (refine A1 ⟨?_⟩; intros) | (refine Wcx (c1) ?_) | (refine Wdcx (c1) ?_) | (refine Wcgx (c1) ?_) | (refine Wdcgx (c1) ?_) | (refine Wcx (c2) ?_) | (refine Wdcx (c2) ?_) | (refine Wcgx (c2) ?_) | (refine Wdcgx (c2) ?_))
        ((first | refine endR ?_ | refine endN ?_); exact end1 (RV.tmp rfl) (Le.refl _))
      · rw [decide_eq_true (p := r.d.length ≠ 0) e3]
        have hn : nrm r.n = true := by
          unfold nrmI at e1
          simp only [Bool.and_eq_true] at e1
          exact e1.1
        have b1 := nrm_eq h1 hn
        have b2 := nrm_eq h2 e2
        have c3 := gcd_n (val r.n) (val r.d) (by rw [← b1]; omega) (by rw [← b2]; omega)
        rw [nat, nat, ← b1, ← b2] at c3
        have hg := dlen_gcd_le (a := val r.n) (b := val r.d) (n := L) (by rw [← b1]; omega) (by rw [← b2]; omega)
        have c4 := bits_nat (dgs (Nat.gcd (val r.n) (val r.d))) (by omega) (D_dgs _)
        rw [val_dgs] at c4
        have hb := blen_1 (n := Nat.gcd (val r.n) (val r.d))
        clear b1 b2 hn e1 e2
        by_cases hg1 : Nat.gcd (val r.n) (val r.d) = 1
        · have hbl := hb.2 hg1
          rw [decide_eq_true hg1]
          clear hb
          rw [hbl] at c4
          generalize Nat.gcd (val r.n) (val r.d) = g at *
          clear hbl
          refine Pu.intro Tryz.func227 rfl (by kernel_rfl) fun C => ?_
          repeat (first | (refine A1 ⟨?_⟩; intros) | (refine Wcx (c1) ?_) | (refine Wdcx (c1) ?_) | (refine Wcgx (c1) ?_) | (refine Wdcgx (c1) ?_) | (refine Wcx (c2) ?_) | (refine Wdcx (c2) ?_) | (refine Wcgx (c2) ?_) | (refine Wdcgx (c2) ?_) | (refine Wcx (c3) ?_) | (refine Wdcx (c3) ?_) | (refine Wcgx (c3) ?_) | (refine Wdcgx (c3) ?_) | (refine Wcx (c4) ?_) | (refine Wdcx (c4) ?_) | (refine Wcgx (c4) ?_) | (refine Wdcgx (c4) ?_))
          ((first | refine endR ?_ | refine endN ?_); exact end1 (RV.tmp rfl) (Le.refl _))
        · have hbl : blen (Nat.gcd (val r.n) (val r.d)) ≠ 1 := fun e => hg1 (hb.1 e)
          rw [decide_eq_false hg1]
          clear hb
          generalize blen (Nat.gcd (val r.n) (val r.d)) = bl at *
          refine Pu.intro Tryz.func227 rfl (by kernel_rfl) fun C => ?_
          repeat (first | (refine A1 ⟨?_⟩; intros) | (refine Wcx (c1) ?_) | (refine Wdcx (c1) ?_) | (refine Wcgx (c1) ?_) | (refine Wdcgx (c1) ?_) | (refine Wcx (c2) ?_) | (refine Wdcx (c2) ?_) | (refine Wcgx (c2) ?_) | (refine Wdcgx (c2) ?_) | (refine Wcx (c3) ?_) | (refine Wdcx (c3) ?_) | (refine Wcgx (c3) ?_) | (refine Wdcgx (c3) ?_) | (refine Wcx (c4) ?_) | (refine Wdcx (c4) ?_) | (refine Wcgx (c4) ?_) | (refine Wdcgx (c4) ?_))
          ((first | refine endR ?_ | refine endN ?_); exact end1 (RV.tmp rfl) (Le.refl _))
theorem sameQ_g (s t : Bool) (xs ys us vs : List Nat) (hx : xs.length ≤ 1000000) (hy : ys.length ≤ 1000000) (hu : us.length ≤ 1000000) (hv : vs.length ≤ 1000000) : Pu Tryz.prog 77 [qraw s xs ys, qraw t us vs] (lit (.bool (decide ((s = t ∧ xs = us) ∧ ys = vs)))) := by
  have c1 := sameI_pu s t xs us (by omega) (by omega)
  have c2 := sameN_pu ys vs (by omega) (by omega)
  by_cases h1 : s = t ∧ xs = us
  · rw [decide_eq_true h1] at c1
    by_cases h2 : ys = vs
    · rw [decide_eq_true h2] at c2
      rw [decide_eq_true ⟨h1, h2⟩]
      refine Pu.intro Tryz.func77 rfl (by kernel_rfl) fun C => ?_
      repeat (first | (refine A1 ⟨?_⟩; intros) | (refine Wcx (c1) ?_) | (refine Wdcx (c1) ?_) | (refine Wcgx (c1) ?_) | (refine Wdcgx (c1) ?_) | (refine Wcx (c2) ?_) | (refine Wdcx (c2) ?_) | (refine Wcgx (c2) ?_) | (refine Wdcgx (c2) ?_))
      ((first | refine endR ?_ | refine endN ?_); exact end1 (RV.tmp rfl) (Le.refl _))
    · rw [decide_eq_false h2] at c2
      rw [decide_eq_false (fun h => h2 h.2)]
      refine Pu.intro Tryz.func77 rfl (by kernel_rfl) fun C => ?_
      repeat (first | (refine A1 ⟨?_⟩; intros) | (refine Wcx (c1) ?_) | (refine Wdcx (c1) ?_) | (refine Wcgx (c1) ?_) | (refine Wdcgx (c1) ?_) | (refine Wcx (c2) ?_) | (refine Wdcx (c2) ?_) | (refine Wcgx (c2) ?_) | (refine Wdcgx (c2) ?_))
      ((first | refine endR ?_ | refine endN ?_); exact end1 (RV.tmp rfl) (Le.refl _))
  · rw [decide_eq_false h1] at c1
    rw [decide_eq_false (fun h => h1 h.1)]
    refine Pu.intro Tryz.func77 rfl (by kernel_rfl) fun C => ?_
    repeat (first | (refine A1 ⟨?_⟩; intros) | (refine Wcx (c1) ?_) | (refine Wdcx (c1) ?_) | (refine Wcgx (c1) ?_) | (refine Wdcgx (c1) ?_) | (refine Wcx (c2) ?_) | (refine Wdcx (c2) ?_) | (refine Wcgx (c2) ?_) | (refine Wdcgx (c2) ?_))
    ((first | refine endR ?_ | refine endN ?_); exact end1 (RV.tmp rfl) (Le.refl _))
end Go.Ab
/- Package grammar: the writer. -/
namespace Go.Ab
open Go.Proofs
set_option linter.unusedSectionVars false
set_option linter.unusedVariables false
set_option linter.unusedSimpArgs false
variable [Base]
theorem put1_pu {a : SV} {w b : Nat} (ha : a = fresh ∨ a = self w) {l : List UInt8} {s : SV} {Hb : LH} (hb : Byt l s Hb) (t : List UInt8) (hl : l.length + t.length ≤ 1000000000) (d : Nat) (lg : Bool) :
    PuH Tryz.prog 89 [lit (.pointer (some ⟨w, 0, none⟩)), lit (.slice (some ⟨b, 0, none⟩) 1 1)] ((b, 9, [str t]) :: (w, 190, wrC a s d lg) :: Hb)
      (fun r H => ∃ s' Hb', Byt (l ++ t) s' Hb' ∧ r = Ab.tup [] ∧ H = (w, 190, wrC (self w) s' d lg) :: Hb') noX := by
  refine PuH.intro Tryz.func89 rfl (by kernel_rfl) fun C hC => ?_
  repeat (refine A1 ⟨?_⟩; intros)
  refine WP.unroll 2 ?_
  refine WPR.succ ?_
  repeat (refine A1 ⟨?_⟩; intros)
  refine WfT (writeString_pu ha hb t hl d lg) ?_
  rintro _ _ ⟨s', Hb', hb', rfl, rfl⟩
  simp only [List.cons_append, List.nil_append]
  repeat (refine A1 ⟨?_⟩; intros)
  exact endHN _ _ end0 (List.Sublist.cons _ (List.Sublist.refl _)) ⟨s', Hb', hb', rfl, rfl⟩
/-- the program's own panic of a writer -/
abbrev inval : SV := lit (.iface 183 (.agg #[]))
theorem le_inval : Le (ifc 183 (ag [])) inval := fun m v h => by
  unfold ifc at h
  obtain ⟨u, rfl, hu⟩ := h
  unfold ag at hu
  obtain ⟨arr, rfl, hall⟩ := hu
  rw [lit_p]
  cases arr with
  | mk l => cases l with
    | nil => rfl
    | cons _ _ => exact hall.elim
theorem need_pu (b : Bool) : PuH Tryz.prog 87 [lit (.bool b)] [] (fun r H => b = true ∧ r = Ab.tup [] ∧ H = []) (fun pv H => b = false ∧ pv = inval ∧ H = []) := by
  cases b with
  | true =>
    refine PuH.intro Tryz.func87 rfl (by kernel_rfl) fun C hC => ?_
    repeat (refine A1 ⟨?_⟩; intros)
    exact endHN _ _ end0 (List.Sublist.refl _) ⟨rfl, rfl, rfl⟩
  | false =>
    refine PuH.intro Tryz.func87 rfl (by kernel_rfl) fun C hC => ?_
    repeat (refine A1 ⟨?_⟩; intros)
    refine WPL.low 5 rfl le_inval ?_
    refine Wpan ?_
    rw [hC]
    exact ⟨rfl, rfl, rfl⟩
section
variable {P : Program} {C : Ctx} {n : Nat} {F : Fr} {H : LH} {ops : Array Oper} {K : Fr → LH → Prop} {rest : List Oper} {ty : TypeId} {pos : String} {aft : Array Edge}
/-- a call that may panic -/
theorem WfX {f : FuncId} {d : Nat} {l : List Operand} {tys : Array TypeId} {svs : List SV} {Hin Rs : LH} {R X : SV → LH → Prop} (hc : PuH P f svs Hin R X) (k : ∀ res H', R res H' → WPL P C n ops rest K (upd F d res) (Rs ++ H')) (kx : ∀ pv H', X pv H' → C.pan pv (H' ++ Rs))
    (ha : l.map (ev F) = svs := by exact rfl) (hs : Tk H Hin Rs := by (repeat (first | exact Tk.nil _ | exact Tk.same _ | (apply Tk.cons; (first | exact (HDel.here _) | exact (HDel.there _ (HDel.here _)) | exact (HDel.there _ (HDel.there _ (HDel.here _))) | exact (HDel.there _ (HDel.there _ (HDel.there _ (HDel.here _)))) | exact (HDel.there _ (HDel.there _ (HDel.there _ (HDel.there _ (HDel.here _))))))) | apply Tk.skip))) (hd : Nat.blt d n = true := by exact rfl) :
    WPL P C n ops (⟨some d, .call ⟨.value (.func f), l.toArray, tys⟩, ty, pos, aft, none⟩ :: rest) K F H :=
  .perm hs.perm (.callH (s := lit (.func (.func f) #[] #[])) (first := []) (caps := []) rfl hc (Spl.app _ _) (by rw [List.nil_append, List.append_nil]; exact ha) hd (fun res H' h => .perm List.perm_append_comm (k res H' h)) fun pv H' h => kx pv H' h)
end
/-- need(b) -/
theorem Wneed {C : Ctx} {n : Nat} {F : Fr} {H : LH} {ops : Array Oper} {K : Fr → LH → Prop} {rest : List Oper} {ty : TypeId} {pos : String} {aft : Array Edge} {d : Nat} {x : Operand} {tys : Array TypeId} {b : Bool}
    (h1 : b = true → WPL Tryz.prog C n ops rest K (upd F d (Ab.tup [])) H) (h2 : b = false → C.pan inval H) (hx : ev F x = lit (.bool b) := by exact rfl) (hd : Nat.blt d n = true := by exact rfl) :
    WPL Tryz.prog C n ops (⟨some d, .call ⟨.value (.func 87), [x].toArray, tys⟩, ty, pos, aft, none⟩ :: rest) K F H := by
  refine WfX (need_pu b) (Rs := H) (fun res H' h => ?_) (fun pv H' h => ?_) (by rw [← hx]; rfl) (.nil _) hd
  · obtain ⟨hb, rfl, rfl⟩ := h
    rw [List.append_nil]
    exact h1 hb
  · obtain ⟨hb, rfl, rfl⟩ := h
    rw [List.nil_append]
    exact h2 hb
theorem WneedT {C : Ctx} {n : Nat} {F : Fr} {H : LH} {ops : Array Oper} {K : Fr → LH → Prop} {rest : List Oper} {ty : TypeId} {pos : String} {aft : Array Edge} {d : Nat} {x : Operand} {tys : Array TypeId}
    (h1 : WPL Tryz.prog C n ops rest K (upd F d (Ab.tup [])) H) (hx : ev F x = lit (.bool true) := by exact rfl) (hd : Nat.blt d n = true := by exact rfl) :
    WPL Tryz.prog C n ops (⟨some d, .call ⟨.value (.func 87), [x].toArray, tys⟩, ty, pos, aft, none⟩ :: rest) K F H := Wneed (fun _ => h1) (fun h => by cases h) hx hd
theorem WneedF {C : Ctx} {n : Nat} {F : Fr} {H : LH} {ops : Array Oper} {K : Fr → LH → Prop} {rest : List Oper} {ty : TypeId} {pos : String} {aft : Array Edge} {d : Nat} {x : Operand} {tys : Array TypeId}
    (h2 : C.pan inval H) (hx : ev F x = lit (.bool false) := by exact rfl) (hd : Nat.blt d n = true := by exact rfl) :
    WPL Tryz.prog C n ops (⟨some d, .call ⟨.value (.func 87), [x].toArray, tys⟩, ty, pos, aft, none⟩ :: rest) K F H := Wneed (fun h => by cases h) (fun _ => h2) hx hd
end Go.Ab
