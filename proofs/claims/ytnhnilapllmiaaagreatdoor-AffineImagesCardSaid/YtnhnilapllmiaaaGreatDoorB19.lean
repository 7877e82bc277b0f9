/- Texts laid one behind the other: TapeB, Bld, Txt, TxtB, Nrm, RgW, RgP, RgC, RgO. -/
import Derived.Test.YtnhnilapllmiaaaGreatDoorB18
import Derived.Test.YtnhnilapllmiaaaGreatDoorB16
import Derived.Test.YtnhnilapllmiaaaGreatDoorRow
import Derived.Lib.AppendStr
import Derived.Lib.UnsafeStr
import Derived.Lib.Builder
import Derived.Laws.Externs
import Derived.Test.YtnhnilapllmiaaaGreatDoorRefL
import Derived.Test.YtnhnilapllmiaaaGreatDoorB13
import Derived.Test.YtnhnilapllmiaaaGreatDoorB03
import Derived.Laws.IdiomStrings
import Derived.Test.YtnhnilapllmiaaaGreatDoorB14
import Derived.Test.YtnhnilapllmiaaaGreatDoorB17
set_option linter.unusedSectionVars false
set_option linter.unusedVariables false
set_option linter.unusedSimpArgs false
namespace Go.Ab
open Go.Proofs
variable [Base]
theorem rsame_pu (x y u v : Rat) (hx : ht x ≤ 3000000) (hy : ht y ≤ 3000000) (hu : ht u ≤ 3000000) (hv : ht v ≤ 3000000) : Pu Tryz.prog 35 [rp x y, rp u v] (lit (.bool (decide (x = u ∧ y = v)))) := by
  have c1 := rc_pu x u hx hu
  have c2 := rc_pu y v hy hv
  have e1 := sub_sign_zero (x := x) (y := u)
  have e2 := sub_sign_zero (x := y) (y := v)
  generalize (x - u).num.sign = s at *
  generalize (y - v).num.sign = t at *
  clear hx hy hu hv
  by_cases h1 : x = u
  · have hs := e1.2 h1
    by_cases h2 : y = v
    · have ht := e2.2 h2
      rw [decide_eq_true ⟨h1, h2⟩]
      clear e1 e2
      subst hs ht
      refine Pu.intro Tryz.func35 rfl (by kernel_rfl) fun C => ?_
      repeat (first | (refine A1 ⟨?_⟩; intros) | (refine Wcx (c1) ?_) | (refine Wdcx (c1) ?_) | (refine Wcgx (c1) ?_) | (refine Wdcgx (c1) ?_) | (refine Wcx (c2) ?_) | (refine Wdcx (c2) ?_) | (refine Wcgx (c2) ?_) | (refine Wdcgx (c2) ?_))
      ((first | refine endR ?_ | refine endN ?_); exact end1 (RV.tmp rfl) (Le.refl _))
    · have ht : t ≠ 0 := fun e => h2 (e2.1 e)
      rw [decide_eq_false (fun h => h2 h.2)]
      clear e1 e2
      subst hs
      refine Pu.intro Tryz.func35 rfl (by kernel_rfl) fun C => ?_
      repeat (first | (refine A1 ⟨?_⟩; intros) | (refine Wcx (c1) ?_) | (refine Wdcx (c1) ?_) | (refine Wcgx (c1) ?_) | (refine Wdcgx (c1) ?_) | (refine Wcx (c2) ?_) | (refine Wdcx (c2) ?_) | (refine Wcgx (c2) ?_) | (refine Wdcgx (c2) ?_))
      ((first | refine endR ?_ | refine endN ?_); exact end1 (RV.tmp rfl) (Le.refl _))
  · have hs : s ≠ 0 := fun e => h1 (e1.1 e)
    rw [decide_eq_false (fun h => h1 h.1)]
    clear e1 e2
    refine Pu.intro Tryz.func35 rfl (by kernel_rfl) fun C => ?_
    repeat (first | (refine A1 ⟨?_⟩; intros) | (refine Wcx (c1) ?_) | (refine Wdcx (c1) ?_) | (refine Wcgx (c1) ?_) | (refine Wdcgx (c1) ?_) | (refine Wcx (c2) ?_) | (refine Wdcx (c2) ?_) | (refine Wcgx (c2) ?_) | (refine Wdcgx (c2) ?_))
    ((first | refine endR ?_ | refine endN ?_); exact end1 (RV.tmp rfl) (Le.refl _))
abbrev intP : SV := ex fun p : { p : Int × Int // p.1.natAbs ≤ 4 ∧ p.2.natAbs ≤ 4 } => rp (p.1.1 : Rat) (p.1.2 : Rat)
abbrev intV : SV := ex fun p : { p : Int × Int // (p.1.natAbs ≤ 4 ∧ p.2.natAbs ≤ 4) ∧ (p.1 ≠ 0 ∨ p.2 ≠ 0) } => rp (p.1.1 : Rat) (p.1.2 : Rat)
theorem tp_pu (zs : List Int) (hz : zs.length ≤ 400) : PuT 29 zs [] intP := by
  refine PuM.intro Tryz.func29 rfl (by kernel_rfl) fun C b => ?_
  repeat (refine A1 ⟨?_⟩; intros)
  refine Wtx (next_pu zs hz 9 (by omega) (by omega)) (by repeat (first | exact List.mem_cons_self | apply List.mem_cons_of_mem)) fun x => ?_
  obtain ⟨x, hx⟩ := x
  simp only []
  repeat (refine A1 ⟨?_⟩; intros)
  refine Wtx (next_pu zs hz 9 (by omega) (by omega)) (by repeat (first | exact List.mem_cons_self | apply List.mem_cons_of_mem)) fun y => ?_
  obtain ⟨y, hy⟩ := y
  simp only []
  repeat (first | (refine A1 ⟨?_⟩; intros) | (refine Wcx (xy_pu ((x : Int) - 4) ((y : Int) - 4) (by omega) (by omega) (by omega) (by omega)) ?_) | (refine Wdcx (xy_pu ((x : Int) - 4) ((y : Int) - 4) (by omega) (by omega) (by omega) (by omega)) ?_) | (refine Wcgx (xy_pu ((x : Int) - 4) ((y : Int) - 4) (by omega) (by omega) (by omega) (by omega)) ?_) | (refine Wdcgx (xy_pu ((x : Int) - 4) ((y : Int) - 4) (by omega) (by omega) (by omega) (by omega)) ?_))
  exact endMR () _ (end1 (RV.cellA rfl (by repeat (first | exact List.mem_cons_self | apply List.mem_cons_of_mem)) rfl rfl) (Le.ex ⟨((x : Int) - 4, (y : Int) - 4), by simp only; omega, by simp only; omega⟩ (Le.refl _))) (by repeat (first | exact List.mem_cons_self | apply List.mem_cons_of_mem)) (LeL.refl _)
theorem ht_i (z : Int) (h : z.natAbs ≤ 1000) : ht (z : Rat) ≤ 1 := ht_int z (by omega)
theorem leZP : LeL [ag [lit (.bool false), lit (.slice none 0 0), lit (.slice none 0 0), lit (.bool false), lit (.slice none 0 0), lit (.slice none 0 0)]] [rp 0 0] :=
  ⟨Le.ag (by repeat (first | exact trivial | refine ⟨?_, ?_⟩ | exact Le.refl _ | exact leN0 | exact leD0)), trivial⟩
theorem int_zero {z : Int} : ((z : Rat) = 0) ↔ z = 0 := by constructor <;> intro h <;> exact_mod_cast h
theorem tv_pu (zs : List Int) (hz : zs.length ≤ 400) : PuT 32 zs [] intV := by
  refine PuM.intro Tryz.func32 rfl (by kernel_rfl) fun C b => ?_
  repeat (refine A1 ⟨?_⟩; intros)
  refine Wtx (tp_pu zs hz) (by repeat (first | exact List.mem_cons_self | apply List.mem_cons_of_mem)) fun p => ?_
  obtain ⟨⟨x, y⟩, hx, hy⟩ := p
  simp only at hx hy
  simp only []
  have h0 := ht_zero
  have hx' := ht_i x (by omega)
  have hy' := ht_i y (by omega)
  have c1 := (rsame_pu x y 0 0 (by omega) (by omega) (by omega) (by omega)).arg (l' := [rp x y, ag [lit (.bool false), lit (.slice none 0 0), lit (.slice none 0 0), lit (.bool false), lit (.slice none 0 0), lit (.slice none 0 0)]]) ⟨Le.refl _, leZP⟩
  have c2 := xy_pu 1 0 (by omega) (by omega) (by omega) (by omega)
  by_cases h : x = 0 ∧ y = 0
  · rw [decide_eq_true (show (x : Rat) = 0 ∧ (y : Rat) = 0 from ⟨int_zero.2 h.1, int_zero.2 h.2⟩)] at c1
    clear h hx' hy' h0
    repeat (first | (refine A1 ⟨?_⟩; intros) | (refine Wcx (c1) ?_) | (refine Wdcx (c1) ?_) | (refine Wcgx (c1) ?_) | (refine Wdcgx (c1) ?_) | (refine Wcx (c2) ?_) | (refine Wdcx (c2) ?_) | (refine Wcgx (c2) ?_) | (refine Wdcgx (c2) ?_))
    exact endMR () _ (end1 (RV.cellA rfl (by repeat (first | exact List.mem_cons_self | apply List.mem_cons_of_mem)) rfl rfl) (Le.ex ⟨(1, 0), by decide, by decide⟩ (Le.refl _))) (by repeat (first | exact List.mem_cons_self | apply List.mem_cons_of_mem)) (LeL.refl _)
  · rw [decide_eq_false (show ¬((x : Rat) = 0 ∧ (y : Rat) = 0) from fun e => h ⟨int_zero.1 e.1, int_zero.1 e.2⟩)] at c1
    have hv : x ≠ 0 ∨ y ≠ 0 := by omega
    clear h hx' hy' h0
    repeat (first | (refine A1 ⟨?_⟩; intros) | (refine Wcx (c1) ?_) | (refine Wdcx (c1) ?_) | (refine Wcgx (c1) ?_) | (refine Wdcgx (c1) ?_) | (refine Wcx (c2) ?_) | (refine Wdcx (c2) ?_) | (refine Wcgx (c2) ?_) | (refine Wdcgx (c2) ?_))
    exact endMR () _ (end1 (RV.cellA rfl (by repeat (first | exact List.mem_cons_self | apply List.mem_cons_of_mem)) rfl rfl) (Le.ex ⟨(x, y), ⟨hx, hy⟩, hv⟩ (Le.refl _))) (by repeat (first | exact List.mem_cons_self | apply List.mem_cons_of_mem)) (LeL.refl _)
abbrev smallL : SV := ex fun l : { l : Li // l.ok ∧ l.le 1 } => lq l.1
theorem thr_int (x y u v : Int) : thr x y ((x : Rat) + 1 * u) ((y : Rat) + 1 * v) = prim ((-v : Int) : Rat) ((u : Int) : Rat) ((v * x - u * y : Int) : Rat) := by
  unfold thr
  push_cast
  congr 1 <;> grind
theorem il_le (z : Int) (h : z.natAbs ≤ 1000) : il z ≤ 1 := len_le (k := 1) (by simp; omega)
theorem mul_le4 {a b : Int} (ha : a.natAbs ≤ 4) (hb : b.natAbs ≤ 4) : (a * b).natAbs ≤ 16 := by rw [Int.natAbs_mul]; exact Nat.mul_le_mul ha hb
theorem lthr_pu {x y u v : Int} (hx : x.natAbs ≤ 4) (hy : y.natAbs ≤ 4) (hu : u.natAbs ≤ 4) (hv : v.natAbs ≤ 4) (hne : u ≠ 0 ∨ v ≠ 0) :
    (∃ l : Li, l.ok ∧ l.le 1 ∧ l = thr x y ((x : Rat) + 1 * u) ((y : Rat) + 1 * v)) ∧ Pu Tryz.prog 31 [rp x y, rq 1, rp u v] (rp ((x : Rat) + 1 * u) ((y : Rat) + 1 * v)) ∧
    Pu Tryz.prog 30 [rp x y, rp ((x : Rat) + 1 * u) ((y : Rat) + 1 * v)] (Ab.tup [lq (thr x y ((x : Rat) + 1 * u) ((y : Rat) + 1 * v)), lit (.bool true)]) := by
  have hx' := ht_i x (by omega)
  have hy' := ht_i y (by omega)
  have hu' := ht_i u (by omega)
  have hv' := ht_i v (by omega)
  have h1 := ht_one
  have a := gadd_pu x y 1 u v (by omega) (by omega) (by omega) (by omega) (by omega)
  have k1 := ht_mul 1 (u : Rat)
  have k2 := ht_mul 1 (v : Rat)
  have k3 := ht_add (x : Rat) (1 * u)
  have k4 := ht_add (y : Rat) (1 * v)
  have t := through_pu (x := x) (y := y) (u := (x : Rat) + 1 * u) (v := (y : Rat) + 1 * v) (L := 10) (by omega) (by omega) (by omega) (by omega) (by omega) (by
    rw [show (x : Rat) + 1 * u - x = u from by grind, show (y : Rat) + 1 * v - y = v from by grind]
    rcases hne with h | h
    · exact .inl fun e => h (int_zero.1 e)
    · exact .inr fun e => h (int_zero.1 e))
  refine ⟨?_, a, t⟩
  rw [thr_int]
  have hne' : -v ≠ 0 ∨ u ≠ 0 := by omega
  have hm1 := mul_le4 hv hx
  have hm2 := mul_le4 hu hy
  have hok : (prim ((-v : Int) : Rat) ((u : Int) : Rat) ((v * x - u * y : Int) : Rat)).ok := prim_ok (by
    rcases hne' with h | h
    · exact .inl fun e => h (int_zero.1 e)
    · exact .inr fun e => h (int_zero.1 e))
  obtain ⟨q1, q2, q3⟩ := prim_abs (v * x - u * y) hne'
  generalize v * x = e1 at *
  generalize u * y = e2 at *
  exact ⟨_, hok, ⟨il_le _ (by omega), il_le _ (by omega), il_le _ (by omega)⟩, rfl⟩
theorem tl_pu (zs : List Int) (hz : zs.length ≤ 400) : PuT 6 zs [] smallL := by
  refine PuM.intro Tryz.func6 rfl (by kernel_rfl) fun C b => ?_
  repeat (refine A1 ⟨?_⟩; intros)
  refine Wtx (tp_pu zs hz) (by repeat (first | exact List.mem_cons_self | apply List.mem_cons_of_mem)) fun p => ?_
  obtain ⟨⟨x, y⟩, hx, hy⟩ := p
  simp only at hx hy
  simp only []
  have x0 : { p : Int × Int // (p.1.natAbs ≤ 4 ∧ p.2.natAbs ≤ 4) ∧ (p.1 ≠ 0 ∨ p.2 ≠ 0) } := ⟨(1, 0), by decide, by decide⟩
  repeat (first | (refine A1 ⟨?_⟩; intros) | (refine Wcx (rof1) ?_) | (refine Wdcx (rof1) ?_) | (refine Wcgx (rof1) ?_) | (refine Wdcgx (rof1) ?_))
  refine Wdo (ov_callT (tv_pu zs hz) rfl (by repeat (first | exact List.mem_cons_self | apply List.mem_cons_of_mem))) ?_
  refine Wdc (Pu.exAt [rp x y, rq 1] [] x0 fun v => (lthr_pu hx hy v.2.1.1 v.2.1.2 v.2.2).2.1) ?_
  refine Wdc (Pu.exAt [rp x y] [] x0 fun v => (lthr_pu hx hy v.2.1.1 v.2.1.2 v.2.2).2.2) ?_
  refine Wdo (OpV.exd 15 x0 rfl fun v => Ov0) ?_
  refine Wdo (OpV.exd 8 x0 rfl fun v => Ov0) ?_
  refine Wdo (OpV.exc 8 x0 rfl fun v => Ov0) ?_
  repeat (refine A1 ⟨?_⟩; intros)
  refine WPL.exd (d := 16) rfl fun v => ?_
  obtain ⟨⟨l, hok, hle, e⟩, _⟩ := lthr_pu hx hy v.2.1.1 v.2.1.2 v.2.2
  rw [← e]
  repeat (refine A1 ⟨?_⟩; intros)
  exact endMR () _ (end1 (RV.cellA rfl (by repeat (first | exact List.mem_cons_self | apply List.mem_cons_of_mem)) rfl rfl) (Le.ex ⟨l, hok, hle⟩ (Le.refl _))) (by repeat (first | exact List.mem_cons_self | apply List.mem_cons_of_mem)) (LeL.refl _)
def bys (l : List UInt8) : List SV := l.map fun b => lit (.int .u8 (b.toNat : Nat))
def Byt (l : List UInt8) (s : SV) (H : LH) : Prop :=
  (l = [] ∧ s = lit (.slice none 0 0) ∧ H = []) ∨
    l ≠ [] ∧ ∃ b c, l.length ≤ c ∧ c ≤ maxLen ∧ s = lit (.slice (some ⟨b, 0, none⟩) l.length c) ∧ H = [(b, 5, bys l ++ List.replicate (c - l.length) top)]
theorem Byt.nil : Byt [] (lit (.slice none 0 0)) [] := .inl ⟨rfl, rfl, rfl⟩
theorem Byt.co {l : List UInt8} {s : SV} {H : LH} (h : Byt l s H) : CO s [s] := by
  rcases h with ⟨_, rfl, _⟩ | ⟨_, b, c, _, _, rfl, _⟩ <;> infer_instance
section
variable {P : Program} {C : Ctx} {n : Nat} {F : Fr} {H : LH} {ops : Array Oper} {K : Fr → LH → Prop} {rest : List Oper} {ty : TypeId} {pos : String} {aft : Array Edge}
end
section
variable {F : Fr} {H : LH} {ty : TypeId}
end
section
variable {P : Program} {C : Ctx} {n : Nat} {F : Fr} {H : LH} {ops : Array Oper} {K : Fr → LH → Prop} {rest : List Oper} {ty : TypeId} {pos : String} {aft : Array Edge}
end
section
variable {P : Program} {F : Fr} {H : LH} {ty : TypeId}
end
theorem nrm_eq {xs : List Nat} (hD : D xs) (h : nrm xs = true) : xs = dgs (val xs) := by
  rw [← trimL_eq hD]
  rcases List.eq_nil_or_concat xs with e | ⟨ys, y, e⟩
  · subst e; rfl
  · rw [List.concat_eq_append] at e
    subst e
    have hy : y ≠ 0 := by
      unfold nrm at h
      simp at h
      exact h
    rw [trimL_snoc_ne ys y hy]
def nrmQ (r : RQ) : Bool := decide (r.s = decide (r.v.num < 0) ∧ r.n = dgs r.v.num.natAbs ∧ r.d = dgs r.v.den)
theorem nrmQ_eq {r : RQ} (h1 : D r.n) (h2 : D r.d) : nrmQ r = (nrmI r.s r.n && nrm r.d && decide (r.d.length ≠ 0) && decide (Nat.gcd (val r.n) (val r.d) = 1)) := by
  apply Bool.eq_iff_iff.2
  constructor
  · intro h
    obtain ⟨a1, a2, a3⟩ := of_decide_eq_true h
    have e1 : nrmI r.s r.n = true := by rw [a1, a2]; exact nrmI_int _
    have e2 : nrm r.d = true := by rw [a3]; exact nrm_dgs _
    have e3 : r.d.length ≠ 0 := by rw [a3]; exact dgs_ne_nil r.v.den_nz
    have e4 : Nat.gcd (val r.n) (val r.d) = 1 := by rw [a2, a3, val_dgs, val_dgs]; exact r.v.reduced
    rw [e1, e2, decide_eq_true e3, decide_eq_true e4]; rfl
  · intro h
    simp only [Bool.and_eq_true, decide_eq_true_eq] at h
    obtain ⟨⟨⟨e1, e2⟩, e3⟩, e4⟩ := h
    have hs : nrm r.n = true ∧ (r.s = true → 0 < r.n.length) := by
      unfold nrmI at e1
      simp only [Bool.and_eq_true, Bool.or_eq_true, Bool.not_eq_true', decide_eq_true_eq] at e1
      refine ⟨e1.1, fun h => ?_⟩
      rcases e1.2 with h' | h'
      · rw [h] at h'; cases h'
      · exact h'
    have b1 := nrm_eq h1 hs.1
    have b2 := nrm_eq h2 e2
    have hd : val r.d ≠ 0 := fun e => by rw [e, dgs_zero] at b2; rw [b2] at e3; exact e3 rfl
    have hv : r.v.num = sv r.s (val r.n) ∧ r.v.den = val r.d := by
      have := mk_sv r.s (val r.n) hd
      rw [e4, Nat.div_one, Nat.div_one] at this
      exact this
    unfold nrmQ
    rw [hv.1, hv.2, sv_abs, ← b1, ← b2, sv_neg]
    refine decide_eq_true ⟨?_, rfl, rfl⟩
    cases hrs : r.s with
    | false => rfl
    | true =>
      have hp := hs.2 hrs
      have : 0 < val r.n := Nat.pos_of_ne_zero fun e => by rw [e, dgs_zero] at b1; rw [b1] at hp; simp at hp
      simp [this]
theorem blen_1 {n : Nat} : blen n = 1 ↔ n = 1 := by
  have h0 := blen0 (n := n)
  have h1 := blen1 (n := n)
  omega
theorem fnormal_pu {r : RQ} {L : Nat} (h : r.ok L) (hL : L ≤ 1000000) : Pu Tryz.prog 144 [qr r] (lit (.bool (nrmQ r))) := by
  obtain ⟨h1, h2, h3, h4⟩ := h
  rw [nrmQ_eq h1 h2]
  have c1 := intNormal_pu r.s r.n (by omega)
  have c2 := natNormal_pu r.d (by omega)
  cases e1 : nrmI r.s r.n with
  | false =>
    rw [e1] at c1
    refine Pu.intro Tryz.func144 rfl (by kernel_rfl) fun C => ?_
    repeat (first | (refine A1 ⟨?_⟩; intros) | (refine Wcx (c1) ?_) | (refine Wdcx (c1) ?_) | (refine Wcgx (c1) ?_) | (refine Wdcgx (c1) ?_))
    ((first | refine endR ?_ | refine endN ?_); exact end1 (RV.tmp rfl) (Le.refl _))
  | true =>
    rw [e1] at c1
    cases e2 : nrm r.d with
    | false =>
      rw [e2] at c2
      refine Pu.intro Tryz.func144 rfl (by kernel_rfl) fun C => ?_
      repeat (first | (refine A1 ⟨?_⟩; intros) | (refine Wcx (c1) ?_) | (refine Wdcx (c1) ?_) | (refine Wcgx (c1) ?_) | (refine Wdcgx (c1) ?_) | (refine Wcx (c2) ?_) | (refine Wdcx (c2) ?_) | (refine Wcgx (c2) ?_) | (refine Wdcgx (c2) ?_))
      ((first | refine endR ?_ | refine endN ?_); exact end1 (RV.tmp rfl) (Le.refl _))
    | true =>
      rw [e2] at c2
      by_cases e3 : r.d.length = 0
      · rw [decide_eq_false (p := r.d.length ≠ 0) (fun h => h e3)]
        refine Pu.intro Tryz.func144 rfl (by kernel_rfl) fun C => ?_
        repeat (first | (refine A1 ⟨?_⟩; intros) | (refine Wcx (c1) ?_) | (refine Wdcx (c1) ?_) | (refine Wcgx (c1) ?_) | (refine Wdcgx (c1) ?_) | (refine Wcx (c2) ?_) | (refine Wdcx (c2) ?_) | (refine Wcgx (c2) ?_) | (refine Wdcgx (c2) ?_))
        ((first | refine endR ?_ | refine endN ?_); exact end1 (RV.tmp rfl) (Le.refl _))
      · rw [decide_eq_true (p := r.d.length ≠ 0) e3]
        have hn : nrm r.n = true := by
          unfold nrmI at e1
          simp only [Bool.and_eq_true] at e1
          exact e1.1
        have b1 := nrm_eq h1 hn
        have b2 := nrm_eq h2 e2
        have c3 := gcd_n (val r.n) (val r.d) (by rw [← b1]; omega) (by rw [← b2]; omega)
        rw [nat, nat, ← b1, ← b2] at c3
        have hg := dlen_gcd_le (a := val r.n) (b := val r.d) (n := L) (by rw [← b1]; omega) (by rw [← b2]; omega)
        have c4 := bits_nat (dgs (Nat.gcd (val r.n) (val r.d))) (by omega) (D_dgs _)
        rw [val_dgs] at c4
        have hb := blen_1 (n := Nat.gcd (val r.n) (val r.d))
        clear b1 b2 hn e1 e2
        by_cases hg1 : Nat.gcd (val r.n) (val r.d) = 1
        · have hbl := hb.2 hg1
          rw [decide_eq_true hg1]
          clear hb
          rw [hbl] at c4
          generalize Nat.gcd (val r.n) (val r.d) = g at *
          clear hbl
          refine Pu.intro Tryz.func144 rfl (by kernel_rfl) fun C => ?_
          repeat (first | (refine A1 ⟨?_⟩; intros) | (refine Wcx (c1) ?_) | (refine Wdcx (c1) ?_) | (refine Wcgx (c1) ?_) | (refine Wdcgx (c1) ?_) | (refine Wcx (c2) ?_) | (refine Wdcx (c2) ?_) | (refine Wcgx (c2) ?_) | (refine Wdcgx (c2) ?_) | (refine Wcx (c3) ?_) | (refine Wdcx (c3) ?_) | (refine Wcgx (c3) ?_) | (refine Wdcgx (c3) ?_) | (refine Wcx (c4) ?_) | (refine Wdcx (c4) ?_) | (refine Wcgx (c4) ?_) | (refine Wdcgx (c4) ?_))
          ((first | refine endR ?_ | refine endN ?_); exact end1 (RV.tmp rfl) (Le.refl _))
        · have hbl : blen (Nat.gcd (val r.n) (val r.d)) ≠ 1 := fun e => hg1 (hb.1 e)
          rw [decide_eq_false hg1]
          clear hb
          generalize blen (Nat.gcd (val r.n) (val r.d)) = bl at *
          refine Pu.intro Tryz.func144 rfl (by kernel_rfl) fun C => ?_
          repeat (first | (refine A1 ⟨?_⟩; intros) | (refine Wcx (c1) ?_) | (refine Wdcx (c1) ?_) | (refine Wcgx (c1) ?_) | (refine Wdcgx (c1) ?_) | (refine Wcx (c2) ?_) | (refine Wdcx (c2) ?_) | (refine Wcgx (c2) ?_) | (refine Wdcgx (c2) ?_) | (refine Wcx (c3) ?_) | (refine Wdcx (c3) ?_) | (refine Wcgx (c3) ?_) | (refine Wdcgx (c3) ?_) | (refine Wcx (c4) ?_) | (refine Wdcx (c4) ?_) | (refine Wcgx (c4) ?_) | (refine Wdcgx (c4) ?_))
          ((first | refine endR ?_ | refine endN ?_); exact end1 (RV.tmp rfl) (Le.refl _))
abbrev apx (p : Pq) : List SV := [lit (.bool (decide (p.1.num < 0))), nat p.1.num.natAbs, nat p.1.den, lit (.bool (decide (p.2.num < 0))), nat p.2.num.natAbs, nat p.2.den]
theorem apx_len (p : Pq) : (apx p).length = 6 := rfl
abbrev aps (l : List Pq) : SV := sl (l.map apx).flatten l.length
structure RwSt where
  k : Nat
  s : SV
  Hs : LH
theorem map_take_snoc {α β : Type} {f : α → List β} {l : List α} {k : Nat} {a : α} (h : l[k]? = some a) : ((l.take (k + 1)).map f).flatten = ((l.take k).map f).flatten ++ f a := by
  rw [take_snoc h, List.map_append, List.flatten_append]; simp
set_option maxHeartbeats 4000000 in
theorem toPs_pu (l : List Pq) (hl : l.length ≤ 100000) (hh : ∀ p ∈ l, ht p.1 ≤ 100000000 ∧ ht p.2 ≤ 100000000) : Pu Tryz.prog 13 [rps l] (aps l) := by
  refine Pu.intro Tryz.func13 rfl (by kernel_rfl) fun C => ?_
  repeat (refine A1 ⟨?_⟩; intros)
  refine WP.loopS (ι := RwSt) (fun y => y.k ≤ l.length ∧ Own 118 6 y.k ((l.take y.k).map apx).flatten y.s y.Hs) (fun y => l.length - y.k) (fun y => fm [(3, y.s), (6, rps l), (7, lit (.int .i64 l.length)), (8, lit (.int .i64 y.k))]) (fun y => y.Hs) ⟨0, lit (.slice none 0 0), []⟩
    ⟨Nat.zero_le _, Own.nil _ _⟩ (by (repeat (first | exact LeF.nil _ | refine LeF.cons (Le.refl _) ?_ | refine LeF.cons (Le.int (by omega)) ?_))) (List.nil_sublist _) ?_
  rintro ⟨k, s, Hs⟩ ⟨hk, hown⟩ K hK
  simp only at hk hown ⊢
  have hco := hown.co
  by_cases hkl : k < l.length
  · have hget := List.getElem?_eq_getElem hkl
    generalize l[k] = p at hget
    obtain ⟨h1, h2⟩ := hh p (List.mem_of_getElem? hget)
    have hat := flat_at (f := rpx) (n := 6) rpx_len hget
    have hne : (l.map rpx).flatten ≠ [] := flat_ne rpx_len (by omega) (fun e => by rw [e] at hkl; simp at hkl)
    have c := toP_pu p.1 p.2 h1 h2
    have hgo := fun s' Hs' h F' H' => hK F' H' ⟨k + 1, s', Hs'⟩ ⟨by simp only; omega, h⟩ (by simp only; omega)
    simp only [map_take_snoc hget] at hgo
    clear hK hh
    repeat (refine A1 ⟨?_⟩; intros)
    refine Wo (ov_idxS (cs' := rpx p) rfl rfl (by omega) (by omega) hat hne) ?_
    repeat (first | (refine A1 ⟨?_⟩; intros) | (refine Wcx (c) ?_) | (refine Wdcx (c) ?_) | (refine Wcgx (c) ?_) | (refine Wdcgx (c) ?_))
    refine Wown hown (by omega) (fun s2 H2 hown' => ?_)
    have hco2 := hown'.co
    replace hgo := hgo s2 H2 hown'
    simp only [List.cons_append, List.nil_append]
    clear hown hown'
    repeat (refine A1 ⟨?_⟩; intros)
    exact hgo _ _ (by (repeat (first | exact LeF.nil _ | refine LeF.cons (Le.refl _) ?_ | refine LeF.cons (Le.int (by omega)) ?_))) (by repeat (first | exact List.Sublist.refl _ | refine List.Sublist.cons _ ?_))
  · have hke : k = l.length := by omega
    subst hke
    rw [List.take_length] at hown
    refine WP.rowS 3 hown rfl (by rw [List.append_nil]) ?_
    clear hK hown
    repeat (refine A1 ⟨?_⟩; intros)
    exact endR (end1 (RV.tmp rfl) (Le.refl _))
theorem pequal_pu (p q : Pq) (h1 : ht p.1 ≤ 3000000 ∧ ht p.2 ≤ 3000000) (h2 : ht q.1 ≤ 3000000 ∧ ht q.2 ≤ 3000000) : Pu Tryz.prog 98 [ag (ppx p), ag (ppx q)] (lit (.bool (decide (p = q)))) := by
  obtain ⟨x, y⟩ := p
  obtain ⟨u, v⟩ := q
  have c1 := fequal_pu x u h1.1 h2.1
  have c2 := fequal_pu y v h1.2 h2.2
  by_cases h : x = u
  · by_cases h' : y = v
    · rw [decide_eq_true h] at c1
      rw [decide_eq_true h'] at c2
      rw [decide_eq_true (show (x, y) = (u, v) by rw [h, h'])]
      clear h1 h2 h h'
      refine Pu.intro Tryz.func98 rfl (by kernel_rfl) fun C => ?_
      repeat (first | (refine A1 ⟨?_⟩; intros) | (refine Wcx (c1) ?_) | (refine Wdcx (c1) ?_) | (refine Wcgx (c1) ?_) | (refine Wdcgx (c1) ?_) | (refine Wcx (c2) ?_) | (refine Wdcx (c2) ?_) | (refine Wcgx (c2) ?_) | (refine Wdcgx (c2) ?_))
      ((first | refine endR ?_ | refine endN ?_); exact end1 (RV.tmp rfl) (Le.refl _))
    · rw [decide_eq_true h] at c1
      rw [decide_eq_false h'] at c2
      rw [decide_eq_false (show ¬(x, y) = (u, v) from fun e => h' (Prod.mk.inj e).2)]
      clear h1 h2 h h'
      refine Pu.intro Tryz.func98 rfl (by kernel_rfl) fun C => ?_
      repeat (first | (refine A1 ⟨?_⟩; intros) | (refine Wcx (c1) ?_) | (refine Wdcx (c1) ?_) | (refine Wcgx (c1) ?_) | (refine Wdcgx (c1) ?_) | (refine Wcx (c2) ?_) | (refine Wdcx (c2) ?_) | (refine Wcgx (c2) ?_) | (refine Wdcgx (c2) ?_))
      ((first | refine endR ?_ | refine endN ?_); exact end1 (RV.tmp rfl) (Le.refl _))
  · rw [decide_eq_false h] at c1
    rw [decide_eq_false (show ¬(x, y) = (u, v) from fun e => h (Prod.mk.inj e).1)]
    clear h1 h2 h
    refine Pu.intro Tryz.func98 rfl (by kernel_rfl) fun C => ?_
    repeat (first | (refine A1 ⟨?_⟩; intros) | (refine Wcx (c1) ?_) | (refine Wdcx (c1) ?_) | (refine Wcgx (c1) ?_) | (refine Wdcgx (c1) ?_) | (refine Wcx (c2) ?_) | (refine Wdcx (c2) ?_) | (refine Wcgx (c2) ?_) | (refine Wdcgx (c2) ?_))
    ((first | refine endR ?_ | refine endN ?_); exact end1 (RV.tmp rfl) (Le.refl _))
def fstI (l : List Pq) (p : Pq) : Int := if p ∈ l then (l.idxOf p : Nat) else -1
theorem idxOf_of {l : List Pq} {p : Pq} {k : Nat} (h : l[k]? = some p) (hn : p ∉ l.take k) : l.idxOf p = k := by
  induction l generalizing k with
  | nil => simp at h
  | cons a l ih =>
    cases k with
    | zero =>
      simp only [List.getElem?_cons_zero, Option.some.injEq] at h
      rw [h, List.idxOf_cons_self]
    | succ k =>
      rw [List.take_succ_cons, List.mem_cons] at hn
      have hne : a ≠ p := fun e => hn (.inl e.symm)
      have hb : (a == p) = false := by rw [beq_eq_false_iff_ne]; exact hne
      rw [List.idxOf_cons, hb, cond_false, ih (by simpa using h) (fun h => hn (.inr h))]
set_option maxHeartbeats 4000000 in
theorem first_pu (l : List Pq) (p : Pq) (hl : l.length ≤ 100000) (hh : ∀ q ∈ l, ht q.1 ≤ 3000000 ∧ ht q.2 ≤ 3000000) (hp : ht p.1 ≤ 3000000 ∧ ht p.2 ≤ 3000000) : Pu Tryz.prog 96 [pps l, ag (ppx p)] (lit (.int .i64 (fstI l p))) := by
  refine Pu.intro Tryz.func96 rfl (by kernel_rfl) fun C => ?_
  repeat (refine A1 ⟨?_⟩; intros)
  rename_i b3
  refine WP.loopS (ι := Nat) (fun k => k ≤ l.length ∧ p ∉ l.take k) (fun k => l.length - k) (fun k => fm [(3, lit (.pointer (some ⟨b3, 0, none⟩))), (7, pps l), (8, lit (.int .i64 l.length)), (9, lit (.int .i64 k))]) (fun _ => [(b3, 103, ppx p)]) 0
    ⟨Nat.zero_le _, by simp⟩ (by (repeat (first | exact LeF.nil _ | refine LeF.cons (Le.refl _) ?_ | refine LeF.cons (Le.int (by omega)) ?_))) (List.Sublist.refl _) ?_
  rintro k ⟨hk, hn⟩ K hK
  by_cases hkl : k < l.length
  · have hget := List.getElem?_eq_getElem hkl
    generalize l[k] = q at hget
    have hat := flat_at (f := ppx) (n := 6) ppx_len hget
    have hne : (l.map ppx).flatten ≠ [] := flat_ne ppx_len (by omega) (fun e => by rw [e] at hkl; simp at hkl)
    have c := pequal_pu q p (hh q (List.mem_of_getElem? hget)) hp
    by_cases hqp : q = p
    · rw [decide_eq_true hqp] at c
      rw [hqp] at hget
      have hf : fstI l p = (k : Nat) := by unfold fstI; rw [if_pos (List.mem_of_getElem? hget), idxOf_of hget hn]
      rw [hf]
      clear hK hn hh
      repeat (refine A1 ⟨?_⟩; intros)
      refine Wo (ov_idxS (cs' := ppx q) rfl rfl (by omega) (by omega) hat hne) ?_
      repeat (first | (refine A1 ⟨?_⟩; intros) | (refine Wcx (c) ?_) | (refine Wdcx (c) ?_) | (refine Wcgx (c) ?_) | (refine Wdcgx (c) ?_))
      exact endR (end1 (RV.tmp rfl) (Le.refl _))
    · rw [decide_eq_false hqp] at c
      have hgo := fun F' H' => hK F' H' (k + 1) ⟨by omega, by
        rw [take_snoc hget, List.mem_append, List.mem_singleton]
        rintro (h | h)
        · exact hn h
        · exact hqp h.symm⟩ (by omega)
      clear hK hn hh
      repeat (refine A1 ⟨?_⟩; intros)
      refine Wo (ov_idxS (cs' := ppx q) rfl rfl (by omega) (by omega) hat hne) ?_
      repeat (first | (refine A1 ⟨?_⟩; intros) | (refine Wcx (c) ?_) | (refine Wdcx (c) ?_) | (refine Wcgx (c) ?_) | (refine Wdcgx (c) ?_))
      exact hgo _ _ (by (repeat (first | exact LeF.nil _ | refine LeF.cons (Le.refl _) ?_ | refine LeF.cons (Le.int (by omega)) ?_))) (by repeat (first | exact List.Sublist.refl _ | refine List.Sublist.cons _ ?_))
  · have hke : k = l.length := by omega
    subst hke
    rw [List.take_length] at hn
    have hf : fstI l p = -1 := by unfold fstI; rw [if_neg hn]
    rw [hf]
    repeat (refine A1 ⟨?_⟩; intros)
    exact endR (end1 (RV.tmp rfl) (Le.refl _))
set_option maxHeartbeats 4000000 in
theorem rgApi_pu (l : List Pq) (hl : l.length ≤ 100000) (hh : ∀ p ∈ l, ht p.1 ≤ 1000000 ∧ ht p.2 ≤ 1000000) : Pu Tryz.prog 46 [pps l] (aps l) := by
  refine Pu.intro Tryz.func46 rfl (by kernel_rfl) fun C => ?_
  repeat (refine A1 ⟨?_⟩; intros)
  refine WP.loopS (ι := RwSt) (fun y => y.k ≤ l.length ∧ Own 118 6 y.k ((l.take y.k).map apx).flatten y.s y.Hs) (fun y => l.length - y.k) (fun y => fm [(3, y.s), (6, pps l), (7, lit (.int .i64 l.length)), (8, lit (.int .i64 y.k))]) (fun y => y.Hs) ⟨0, lit (.slice none 0 0), []⟩
    ⟨Nat.zero_le _, Own.nil _ _⟩ (by (repeat (first | exact LeF.nil _ | refine LeF.cons (Le.refl _) ?_ | refine LeF.cons (Le.int (by omega)) ?_))) (List.nil_sublist _) ?_
  rintro ⟨k, s, Hs⟩ ⟨hk, hown⟩ K hK
  simp only at hk hown ⊢
  have hco := hown.co
  by_cases hkl : k < l.length
  · have hget := List.getElem?_eq_getElem hkl
    generalize l[k] = p at hget
    obtain ⟨h1, h2⟩ := hh p (List.mem_of_getElem? hget)
    have hat := flat_at (f := ppx) (n := 6) ppx_len hget
    have hne : (l.map ppx).flatten ≠ [] := flat_ne ppx_len (by omega) (fun e => by rw [e] at hkl; simp at hkl)
    have c := papi_pu p.1 p.2 h1 h2
    have hgo := fun s' Hs' h F' H' => hK F' H' ⟨k + 1, s', Hs'⟩ ⟨by simp only; omega, h⟩ (by simp only; omega)
    simp only [map_take_snoc hget] at hgo
    clear hK hh
    repeat (refine A1 ⟨?_⟩; intros)
    refine Wo (ov_idxS (cs' := ppx p) rfl rfl (by omega) (by omega) hat hne) ?_
    repeat (first | (refine A1 ⟨?_⟩; intros) | (refine Wcx (c) ?_) | (refine Wdcx (c) ?_) | (refine Wcgx (c) ?_) | (refine Wdcgx (c) ?_))
    refine Wown hown (by omega) (fun s2 H2 hown' => ?_)
    have hco2 := hown'.co
    replace hgo := hgo s2 H2 hown'
    simp only [List.cons_append, List.nil_append]
    clear hown hown'
    repeat (refine A1 ⟨?_⟩; intros)
    exact hgo _ _ (by (repeat (first | exact LeF.nil _ | refine LeF.cons (Le.refl _) ?_ | refine LeF.cons (Le.int (by omega)) ?_))) (by repeat (first | exact List.Sublist.refl _ | refine List.Sublist.cons _ ?_))
  · have hke : k = l.length := by omega
    subst hke
    rw [List.take_length] at hown
    refine WP.rowS 3 hown rfl (by rw [List.append_nil]) ?_
    clear hK hown
    repeat (refine A1 ⟨?_⟩; intros)
    exact endR (end1 (RV.tmp rfl) (Le.refl _))
def badE (l : List Pq) (i : Nat) : Bool := decide (l[i]? = l[(i + 1) % l.length]?)
theorem nrmQ_self (x : Rat) : nrmQ (RQ.of x) = true := by
  unfold nrmQ
  rw [RQ.of_v]
  exact decide_eq_true ⟨rfl, rfl, rfl⟩
theorem normalP_t (p : Pq) (h1 : ht p.1 ≤ 100000 ∧ ht p.2 ≤ 100000) : Pu Tryz.prog 93 [ag (apx p)] (lit (.bool true)) := by
  have c1 := fnormal_pu (RQ.of_ok h1.1) (by omega)
  have c2 := fnormal_pu (RQ.of_ok h1.2) (by omega)
  rw [nrmQ_self] at c1 c2
  replace c1 : Pu Tryz.prog 144 [q p.1] (lit (.bool true)) := c1
  replace c2 : Pu Tryz.prog 144 [q p.2] (lit (.bool true)) := c2
  refine Pu.intro Tryz.func93 rfl (by kernel_rfl) fun C => ?_
  repeat (first | (refine A1 ⟨?_⟩; intros) | (refine Wcx (c1) ?_) | (refine Wdcx (c1) ?_) | (refine Wcgx (c1) ?_) | (refine Wdcgx (c1) ?_) | (refine Wcx (c2) ?_) | (refine Wdcx (c2) ?_) | (refine Wcgx (c2) ?_) | (refine Wdcgx (c2) ?_))
  ((first | refine endR ?_ | refine endN ?_); exact end1 (RV.tmp rfl) (Le.refl _))
theorem ptOf_t (p : Pq) (h1 : ht p.1 ≤ 100000 ∧ ht p.2 ≤ 100000) : Pu Tryz.prog 95 [ag (apx p)] (ag (ppx p)) := by
  have c := ptOf_pu (RQ.of_ok h1.1) (RQ.of_ok h1.2) (by omega)
  rw [RQ.of_v, RQ.of_v] at c
  exact c
theorem idx_take : ∀ {l : List Pq} {p : Pq} {k : Nat}, p ∈ l.take k → l.idxOf p < k
  | [], p, k, h => by simp at h
  | a :: l, p, 0, h => by simp at h
  | a :: l, p, k + 1, h => by
    rw [List.take_succ_cons, List.mem_cons] at h
    rw [List.idxOf_cons]
    cases hb : (a == p) with
    | true => rw [cond_true]; omega
    | false =>
      rw [cond_false]
      have hne : a ≠ p := beq_eq_false_iff_ne.1 hb
      rcases h with h | h
      · exact absurd h.symm hne
      · have := idx_take h; omega
abbrev ppe (p q : Pq) : List SV := [lit (.int .i64 (r0 p.1)), lit (.int .i64 (r1 p.1)), r2 p.1, lit (.int .i64 (r0 p.2)), lit (.int .i64 (r1 p.2)), r2 p.2, lit (.int .i64 (r0 q.1)), lit (.int .i64 (r1 q.1)), r2 q.1, lit (.int .i64 (r0 q.2)), lit (.int .i64 (r1 q.2)), r2 q.2]
def cnt3 (l : List Pq) (k : Nat) : Nat := min 3 (dst (l.take k)).length
theorem cnt3_in {l : List Pq} {k : Nat} {p : Pq} (h : l[k]? = some p) (hp : p ∈ l.take k) : cnt3 l (k + 1) = cnt3 l k := by
  unfold cnt3
  rw [take_snoc h, dst_snoc, if_pos (((dst_spec _).2 p).2 hp)]
theorem cnt3_out {l : List Pq} {k : Nat} {p : Pq} (h : l[k]? = some p) (hp : p ∉ l.take k) (hc : cnt3 l k < 3) : cnt3 l (k + 1) = cnt3 l k + 1 := by
  unfold cnt3 at *
  rw [take_snoc h, dst_snoc, if_neg (fun e => hp (((dst_spec _).2 p).1 e)), List.length_append, List.length_singleton]
  omega
theorem cnt3_full {l : List Pq} {k : Nat} {p : Pq} (h : l[k]? = some p) (hc : ¬ cnt3 l k < 3) : cnt3 l (k + 1) = cnt3 l k := by
  unfold cnt3 at *
  rw [take_snoc h, dst_snoc]
  split
  · rfl
  · rw [List.length_append, List.length_singleton]; omega
set_option maxHeartbeats 4000000 in
theorem ringOf_ok (l : List Pq) (hl : l.length ≤ 4096) (hh : ∀ p ∈ l, ht p.1 ≤ 100000 ∧ ht p.2 ≤ 100000) (h3 : 3 ≤ (srt l).length) (he : ∀ i, i < l.length → badE l i = false) : Pu Tryz.prog 44 [aps l] (Ab.tup [pps l, lit .nilIface]) := by
  refine PuH.toPu ?_
  refine PuH.introE Tryz.func44 rfl (by kernel_rfl) fun C hpan hdf => ?_
  have E0 := @efin0 _ Tryz.prog C 86 Tryz.f44 (fun r _ => r = Ab.tup [pps l, lit .nilIface]) hpan hdf
  have E := fun e a w (_ : e ≠ Exit.normal) h => E0 e a w h
  refine WPE.seq (Q := endH Tryz.prog _ _) ?_ E
  repeat (refine A1 ⟨?_⟩; intros)
  refine WPE.seq (Q := endH Tryz.prog _ _) ?_ E
  repeat (refine A1 ⟨?_⟩; intros)
  refine WPE.seq (Q := endH Tryz.prog _ _) ?_ E
  repeat (refine A1 ⟨?_⟩; intros)
  rename_i b2 b3
  refine WPE.seq (Q := endH Tryz.prog _ _) ?_ E
  repeat (refine A1 ⟨?_⟩; intros)
  refine WP.loopS (ι := RwSt) (fun y => y.k ≤ l.length ∧ Own 103 6 y.k ((l.take y.k).map ppx).flatten y.s y.Hs) (fun y => l.length - y.k) (fun y => fm [(2, lit (.pointer (some ⟨b2, 0, none⟩))), (3, lit (.pointer (some ⟨b3, 0, none⟩))), (4, y.s), (19, aps l), (20, lit (.int .i64 l.length)), (21, lit (.int .i64 y.k))])
    (fun y => (b3, 52, [lit .nilIface]) :: (b2, 112, [lit (.slice none 0 0)]) :: y.Hs) ⟨0, lit (.slice none 0 0), []⟩ ⟨Nat.zero_le _, Own.nil _ _⟩ (by (repeat (first | exact LeF.nil _ | refine LeF.cons (Le.refl _) ?_ | refine LeF.cons (Le.int (by omega)) ?_))) (List.Sublist.refl _) ?_
  rintro ⟨k, s, Hs⟩ ⟨hk, hown⟩ K hK
  simp only at hk hown ⊢
  have hco := hown.co
  by_cases hkl : k < l.length
  · have hget := List.getElem?_eq_getElem hkl
    generalize l[k] = p at hget
    have hhp := hh p (List.mem_of_getElem? hget)
    have hat := flat_at (f := apx) (n := 6) apx_len hget
    have hne : (l.map apx).flatten ≠ [] := flat_ne apx_len (by omega) (fun e => by rw [e] at hkl; simp at hkl)
    have c1 := normalP_t p hhp
    have c2 := ptOf_t p hhp
    have hgo := fun s' Hs' h F' H' => hK F' H' ⟨k + 1, s', Hs'⟩ ⟨by simp only; omega, h⟩ (by simp only; omega)
    simp only [map_take_snoc hget] at hgo
    clear hK hh E
    repeat (refine A1 ⟨?_⟩; intros)
    refine Wo (ov_idxS (cs' := apx p) rfl rfl (by omega) (by omega) hat hne) ?_
    repeat (first | (refine A1 ⟨?_⟩; intros) | (refine Wcx (c1) ?_) | (refine Wdcx (c1) ?_) | (refine Wcgx (c1) ?_) | (refine Wdcgx (c1) ?_) | (refine Wcx (c2) ?_) | (refine Wdcx (c2) ?_) | (refine Wcgx (c2) ?_) | (refine Wdcgx (c2) ?_))
    refine Wown hown (by omega) (fun s2 H2 hown' => ?_)
    have hco2 := hown'.co
    replace hgo := hgo s2 H2 hown'
    simp only [List.cons_append, List.nil_append]
    clear hown hown'
    repeat (refine A1 ⟨?_⟩; intros)
    exact hgo _ _ (by (repeat (first | exact LeF.nil _ | refine LeF.cons (Le.refl _) ?_ | refine LeF.cons (Le.int (by omega)) ?_))) (by repeat (first | exact List.Sublist.refl _ | refine List.Sublist.cons _ ?_))
  have hke : k = l.length := by omega
  subst hke
  rw [List.take_length] at hown
  clear hK hkl hk
  refine WP.rowS 4 hown rfl (show ([(b3, 52, [lit .nilIface]), (b2, 112, [lit (.slice none 0 0)])] ++ Hs).Perm _ from List.perm_append_comm) ?_
  clear hown hco
  repeat (refine A1 ⟨?_⟩; intros)
  refine WPE.seq (Q := endH Tryz.prog _ _) ?_ E
  repeat (refine A1 ⟨?_⟩; intros)
  refine WPE.seq (Q := endH Tryz.prog _ _) ?_ E
  repeat (refine A1 ⟨?_⟩; intros)
  refine WP.loopS (ι := Nat) (fun k => k ≤ l.length) (fun k => l.length - k) (fun k => fm [(2, lit (.pointer (some ⟨b2, 0, none⟩))), (3, lit (.pointer (some ⟨b3, 0, none⟩))), (4, pps l), (7, lit (.int .i64 (cnt3 l k : Nat))), (43, pps l), (44, lit (.int .i64 l.length)), (45, lit (.int .i64 k))])
    (fun _ => [(b3, 52, [lit .nilIface]), (b2, 112, [lit (.slice none 0 0)])]) 0 (Nat.zero_le _) (by (repeat (first | exact LeF.nil _ | refine LeF.cons (Le.refl _) ?_ | refine LeF.cons (Le.int (by omega)) ?_))) (List.Sublist.refl _) ?_
  rintro k hk K hK
  by_cases hkl : k < l.length
  · have hget := List.getElem?_eq_getElem hkl
    generalize l[k] = p at hget
    have hhp := hh p (List.mem_of_getElem? hget)
    have hat := flat_at (f := ppx) (n := 6) ppx_len hget
    have hne : (l.map ppx).flatten ≠ [] := flat_ne ppx_len (by omega) (fun e => by rw [e] at hkl; simp at hkl)
    have c1 := first_pu l p (by omega) (fun q hq => by have := hh q hq; omega) (by omega)
    have hgo := fun F' H' => hK F' H' (k + 1) (by omega) (by omega)
    have hc3 : cnt3 l k ≤ 3 := by unfold cnt3; omega
    clear hK hh E
    by_cases hd : cnt3 l k < 3
    · by_cases hp : p ∈ l.take k
      · rw [cnt3_in hget hp] at hgo
        have hf : fstI l p ≠ (k : Nat) := by
          unfold fstI
          have := idx_take hp
          split <;> omega
        generalize fstI l p = z at c1 hf
        generalize cnt3 l k = d at *
        clear hp hget
        repeat (refine A1 ⟨?_⟩; intros)
        refine Wo (ov_idxS (cs' := ppx p) rfl rfl (by omega) (by omega) hat hne) ?_
        repeat (first | (refine A1 ⟨?_⟩; intros) | (refine Wcx (c1) ?_) | (refine Wdcx (c1) ?_) | (refine Wcgx (c1) ?_) | (refine Wdcgx (c1) ?_))
        exact hgo _ _ (by (repeat (first | exact LeF.nil _ | refine LeF.cons (Le.refl _) ?_ | refine LeF.cons (Le.int (by omega)) ?_))) (by repeat (first | exact List.Sublist.refl _ | refine List.Sublist.cons _ ?_))
      · rw [cnt3_out hget hp hd] at hgo
        have hf : fstI l p = (k : Nat) := by
          unfold fstI
          rw [if_pos (List.mem_of_getElem? hget), idxOf_of hget hp]
        rw [hf] at c1
        generalize cnt3 l k = d at *
        clear hp hget hf
        repeat (refine A1 ⟨?_⟩; intros)
        refine Wo (ov_idxS (cs' := ppx p) rfl rfl (by omega) (by omega) hat hne) ?_
        repeat (first | (refine A1 ⟨?_⟩; intros) | (refine Wcx (c1) ?_) | (refine Wdcx (c1) ?_) | (refine Wcgx (c1) ?_) | (refine Wdcgx (c1) ?_))
        exact hgo _ _ (by (repeat (first | exact LeF.nil _ | refine LeF.cons (Le.refl _) ?_ | refine LeF.cons (Le.int (by omega)) ?_))) (by repeat (first | exact List.Sublist.refl _ | refine List.Sublist.cons _ ?_))
    · rw [cnt3_full hget hd] at hgo
      generalize cnt3 l k = d at *
      clear hget
      repeat (refine A1 ⟨?_⟩; intros)
      refine Wo (ov_idxS (cs' := ppx p) rfl rfl (by omega) (by omega) hat hne) ?_
      repeat (first | (refine A1 ⟨?_⟩; intros) | (refine Wcx (c1) ?_) | (refine Wdcx (c1) ?_) | (refine Wcgx (c1) ?_) | (refine Wdcgx (c1) ?_))
      exact hgo _ _ (by (repeat (first | exact LeF.nil _ | refine LeF.cons (Le.refl _) ?_ | refine LeF.cons (Le.int (by omega)) ?_))) (by repeat (first | exact List.Sublist.refl _ | refine List.Sublist.cons _ ?_))
  have hke : k = l.length := by omega
  subst hke
  have hcl : cnt3 l l.length = 3 := by
    unfold cnt3
    rw [List.take_length, dst_srt]
    omega
  rw [hcl]
  clear hK hkl hk
  repeat (refine A1 ⟨?_⟩; intros)
  refine WPE.seq (Q := endH Tryz.prog _ _) ?_ E
  repeat (refine A1 ⟨?_⟩; intros)
  refine WPE.ahead ?_
  refine WPE.seq (Q := endH Tryz.prog Tryz.f44.results (fun r _ => r = Ab.tup [pps l, lit .nilIface])) ?_ (fun e a w hne h => by cases e <;> first | exact absurd rfl hne | exact E _ a w hne h)
  repeat (first | (refine A1 ⟨?_⟩; intros) | (refine Wcx (edges_pu l) ?_) | (refine Wdcx (edges_pu l) ?_) | (refine Wcgx (edges_pu l) ?_) | (refine Wdcgx (edges_pu l) ?_))
  refine WPE.range (g := .tmp 69) (ps := [70, 71]) (Rs := [(b3, 52, [lit .nilIface]), (b2, 112, [lit (.slice none 0 0)])]) (G := []) (Gx := fun _ => False) (T := fun _ => True) rfl (edges1_ok l (by omega)) (by rw [List.append_nil]) (fun _ _ => rfl) (by decide) ?_ ?_ (fun _ _ _ _ _ _ h => h.elim)
  · intro i y C1 hi _ _ hpan1
    have hml : (i + 1) % l.length < l.length := Nat.mod_lt _ (by omega)
    have hget := getD_at hi
    have hget2 := getD_at hml
    have hb := he i hi
    unfold badE at hb
    rw [hget, hget2] at hb
    have hpq := of_decide_eq_false hb
    simp only [edgS]
    generalize l.getD i (0, 0) = p at *
    generalize l.getD ((i + 1) % l.length) (0, 0) = q at *
    have h1 := hh p (List.mem_of_getElem? hget)
    have h2 := hh q (List.mem_of_getElem? hget2)
    have c := pequal_pu p q (by omega) (by omega)
    rw [decide_eq_false (fun e => hpq (by rw [e]))] at c
    refine WPX.le (F' := fm [(70, lit (.int .i64 (i : Nat))), (71, ag (ppe p q))]) (by (repeat (first | exact LeF.nil _ | refine LeF.cons (Le.refl _) ?_ | refine LeF.cons (Le.int (by omega)) ?_))) ?_
    refine WPX.seq (WPX.reg ?_)
    repeat (refine A1 ⟨?_⟩; intros)
    refine WPX.reg ?_
    repeat (refine A1 ⟨?_⟩; intros)
    refine onlyN.i ?_
    rename_i b11
    intro C2 _ _ hpan2
    refine WPX.block (WPX.seq (WPX.reg ?_))
    refine Wo (ov_idxA (len := 2) (k := 6) (i := 0) Tryz.underlying176 rfl rfl (by decide) (by decide)) ?_
    repeat (refine A1 ⟨?_⟩; intros)
    refine Wo (ov_idxA (len := 2) (k := 6) (i := 1) Tryz.underlying176 rfl rfl (by decide) (by decide)) ?_
    repeat (first | (refine A1 ⟨?_⟩; intros) | (refine Wcx (c) ?_) | (refine Wdcx (c) ?_) | (refine Wcgx (c) ?_) | (refine Wdcgx (c) ?_))
    refine WPX.condF rfl (WPX.skip ?_)
    exact blkN ⟨List.nil_sublist _, trivial⟩
  · intro C1 D a w _ hrb hst
    have E1 := @efin1 _ Tryz.prog C 86 Tryz.f44 C1 D (fun r _ => r = Ab.tup [pps l, lit .nilIface]) hpan hdf hrb
    suffices h : WPE Tryz.prog C1 86 _ _ (fm [(2, lit (.pointer (some ⟨b2, 0, none⟩))), (3, lit (.pointer (some ⟨b3, 0, none⟩))), (4, pps l)]) [(b3, 52, [lit .nilIface]), (b2, 112, [lit (.slice none 0 0)])] from h a w ((hst.le (by (repeat (first | exact LeF.nil _ | refine LeF.cons (Le.refl _) ?_ | refine LeF.cons (Le.int (by omega)) ?_)))).sub (by rw [List.append_nil]; exact List.Sublist.refl _))
    refine WPE.fin (Q := endH Tryz.prog Tryz.f44.results (fun r _ => r = Ab.tup [pps l, lit .nilIface])) ?_ E1
    repeat (refine A1 ⟨?_⟩; intros)
    exact endHR _ _ (end2 (RV.cell1 (b := b2) rfl (by repeat (first | exact List.mem_cons_self | apply List.mem_cons_of_mem)) rfl) (RV.cell1 (b := b3) rfl (by repeat (first | exact List.mem_cons_self | apply List.mem_cons_of_mem)) rfl) (Le.refl _)) (List.nil_sublist _) rfl
end Go.Ab
