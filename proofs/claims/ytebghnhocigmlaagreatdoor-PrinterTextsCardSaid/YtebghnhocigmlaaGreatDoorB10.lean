/- Texts laid one behind the other: RefF, Txt, FmtN, FracE, RefH, Geo, Ref1, Ref4, Tape, Scene1, Law26A, TxtB, Err, AffB, LnM, LnA, LnB, Nrm, Fmt, Wrt, Node, List, Deep, Arr. -/
import Derived.Test.YtebghnhocigmlaaGreatDoorB08
import Derived.Test.YtebghnhocigmlaaGreatDoorFracD
import Derived.Test.YtebghnhocigmlaaGreatDoorB03
import Derived.Test.YtebghnhocigmlaaGreatDoorRefL
import Derived.Laws.IdiomStrings
import Derived.Test.YtebghnhocigmlaaGreatDoorB04
import Derived.Laws.Externs
set_option linter.unusedSectionVars false
set_option linter.unusedVariables false
set_option linter.unusedSimpArgs false
namespace Go.Ab
open Go.Proofs
variable [Base]
def decR (n : Nat) : List UInt8 := if h : n = 0 then [] else UInt8.ofNat (48 + n % 10) :: decR (n / 10)
termination_by n
decreasing_by omega
theorem decR_zero : decR 0 = [] := by rw [decR]; rfl
theorem decR_pos {n : Nat} (h : n ≠ 0) : decR n = UInt8.ofNat (48 + n % 10) :: decR (n / 10) := by
  conv => lhs; rw [decR]
  rw [dif_neg h]
def dec (n : Nat) : List UInt8 := if n = 0 then [48] else (decR n).reverse
section
variable {P : Program} {F : Fr} {H : LH} {ty : TypeId}
theorem ov_bytesStr {S D : TypeId} [hS : TSl P S 5] [hD : TSr P D] {x : Operand} {b c : Nat} {l : List UInt8} {rest : List SV} (hu : P.underlying 5 = some (.int .u8)) {cs : List SV} (hx : ev F x = lit (.slice (some ⟨b, 0, none⟩) l.length c)) (hm : (b, 5, cs) ∈ H) (hle : LeL cs (bys l ++ rest)) : OpV P (.convert S D x) ty F H (str l) :=
  OpV.pure fun m w o a hop _ _ hH h => by
    have h0 := h x (by simp [Op.operands]); rw [hx, lit_p] at h0
    obtain ⟨_, arr, hb, hall0⟩ := hH.2 _ hm
    have hall := All2.le hle hall0
    have hcell : ∀ j y, l[j]? = some y → w.cell? ((⟨b, 0, none⟩ : Addr).add j) = some (.int .u8 y.toNat) := fun j y hj => by
      rw [add_none, cell_of w b _ arr _ _ hb]
      have hjl : j < l.length := (List.getElem?_eq_some_iff.1 hj).1
      have hg : (bys l ++ rest)[j]? = some (lit (.int .u8 (y.toNat : Nat))) := by
        rw [List.getElem?_append_left (by rw [bys_len]; exact hjl)]
        simp [bys, hj]
      obtain ⟨v, hv, hp, _⟩ := hall.get hg
      rw [lit_p] at hp
      subst hp
      simpa using hv
    have := run_convert_bytes_back (P := P) w S D 5 ⟨b, 0, none⟩ c l hS.h hu hD.h fun j hj => hcell j l[j] (List.getElem?_eq_getElem hj)
    exact ⟨_, by simp [execOp, hop, h0, this], lit_p.2 rfl⟩
end
theorem decR_lt : ∀ (k n : Nat), n < 10 ^ k → (decR n).length ≤ k
  | 0, n, h => by
    have : n = 0 := by simpa using h
    subst this; rw [decR_zero]; simp
  | k + 1, n, h => by
    by_cases hn : n = 0
    · subst hn; rw [decR_zero]; simp
    · rw [decR_pos hn, List.length_cons]
      have := decR_lt k (n / 10) (by rw [Nat.pow_succ] at h; omega)
      omega
theorem decR_len {n L : Nat} (h : (dgs n).length ≤ L) : (decR n).length ≤ 10 * L := by
  apply decR_lt
  have h1 := lt_pow n
  have h2 : 4294967296 ^ (dgs n).length ≤ (10 ^ 10) ^ L := Nat.le_trans (Nat.pow_le_pow_right (by omega) h) (Nat.pow_le_pow_left (by omega) L)
  rw [← Nat.pow_mul] at h2
  omega
theorem mulPow (q m : Nat) : q * 10 ^ (m + 1) = 10 * (q * 10 ^ m) := by rw [Nat.pow_succ, ← Nat.mul_assoc, Nat.mul_comm]
theorem decR_q {q r m : Nat} (h0 : ¬(q = 0 ∧ r = 0)) : decR (q * 10 ^ (m + 1) + r) = UInt8.ofNat (48 + r % 10) :: decR (q * 10 ^ m + r / 10) := by
  have hp : 0 < 10 ^ m := Nat.pow_pos (by omega)
  have e := mulPow q m
  generalize hz : q * 10 ^ m = z at *
  have hne : q * 10 ^ (m + 1) + r ≠ 0 := by
    rw [e]
    intro h
    have hz0 : z = 0 := by omega
    rw [← hz] at hz0
    rcases Nat.mul_eq_zero.1 hz0 with h1 | h1
    · exact h0 ⟨h1, by omega⟩
    · omega
  rw [decR_pos hne, e]
  congr 2
  · omega
  · omega
theorem Own.bytes {l : List UInt8} {s : SV} {H : LH} (hl : l.length ≠ 0) (h : Own 5 1 l.length (bys l) s H) : ∃ b c rest, s = lit (.slice (some ⟨b, 0, none⟩) l.length c) ∧ H = [(b, 5, bys l ++ rest)] := by
  obtain ⟨_, ⟨e, _, _⟩ | ⟨b, c, _, _, rfl, rfl⟩⟩ := h
  · exact absurd e hl
  · exact ⟨b, c, _, rfl, rfl⟩
theorem byte_dec (r : Nat) : [lit (.int .u8 (48 + ((r % 10 : Nat) : Int)))] = bys [UInt8.ofNat (48 + r % 10)] := by
  have e2 : (UInt8.ofNat (48 + r % 10)).toNat = 48 + r % 10 := by rw [UInt8.toNat_ofNat']; omega
  show _ = [lit (.int .u8 (((UInt8.ofNat (48 + r % 10)).toNat : Nat) : Int))]
  rw [e2]
  rfl
set_option maxHeartbeats 1000000 in
theorem formatN_pu (n : Nat) {L : Nat} (hn : (dgs n).length ≤ L) (hL : L ≤ 100000) : Pu Tryz.prog 270 [nat n] (str (dec n)) := by
  have c0 := trim_nat (dgs n) (by omega) (D_dgs n)
  rw [val_dgs] at c0
  have hdl := decR_len hn
  refine Pu.intro Tryz.func270 rfl (by kernel_rfl) fun C => ?_
  repeat (first | (refine A1 ⟨?_⟩; intros) | (refine Wcx (c0) ?_) | (refine Wdcx (c0) ?_) | (refine Wcgx (c0) ?_) | (refine Wdcgx (c0) ?_))
  refine WP.loopS (ι := Nat × List UInt8 × SV × LH) (fun x => x.2.1 ++ decR x.1 = decR n ∧ Own 5 1 x.2.1.length (bys x.2.1) x.2.2.1 x.2.2.2 ∧ (dgs x.1).length ≤ L) (fun x => x.1) (fun x => fm [(0, nat x.1), (3, x.2.2.1)]) (fun x => x.2.2.2) (n, [], lit (.slice none 0 0), [])
    ⟨by rw [List.nil_append], Own.nil _ _, hn⟩ (by (repeat (first | exact LeF.nil _ | refine LeF.cons (Le.refl _) ?_ | refine LeF.cons (Le.int (by omega)) ?_))) (List.nil_sublist _) ?_
  rintro ⟨x, acc, s, Hs⟩ ⟨hx, hown, hxL⟩ K hK
  simp only at hx hown hxL ⊢
  haveI := hown.co
  by_cases hx0 : x = 0
  · subst hx0
    have e : (dgs 0).length = 0 := by rw [dgs_zero]; rfl
    rw [decR_zero, List.append_nil] at hx
    subst hx
    clear hK
    have ed : (decR n).length = 0 ↔ n = 0 := by
      constructor
      · intro h
        by_cases h0 : n = 0
        · exact h0
        · rw [decR_pos h0] at h; cases h
      · rintro rfl; rw [decR_zero]; rfl
    by_cases h0 : n = 0
    · have e2 := ed.2 h0
      unfold dec
      rw [if_pos h0]
      clear ed
      repeat (refine A1 ⟨?_⟩; intros)
      refine Wo (ov_lenOwn hown rfl) ?_
      repeat (refine A1 ⟨?_⟩; intros)
      ((first | refine endR ?_ | refine endN ?_); exact end1 (RV.tmp rfl) (Le.refl _))
    · have e2 : (decR n).length ≠ 0 := fun h => h0 (ed.1 h)
      unfold dec
      rw [if_neg h0]
      obtain ⟨b, c, rest, rfl, rfl⟩ := hown.bytes e2
      clear ed
      generalize hl : decR n = l at *
      repeat (refine A1 ⟨?_⟩; intros)
      refine WfH (reverse_pu b c l rest (by omega)) ?_
      rintro _ _ ⟨rfl, rfl⟩
      simp only [List.cons_append, List.nil_append]
      repeat (refine A1 ⟨?_⟩; intros)
      refine Wo (ov_bytesStr (l := l.reverse) (rest := rest) (c := c) (by kernel_rfl) (by rw [List.length_reverse]; rfl) (by repeat (first | exact List.mem_cons_self | apply List.mem_cons_of_mem)) (LeL.refl _)) ?_
      repeat (refine A1 ⟨?_⟩; intros)
      ((first | refine endR ?_ | refine endN ?_); exact end1 (RV.tmp rfl) (Le.refl _))
  · have e := dgs_ne_nil hx0
    repeat (refine A1 ⟨?_⟩; intros)
    have c1 := short_nat (dgs x) 1000000000 (by omega) (D_dgs x) (by omega) (by omega)
    rw [val_dgs] at c1
    have hq : (dgs (x / 1000000000)).length ≤ L := Nat.le_trans (len_mono (Nat.div_le_self _ _)) hxL
    have hfin : ∀ F' H' acc' s' Hs', acc' ++ decR (x / 1000000000) = decR n → Own 5 1 acc'.length (bys acc') s' Hs' → LeF F' (fm [(0, nat (x / 1000000000)), (3, s')]) → Hs'.Sublist H' → K F' H' := fun F' H' acc' s' Hs' g1 g2 h1 h2 => hK F' H' (x / 1000000000, acc', s', Hs') ⟨g1, g2, hq⟩ (by simp only; omega) h1 h2
    clear hK
    have hz : acc ++ decR (x / 1000000000 * 10 ^ (9 - 0) + x % 1000000000) = decR n := by
      rw [← hx]; congr 2; omega
    have hr : x % 1000000000 < 10 ^ (9 - 0) := by
      show _ < 1000000000; omega
    generalize x % 1000000000 = r at *
    generalize x / 1000000000 = q at *
    repeat (first | (refine A1 ⟨?_⟩; intros) | (refine Wcx (c1) ?_) | (refine Wdcx (c1) ?_) | (refine Wcgx (c1) ?_) | (refine Wdcgx (c1) ?_))
    refine WP.loopS (ι := Nat × Nat × List UInt8 × SV × LH) (fun y => y.1 ≤ 9 ∧ y.2.1 < 10 ^ (9 - y.1) ∧ y.2.2.1 ++ decR (q * 10 ^ (9 - y.1) + y.2.1) = decR n ∧ Own 5 1 y.2.2.1.length (bys y.2.2.1) y.2.2.2.1 y.2.2.2.2) (fun y => 9 - y.1)
      (fun y => fm [(0, nat q), (3, y.2.2.2.1), (4, lit (.int .u32 y.2.1)), (15, lit (.int .i64 y.1))]) (fun y => y.2.2.2.2) (0, r, acc, s, Hs) ⟨by omega, hr, hz, hown⟩ (by (repeat (first | exact LeF.nil _ | refine LeF.cons (Le.refl _) ?_ | refine LeF.cons (Le.int (by omega)) ?_))) (List.Sublist.refl _) ?_
    clear hr hz hown this hx c1
    rintro ⟨k, r, acc, s, Hs⟩ ⟨hk, hr, hz, hown⟩ K2 hK2
    simp only at hk hr hz hown ⊢
    haveI := hown.co
    by_cases hk9 : k = 9
    · subst hk9
      have : r = 0 := by simpa using hr
      subst this
      rw [show q * 10 ^ (9 - 9) + 0 = q from by simp] at hz
      clear hK2 hr
      repeat (refine A1 ⟨?_⟩; intros)
      exact hfin _ _ acc s Hs hz hown (by (repeat (first | exact LeF.nil _ | refine LeF.cons (Le.refl _) ?_ | refine LeF.cons (Le.int (by omega)) ?_))) (List.Sublist.refl _)
    · obtain ⟨m, hm⟩ : ∃ m, 9 - k = m + 1 := ⟨8 - k, by omega⟩
      have hm' : 9 - (k + 1) = m := by omega
      rw [hm] at hr hz
      have hrb : r < 1000000000 := Nat.lt_of_lt_of_le hr (show 10 ^ (m + 1) ≤ 10 ^ 9 from Nat.pow_le_pow_right (by omega) (by omega))
      have hal : acc.length ≤ 10 * L := by
        have h2 := congrArg List.length hz
        simp only [List.length_append] at h2
        omega
      by_cases hqr : q = 0 ∧ r = 0
      · obtain ⟨rfl, rfl⟩ := hqr
        have e : (dgs 0).length = 0 := by rw [dgs_zero]; rfl
        rw [Nat.zero_mul] at hz
        clear hK2 hr
        repeat (refine A1 ⟨?_⟩; intros)
        exact hfin _ _ acc s Hs hz hown (by (repeat (first | exact LeF.nil _ | refine LeF.cons (Le.refl _) ?_ | refine LeF.cons (Le.int (by omega)) ?_))) (List.Sublist.refl _)
      · rw [decR_q hqr] at hz
        have hr1 : r / 10 < 10 ^ m := by
          rw [Nat.pow_succ] at hr; omega
        have hz1 : (acc ++ [UInt8.ofNat (48 + r % 10)]) ++ decR (q * 10 ^ m + r / 10) = decR n := by rw [← hz]; simp
        have hfin2 : ∀ F' H' s' Hs', Own 5 1 (acc.length + 1) (bys acc ++ bys [UInt8.ofNat (48 + r % 10)]) s' Hs' → LeF F' (fm [(0, nat q), (3, s'), (4, lit (.int .u32 (r / 10 : Nat))), (15, lit (.int .i64 (k + 1 : Nat)))]) → Hs'.Sublist H' → K2 F' H' := fun F' H' s' Hs' g h1 h2 => hK2 F' H' (k + 1, r / 10, acc ++ [UInt8.ofNat (48 + r % 10)], s', Hs') ⟨by simp only; omega, by simp only; rw [hm']; exact hr1, by simp only; rw [hm']; exact hz1, by simp only; rw [List.length_append, bys_append]; exact g⟩ (by simp only; omega) h1 h2
        clear hK2 hz hz1 hr hfin
        by_cases hq0 : q = 0
        · have hr0 : r ≠ 0 := fun h => hqr ⟨hq0, h⟩
          subst hq0
          have e : (dgs 0).length = 0 := by rw [dgs_zero]; rfl
          clear hqr
          repeat (refine A1 ⟨?_⟩; intros)
          refine Wown hown (by omega) (fun s1 H1 o1 => ?_)
          rw [byte_dec r] at o1
          haveI := o1.co
          have ht : (r : Int).tdiv 10 = ((r / 10 : Nat) : Int) := (Int.ofNat_tdiv r 10).symm
          repeat (refine A1 ⟨?_⟩; intros)
          exact hfin2 _ _ s1 H1 o1 (by (repeat (first | exact LeF.nil _ | refine LeF.cons (Le.refl _) ?_ | refine LeF.cons (Le.int (by omega)) ?_))) (List.sublist_cons_self _ _)
        · have e := dgs_ne_nil hq0
          clear hqr
          repeat (refine A1 ⟨?_⟩; intros)
          refine Wown hown (by omega) (fun s1 H1 o1 => ?_)
          rw [byte_dec r] at o1
          haveI := o1.co
          have ht : (r : Int).tdiv 10 = ((r / 10 : Nat) : Int) := (Int.ofNat_tdiv r 10).symm
          repeat (refine A1 ⟨?_⟩; intros)
          exact hfin2 _ _ s1 H1 o1 (by (repeat (first | exact LeF.nil _ | refine LeF.cons (Le.refl _) ?_ | refine LeF.cons (Le.int (by omega)) ?_))) (List.sublist_cons_self _ _)
abbrev pp (x y : Rat) : SV := ag [lit (.int .i64 (r0 x)), lit (.int .i64 (r1 x)), r2 x, lit (.int .i64 (r0 y)), lit (.int .i64 (r1 y)), r2 y]
structure RQ where
  s : Bool
  n : List Nat
  d : List Nat
def RQ.v (r : RQ) : Rat := mkRat (sv r.s (val r.n)) (val r.d)
def RQ.ok (L : Nat) (r : RQ) : Prop := D r.n ∧ D r.d ∧ r.n.length ≤ L ∧ r.d.length ≤ L
abbrev qr (r : RQ) : SV := qraw r.s r.n r.d
abbrev pr (a b : RQ) : SV := ag [lit (.bool a.s), dg a.n, dg a.d, lit (.bool b.s), dg b.n, dg b.d]
abbrev pq (x y : Rat) : SV := ag [lit (.bool (decide (x.num < 0))), nat x.num.natAbs, nat x.den, lit (.bool (decide (y.num < 0))), nat y.num.natAbs, nat y.den]
def RQ.of (x : Rat) : RQ := ⟨decide (x.num < 0), dgs x.num.natAbs, dgs x.den⟩
theorem RQ.of_v (x : Rat) : (RQ.of x).v = x := by
  unfold RQ.v RQ.of; simp only [val_dgs, sv_int]; exact Rat.mkRat_self x
theorem RQ.of_ok {x : Rat} {L : Nat} (h : ht x ≤ L) : (RQ.of x).ok L :=
  ⟨D_dgs _, D_dgs _, Nat.le_trans (ht_num x) h, Nat.le_trans (ht_den x) h⟩
theorem il_sv {s : Bool} {xs : List Nat} (h : D xs) : il (sv s (val xs)) ≤ xs.length := by unfold il; rw [sv_abs]; exact dlen_val h
theorem ht_v {r : RQ} {L : Nat} (h : r.ok L) : ht r.v ≤ L + 1 := by
  obtain ⟨h1, h2, h3, h4⟩ := h
  have := ht_mk (sv r.s (val r.n)) (val r.d)
  have a1 := il_sv (s := r.s) h1
  have a2 := dlen_val h2
  unfold RQ.v; omega
theorem of_pu {r : RQ} {L : Nat} (h : r.ok L) (hL : L ≤ 1000000) : Pu Tryz.prog 271 [qr r] (fr r.v) :=
  of_raw r.s r.n r.d (by have := h.2.2.1; omega) (by have := h.2.2.2; omega) h.1 h.2.1
structure M6 (α : Type) where
  a : α
  b : α
  c : α
  d : α
  e : α
  f : α
structure M6.ok (L : Nat) (m : M6 RQ) : Prop where
  a : m.a.ok L
  b : m.b.ok L
  c : m.c.ok L
  d : m.d.ok L
  e : m.e.ok L
  f : m.f.ok L
structure M6.le (L : Nat) (m : M6 Rat) : Prop where
  a : ht m.a ≤ L
  b : ht m.b ≤ L
  c : ht m.c ≤ L
  d : ht m.d ≤ L
  e : ht m.e ≤ L
  f : ht m.f ≤ L
def M6.v (m : M6 RQ) : M6 Rat := ⟨m.a.v, m.b.v, m.c.v, m.d.v, m.e.v, m.f.v⟩
section
variable {P : Program} {F : Fr} {H : LH}
variable {C : Ctx} {n : Nat} {ops : Array Oper} {K : Fr → LH → Prop} {rest : List Oper} {ty : TypeId} {pos : String} {aft : Array Edge}
theorem endMR {rs : Array ResultVar} {α : Type} {b : Nat} {T : TypeId} {cs' : α → List SV} {res : α → SV} (x : α) (cs : List SV) (h : Ends P rs.toList (res x) F H) (hm : (b, T, cs) ∈ H) (hl : LeL cs (cs' x)) : endM P rs b T cs' res .ret F H := ⟨x, h, cs, hm, hl⟩
end
def RQ.short (n : Nat) (r : RQ) : Prop := r.n.length ≤ n ∧ r.d.length ≤ n
instance (n : Nat) (r : RQ) : Decidable (r.short n) := by unfold RQ.short; infer_instance
def M6.of (m : M6 Rat) : M6 RQ := ⟨RQ.of m.a, RQ.of m.b, RQ.of m.c, RQ.of m.d, RQ.of m.e, RQ.of m.f⟩
theorem M6.of_v (m : M6 Rat) : m.of.v = m := by
  unfold M6.of M6.v
  simp only [RQ.of_v]
theorem M6.of_ok {m : M6 Rat} {L : Nat} (h : m.le L) : m.of.ok L := ⟨RQ.of_ok h.a, RQ.of_ok h.b, RQ.of_ok h.c, RQ.of_ok h.d, RQ.of_ok h.e, RQ.of_ok h.f⟩
def fmt (x : Rat) : List UInt8 := (if x.num < 0 then [45] ++ dec x.num.natAbs else dec x.num.natAbs) ++ (if x.den = 1 then [] else [47] ++ dec x.den)
theorem dec_len {n L : Nat} (h : (dgs n).length ≤ L) : (dec n).length ≤ 10 * L + 1 := by
  unfold dec
  split
  · simp
  · rw [List.length_reverse]; have := decR_len h; omega
theorem fmt_len {x : Rat} {L : Nat} (hx : ht x ≤ L) : (fmt x).length ≤ 20 * L + 4 ∧ 1 ≤ (fmt x).length := by
  have n1 := ht_num x
  have n2 := ht_den x
  have l1 := dec_len (n := x.num.natAbs) (L := L) (show il x.num ≤ L by omega)
  have l2 := dec_len (n := x.den) (L := L) (by omega)
  have p : ∀ n, 1 ≤ (dec n).length := fun n => by
    unfold dec
    split
    · simp
    · rename_i h; rw [decR_pos h]; simp
  have p1 := p x.num.natAbs
  unfold fmt
  split <;> split <;> simp <;> omega
def addrIn : Option Value → Addr
  | some (.iface _ (.pointer (some a))) => a
  | _ => ⟨0, 0, none⟩
def gaddr (g : Nat) : Addr := match Base.mem g with
  | some (.cells arr _ _) => addrIn arr[0]?
  | _ => ⟨0, 0, none⟩
abbrev sent (g : Nat) : Value := .iface 442 (.pointer (some (gaddr g)))
class Sent (g : Nat) : Prop where
  h : ∃ (a : Addr) (T : TypeId) (fz : Nat × Nat), Base.mem g = some (.cells #[.iface 442 (.pointer (some a))] T fz)
instance (g : Nat) [s : Sent g] : GV g (sent g) := ⟨by
  obtain ⟨a, T, fz, h⟩ := s.h
  refine ⟨T, fz, ?_⟩
  unfold sent gaddr
  rw [h]; rfl⟩
section
variable {F : Fr} {H : LH} {ty : TypeId}
end
def rgcd (x y : Rat) : Rat := mkRat (Nat.gcd (x.num.natAbs * y.den) (y.num.natAbs * x.den) : Nat) (x.den * y.den)
structure Li where
  a : Int
  b : Int
  c : Int
def Li.ok (l : Li) : Prop := Nat.gcd (Nat.gcd l.a.natAbs l.b.natAbs) l.c.natAbs = 1 ∧ (l.a ≠ 0 ∨ l.b ≠ 0)
def g3 (a b c : Rat) : Rat := rgcd (rgcd a b) c
def nrm (xs : List Nat) : Bool := decide (xs.length = 0) || decide (xs.getD (xs.length - 1) 0 ≠ 0)
theorem nrm_dgs (n : Nat) : nrm (dgs n) = true := by
  by_cases h : n = 0
  · subst h; rw [dgs_zero]; rfl
  · obtain ⟨k, h1, h2, _⟩ := dgs_top h
    unfold nrm
    rw [h1, Nat.add_sub_cancel, decide_eq_true h2, Bool.or_true]
theorem natNormal_pu (xs : List Nat) (hl : xs.length ≤ 1000000000) : Pu Tryz.prog 322 [dg xs] (lit (.bool (nrm xs))) := by
  unfold nrm
  by_cases h : xs.length = 0
  · rw [decide_eq_true h, Bool.true_or]
    refine Pu.intro Tryz.func322 rfl (by kernel_rfl) fun C => ?_
    repeat (refine A1 ⟨?_⟩; intros)
    ((first | refine endR ?_ | refine endN ?_); exact end1 (RV.tmp rfl) (Le.refl _))
  · rw [decide_eq_false h, Bool.false_or]
    by_cases h1 : xs.getD (xs.length - 1) 0 = 0
    · rw [decide_eq_false (fun e => e h1)]
      refine Pu.intro Tryz.func322 rfl (by kernel_rfl) fun C => ?_
      repeat (refine A1 ⟨?_⟩; intros)
      ((first | refine endR ?_ | refine endN ?_); exact end1 (RV.tmp rfl) (Le.refl _))
    · rw [decide_eq_true h1]
      refine Pu.intro Tryz.func322 rfl (by kernel_rfl) fun C => ?_
      repeat (refine A1 ⟨?_⟩; intros)
      ((first | refine endR ?_ | refine endN ?_); exact end1 (RV.tmp rfl) (Le.refl _))
def nrmI (s : Bool) (xs : List Nat) : Bool := nrm xs && (!s || decide (0 < xs.length))
theorem nrmI_int (z : Int) : nrmI (decide (z < 0)) (dgs z.natAbs) = true := by
  unfold nrmI
  rw [nrm_dgs, Bool.true_and]
  by_cases h : z < 0
  · rw [decide_eq_true h, decide_eq_true (dgs_len_pos (by omega)), Bool.or_true]
  · rw [decide_eq_false h]; rfl
theorem intNormal_pu (s : Bool) (xs : List Nat) (hl : xs.length ≤ 1000000000) : Pu Tryz.prog 321 [raw s xs] (lit (.bool (nrmI s xs))) := by
  have hn := natNormal_pu xs hl
  unfold nrmI
  cases hx : nrm xs with
  | false =>
    rw [hx] at hn
    refine Pu.intro Tryz.func321 rfl (by kernel_rfl) fun C => ?_
    repeat (first | (refine A1 ⟨?_⟩; intros) | (refine Wcx (hn) ?_) | (refine Wdcx (hn) ?_) | (refine Wcgx (hn) ?_) | (refine Wdcgx (hn) ?_))
    ((first | refine endR ?_ | refine endN ?_); exact end1 (RV.tmp rfl) (Le.refl _))
  | true =>
    rw [hx] at hn
    cases s with
    | false =>
      refine Pu.intro Tryz.func321 rfl (by kernel_rfl) fun C => ?_
      repeat (first | (refine A1 ⟨?_⟩; intros) | (refine Wcx (hn) ?_) | (refine Wdcx (hn) ?_) | (refine Wcgx (hn) ?_) | (refine Wdcgx (hn) ?_))
      ((first | refine endR ?_ | refine endN ?_); exact end1 (RV.tmp rfl) (Le.refl _))
    | true =>
      by_cases h : 0 < xs.length
      · rw [decide_eq_true h]
        refine Pu.intro Tryz.func321 rfl (by kernel_rfl) fun C => ?_
        repeat (first | (refine A1 ⟨?_⟩; intros) | (refine Wcx (hn) ?_) | (refine Wdcx (hn) ?_) | (refine Wcgx (hn) ?_) | (refine Wdcgx (hn) ?_))
        ((first | refine endR ?_ | refine endN ?_); exact end1 (RV.tmp rfl) (Le.refl _))
      · rw [decide_eq_false h]
        refine Pu.intro Tryz.func321 rfl (by kernel_rfl) fun C => ?_
        repeat (first | (refine A1 ⟨?_⟩; intros) | (refine Wcx (hn) ?_) | (refine Wdcx (hn) ?_) | (refine Wcgx (hn) ?_) | (refine Wdcgx (hn) ?_))
        ((first | refine endR ?_ | refine endN ?_); exact end1 (RV.tmp rfl) (Le.refl _))
theorem gcd_n (a b : Nat) (h1 : (dgs a).length ≤ 10000000) (h2 : (dgs b).length ≤ 10000000) : Pu Tryz.prog 323 [nat a, nat b] (nat (Nat.gcd a b)) := by
  have := gcd_nat (dgs a) (dgs b) h1 h2 (D_dgs _) (D_dgs _)
  rwa [val_dgs, val_dgs] at this
theorem dlen_gcd_le {a b n : Nat} (ha : (dgs a).length ≤ n) (hb : (dgs b).length ≤ n) : (dgs (Nat.gcd a b)).length ≤ n := by
  by_cases h : a = 0
  · subst h; rw [Nat.gcd_zero_left]; exact hb
  · exact Nat.le_trans (len_mono (Nat.gcd_le_left b (by omega))) ha
theorem fsign_pu (x : Rat) (h : ht x ≤ 10000000) : Pu Tryz.prog 312 [fr x] (lit (.int .i64 x.num.sign)) := by
  by_cases hs : small x
  · rw [fr_s hs]
    rcases Int.lt_trichotomy x.num 0 with h0 | h0 | h0
    · rw [Int.sign_eq_neg_one_of_neg h0]
      refine Pu.intro Tryz.func312 rfl (by kernel_rfl) fun C => ?_
      repeat (refine A1 ⟨?_⟩; intros)
      ((first | refine endR ?_ | refine endN ?_); exact end1 (RV.tmp rfl) (Le.refl _))
    · rw [h0]
      refine Pu.intro Tryz.func312 rfl (by kernel_rfl) fun C => ?_
      repeat (refine A1 ⟨?_⟩; intros)
      ((first | refine endR ?_ | refine endN ?_); exact end1 (RV.tmp rfl) (Le.refl _))
    · rw [Int.sign_eq_one_of_pos h0]
      refine Pu.intro Tryz.func312 rfl (by kernel_rfl) fun C => ?_
      repeat (refine A1 ⟨?_⟩; intros)
      ((first | refine endR ?_ | refine endN ?_); exact end1 (RV.tmp rfl) (Le.refl _))
  · have h1 := ht_num x
    have e1 : il x.num = (dgs x.num.natAbs).length := rfl
    have c := sign_raw (decide (x.num < 0)) (dgs x.num.natAbs) (by omega) (D_dgs _)
    rw [val_dgs, sv_int] at c
    rw [fr_b hs]
    refine Pu.intro Tryz.func312 rfl (by kernel_rfl) fun C => ?_
    repeat (first | (refine A1 ⟨?_⟩; intros) | (refine Wcx (c) ?_) | (refine Wdcx (c) ?_) | (refine Wcgx (c) ?_) | (refine Wdcgx (c) ?_))
    ((first | refine endR ?_ | refine endN ?_); exact end1 (RV.tmp rfl) (Le.refl _))
abbrev lq (l : Li) : SV := ag [lit (.bool (decide (l.a < 0))), nat l.a.natAbs, lit (.bool (decide (l.b < 0))), nat l.b.natAbs, lit (.bool (decide (l.c < 0))), nat l.c.natAbs]
structure Li.le (l : Li) (L : Nat) : Prop where
  a : il l.a ≤ L
  b : il l.b ≤ L
  c : il l.c ≤ L
theorem nrm_eq {xs : List Nat} (hD : D xs) (h : nrm xs = true) : xs = dgs (val xs) := by
  rw [← trimL_eq hD]
  rcases List.eq_nil_or_concat xs with e | ⟨ys, y, e⟩
  · subst e; rfl
  · rw [List.concat_eq_append] at e
    subst e
    have hy : y ≠ 0 := by
      unfold nrm at h
      simp at h
      exact h
    rw [trimL_snoc_ne ys y hy]
def nrmQ (r : RQ) : Bool := decide (r.s = decide (r.v.num < 0) ∧ r.n = dgs r.v.num.natAbs ∧ r.d = dgs r.v.den)
theorem nrmQ_q {r : RQ} (h : nrmQ r = true) : qr r = q r.v := by
  obtain ⟨h1, h2, h3⟩ := of_decide_eq_true h
  show ag [lit (.bool r.s), dg r.n, dg r.d] = ag [lit (.bool (decide (r.v.num < 0))), nat r.v.num.natAbs, nat r.v.den]
  rw [← h1, nat, ← h2, nat, ← h3]
theorem nrmQ_eq {r : RQ} (h1 : D r.n) (h2 : D r.d) : nrmQ r = (nrmI r.s r.n && nrm r.d && decide (r.d.length ≠ 0) && decide (Nat.gcd (val r.n) (val r.d) = 1)) := by
  apply Bool.eq_iff_iff.2
  constructor
  · intro h
    obtain ⟨a1, a2, a3⟩ := of_decide_eq_true h
    have e1 : nrmI r.s r.n = true := by rw [a1, a2]; exact nrmI_int _
    have e2 : nrm r.d = true := by rw [a3]; exact nrm_dgs _
    have e3 : r.d.length ≠ 0 := by rw [a3]; exact dgs_ne_nil r.v.den_nz
    have e4 : Nat.gcd (val r.n) (val r.d) = 1 := by rw [a2, a3, val_dgs, val_dgs]; exact r.v.reduced
    rw [e1, e2, decide_eq_true e3, decide_eq_true e4]; rfl
  · intro h
    simp only [Bool.and_eq_true, decide_eq_true_eq] at h
    obtain ⟨⟨⟨e1, e2⟩, e3⟩, e4⟩ := h
    have hs : nrm r.n = true ∧ (r.s = true → 0 < r.n.length) := by
      unfold nrmI at e1
      simp only [Bool.and_eq_true, Bool.or_eq_true, Bool.not_eq_true', decide_eq_true_eq] at e1
      refine ⟨e1.1, fun h => ?_⟩
      rcases e1.2 with h' | h'
      · rw [h] at h'; cases h'
      · exact h'
    have b1 := nrm_eq h1 hs.1
    have b2 := nrm_eq h2 e2
    have hd : val r.d ≠ 0 := fun e => by rw [e, dgs_zero] at b2; rw [b2] at e3; exact e3 rfl
    have hv : r.v.num = sv r.s (val r.n) ∧ r.v.den = val r.d := by
      have := mk_sv r.s (val r.n) hd
      rw [e4, Nat.div_one, Nat.div_one] at this
      exact this
    unfold nrmQ
    rw [hv.1, hv.2, sv_abs, ← b1, ← b2, sv_neg]
    refine decide_eq_true ⟨?_, rfl, rfl⟩
    cases hrs : r.s with
    | false => rfl
    | true =>
      have hp := hs.2 hrs
      have : 0 < val r.n := Nat.pos_of_ne_zero fun e => by rw [e, dgs_zero] at b1; rw [b1] at hp; simp at hp
      simp [this]
theorem blen_1 {n : Nat} : blen n = 1 ↔ n = 1 := by
  have h0 := blen0 (n := n)
  have h1 := blen1 (n := n)
  omega
theorem fnormal_pu {r : RQ} {L : Nat} (h : r.ok L) (hL : L ≤ 1000000) : Pu Tryz.prog 268 [qr r] (lit (.bool (nrmQ r))) := by
  obtain ⟨h1, h2, h3, h4⟩ := h
  rw [nrmQ_eq h1 h2]
  have c1 := intNormal_pu r.s r.n (by omega)
  have c2 := natNormal_pu r.d (by omega)
  cases e1 : nrmI r.s r.n with
  | false =>
    rw [e1] at c1
    refine Pu.intro Tryz.func268 rfl (by kernel_rfl) fun C => ?_
    repeat (first | (refine A1 ⟨?_⟩; intros) | (refine Wcx (c1) ?_) | (refine Wdcx (c1) ?_) | (refine Wcgx (c1) ?_) | (refine Wdcgx (c1) ?_))
    ((first | refine endR ?_ | refine endN ?_); exact end1 (RV.tmp rfl) (Le.refl _))
  | true =>
    rw [e1] at c1
    cases e2 : nrm r.d with
    | false =>
      rw [e2] at c2
      refine Pu.intro Tryz.func268 rfl (by kernel_rfl) fun C => ?_
      repeat (first | (refine A1 ⟨?_⟩; intros) | (refine Wcx (c1) ?_) | (refine Wdcx (c1) ?_) | (refine Wcgx (c1) ?_) | (refine Wdcgx (c1) ?_) | (refine Wcx (c2) ?_) | (refine Wdcx (c2) ?_) | (refine Wcgx (c2) ?_) | (refine Wdcgx (c2) ?_))
      ((first | refine endR ?_ | refine endN ?_); exact end1 (RV.tmp rfl) (Le.refl _))
    | true =>
      rw [e2] at c2
      by_cases e3 : r.d.length = 0
      · rw [decide_eq_false (p := r.d.length ≠ 0) (fun h => h e3)]
        refine Pu.intro Tryz.func268 rfl (by kernel_rfl) fun C => ?_
        repeat (first | (refine A1 ⟨?_⟩; intros) | (refine Wcx (c1) ?_) | (refine Wdcx (c1) ?_) | (refine Wcgx (c1) ?_) | (refine Wdcgx (c1) ?_) | (refine Wcx (c2) ?_) | (refine Wdcx (c2) ?_) | (refine Wcgx (c2) ?_) | (refine Wdcgx (c2) ?_))
        ((first | refine endR ?_ | refine endN ?_); exact end1 (RV.tmp rfl) (Le.refl _))
      · rw [decide_eq_true (p := r.d.length ≠ 0) e3]
        have hn : nrm r.n = true := by
          unfold nrmI at e1
          simp only [Bool.and_eq_true] at e1
          exact e1.1
        have b1 := nrm_eq h1 hn
        have b2 := nrm_eq h2 e2
        have c3 := gcd_n (val r.n) (val r.d) (by rw [← b1]; omega) (by rw [← b2]; omega)
        rw [nat, nat, ← b1, ← b2] at c3
        have hg := dlen_gcd_le (a := val r.n) (b := val r.d) (n := L) (by rw [← b1]; omega) (by rw [← b2]; omega)
        have c4 := bits_nat (dgs (Nat.gcd (val r.n) (val r.d))) (by omega) (D_dgs _)
        rw [val_dgs] at c4
        have hb := blen_1 (n := Nat.gcd (val r.n) (val r.d))
        clear b1 b2 hn e1 e2
        by_cases hg1 : Nat.gcd (val r.n) (val r.d) = 1
        · have hbl := hb.2 hg1
          rw [decide_eq_true hg1]
          clear hb
          rw [hbl] at c4
          generalize Nat.gcd (val r.n) (val r.d) = g at *
          clear hbl
          refine Pu.intro Tryz.func268 rfl (by kernel_rfl) fun C => ?_
          repeat (first | (refine A1 ⟨?_⟩; intros) | (refine Wcx (c1) ?_) | (refine Wdcx (c1) ?_) | (refine Wcgx (c1) ?_) | (refine Wdcgx (c1) ?_) | (refine Wcx (c2) ?_) | (refine Wdcx (c2) ?_) | (refine Wcgx (c2) ?_) | (refine Wdcgx (c2) ?_) | (refine Wcx (c3) ?_) | (refine Wdcx (c3) ?_) | (refine Wcgx (c3) ?_) | (refine Wdcgx (c3) ?_) | (refine Wcx (c4) ?_) | (refine Wdcx (c4) ?_) | (refine Wcgx (c4) ?_) | (refine Wdcgx (c4) ?_))
          ((first | refine endR ?_ | refine endN ?_); exact end1 (RV.tmp rfl) (Le.refl _))
        · have hbl : blen (Nat.gcd (val r.n) (val r.d)) ≠ 1 := fun e => hg1 (hb.1 e)
          rw [decide_eq_false hg1]
          clear hb
          generalize blen (Nat.gcd (val r.n) (val r.d)) = bl at *
          refine Pu.intro Tryz.func268 rfl (by kernel_rfl) fun C => ?_
          repeat (first | (refine A1 ⟨?_⟩; intros) | (refine Wcx (c1) ?_) | (refine Wdcx (c1) ?_) | (refine Wcgx (c1) ?_) | (refine Wdcgx (c1) ?_) | (refine Wcx (c2) ?_) | (refine Wdcx (c2) ?_) | (refine Wcgx (c2) ?_) | (refine Wdcgx (c2) ?_) | (refine Wcx (c3) ?_) | (refine Wdcx (c3) ?_) | (refine Wcgx (c3) ?_) | (refine Wdcgx (c3) ?_) | (refine Wcx (c4) ?_) | (refine Wdcx (c4) ?_) | (refine Wcgx (c4) ?_) | (refine Wdcgx (c4) ?_))
          ((first | refine endR ?_ | refine endN ?_); exact end1 (RV.tmp rfl) (Le.refl _))
theorem formatI_pu (z : Int) {L : Nat} (hz : il z ≤ L) (hL : L ≤ 10000) : Pu Tryz.prog 329 [int z] (str (if z < 0 then [45] ++ dec z.natAbs else dec z.natAbs)) := by
  have e1 : il z = (dgs z.natAbs).length := rfl
  have c := sign_raw (decide (z < 0)) (dgs z.natAbs) (by omega) (D_dgs _)
  rw [val_dgs, sv_int] at c
  have c1 := formatN_pu z.natAbs (L := L) (by omega) (by omega)
  have hl := dec_len (n := z.natAbs) (L := L) (by omega)
  generalize dec z.natAbs = s at *
  have k1 : ([45] : List UInt8).length = 1 := rfl
  by_cases h : z < 0
  · rw [Int.sign_eq_neg_one_of_neg h] at c
    rw [if_pos h]
    refine Pu.intro Tryz.func329 rfl (by kernel_rfl) fun C => ?_
    repeat (first | (refine A1 ⟨?_⟩; intros) | (refine Wcx (c) ?_) | (refine Wdcx (c) ?_) | (refine Wcgx (c) ?_) | (refine Wdcgx (c) ?_) | (refine Wcx (c1) ?_) | (refine Wdcx (c1) ?_) | (refine Wcgx (c1) ?_) | (refine Wdcgx (c1) ?_))
    ((first | refine endR ?_ | refine endN ?_); exact end1 (RV.tmp rfl) (Le.refl _))
  · obtain ⟨hs, hs2⟩ : 0 ≤ z.sign ∧ z.sign ≤ 1 := by
      rcases Int.lt_trichotomy z 0 with h0 | h0 | h0
      · omega
      · rw [h0]; decide
      · rw [Int.sign_eq_one_of_pos h0]; omega
    generalize z.sign = g at *
    rw [if_neg h]
    refine Pu.intro Tryz.func329 rfl (by kernel_rfl) fun C => ?_
    repeat (first | (refine A1 ⟨?_⟩; intros) | (refine Wcx (c) ?_) | (refine Wdcx (c) ?_) | (refine Wcgx (c) ?_) | (refine Wdcgx (c) ?_) | (refine Wcx (c1) ?_) | (refine Wdcx (c1) ?_) | (refine Wcgx (c1) ?_) | (refine Wdcgx (c1) ?_))
    ((first | refine endR ?_ | refine endN ?_); exact end1 (RV.tmp rfl) (Le.refl _))
theorem rwhole_pu (x : Rat) (h : ht x ≤ 10000000) : Pu Tryz.prog 331 [fr x] (lit (.bool (decide (x.den = 1)))) := by
  have b1 := ht_den x
  by_cases hs : small x
  · rw [fr_s hs]
    have h1 := hs.2
    by_cases h2 : x.den = 1
    · rw [decide_eq_true h2, h2]
      refine Pu.intro Tryz.func331 rfl (by kernel_rfl) fun C => ?_
      repeat (refine A1 ⟨?_⟩; intros)
      ((first | refine endR ?_ | refine endN ?_); exact end1 (RV.tmp rfl) (Le.refl _))
    · rw [decide_eq_false h2]
      have h3 := x.den_nz
      refine Pu.intro Tryz.func331 rfl (by kernel_rfl) fun C => ?_
      repeat (refine A1 ⟨?_⟩; intros)
      ((first | refine endR ?_ | refine endN ?_); exact end1 (RV.tmp rfl) (Le.refl _))
  · rw [fr_b hs]
    have c := bits_nat (dgs x.den) (by omega) (D_dgs _)
    rw [val_dgs] at c
    have h1 := blen_1 (n := x.den)
    by_cases h2 : x.den = 1
    · have h3 := h1.2 h2
      rw [decide_eq_true h2]
      refine Pu.intro Tryz.func331 rfl (by kernel_rfl) fun C => ?_
      repeat (first | (refine A1 ⟨?_⟩; intros) | (refine Wcx (c) ?_) | (refine Wdcx (c) ?_) | (refine Wcgx (c) ?_) | (refine Wdcgx (c) ?_))
      ((first | refine endR ?_ | refine endN ?_); exact end1 (RV.tmp rfl) (Le.refl _))
    · have h3 : blen x.den ≠ 1 := fun h => h2 (h1.1 h)
      rw [decide_eq_false h2]
      refine Pu.intro Tryz.func331 rfl (by kernel_rfl) fun C => ?_
      repeat (first | (refine A1 ⟨?_⟩; intros) | (refine Wcx (c) ?_) | (refine Wdcx (c) ?_) | (refine Wcgx (c) ?_) | (refine Wdcgx (c) ?_))
      ((first | refine endR ?_ | refine endN ?_); exact end1 (RV.tmp rfl) (Le.refl _))
theorem string_pu (x : Rat) {L : Nat} (hx : ht x ≤ L) (hL : L ≤ 10000) : Pu Tryz.prog 272 [fr x] (str (fmt x)) := by
  have n1 := ht_num x
  have n2 := ht_den x
  have a1 := num_pu x (by omega)
  have a2 := den_pu x (by omega)
  have a3 := rwhole_pu x (by omega)
  have c1 := formatI_pu x.num (L := L) (by omega) (by omega)
  have c2 := formatN_pu x.den (L := L) (by omega) (by omega)
  have l1 := dec_len (n := x.num.natAbs) (L := L) (show il x.num ≤ L by omega)
  have l2 := dec_len (n := x.den) (L := L) (by omega)
  have k1 : ([45] : List UInt8).length = 1 := rfl
  have k2 : ([47] : List UInt8).length = 1 := rfl
  unfold fmt
  have l3 : (if x.num < 0 then [45] ++ dec x.num.natAbs else dec x.num.natAbs).length ≤ 10 * L + 2 := by
    split
    · rw [List.length_append, k1]; omega
    · omega
  generalize (if x.num < 0 then [45] ++ dec x.num.natAbs else dec x.num.natAbs) = D1 at *
  generalize hD2 : dec x.den = D2 at *
  have k3 : ([47] ++ D2).length = D2.length + 1 := by simp
  by_cases h2 : x.den = 1
  · rw [if_pos h2, List.append_nil]
    rw [decide_eq_true h2] at a3
    refine Pu.intro Tryz.func272 rfl (by kernel_rfl) fun C => ?_
    repeat (first | (refine A1 ⟨?_⟩; intros) | (refine Wcx (a1) ?_) | (refine Wdcx (a1) ?_) | (refine Wcgx (a1) ?_) | (refine Wdcgx (a1) ?_) | (refine Wcx (a2) ?_) | (refine Wdcx (a2) ?_) | (refine Wcgx (a2) ?_) | (refine Wdcgx (a2) ?_) | (refine Wcx (a3) ?_) | (refine Wdcx (a3) ?_) | (refine Wcgx (a3) ?_) | (refine Wdcgx (a3) ?_) | (refine Wcx (c1) ?_) | (refine Wdcx (c1) ?_) | (refine Wcgx (c1) ?_) | (refine Wdcgx (c1) ?_) | (refine Wcx (c2) ?_) | (refine Wdcx (c2) ?_) | (refine Wcgx (c2) ?_) | (refine Wdcgx (c2) ?_))
    ((first | refine endR ?_ | refine endN ?_); exact end1 (RV.tmp rfl) (Le.refl _))
  · rw [if_neg h2]
    rw [decide_eq_false h2] at a3
    refine Pu.intro Tryz.func272 rfl (by kernel_rfl) fun C => ?_
    repeat (first | (refine A1 ⟨?_⟩; intros) | (refine Wcx (a1) ?_) | (refine Wdcx (a1) ?_) | (refine Wcgx (a1) ?_) | (refine Wdcgx (a1) ?_) | (refine Wcx (a2) ?_) | (refine Wdcx (a2) ?_) | (refine Wcgx (a2) ?_) | (refine Wdcgx (a2) ?_) | (refine Wcx (a3) ?_) | (refine Wdcx (a3) ?_) | (refine Wcgx (a3) ?_) | (refine Wdcgx (a3) ?_) | (refine Wcx (c1) ?_) | (refine Wdcx (c1) ?_) | (refine Wcgx (c1) ?_) | (refine Wdcgx (c1) ?_) | (refine Wcx (c2) ?_) | (refine Wdcx (c2) ?_) | (refine Wcgx (c2) ?_) | (refine Wdcgx (c2) ?_))
    ((first | refine endR ?_ | refine endN ?_); exact end1 (RV.tmp rfl) (Le.refl _))
theorem formatQ_pu (x : Rat) {L : Nat} (hx : ht x ≤ L) (hL : L ≤ 10000) : Pu Tryz.prog 218 [q x] (str (fmt x)) := by
  have n1 := ht_num x
  have n2 := ht_den x
  have e1 : il x.num = (dgs x.num.natAbs).length := rfl
  have c1 := of_raw (decide (x.num < 0)) (dgs x.num.natAbs) (dgs x.den) (by omega) (by omega) (D_dgs _) (D_dgs _)
  rw [val_dgs, val_dgs, sv_int, Rat.mkRat_self] at c1
  have c2 := string_pu x hx hL
  refine Pu.intro Tryz.func218 rfl (by kernel_rfl) fun C => ?_
  repeat (first | (refine A1 ⟨?_⟩; intros) | (refine Wcx (c1) ?_) | (refine Wdcx (c1) ?_) | (refine Wcgx (c1) ?_) | (refine Wdcgx (c1) ?_) | (refine Wcx (c2) ?_) | (refine Wdcx (c2) ?_) | (refine Wcgx (c2) ?_) | (refine Wdcgx (c2) ?_))
  ((first | refine endR ?_ | refine endN ?_); exact end1 (RV.tmp rfl) (Le.refl _))
def Wtr (w : Nat) (l : List UInt8) (d : Nat) (H : LH) : Prop := ∃ a s Hb, (a = fresh ∨ a = self w) ∧ Byt l s Hb ∧ H = (w, 201, wrC a s d false) :: Hb
theorem putW_pu {w b d : Nat} {l : List UInt8} {H : LH} (h : Wtr w l d H) (t : List UInt8) (hl : l.length + t.length ≤ 1000000000) :
    PuH Tryz.prog 65 [lit (.pointer (some ⟨w, 0, none⟩)), lit (.slice (some ⟨b, 0, none⟩) 1 1)] ((b, 9, [str t]) :: H) (fun r H' => r = Ab.tup [] ∧ Wtr w (l ++ t) d H') noX := by
  obtain ⟨a, s, Hb, ha, hb, rfl⟩ := h
  exact (put1_pu ha hb t hl d false).mono (fun r H' => by
    rintro ⟨s', Hb', hb', rfl, rfl⟩
    exact ⟨rfl, _, _, _, .inr rfl, hb', rfl⟩) fun _ _ h => h
theorem digits_pu (w n : Nat) (hn : (dgs n).length ≤ 300) : PuH Tryz.prog 217 [lit (.pointer (some ⟨w, 0, none⟩)), nat n] [] (fun r H' => r = Ab.tup [] ∧ H' = []) noX := by
  have c := bits_nat (dgs n) (by omega) (D_dgs _)
  have hb := blen_val (D_dgs n)
  rw [val_dgs] at c hb
  refine PuH.intro Tryz.func217 rfl (by kernel_rfl) fun C hC => ?_
  repeat (first | (refine A1 ⟨?_⟩; intros) | (refine Wcx (c) ?_) | (refine Wdcx (c) ?_) | (refine Wcgx (c) ?_) | (refine Wdcgx (c) ?_))
  exact endHN _ _ end0 (List.Sublist.refl _) ⟨rfl, rfl⟩
theorem rational_pu {w d : Nat} {l : List UInt8} {H : LH} (h : Wtr w l d H) (r : RQ) {L : Nat} (hr : r.ok L) (hL : L ≤ 200) (hl : l.length ≤ 100000000) :
    PuH Tryz.prog 165 [lit (.pointer (some ⟨w, 0, none⟩)), qr r] H (fun r' H' => nrmQ r = true ∧ r' = Ab.tup [] ∧ Wtr w (l ++ fmt r.v) d H') (fun pv _ => nrmQ r = false ∧ pv = inval) := by
  have c0 := fnormal_pu hr (by omega)
  have c1 : Pu Tryz.prog 216 [qr r] (lit (.bool (nrmQ r))) := by
    refine Pu.intro Tryz.func216 rfl (by kernel_rfl) fun C => ?_
    repeat (first | (refine A1 ⟨?_⟩; intros) | (refine Wcx (c0) ?_) | (refine Wdcx (c0) ?_) | (refine Wcgx (c0) ?_) | (refine Wdcgx (c0) ?_))
    ((first | refine endR ?_ | refine endN ?_); exact end1 (RV.tmp rfl) (Le.refl _))
  clear c0
  have hht := ht_v hr
  cases hn : nrmQ r with
  | false =>
    rw [hn] at c1
    refine PuH.intro Tryz.func165 rfl (by kernel_rfl) fun C hC => ?_
    repeat (first | (refine A1 ⟨?_⟩; intros) | (refine Wcx (c1) ?_) | (refine Wdcx (c1) ?_) | (refine Wcgx (c1) ?_) | (refine Wdcgx (c1) ?_))
    refine WneedF ?_
    rw [hC]
    exact ⟨rfl, rfl⟩
  | true =>
    rw [hn] at c1
    rw [nrmQ_q hn] at c1 ⊢
    have n1 := ht_num r.v
    have n2 := ht_den r.v
    have e1 : il r.v.num = (dgs r.v.num.natAbs).length := rfl
    have c2 := formatQ_pu r.v hht (by omega)
    have hf := fmt_len hht
    generalize r.v = x at *
    refine PuH.intro Tryz.func165 rfl (by kernel_rfl) fun C hC => ?_
    repeat (first | (refine A1 ⟨?_⟩; intros) | (refine Wcx (c1) ?_) | (refine Wdcx (c1) ?_) | (refine Wcgx (c1) ?_) | (refine Wdcgx (c1) ?_))
    refine WneedT ?_
    repeat (refine A1 ⟨?_⟩; intros)
    refine WfH (digits_pu w x.num.natAbs (by omega)) ?_
    rintro _ _ ⟨rfl, rfl⟩
    simp only [List.cons_append, List.nil_append]
    repeat (refine A1 ⟨?_⟩; intros)
    refine WfH (digits_pu w x.den (by omega)) ?_
    rintro _ _ ⟨rfl, rfl⟩
    simp only [List.cons_append, List.nil_append]
    repeat (first | (refine A1 ⟨?_⟩; intros) | (refine Wcx (c2) ?_) | (refine Wdcx (c2) ?_) | (refine Wcgx (c2) ?_) | (refine Wdcgx (c2) ?_))
    refine WfH (putW_pu h (fmt x) (by omega)) ?_
    rintro _ _ ⟨rfl, h'⟩
    repeat (refine A1 ⟨?_⟩; intros)
    exact endHN _ _ end0 (List.sublist_append_left _ _) ⟨by trivial, rfl, h'⟩
def ptxt (a b : RQ) : List UInt8 := [40] ++ fmt a.v ++ [44] ++ fmt b.v ++ [41]
theorem ptxt_len {a b : RQ} {L : Nat} (ha : a.ok L) (hb : b.ok L) : (ptxt a b).length ≤ 40 * L + 60 := by
  have h1 := fmt_len (ht_v ha)
  have h2 := fmt_len (ht_v hb)
  unfold ptxt
  simp only [List.length_append, List.length_cons, List.length_nil]
  omega
theorem point_pu {w d : Nat} {l : List UInt8} {H : LH} (h : Wtr w l d H) (a b : RQ) {L : Nat} (ha : a.ok L) (hb : b.ok L) (hL : L ≤ 200) (hl : l.length ≤ 90000000) :
    PuH Tryz.prog 117 [lit (.pointer (some ⟨w, 0, none⟩)), pr a b] H (fun r' H' => (nrmQ a && nrmQ b) = true ∧ r' = Ab.tup [] ∧ Wtr w (l ++ ptxt a b) d H') (fun pv _ => (nrmQ a && nrmQ b) = false ∧ pv = inval) := by
  have h1 := fmt_len (ht_v ha)
  have h2 := fmt_len (ht_v hb)
  have k1 : ([40] : List UInt8).length = 1 := rfl
  have k2 : ([44] : List UInt8).length = 1 := rfl
  have k3 : ([41] : List UInt8).length = 1 := rfl
  refine PuH.intro Tryz.func117 rfl (by kernel_rfl) fun C hC => ?_
  repeat (refine A1 ⟨?_⟩; intros)
  refine WfH (putW_pu h [40] (by omega)) ?_
  rintro _ _ ⟨rfl, g1⟩
  refine WPL.perm List.perm_append_comm ?_
  simp only [List.cons_append, List.nil_append]
  repeat (refine A1 ⟨?_⟩; intros)
  refine WfX (rational_pu g1 a ha hL (by rw [List.length_append]; omega)) ?_ ?_
  · rintro _ _ ⟨n1, rfl, g2⟩
    simp only [List.cons_append, List.nil_append]
    repeat (refine A1 ⟨?_⟩; intros)
    have hl2 : (l ++ [40] ++ fmt a.v).length ≤ l.length + 20 * (L + 1) + 5 := by
      rw [List.length_append, List.length_append]; omega
    refine WfH (putW_pu g2 [44] (by omega)) ?_
    rintro _ _ ⟨rfl, g3⟩
    refine WPL.perm List.perm_append_comm ?_
    simp only [List.cons_append, List.nil_append]
    repeat (refine A1 ⟨?_⟩; intros)
    refine WfX (rational_pu g3 b hb hL (by rw [List.length_append]; omega)) ?_ ?_
    · rintro _ _ ⟨n2, rfl, g4⟩
      simp only [List.cons_append, List.nil_append]
      repeat (refine A1 ⟨?_⟩; intros)
      refine WfH (putW_pu g4 [41] (by rw [List.length_append, List.length_append]; omega)) ?_
      rintro _ _ ⟨rfl, g5⟩
      repeat (refine A1 ⟨?_⟩; intros)
      exact endHN _ _ end0 (List.sublist_append_left _ _) ⟨by rw [n1, n2]; rfl, rfl, by simpa only [ptxt, List.append_assoc] using g5⟩
    · rintro _ _ ⟨n2, rfl⟩
      rw [hC]
      exact ⟨by rw [n1, n2]; rfl, rfl⟩
  · rintro _ _ ⟨n1, rfl⟩
    rw [hC]
    exact ⟨by rw [n1]; rfl, rfl⟩
def ptxt2 (a b c e : RQ) : List UInt8 := [32] ++ ptxt a b ++ ([32] ++ ptxt c e)
theorem points_pu {w d bp : Nat} {l : List UInt8} {H : LH} (h : Wtr w l d H) (a b c e : RQ) {L : Nat} (ha : a.ok L) (hb : b.ok L) (hc : c.ok L) (he : e.ok L) (hL : L ≤ 200) (hl : l.length ≤ 80000000) :
    PuH Tryz.prog 115 [lit (.pointer (some ⟨w, 0, none⟩)), lit (.slice (some ⟨bp, 0, none⟩) 2 2)]
      ((bp, 60, [lit (.bool a.s), dg a.n, dg a.d, lit (.bool b.s), dg b.n, dg b.d, lit (.bool c.s), dg c.n, dg c.d, lit (.bool e.s), dg e.n, dg e.d]) :: H)
      (fun r' H' => (nrmQ a && nrmQ b && (nrmQ c && nrmQ e)) = true ∧ r' = Ab.tup [] ∧ Wtr w (l ++ ptxt2 a b c e) d H') (fun pv _ => (nrmQ a && nrmQ b && (nrmQ c && nrmQ e)) = false ∧ pv = inval) := by
  have h1 := ptxt_len ha hb
  have h2 := ptxt_len hc he
  have k1 : ([32] : List UInt8).length = 1 := rfl
  refine PuH.intro Tryz.func115 rfl (by kernel_rfl) fun C hC => ?_
  repeat (refine A1 ⟨?_⟩; intros)
  refine WneedT ?_
  repeat (refine A1 ⟨?_⟩; intros)
  refine WP.unroll 3 ?_
  refine WPR.succ ?_
  repeat (refine A1 ⟨?_⟩; intros)
  refine WfH (putW_pu h [32] (by omega)) ?_
  rintro _ _ ⟨rfl, g1⟩
  refine WPL.perm List.perm_append_comm ?_
  simp only [List.cons_append, List.nil_append]
  repeat (refine A1 ⟨?_⟩; intros)
  refine WfX (point_pu g1 a b ha hb hL (by rw [List.length_append]; omega)) ?_ ?_
  · rintro _ _ ⟨n1, rfl, g2⟩
    simp only [List.cons_append, List.nil_append]
    repeat (refine A1 ⟨?_⟩; intros)
    have hl2 : (l ++ [32] ++ ptxt a b).length = l.length + 1 + (ptxt a b).length := by
      rw [List.length_append, List.length_append]; omega
    refine WfH (putW_pu g2 [32] (by omega)) ?_
    rintro _ _ ⟨rfl, g3⟩
    refine WPL.perm List.perm_append_comm ?_
    simp only [List.cons_append, List.nil_append]
    repeat (refine A1 ⟨?_⟩; intros)
    refine WfX (point_pu g3 c e hc he hL (by rw [List.length_append]; omega)) ?_ ?_
    · rintro _ _ ⟨n2, rfl, g4⟩
      simp only [List.cons_append, List.nil_append]
      repeat (refine A1 ⟨?_⟩; intros)
      refine endHN _ _ end0 ?_ ⟨by rw [n1, n2]; rfl, rfl, by simpa only [ptxt2, List.append_assoc] using g4⟩
      repeat (first | exact List.Sublist.refl _ | refine List.Sublist.cons _ ?_)
    · rintro _ _ ⟨n2, rfl⟩
      rw [hC]
      exact ⟨by rw [n1, n2]; rfl, rfl⟩
  · rintro _ _ ⟨n1, rfl⟩
    rw [hC]
    exact ⟨by rw [n1]; rfl, rfl⟩
structure Nd where
  k : Int
  nm : List UInt8
  a : RQ
  b : RQ
  c : RQ
  e : RQ
  op : Int
  x : Int
  y : Int
  ln : Int
  cl : Int
def i64R (z : Int) : Prop := -9223372036854775808 ≤ z ∧ z ≤ 9223372036854775807
abbrev ndx (n : Nd) : List SV := [lit (.int .i64 n.k), str n.nm, lit (.bool n.a.s), dg n.a.n, dg n.a.d, lit (.bool n.b.s), dg n.b.n, dg n.b.d, lit (.bool n.c.s), dg n.c.n, dg n.c.d, lit (.bool n.e.s), dg n.e.n, dg n.e.d, lit (.int .i64 n.op), lit (.int .i64 n.x), lit (.int .i64 n.y), lit (.int .i64 n.ln), lit (.int .i64 n.cl)]
structure Nd.ok (L : Nat) (n : Nd) : Prop where
  a : n.a.ok L
  b : n.b.ok L
  c : n.c.ok L
  e : n.e.ok L
  nm : n.nm.length ≤ 100
def zq (r : RQ) : Bool := !r.s && decide (r.n.length = 0) && decide (r.d.length = 0)
def zp (a b : RQ) : Bool := zq a && zq b
def okN (n : Nd) : Bool :=
  (decide (1 ≤ n.k) && decide (n.k ≤ 6)) && (decide (n.k = 1) || decide (n.nm.length = 0)) && (decide (n.k = 4) || (zp n.a n.b && zp n.c n.e)) && ((decide (n.k = 6) && decide (1 ≤ n.op) && decide (n.op ≤ 4)) || (decide (n.k ≠ 6) && decide (n.op = 0))) && (decide (n.k = 6) || decide (n.y = 0)) && ((decide (n.k = 6) || decide (n.k = 5)) || decide (n.x = 0))
theorem zeroRat_pu (r : RQ) {L : Nat} (h : r.ok L) (hL : L ≤ 1000) : Pu Tryz.prog 214 [qr r] (lit (.bool (zq r))) := by
  obtain ⟨_, _, h1, h2⟩ := h
  show Pu _ _ [ag [lit (.bool r.s), dg r.n, dg r.d]] _
  cases hs : r.s with
  | true =>
    rw [show zq r = false from by unfold zq; rw [hs]; rfl]
    refine Pu.intro Tryz.func214 rfl (by kernel_rfl) fun C => ?_
    repeat (refine A1 ⟨?_⟩; intros)
    ((first | refine endR ?_ | refine endN ?_); exact end1 (RV.tmp rfl) (Le.refl _))
  | false =>
    by_cases hn : r.n.length = 0 ∧ r.d.length = 0
    · obtain ⟨hn1, hn2⟩ := hn
      rw [show zq r = true from by unfold zq; rw [hs, decide_eq_true hn1, decide_eq_true hn2]; rfl]
      refine Pu.intro Tryz.func214 rfl (by kernel_rfl) fun C => ?_
      repeat (refine A1 ⟨?_⟩; intros)
      ((first | refine endR ?_ | refine endN ?_); exact end1 (RV.tmp rfl) (Le.refl _))
    · rw [show zq r = false from by unfold zq; rw [hs, Bool.not_false, Bool.true_and, ← Bool.decide_and]; exact decide_eq_false hn]
      have hn' : r.n.length + r.d.length ≠ 0 := by omega
      clear hn
      refine Pu.intro Tryz.func214 rfl (by kernel_rfl) fun C => ?_
      repeat (refine A1 ⟨?_⟩; intros)
      ((first | refine endR ?_ | refine endN ?_); exact end1 (RV.tmp rfl) (Le.refl _))
theorem zeroPoint_pu (a b : RQ) {L : Nat} (ha : a.ok L) (hb : b.ok L) (hL : L ≤ 1000) : Pu Tryz.prog 161 [pr a b] (lit (.bool (zp a b))) := by
  have c1 := zeroRat_pu a ha hL
  have c2 := zeroRat_pu b hb hL
  unfold zp
  cases hs : zq a with
  | true =>
    rw [hs] at c1
    refine Pu.intro Tryz.func161 rfl (by kernel_rfl) fun C => ?_
    repeat (first | (refine A1 ⟨?_⟩; intros) | (refine Wcx (c1) ?_) | (refine Wdcx (c1) ?_) | (refine Wcgx (c1) ?_) | (refine Wdcgx (c1) ?_) | (refine Wcx (c2) ?_) | (refine Wdcx (c2) ?_) | (refine Wcgx (c2) ?_) | (refine Wdcgx (c2) ?_))
    ((first | refine endR ?_ | refine endN ?_); exact end1 (RV.tmp rfl) (Le.refl _))
  | false =>
    rw [hs] at c1
    refine Pu.intro Tryz.func161 rfl (by kernel_rfl) fun C => ?_
    repeat (first | (refine A1 ⟨?_⟩; intros) | (refine Wcx (c1) ?_) | (refine Wdcx (c1) ?_) | (refine Wcgx (c1) ?_) | (refine Wdcgx (c1) ?_) | (refine Wcx (c2) ?_) | (refine Wdcx (c2) ?_) | (refine Wcgx (c2) ?_) | (refine Wdcgx (c2) ?_))
    ((first | refine endR ?_ | refine endN ?_); exact end1 (RV.tmp rfl) (Le.refl _))
theorem rank_pu (n : Nd) : Pu Tryz.prog 213 [ag (ndx n)] (lit (.int .i64 (if n.k = 6 then (if n.op = 2 then 2 else 1) else 3))) := by
  by_cases h1 : n.k = 6
  · rw [if_pos h1]
    by_cases h2 : n.op = 2
    · rw [if_pos h2]
      refine Pu.intro Tryz.func213 rfl (by kernel_rfl) fun C => ?_
      repeat (refine A1 ⟨?_⟩; intros)
      ((first | refine endR ?_ | refine endN ?_); exact end1 (RV.tmp rfl) (Le.refl _))
    · rw [if_neg h2]
      refine Pu.intro Tryz.func213 rfl (by kernel_rfl) fun C => ?_
      repeat (refine A1 ⟨?_⟩; intros)
      ((first | refine endR ?_ | refine endN ?_); exact end1 (RV.tmp rfl) (Le.refl _))
  · rw [if_neg h1]
    refine Pu.intro Tryz.func213 rfl (by kernel_rfl) fun C => ?_
    repeat (refine A1 ⟨?_⟩; intros)
    ((first | refine endR ?_ | refine endN ?_); exact end1 (RV.tmp rfl) (Le.refl _))
theorem nil_dec {l : List UInt8} : (l.length = 0 → l = []) ∧ (l.length ≠ 0 → ¬l = []) :=
  ⟨fun h => List.eq_nil_of_length_eq_zero h, fun h e => h (by rw [e]; rfl)⟩
set_option maxHeartbeats 1000000 in
theorem checkExpr_pu (n : Nd) {L : Nat} (h : n.ok L) (hL : L ≤ 1000) : PuH Tryz.prog 209 [ag (ndx n)] [] (fun r H => okN n = true ∧ r = Ab.tup [] ∧ H = []) (fun pv _ => okN n = false ∧ pv = inval) := by
  have c1 := zeroPoint_pu n.a n.b h.a h.b hL
  have c2 := zeroPoint_pu n.c n.e h.c h.e hL
  clear h
  refine PuH.intro Tryz.func209 rfl (by kernel_rfl) fun C hC => ?_
  by_cases p1 : 1 ≤ n.k
  case neg =>
    have dp1 := decide_eq_false p1
    repeat (refine A1 ⟨?_⟩; intros)
    refine WneedF ?_
    rw [hC]
    exact ⟨by simp only [okN, dp1, Bool.and_true, Bool.true_and, Bool.and_false, Bool.false_and, Bool.or_true, Bool.true_or, Bool.or_false, Bool.false_or], rfl⟩
  have dp1 := decide_eq_true p1
  by_cases p2 : n.k ≤ 6
  case neg =>
    have dp2 := decide_eq_false p2
    repeat (refine A1 ⟨?_⟩; intros)
    refine WneedF ?_
    rw [hC]
    exact ⟨by simp only [okN, dp1, dp2, Bool.and_true, Bool.true_and, Bool.and_false, Bool.false_and, Bool.or_true, Bool.true_or, Bool.or_false, Bool.false_or], rfl⟩
  have dp2 := decide_eq_true p2
  repeat (refine A1 ⟨?_⟩; intros)
  refine WneedT ?_
  by_cases q1 : n.k = 1
  case pos =>
    have dk1 : decide (n.k = 1) = true := decide_eq_true (by omega)
    have dk4 : decide (n.k = 4) = false := decide_eq_false (by omega)
    have dk5 : decide (n.k = 5) = false := decide_eq_false (by omega)
    have dk6 : decide (n.k = 6) = false := decide_eq_false (by omega)
    have dn6 : decide (n.k ≠ 6) = true := decide_eq_true (by omega)
    repeat (refine A1 ⟨?_⟩; intros)
    refine WneedT ?_
    cases z1 : zp n.a n.b with
    | false =>
      rw [z1] at c1
      repeat (first | (refine A1 ⟨?_⟩; intros) | (refine Wcx (c1) ?_) | (refine Wdcx (c1) ?_) | (refine Wcgx (c1) ?_) | (refine Wdcgx (c1) ?_) | (refine Wcx (c2) ?_) | (refine Wdcx (c2) ?_) | (refine Wcgx (c2) ?_) | (refine Wdcgx (c2) ?_))
      refine WneedF ?_
      rw [hC]
      exact ⟨by simp only [okN, dp1, dp2, dk1, dk4, dk5, dk6, dn6, z1, Bool.and_true, Bool.true_and, Bool.and_false, Bool.false_and, Bool.or_true, Bool.true_or, Bool.or_false, Bool.false_or], rfl⟩
    | true =>
      rw [z1] at c1
      cases z2 : zp n.c n.e with
      | false =>
        rw [z2] at c2
        repeat (first | (refine A1 ⟨?_⟩; intros) | (refine Wcx (c1) ?_) | (refine Wdcx (c1) ?_) | (refine Wcgx (c1) ?_) | (refine Wdcgx (c1) ?_) | (refine Wcx (c2) ?_) | (refine Wdcx (c2) ?_) | (refine Wcgx (c2) ?_) | (refine Wdcgx (c2) ?_))
        refine WneedF ?_
        rw [hC]
        exact ⟨by simp only [okN, dp1, dp2, dk1, dk4, dk5, dk6, dn6, z1, z2, Bool.and_true, Bool.true_and, Bool.and_false, Bool.false_and, Bool.or_true, Bool.true_or, Bool.or_false, Bool.false_or], rfl⟩
      | true =>
        rw [z2] at c2
        repeat (first | (refine A1 ⟨?_⟩; intros) | (refine Wcx (c1) ?_) | (refine Wdcx (c1) ?_) | (refine Wcgx (c1) ?_) | (refine Wdcgx (c1) ?_) | (refine Wcx (c2) ?_) | (refine Wdcx (c2) ?_) | (refine Wcgx (c2) ?_) | (refine Wdcgx (c2) ?_))
        refine WneedT ?_
        by_cases o1 : n.op = 0
        case neg =>
          have do1 := decide_eq_false o1
          repeat (refine A1 ⟨?_⟩; intros)
          refine WneedF ?_
          rw [hC]
          exact ⟨by simp only [okN, dp1, dp2, dk1, dk4, dk5, dk6, dn6, z1, z2, do1, Bool.and_true, Bool.true_and, Bool.and_false, Bool.false_and, Bool.or_true, Bool.true_or, Bool.or_false, Bool.false_or], rfl⟩
        have do1 := decide_eq_true o1
        repeat (refine A1 ⟨?_⟩; intros)
        refine WneedT ?_
        by_cases y1 : n.y = 0
        case neg =>
          have dy1 := decide_eq_false y1
          repeat (refine A1 ⟨?_⟩; intros)
          refine WneedF ?_
          rw [hC]
          exact ⟨by simp only [okN, dp1, dp2, dk1, dk4, dk5, dk6, dn6, z1, z2, do1, dy1, Bool.and_true, Bool.true_and, Bool.and_false, Bool.false_and, Bool.or_true, Bool.true_or, Bool.or_false, Bool.false_or], rfl⟩
        have dy1 := decide_eq_true y1
        repeat (refine A1 ⟨?_⟩; intros)
        refine WneedT ?_
        by_cases x1 : n.x = 0
        case neg =>
          have dx1 := decide_eq_false x1
          repeat (refine A1 ⟨?_⟩; intros)
          refine WneedF ?_
          rw [hC]
          exact ⟨by simp only [okN, dp1, dp2, dk1, dk4, dk5, dk6, dn6, z1, z2, do1, dy1, dx1, Bool.and_true, Bool.true_and, Bool.and_false, Bool.false_and, Bool.or_true, Bool.true_or, Bool.or_false, Bool.false_or], rfl⟩
        have dx1 := decide_eq_true x1
        repeat (refine A1 ⟨?_⟩; intros)
        refine WneedT ?_
        repeat (refine A1 ⟨?_⟩; intros)
        exact endHN _ _ end0 (List.nil_sublist _) ⟨by simp only [okN, dp1, dp2, dk1, dk4, dk5, dk6, dn6, z1, z2, do1, dy1, dx1, Bool.and_true, Bool.true_and, Bool.and_false, Bool.false_and, Bool.or_true, Bool.true_or, Bool.or_false, Bool.false_or], rfl, rfl⟩
  by_cases q4 : n.k = 4
  case pos =>
    have dk1 : decide (n.k = 1) = false := decide_eq_false (by omega)
    have dk4 : decide (n.k = 4) = true := decide_eq_true (by omega)
    have dk5 : decide (n.k = 5) = false := decide_eq_false (by omega)
    have dk6 : decide (n.k = 6) = false := decide_eq_false (by omega)
    have dn6 : decide (n.k ≠ 6) = true := decide_eq_true (by omega)
    by_cases r1 : n.nm.length = 0
    case neg =>
      have dr1 := decide_eq_false r1
      have sr1 := nil_dec.2 r1
      repeat (refine A1 ⟨?_⟩; intros)
      refine WneedF ?_
      rw [hC]
      exact ⟨by simp only [okN, dp1, dp2, dk1, dk4, dk5, dk6, dn6, dr1, Bool.and_true, Bool.true_and, Bool.and_false, Bool.false_and, Bool.or_true, Bool.true_or, Bool.or_false, Bool.false_or], rfl⟩
    have dr1 := decide_eq_true r1
    have sr1 := nil_dec.1 r1
    repeat (refine A1 ⟨?_⟩; intros)
    refine WneedT ?_
    repeat (first | (refine A1 ⟨?_⟩; intros) | (refine Wcx (c1) ?_) | (refine Wdcx (c1) ?_) | (refine Wcgx (c1) ?_) | (refine Wdcgx (c1) ?_) | (refine Wcx (c2) ?_) | (refine Wdcx (c2) ?_) | (refine Wcgx (c2) ?_) | (refine Wdcgx (c2) ?_))
    refine WneedT ?_
    by_cases o1 : n.op = 0
    case neg =>
      have do1 := decide_eq_false o1
      repeat (refine A1 ⟨?_⟩; intros)
      refine WneedF ?_
      rw [hC]
      exact ⟨by simp only [okN, dp1, dp2, dk1, dk4, dk5, dk6, dn6, dr1, do1, Bool.and_true, Bool.true_and, Bool.and_false, Bool.false_and, Bool.or_true, Bool.true_or, Bool.or_false, Bool.false_or], rfl⟩
    have do1 := decide_eq_true o1
    repeat (refine A1 ⟨?_⟩; intros)
    refine WneedT ?_
    by_cases y1 : n.y = 0
    case neg =>
      have dy1 := decide_eq_false y1
      repeat (refine A1 ⟨?_⟩; intros)
      refine WneedF ?_
      rw [hC]
      exact ⟨by simp only [okN, dp1, dp2, dk1, dk4, dk5, dk6, dn6, dr1, do1, dy1, Bool.and_true, Bool.true_and, Bool.and_false, Bool.false_and, Bool.or_true, Bool.true_or, Bool.or_false, Bool.false_or], rfl⟩
    have dy1 := decide_eq_true y1
    repeat (refine A1 ⟨?_⟩; intros)
    refine WneedT ?_
    by_cases x1 : n.x = 0
    case neg =>
      have dx1 := decide_eq_false x1
      repeat (refine A1 ⟨?_⟩; intros)
      refine WneedF ?_
      rw [hC]
      exact ⟨by simp only [okN, dp1, dp2, dk1, dk4, dk5, dk6, dn6, dr1, do1, dy1, dx1, Bool.and_true, Bool.true_and, Bool.and_false, Bool.false_and, Bool.or_true, Bool.true_or, Bool.or_false, Bool.false_or], rfl⟩
    have dx1 := decide_eq_true x1
    repeat (refine A1 ⟨?_⟩; intros)
    refine WneedT ?_
    repeat (refine A1 ⟨?_⟩; intros)
    exact endHN _ _ end0 (List.nil_sublist _) ⟨by simp only [okN, dp1, dp2, dk1, dk4, dk5, dk6, dn6, dr1, do1, dy1, dx1, Bool.and_true, Bool.true_and, Bool.and_false, Bool.false_and, Bool.or_true, Bool.true_or, Bool.or_false, Bool.false_or], rfl, rfl⟩
  by_cases q5 : n.k = 5
  case pos =>
    have dk1 : decide (n.k = 1) = false := decide_eq_false (by omega)
    have dk4 : decide (n.k = 4) = false := decide_eq_false (by omega)
    have dk5 : decide (n.k = 5) = true := decide_eq_true (by omega)
    have dk6 : decide (n.k = 6) = false := decide_eq_false (by omega)
    have dn6 : decide (n.k ≠ 6) = true := decide_eq_true (by omega)
    by_cases r1 : n.nm.length = 0
    case neg =>
      have dr1 := decide_eq_false r1
      have sr1 := nil_dec.2 r1
      repeat (refine A1 ⟨?_⟩; intros)
      refine WneedF ?_
      rw [hC]
      exact ⟨by simp only [okN, dp1, dp2, dk1, dk4, dk5, dk6, dn6, dr1, Bool.and_true, Bool.true_and, Bool.and_false, Bool.false_and, Bool.or_true, Bool.true_or, Bool.or_false, Bool.false_or], rfl⟩
    have dr1 := decide_eq_true r1
    have sr1 := nil_dec.1 r1
    repeat (refine A1 ⟨?_⟩; intros)
    refine WneedT ?_
    cases z1 : zp n.a n.b with
    | false =>
      rw [z1] at c1
      repeat (first | (refine A1 ⟨?_⟩; intros) | (refine Wcx (c1) ?_) | (refine Wdcx (c1) ?_) | (refine Wcgx (c1) ?_) | (refine Wdcgx (c1) ?_) | (refine Wcx (c2) ?_) | (refine Wdcx (c2) ?_) | (refine Wcgx (c2) ?_) | (refine Wdcgx (c2) ?_))
      refine WneedF ?_
      rw [hC]
      exact ⟨by simp only [okN, dp1, dp2, dk1, dk4, dk5, dk6, dn6, dr1, z1, Bool.and_true, Bool.true_and, Bool.and_false, Bool.false_and, Bool.or_true, Bool.true_or, Bool.or_false, Bool.false_or], rfl⟩
    | true =>
      rw [z1] at c1
      cases z2 : zp n.c n.e with
      | false =>
        rw [z2] at c2
        repeat (first | (refine A1 ⟨?_⟩; intros) | (refine Wcx (c1) ?_) | (refine Wdcx (c1) ?_) | (refine Wcgx (c1) ?_) | (refine Wdcgx (c1) ?_) | (refine Wcx (c2) ?_) | (refine Wdcx (c2) ?_) | (refine Wcgx (c2) ?_) | (refine Wdcgx (c2) ?_))
        refine WneedF ?_
        rw [hC]
        exact ⟨by simp only [okN, dp1, dp2, dk1, dk4, dk5, dk6, dn6, dr1, z1, z2, Bool.and_true, Bool.true_and, Bool.and_false, Bool.false_and, Bool.or_true, Bool.true_or, Bool.or_false, Bool.false_or], rfl⟩
      | true =>
        rw [z2] at c2
        repeat (first | (refine A1 ⟨?_⟩; intros) | (refine Wcx (c1) ?_) | (refine Wdcx (c1) ?_) | (refine Wcgx (c1) ?_) | (refine Wdcgx (c1) ?_) | (refine Wcx (c2) ?_) | (refine Wdcx (c2) ?_) | (refine Wcgx (c2) ?_) | (refine Wdcgx (c2) ?_))
        refine WneedT ?_
        by_cases o1 : n.op = 0
        case neg =>
          have do1 := decide_eq_false o1
          repeat (refine A1 ⟨?_⟩; intros)
          refine WneedF ?_
          rw [hC]
          exact ⟨by simp only [okN, dp1, dp2, dk1, dk4, dk5, dk6, dn6, dr1, z1, z2, do1, Bool.and_true, Bool.true_and, Bool.and_false, Bool.false_and, Bool.or_true, Bool.true_or, Bool.or_false, Bool.false_or], rfl⟩
        have do1 := decide_eq_true o1
        repeat (refine A1 ⟨?_⟩; intros)
        refine WneedT ?_
        by_cases y1 : n.y = 0
        case neg =>
          have dy1 := decide_eq_false y1
          repeat (refine A1 ⟨?_⟩; intros)
          refine WneedF ?_
          rw [hC]
          exact ⟨by simp only [okN, dp1, dp2, dk1, dk4, dk5, dk6, dn6, dr1, z1, z2, do1, dy1, Bool.and_true, Bool.true_and, Bool.and_false, Bool.false_and, Bool.or_true, Bool.true_or, Bool.or_false, Bool.false_or], rfl⟩
        have dy1 := decide_eq_true y1
        repeat (refine A1 ⟨?_⟩; intros)
        refine WneedT ?_
        repeat (refine A1 ⟨?_⟩; intros)
        refine WneedT ?_
        repeat (refine A1 ⟨?_⟩; intros)
        exact endHN _ _ end0 (List.nil_sublist _) ⟨by simp only [okN, dp1, dp2, dk1, dk4, dk5, dk6, dn6, dr1, z1, z2, do1, dy1, Bool.and_true, Bool.true_and, Bool.and_false, Bool.false_and, Bool.or_true, Bool.true_or, Bool.or_false, Bool.false_or], rfl, rfl⟩
  by_cases q6 : n.k = 6
  case pos =>
    have dk1 : decide (n.k = 1) = false := decide_eq_false (by omega)
    have dk4 : decide (n.k = 4) = false := decide_eq_false (by omega)
    have dk5 : decide (n.k = 5) = false := decide_eq_false (by omega)
    have dk6 : decide (n.k = 6) = true := decide_eq_true (by omega)
    have dn6 : decide (n.k ≠ 6) = false := decide_eq_false (by omega)
    by_cases r1 : n.nm.length = 0
    case neg =>
      have dr1 := decide_eq_false r1
      have sr1 := nil_dec.2 r1
      repeat (refine A1 ⟨?_⟩; intros)
      refine WneedF ?_
      rw [hC]
      exact ⟨by simp only [okN, dp1, dp2, dk1, dk4, dk5, dk6, dn6, dr1, Bool.and_true, Bool.true_and, Bool.and_false, Bool.false_and, Bool.or_true, Bool.true_or, Bool.or_false, Bool.false_or], rfl⟩
    have dr1 := decide_eq_true r1
    have sr1 := nil_dec.1 r1
    repeat (refine A1 ⟨?_⟩; intros)
    refine WneedT ?_
    cases z1 : zp n.a n.b with
    | false =>
      rw [z1] at c1
      repeat (first | (refine A1 ⟨?_⟩; intros) | (refine Wcx (c1) ?_) | (refine Wdcx (c1) ?_) | (refine Wcgx (c1) ?_) | (refine Wdcgx (c1) ?_) | (refine Wcx (c2) ?_) | (refine Wdcx (c2) ?_) | (refine Wcgx (c2) ?_) | (refine Wdcgx (c2) ?_))
      refine WneedF ?_
      rw [hC]
      exact ⟨by simp only [okN, dp1, dp2, dk1, dk4, dk5, dk6, dn6, dr1, z1, Bool.and_true, Bool.true_and, Bool.and_false, Bool.false_and, Bool.or_true, Bool.true_or, Bool.or_false, Bool.false_or], rfl⟩
    | true =>
      rw [z1] at c1
      cases z2 : zp n.c n.e with
      | false =>
        rw [z2] at c2
        repeat (first | (refine A1 ⟨?_⟩; intros) | (refine Wcx (c1) ?_) | (refine Wdcx (c1) ?_) | (refine Wcgx (c1) ?_) | (refine Wdcgx (c1) ?_) | (refine Wcx (c2) ?_) | (refine Wdcx (c2) ?_) | (refine Wcgx (c2) ?_) | (refine Wdcgx (c2) ?_))
        refine WneedF ?_
        rw [hC]
        exact ⟨by simp only [okN, dp1, dp2, dk1, dk4, dk5, dk6, dn6, dr1, z1, z2, Bool.and_true, Bool.true_and, Bool.and_false, Bool.false_and, Bool.or_true, Bool.true_or, Bool.or_false, Bool.false_or], rfl⟩
      | true =>
        rw [z2] at c2
        repeat (first | (refine A1 ⟨?_⟩; intros) | (refine Wcx (c1) ?_) | (refine Wdcx (c1) ?_) | (refine Wcgx (c1) ?_) | (refine Wdcgx (c1) ?_) | (refine Wcx (c2) ?_) | (refine Wdcx (c2) ?_) | (refine Wcgx (c2) ?_) | (refine Wdcgx (c2) ?_))
        refine WneedT ?_
        by_cases o1 : 1 ≤ n.op
        case neg =>
          have do1 := decide_eq_false o1
          repeat (refine A1 ⟨?_⟩; intros)
          refine WneedF ?_
          rw [hC]
          exact ⟨by simp only [okN, dp1, dp2, dk1, dk4, dk5, dk6, dn6, dr1, z1, z2, do1, Bool.and_true, Bool.true_and, Bool.and_false, Bool.false_and, Bool.or_true, Bool.true_or, Bool.or_false, Bool.false_or], rfl⟩
        have do1 := decide_eq_true o1
        by_cases o2 : n.op ≤ 4
        case neg =>
          have do2 := decide_eq_false o2
          repeat (refine A1 ⟨?_⟩; intros)
          refine WneedF ?_
          rw [hC]
          exact ⟨by simp only [okN, dp1, dp2, dk1, dk4, dk5, dk6, dn6, dr1, z1, z2, do1, do2, Bool.and_true, Bool.true_and, Bool.and_false, Bool.false_and, Bool.or_true, Bool.true_or, Bool.or_false, Bool.false_or], rfl⟩
        have do2 := decide_eq_true o2
        repeat (refine A1 ⟨?_⟩; intros)
        refine WneedT ?_
        repeat (refine A1 ⟨?_⟩; intros)
        refine WneedT ?_
        repeat (refine A1 ⟨?_⟩; intros)
        refine WneedT ?_
        repeat (refine A1 ⟨?_⟩; intros)
        exact endHN _ _ end0 (List.nil_sublist _) ⟨by simp only [okN, dp1, dp2, dk1, dk4, dk5, dk6, dn6, dr1, z1, z2, do1, do2, Bool.and_true, Bool.true_and, Bool.and_false, Bool.false_and, Bool.or_true, Bool.true_or, Bool.or_false, Bool.false_or], rfl, rfl⟩
  have dk1 : decide (n.k = 1) = false := decide_eq_false (by omega)
  have dk4 : decide (n.k = 4) = false := decide_eq_false (by omega)
  have dk5 : decide (n.k = 5) = false := decide_eq_false (by omega)
  have dk6 : decide (n.k = 6) = false := decide_eq_false (by omega)
  have dn6 : decide (n.k ≠ 6) = true := decide_eq_true (by omega)
  by_cases r1 : n.nm.length = 0
  case neg =>
    have dr1 := decide_eq_false r1
    have sr1 := nil_dec.2 r1
    repeat (refine A1 ⟨?_⟩; intros)
    refine WneedF ?_
    rw [hC]
    exact ⟨by simp only [okN, dp1, dp2, dk1, dk4, dk5, dk6, dn6, dr1, Bool.and_true, Bool.true_and, Bool.and_false, Bool.false_and, Bool.or_true, Bool.true_or, Bool.or_false, Bool.false_or], rfl⟩
  have dr1 := decide_eq_true r1
  have sr1 := nil_dec.1 r1
  repeat (refine A1 ⟨?_⟩; intros)
  refine WneedT ?_
  cases z1 : zp n.a n.b with
  | false =>
    rw [z1] at c1
    repeat (first | (refine A1 ⟨?_⟩; intros) | (refine Wcx (c1) ?_) | (refine Wdcx (c1) ?_) | (refine Wcgx (c1) ?_) | (refine Wdcgx (c1) ?_) | (refine Wcx (c2) ?_) | (refine Wdcx (c2) ?_) | (refine Wcgx (c2) ?_) | (refine Wdcgx (c2) ?_))
    refine WneedF ?_
    rw [hC]
    exact ⟨by simp only [okN, dp1, dp2, dk1, dk4, dk5, dk6, dn6, dr1, z1, Bool.and_true, Bool.true_and, Bool.and_false, Bool.false_and, Bool.or_true, Bool.true_or, Bool.or_false, Bool.false_or], rfl⟩
  | true =>
    rw [z1] at c1
    cases z2 : zp n.c n.e with
    | false =>
      rw [z2] at c2
      repeat (first | (refine A1 ⟨?_⟩; intros) | (refine Wcx (c1) ?_) | (refine Wdcx (c1) ?_) | (refine Wcgx (c1) ?_) | (refine Wdcgx (c1) ?_) | (refine Wcx (c2) ?_) | (refine Wdcx (c2) ?_) | (refine Wcgx (c2) ?_) | (refine Wdcgx (c2) ?_))
      refine WneedF ?_
      rw [hC]
      exact ⟨by simp only [okN, dp1, dp2, dk1, dk4, dk5, dk6, dn6, dr1, z1, z2, Bool.and_true, Bool.true_and, Bool.and_false, Bool.false_and, Bool.or_true, Bool.true_or, Bool.or_false, Bool.false_or], rfl⟩
    | true =>
      rw [z2] at c2
      repeat (first | (refine A1 ⟨?_⟩; intros) | (refine Wcx (c1) ?_) | (refine Wdcx (c1) ?_) | (refine Wcgx (c1) ?_) | (refine Wdcgx (c1) ?_) | (refine Wcx (c2) ?_) | (refine Wdcx (c2) ?_) | (refine Wcgx (c2) ?_) | (refine Wdcgx (c2) ?_))
      refine WneedT ?_
      by_cases o1 : n.op = 0
      case neg =>
        have do1 := decide_eq_false o1
        repeat (refine A1 ⟨?_⟩; intros)
        refine WneedF ?_
        rw [hC]
        exact ⟨by simp only [okN, dp1, dp2, dk1, dk4, dk5, dk6, dn6, dr1, z1, z2, do1, Bool.and_true, Bool.true_and, Bool.and_false, Bool.false_and, Bool.or_true, Bool.true_or, Bool.or_false, Bool.false_or], rfl⟩
      have do1 := decide_eq_true o1
      repeat (refine A1 ⟨?_⟩; intros)
      refine WneedT ?_
      by_cases y1 : n.y = 0
      case neg =>
        have dy1 := decide_eq_false y1
        repeat (refine A1 ⟨?_⟩; intros)
        refine WneedF ?_
        rw [hC]
        exact ⟨by simp only [okN, dp1, dp2, dk1, dk4, dk5, dk6, dn6, dr1, z1, z2, do1, dy1, Bool.and_true, Bool.true_and, Bool.and_false, Bool.false_and, Bool.or_true, Bool.true_or, Bool.or_false, Bool.false_or], rfl⟩
      have dy1 := decide_eq_true y1
      repeat (refine A1 ⟨?_⟩; intros)
      refine WneedT ?_
      by_cases x1 : n.x = 0
      case neg =>
        have dx1 := decide_eq_false x1
        repeat (refine A1 ⟨?_⟩; intros)
        refine WneedF ?_
        rw [hC]
        exact ⟨by simp only [okN, dp1, dp2, dk1, dk4, dk5, dk6, dn6, dr1, z1, z2, do1, dy1, dx1, Bool.and_true, Bool.true_and, Bool.and_false, Bool.false_and, Bool.or_true, Bool.true_or, Bool.or_false, Bool.false_or], rfl⟩
      have dx1 := decide_eq_true x1
      repeat (refine A1 ⟨?_⟩; intros)
      refine WneedT ?_
      repeat (refine A1 ⟨?_⟩; intros)
      exact endHN _ _ end0 (List.nil_sublist _) ⟨by simp only [okN, dp1, dp2, dk1, dk4, dk5, dk6, dn6, dr1, z1, z2, do1, dy1, dx1, Bool.and_true, Bool.true_and, Bool.and_false, Bool.false_and, Bool.or_true, Bool.true_or, Bool.or_false, Bool.false_or], rfl, rfl⟩
def ics (l : List Nat) : List SV := l.map fun s => lit (.int .i64 (s : Nat))
theorem ics_len (l : List Nat) : (ics l).length = l.length := by simp [ics]
theorem ics_get {l : List Nat} {i : Nat} (h : i < l.length) : (ics l)[i]? = some (lit (.int .i64 (l.getD i 0 : Nat))) := by simp [ics, List.getD, h]
theorem ics_set {l : List Nat} {i : Nat} (x : Nat) : spl (ics l) i [lit (.int .i64 (x : Nat))] = ics (l.set i x) := by
  unfold ics
  simp only [spl, List.map_set]
theorem ics_rep (k : Nat) : List.replicate k (lit (.int .i64 0)) = ics (List.replicate k 0) := by simp [ics]
theorem ble_ics {l : List Nat} {i : Nat} (h : i < l.length) : Nat.ble (i + 1) (ics l).length = true := by
  apply Nat.ble_eq_true_of_le
  rw [ics_len]; omega
def step1 (ss : List Nat) (n : Nd) : Option Nat :=
  if okN n = true then
    if n.k = 5 then (if 0 < ss.length ∧ n.x = (ss.length : Int) - 1 then some (1 + ss.getD (ss.length - 1) 0) else none)
    else if n.k = 6 then
      (if (0 < ss.length ∧ n.y = (ss.length : Int) - 1) ∧ ss.getD (ss.length - 1) 0 + 1 ≤ ss.length ∧ n.x = (ss.length : Int) - 1 - (ss.getD (ss.length - 1) 0 : Nat) then some (1 + ss.getD (ss.length - 1) 0 + ss.getD (ss.length - 1 - ss.getD (ss.length - 1) 0) 0) else none)
    else some 1
  else none
def sizes : List Nd → List Nat → Option (List Nat)
  | [], ss => some ss
  | n :: ns, ss => match step1 ss n with
    | some s => sizes ns (ss ++ [s])
    | none => none
def okL (ns : List Nd) : Bool := match sizes ns [] with
  | some ss => decide (0 < ns.length) && decide (ss.getD (ns.length - 1) 0 = ns.length)
  | none => false
theorem sizes_cons (n : Nd) (ns : List Nd) (ss : List Nat) : sizes (n :: ns) ss = match step1 ss n with
    | some s => sizes ns (ss ++ [s])
    | none => none := rfl
theorem ics_set' {l : List Nat} {i : Nat} {z : Int} (x : Nat) (h : z = (x : Nat)) : spl (ics l) i [lit (.int .i64 z)] = ics (l.set i x) := by subst h; exact ics_set x
theorem okL_none {ns : List Nd} (h : sizes ns [] = none) : okL ns = false := by unfold okL; rw [h]
theorem ndx_len (n : Nd) : (ndx n).length = 19 := rfl
theorem drop_cons {α : Type} {l : List α} {k : Nat} {x : α} (h : l[k]? = some x) : l.drop k = x :: l.drop (k + 1) := by
  obtain ⟨hk, rfl⟩ := List.getElem?_eq_some_iff.1 h
  exact List.drop_eq_getElem_cons hk
theorem take_set1 {os : List Nat} {k x : Nat} (h : k < os.length) : (os.set k x).take (k + 1) = os.take k ++ [x] := by
  rw [List.take_add_one]
  congr 1
  · rw [List.take_set]; apply List.set_eq_of_length_le; rw [List.length_take]; omega
  · simp [h]
theorem take_getD {os : List Nat} {k j : Nat} (h : j < k) : (os.take k).getD j 0 = os.getD j 0 := by
  simp only [List.getD, List.getElem?_take, if_pos h]
set_option maxHeartbeats 1000000 in
theorem checkList_pu (ns : List Nd) {L : Nat} (hok : ∀ n ∈ ns, n.ok L) (hL : L ≤ 1000) (hlen : ns.length ≤ 100000) : PuH Tryz.prog 159 [sl (ns.map ndx).flatten ns.length] [] (fun r H => okL ns = true ∧ r = Ab.tup [] ∧ H = []) (fun pv _ => okL ns = false ∧ pv = inval) := by
  by_cases h0 : ns.length = 0
  · refine PuH.intro Tryz.func159 rfl (by kernel_rfl) fun C hC => ?_
    repeat (refine A1 ⟨?_⟩; intros)
    refine WneedF ?_
    rw [hC]
    have e : ns = [] := List.eq_nil_of_length_eq_zero h0
    subst e
    exact ⟨rfl, rfl⟩
  · refine PuH.intro Tryz.func159 rfl (by kernel_rfl) fun C hC => ?_
    repeat (refine A1 ⟨?_⟩; intros)
    refine WneedT ?_
    repeat (refine A1 ⟨?_⟩; intros)
    refine WPL.make (k := ns.length) rfl rfl (by omega) (by omega) rfl fun bb => ?_
    rw [ics_rep]
    repeat (refine A1 ⟨?_⟩; intros)
    refine WP.loopS (ι := Nat × List Nat) (fun x => x.1 ≤ ns.length ∧ x.2.length = ns.length ∧ sizes (ns.drop x.1) (x.2.take x.1) = sizes ns [] ∧ ∀ j, j < x.1 → x.2.getD j 0 ≤ j + 1) (fun x => ns.length - x.1)
      (fun x => fm [(0, sl (ns.map ndx).flatten ns.length), (2, lit (.slice (some ⟨bb, 0, none⟩) ns.length ns.length)), (13, sl (ns.map ndx).flatten ns.length), (14, lit (.int .i64 ns.length)), (15, lit (.int .i64 x.1))]) (fun x => [(bb, 3, ics x.2)]) (0, List.replicate ns.length 0)
      ⟨Nat.zero_le _, by simp, by simp, fun j hj => by omega⟩ (by (repeat (first | exact LeF.nil _ | refine LeF.cons (Le.refl _) ?_ | refine LeF.cons (Le.int (by omega)) ?_))) (List.Sublist.refl _) ?_
    rintro ⟨k, os⟩ ⟨hk, hol, hsz, hb⟩ K hK
    simp only at hk hol hsz hb ⊢
    by_cases hkl : k < ns.length
    · have hget := List.getElem?_eq_getElem hkl
      generalize ns[k] = n at hget
      have hmem : n ∈ ns := List.mem_of_getElem? hget
      have hat := flat_at (f := ndx) (n := 19) ndx_len hget
      have hne : (ns.map ndx).flatten ≠ [] := flat_ne ndx_len (by omega) (fun e => by rw [e] at hkl; simp at hkl)
      have c0 := checkExpr_pu n (hok n hmem) hL
      have hlt : (os.take k).length = k := by rw [List.length_take]; omega
      rw [drop_cons hget, sizes_cons] at hsz
      have hfail : step1 (os.take k) n = none → okL ns = false := fun h => okL_none (by rw [h] at hsz; exact hsz.symm)
      have hgo : ∀ s, step1 (os.take k) n = some s → s ≤ k + 1 → ∀ F' H', LeF F' (fm [(0, sl (ns.map ndx).flatten ns.length), (2, lit (.slice (some ⟨bb, 0, none⟩) ns.length ns.length)), (13, sl (ns.map ndx).flatten ns.length), (14, lit (.int .i64 ns.length)), (15, lit (.int .i64 (k + 1 : Nat)))]) → [(bb, 3, ics (os.set k s))].Sublist H' → K F' H' := fun s hs hle F' H' h1 h2 =>
        hK F' H' (k + 1, os.set k s) ⟨by simp only; omega, by simp only; rw [List.length_set]; exact hol, by
          simp only
          rw [hs] at hsz
          rw [take_set1 (by omega)]; exact hsz, fun j hj => by
          simp only at hj ⊢
          by_cases hjk : j = k
          · subst hjk; simp only [List.getD, List.getElem?_set_self (show j < os.length by omega), Option.getD_some]; exact hle
          · have := hb j (by omega)
            simp only [List.getD, List.getElem?_set_ne (Ne.symm hjk)] at this ⊢
            exact this⟩ (by simp only; omega) h1 h2
      clear hK hsz
      repeat (refine A1 ⟨?_⟩; intros)
      refine Wo (ov_idxS (cs' := ndx n) rfl rfl (by omega) (by omega) hat hne) ?_
      repeat (refine A1 ⟨?_⟩; intros)
      refine WfX c0 ?_ ?_
      case refine_2 =>
        rintro _ _ ⟨e, rfl⟩
        rw [hC]
        exact ⟨hfail (by unfold step1; rw [if_neg (by rw [e]; decide)]), rfl⟩
      rintro _ _ ⟨e, rfl, rfl⟩
      simp only [List.cons_append, List.nil_append, List.append_nil]
      by_cases k5 : n.k = 5
      case pos =>
        by_cases hk0 : 0 < k
        case neg =>
          repeat (refine A1 ⟨?_⟩; intros)
          refine WneedF ?_
          rw [hC]
          exact ⟨hfail (by unfold step1; rw [if_pos e, if_pos k5, hlt, if_neg (fun h => hk0 h.1)]), rfl⟩
        by_cases hx : n.x = (k : Int) - 1
        case neg =>
          repeat (refine A1 ⟨?_⟩; intros)
          refine WneedF ?_
          rw [hC]
          exact ⟨hfail (by unfold step1; rw [if_pos e, if_pos k5, hlt, if_neg (fun h => hx h.2)]), rfl⟩
        have hs : step1 (os.take k) n = some (1 + os.getD (k - 1) 0) := by
          unfold step1; rw [if_pos e, if_pos k5, hlt, if_pos ⟨hk0, hx⟩, take_getD (by omega)]
        have hb1 := hb (k - 1) (by omega)
        have hgo' := hgo _ hs (by omega)
        clear hgo hfail hs hb
        repeat (refine A1 ⟨?_⟩; intros)
        refine WneedT ?_
        repeat (refine A1 ⟨?_⟩; intros)
        refine Wo (ov_loadL rfl (by repeat (first | exact List.mem_cons_self | apply List.mem_cons_of_mem)) (ics_get (by omega))) ?_
        repeat (refine A1 ⟨?_⟩; intros)
        refine WPL.store (b := bb) (o := k) (sv := lit (.int .i64 (1 + (os.getD (k - 1) 0 : Nat)))) (cs' := ics (os.set k (1 + os.getD (k - 1) 0))) rfl rfl rfl (.there _ (.here _)) (ics_set' _ (by omega)) (ble_ics (by omega)) ?_
        repeat (refine A1 ⟨?_⟩; intros)
        exact hgo' _ _ (by (repeat (first | exact LeF.nil _ | refine LeF.cons (Le.refl _) ?_ | refine LeF.cons (Le.int (by omega)) ?_))) (List.Sublist.cons _ (List.Sublist.refl _))
      by_cases k6 : n.k = 6
      case pos =>
        by_cases hk0 : 0 < k
        case neg =>
          repeat (refine A1 ⟨?_⟩; intros)
          refine WneedF ?_
          rw [hC]
          exact ⟨hfail (by unfold step1; rw [if_pos e, if_neg k5, if_pos k6, hlt, if_neg (fun h => hk0 h.1.1)]), rfl⟩
        by_cases hy : n.y = (k : Int) - 1
        case neg =>
          repeat (refine A1 ⟨?_⟩; intros)
          refine WneedF ?_
          rw [hC]
          exact ⟨hfail (by unfold step1; rw [if_pos e, if_neg k5, if_pos k6, hlt, if_neg (fun h => hy h.1.2)]), rfl⟩
        have hb1 := hb (k - 1) (by omega)
        have hs0 : step1 (os.take k) n = (if (0 < k ∧ n.y = (k : Int) - 1) ∧ os.getD (k - 1) 0 + 1 ≤ k ∧ n.x = (k : Int) - 1 - (os.getD (k - 1) 0 : Nat) then some (1 + os.getD (k - 1) 0 + (os.take k).getD (k - 1 - os.getD (k - 1) 0) 0) else none) := by
          unfold step1; rw [if_pos e, if_neg k5, if_pos k6, hlt, take_getD (by omega)]
        repeat (refine A1 ⟨?_⟩; intros)
        refine WneedT ?_
        repeat (refine A1 ⟨?_⟩; intros)
        refine Wo (ov_loadL rfl (by repeat (first | exact List.mem_cons_self | apply List.mem_cons_of_mem)) (ics_get (by omega))) ?_
        generalize hs1 : os.getD (k - 1) 0 = s1 at *
        by_cases hl : s1 + 1 ≤ k
        case neg =>
          repeat (refine A1 ⟨?_⟩; intros)
          refine WneedF ?_
          rw [hC]
          exact ⟨hfail (by rw [hs0, if_neg (fun h => hl h.2.1)]), rfl⟩
        by_cases hx : n.x = (k : Int) - 1 - (s1 : Nat)
        case neg =>
          repeat (refine A1 ⟨?_⟩; intros)
          refine WneedF ?_
          rw [hC]
          exact ⟨hfail (by rw [hs0, if_neg (fun h => hx h.2.2)]), rfl⟩
        rw [if_pos ⟨⟨hk0, hy⟩, hl, hx⟩, take_getD (by omega)] at hs0
        have hb2 := hb (k - 1 - s1) (by omega)
        have hgo' := hgo _ hs0 (by omega)
        clear hgo hfail hs0 hb
        repeat (refine A1 ⟨?_⟩; intros)
        refine WneedT ?_
        repeat (refine A1 ⟨?_⟩; intros)
        refine Wdo (ov_loadL rfl (by repeat (first | exact List.mem_cons_self | apply List.mem_cons_of_mem)) (ics_get (by omega))) ?_
        rw [hs1]
        repeat (refine A1 ⟨?_⟩; intros)
        rw [show ((k : Int) - 1 - (s1 : Int)).toNat * 1 = k - 1 - s1 by omega]
        refine Wdo (ov_loadL rfl (by repeat (first | exact List.mem_cons_self | apply List.mem_cons_of_mem)) (ics_get (by omega))) ?_
        repeat (refine A1 ⟨?_⟩; intros)
        refine WPL.store (b := bb) (o := k) (sv := lit (.int .i64 (1 + s1 + (os.getD (k - 1 - s1) 0 : Nat)))) (cs' := ics (os.set k (1 + s1 + os.getD (k - 1 - s1) 0))) rfl rfl rfl (.there _ (.here _)) (ics_set' _ (by omega)) (ble_ics (by omega)) ?_
        repeat (refine A1 ⟨?_⟩; intros)
        exact hgo' _ _ (by (repeat (first | exact LeF.nil _ | refine LeF.cons (Le.refl _) ?_ | refine LeF.cons (Le.int (by omega)) ?_))) (List.Sublist.cons _ (List.Sublist.refl _))
      have hs : step1 (os.take k) n = some 1 := by
        unfold step1; rw [if_pos e, if_neg k5, if_neg k6]
      have hgo' := hgo _ hs (by omega)
      clear hgo hfail hs hb
      repeat (refine A1 ⟨?_⟩; intros)
      refine WPL.store (b := bb) (o := k) (sv := lit (.int .i64 1)) (cs' := ics (os.set k 1)) rfl rfl rfl (.there _ (.here _)) (ics_set' _ rfl) (ble_ics (by omega)) ?_
      repeat (refine A1 ⟨?_⟩; intros)
      exact hgo' _ _ (by (repeat (first | exact LeF.nil _ | refine LeF.cons (Le.refl _) ?_ | refine LeF.cons (Le.int (by omega)) ?_))) (List.Sublist.cons _ (List.Sublist.refl _))
    · have hke : k = ns.length := by omega
      subst hke
      rw [List.drop_length, List.take_of_length_le (by omega)] at hsz
      have hz : okL ns = (decide (0 < ns.length) && decide (os.getD (ns.length - 1) 0 = ns.length)) := by unfold okL; rw [← hsz]; rfl
      clear hK
      have hb1 := hb (ns.length - 1) (by omega)
      clear hb hsz
      repeat (refine A1 ⟨?_⟩; intros)
      refine Wo (ov_loadL rfl (by repeat (first | exact List.mem_cons_self | apply List.mem_cons_of_mem)) (ics_get (by omega))) ?_
      by_cases hf : os.getD (ns.length - 1) 0 = ns.length
      · repeat (refine A1 ⟨?_⟩; intros)
        refine WneedT ?_
        repeat (refine A1 ⟨?_⟩; intros)
        exact endHN _ _ end0 (List.nil_sublist _) ⟨by rw [hz, decide_eq_true hf, decide_eq_true (by omega)]; rfl, rfl, rfl⟩
      · repeat (refine A1 ⟨?_⟩; intros)
        refine WneedF ?_
        rw [hC]
        exact ⟨by rw [hz, decide_eq_false hf, Bool.and_false], rfl⟩
section
variable {P : Program} {C : Ctx} {n : Nat} {F : Fr} {H : LH} {ops : Array Oper} {K : Fr → LH → Prop} {rest : List Oper} {ty : TypeId} {pos : String} {aft : Array Edge}
theorem WvX {x : Operand} {f : FuncId} {first caps : List SV} {d : Nat} {l : List Operand} {tys : Array TypeId} {svs : List SV} {Hin Rs : LH} {R X : SV → LH → Prop} (hc : PuH P f svs Hin R X) (k : ∀ res H', R res H' → WPL P C n ops rest K (upd F d res) (Rs ++ H')) (kx : ∀ pv H', X pv H' → C.pan pv (H' ++ Rs))
    (hs : Tk H Hin Rs) (hx : ev F x = fnv f first caps := by exact rfl) (ha : first ++ l.map (ev F) ++ caps = svs := by exact rfl) (hd : Nat.blt d n = true := by exact rfl) :
    WPL P C n ops (⟨some d, .call ⟨.value x, l.toArray, tys⟩, ty, pos, aft, none⟩ :: rest) K F H :=
  .perm hs.perm (.callH hx hc (Spl.app _ _) ha hd (fun res H' h => .perm List.perm_append_comm (k res H' h)) fun pv H' h => kx pv H' h)
end
theorem deeper_pu {w d f : Nat} {l l' : List UInt8} {H Hc : LH} {caps : List SV} {good : Bool} (h : Wtr w l d H) (hd : d < 200)
    (hc : ∀ H1, Wtr w l (d + 1) H1 → PuH Tryz.prog f caps (Hc ++ H1) (fun r H' => good = true ∧ r = Ab.tup [] ∧ ∃ H2, H' = Hc ++ H2 ∧ Wtr w l' (d + 1) H2) (fun pv _ => good = false ∧ pv = inval)) :
    PuH Tryz.prog 210 [lit (.pointer (some ⟨w, 0, none⟩)), fnv f [] caps] (H ++ Hc) (fun r H' => good = true ∧ r = Ab.tup [] ∧ ∃ H2, H' = H2 ++ Hc ∧ Wtr w l' d H2) (fun pv _ => good = false ∧ pv = inval) := by
  obtain ⟨a, s, Hb, ha, hb, rfl⟩ := h
  refine PuH.intro Tryz.func210 rfl (by kernel_rfl) fun C hC => ?_
  simp only [List.cons_append]
  repeat (refine A1 ⟨?_⟩; intros)
  refine WneedT ?_
  repeat (refine A1 ⟨?_⟩; intros)
  refine WPL.perm (List.perm_append_comm (l₁ := (w, 201, wrC a s (d + 1) false) :: Hb) (l₂ := Hc)) ?_
  refine WvX (hc _ ⟨a, s, Hb, ha, hb, rfl⟩) ?_ ?_ (Tk.same _)
  · rintro _ _ ⟨g, rfl, _, rfl, a', s', Hb', ha', hb', rfl⟩
    simp only [List.nil_append]
    refine WPL.perm List.perm_append_comm ?_
    simp only [List.cons_append]
    repeat (refine A1 ⟨?_⟩; intros)
    exact endHN _ _ end0 (List.Sublist.refl _) ⟨g, rfl, (w, 201, wrC a' s' d false) :: Hb', by rw [show ((d + 1 : Nat) : Int) - 1 = (d : Int) by omega]; rfl, a', s', Hb', ha', hb', rfl⟩
  · rintro _ _ ⟨g, rfl⟩
    rw [hC]
    exact ⟨g, rfl⟩
section
variable {P : Program} {F : Fr} {H : LH} {ty : TypeId}
theorem ov_buildA {T e : TypeId} {len k sz by_ by2 : Nat} {z z2 : List SV} {g g2 : Bool} [hE : TY P e k by2 z2 g2] [hT : TY P T sz by_ z g] (hA : P.underlying T = some (.array len e)) {l : List (Nat × Operand)} {r : List (Nat × List SV)} {cs : List SV}
    (hp : Parts F l r) (hf : fillS ((List.range len).map fun i => (i * k, k)) z r = some cs) : OpV P (.build T l.toArray) ty F H (ag cs) :=
  OpV.pure fun m w o a ho _ _ _ h => by
    obtain ⟨v, hz, hall⟩ := hT.run_zero w
    have hv : ∀ p ∈ l, (ev F p.2).p m (a.eval p.2) := fun p hp' => h p.2 (by simp only [Op.operands, List.mem_toArray, List.mem_map]; exact ⟨p, hp', rfl⟩)
    obtain ⟨arr', hfill, hall'⟩ := fill_all' (m := m) (ρ := a.eval) (fun i => some (i * k, k)) (fun i p h => by
      simp only [List.getElem?_map, Option.map_eq_some_iff] at h
      obtain ⟨j, hj, rfl⟩ := h
      obtain ⟨hlt, rfl⟩ := List.getElem?_eq_some_iff.1 hj
      simp) hp hv z v.cells cs (hall m) hf
    refine ⟨.agg arr', ?_, by unfold ag; exact ⟨arr', rfl, hall'⟩⟩
    simp only [execOp, ho, Instr.build, Sem.run_bind, hz, Result.andThen_ok, underlying, run_program, hA, Sem.run_pure, hE.run_size, List.map_toArray]
    rw [hfill]
    rfl
theorem ov_idxA {x ix : Operand} {T e : TypeId} {len k by2 : Nat} {z2 : List SV} {g2 : Bool} [hE : TY P e k by2 z2 g2] (hA : P.underlying T = some (.array len e)) {ki : IntKind} {b : Nat} {i : Int}
    (hx : ev F x = lit (.pointer (some ⟨b, 0, none⟩))) (hi : ev F ix = lit (.int ki i)) (h0 : 0 ≤ i) (h1 : i < len) : OpV P (.indexAddr T x ix) ty F H (lit (.pointer (some ⟨b, i.toNat * k, none⟩))) :=
  OpV.pure fun m w o a hop _ _ _ h => by
    have e0 := h x (by simp [Op.operands]); rw [hx, lit_p] at e0
    have e1 := h ix (by simp [Op.operands]); rw [hi, lit_p] at e1
    refine ⟨.pointer (some ⟨b, i.toNat * k, none⟩), ?_, lit_p.2 rfl⟩
    simp [execOp, hop, e0, e1, Instr.indexAt, Instr.sureAddr, asIntOf, underlying, hA, h0, h1, hE.run_size, add_none]
end
end Go.Ab
