/- Texts laid one behind the other: AfL, Tree, RTree, RTreeW, RTreeS, LateC, TreeB, AffT, Maps, ImgA, AfR. -/
import Derived.Test.YtjdnfbhbdfokcaaGreatDoorB17
import Derived.Test.YtjdnfbhbdfokcaaGreatDoorB13
import Derived.Test.YtjdnfbhbdfokcaaGreatDoorZip
import Derived.Test.YtjdnfbhbdfokcaaGreatDoorB15
import Derived.Test.YtjdnfbhbdfokcaaGreatDoorB03
import Derived.Test.YtjdnfbhbdfokcaaGreatDoorB16
import Derived.Test.YtjdnfbhbdfokcaaGreatDoorB18
import Derived.Test.YtjdnfbhbdfokcaaGreatDoorB19
set_option linter.unusedSectionVars false
set_option linter.unusedVariables false
set_option linter.unusedSimpArgs false
namespace Go.Ab
open Go.Proofs
variable [Base]
theorem nrmI_eq {s : Bool} {xs : List Nat} (hD : D xs) (h : nrmI s xs = true) : s = decide (sv s (val xs) < 0) ∧ xs = dgs (sv s (val xs)).natAbs := by
  unfold nrmI at h
  simp only [Bool.and_eq_true, Bool.or_eq_true, Bool.not_eq_true', decide_eq_true_eq] at h
  have b := nrm_eq hD h.1
  rw [sv_abs, sv_neg]
  refine ⟨?_, b⟩
  cases s with
  | false => rfl
  | true =>
    have hp : 0 < xs.length := by rcases h.2 with h' | h' <;> first | cases h' | exact h'
    have : 0 < val xs := Nat.pos_of_ne_zero fun e => by rw [e, dgs_zero] at b; rw [b] at hp; simp at hp
    simp [this]
structure RL where
  s : Bool
  x : List Nat
  t : Bool
  y : List Nat
  u : Bool
  z : List Nat
abbrev lraw (l : RL) : SV := ag [lit (.bool l.s), dg l.x, lit (.bool l.t), dg l.y, lit (.bool l.u), dg l.z]
structure RL.ok (l : RL) (L : Nat) : Prop where
  d1 : D l.x
  d2 : D l.y
  d3 : D l.z
  l1 : l.x.length ≤ L
  l2 : l.y.length ≤ L
  l3 : l.z.length ≤ L
def RL.v (l : RL) : Li := ⟨sv l.s (val l.x), sv l.t (val l.y), sv l.u (val l.z)⟩
def RL.nrm (l : RL) : Bool := nrmI l.s l.x && nrmI l.t l.y && nrmI l.u l.z
instance (l : Li) : Decidable l.ok := by unfold Li.ok; infer_instance
theorem RL.eq {l : RL} {L : Nat} (h : l.ok L) (hn : l.nrm = true) : lraw l = lq l.v := by
  unfold RL.nrm at hn
  simp only [Bool.and_eq_true] at hn
  obtain ⟨a1, a2⟩ := nrmI_eq h.d1 hn.1.1
  obtain ⟨b1, b2⟩ := nrmI_eq h.d2 hn.1.2
  obtain ⟨c1, c2⟩ := nrmI_eq h.d3 hn.2
  show ag [lit (.bool l.s), dg l.x, lit (.bool l.t), dg l.y, lit (.bool l.u), dg l.z] = ag [lit (.bool (decide (sv l.s (val l.x) < 0))), dg (dgs (sv l.s (val l.x)).natAbs), lit (.bool (decide (sv l.t (val l.y) < 0))), dg (dgs (sv l.t (val l.y)).natAbs), lit (.bool (decide (sv l.u (val l.z) < 0))), dg (dgs (sv l.u (val l.z)).natAbs)]
  rw [← a1, ← a2, ← b1, ← b2, ← c1, ← c2]
theorem RL.le {l : RL} {L : Nat} (h : l.ok L) : l.v.le L := ⟨Nat.le_trans (il_sv h.d1) h.l1, Nat.le_trans (il_sv h.d2) h.l2, Nat.le_trans (il_sv h.d3) h.l3⟩
abbrev lzero : SV := lf 0 0 0
set_option maxHeartbeats 2000000 in
theorem lnOf_bad {l : Li} (hl : ¬ l.ok) (h : l.le 100000) : Pu Tryz.prog 31 [lq l] (Ab.tup [lzero, lit (.bool false)]) := by
  obtain ⟨ha, hb, hc⟩ := h
  have e1 := ht_of_int l.a
  have e2 := ht_of_int l.b
  have e3 := ht_of_int l.c
  have n1 := intNormal_z l.a (by omega)
  have n2 := intNormal_z l.b (by omega)
  have n3 := intNormal_z l.c (by omega)
  have w1 := whole_pu l.a (by omega)
  have w2 := whole_pu l.b (by omega)
  have w3 := whole_pu l.c (by omega)
  have z1 := zero_pu (l.a : Rat)
  have z2 := zero_pu (l.b : Rat)
  rw [Rat.num_intCast] at z1 z2
  have hg1 := ht_rgcd (l.a : Rat) (l.b : Rat)
  have g1 := frgcd_pu (l.a : Rat) (l.b : Rat) (by omega) (by omega)
  have g2 := frgcd_pu (rgcd l.a l.b) (l.c : Rat) (by omega) (by omega)
  have hg2 := ht_rgcd (rgcd l.a l.b) (l.c : Rat)
  have hg : rgcd (rgcd l.a l.b) l.c = ((Nat.gcd (Nat.gcd l.a.natAbs l.b.natAbs) l.c.natAbs : Nat) : Rat) := by
    rw [rgcd_ints, show ((Nat.gcd l.a.natAbs l.b.natAbs : Nat) : Rat) = (((Nat.gcd l.a.natAbs l.b.natAbs : Nat) : Int) : Rat) from rfl, rgcd_ints, Int.natAbs_natCast]
  have f1 : Pu Tryz.prog 52 [lit (.int .i64 1)] (fr 1) := fint_pu 1 (by omega) (by omega)
  have q := fequal_pu (rgcd (rgcd l.a l.b) l.c) 1 (by omega) (by decide +kernel)
  have hq : (l.a ≠ 0 ∨ l.b ≠ 0) → ¬ rgcd (rgcd l.a l.b) l.c = 1 := fun hne e => by
    rw [hg] at e
    refine hl ⟨?_, hne⟩
    have : ((Nat.gcd (Nat.gcd l.a.natAbs l.b.natAbs) l.c.natAbs : Nat) : Rat) = ((1 : Nat) : Rat) := e
    exact_mod_cast this
  generalize rgcd (rgcd (l.a : Rat) (l.b : Rat)) (l.c : Rat) = G2 at *
  generalize rgcd (l.a : Rat) (l.b : Rat) = G at *
  clear hg hg1 hg2 e1 e2 e3 ha hb hc hl
  by_cases h0 : l.a = 0
  · rw [decide_eq_true h0] at z1
    by_cases h9 : l.b = 0
    · rw [decide_eq_true h9] at z2
      clear hq
      refine Pu.intro Tryz.func31 rfl (by kernel_rfl) fun C => ?_
      repeat (first | (refine A1 ⟨?_⟩; intros) | (refine Wcx (n1) ?_) | (refine Wdcx (n1) ?_) | (refine Wcgx (n1) ?_) | (refine Wdcgx (n1) ?_) | (refine Wcx (n2) ?_) | (refine Wdcx (n2) ?_) | (refine Wcgx (n2) ?_) | (refine Wdcgx (n2) ?_) | (refine Wcx (n3) ?_) | (refine Wdcx (n3) ?_) | (refine Wcgx (n3) ?_) | (refine Wdcgx (n3) ?_) | (refine Wcx (w1) ?_) | (refine Wdcx (w1) ?_) | (refine Wcgx (w1) ?_) | (refine Wdcgx (w1) ?_) | (refine Wcx (w2) ?_) | (refine Wdcx (w2) ?_) | (refine Wcgx (w2) ?_) | (refine Wdcgx (w2) ?_) | (refine Wcx (w3) ?_) | (refine Wdcx (w3) ?_) | (refine Wcgx (w3) ?_) | (refine Wdcgx (w3) ?_) | (refine Wcx (z1) ?_) | (refine Wdcx (z1) ?_) | (refine Wcgx (z1) ?_) | (refine Wdcgx (z1) ?_) | (refine Wcx (z2) ?_) | (refine Wdcx (z2) ?_) | (refine Wcgx (z2) ?_) | (refine Wdcgx (z2) ?_) | (refine Wcx (g1) ?_) | (refine Wdcx (g1) ?_) | (refine Wcgx (g1) ?_) | (refine Wdcgx (g1) ?_) | (refine Wcx (g2) ?_) | (refine Wdcx (g2) ?_) | (refine Wcgx (g2) ?_) | (refine Wdcgx (g2) ?_) | (refine Wcx (f1) ?_) | (refine Wdcx (f1) ?_) | (refine Wcgx (f1) ?_) | (refine Wdcgx (f1) ?_) | (refine Wcx (q) ?_) | (refine Wdcx (q) ?_) | (refine Wcgx (q) ?_) | (refine Wdcgx (q) ?_))
      ((first | refine endR ?_ | refine endN ?_); exact end2 (RV.cellA rfl (by repeat (first | exact List.mem_cons_self | apply List.mem_cons_of_mem)) (by (try simp only [List.drop_succ_cons, List.drop_zero, List.drop_nil, List.take_succ_cons, List.take_zero, List.take_nil, Nat.zero_add, Nat.add_zero, Nat.reduceAdd]) <;> exact rfl) rfl) (RV.tmp rfl) (Le.refl _))
    · rw [decide_eq_false h9] at z2
      rw [decide_eq_false (hq (.inr h9))] at q
      clear hq
      refine Pu.intro Tryz.func31 rfl (by kernel_rfl) fun C => ?_
      repeat (first | (refine A1 ⟨?_⟩; intros) | (refine Wcx (n1) ?_) | (refine Wdcx (n1) ?_) | (refine Wcgx (n1) ?_) | (refine Wdcgx (n1) ?_) | (refine Wcx (n2) ?_) | (refine Wdcx (n2) ?_) | (refine Wcgx (n2) ?_) | (refine Wdcgx (n2) ?_) | (refine Wcx (n3) ?_) | (refine Wdcx (n3) ?_) | (refine Wcgx (n3) ?_) | (refine Wdcgx (n3) ?_) | (refine Wcx (w1) ?_) | (refine Wdcx (w1) ?_) | (refine Wcgx (w1) ?_) | (refine Wdcgx (w1) ?_) | (refine Wcx (w2) ?_) | (refine Wdcx (w2) ?_) | (refine Wcgx (w2) ?_) | (refine Wdcgx (w2) ?_) | (refine Wcx (w3) ?_) | (refine Wdcx (w3) ?_) | (refine Wcgx (w3) ?_) | (refine Wdcgx (w3) ?_) | (refine Wcx (z1) ?_) | (refine Wdcx (z1) ?_) | (refine Wcgx (z1) ?_) | (refine Wdcgx (z1) ?_) | (refine Wcx (z2) ?_) | (refine Wdcx (z2) ?_) | (refine Wcgx (z2) ?_) | (refine Wdcgx (z2) ?_) | (refine Wcx (g1) ?_) | (refine Wdcx (g1) ?_) | (refine Wcgx (g1) ?_) | (refine Wdcgx (g1) ?_) | (refine Wcx (g2) ?_) | (refine Wdcx (g2) ?_) | (refine Wcgx (g2) ?_) | (refine Wdcgx (g2) ?_) | (refine Wcx (f1) ?_) | (refine Wdcx (f1) ?_) | (refine Wcgx (f1) ?_) | (refine Wdcgx (f1) ?_) | (refine Wcx (q) ?_) | (refine Wdcx (q) ?_) | (refine Wcgx (q) ?_) | (refine Wdcgx (q) ?_))
      ((first | refine endR ?_ | refine endN ?_); exact end2 (RV.cellA rfl (by repeat (first | exact List.mem_cons_self | apply List.mem_cons_of_mem)) (by (try simp only [List.drop_succ_cons, List.drop_zero, List.drop_nil, List.take_succ_cons, List.take_zero, List.take_nil, Nat.zero_add, Nat.add_zero, Nat.reduceAdd]) <;> exact rfl) rfl) (RV.tmp rfl) (Le.refl _))
  · rw [decide_eq_false h0] at z1
    rw [decide_eq_false (hq (.inl h0))] at q
    clear hq z2
    refine Pu.intro Tryz.func31 rfl (by kernel_rfl) fun C => ?_
    repeat (first | (refine A1 ⟨?_⟩; intros) | (refine Wcx (n1) ?_) | (refine Wdcx (n1) ?_) | (refine Wcgx (n1) ?_) | (refine Wdcgx (n1) ?_) | (refine Wcx (n2) ?_) | (refine Wdcx (n2) ?_) | (refine Wcgx (n2) ?_) | (refine Wdcgx (n2) ?_) | (refine Wcx (n3) ?_) | (refine Wdcx (n3) ?_) | (refine Wcgx (n3) ?_) | (refine Wdcgx (n3) ?_) | (refine Wcx (w1) ?_) | (refine Wdcx (w1) ?_) | (refine Wcgx (w1) ?_) | (refine Wdcgx (w1) ?_) | (refine Wcx (w2) ?_) | (refine Wdcx (w2) ?_) | (refine Wcgx (w2) ?_) | (refine Wdcgx (w2) ?_) | (refine Wcx (w3) ?_) | (refine Wdcx (w3) ?_) | (refine Wcgx (w3) ?_) | (refine Wdcgx (w3) ?_) | (refine Wcx (z1) ?_) | (refine Wdcx (z1) ?_) | (refine Wcgx (z1) ?_) | (refine Wdcgx (z1) ?_) | (refine Wcx (g1) ?_) | (refine Wdcx (g1) ?_) | (refine Wcgx (g1) ?_) | (refine Wdcgx (g1) ?_) | (refine Wcx (g2) ?_) | (refine Wdcx (g2) ?_) | (refine Wcgx (g2) ?_) | (refine Wdcgx (g2) ?_) | (refine Wcx (f1) ?_) | (refine Wdcx (f1) ?_) | (refine Wcgx (f1) ?_) | (refine Wdcgx (f1) ?_) | (refine Wcx (q) ?_) | (refine Wdcx (q) ?_) | (refine Wcgx (q) ?_) | (refine Wdcgx (q) ?_))
    ((first | refine endR ?_ | refine endN ?_); exact end2 (RV.cellA rfl (by repeat (first | exact List.mem_cons_self | apply List.mem_cons_of_mem)) (by (try simp only [List.drop_succ_cons, List.drop_zero, List.drop_nil, List.take_succ_cons, List.take_zero, List.take_nil, Nat.zero_add, Nat.add_zero, Nat.reduceAdd]) <;> exact rfl) rfl) (RV.tmp rfl) (Le.refl _))
theorem lnOf_raw (l : RL) {L : Nat} (h : l.ok L) (hL : L ≤ 1000) (hn : l.nrm = false) : Pu Tryz.prog 31 [lraw l] (Ab.tup [lzero, lit (.bool false)]) := by
  have n1 := intNormal_pu l.s l.x (by have := h.l1; omega)
  have n2 := intNormal_pu l.t l.y (by have := h.l2; omega)
  have n3 := intNormal_pu l.u l.z (by have := h.l3; omega)
  unfold RL.nrm at hn
  clear h
  cases h1 : nrmI l.s l.x with
  | false =>
    rw [h1] at n1
    refine Pu.intro Tryz.func31 rfl (by kernel_rfl) fun C => ?_
    repeat (first | (refine A1 ⟨?_⟩; intros) | (refine Wcx (n1) ?_) | (refine Wdcx (n1) ?_) | (refine Wcgx (n1) ?_) | (refine Wdcgx (n1) ?_))
    ((first | refine endR ?_ | refine endN ?_); exact end2 (RV.cellA rfl (by repeat (first | exact List.mem_cons_self | apply List.mem_cons_of_mem)) (by (try simp only [List.drop_succ_cons, List.drop_zero, List.drop_nil, List.take_succ_cons, List.take_zero, List.take_nil, Nat.zero_add, Nat.add_zero, Nat.reduceAdd]) <;> exact rfl) rfl) (RV.tmp rfl) (Le.refl _))
  | true =>
    rw [h1] at n1 hn
    cases h2 : nrmI l.t l.y with
    | false =>
      rw [h2] at n2
      refine Pu.intro Tryz.func31 rfl (by kernel_rfl) fun C => ?_
      repeat (first | (refine A1 ⟨?_⟩; intros) | (refine Wcx (n1) ?_) | (refine Wdcx (n1) ?_) | (refine Wcgx (n1) ?_) | (refine Wdcgx (n1) ?_) | (refine Wcx (n2) ?_) | (refine Wdcx (n2) ?_) | (refine Wcgx (n2) ?_) | (refine Wdcgx (n2) ?_))
      ((first | refine endR ?_ | refine endN ?_); exact end2 (RV.cellA rfl (by repeat (first | exact List.mem_cons_self | apply List.mem_cons_of_mem)) (by (try simp only [List.drop_succ_cons, List.drop_zero, List.drop_nil, List.take_succ_cons, List.take_zero, List.take_nil, Nat.zero_add, Nat.add_zero, Nat.reduceAdd]) <;> exact rfl) rfl) (RV.tmp rfl) (Le.refl _))
    | true =>
      rw [h2] at n2 hn
      rw [show nrmI l.u l.z = false from hn] at n3
      refine Pu.intro Tryz.func31 rfl (by kernel_rfl) fun C => ?_
      repeat (first | (refine A1 ⟨?_⟩; intros) | (refine Wcx (n1) ?_) | (refine Wdcx (n1) ?_) | (refine Wcgx (n1) ?_) | (refine Wdcgx (n1) ?_) | (refine Wcx (n2) ?_) | (refine Wdcx (n2) ?_) | (refine Wcgx (n2) ?_) | (refine Wdcgx (n2) ?_) | (refine Wcx (n3) ?_) | (refine Wdcx (n3) ?_) | (refine Wcgx (n3) ?_) | (refine Wdcgx (n3) ?_))
      ((first | refine endR ?_ | refine endN ?_); exact end2 (RV.cellA rfl (by repeat (first | exact List.mem_cons_self | apply List.mem_cons_of_mem)) (by (try simp only [List.drop_succ_cons, List.drop_zero, List.drop_nil, List.take_succ_cons, List.take_zero, List.take_nil, Nat.zero_add, Nat.add_zero, Nat.reduceAdd]) <;> exact rfl) rfl) (RV.tmp rfl) (Le.refl _))
theorem rnormN_pu (xs : List Nat) (hl : xs.length ≤ 1000000000) : Pu Tryz.prog 102 [dg xs] (lit (.bool (nrm xs))) := by
  unfold nrm
  by_cases h : xs.length = 0
  · rw [decide_eq_true h, Bool.true_or]
    refine Pu.intro Tryz.func102 rfl (by kernel_rfl) fun C => ?_
    repeat (refine A1 ⟨?_⟩; intros)
    ((first | refine endR ?_ | refine endN ?_); exact end1 (RV.tmp rfl) (Le.refl _))
  · rw [decide_eq_false h, Bool.false_or]
    by_cases h1 : xs.getD (xs.length - 1) 0 = 0
    · rw [decide_eq_false (fun e => e h1)]
      refine Pu.intro Tryz.func102 rfl (by kernel_rfl) fun C => ?_
      repeat (refine A1 ⟨?_⟩; intros)
      ((first | refine endR ?_ | refine endN ?_); exact end1 (RV.tmp rfl) (Le.refl _))
    · rw [decide_eq_true h1]
      refine Pu.intro Tryz.func102 rfl (by kernel_rfl) fun C => ?_
      repeat (refine A1 ⟨?_⟩; intros)
      ((first | refine endR ?_ | refine endN ?_); exact end1 (RV.tmp rfl) (Le.refl _))
theorem rnormI_pu (s : Bool) (xs : List Nat) (hl : xs.length ≤ 1000000000) : Pu Tryz.prog 47 [raw s xs] (lit (.bool (nrmI s xs))) := by
  have hn := rnormN_pu xs hl
  unfold nrmI
  cases hx : nrm xs with
  | false =>
    rw [hx] at hn
    refine Pu.intro Tryz.func47 rfl (by kernel_rfl) fun C => ?_
    repeat (first | (refine A1 ⟨?_⟩; intros) | (refine Wcx (hn) ?_) | (refine Wdcx (hn) ?_) | (refine Wcgx (hn) ?_) | (refine Wdcgx (hn) ?_))
    ((first | refine endR ?_ | refine endN ?_); exact end1 (RV.tmp rfl) (Le.refl _))
  | true =>
    rw [hx] at hn
    cases s with
    | false =>
      refine Pu.intro Tryz.func47 rfl (by kernel_rfl) fun C => ?_
      repeat (first | (refine A1 ⟨?_⟩; intros) | (refine Wcx (hn) ?_) | (refine Wdcx (hn) ?_) | (refine Wcgx (hn) ?_) | (refine Wdcgx (hn) ?_))
      ((first | refine endR ?_ | refine endN ?_); exact end1 (RV.tmp rfl) (Le.refl _))
    | true =>
      by_cases h : 0 < xs.length
      · rw [decide_eq_true h]
        refine Pu.intro Tryz.func47 rfl (by kernel_rfl) fun C => ?_
        repeat (first | (refine A1 ⟨?_⟩; intros) | (refine Wcx (hn) ?_) | (refine Wdcx (hn) ?_) | (refine Wcgx (hn) ?_) | (refine Wdcgx (hn) ?_))
        ((first | refine endR ?_ | refine endN ?_); exact end1 (RV.tmp rfl) (Le.refl _))
      · rw [decide_eq_false h]
        refine Pu.intro Tryz.func47 rfl (by kernel_rfl) fun C => ?_
        repeat (first | (refine A1 ⟨?_⟩; intros) | (refine Wcx (hn) ?_) | (refine Wdcx (hn) ?_) | (refine Wcgx (hn) ?_) | (refine Wdcgx (hn) ?_))
        ((first | refine endR ?_ | refine endN ?_); exact end1 (RV.tmp rfl) (Le.refl _))
theorem rln_bad (l : RL) {L : Nat} (h : l.ok L) (hL : L ≤ 1000) (hn : l.nrm = false) : Pu Tryz.prog 15 [lraw l] (Ab.tup [ag [lit (.bool false), lit (.slice none 0 0), lit (.bool false), lit (.slice none 0 0), lit (.bool false), lit (.slice none 0 0)], lit (.bool false)]) := by
  have n1 := rnormI_pu l.s l.x (by have := h.l1; omega)
  have n2 := rnormI_pu l.t l.y (by have := h.l2; omega)
  have n3 := rnormI_pu l.u l.z (by have := h.l3; omega)
  unfold RL.nrm at hn
  clear h
  cases h1 : nrmI l.s l.x with
  | false =>
    rw [h1] at n1
    refine Pu.intro Tryz.func15 rfl (by kernel_rfl) fun C => ?_
    repeat (first | (refine A1 ⟨?_⟩; intros) | (refine Wcx (n1) ?_) | (refine Wdcx (n1) ?_) | (refine Wcgx (n1) ?_) | (refine Wdcgx (n1) ?_))
    ((first | refine endR ?_ | refine endN ?_); exact end2 (RV.cellA rfl (by repeat (first | exact List.mem_cons_self | apply List.mem_cons_of_mem)) (by (try simp only [List.drop_succ_cons, List.drop_zero, List.drop_nil, List.take_succ_cons, List.take_zero, List.take_nil, Nat.zero_add, Nat.add_zero, Nat.reduceAdd]) <;> exact rfl) rfl) (RV.tmp rfl) (Le.refl _))
  | true =>
    rw [h1] at n1 hn
    cases h2 : nrmI l.t l.y with
    | false =>
      rw [h2] at n2
      refine Pu.intro Tryz.func15 rfl (by kernel_rfl) fun C => ?_
      repeat (first | (refine A1 ⟨?_⟩; intros) | (refine Wcx (n1) ?_) | (refine Wdcx (n1) ?_) | (refine Wcgx (n1) ?_) | (refine Wdcgx (n1) ?_) | (refine Wcx (n2) ?_) | (refine Wdcx (n2) ?_) | (refine Wcgx (n2) ?_) | (refine Wdcgx (n2) ?_))
      ((first | refine endR ?_ | refine endN ?_); exact end2 (RV.cellA rfl (by repeat (first | exact List.mem_cons_self | apply List.mem_cons_of_mem)) (by (try simp only [List.drop_succ_cons, List.drop_zero, List.drop_nil, List.take_succ_cons, List.take_zero, List.take_nil, Nat.zero_add, Nat.add_zero, Nat.reduceAdd]) <;> exact rfl) rfl) (RV.tmp rfl) (Le.refl _))
    | true =>
      rw [h2] at n2 hn
      rw [show nrmI l.u l.z = false from hn] at n3
      refine Pu.intro Tryz.func15 rfl (by kernel_rfl) fun C => ?_
      repeat (first | (refine A1 ⟨?_⟩; intros) | (refine Wcx (n1) ?_) | (refine Wdcx (n1) ?_) | (refine Wcgx (n1) ?_) | (refine Wdcgx (n1) ?_) | (refine Wcx (n2) ?_) | (refine Wdcx (n2) ?_) | (refine Wcgx (n2) ?_) | (refine Wdcgx (n2) ?_) | (refine Wcx (n3) ?_) | (refine Wdcx (n3) ?_) | (refine Wcgx (n3) ?_) | (refine Wdcgx (n3) ?_))
      ((first | refine endR ?_ | refine endN ?_); exact end2 (RV.cellA rfl (by repeat (first | exact List.mem_cons_self | apply List.mem_cons_of_mem)) (by (try simp only [List.drop_succ_cons, List.drop_zero, List.drop_nil, List.take_succ_cons, List.take_zero, List.take_nil, Nat.zero_add, Nat.add_zero, Nat.reduceAdd]) <;> exact rfl) rfl) (RV.tmp rfl) (Le.refl _))
theorem cmpN_z {a b : Nat} (h : cmpN a b = 0) : a = b := by unfold cmpN at h; split at h <;> (try split at h) <;> omega
theorem rln_pu (l : RL) {L : Nat} (h : l.ok L) (hL : L ≤ 1000) (hn : l.nrm = true) : Pu Tryz.prog 15 [lraw l] (Ab.tup [lq l.v, lit (.bool (decide l.v.ok))]) := by
  have n1 := rnormI_pu l.s l.x (by have := h.l1; omega)
  have n2 := rnormI_pu l.t l.y (by have := h.l2; omega)
  have n3 := rnormI_pu l.u l.z (by have := h.l3; omega)
  have i1 := i_pu l.s l.x (by have := h.l1; omega) h.d1
  have i2 := i_pu l.t l.y (by have := h.l2; omega) h.d2
  have i3 := i_pu l.u l.z (by have := h.l3; omega) h.d3
  have hle := RL.le h
  unfold RL.nrm at hn
  simp only [Bool.and_eq_true] at hn
  rw [hn.1.1] at n1
  rw [hn.1.2] at n2
  rw [hn.2] at n3
  rw [show sv l.s (val l.x) = l.v.a from rfl] at i1
  rw [show sv l.t (val l.y) = l.v.b from rfl] at i2
  rw [show sv l.u (val l.z) = l.v.c from rfl] at i3
  obtain ⟨ha, hb, hc⟩ := hle
  unfold il at ha hb hc
  have c1 := rcommon_pu l.v.a.natAbs l.v.b.natAbs (by omega) (by omega)
  have hg := dlen_gcd_le ha hb
  have c2 := rcommon_pu (Nat.gcd l.v.a.natAbs l.v.b.natAbs) l.v.c.natAbs (by omega) (by omega)
  have hg2 := dlen_gcd_le hg hc
  have c3 := one_pu
  have c4 := rcmp_pu (Nat.gcd (Nat.gcd l.v.a.natAbs l.v.b.natAbs) l.v.c.natAbs) 1 (by omega) (by decide +kernel)
  clear h hn
  by_cases h0 : Nat.gcd l.v.a.natAbs l.v.b.natAbs = 0
  · have hno : ¬ l.v.ok := fun h => by
      rcases h.2 with k | k
      · exact k (Int.natAbs_eq_zero.1 (Nat.gcd_eq_zero_iff.1 h0).1)
      · exact k (Int.natAbs_eq_zero.1 (Nat.gcd_eq_zero_iff.1 h0).2)
    rw [decide_eq_false hno]
    rw [h0] at c1
    have hz : (dgs 0).length = 0 := by rw [dgs_zero]; rfl
    clear c2 c4 ha hb hc hg hg2 hno
    refine Pu.intro Tryz.func15 rfl (by kernel_rfl) fun C => ?_
    repeat (first | (refine A1 ⟨?_⟩; intros) | (refine Wcx (n1) ?_) | (refine Wdcx (n1) ?_) | (refine Wcgx (n1) ?_) | (refine Wdcgx (n1) ?_) | (refine Wcx (n2) ?_) | (refine Wdcx (n2) ?_) | (refine Wcgx (n2) ?_) | (refine Wdcgx (n2) ?_) | (refine Wcx (n3) ?_) | (refine Wdcx (n3) ?_) | (refine Wcgx (n3) ?_) | (refine Wdcgx (n3) ?_) | (refine Wcx (i1) ?_) | (refine Wdcx (i1) ?_) | (refine Wcgx (i1) ?_) | (refine Wdcgx (i1) ?_) | (refine Wcx (i2) ?_) | (refine Wdcx (i2) ?_) | (refine Wcgx (i2) ?_) | (refine Wdcgx (i2) ?_) | (refine Wcx (i3) ?_) | (refine Wdcx (i3) ?_) | (refine Wcgx (i3) ?_) | (refine Wdcgx (i3) ?_))
    refine Wcx c1 ?_
    repeat (first | (refine AS ⟨?_⟩; intros) | (refine O1 ⟨?_⟩; intros))
    rename_i b2 b4
    refine WP.perm (List.Perm.swap _ _ _) ?_
    refine WdZ 15 [0, 1, 2, 3, 4, 5, 6, 7, 8, 9, 10, 11, 12, 13, 14] [14] [(b2, 62, [lit (.bool false), lit (.slice none 0 0), lit (.bool false), lit (.slice none 0 0), lit (.bool false), lit (.slice none 0 0)])] _ ?_
    refine ZkD 14 ?_
    repeat (first | (refine A1 ⟨?_⟩; intros) | (refine Wcx (c3) ?_) | (refine Wdcx (c3) ?_) | (refine Wcgx (c3) ?_) | (refine Wdcgx (c3) ?_))
    refine mkZ0 ?_
    refine ZkS (b := b2) (o := 0) (sv := lq l.v) (cs' := [lit (.bool (decide (l.v.a < 0))), nat l.v.a.natAbs, lit (.bool (decide (l.v.b < 0))), nat l.v.b.natAbs, lit (.bool (decide (l.v.c < 0))), nat l.v.c.natAbs]) rfl rfl rfl (.here _) rfl rfl ?_
    refine ZkN ?_
    repeat (refine A1 ⟨?_⟩; intros)
    ((first | refine endR ?_ | refine endN ?_); exact end2 (RV.cellA rfl (by repeat (first | exact List.mem_cons_self | apply List.mem_cons_of_mem)) (by (try simp only [List.drop_succ_cons, List.drop_zero, List.drop_nil, List.take_succ_cons, List.take_zero, List.take_nil, Nat.zero_add, Nat.add_zero, Nat.reduceAdd]) <;> exact rfl) rfl) (RV.tmp rfl) (Le.refl _))
  · have hp : 0 < (dgs (Nat.gcd l.v.a.natAbs l.v.b.natAbs)).length := dgs_len_pos h0
    by_cases h1 : Nat.gcd (Nat.gcd l.v.a.natAbs l.v.b.natAbs) l.v.c.natAbs = 1
    · have hok : l.v.ok := ⟨h1, by
        by_cases ha : l.v.a = 0
        · refine .inr fun hb => h0 ?_
          rw [ha, hb]; rfl
        · exact .inl ha⟩
      rw [decide_eq_true hok]
      have hcz : cmpN (Nat.gcd (Nat.gcd l.v.a.natAbs l.v.b.natAbs) l.v.c.natAbs) 1 = 0 := by rw [h1]; decide +kernel
      rw [hcz] at c4
      clear ha hb hc hg hg2 hok hcz h1 h0
      generalize Nat.gcd (Nat.gcd l.v.a.natAbs l.v.b.natAbs) l.v.c.natAbs = G2 at *
      generalize Nat.gcd l.v.a.natAbs l.v.b.natAbs = G at *
      refine Pu.intro Tryz.func15 rfl (by kernel_rfl) fun C => ?_
      repeat (first | (refine A1 ⟨?_⟩; intros) | (refine Wcx (n1) ?_) | (refine Wdcx (n1) ?_) | (refine Wcgx (n1) ?_) | (refine Wdcgx (n1) ?_) | (refine Wcx (n2) ?_) | (refine Wdcx (n2) ?_) | (refine Wcgx (n2) ?_) | (refine Wdcgx (n2) ?_) | (refine Wcx (n3) ?_) | (refine Wdcx (n3) ?_) | (refine Wcgx (n3) ?_) | (refine Wdcgx (n3) ?_) | (refine Wcx (i1) ?_) | (refine Wdcx (i1) ?_) | (refine Wcgx (i1) ?_) | (refine Wdcgx (i1) ?_) | (refine Wcx (i2) ?_) | (refine Wdcx (i2) ?_) | (refine Wcgx (i2) ?_) | (refine Wdcgx (i2) ?_) | (refine Wcx (i3) ?_) | (refine Wdcx (i3) ?_) | (refine Wcgx (i3) ?_) | (refine Wdcgx (i3) ?_))
      refine Wcx c1 ?_
      repeat (first | (refine AS ⟨?_⟩; intros) | (refine O1 ⟨?_⟩; intros))
      rename_i b2 b4
      refine WP.perm (List.Perm.swap _ _ _) ?_
      refine WdZ 15 [0, 1, 2, 3, 4, 5, 6, 7, 8, 9, 10, 11, 12, 13, 14] [14] [(b2, 62, [lit (.bool false), lit (.slice none 0 0), lit (.bool false), lit (.slice none 0 0), lit (.bool false), lit (.slice none 0 0)])] _ ?_
      refine ZkD 14 ?_
      repeat (first | (refine A1 ⟨?_⟩; intros) | (refine Wcx (c2) ?_) | (refine Wdcx (c2) ?_) | (refine Wcgx (c2) ?_) | (refine Wdcgx (c2) ?_) | (refine Wcx (c3) ?_) | (refine Wdcx (c3) ?_) | (refine Wcgx (c3) ?_) | (refine Wdcgx (c3) ?_) | (refine Wcx (c4) ?_) | (refine Wdcx (c4) ?_) | (refine Wcgx (c4) ?_) | (refine Wdcgx (c4) ?_))
      refine mkZ0 ?_
      refine ZkS (b := b2) (o := 0) (sv := lq l.v) (cs' := [lit (.bool (decide (l.v.a < 0))), nat l.v.a.natAbs, lit (.bool (decide (l.v.b < 0))), nat l.v.b.natAbs, lit (.bool (decide (l.v.c < 0))), nat l.v.c.natAbs]) rfl rfl rfl (.here _) rfl rfl ?_
      refine ZkN ?_
      repeat (refine A1 ⟨?_⟩; intros)
      ((first | refine endR ?_ | refine endN ?_); exact end2 (RV.cellA rfl (by repeat (first | exact List.mem_cons_self | apply List.mem_cons_of_mem)) (by (try simp only [List.drop_succ_cons, List.drop_zero, List.drop_nil, List.take_succ_cons, List.take_zero, List.take_nil, Nat.zero_add, Nat.add_zero, Nat.reduceAdd]) <;> exact rfl) rfl) (RV.tmp rfl) (Le.refl _))
    · have hno : ¬ l.v.ok := fun h => h1 h.1
      rw [decide_eq_false hno]
      have hcz : ¬ cmpN (Nat.gcd (Nat.gcd l.v.a.natAbs l.v.b.natAbs) l.v.c.natAbs) 1 = 0 := fun e => h1 (cmpN_z e)
      generalize cmpN (Nat.gcd (Nat.gcd l.v.a.natAbs l.v.b.natAbs) l.v.c.natAbs) 1 = cc at *
      clear ha hb hc hg hg2 hno h1 h0
      generalize Nat.gcd (Nat.gcd l.v.a.natAbs l.v.b.natAbs) l.v.c.natAbs = G2 at *
      generalize Nat.gcd l.v.a.natAbs l.v.b.natAbs = G at *
      refine Pu.intro Tryz.func15 rfl (by kernel_rfl) fun C => ?_
      repeat (first | (refine A1 ⟨?_⟩; intros) | (refine Wcx (n1) ?_) | (refine Wdcx (n1) ?_) | (refine Wcgx (n1) ?_) | (refine Wdcgx (n1) ?_) | (refine Wcx (n2) ?_) | (refine Wdcx (n2) ?_) | (refine Wcgx (n2) ?_) | (refine Wdcgx (n2) ?_) | (refine Wcx (n3) ?_) | (refine Wdcx (n3) ?_) | (refine Wcgx (n3) ?_) | (refine Wdcgx (n3) ?_) | (refine Wcx (i1) ?_) | (refine Wdcx (i1) ?_) | (refine Wcgx (i1) ?_) | (refine Wdcgx (i1) ?_) | (refine Wcx (i2) ?_) | (refine Wdcx (i2) ?_) | (refine Wcgx (i2) ?_) | (refine Wdcgx (i2) ?_) | (refine Wcx (i3) ?_) | (refine Wdcx (i3) ?_) | (refine Wcgx (i3) ?_) | (refine Wdcgx (i3) ?_))
      refine Wcx c1 ?_
      repeat (first | (refine AS ⟨?_⟩; intros) | (refine O1 ⟨?_⟩; intros))
      rename_i b2 b4
      refine WP.perm (List.Perm.swap _ _ _) ?_
      refine WdZ 15 [0, 1, 2, 3, 4, 5, 6, 7, 8, 9, 10, 11, 12, 13, 14] [14] [(b2, 62, [lit (.bool false), lit (.slice none 0 0), lit (.bool false), lit (.slice none 0 0), lit (.bool false), lit (.slice none 0 0)])] _ ?_
      refine ZkD 14 ?_
      repeat (first | (refine A1 ⟨?_⟩; intros) | (refine Wcx (c2) ?_) | (refine Wdcx (c2) ?_) | (refine Wcgx (c2) ?_) | (refine Wdcgx (c2) ?_) | (refine Wcx (c3) ?_) | (refine Wdcx (c3) ?_) | (refine Wcgx (c3) ?_) | (refine Wdcgx (c3) ?_) | (refine Wcx (c4) ?_) | (refine Wdcx (c4) ?_) | (refine Wcgx (c4) ?_) | (refine Wdcgx (c4) ?_))
      refine mkZ0 ?_
      refine ZkS (b := b2) (o := 0) (sv := lq l.v) (cs' := [lit (.bool (decide (l.v.a < 0))), nat l.v.a.natAbs, lit (.bool (decide (l.v.b < 0))), nat l.v.b.natAbs, lit (.bool (decide (l.v.c < 0))), nat l.v.c.natAbs]) rfl rfl rfl (.here _) rfl rfl ?_
      refine ZkN ?_
      repeat (refine A1 ⟨?_⟩; intros)
      ((first | refine endR ?_ | refine endN ?_); exact end2 (RV.cellA rfl (by repeat (first | exact List.mem_cons_self | apply List.mem_cons_of_mem)) (by (try simp only [List.drop_succ_cons, List.drop_zero, List.drop_nil, List.take_succ_cons, List.take_zero, List.take_nil, Nat.zero_add, Nat.add_zero, Nat.reduceAdd]) <;> exact rfl) rfl) (RV.tmp rfl) (Le.refl _))
inductive Tr where
  | leaf (i : Bool)
  | node (l : Li) (a b : Tr)
def bc : Tr → List SV
  | .leaf i => [lit (.int .i64 0), lit (.int .i64 0), lit (.pointer none), lit (.int .i64 0), lit (.int .i64 0), lit (.pointer none), lit (.int .i64 0), lit (.int .i64 0), lit (.pointer none), lit (.pointer none), lit (.pointer none), lit (.bool i)]
  | .node l a b => [lit (.int .i64 (r0 l.a)), lit (.int .i64 (r1 l.a)), r2 l.a, lit (.int .i64 (r0 l.b)), lit (.int .i64 (r1 l.b)), r2 l.b, lit (.int .i64 (r0 l.c)), lit (.int .i64 (r1 l.c)), r2 l.c, pt (bc a), pt (bc b), lit (.bool false)]
theorem bc_leaf (i : Bool) : bc (.leaf i) = [lit (.int .i64 0), lit (.int .i64 0), lit (.pointer none), lit (.int .i64 0), lit (.int .i64 0), lit (.pointer none), lit (.int .i64 0), lit (.int .i64 0), lit (.pointer none), lit (.pointer none), lit (.pointer none), lit (.bool i)] := rfl
abbrev bt (t : Tr) : SV := pt (bc t)
theorem PuN.toPt {P : Program} {f : FuncId} {T : TypeId} {args cs : List SV} (h : PuN P f T args cs) : Pu P f args (pt cs) := by
  unfold Pu
  exact ⟨h.1, fun m w vs hm ha => (h.2 m w vs hm ha).mono fun _ w' ⟨b, m', e, hb, h1, h2, ⟨arr, h3, h4⟩, h5⟩ => by
    have hle : m'.le (fun x => if x = b then w'.heap[b]? else m' x) := fun x o hx => by
      show (if x = b then w'.heap[b]? else m' x) = some o
      rw [if_neg (fun e => by rw [e] at hx; rw [h2] at hx; cases hx)]; exact hx
    refine ⟨_, (fun x => if x = b then w'.heap[b]? else m' x), e, pub_pt (arr := arr) (T := T) _ (by show (if b = b then w'.heap[b]? else m' b) = _; rw [if_pos rfl]; exact h3) (h4.mono hle), ⟨fun x o hx => ?_, Mem.le_trans h1.base hle⟩, ⟨Mem.le_trans h5.le hle, fun x hx hnx => ?_, h5.os, h5.tape, h5.output, h5.size, h5.block⟩⟩
    · by_cases hxb : x = b
      · subst hxb; simp only [if_true] at hx; exact hx
      · simp only [if_neg hxb] at hx; exact h1 x o hx
    · show (if x = b then w'.heap[b]? else m' x) = _
      rw [if_neg (by omega)]; exact h5.old x hx hnx⟩
theorem leaf_pu (i : Bool) : Pu Tryz.prog 139 [lit (.bool i)] (bt (.leaf i)) := by
  unfold bt
  rw [bc_leaf]
  apply PuN.toPt (T := 175)
  refine PuN.intro Tryz.func139 rfl (by kernel_rfl) fun C => ?_
  repeat (refine A1 ⟨?_⟩; intros)
  exact endNwR _ _ (end1 (RV.tmp rfl) (Le.refl _)) List.mem_cons_self (LeL.refl _)
def Tr.size : Tr → Nat
  | .leaf _ => 0
  | .node _ a b => 1 + a.size + b.size
theorem Tr.size_node (l : Li) (a b : Tr) : (Tr.node l a b).size = 1 + a.size + b.size := rfl
def Tr.root (k : Nat) : Tr → Int
  | .leaf true => -2
  | .leaf false => -1
  | .node _ _ _ => k
def nd (l : Li) (i j : Int) : List SV := [lit (.bool (decide (l.a < 0))), nat l.a.natAbs, lit (.bool (decide (l.b < 0))), nat l.b.natAbs, lit (.bool (decide (l.c < 0))), nat l.c.natAbs, lit (.int .i64 i), lit (.int .i64 j)]
def Tr.rows (k : Nat) : Tr → List SV
  | .leaf _ => []
  | .node l a b => nd l (a.root (k + 1)) (b.root (k + 1 + a.size)) ++ a.rows (k + 1) ++ b.rows (k + 1 + a.size)
theorem Tr.rows_len : ∀ (t : Tr) (k : Nat), (t.rows k).length = t.size * 8
  | .leaf _, _ => rfl
  | .node _ a b, k => by simp only [Tr.rows, Tr.size, List.length_append, rows_len a, rows_len b, nd, List.length_cons, List.length_nil]; omega
def Tr.all (p : Li → Prop) : Tr → Prop
  | .leaf _ => True
  | .node l a b => p l ∧ a.all p ∧ b.all p
instance tyF : TY Tryz.prog 176 1 8 [lit .nilFunc] false := ⟨⟨[.nilFunc], by kernel_rfl, rfl, rfl, rfl⟩, by kernel_rfl⟩
section
variable {P : Program} {C : Ctx} {n : Nat} {F Fe : Fr} {H : LH} {ops : Array Oper}
theorem wp_monoX {o : Oper} {a : Act} {w : World} {next : Act → World → Prop} {Q Q' : Exit → Act → World → Prop} (hp : ∀ c a w, Q' (.panic c) a w → Q (.panic c) a w) (ho : ∀ a w, Q' .outgrown a w → Q .outgrown a w) (h : o.wp P a w next Q') : o.wp P a w next Q := by
  unfold Oper.wp at *
  generalize (execOp a.eval o).run P w = r at *
  cases r with
  | ok n w' =>
    cases n <;> simp only [Oper.upon] at h ⊢ <;>
      first
        | exact h
        | exact Calls.mono h (fun e w'' he => by cases e <;> first | exact he | exact hp _ _ _ he | exact he.imp fun a h => h.imp fun w h => ho a w h)
  | halt x w' => cases x <;> simp only [Oper.upon] at h ⊢ <;> first | exact hp _ _ _ h | exact h
theorem TS.ofWPL {i : Nat} {o : Oper} {sv : SV} {H' : LH} (ho : ops[i]? = some o) (h : ∀ F, (∀ t, t ∈ o.looksAt ops → Fe t = F t) → WPL P ⟨C.ks, C.m, C.w, noX, C.dfs⟩ n ops [o] (fun F' H2 => F' = dstf o F sv ∧ H2 = H') F H) : TS P C n ops i o Fe H sv H' := by
  intro F hF a w hst Q' K' hK'
  have h1 := h F hF
  unfold WPL at h1
  have h2 := h1 a w hst (fun e a w => match e with
    | .normal => K' a w
    | .panic c => Q' (.panic c) a w
    | .outgrown => Q' .outgrown a w
    | _ => False) ⟨fun a' w' F' H2 hs' hk => by
      obtain ⟨rfl, rfl⟩ := hk
      exact hK' a' w' hs', fun ch a' w' hp => by obtain ⟨_, _, _, _, _, _, _, _, _, _, _, hf⟩ := hp; exact hf.elim⟩
  unfold wpOp
  simp only [ho]
  unfold wpList at h2
  split
  · rename_i hw
    rw [if_pos hw] at h2
    rcases h2 with h2 | h2
    · exact .inl (wp_monoX (fun _ _ _ h => h) (fun _ _ h => h) h2)
    · exact .inr ⟨h2.1, h2.2⟩
  · rename_i hw
    rw [if_neg hw] at h2
    exact h2
theorem TS.callH {i d : Nat} {f : FuncId} {l : List Operand} {tys : Array TypeId} {ty : TypeId} {pos : String} {aft : Array Edge} {svs : List SV} {Hin Hout Rs : LH} {res : SV} (ho : ops[i]? = some ⟨some d, .call ⟨.value (.func f), l.toArray, tys⟩, ty, pos, aft, none⟩) (hd : Nat.blt d n = true)
    (hc : PuH P f svs Hin (fun r H => r = res ∧ H = Hout) noX) (hs : Tk H Hin Rs) (ha : l.map (ev Fe) = svs) : TS P C n ops i ⟨some d, .call ⟨.value (.func f), l.toArray, tys⟩, ty, pos, aft, none⟩ Fe H res (Rs ++ Hout) := by
  refine TS.ofWPL ho fun F hF => ?_
  refine WfT hc ?_ ?_ hs hd
  · rintro _ _ ⟨rfl, rfl⟩
    exact WPL.nil ⟨rfl, rfl⟩
  · rw [← ha]
    refine List.map_congr_left fun x hx => ?_
    exact ev_looks (by simp [Op.operands, Call.operands, hx]) hF
end
def At (all : List SV) (k : Nat) (t : Tr) : Prop := (all.drop (k * 8)).take (t.size * 8) = t.rows k
theorem At.node {all : List SV} {k : Nat} {l : Li} {a b : Tr} (h : At all k (.node l a b)) : (all.drop (k * 8)).take 8 = nd l (a.root (k + 1)) (b.root (k + 1 + a.size)) ∧ At all (k + 1) a ∧ At all (k + 1 + a.size) b := by
  unfold At at h ⊢
  rw [Tr.size_node] at h
  simp only [Tr.rows] at h
  have hn : (nd l (a.root (k + 1)) (b.root (k + 1 + a.size))).length = 8 := rfl
  have h1 := congrArg (List.take 8) h
  rw [List.take_take, Nat.min_eq_left (by omega), List.append_assoc, List.take_left' hn] at h1
  have h2 := congrArg (List.drop 8) h
  rw [List.drop_take, List.drop_drop, List.append_assoc, List.drop_left' hn] at h2
  rw [show k * 8 + 8 = (k + 1) * 8 from by omega, show (1 + a.size + b.size) * 8 - 8 = a.size * 8 + b.size * 8 from by omega] at h2
  have ha := Tr.rows_len a (k + 1)
  have h3 := congrArg (List.take (a.size * 8)) h2
  rw [List.take_take, Nat.min_eq_left (by omega), List.take_left' ha] at h3
  have h4 := congrArg (List.drop (a.size * 8)) h2
  rw [List.drop_take, List.drop_drop, List.drop_left' ha] at h4
  rw [show (k + 1) * 8 + a.size * 8 = (k + 1 + a.size) * 8 from by omega, Nat.add_sub_cancel_left] at h4
  exact ⟨h1, h3, h4⟩
theorem At.all (t : Tr) : At (t.rows 0) 0 t := by
  unfold At
  rw [Nat.zero_mul, List.drop_zero, ← Tr.rows_len t 0, List.take_length]
def Tr.im (m : M6 Rat) : Tr → Tr
  | .leaf i => .leaf i
  | .node l a b => .node (l.im m) (a.im m) (b.im m)
theorem Li.le.to {l : Li} {L L' : Nat} (h : l.le L) (k : L ≤ L') : l.le L' := ⟨Nat.le_trans h.a k, Nat.le_trans h.b k, Nat.le_trans h.c k⟩
abbrev tz : SV := ag [lit (.int .i64 0), lit (.slice none 0 0)]
theorem vector_le {m : M6 Rat} {L : Nat} (h : m.le L) {x y : Rat} (hx : ht x ≤ L) (hy : ht y ≤ L) : ht (m.a * x + m.b * y) ≤ 4 * L + 3 ∧ ht (m.d * x + m.e * y) ≤ 4 * L + 3 := by
  obtain ⟨ha, hb, hc, hd, he, hf⟩ := h
  have h1 := ht_mul m.a x
  have h2 := ht_mul m.b y
  have h3 := ht_mul m.d x
  have h4 := ht_mul m.e y
  have h5 := ht_add (m.a * x) (m.b * y)
  have h6 := ht_add (m.d * x) (m.e * y)
  exact ⟨by omega, by omega⟩
theorem apply_le {m : M6 Rat} {L : Nat} (h : m.le L) {x y : Rat} (hx : ht x ≤ L) (hy : ht y ≤ L) : ht (m.a * x + m.b * y + m.c) ≤ 5 * L + 4 ∧ ht (m.d * x + m.e * y + m.f) ≤ 5 * L + 4 := by
  have hv := vector_le h hx hy
  obtain ⟨ha, hb, hc, hd, he, hf⟩ := h
  have h5 := ht_add (m.a * x + m.b * y) m.c
  have h6 := ht_add (m.d * x + m.e * y) m.f
  exact ⟨by omega, by omega⟩
abbrev M6.app (m : M6 Rat) (p : Pq) : Pq := (m.a * p.1 + m.b * p.2 + m.c, m.d * p.1 + m.e * p.2 + m.f)
abbrev mfc (m : M6 Rat) : List SV := [lit (.int .i64 (r0 m.a)), lit (.int .i64 (r1 m.a)), r2 m.a, lit (.int .i64 (r0 m.d)), lit (.int .i64 (r1 m.d)), r2 m.d,
  lit (.int .i64 (r0 m.b)), lit (.int .i64 (r1 m.b)), r2 m.b, lit (.int .i64 (r0 m.e)), lit (.int .i64 (r1 m.e)), r2 m.e,
  lit (.int .i64 (r0 m.c)), lit (.int .i64 (r1 m.c)), r2 m.c, lit (.int .i64 (r0 m.f)), lit (.int .i64 (r1 m.f)), r2 m.f]
set_option maxHeartbeats 4000000 in
theorem aRing_t {m : M6 Rat} {l : List Pq} {L : Nat} (hm : m.le L) (hL : L ≤ 400) (hdet : m.det ≠ 0) (hl : l.length ≤ 4096) (hh : ∀ p ∈ l, ht p.1 ≤ L ∧ ht p.2 ≤ L) (h3 : 3 ≤ (srt l).length) (he : ∀ i, i < l.length → badE l i = false) : Pu Tryz.prog 8 [mq m, aps l] (Ab.tup [aps (l.map m.app), lit .nilIface]) := by
  have c1 := ringOf_ok l hl (fun p hp => by have := hh p hp; omega) h3 he
  have c2 := regular_t hm (by omega) hdet
  have hlm : (l.map m.app).length = l.length := List.length_map ..
  have c3 := rgApi_pu (l.map m.app) (by omega) (fun p hp => by
    obtain ⟨q, hq, rfl⟩ := List.mem_map.1 hp
    obtain ⟨h1, h2⟩ := hh q hq
    have := apply_le hm h1 h2
    simp only [M6.app]
    omega)
  have epp : pps (l.map m.app) = sl ((l.map fun p => ppx (m.app p)).flatten) l.length := by
    show sl ((l.map m.app).map ppx).flatten (l.map m.app).length = _
    rw [List.map_map, List.length_map]; rfl
  refine Pu.intro Tryz.func8 rfl (by kernel_rfl) fun C => ?_
  repeat (first | (refine A1 ⟨?_⟩; intros) | (refine Wcx (c1) ?_) | (refine Wdcx (c1) ?_) | (refine Wcgx (c1) ?_) | (refine Wdcgx (c1) ?_) | (refine Wcx (c2) ?_) | (refine Wdcx (c2) ?_) | (refine Wcgx (c2) ?_) | (refine Wdcgx (c2) ?_))
  rename_i bm
  refine WP.loopS (ι := RwSt) (fun y => y.k ≤ l.length ∧ Own 92 6 y.k ((l.take y.k).map fun p => ppx (m.app p)).flatten y.s y.Hs) (fun y => l.length - y.k) (fun y => fm [(8, lit (.pointer (some ⟨bm, 0, none⟩))), (9, y.s), (28, pps l), (29, lit (.int .i64 l.length)), (30, lit (.int .i64 y.k))]) (fun y => (bm, 94, mfc m) :: y.Hs) ⟨0, lit (.slice none 0 0), []⟩
    ⟨Nat.zero_le _, Own.nil _ _⟩ (by (repeat (first | exact LeF.nil _ | refine LeF.cons (Le.refl _) ?_ | refine LeF.cons (Le.int (by omega)) ?_))) (List.Sublist.cons_cons _ (List.nil_sublist _)) ?_
  rintro ⟨k, s, Hs⟩ ⟨hk, hown⟩ K hK
  simp only at hk hown ⊢
  have hco := hown.co
  by_cases hkl : k < l.length
  · have hget := List.getElem?_eq_getElem hkl
    generalize l[k] = p at hget
    obtain ⟨h1, h2⟩ := hh p (List.mem_of_getElem? hget)
    have hat := flat_at (f := ppx) (n := 6) ppx_len hget
    have hne : (l.map ppx).flatten ≠ [] := flat_ne ppx_len (by omega) (fun e => by rw [e] at hkl; simp at hkl)
    have c := aapply_pu hm (by omega) p.1 p.2 h1 h2
    have hgo := fun s' Hs' h F' H' => hK F' H' ⟨k + 1, s', Hs'⟩ ⟨by simp only; omega, h⟩ (by simp only; omega)
    simp only [map_take_snoc (f := fun p => ppx (m.app p)) hget] at hgo
    clear hK hh c1 c2 c3
    repeat (refine A1 ⟨?_⟩; intros)
    refine Wo (ov_idxS (cs' := ppx p) rfl rfl (by omega) (by omega) hat hne) ?_
    repeat (first | (refine A1 ⟨?_⟩; intros) | (refine Wcx (c) ?_) | (refine Wdcx (c) ?_) | (refine Wcgx (c) ?_) | (refine Wdcgx (c) ?_))
    refine Wown hown (by omega) (fun s2 H2 hown' => ?_)
    have hco2 := hown'.co
    replace hgo := hgo s2 H2 hown'
    simp only [List.cons_append, List.nil_append]
    clear hown hown'
    repeat (refine A1 ⟨?_⟩; intros)
    exact hgo _ _ (by (repeat (first | exact LeF.nil _ | refine LeF.cons (Le.refl _) ?_ | refine LeF.cons (Le.int (by omega)) ?_))) (by repeat (first | exact List.Sublist.refl _ | refine List.Sublist.cons _ ?_))
  · have hke : k = l.length := by omega
    subst hke
    rw [List.take_length] at hown
    refine WP.rowS 9 hown rfl (show ([(bm, 94, mfc m)] ++ Hs).Perm _ from List.perm_append_comm) ?_
    rw [← epp]
    clear hK hown
    repeat (first | (refine A1 ⟨?_⟩; intros) | (refine Wcx (c3) ?_) | (refine Wdcx (c3) ?_) | (refine Wcgx (c3) ?_) | (refine Wdcgx (c3) ?_))
    ((first | refine endR ?_ | refine endN ?_); exact end2 (RV.tmp rfl) (RV.tmp rfl) (Le.refl _))
abbrev nlx (d : List Nat) : List SV := [dg d]
theorem nlx_len (d : List Nat) : (nlx d).length = 1 := rfl
theorem small_pu (n : Nat) (hn : n ≤ 1000000000) (xs : List (List Nat)) (hl : xs.length ≤ 1000000000) : Pu Tryz.prog 17 [lit (.int .i64 n), sl (xs.map nlx).flatten xs.length] (lit (.bool (decide (∀ d ∈ xs, d.length ≤ n)))) := by
  refine Pu.intro Tryz.func17 rfl (by kernel_rfl) fun C => ?_
  repeat (refine A1 ⟨?_⟩; intros)
  refine WP.loopS (ι := Nat) (fun k => k ≤ xs.length ∧ ∀ d ∈ xs.take k, d.length ≤ n) (fun k => xs.length - k) (fun k => fm [(0, lit (.int .i64 n)), (7, sl (xs.map nlx).flatten xs.length), (8, lit (.int .i64 xs.length)), (9, lit (.int .i64 k))]) (fun _ => []) 0
    ⟨Nat.zero_le _, by simp⟩ (by (repeat (first | exact LeF.nil _ | refine LeF.cons (Le.refl _) ?_ | refine LeF.cons (Le.int (by omega)) ?_))) (List.nil_sublist _) ?_
  rintro k ⟨hk, hr⟩ K hK
  by_cases hkl : k < xs.length
  · have hget := List.getElem?_eq_getElem hkl
    generalize xs[k] = d at hget
    have hmem : d ∈ xs := List.mem_of_getElem? hget
    have hat := flat_at (f := nlx) (n := 1) nlx_len hget
    have hne : (xs.map nlx).flatten ≠ [] := flat_ne nlx_len (by omega) (fun e => by rw [e] at hkl; simp at hkl)
    by_cases h1 : d.length ≤ n
    · have hgo := fun F' H' => hK F' H' (k + 1) ⟨by omega, fun x hx => by
        rw [take_snoc hget] at hx
        rcases List.mem_append.1 hx with hx | hx
        · exact hr x hx
        · rw [List.mem_singleton] at hx; subst hx; exact h1⟩ (by omega)
      clear hK hr
      repeat (refine A1 ⟨?_⟩; intros)
      refine Wo (ov_idxS (cs' := nlx d) rfl rfl (by omega) (by omega) hat hne) ?_
      repeat (refine A1 ⟨?_⟩; intros)
      exact hgo _ _ (by (repeat (first | exact LeF.nil _ | refine LeF.cons (Le.refl _) ?_ | refine LeF.cons (Le.int (by omega)) ?_))) (List.nil_sublist _)
    · have hno : ¬ ∀ d ∈ xs, d.length ≤ n := fun h => h1 (h d hmem)
      rw [decide_eq_false hno]
      clear hK hr hno
      repeat (refine A1 ⟨?_⟩; intros)
      refine Wo (ov_idxS (cs' := nlx d) rfl rfl (by omega) (by omega) hat hne) ?_
      repeat (refine A1 ⟨?_⟩; intros)
      exact endR (end1 (RV.tmp rfl) (Le.refl _))
  · have hke : k = xs.length := by omega
    subst hke
    rw [List.take_length] at hr
    rw [decide_eq_true hr]
    repeat (refine A1 ⟨?_⟩; intros)
    exact endR (end1 (RV.tmp rfl) (Le.refl _))
abbrev lrx (l : RL) : List SV := [lit (.bool l.s), dg l.x, lit (.bool l.t), dg l.y, lit (.bool l.u), dg l.z]
abbrev RL.sh (l : RL) : Prop := ∀ d ∈ [l.x, l.y, l.z], d.length ≤ 3
theorem smallL_pu (l : RL) : Pu Tryz.prog 5 [lit (.int .i64 3), sl (lrx l) 1] (lit (.bool (decide l.sh))) := by
  have c := small_pu 3 (by omega) [l.x, l.y, l.z] (by simp)
  rw [show ([l.x, l.y, l.z].map nlx).flatten = [dg l.x, dg l.y, dg l.z] from rfl, show [l.x, l.y, l.z].length = 3 from rfl] at c
  by_cases h : l.sh
  · rw [decide_eq_true h] at c ⊢
    refine Pu.intro Tryz.func5 rfl (by kernel_rfl) fun C => ?_
    repeat (refine A1 ⟨?_⟩; intros)
    refine WP.unroll 2 ?_
    refine WPR.succ ?_
    repeat (refine A1 ⟨?_⟩; intros)
    refine Wo (ov_idxS (cs' := lrx l) rfl rfl (by omega) (by omega) rfl (by intro h; cases h)) ?_
    repeat (refine A1 ⟨?_⟩; intros)
    refine WpubS 23 rfl (HDel.here _) (by omega) (by omega) ?_
    repeat (first | (refine A1 ⟨?_⟩; intros) | (refine Wcx (c) ?_) | (refine Wdcx (c) ?_) | (refine Wcgx (c) ?_) | (refine Wdcgx (c) ?_))
    ((first | refine endR ?_ | refine endN ?_); exact end1 (RV.tmp rfl) (Le.refl _))
  · rw [decide_eq_false h] at c ⊢
    refine Pu.intro Tryz.func5 rfl (by kernel_rfl) fun C => ?_
    repeat (refine A1 ⟨?_⟩; intros)
    refine WP.unroll 2 ?_
    refine WPR.succ ?_
    repeat (refine A1 ⟨?_⟩; intros)
    refine Wo (ov_idxS (cs' := lrx l) rfl rfl (by omega) (by omega) rfl (by intro h; cases h)) ?_
    repeat (refine A1 ⟨?_⟩; intros)
    refine WpubS 23 rfl (HDel.here _) (by omega) (by omega) ?_
    repeat (first | (refine A1 ⟨?_⟩; intros) | (refine Wcx (c) ?_) | (refine Wdcx (c) ?_) | (refine Wcgx (c) ?_) | (refine Wdcgx (c) ?_))
    ((first | refine endR ?_ | refine endN ?_); exact end1 (RV.tmp rfl) (Le.refl _))
theorem ringKind_pu [Sent 0] [Sent 3] : Pu Tryz.prog 14 [lit (.int .i64 2)] (lit (sent 0)) ∧ Pu Tryz.prog 14 [lit (.int .i64 3)] (lit (sent 3)) := by
  constructor
  · refine Pu.intro Tryz.func14 rfl (by kernel_rfl) fun C => ?_
    repeat (refine A1 ⟨?_⟩; intros)
    ((first | refine endR ?_ | refine endN ?_); exact end1 (RV.tmp rfl) (Le.refl _))
  · refine Pu.intro Tryz.func14 rfl (by kernel_rfl) fun C => ?_
    repeat (refine A1 ⟨?_⟩; intros)
    ((first | refine endR ?_ | refine endN ?_); exact end1 (RV.tmp rfl) (Le.refl _))
abbrev mzc : List SV := [lit (.bool false), lit (.slice none 0 0), lit (.slice none 0 0), lit (.bool false), lit (.slice none 0 0), lit (.slice none 0 0), lit (.bool false), lit (.slice none 0 0), lit (.slice none 0 0), lit (.bool false), lit (.slice none 0 0), lit (.slice none 0 0), lit (.bool false), lit (.slice none 0 0), lit (.slice none 0 0), lit (.bool false), lit (.slice none 0 0), lit (.slice none 0 0)]
abbrev mqc (m : M6 Rat) : List SV := [lit (.bool (decide (m.a.num < 0))), nat m.a.num.natAbs, nat m.a.den, lit (.bool (decide (m.b.num < 0))), nat m.b.num.natAbs, nat m.b.den, lit (.bool (decide (m.c.num < 0))), nat m.c.num.natAbs, nat m.c.den, lit (.bool (decide (m.d.num < 0))), nat m.d.num.natAbs, nat m.d.den, lit (.bool (decide (m.e.num < 0))), nat m.e.num.natAbs, nat m.e.den, lit (.bool (decide (m.f.num < 0))), nat m.f.num.natAbs, nat m.f.den]
theorem aRing_s {m : M6 Rat} [Sent 1] (hr : Pu Tryz.prog 28 [ag mzc] (Ab.tup [mf m, lit (sent 1)])) {l : List Pq} (hl : l.length ≤ 4096) (hh : ∀ p ∈ l, ht p.1 ≤ 100000 ∧ ht p.2 ≤ 100000) (h3 : 3 ≤ (srt l).length) (he : ∀ i, i < l.length → badE l i = false) :
    Pu Tryz.prog 8 [ag mzc, aps l] (Ab.tup [lit (.slice none 0 0), lit (sent 1)]) := by
  have c1 := ringOf_ok l hl hh h3 he
  refine Pu.intro Tryz.func8 rfl (by kernel_rfl) fun C => ?_
  repeat (first | (refine A1 ⟨?_⟩; intros) | (refine Wcx (c1) ?_) | (refine Wdcx (c1) ?_) | (refine Wcgx (c1) ?_) | (refine Wdcgx (c1) ?_) | (refine Wcx (hr) ?_) | (refine Wdcx (hr) ?_) | (refine Wcgx (hr) ?_) | (refine Wdcgx (hr) ?_))
  ((first | refine endR ?_ | refine endN ?_); exact end2 (RV.tmp rfl) (RV.tmp rfl) (Le.refl _))
theorem aLine_s {m : M6 Rat} [Sent 1] (hr : Pu Tryz.prog 28 [ag mzc] (Ab.tup [mf m, lit (sent 1)])) {l : Li} (hok : l.ok) (hle : l.le 100000) : Pu Tryz.prog 9 [ag mzc, lq l] (Ab.tup [ag [lit (.bool false), lit (.slice none 0 0), lit (.bool false), lit (.slice none 0 0), lit (.bool false), lit (.slice none 0 0)], lit (sent 1)]) := by
  have c1 := lnOf_pu hok hle
  refine Pu.intro Tryz.func9 rfl (by kernel_rfl) fun C => ?_
  repeat (first | (refine A1 ⟨?_⟩; intros) | (refine Wcx (c1) ?_) | (refine Wdcx (c1) ?_) | (refine Wcgx (c1) ?_) | (refine Wdcgx (c1) ?_) | (refine Wcx (hr) ?_) | (refine Wdcx (hr) ?_) | (refine Wcgx (hr) ?_) | (refine Wdcgx (hr) ?_))
  ((first | refine endR ?_ | refine endN ?_); exact end2 (RV.cellA rfl (by repeat (first | exact List.mem_cons_self | apply List.mem_cons_of_mem)) (by (try simp only [List.drop_succ_cons, List.drop_zero, List.drop_nil, List.take_succ_cons, List.take_zero, List.take_nil, Nat.zero_add, Nat.add_zero, Nat.reduceAdd]) <;> exact rfl) rfl) (RV.tmp rfl) (Le.refl _))
theorem aRing_bad {ms : List SV} {R : SV} {g : Nat} (hr : Pu Tryz.prog 27 [R] (noRg g)) : Pu Tryz.prog 8 [ag ms, R] (noRg g) := by
  refine Pu.intro Tryz.func8 rfl (by kernel_rfl) fun C => ?_
  repeat (first | (refine A1 ⟨?_⟩; intros) | (refine Wcx (hr) ?_) | (refine Wdcx (hr) ?_) | (refine Wcgx (hr) ?_) | (refine Wdcgx (hr) ?_))
  refine Wo (ov_neX (by kernel_rfl) rfl) ?_
  repeat (refine A1 ⟨?_⟩; intros)
  ((first | refine endR ?_ | refine endN ?_); exact end2 (RV.tmp rfl) (RV.tmp rfl) (Le.refl _))
theorem aLine_bad {ms : List SV} {u1 u2 u3 u4 u5 u6 : SV} [Sent 0] (hr : Pu Tryz.prog 31 [ag [u1, u2, u3, u4, u5, u6]] (Ab.tup [lzero, lit (.bool false)])) : Pu Tryz.prog 9 [ag ms, ag [u1, u2, u3, u4, u5, u6]] (Ab.tup [ag [lit (.bool false), lit (.slice none 0 0), lit (.bool false), lit (.slice none 0 0), lit (.bool false), lit (.slice none 0 0)], lit (sent 0)]) := by
  refine Pu.intro Tryz.func9 rfl (by kernel_rfl) fun C => ?_
  repeat (first | (refine A1 ⟨?_⟩; intros) | (refine Wcx (hr) ?_) | (refine Wdcx (hr) ?_) | (refine Wcgx (hr) ?_) | (refine Wdcgx (hr) ?_))
  repeat' (first | (refine A1 ⟨?_⟩; intros) | exact WPI.nil | refine And.intro ?_ ?_)
  all_goals ((first | refine endR ?_ | refine endN ?_); exact end2 (RV.cellA rfl (by repeat (first | exact List.mem_cons_self | apply List.mem_cons_of_mem)) (by (try simp only [List.drop_succ_cons, List.drop_zero, List.drop_nil, List.take_succ_cons, List.take_zero, List.take_nil, Nat.zero_add, Nat.add_zero, Nat.reduceAdd]) <;> exact rfl) rfl) (RV.tmp rfl) (Le.refl _))
theorem regular_z [Sent 1] : Pu Tryz.prog 28 [mz] (Ab.tup [mf ⟨0, 0, 0, 0, 0, 0⟩, lit (sent 1)]) := by
  have hd : D ([] : List Nat) := fun _ h => by cases h
  have hk : (⟨false, [], []⟩ : RQ).ok 1 := ⟨hd, hd, by simp, by simp⟩
  have hv : (⟨false, [], []⟩ : RQ).v = 0 := by unfold RQ.v; simp [val, sv, Rat.mkRat_zero]
  have ho := (aof_pu (m := ⟨⟨false, [], []⟩, ⟨false, [], []⟩, ⟨false, [], []⟩, ⟨false, [], []⟩, ⟨false, [], []⟩, ⟨false, [], []⟩⟩) ⟨hk, hk, hk, hk, hk, hk⟩ (by omega)).arg (l' := [mz])
    ⟨Le.ag ⟨Le.refl _, le_nil, le_nil, Le.refl _, le_nil, le_nil, Le.refl _, le_nil, le_nil, Le.refl _, le_nil, le_nil, Le.refl _, le_nil, le_nil, Le.refl _, le_nil, le_nil, trivial⟩, trivial⟩
  unfold M6.v at ho
  simp only [hv] at ho
  have h0 := ht_zero
  have hdt := adet_pu (m := ⟨0, 0, 0, 0, 0, 0⟩) (L := 1) ⟨by show ht (0 : Rat) ≤ 1; omega, by show ht (0 : Rat) ≤ 1; omega, by show ht (0 : Rat) ≤ 1; omega, by show ht (0 : Rat) ≤ 1; omega, by show ht (0 : Rat) ≤ 1; omega, by show ht (0 : Rat) ≤ 1; omega⟩ (by omega)
  have hdz := hdt
  clear hdt
  have e0 : (0 : Rat) * 0 - 0 * 0 = 0 := by grind
  have hdt : Pu Tryz.prog 61 [mf ⟨0, 0, 0, 0, 0, 0⟩] (fr 0) := by
    have h := congrArg fr e0
    rw [← h]; exact hdz
  have hz := zero_pu 0
  rw [decide_eq_true (show Rat.num 0 = 0 from rfl)] at hz
  refine Pu.intro Tryz.func28 rfl (by kernel_rfl) fun C => ?_
  repeat (first | (refine A1 ⟨?_⟩; intros) | (refine Wcx (ho) ?_) | (refine Wdcx (ho) ?_) | (refine Wcgx (ho) ?_) | (refine Wdcgx (ho) ?_) | (refine Wcx (hdt) ?_) | (refine Wdcx (hdt) ?_) | (refine Wcgx (hdt) ?_) | (refine Wdcgx (hdt) ?_) | (refine Wcx (hz) ?_) | (refine Wdcx (hz) ?_) | (refine Wcgx (hz) ?_) | (refine Wdcgx (hz) ?_))
  repeat' (first | (refine A1 ⟨?_⟩; intros) | exact WPI.nil | refine And.intro ?_ ?_)
  all_goals ((first | refine endR ?_ | refine endN ?_); exact end2 (RV.cellA rfl (by repeat (first | exact List.mem_cons_self | apply List.mem_cons_of_mem)) (by (try simp only [List.drop_succ_cons, List.drop_zero, List.drop_nil, List.take_succ_cons, List.take_zero, List.take_nil, Nat.zero_add, Nat.add_zero, Nat.reduceAdd]) <;> exact rfl) rfl) (RV.tmp rfl) (Le.refl _))
theorem part0_pu (r s : Nat) : PuH Tryz.prog 84 [lit (.pointer (some ⟨r, 0, none⟩)), lit (.int .i64 0)] [(r, 171, [lit (.slice none 0 0), lit (.slice (some ⟨s, 0, none⟩) 0 0), lit (.int .i64 0), lit (.bool false)]), (s, 4, [])]
      (fun res H => res = bt (.leaf false) ∧ H = [(r, 171, [lit (.slice none 0 0), lit (.slice (some ⟨s, 0, none⟩) 0 0), lit (.int .i64 0), lit (.bool true)]), (s, 4, [])]) noX := by
  have c1 := leaf_pu false
  refine PuH.intro Tryz.func84 rfl (by kernel_rfl) fun C hC => ?_
  repeat (first | (refine A1 ⟨?_⟩; intros) | (refine Wcx (c1) ?_) | (refine Wdcx (c1) ?_) | (refine Wcgx (c1) ?_) | (refine Wdcgx (c1) ?_))
  exact endHR _ _ (end1 (RV.tmp rfl) (Le.refl _)) (List.Sublist.refl _) ⟨rfl, rfl⟩
theorem bof0_pu : Pu Tryz.prog 34 [tz] (Ab.tup [lit (.pointer none), lit (.bool false)]) := by
  have c := part0_pu
  refine Pu.intro Tryz.func34 rfl (by kernel_rfl) fun C => ?_
  repeat (first | (refine AS ⟨?_⟩; intros) | (refine O1 ⟨?_⟩; intros) | (refine Wcx (leaf_pu true) ?_) | (refine Wcgx (leaf_pu true) ?_))
  refine WdN 6 ?_
  repeat (refine A1 ⟨?_⟩; intros)
  refine Wdnew (nk_make rfl rfl (by omega) (by omega)) ?_
  repeat (refine A1 ⟨?_⟩; intros)
  rename_i b1 s r
  refine WfT (c r s) ?_
  rintro _ _ ⟨rfl, rfl⟩
  simp only [List.cons_append, List.nil_append]
  repeat (refine A1 ⟨?_⟩; intros)
  ((first | refine endR ?_ | refine endN ?_); exact end2 (RV.tmp rfl) (RV.tmp rfl) (Le.refl _))
theorem aTree0_pu (ms : List SV) [Sent 0] : Pu Tryz.prog 10 [ag ms, tz] (Ab.tup [tz, lit (sent 0)]) := by
  have c := bof0_pu
  refine Pu.intro Tryz.func10 rfl (by kernel_rfl) fun C => ?_
  repeat (first | (refine A1 ⟨?_⟩; intros) | (refine Wcx (c) ?_) | (refine Wdcx (c) ?_) | (refine Wcgx (c) ?_) | (refine Wdcgx (c) ?_))
  repeat' (first | (refine A1 ⟨?_⟩; intros) | exact WPI.nil | refine And.intro ?_ ?_)
  all_goals ((first | refine endR ?_ | refine endN ?_); exact end2 (RV.cellA rfl (by repeat (first | exact List.mem_cons_self | apply List.mem_cons_of_mem)) (by (try simp only [List.drop_succ_cons, List.drop_zero, List.drop_nil, List.take_succ_cons, List.take_zero, List.take_nil, Nat.zero_add, Nat.add_zero, Nat.reduceAdd]) <;> exact rfl) rfl) (RV.tmp rfl) (Le.refl _))
abbrev oz : SV := ag [lit (.bool false), lit (.slice none 0 0), lit (.slice none 0 0)]
abbrev onil : SV := ag [lit (.bool false), sl [lit (.slice none 0 0)] 1, lit (.slice none 0 0)]
theorem oof0_pu [PowTab] [Sent 3] : Pu Tryz.prog 37 [onil] (Ab.tup [oz, lit (.bool false)]) := by
  have c := (ringOf_few [] (by simp) (fun p h => by cases h) (by decide)).arg (l' := [lit (.slice none 0 0)]) ⟨le_nilS, trivial⟩
  refine Pu.intro Tryz.func37 rfl (by kernel_rfl) fun C => ?_
  repeat (refine A1 ⟨?_⟩; intros)
  refine WP.unroll 2 ?_
  refine WPR.succ ?_
  repeat (refine A1 ⟨?_⟩; intros)
  refine Wo (ov_idxS (cs' := [lit (.slice none 0 0)]) rfl rfl (by omega) (by omega) rfl (by intro h; cases h)) ?_
  repeat (first | (refine A1 ⟨?_⟩; intros) | (refine Wcx (c) ?_) | (refine Wdcx (c) ?_) | (refine Wcgx (c) ?_) | (refine Wdcgx (c) ?_))
  refine Wo (ov_neX (by kernel_rfl) rfl) ?_
  repeat (refine A1 ⟨?_⟩; intros)
  ((first | refine endR ?_ | refine endN ?_); exact end2 (RV.cellA rfl (by repeat (first | exact List.mem_cons_self | apply List.mem_cons_of_mem)) (by (try simp only [List.drop_succ_cons, List.drop_zero, List.drop_nil, List.take_succ_cons, List.take_zero, List.take_nil, Nat.zero_add, Nat.add_zero, Nat.reduceAdd]) <;> exact rfl) rfl) (RV.tmp rfl) (Le.refl _))
theorem aOut0_pu (ms : List SV) [PowTab] [Sent 3] [Sent 0] : Pu Tryz.prog 11 [ag ms, onil] (Ab.tup [oz, lit (sent 0)]) := by
  have c := oof0_pu
  refine Pu.intro Tryz.func11 rfl (by kernel_rfl) fun C => ?_
  repeat (first | (refine A1 ⟨?_⟩; intros) | (refine Wcx (c) ?_) | (refine Wdcx (c) ?_) | (refine Wcgx (c) ?_) | (refine Wdcgx (c) ?_))
  repeat' (first | (refine A1 ⟨?_⟩; intros) | exact WPI.nil | refine And.intro ?_ ?_)
  all_goals ((first | refine endR ?_ | refine endN ?_); exact end2 (RV.cellA rfl (by repeat (first | exact List.mem_cons_self | apply List.mem_cons_of_mem)) (by (try simp only [List.drop_succ_cons, List.drop_zero, List.drop_nil, List.take_succ_cons, List.take_zero, List.take_nil, Nat.zero_add, Nat.add_zero, Nat.reduceAdd]) <;> exact rfl) rfl) (RV.tmp rfl) (Le.refl _))
theorem all_nrm {ps : List (RQ × RQ)} {L : Nat} (hh : ∀ p ∈ ps, p.1.ok L ∧ p.2.ok L) (h : ps.all nrmP = true) : raws ps = aps (ps.map rvl) := by
  have e : ps.map pcells = (ps.map rvl).map apx := by
    rw [List.map_map]
    refine List.map_congr_left fun p hp => ?_
    have hn := List.all_eq_true.1 h p hp
    unfold nrmP at hn
    rw [Bool.and_eq_true] at hn
    obtain ⟨a1, a2, a3⟩ := of_decide_eq_true hn.1
    obtain ⟨b1, b2, b3⟩ := of_decide_eq_true hn.2
    show [lit (.bool p.1.s), dg p.1.n, dg p.1.d, lit (.bool p.2.s), dg p.2.n, dg p.2.d] = [lit (.bool (decide (p.1.v.num < 0))), dg (dgs p.1.v.num.natAbs), dg (dgs p.1.v.den), lit (.bool (decide (p.2.v.num < 0))), dg (dgs p.2.v.num.natAbs), dg (dgs p.2.v.den)]
    rw [← a1, ← a2, ← a3, ← b1, ← b2, ← b3]
  show sl (ps.map pcells).flatten ps.length = sl ((ps.map rvl).map apx).flatten (ps.map rvl).length
  rw [e, List.length_map]
end Go.Ab
