/- Texts laid one behind the other: LnC, Fld, RLn, Ex, TapeB, Bld, Txt, TxtB, Nrm, RgW, RgP. -/
import Derived.Test.YtjdnfbhbdfokcaaGreatDoorB14
import Derived.Test.YtjdnfbhbdfokcaaGreatDoorB16
import Derived.Test.YtjdnfbhbdfokcaaGreatDoorB15
import Derived.Test.YtjdnfbhbdfokcaaGreatDoorB03
import Derived.Lib.AppendStr
import Derived.Lib.UnsafeStr
import Derived.Lib.Builder
import Derived.Laws.Externs
import Derived.Test.YtjdnfbhbdfokcaaGreatDoorRefL
import Derived.Test.YtjdnfbhbdfokcaaGreatDoorB13
import Derived.Laws.IdiomStrings
set_option linter.unusedSectionVars false
set_option linter.unusedVariables false
set_option linter.unusedSimpArgs false
namespace Go.Ab
open Go.Proofs
variable [Base]
theorem ht_g3 {a b c : Rat} {L : Nat} (ha : ht a ≤ L) (hb : ht b ≤ L) (hc : ht c ≤ L) : ht (rgcd a b) ≤ 2 * L + 1 ∧ ht (g3 a b c) ≤ 3 * L + 2 ∧ ht (g3 a b c)⁻¹ ≤ 3 * L + 3 := by
  have h1 := ht_rgcd a b
  have h2 := ht_rgcd (rgcd a b) c
  have h3 := ht_inv (g3 a b c)
  have e : g3 a b c = rgcd (rgcd a b) c := rfl
  rw [← e] at h2
  omega
set_option maxRecDepth 20000 in
set_option maxHeartbeats 1000000 in
theorem make_pu (a b c : Rat) {L : Nat} (hL : L ≤ 100000) (ha : ht a ≤ L) (hb : ht b ≤ L) (hc : ht c ≤ L) (h : a ≠ 0 ∨ b ≠ 0) : Pu Tryz.prog 80 [fr a, fr b, fr c] (Ab.tup [lf (prim a b c).a (prim a b c).b (prim a b c).c, lit (.bool true)]) := by
  obtain ⟨h1, h2, h3⟩ := ht_g3 ha hb hc
  have c1 := zero_pu a
  have c2 := zero_pu b
  have c3 := frgcd_pu a b (by omega) (by omega)
  have c4 := frgcd_pu (rgcd a b) c (by omega) (by omega)
  have c5 : Pu Tryz.prog 133 [fr (rgcd (rgcd a b) c)] (fr (g3 a b c)⁻¹) := inv_pu (g3 a b c) (by omega)
  obtain ⟨e1, e2, e3⟩ := prim_eq (c := c) h
  have c6 := fun b0 => scaled_pu b0 (g3 a b c)⁻¹ a b c (by omega) (by omega) (by omega) (by omega)
  rw [e1, e2, e3] at c6
  generalize (g3 a b c)⁻¹ = q at *
  generalize rgcd a b = r1 at *
  generalize rgcd r1 c = r2 at *
  clear e1 e2 e3
  by_cases h0 : a.num = 0
  · have h9 : b.num ≠ 0 := fun e => by
      rcases h with h | h
      · exact h (Rat.num_eq_zero.1 h0)
      · exact h (Rat.num_eq_zero.1 e)
    rw [decide_eq_true h0] at c1
    rw [decide_eq_false h9] at c2
    clear h0 h9 h
    refine Pu.intro Tryz.func80 rfl (by kernel_rfl) fun C => ?_
    repeat (first | (refine AS ⟨?_⟩; intros) | (refine O1 ⟨?_⟩; intros) | (refine Wcx (c1) ?_) | (refine Wcgx (c1) ?_) | (refine Wcx (c2) ?_) | (refine Wcgx (c2) ?_))
    refine WdN 10 ?_
    repeat (first | (refine A1 ⟨?_⟩; intros) | (refine Wcx (c3) ?_) | (refine Wdcx (c3) ?_) | (refine Wcgx (c3) ?_) | (refine Wdcgx (c3) ?_) | (refine Wcx (c4) ?_) | (refine Wdcx (c4) ?_) | (refine Wcgx (c4) ?_) | (refine Wdcgx (c4) ?_) | (refine Wcx (c5) ?_) | (refine Wdcx (c5) ?_) | (refine Wcgx (c5) ?_) | (refine Wdcgx (c5) ?_))
    simp only [List.drop_succ_cons, List.drop_zero]
    refine WfT (c6 _) ?_
    rintro _ _ ⟨rfl, rfl⟩
    repeat (refine A1 ⟨?_⟩; intros)
    ((first | refine endR ?_ | refine endN ?_); exact end2 (RV.cellA rfl (by repeat (first | exact List.mem_cons_self | apply List.mem_cons_of_mem)) (by (try simp only [List.drop_succ_cons, List.drop_zero, List.drop_nil, List.take_succ_cons, List.take_zero, List.take_nil, Nat.zero_add, Nat.add_zero, Nat.reduceAdd]) <;> exact rfl) rfl) (RV.tmp rfl) (Le.refl _))
  · rw [decide_eq_false h0] at c1
    clear h0 h
    refine Pu.intro Tryz.func80 rfl (by kernel_rfl) fun C => ?_
    repeat (first | (refine AS ⟨?_⟩; intros) | (refine O1 ⟨?_⟩; intros) | (refine Wcx (c1) ?_) | (refine Wcgx (c1) ?_))
    refine WdN 10 ?_
    repeat (first | (refine A1 ⟨?_⟩; intros) | (refine Wcx (c3) ?_) | (refine Wdcx (c3) ?_) | (refine Wcgx (c3) ?_) | (refine Wdcgx (c3) ?_) | (refine Wcx (c4) ?_) | (refine Wdcx (c4) ?_) | (refine Wcgx (c4) ?_) | (refine Wdcgx (c4) ?_) | (refine Wcx (c5) ?_) | (refine Wdcx (c5) ?_) | (refine Wcgx (c5) ?_) | (refine Wdcgx (c5) ?_))
    simp only [List.drop_succ_cons, List.drop_zero]
    refine WfT (c6 _) ?_
    rintro _ _ ⟨rfl, rfl⟩
    repeat (refine A1 ⟨?_⟩; intros)
    ((first | refine endR ?_ | refine endN ?_); exact end2 (RV.cellA rfl (by repeat (first | exact List.mem_cons_self | apply List.mem_cons_of_mem)) (by (try simp only [List.drop_succ_cons, List.drop_zero, List.drop_nil, List.take_succ_cons, List.take_zero, List.take_nil, Nat.zero_add, Nat.add_zero, Nat.reduceAdd]) <;> exact rfl) rfl) (RV.tmp rfl) (Le.refl _))
theorem prim_le {a b c : Rat} {L : Nat} (ha : ht a ≤ L) (hb : ht b ≤ L) (hc : ht c ≤ L) : (prim a b c).le (4 * L + 4) := by
  obtain ⟨_, _, h3⟩ := ht_g3 ha hb hc
  have k1 := ht_mul a (g3 a b c)⁻¹
  have k2 := ht_mul b (g3 a b c)⁻¹
  have k3 := ht_mul c (g3 a b c)⁻¹
  have n1 := ht_num (a * (g3 a b c)⁻¹)
  have n2 := ht_num (b * (g3 a b c)⁻¹)
  have n3 := ht_num (c * (g3 a b c)⁻¹)
  unfold prim
  constructor <;> simp only <;> omega
theorem Li.im_le {m : M6 Rat} {l : Li} {L : Nat} (hm : m.le L) (h : l.le L) (h1 : 1 ≤ L) : (l.im m).le (200 * L + 200) := by
  have hi := M6.inv_le hm
  obtain ⟨i1, i2, i3, i4, i5, i6⟩ := hi
  obtain ⟨ha, hb, hc⟩ := h
  have e1 := ht_of_int l.a
  have e2 := ht_of_int l.b
  have e3 := ht_of_int l.c
  have k1 := ht_mul (l.a : Rat) m.inv.a
  have k2 := ht_mul (l.b : Rat) m.inv.d
  have k3 := ht_mul (l.a : Rat) m.inv.b
  have k4 := ht_mul (l.b : Rat) m.inv.e
  have k5 := ht_mul (l.a : Rat) m.inv.c
  have k6 := ht_mul (l.b : Rat) m.inv.f
  have j1 := ht_add ((l.a : Rat) * m.inv.a) (l.b * m.inv.d)
  have j2 := ht_add ((l.a : Rat) * m.inv.b) (l.b * m.inv.e)
  have j3 := ht_add ((l.a : Rat) * m.inv.c) (l.b * m.inv.f)
  have j4 := ht_add ((l.a : Rat) * m.inv.c + l.b * m.inv.f) l.c
  unfold Li.im
  have := prim_le (a := l.a * m.inv.a + l.b * m.inv.d) (b := l.a * m.inv.b + l.b * m.inv.e) (c := l.a * m.inv.c + l.b * m.inv.f + l.c) (L := 46 * L + 48) (by omega) (by omega) (by omega)
  exact ⟨Nat.le_trans this.a (by omega), Nat.le_trans this.b (by omega), Nat.le_trans this.c (by omega)⟩
set_option maxHeartbeats 1000000 in
theorem lnOf_pu {l : Li} (hl : l.ok) (h : l.le 100000) : Pu Tryz.prog 31 [lq l] (Ab.tup [lf l.a l.b l.c, lit (.bool true)]) := by
  obtain ⟨ha, hb, hc⟩ := h
  have e1 := ht_of_int l.a
  have e2 := ht_of_int l.b
  have e3 := ht_of_int l.c
  have n1 := intNormal_z l.a (by omega)
  have n2 := intNormal_z l.b (by omega)
  have n3 := intNormal_z l.c (by omega)
  have w1 := whole_pu l.a (by omega)
  have w2 := whole_pu l.b (by omega)
  have w3 := whole_pu l.c (by omega)
  have z1 := zero_pu (l.a : Rat)
  have z2 := zero_pu (l.b : Rat)
  rw [Rat.num_intCast] at z1 z2
  have hg1 := ht_rgcd (l.a : Rat) (l.b : Rat)
  have g1 := frgcd_pu (l.a : Rat) (l.b : Rat) (by omega) (by omega)
  have g2 := frgcd_pu (rgcd l.a l.b) (l.c : Rat) (by omega) (by omega)
  have hg : rgcd (rgcd l.a l.b) l.c = 1 := by
    rw [rgcd_ints, show ((Nat.gcd l.a.natAbs l.b.natAbs : Nat) : Rat) = (((Nat.gcd l.a.natAbs l.b.natAbs : Nat) : Int) : Rat) from rfl, rgcd_ints, Int.natAbs_natCast, hl.1]; rfl
  rw [hg] at g2
  generalize rgcd (l.a : Rat) (l.b : Rat) = G at *
  have f1 : Pu Tryz.prog 52 [lit (.int .i64 1)] (fr 1) := fint_pu 1 (by omega) (by omega)
  have q := fequal_pu 1 1 (by decide +kernel) (by decide +kernel)
  rw [decide_eq_true rfl] at q
  have hne := hl.2
  clear hg hg1 e1 e2 e3 ha hb hc hl
  by_cases h0 : l.a = 0
  · have h9 : l.b ≠ 0 := by
      rcases hne with h | h
      · exact absurd h0 h
      · exact h
    rw [decide_eq_true h0] at z1
    rw [decide_eq_false h9] at z2
    clear hne h9 h0
    refine Pu.intro Tryz.func31 rfl (by kernel_rfl) fun C => ?_
    repeat (first | (refine A1 ⟨?_⟩; intros) | (refine Wcx (n1) ?_) | (refine Wdcx (n1) ?_) | (refine Wcgx (n1) ?_) | (refine Wdcgx (n1) ?_) | (refine Wcx (n2) ?_) | (refine Wdcx (n2) ?_) | (refine Wcgx (n2) ?_) | (refine Wdcgx (n2) ?_) | (refine Wcx (n3) ?_) | (refine Wdcx (n3) ?_) | (refine Wcgx (n3) ?_) | (refine Wdcgx (n3) ?_) | (refine Wcx (w1) ?_) | (refine Wdcx (w1) ?_) | (refine Wcgx (w1) ?_) | (refine Wdcgx (w1) ?_) | (refine Wcx (w2) ?_) | (refine Wdcx (w2) ?_) | (refine Wcgx (w2) ?_) | (refine Wdcgx (w2) ?_) | (refine Wcx (w3) ?_) | (refine Wdcx (w3) ?_) | (refine Wcgx (w3) ?_) | (refine Wdcgx (w3) ?_) | (refine Wcx (z1) ?_) | (refine Wdcx (z1) ?_) | (refine Wcgx (z1) ?_) | (refine Wdcgx (z1) ?_) | (refine Wcx (z2) ?_) | (refine Wdcx (z2) ?_) | (refine Wcgx (z2) ?_) | (refine Wdcgx (z2) ?_) | (refine Wcx (g1) ?_) | (refine Wdcx (g1) ?_) | (refine Wcgx (g1) ?_) | (refine Wdcgx (g1) ?_) | (refine Wcx (g2) ?_) | (refine Wdcx (g2) ?_) | (refine Wcgx (g2) ?_) | (refine Wdcgx (g2) ?_) | (refine Wcx (f1) ?_) | (refine Wdcx (f1) ?_) | (refine Wcgx (f1) ?_) | (refine Wdcgx (f1) ?_) | (refine Wcx (q) ?_) | (refine Wdcx (q) ?_) | (refine Wcgx (q) ?_) | (refine Wdcgx (q) ?_))
    ((first | refine endR ?_ | refine endN ?_); exact end2 (RV.cellA rfl (by repeat (first | exact List.mem_cons_self | apply List.mem_cons_of_mem)) (by (try simp only [List.drop_succ_cons, List.drop_zero, List.drop_nil, List.take_succ_cons, List.take_zero, List.take_nil, Nat.zero_add, Nat.add_zero, Nat.reduceAdd]) <;> exact rfl) rfl) (RV.tmp rfl) (Le.refl _))
  · rw [decide_eq_false h0] at z1
    clear hne h0 z2
    refine Pu.intro Tryz.func31 rfl (by kernel_rfl) fun C => ?_
    repeat (first | (refine A1 ⟨?_⟩; intros) | (refine Wcx (n1) ?_) | (refine Wdcx (n1) ?_) | (refine Wcgx (n1) ?_) | (refine Wdcgx (n1) ?_) | (refine Wcx (n2) ?_) | (refine Wdcx (n2) ?_) | (refine Wcgx (n2) ?_) | (refine Wdcgx (n2) ?_) | (refine Wcx (n3) ?_) | (refine Wdcx (n3) ?_) | (refine Wcgx (n3) ?_) | (refine Wdcgx (n3) ?_) | (refine Wcx (w1) ?_) | (refine Wdcx (w1) ?_) | (refine Wcgx (w1) ?_) | (refine Wdcgx (w1) ?_) | (refine Wcx (w2) ?_) | (refine Wdcx (w2) ?_) | (refine Wcgx (w2) ?_) | (refine Wdcgx (w2) ?_) | (refine Wcx (w3) ?_) | (refine Wdcx (w3) ?_) | (refine Wcgx (w3) ?_) | (refine Wdcgx (w3) ?_) | (refine Wcx (z1) ?_) | (refine Wdcx (z1) ?_) | (refine Wcgx (z1) ?_) | (refine Wdcgx (z1) ?_) | (refine Wcx (g1) ?_) | (refine Wdcx (g1) ?_) | (refine Wcgx (g1) ?_) | (refine Wdcgx (g1) ?_) | (refine Wcx (g2) ?_) | (refine Wdcx (g2) ?_) | (refine Wcgx (g2) ?_) | (refine Wdcgx (g2) ?_) | (refine Wcx (f1) ?_) | (refine Wdcx (f1) ?_) | (refine Wcgx (f1) ?_) | (refine Wdcgx (f1) ?_) | (refine Wcx (q) ?_) | (refine Wdcx (q) ?_) | (refine Wcgx (q) ?_) | (refine Wdcgx (q) ?_))
    ((first | refine endR ?_ | refine endN ?_); exact end2 (RV.cellA rfl (by repeat (first | exact List.mem_cons_self | apply List.mem_cons_of_mem)) (by (try simp only [List.drop_succ_cons, List.drop_zero, List.drop_nil, List.take_succ_cons, List.take_zero, List.take_nil, Nat.zero_add, Nat.add_zero, Nat.reduceAdd]) <;> exact rfl) rfl) (RV.tmp rfl) (Le.refl _))
set_option maxHeartbeats 1000000 in
theorem aline_pu {m : M6 Rat} {l : Li} {L : Nat} (hm : m.le L) (h : l.le L) (h1 : 1 ≤ L) (hL : L ≤ 400) (hdet : m.det ≠ 0) (hl : l.ok) : Pu Tryz.prog 32 [mf m, lf l.a l.b l.c] (lf (l.im m).a (l.im m).b (l.im m).c) := by
  have c1 := inverse_pu hm (by omega)
  obtain ⟨i1, i2, i3, i4, i5, i6⟩ := M6.inv_le hm
  obtain ⟨ha, hb, hc⟩ := h
  have e1 := ht_of_int l.a
  have e2 := ht_of_int l.b
  have e3 := ht_of_int l.c
  have k1 := ht_mul (l.a : Rat) m.inv.a
  have k2 := ht_mul (l.b : Rat) m.inv.d
  have k3 := ht_mul (l.a : Rat) m.inv.b
  have k4 := ht_mul (l.b : Rat) m.inv.e
  have k5 := ht_mul (l.a : Rat) m.inv.c
  have k6 := ht_mul (l.b : Rat) m.inv.f
  have j1 := ht_add ((l.a : Rat) * m.inv.a) (l.b * m.inv.d)
  have j2 := ht_add ((l.a : Rat) * m.inv.b) (l.b * m.inv.e)
  have j3 := ht_add ((l.a : Rat) * m.inv.c) (l.b * m.inv.f)
  have j4 := ht_add ((l.a : Rat) * m.inv.c + l.b * m.inv.f) l.c
  have c2 := lnormal_pu l.a l.b l.c
  have c3 := pdot_pu l.a l.b m.inv.a m.inv.d (by omega) (by omega) (by omega) (by omega)
  have c4 := pdot_pu l.a l.b m.inv.b m.inv.e (by omega) (by omega) (by omega) (by omega)
  have c5 := lvalue_pu l.a l.b l.c m.inv.c m.inv.f (by omega) (by omega) (by omega) (by omega) (by omega)
  have c6 := make_pu (l.a * m.inv.a + l.b * m.inv.d) (l.a * m.inv.b + l.b * m.inv.e) (l.a * m.inv.c + l.b * m.inv.f + l.c) (L := 46 * L + 48) (by omega) (by omega) (by omega) (by omega) (Li.im_ne hdet hl)
  rw [show prim (l.a * m.inv.a + l.b * m.inv.d) (l.a * m.inv.b + l.b * m.inv.e) (l.a * m.inv.c + l.b * m.inv.f + l.c) = l.im m from rfl] at c6
  generalize l.im m = l' at *
  clear k1 k2 k3 k4 k5 k6 j1 j2 j3 j4 e1 e2 e3 i1 i2 i3 i4 i5 i6 ha hb hc
  refine Pu.intro Tryz.func32 rfl (by kernel_rfl) fun C => ?_
  repeat (first | (refine A1 ⟨?_⟩; intros) | (refine Wcx (c1) ?_) | (refine Wdcx (c1) ?_) | (refine Wcgx (c1) ?_) | (refine Wdcgx (c1) ?_) | (refine Wcx (c2) ?_) | (refine Wdcx (c2) ?_) | (refine Wcgx (c2) ?_) | (refine Wdcgx (c2) ?_) | (refine Wcx (c3) ?_) | (refine Wdcx (c3) ?_) | (refine Wcgx (c3) ?_) | (refine Wdcgx (c3) ?_) | (refine Wcx (c4) ?_) | (refine Wdcx (c4) ?_) | (refine Wcgx (c4) ?_) | (refine Wdcgx (c4) ?_) | (refine Wcx (c5) ?_) | (refine Wdcx (c5) ?_) | (refine Wcgx (c5) ?_) | (refine Wdcgx (c5) ?_) | (refine Wcx (c6) ?_) | (refine Wdcx (c6) ?_) | (refine Wcgx (c6) ?_) | (refine Wdcgx (c6) ?_))
  ((first | refine endR ?_ | refine endN ?_); refine end1 (RV.cellA rfl (by repeat (first | exact List.mem_cons_self | apply List.mem_cons_of_mem)) (by (try simp only [List.drop_succ_cons, List.drop_zero, List.drop_nil, List.take_succ_cons, List.take_zero, List.take_nil, Nat.zero_add, Nat.add_zero, Nat.reduceAdd]) <;> exact rfl) rfl) (Le.refl _))
theorem aLine_t {m : M6 Rat} {l : Li} {L : Nat} (hm : m.le L) (h : l.le L) (h1 : 1 ≤ L) (hL : L ≤ 400) (hdet : m.det ≠ 0) (hl : l.ok) : Pu Tryz.prog 9 [mq m, lq l] (Ab.tup [lq (l.im m), lit .nilIface]) := by
  have c1 := lnOf_pu hl ⟨Nat.le_trans h.a (by omega), Nat.le_trans h.b (by omega), Nat.le_trans h.c (by omega)⟩
  have c2 := regular_t hm (by omega) hdet
  have c3 := aline_pu hm h h1 hL hdet hl
  have hi := Li.im_le hm h h1
  have c4 := lapi_pu (l.im m) ⟨Nat.le_trans hi.a (by omega), Nat.le_trans hi.b (by omega), Nat.le_trans hi.c (by omega)⟩
  generalize l.im m = l' at *
  clear hi
  refine Pu.intro Tryz.func9 rfl (by kernel_rfl) fun C => ?_
  repeat (first | (refine A1 ⟨?_⟩; intros) | (refine Wcx (c1) ?_) | (refine Wdcx (c1) ?_) | (refine Wcgx (c1) ?_) | (refine Wdcgx (c1) ?_) | (refine Wcx (c2) ?_) | (refine Wdcx (c2) ?_) | (refine Wcgx (c2) ?_) | (refine Wdcgx (c2) ?_) | (refine Wcx (c3) ?_) | (refine Wdcx (c3) ?_) | (refine Wcgx (c3) ?_) | (refine Wdcgx (c3) ?_) | (refine Wcx (c4) ?_) | (refine Wdcx (c4) ?_) | (refine Wcgx (c4) ?_) | (refine Wdcgx (c4) ?_))
  ((first | refine endR ?_ | refine endN ?_); exact end2 (RV.cellA rfl (by repeat (first | exact List.mem_cons_self | apply List.mem_cons_of_mem)) (by (try simp only [List.drop_succ_cons, List.drop_zero, List.drop_nil, List.take_succ_cons, List.take_zero, List.take_nil, Nat.zero_add, Nat.add_zero, Nat.reduceAdd]) <;> exact rfl) rfl) (RV.tmp rfl) (Le.refl _))
section
variable {P : Program} {F : Fr} {H : LH} {ty : TypeId}
theorem nk_make {T e : TypeId} {by_ : Nat} {z0 : SV} {g : Bool} [hS : TSl P T e] [hT : TY P e 1 by_ [z0] g] {x y : Operand} {k : Nat}
    (hx : ev F x = lit (.int .i64 k)) (hy : ev F y = lit (.int .i64 k)) (hk : k * by_ ≤ 140737488355328) (hk' : k ≤ 9223372036854775807) : NewOk P (.makeSlice T x y) F e (List.replicate k z0) (mkS k) := by
  intro w o a ho ⟨m0, hm0⟩
  obtain ⟨v, hz, hall⟩ := hT.run_zero w
  obtain ⟨i, v', hi, hsz, hby, hz', _, hfl, hvs⟩ := hT.run_bytes
  have hvv : v = v' := by simp [zeroValue, typeInfo, hi, hz'] at hz; exact hz.symm
  subst hvv
  have e0 := evN hm0 (x := x) (by simp [Op.operands]); rw [hx, lit_p] at e0
  have e1 := evN hm0 (x := y) (by simp [Op.operands]); rw [hy, lit_p] at e1
  have hw : IntKind.i64.wrap (k : Int) = k := by
    simp only [IntKind.wrap, IntKind.bits, IntKind.signed, Bool.true_and]
    have h1 : ¬ (9223372036854775808 : Int) ≤ (k : Int) % 18446744073709551616 := by omega
    simp [h1]; omega
  obtain ⟨c0, hc0⟩ : ∃ c0, v.cells = #[c0] := by
    have : v.cells.size = 1 := hvs
    rcases hvc : v.cells with ⟨l⟩
    rw [hvc] at this
    match l, this with
    | [c0], _ => exact ⟨c0, rfl⟩
  have hrun : (execOp a.eval o).run P w = .ok (.value (.slice (some ⟨w.heap.size, 0, none⟩) k k)) (w.alloc (.cells (List.replicate k c0).toArray e)) := by
    have hb : ¬ ((by_ : Int) * (k : Int) > 281474976710656) := by
      have : (by_ * k : Nat) ≤ 281474976710656 := by rw [Nat.mul_comm]; omega
      have h2 : ((by_ * k : Nat) : Int) ≤ 281474976710656 := by omega
      rw [Int.natCast_mul] at h2; omega
    have hk0 : ¬ ((k : Int) < 0) := by omega
    have harr : (Array.range k).map (fun j => v.cells[j % v.cells.size]!) = (List.replicate k c0).toArray := by
      rw [hc0]
      apply Array.ext
      · simp
      · intro j h1 h2; simp [Nat.mod_one]
    simp only [execOp, ho, Instr.makeSlice, e0, e1, Sem.run_bind, underlying, run_program, hS.h, Result.andThen_ok, Sem.run_pure, asInt, asIntOf, typeInfo, hi, hw, hby]
    have hcond : ((decide ((k : Int) < 0) || decide ((by_ : Int) * (k : Int) > 2 ^ 48)) || decide ((k : Int) < 0) || decide ((k : Int) > (k : Int))) = false := by
      simp only [Bool.or_eq_false_iff, decide_eq_false_iff_not]
      refine ⟨⟨⟨hk0, ?_⟩, hk0⟩, by omega⟩
      have : (2 : Int) ^ 48 = 281474976710656 := by decide
      rw [this]; exact hb
    simp only [hcond, Bool.false_eq_true, if_false, Int.toNat_natCast, Sem.run_bind, run_askRoom, Result.andThen_ok, hT.run_size, Nat.mul_one, newRow]
    by_cases hk : k = 0
    · subst hk; simp [show (Array.range 0) = #[] from rfl]
    · simp only [hk, if_false, Sem.run_bind, hz, Result.andThen_ok, Sem.run_pure, harr, run_newObj, World.alloc_eq]
  refine ⟨_, hrun, fun m _ => ?_⟩
  have := hall m
  rw [hc0] at this
  exact All2.replicate this.1.1 this.1.2 k
end
section
variable {P : Program} {F : Fr} {H : LH} {ty : TypeId}
theorem ArgsOk.exAt {m : Mem} {α : Type} {g : α → SV} : ∀ {pre post : List SV} {vs : List Value}, ArgsOk m (pre ++ ex g :: post) vs → ∃ x, ArgsOk m (pre ++ g x :: post) vs
  | [], _, [], h => h.elim
  | [], _, v :: vs, h => by
    have h1 := h.1
    unfold ex at h1
    obtain ⟨x, hx⟩ := h1
    exact ⟨x, hx, h.2⟩
  | _ :: _, _, [], h => h.elim
  | s :: pre, post, v :: vs, h => by
    obtain ⟨x, hx⟩ := ArgsOk.exAt (pre := pre) (post := post) h.2
    exact ⟨x, h.1, hx⟩
theorem ex_mk {α : Type} {m : Mem} {v : Value} {g : α → SV} (x : α) (h : (g x).p m v) : (ex g).p m v := by unfold ex; exact ⟨x, h⟩
theorem Pu.exAt {f : FuncId} {α : Type} (pre post : List SV) {g r : α → SV} (x0 : α) (h : ∀ x, Pu P f (pre ++ g x :: post) (r x)) : Pu P f (pre ++ ex g :: post) (ex r) := by
  unfold Pu at *
  exact ⟨(h x0).1, fun m w vs hm ha => by
    obtain ⟨x, hx⟩ := ha.exAt
    exact ((h x).2 m w vs hm hx).mono fun _ _ ⟨v, m', e, hp, k⟩ => ⟨v, m', e, ex_mk x hp, k⟩⟩
theorem Pu.exAt' {f : FuncId} {α : Type} (pre post : List SV) {g : α → SV} {r : SV} (x0 : α) (h : ∀ x, Pu P f (pre ++ g x :: post) r) : Pu P f (pre ++ ex g :: post) r := by
  unfold Pu at *
  exact ⟨(h x0).1, fun m w vs hm ha => by
    obtain ⟨x, hx⟩ := ha.exAt
    exact (h x).2 m w vs hm hx⟩
theorem OpV.mono' {op : Op} {s s' : SV} (h : OpV P op ty F H s) (k : Le s s') : OpV P op ty F H s' := by
  unfold OpV at *
  exact fun m w o a ho hty h1 h2 h3 K Q hK => h m w o a ho hty h1 h2 h3 K Q fun v m' w' hp => hK v m' w' (k _ _ hp)
theorem OpV.exc {op : Op} {α : Type} (t : Nat) {f : α → SV} {s : SV} (x0 : α) (hf : F t = ex f) (h : ∀ x, OpV P op ty (upd F t (f x)) H s) : OpV P op ty F H s := by
    unfold OpV at *
    intro m w o a ho hty h1 h2 h3 K Q hK
    have key : ∃ x : α, (.tmp t ∈ op.operands → (f x).p m (a.eval (.tmp t))) := by
      by_cases ht : .tmp t ∈ op.operands
      · have h0 := h3 t ht
        rw [hf] at h0
        unfold ex at h0
        obtain ⟨x, hx⟩ := h0
        exact ⟨x, fun _ => hx⟩
      · exact ⟨x0, fun k => (ht k).elim⟩
    obtain ⟨x, hx⟩ := key
    refine h x m w o a ho hty h1 h2 (fun t' ht' => ?_) K Q hK
    by_cases e : t' = t
    · subst e; rw [upd_eq]; exact hx ht'
    · rw [upd_ne e]; exact h3 t' ht'
theorem OpV.exd {op : Op} {α : Type} (t : Nat) {f g : α → SV} (x0 : α) (hf : F t = ex f) (h : ∀ x, OpV P op ty (upd F t (f x)) H (g x)) : OpV P op ty F H (ex g) :=
  OpV.exc t x0 hf fun x => (h x).mono' fun _ _ hp => ex_mk x hp
end
theorem rsame_pu (x y u v : Rat) (hx : ht x ≤ 3000000) (hy : ht y ≤ 3000000) (hu : ht u ≤ 3000000) (hv : ht v ≤ 3000000) : Pu Tryz.prog 46 [rp x y, rp u v] (lit (.bool (decide (x = u ∧ y = v)))) := by
  have c1 := rc_pu x u hx hu
  have c2 := rc_pu y v hy hv
  have e1 := sub_sign_zero (x := x) (y := u)
  have e2 := sub_sign_zero (x := y) (y := v)
  generalize (x - u).num.sign = s at *
  generalize (y - v).num.sign = t at *
  clear hx hy hu hv
  by_cases h1 : x = u
  · have hs := e1.2 h1
    by_cases h2 : y = v
    · have ht := e2.2 h2
      rw [decide_eq_true ⟨h1, h2⟩]
      clear e1 e2
      subst hs ht
      refine Pu.intro Tryz.func46 rfl (by kernel_rfl) fun C => ?_
      repeat (first | (refine A1 ⟨?_⟩; intros) | (refine Wcx (c1) ?_) | (refine Wdcx (c1) ?_) | (refine Wcgx (c1) ?_) | (refine Wdcgx (c1) ?_) | (refine Wcx (c2) ?_) | (refine Wdcx (c2) ?_) | (refine Wcgx (c2) ?_) | (refine Wdcgx (c2) ?_))
      ((first | refine endR ?_ | refine endN ?_); exact end1 (RV.tmp rfl) (Le.refl _))
    · have ht : t ≠ 0 := fun e => h2 (e2.1 e)
      rw [decide_eq_false (fun h => h2 h.2)]
      clear e1 e2
      subst hs
      refine Pu.intro Tryz.func46 rfl (by kernel_rfl) fun C => ?_
      repeat (first | (refine A1 ⟨?_⟩; intros) | (refine Wcx (c1) ?_) | (refine Wdcx (c1) ?_) | (refine Wcgx (c1) ?_) | (refine Wdcgx (c1) ?_) | (refine Wcx (c2) ?_) | (refine Wdcx (c2) ?_) | (refine Wcgx (c2) ?_) | (refine Wdcgx (c2) ?_))
      ((first | refine endR ?_ | refine endN ?_); exact end1 (RV.tmp rfl) (Le.refl _))
  · have hs : s ≠ 0 := fun e => h1 (e1.1 e)
    rw [decide_eq_false (fun h => h1 h.1)]
    clear e1 e2
    refine Pu.intro Tryz.func46 rfl (by kernel_rfl) fun C => ?_
    repeat (first | (refine A1 ⟨?_⟩; intros) | (refine Wcx (c1) ?_) | (refine Wdcx (c1) ?_) | (refine Wcgx (c1) ?_) | (refine Wdcgx (c1) ?_) | (refine Wcx (c2) ?_) | (refine Wdcx (c2) ?_) | (refine Wcgx (c2) ?_) | (refine Wdcgx (c2) ?_))
    ((first | refine endR ?_ | refine endN ?_); exact end1 (RV.tmp rfl) (Le.refl _))
def bys (l : List UInt8) : List SV := l.map fun b => lit (.int .u8 (b.toNat : Nat))
def Byt (l : List UInt8) (s : SV) (H : LH) : Prop :=
  (l = [] ∧ s = lit (.slice none 0 0) ∧ H = []) ∨
    l ≠ [] ∧ ∃ b c, l.length ≤ c ∧ c ≤ maxLen ∧ s = lit (.slice (some ⟨b, 0, none⟩) l.length c) ∧ H = [(b, 5, bys l ++ List.replicate (c - l.length) top)]
theorem Byt.nil : Byt [] (lit (.slice none 0 0)) [] := .inl ⟨rfl, rfl, rfl⟩
theorem Byt.co {l : List UInt8} {s : SV} {H : LH} (h : Byt l s H) : CO s [s] := by
  rcases h with ⟨_, rfl, _⟩ | ⟨_, b, c, _, _, rfl, _⟩ <;> infer_instance
section
variable {P : Program} {C : Ctx} {n : Nat} {F : Fr} {H : LH} {ops : Array Oper} {K : Fr → LH → Prop} {rest : List Oper} {ty : TypeId} {pos : String} {aft : Array Edge}
end
section
variable {F : Fr} {H : LH} {ty : TypeId}
end
section
variable {P : Program} {C : Ctx} {n : Nat} {F : Fr} {H : LH} {ops : Array Oper} {K : Fr → LH → Prop} {rest : List Oper} {ty : TypeId} {pos : String} {aft : Array Edge}
end
def decR (n : Nat) : List UInt8 := if h : n = 0 then [] else UInt8.ofNat (48 + n % 10) :: decR (n / 10)
termination_by n
decreasing_by omega
theorem decR_zero : decR 0 = [] := by rw [decR]; rfl
theorem decR_pos {n : Nat} (h : n ≠ 0) : decR n = UInt8.ofNat (48 + n % 10) :: decR (n / 10) := by
  conv => lhs; rw [decR]
  rw [dif_neg h]
def dec (n : Nat) : List UInt8 := if n = 0 then [48] else (decR n).reverse
section
variable {P : Program} {F : Fr} {H : LH} {ty : TypeId}
end
theorem decR_lt : ∀ (k n : Nat), n < 10 ^ k → (decR n).length ≤ k
  | 0, n, h => by
    have : n = 0 := by simpa using h
    subst this; rw [decR_zero]; simp
  | k + 1, n, h => by
    by_cases hn : n = 0
    · subst hn; rw [decR_zero]; simp
    · rw [decR_pos hn, List.length_cons]
      have := decR_lt k (n / 10) (by rw [Nat.pow_succ] at h; omega)
      omega
theorem decR_len {n L : Nat} (h : (dgs n).length ≤ L) : (decR n).length ≤ 10 * L := by
  apply decR_lt
  have h1 := lt_pow n
  have h2 : 4294967296 ^ (dgs n).length ≤ (10 ^ 10) ^ L := Nat.le_trans (Nat.pow_le_pow_right (by omega) h) (Nat.pow_le_pow_left (by omega) L)
  rw [← Nat.pow_mul] at h2
  omega
theorem dec_len {n L : Nat} (h : (dgs n).length ≤ L) : (dec n).length ≤ 10 * L + 1 := by
  unfold dec
  split
  · simp
  · rw [List.length_reverse]; have := decR_len h; omega
theorem normalQ_t (x : Rat) {L : Nat} (hx : ht x ≤ L) (hL : L ≤ 10000) : Pu Tryz.prog 99 [q x] (lit (.bool true)) := by
  have c1 := q_of x (by omega)
  have c2 := toQ_pu x (by omega)
  have c3 := sameq_pu x (by omega)
  have e := dgs_ne_nil x.den_nz
  refine Pu.intro Tryz.func99 rfl (by kernel_rfl) fun C => ?_
  repeat (first | (refine A1 ⟨?_⟩; intros) | (refine Wcx (c1) ?_) | (refine Wdcx (c1) ?_) | (refine Wcgx (c1) ?_) | (refine Wdcgx (c1) ?_) | (refine Wcx (c2) ?_) | (refine Wdcx (c2) ?_) | (refine Wcgx (c2) ?_) | (refine Wdcgx (c2) ?_) | (refine Wcx (c3) ?_) | (refine Wdcx (c3) ?_) | (refine Wcgx (c3) ?_) | (refine Wdcgx (c3) ?_))
  ((first | refine endR ?_ | refine endN ?_); exact end1 (RV.tmp rfl) (Le.refl _))
theorem nrm_eq {xs : List Nat} (hD : D xs) (h : nrm xs = true) : xs = dgs (val xs) := by
  rw [← trimL_eq hD]
  rcases List.eq_nil_or_concat xs with e | ⟨ys, y, e⟩
  · subst e; rfl
  · rw [List.concat_eq_append] at e
    subst e
    have hy : y ≠ 0 := by
      unfold nrm at h
      simp at h
      exact h
    rw [trimL_snoc_ne ys y hy]
def nrmQ (r : RQ) : Bool := decide (r.s = decide (r.v.num < 0) ∧ r.n = dgs r.v.num.natAbs ∧ r.d = dgs r.v.den)
theorem nrmQ_q {r : RQ} (h : nrmQ r = true) : qr r = q r.v := by
  obtain ⟨h1, h2, h3⟩ := of_decide_eq_true h
  show ag [lit (.bool r.s), dg r.n, dg r.d] = ag [lit (.bool (decide (r.v.num < 0))), nat r.v.num.natAbs, nat r.v.den]
  rw [← h1, nat, ← h2, nat, ← h3]
theorem nrmQ_eq {r : RQ} (h1 : D r.n) (h2 : D r.d) : nrmQ r = (nrmI r.s r.n && nrm r.d && decide (r.d.length ≠ 0) && decide (Nat.gcd (val r.n) (val r.d) = 1)) := by
  apply Bool.eq_iff_iff.2
  constructor
  · intro h
    obtain ⟨a1, a2, a3⟩ := of_decide_eq_true h
    have e1 : nrmI r.s r.n = true := by rw [a1, a2]; exact nrmI_int _
    have e2 : nrm r.d = true := by rw [a3]; exact nrm_dgs _
    have e3 : r.d.length ≠ 0 := by rw [a3]; exact dgs_ne_nil r.v.den_nz
    have e4 : Nat.gcd (val r.n) (val r.d) = 1 := by rw [a2, a3, val_dgs, val_dgs]; exact r.v.reduced
    rw [e1, e2, decide_eq_true e3, decide_eq_true e4]; rfl
  · intro h
    simp only [Bool.and_eq_true, decide_eq_true_eq] at h
    obtain ⟨⟨⟨e1, e2⟩, e3⟩, e4⟩ := h
    have hs : nrm r.n = true ∧ (r.s = true → 0 < r.n.length) := by
      unfold nrmI at e1
      simp only [Bool.and_eq_true, Bool.or_eq_true, Bool.not_eq_true', decide_eq_true_eq] at e1
      refine ⟨e1.1, fun h => ?_⟩
      rcases e1.2 with h' | h'
      · rw [h] at h'; cases h'
      · exact h'
    have b1 := nrm_eq h1 hs.1
    have b2 := nrm_eq h2 e2
    have hd : val r.d ≠ 0 := fun e => by rw [e, dgs_zero] at b2; rw [b2] at e3; exact e3 rfl
    have hv : r.v.num = sv r.s (val r.n) ∧ r.v.den = val r.d := by
      have := mk_sv r.s (val r.n) hd
      rw [e4, Nat.div_one, Nat.div_one] at this
      exact this
    unfold nrmQ
    rw [hv.1, hv.2, sv_abs, ← b1, ← b2, sv_neg]
    refine decide_eq_true ⟨?_, rfl, rfl⟩
    cases hrs : r.s with
    | false => rfl
    | true =>
      have hp := hs.2 hrs
      have : 0 < val r.n := Nat.pos_of_ne_zero fun e => by rw [e, dgs_zero] at b1; rw [b1] at hp; simp at hp
      simp [this]
theorem blen_1 {n : Nat} : blen n = 1 ↔ n = 1 := by
  have h0 := blen0 (n := n)
  have h1 := blen1 (n := n)
  omega
theorem fnormal_pu {r : RQ} {L : Nat} (h : r.ok L) (hL : L ≤ 1000000) : Pu Tryz.prog 122 [qr r] (lit (.bool (nrmQ r))) := by
  obtain ⟨h1, h2, h3, h4⟩ := h
  rw [nrmQ_eq h1 h2]
  have c1 := intNormal_pu r.s r.n (by omega)
  have c2 := natNormal_pu r.d (by omega)
  cases e1 : nrmI r.s r.n with
  | false =>
    rw [e1] at c1
    refine Pu.intro Tryz.func122 rfl (by kernel_rfl) fun C => ?_
    repeat (first | (refine A1 ⟨?_⟩; intros) | (refine Wcx (c1) ?_) | (refine Wdcx (c1) ?_) | (refine Wcgx (c1) ?_) | (refine Wdcgx (c1) ?_))
    ((first | refine endR ?_ | refine endN ?_); exact end1 (RV.tmp rfl) (Le.refl _))
  | true =>
    rw [e1] at c1
    cases e2 : nrm r.d with
    | false =>
      rw [e2] at c2
      refine Pu.intro Tryz.func122 rfl (by kernel_rfl) fun C => ?_
      repeat (first | (refine A1 ⟨?_⟩; intros) | (refine Wcx (c1) ?_) | (refine Wdcx (c1) ?_) | (refine Wcgx (c1) ?_) | (refine Wdcgx (c1) ?_) | (refine Wcx (c2) ?_) | (refine Wdcx (c2) ?_) | (refine Wcgx (c2) ?_) | (refine Wdcgx (c2) ?_))
      ((first | refine endR ?_ | refine endN ?_); exact end1 (RV.tmp rfl) (Le.refl _))
    | true =>
      rw [e2] at c2
      by_cases e3 : r.d.length = 0
      · rw [decide_eq_false (p := r.d.length ≠ 0) (fun h => h e3)]
        refine Pu.intro Tryz.func122 rfl (by kernel_rfl) fun C => ?_
        repeat (first | (refine A1 ⟨?_⟩; intros) | (refine Wcx (c1) ?_) | (refine Wdcx (c1) ?_) | (refine Wcgx (c1) ?_) | (refine Wdcgx (c1) ?_) | (refine Wcx (c2) ?_) | (refine Wdcx (c2) ?_) | (refine Wcgx (c2) ?_) | (refine Wdcgx (c2) ?_))
        ((first | refine endR ?_ | refine endN ?_); exact end1 (RV.tmp rfl) (Le.refl _))
      · rw [decide_eq_true (p := r.d.length ≠ 0) e3]
        have hn : nrm r.n = true := by
          unfold nrmI at e1
          simp only [Bool.and_eq_true] at e1
          exact e1.1
        have b1 := nrm_eq h1 hn
        have b2 := nrm_eq h2 e2
        have c3 := gcd_n (val r.n) (val r.d) (by rw [← b1]; omega) (by rw [← b2]; omega)
        rw [nat, nat, ← b1, ← b2] at c3
        have hg := dlen_gcd_le (a := val r.n) (b := val r.d) (n := L) (by rw [← b1]; omega) (by rw [← b2]; omega)
        have c4 := bits_nat (dgs (Nat.gcd (val r.n) (val r.d))) (by omega) (D_dgs _)
        rw [val_dgs] at c4
        have hb := blen_1 (n := Nat.gcd (val r.n) (val r.d))
        clear b1 b2 hn e1 e2
        by_cases hg1 : Nat.gcd (val r.n) (val r.d) = 1
        · have hbl := hb.2 hg1
          rw [decide_eq_true hg1]
          clear hb
          rw [hbl] at c4
          generalize Nat.gcd (val r.n) (val r.d) = g at *
          clear hbl
          refine Pu.intro Tryz.func122 rfl (by kernel_rfl) fun C => ?_
          repeat (first | (refine A1 ⟨?_⟩; intros) | (refine Wcx (c1) ?_) | (refine Wdcx (c1) ?_) | (refine Wcgx (c1) ?_) | (refine Wdcgx (c1) ?_) | (refine Wcx (c2) ?_) | (refine Wdcx (c2) ?_) | (refine Wcgx (c2) ?_) | (refine Wdcgx (c2) ?_) | (refine Wcx (c3) ?_) | (refine Wdcx (c3) ?_) | (refine Wcgx (c3) ?_) | (refine Wdcgx (c3) ?_) | (refine Wcx (c4) ?_) | (refine Wdcx (c4) ?_) | (refine Wcgx (c4) ?_) | (refine Wdcgx (c4) ?_))
          ((first | refine endR ?_ | refine endN ?_); exact end1 (RV.tmp rfl) (Le.refl _))
        · have hbl : blen (Nat.gcd (val r.n) (val r.d)) ≠ 1 := fun e => hg1 (hb.1 e)
          rw [decide_eq_false hg1]
          clear hb
          generalize blen (Nat.gcd (val r.n) (val r.d)) = bl at *
          refine Pu.intro Tryz.func122 rfl (by kernel_rfl) fun C => ?_
          repeat (first | (refine A1 ⟨?_⟩; intros) | (refine Wcx (c1) ?_) | (refine Wdcx (c1) ?_) | (refine Wcgx (c1) ?_) | (refine Wdcgx (c1) ?_) | (refine Wcx (c2) ?_) | (refine Wdcx (c2) ?_) | (refine Wcgx (c2) ?_) | (refine Wdcgx (c2) ?_) | (refine Wcx (c3) ?_) | (refine Wdcx (c3) ?_) | (refine Wcgx (c3) ?_) | (refine Wdcgx (c3) ?_) | (refine Wcx (c4) ?_) | (refine Wdcx (c4) ?_) | (refine Wcgx (c4) ?_) | (refine Wdcgx (c4) ?_))
          ((first | refine endR ?_ | refine endN ?_); exact end1 (RV.tmp rfl) (Le.refl _))
theorem sameQ_g (s t : Bool) (xs ys us vs : List Nat) (hx : xs.length ≤ 1000000) (hy : ys.length ≤ 1000000) (hu : us.length ≤ 1000000) (hv : vs.length ≤ 1000000) : Pu Tryz.prog 64 [qraw s xs ys, qraw t us vs] (lit (.bool (decide ((s = t ∧ xs = us) ∧ ys = vs)))) := by
  have c1 := sameI_pu s t xs us (by omega) (by omega)
  have c2 := sameN_pu ys vs (by omega) (by omega)
  by_cases h1 : s = t ∧ xs = us
  · rw [decide_eq_true h1] at c1
    by_cases h2 : ys = vs
    · rw [decide_eq_true h2] at c2
      rw [decide_eq_true ⟨h1, h2⟩]
      refine Pu.intro Tryz.func64 rfl (by kernel_rfl) fun C => ?_
      repeat (first | (refine A1 ⟨?_⟩; intros) | (refine Wcx (c1) ?_) | (refine Wdcx (c1) ?_) | (refine Wcgx (c1) ?_) | (refine Wdcgx (c1) ?_) | (refine Wcx (c2) ?_) | (refine Wdcx (c2) ?_) | (refine Wcgx (c2) ?_) | (refine Wdcgx (c2) ?_))
      ((first | refine endR ?_ | refine endN ?_); exact end1 (RV.tmp rfl) (Le.refl _))
    · rw [decide_eq_false h2] at c2
      rw [decide_eq_false (fun h => h2 h.2)]
      refine Pu.intro Tryz.func64 rfl (by kernel_rfl) fun C => ?_
      repeat (first | (refine A1 ⟨?_⟩; intros) | (refine Wcx (c1) ?_) | (refine Wdcx (c1) ?_) | (refine Wcgx (c1) ?_) | (refine Wdcgx (c1) ?_) | (refine Wcx (c2) ?_) | (refine Wdcx (c2) ?_) | (refine Wcgx (c2) ?_) | (refine Wdcgx (c2) ?_))
      ((first | refine endR ?_ | refine endN ?_); exact end1 (RV.tmp rfl) (Le.refl _))
  · rw [decide_eq_false h1] at c1
    rw [decide_eq_false (fun h => h1 h.1)]
    refine Pu.intro Tryz.func64 rfl (by kernel_rfl) fun C => ?_
    repeat (first | (refine A1 ⟨?_⟩; intros) | (refine Wcx (c1) ?_) | (refine Wdcx (c1) ?_) | (refine Wcgx (c1) ?_) | (refine Wdcgx (c1) ?_) | (refine Wcx (c2) ?_) | (refine Wdcx (c2) ?_) | (refine Wcgx (c2) ?_) | (refine Wdcgx (c2) ?_))
    ((first | refine endR ?_ | refine endN ?_); exact end1 (RV.tmp rfl) (Le.refl _))
theorem rnormalQ_pu {r : RQ} {L : Nat} (h : r.ok L) (hL : L ≤ 1000) : Pu Tryz.prog 99 [qr r] (lit (.bool (nrmQ r))) := by
  cases hn : nrmQ r with
  | true =>
    rw [nrmQ_q hn]
    exact normalQ_t r.v (ht_v h) (by omega)
  | false =>
    have hne := of_decide_eq_false hn
    have hht := ht_v h
    have c1 := q_pu h (by omega)
    have c2 := toQ_pu r.v (by omega)
    have n1 := ht_num r.v
    have n2 := ht_den r.v
    obtain ⟨h1, h2, h3, h4⟩ := h
    have c3 := sameQ_g r.s (decide (r.v.num < 0)) r.n r.d (dgs r.v.num.natAbs) (dgs r.v.den) (by omega) (by omega) (show il r.v.num ≤ _ by omega) (by omega)
    rw [decide_eq_false (p := (r.s = decide (r.v.num < 0) ∧ r.n = dgs r.v.num.natAbs) ∧ r.d = dgs r.v.den) (fun h => hne ⟨h.1.1, h.1.2, h.2⟩)] at c3
    clear hne hn
    refine Pu.intro Tryz.func99 rfl (by kernel_rfl) fun C => ?_
    repeat (first | (refine A1 ⟨?_⟩; intros) | (refine Wcx (c1) ?_) | (refine Wdcx (c1) ?_) | (refine Wcgx (c1) ?_) | (refine Wdcgx (c1) ?_) | (refine Wcx (c2) ?_) | (refine Wdcx (c2) ?_) | (refine Wcgx (c2) ?_) | (refine Wdcgx (c2) ?_) | (refine Wcx (c3) ?_) | (refine Wdcx (c3) ?_) | (refine Wcgx (c3) ?_) | (refine Wdcgx (c3) ?_))
    ((first | refine endR ?_ | refine endN ?_); exact end1 (RV.tmp rfl) (Le.refl _))
abbrev apx (p : Pq) : List SV := [lit (.bool (decide (p.1.num < 0))), nat p.1.num.natAbs, nat p.1.den, lit (.bool (decide (p.2.num < 0))), nat p.2.num.natAbs, nat p.2.den]
theorem apx_len (p : Pq) : (apx p).length = 6 := rfl
abbrev aps (l : List Pq) : SV := sl (l.map apx).flatten l.length
structure RwSt where
  k : Nat
  s : SV
  Hs : LH
theorem map_take_snoc {α β : Type} {f : α → List β} {l : List α} {k : Nat} {a : α} (h : l[k]? = some a) : ((l.take (k + 1)).map f).flatten = ((l.take k).map f).flatten ++ f a := by
  rw [take_snoc h, List.map_append, List.flatten_append]; simp
abbrev raws (ps : List (RQ × RQ)) : SV := sl (ps.map pcells).flatten ps.length
abbrev rvl (p : RQ × RQ) : Pq := (p.1.v, p.2.v)
set_option maxHeartbeats 4000000 in
theorem pts_pu (ps : List (RQ × RQ)) {L : Nat} (hl : ps.length ≤ 100000) (hh : ∀ p ∈ ps, p.1.ok L ∧ p.2.ok L) (hL : L ≤ 1000000) : Pu Tryz.prog 44 [raws ps] (rps (ps.map rvl)) := by
  refine Pu.intro Tryz.func44 rfl (by kernel_rfl) fun C => ?_
  repeat (refine A1 ⟨?_⟩; intros)
  refine WP.loopS (ι := RwSt) (fun y => y.k ≤ ps.length ∧ Own 76 6 y.k ((ps.take y.k).map fun p => rpx (rvl p)).flatten y.s y.Hs) (fun y => ps.length - y.k) (fun y => fm [(3, y.s), (6, raws ps), (7, lit (.int .i64 ps.length)), (8, lit (.int .i64 y.k))]) (fun y => y.Hs) ⟨0, lit (.slice none 0 0), []⟩
    ⟨Nat.zero_le _, Own.nil _ _⟩ (by (repeat (first | exact LeF.nil _ | refine LeF.cons (Le.refl _) ?_ | refine LeF.cons (Le.int (by omega)) ?_))) (List.nil_sublist _) ?_
  rintro ⟨k, s, Hs⟩ ⟨hk, hown⟩ K hK
  simp only at hk hown ⊢
  have hco := hown.co
  by_cases hkl : k < ps.length
  · have hget := List.getElem?_eq_getElem hkl
    generalize ps[k] = p at hget
    obtain ⟨h1, h2⟩ := hh p (List.mem_of_getElem? hget)
    have hat := flat_at (f := pcells) (n := 6) pcells_len hget
    have hne : (ps.map pcells).flatten ≠ [] := flat_ne pcells_len (by omega) (fun e => by rw [e] at hkl; simp at hkl)
    have c := pt_pu h1 h2 hL
    have hgo := fun s' Hs' h F' H' => hK F' H' ⟨k + 1, s', Hs'⟩ ⟨by simp only; omega, h⟩ (by simp only; omega)
    simp only [map_take_snoc hget] at hgo
    clear hK hh
    repeat (refine A1 ⟨?_⟩; intros)
    refine Wo (ov_idxS (cs' := pcells p) rfl rfl (by omega) (by omega) hat hne) ?_
    repeat (first | (refine A1 ⟨?_⟩; intros) | (refine Wcx (c) ?_) | (refine Wdcx (c) ?_) | (refine Wcgx (c) ?_) | (refine Wdcgx (c) ?_))
    refine Wown hown (by omega) (fun s2 H2 hown' => ?_)
    have hco2 := hown'.co
    replace hgo := hgo s2 H2 hown'
    simp only [List.cons_append, List.nil_append]
    clear hown hown'
    repeat (refine A1 ⟨?_⟩; intros)
    exact hgo _ _ (by (repeat (first | exact LeF.nil _ | refine LeF.cons (Le.refl _) ?_ | refine LeF.cons (Le.int (by omega)) ?_))) (by repeat (first | exact List.Sublist.refl _ | refine List.Sublist.cons _ ?_))
  · have hke : k = ps.length := by omega
    subst hke
    rw [List.take_length] at hown
    have e : rps (ps.map rvl) = sl ((ps.map fun p => rpx (rvl p)).flatten) ps.length := by
      show sl ((ps.map rvl).map rpx).flatten (ps.map rvl).length = _
      rw [List.map_map, List.length_map]; rfl
    rw [e]
    refine WP.rowS 3 hown rfl (by rw [List.append_nil]) ?_
    clear hK hown
    repeat (refine A1 ⟨?_⟩; intros)
    exact endR (end1 (RV.tmp rfl) (Le.refl _))
def nrmP (p : RQ × RQ) : Bool := nrmQ p.1 && nrmQ p.2
theorem rnormalP_pu (p : RQ × RQ) {L : Nat} (h1 : p.1.ok L) (h2 : p.2.ok L) (hL : L ≤ 1000) : Pu Tryz.prog 43 [ag (pcells p)] (lit (.bool (nrmP p))) := by
  have c1 := rnormalQ_pu h1 hL
  have c2 := rnormalQ_pu h2 hL
  unfold nrmP
  cases h : nrmQ p.1 with
  | true =>
    rw [h] at c1
    refine Pu.intro Tryz.func43 rfl (by kernel_rfl) fun C => ?_
    repeat (first | (refine A1 ⟨?_⟩; intros) | (refine Wcx (c1) ?_) | (refine Wdcx (c1) ?_) | (refine Wcgx (c1) ?_) | (refine Wdcgx (c1) ?_) | (refine Wcx (c2) ?_) | (refine Wdcx (c2) ?_) | (refine Wcgx (c2) ?_) | (refine Wdcgx (c2) ?_))
    ((first | refine endR ?_ | refine endN ?_); exact end1 (RV.tmp rfl) (Le.refl _))
  | false =>
    rw [h] at c1
    refine Pu.intro Tryz.func43 rfl (by kernel_rfl) fun C => ?_
    repeat (first | (refine A1 ⟨?_⟩; intros) | (refine Wcx (c1) ?_) | (refine Wdcx (c1) ?_) | (refine Wcgx (c1) ?_) | (refine Wdcgx (c1) ?_) | (refine Wcx (c2) ?_) | (refine Wdcx (c2) ?_) | (refine Wcgx (c2) ?_) | (refine Wdcgx (c2) ?_))
    ((first | refine endR ?_ | refine endN ?_); exact end1 (RV.tmp rfl) (Le.refl _))
theorem pequal_pu (p q : Pq) (h1 : ht p.1 ≤ 3000000 ∧ ht p.2 ≤ 3000000) (h2 : ht q.1 ≤ 3000000 ∧ ht q.2 ≤ 3000000) : Pu Tryz.prog 70 [ag (ppx p), ag (ppx q)] (lit (.bool (decide (p = q)))) := by
  obtain ⟨x, y⟩ := p
  obtain ⟨u, v⟩ := q
  have c1 := fequal_pu x u h1.1 h2.1
  have c2 := fequal_pu y v h1.2 h2.2
  by_cases h : x = u
  · by_cases h' : y = v
    · rw [decide_eq_true h] at c1
      rw [decide_eq_true h'] at c2
      rw [decide_eq_true (show (x, y) = (u, v) by rw [h, h'])]
      clear h1 h2 h h'
      refine Pu.intro Tryz.func70 rfl (by kernel_rfl) fun C => ?_
      repeat (first | (refine A1 ⟨?_⟩; intros) | (refine Wcx (c1) ?_) | (refine Wdcx (c1) ?_) | (refine Wcgx (c1) ?_) | (refine Wdcgx (c1) ?_) | (refine Wcx (c2) ?_) | (refine Wdcx (c2) ?_) | (refine Wcgx (c2) ?_) | (refine Wdcgx (c2) ?_))
      ((first | refine endR ?_ | refine endN ?_); exact end1 (RV.tmp rfl) (Le.refl _))
    · rw [decide_eq_true h] at c1
      rw [decide_eq_false h'] at c2
      rw [decide_eq_false (show ¬(x, y) = (u, v) from fun e => h' (Prod.mk.inj e).2)]
      clear h1 h2 h h'
      refine Pu.intro Tryz.func70 rfl (by kernel_rfl) fun C => ?_
      repeat (first | (refine A1 ⟨?_⟩; intros) | (refine Wcx (c1) ?_) | (refine Wdcx (c1) ?_) | (refine Wcgx (c1) ?_) | (refine Wdcgx (c1) ?_) | (refine Wcx (c2) ?_) | (refine Wdcx (c2) ?_) | (refine Wcgx (c2) ?_) | (refine Wdcgx (c2) ?_))
      ((first | refine endR ?_ | refine endN ?_); exact end1 (RV.tmp rfl) (Le.refl _))
  · rw [decide_eq_false h] at c1
    rw [decide_eq_false (show ¬(x, y) = (u, v) from fun e => h (Prod.mk.inj e).1)]
    clear h1 h2 h
    refine Pu.intro Tryz.func70 rfl (by kernel_rfl) fun C => ?_
    repeat (first | (refine A1 ⟨?_⟩; intros) | (refine Wcx (c1) ?_) | (refine Wdcx (c1) ?_) | (refine Wcgx (c1) ?_) | (refine Wdcgx (c1) ?_) | (refine Wcx (c2) ?_) | (refine Wdcx (c2) ?_) | (refine Wcgx (c2) ?_) | (refine Wdcgx (c2) ?_))
    ((first | refine endR ?_ | refine endN ?_); exact end1 (RV.tmp rfl) (Le.refl _))
def fstI (l : List Pq) (p : Pq) : Int := if p ∈ l then (l.idxOf p : Nat) else -1
theorem idxOf_of {l : List Pq} {p : Pq} {k : Nat} (h : l[k]? = some p) (hn : p ∉ l.take k) : l.idxOf p = k := by
  induction l generalizing k with
  | nil => simp at h
  | cons a l ih =>
    cases k with
    | zero =>
      simp only [List.getElem?_cons_zero, Option.some.injEq] at h
      rw [h, List.idxOf_cons_self]
    | succ k =>
      rw [List.take_succ_cons, List.mem_cons] at hn
      have hne : a ≠ p := fun e => hn (.inl e.symm)
      have hb : (a == p) = false := by rw [beq_eq_false_iff_ne]; exact hne
      rw [List.idxOf_cons, hb, cond_false, ih (by simpa using h) (fun h => hn (.inr h))]
set_option maxHeartbeats 4000000 in
theorem first_pu (l : List Pq) (p : Pq) (hl : l.length ≤ 100000) (hh : ∀ q ∈ l, ht q.1 ≤ 3000000 ∧ ht q.2 ≤ 3000000) (hp : ht p.1 ≤ 3000000 ∧ ht p.2 ≤ 3000000) : Pu Tryz.prog 68 [pps l, ag (ppx p)] (lit (.int .i64 (fstI l p))) := by
  refine Pu.intro Tryz.func68 rfl (by kernel_rfl) fun C => ?_
  repeat (refine A1 ⟨?_⟩; intros)
  rename_i b3
  refine WP.loopS (ι := Nat) (fun k => k ≤ l.length ∧ p ∉ l.take k) (fun k => l.length - k) (fun k => fm [(3, lit (.pointer (some ⟨b3, 0, none⟩))), (7, pps l), (8, lit (.int .i64 l.length)), (9, lit (.int .i64 k))]) (fun _ => [(b3, 92, ppx p)]) 0
    ⟨Nat.zero_le _, by simp⟩ (by (repeat (first | exact LeF.nil _ | refine LeF.cons (Le.refl _) ?_ | refine LeF.cons (Le.int (by omega)) ?_))) (List.Sublist.refl _) ?_
  rintro k ⟨hk, hn⟩ K hK
  by_cases hkl : k < l.length
  · have hget := List.getElem?_eq_getElem hkl
    generalize l[k] = q at hget
    have hat := flat_at (f := ppx) (n := 6) ppx_len hget
    have hne : (l.map ppx).flatten ≠ [] := flat_ne ppx_len (by omega) (fun e => by rw [e] at hkl; simp at hkl)
    have c := pequal_pu q p (hh q (List.mem_of_getElem? hget)) hp
    by_cases hqp : q = p
    · rw [decide_eq_true hqp] at c
      rw [hqp] at hget
      have hf : fstI l p = (k : Nat) := by unfold fstI; rw [if_pos (List.mem_of_getElem? hget), idxOf_of hget hn]
      rw [hf]
      clear hK hn hh
      repeat (refine A1 ⟨?_⟩; intros)
      refine Wo (ov_idxS (cs' := ppx q) rfl rfl (by omega) (by omega) hat hne) ?_
      repeat (first | (refine A1 ⟨?_⟩; intros) | (refine Wcx (c) ?_) | (refine Wdcx (c) ?_) | (refine Wcgx (c) ?_) | (refine Wdcgx (c) ?_))
      exact endR (end1 (RV.tmp rfl) (Le.refl _))
    · rw [decide_eq_false hqp] at c
      have hgo := fun F' H' => hK F' H' (k + 1) ⟨by omega, by
        rw [take_snoc hget, List.mem_append, List.mem_singleton]
        rintro (h | h)
        · exact hn h
        · exact hqp h.symm⟩ (by omega)
      clear hK hn hh
      repeat (refine A1 ⟨?_⟩; intros)
      refine Wo (ov_idxS (cs' := ppx q) rfl rfl (by omega) (by omega) hat hne) ?_
      repeat (first | (refine A1 ⟨?_⟩; intros) | (refine Wcx (c) ?_) | (refine Wdcx (c) ?_) | (refine Wcgx (c) ?_) | (refine Wdcgx (c) ?_))
      exact hgo _ _ (by (repeat (first | exact LeF.nil _ | refine LeF.cons (Le.refl _) ?_ | refine LeF.cons (Le.int (by omega)) ?_))) (by repeat (first | exact List.Sublist.refl _ | refine List.Sublist.cons _ ?_))
  · have hke : k = l.length := by omega
    subst hke
    rw [List.take_length] at hn
    have hf : fstI l p = -1 := by unfold fstI; rw [if_neg hn]
    rw [hf]
    repeat (refine A1 ⟨?_⟩; intros)
    exact endR (end1 (RV.tmp rfl) (Le.refl _))
set_option maxHeartbeats 4000000 in
theorem rgApi_pu (l : List Pq) (hl : l.length ≤ 100000) (hh : ∀ p ∈ l, ht p.1 ≤ 1000000 ∧ ht p.2 ≤ 1000000) : Pu Tryz.prog 30 [pps l] (aps l) := by
  refine Pu.intro Tryz.func30 rfl (by kernel_rfl) fun C => ?_
  repeat (refine A1 ⟨?_⟩; intros)
  refine WP.loopS (ι := RwSt) (fun y => y.k ≤ l.length ∧ Own 67 6 y.k ((l.take y.k).map apx).flatten y.s y.Hs) (fun y => l.length - y.k) (fun y => fm [(3, y.s), (6, pps l), (7, lit (.int .i64 l.length)), (8, lit (.int .i64 y.k))]) (fun y => y.Hs) ⟨0, lit (.slice none 0 0), []⟩
    ⟨Nat.zero_le _, Own.nil _ _⟩ (by (repeat (first | exact LeF.nil _ | refine LeF.cons (Le.refl _) ?_ | refine LeF.cons (Le.int (by omega)) ?_))) (List.nil_sublist _) ?_
  rintro ⟨k, s, Hs⟩ ⟨hk, hown⟩ K hK
  simp only at hk hown ⊢
  have hco := hown.co
  by_cases hkl : k < l.length
  · have hget := List.getElem?_eq_getElem hkl
    generalize l[k] = p at hget
    obtain ⟨h1, h2⟩ := hh p (List.mem_of_getElem? hget)
    have hat := flat_at (f := ppx) (n := 6) ppx_len hget
    have hne : (l.map ppx).flatten ≠ [] := flat_ne ppx_len (by omega) (fun e => by rw [e] at hkl; simp at hkl)
    have c := papi_pu p.1 p.2 h1 h2
    have hgo := fun s' Hs' h F' H' => hK F' H' ⟨k + 1, s', Hs'⟩ ⟨by simp only; omega, h⟩ (by simp only; omega)
    simp only [map_take_snoc hget] at hgo
    clear hK hh
    repeat (refine A1 ⟨?_⟩; intros)
    refine Wo (ov_idxS (cs' := ppx p) rfl rfl (by omega) (by omega) hat hne) ?_
    repeat (first | (refine A1 ⟨?_⟩; intros) | (refine Wcx (c) ?_) | (refine Wdcx (c) ?_) | (refine Wcgx (c) ?_) | (refine Wdcgx (c) ?_))
    refine Wown hown (by omega) (fun s2 H2 hown' => ?_)
    have hco2 := hown'.co
    replace hgo := hgo s2 H2 hown'
    simp only [List.cons_append, List.nil_append]
    clear hown hown'
    repeat (refine A1 ⟨?_⟩; intros)
    exact hgo _ _ (by (repeat (first | exact LeF.nil _ | refine LeF.cons (Le.refl _) ?_ | refine LeF.cons (Le.int (by omega)) ?_))) (by repeat (first | exact List.Sublist.refl _ | refine List.Sublist.cons _ ?_))
  · have hke : k = l.length := by omega
    subst hke
    rw [List.take_length] at hown
    refine WP.rowS 3 hown rfl (by rw [List.append_nil]) ?_
    clear hK hown
    repeat (refine A1 ⟨?_⟩; intros)
    exact endR (end1 (RV.tmp rfl) (Le.refl _))
end Go.Ab
