/- Texts laid one behind the other: RLn, Ex, Tree. -/
import Derived.Test.YtmmifnkikifmnaaGreatDoorB14
import Derived.Test.YtmmifnkikifmnaaGreatDoorB16
import Derived.Test.YtmmifnkikifmnaaGreatDoorB15
import Derived.Test.YtmmifnkikifmnaaGreatDoorLate
import Derived.Test.YtmmifnkikifmnaaGreatDoorB03
/- The reference of layers 4 and 5: lines. -/
namespace Go.Ab
open Go.Proofs
set_option linter.unusedSectionVars false
set_option linter.unusedVariables false
set_option linter.unusedSimpArgs false
variable [Base]
theorem rmakeL_pu {a b : Int} (c : Int) (ha : il a ≤ 1000000) (hb : il b ≤ 1000000) (hc : il c ≤ 1000000) (h : a ≠ 0 ∨ b ≠ 0) : Pu Tryz.prog 138 [int a, int b, int c] (Ab.tup [lq (prim a b c), lit (.bool true)]) := by
  have hg := g_ne c h
  have hg1 : Nat.gcd a.natAbs b.natAbs ≠ 0 := fun e => by rw [Nat.gcd_eq_zero_iff] at e; omega
  have k1 := dlen_gcd_le (a := a.natAbs) (b := b.natAbs) (n := 1000000) ha hb
  have c1 := rcommon_pu a.natAbs b.natAbs (show il a ≤ _ by omega) (show il b ≤ _ by omega)
  have c2 := rcommon_pu (Nat.gcd a.natAbs b.natAbs) c.natAbs (by omega) (show il c ≤ _ by omega)
  have k2 := dlen_gcd_le (a := Nat.gcd a.natAbs b.natAbs) (b := c.natAbs) (n := 1000000) k1 hc
  have e := prim_ints c h
  have ea := congrArg Li.a e
  have eb := congrArg Li.b e
  have ec := congrArg Li.c e
  clear e
  simp only at ea eb ec
  generalize prim a b c = l at *
  have hn1 := dgs_ne_nil hg1
  generalize Nat.gcd a.natAbs b.natAbs = g1 at *
  generalize Nat.gcd g1 c.natAbs = g at *
  have d1 := rdivide_pu a.natAbs g hg (show il a ≤ _ by omega) (by omega)
  have d2 := rdivide_pu b.natAbs g hg (show il b ≤ _ by omega) (by omega)
  have d3 := rdivide_pu c.natAbs g hg (show il c ≤ _ by omega) (by omega)
  have m1 := rmake_pu (decide (a < 0)) (a.natAbs / g) (Nat.le_trans (len_mono (Nat.div_le_self _ _)) (show il a ≤ _ by omega))
  have m2 := rmake_pu (decide (b < 0)) (b.natAbs / g) (Nat.le_trans (len_mono (Nat.div_le_self _ _)) (show il b ≤ _ by omega))
  have m3 := rmake_pu (decide (c < 0)) (c.natAbs / g) (Nat.le_trans (len_mono (Nat.div_le_self _ _)) (show il c ≤ _ by omega))
  rw [← ea] at m1
  rw [← eb] at m2
  rw [← ec] at m3
  clear ea eb ec ha hb hc hg hg1 k1 k2 h
  refine Pu.intro Tryz.func138 rfl (by kernel_rfl) fun C => ?_
  repeat (first | (refine A1 ⟨?_⟩; intros) | (refine Wcx (c1) ?_) | (refine Wdcx (c1) ?_) | (refine Wcgx (c1) ?_) | (refine Wdcgx (c1) ?_) | (refine Wcx (c2) ?_) | (refine Wdcx (c2) ?_) | (refine Wcgx (c2) ?_) | (refine Wdcgx (c2) ?_) | (refine Wcx (d1) ?_) | (refine Wdcx (d1) ?_) | (refine Wcgx (d1) ?_) | (refine Wdcgx (d1) ?_) | (refine Wcx (d2) ?_) | (refine Wdcx (d2) ?_) | (refine Wcgx (d2) ?_) | (refine Wdcgx (d2) ?_) | (refine Wcx (d3) ?_) | (refine Wdcx (d3) ?_) | (refine Wcgx (d3) ?_) | (refine Wdcgx (d3) ?_) | (refine Wcx (m1) ?_) | (refine Wdcx (m1) ?_) | (refine Wcgx (m1) ?_) | (refine Wdcgx (m1) ?_) | (refine Wcx (m2) ?_) | (refine Wdcx (m2) ?_) | (refine Wcgx (m2) ?_) | (refine Wdcgx (m2) ?_) | (refine Wcx (m3) ?_) | (refine Wdcx (m3) ?_) | (refine Wcgx (m3) ?_) | (refine Wdcgx (m3) ?_))
  ((first | refine endR ?_ | refine endN ?_); exact end2 (RV.cellA rfl (by (first | exact List.mem_cons_self | exact (List.mem_cons_of_mem _ List.mem_cons_self) | exact (List.mem_cons_of_mem _ (List.mem_cons_of_mem _ List.mem_cons_self)) | exact (List.mem_cons_of_mem _ (List.mem_cons_of_mem _ (List.mem_cons_of_mem _ List.mem_cons_self))) | exact (List.mem_cons_of_mem _ (List.mem_cons_of_mem _ (List.mem_cons_of_mem _ (List.mem_cons_of_mem _ List.mem_cons_self)))) | exact (List.mem_cons_of_mem _ (List.mem_cons_of_mem _ (List.mem_cons_of_mem _ (List.mem_cons_of_mem _ (List.mem_cons_of_mem _ List.mem_cons_self))))) | exact (List.mem_cons_of_mem _ (List.mem_cons_of_mem _ (List.mem_cons_of_mem _ (List.mem_cons_of_mem _ (List.mem_cons_of_mem _ (List.mem_cons_of_mem _ List.mem_cons_self)))))) | exact (List.mem_cons_of_mem _ (List.mem_cons_of_mem _ (List.mem_cons_of_mem _ (List.mem_cons_of_mem _ (List.mem_cons_of_mem _ (List.mem_cons_of_mem _ (List.mem_cons_of_mem _ List.mem_cons_self))))))))) (by (first | (simp only [List.drop_succ_cons, List.drop_zero, List.drop_nil, List.take_succ_cons, List.take_zero, List.take_nil, Nat.zero_add, Nat.add_zero, Nat.reduceAdd]; done) | (simp only [List.drop_succ_cons, List.drop_zero, List.drop_nil, List.take_succ_cons, List.take_zero, List.take_nil, Nat.zero_add, Nat.add_zero, Nat.reduceAdd]; exact rfl) | exact rfl)) rfl) (RV.tmp rfl) (Le.refl _))
theorem rgq_pu (a : Int) : Pu Tryz.prog 155 [int a] (rq (a : Rat)) := by
  rw [rq_int]
  refine Pu.intro Tryz.func155 rfl (by kernel_rfl) fun C => ?_
  repeat (refine A1 ⟨?_⟩; intros)
  exact endR (end1 (RV.cellA rfl List.mem_cons_self rfl rfl) (Le.ag ⟨Le.refl _, Le.refl _, le_nil, trivial⟩))
theorem rsub_pt (x y u v : Rat) (hx : ht x ≤ 100000) (hy : ht y ≤ 100000) (hu : ht u ≤ 100000) (hv : ht v ≤ 100000) : Pu Tryz.prog 134 [rp x y, rp u v] (rp (x - u) (y - v)) := by
  have o := rof_pu (-1) (by omega) (by omega)
  have h1 : ht ((-1 : Int) : Rat) ≤ 1 := ht_int _ (by omega)
  have a := gadd_pu x y ((-1 : Int) : Rat) u v (by omega) (by omega) (by omega) (by omega) (by omega)
  have e : ∀ x u : Rat, x + ((-1 : Int) : Rat) * u = x - u := fun x u => by rw [show ((-1 : Int) : Rat) = -1 from rfl]; grind
  rw [e, e] at a
  refine Pu.intro Tryz.func134 rfl (by kernel_rfl) fun C => ?_
  repeat (first | (refine A1 ⟨?_⟩; intros) | (refine Wcx (o) ?_) | (refine Wdcx (o) ?_) | (refine Wcgx (o) ?_) | (refine Wdcgx (o) ?_) | (refine Wcx (a) ?_) | (refine Wdcx (a) ?_) | (refine Wcgx (a) ?_) | (refine Wdcgx (a) ?_))
  ((first | refine endR ?_ | refine endN ?_); refine end1 (RV.cellA rfl (by (first | exact List.mem_cons_self | exact (List.mem_cons_of_mem _ List.mem_cons_self) | exact (List.mem_cons_of_mem _ (List.mem_cons_of_mem _ List.mem_cons_self)) | exact (List.mem_cons_of_mem _ (List.mem_cons_of_mem _ (List.mem_cons_of_mem _ List.mem_cons_self))) | exact (List.mem_cons_of_mem _ (List.mem_cons_of_mem _ (List.mem_cons_of_mem _ (List.mem_cons_of_mem _ List.mem_cons_self)))) | exact (List.mem_cons_of_mem _ (List.mem_cons_of_mem _ (List.mem_cons_of_mem _ (List.mem_cons_of_mem _ (List.mem_cons_of_mem _ List.mem_cons_self))))) | exact (List.mem_cons_of_mem _ (List.mem_cons_of_mem _ (List.mem_cons_of_mem _ (List.mem_cons_of_mem _ (List.mem_cons_of_mem _ (List.mem_cons_of_mem _ List.mem_cons_self)))))) | exact (List.mem_cons_of_mem _ (List.mem_cons_of_mem _ (List.mem_cons_of_mem _ (List.mem_cons_of_mem _ (List.mem_cons_of_mem _ (List.mem_cons_of_mem _ (List.mem_cons_of_mem _ List.mem_cons_self))))))))) (by (first | (simp only [List.drop_succ_cons, List.drop_zero, List.drop_nil, List.take_succ_cons, List.take_zero, List.take_nil, Nat.zero_add, Nat.add_zero, Nat.reduceAdd]; done) | (simp only [List.drop_succ_cons, List.drop_zero, List.drop_nil, List.take_succ_cons, List.take_zero, List.take_nil, Nat.zero_add, Nat.add_zero, Nat.reduceAdd]; exact rfl) | exact rfl)) rfl) (Le.refl _))
theorem rdir_pu (l : Li) (h : l.le 1000000) : Pu Tryz.prog 96 [lq l] (rp (l.b : Rat) (-(l.a : Rat))) := by
  have q1 := rgq_pu l.b
  have q2 := rgq_pu l.a
  have o := ropp_pu (l.a : Rat) (by rw [ht_of_int]; have := h.a; omega)
  refine Pu.intro Tryz.func96 rfl (by kernel_rfl) fun C => ?_
  repeat (first | (refine A1 ⟨?_⟩; intros) | (refine Wcx (q1) ?_) | (refine Wdcx (q1) ?_) | (refine Wcgx (q1) ?_) | (refine Wdcgx (q1) ?_) | (refine Wcx (q2) ?_) | (refine Wdcx (q2) ?_) | (refine Wcgx (q2) ?_) | (refine Wdcgx (q2) ?_) | (refine Wcx (o) ?_) | (refine Wdcx (o) ?_) | (refine Wcgx (o) ?_) | (refine Wdcgx (o) ?_))
  ((first | refine endR ?_ | refine endN ?_); refine end1 (RV.cellA rfl (by (first | exact List.mem_cons_self | exact (List.mem_cons_of_mem _ List.mem_cons_self) | exact (List.mem_cons_of_mem _ (List.mem_cons_of_mem _ List.mem_cons_self)) | exact (List.mem_cons_of_mem _ (List.mem_cons_of_mem _ (List.mem_cons_of_mem _ List.mem_cons_self))) | exact (List.mem_cons_of_mem _ (List.mem_cons_of_mem _ (List.mem_cons_of_mem _ (List.mem_cons_of_mem _ List.mem_cons_self)))) | exact (List.mem_cons_of_mem _ (List.mem_cons_of_mem _ (List.mem_cons_of_mem _ (List.mem_cons_of_mem _ (List.mem_cons_of_mem _ List.mem_cons_self))))) | exact (List.mem_cons_of_mem _ (List.mem_cons_of_mem _ (List.mem_cons_of_mem _ (List.mem_cons_of_mem _ (List.mem_cons_of_mem _ (List.mem_cons_of_mem _ List.mem_cons_self)))))) | exact (List.mem_cons_of_mem _ (List.mem_cons_of_mem _ (List.mem_cons_of_mem _ (List.mem_cons_of_mem _ (List.mem_cons_of_mem _ (List.mem_cons_of_mem _ (List.mem_cons_of_mem _ List.mem_cons_self))))))))) (by (first | (simp only [List.drop_succ_cons, List.drop_zero, List.drop_nil, List.take_succ_cons, List.take_zero, List.take_nil, Nat.zero_add, Nat.add_zero, Nat.reduceAdd]; done) | (simp only [List.drop_succ_cons, List.drop_zero, List.drop_nil, List.take_succ_cons, List.take_zero, List.take_nil, Nat.zero_add, Nat.add_zero, Nat.reduceAdd]; exact rfl) | exact rfl)) rfl) (Le.refl _))
theorem rrev_pu (l : Li) (h : l.le 1000000) : Pu Tryz.prog 97 [lq l] (lq l.neg) := by
  have m1 := rminus_int l.a (show il l.a ≤ _ by have := h.a; omega)
  have m2 := rminus_int l.b (show il l.b ≤ _ by have := h.b; omega)
  have m3 := rminus_int l.c (show il l.c ≤ _ by have := h.c; omega)
  refine Pu.intro Tryz.func97 rfl (by kernel_rfl) fun C => ?_
  repeat (first | (refine A1 ⟨?_⟩; intros) | (refine Wcx (m1) ?_) | (refine Wdcx (m1) ?_) | (refine Wcgx (m1) ?_) | (refine Wdcgx (m1) ?_) | (refine Wcx (m2) ?_) | (refine Wdcx (m2) ?_) | (refine Wcgx (m2) ?_) | (refine Wdcgx (m2) ?_) | (refine Wcx (m3) ?_) | (refine Wdcx (m3) ?_) | (refine Wcgx (m3) ?_) | (refine Wdcgx (m3) ?_))
  ((first | refine endR ?_ | refine endN ?_); refine end1 (RV.cellA rfl (by (first | exact List.mem_cons_self | exact (List.mem_cons_of_mem _ List.mem_cons_self) | exact (List.mem_cons_of_mem _ (List.mem_cons_of_mem _ List.mem_cons_self)) | exact (List.mem_cons_of_mem _ (List.mem_cons_of_mem _ (List.mem_cons_of_mem _ List.mem_cons_self))) | exact (List.mem_cons_of_mem _ (List.mem_cons_of_mem _ (List.mem_cons_of_mem _ (List.mem_cons_of_mem _ List.mem_cons_self)))) | exact (List.mem_cons_of_mem _ (List.mem_cons_of_mem _ (List.mem_cons_of_mem _ (List.mem_cons_of_mem _ (List.mem_cons_of_mem _ List.mem_cons_self))))) | exact (List.mem_cons_of_mem _ (List.mem_cons_of_mem _ (List.mem_cons_of_mem _ (List.mem_cons_of_mem _ (List.mem_cons_of_mem _ (List.mem_cons_of_mem _ List.mem_cons_self)))))) | exact (List.mem_cons_of_mem _ (List.mem_cons_of_mem _ (List.mem_cons_of_mem _ (List.mem_cons_of_mem _ (List.mem_cons_of_mem _ (List.mem_cons_of_mem _ (List.mem_cons_of_mem _ List.mem_cons_self))))))))) (by (first | (simp only [List.drop_succ_cons, List.drop_zero, List.drop_nil, List.take_succ_cons, List.take_zero, List.take_nil, Nat.zero_add, Nat.add_zero, Nat.reduceAdd]; done) | (simp only [List.drop_succ_cons, List.drop_zero, List.drop_nil, List.take_succ_cons, List.take_zero, List.take_nil, Nat.zero_add, Nat.add_zero, Nat.reduceAdd]; exact rfl) | exact rfl)) rfl) (Le.refl _))
theorem toL_pu (l : Li) (h : l.le 1000000) : Pu Tryz.prog 28 [lq l] (lq l) := by
  have m1 := toI_pu l.a (by have := h.a; omega)
  have m2 := toI_pu l.b (by have := h.b; omega)
  have m3 := toI_pu l.c (by have := h.c; omega)
  refine Pu.intro Tryz.func28 rfl (by kernel_rfl) fun C => ?_
  repeat (first | (refine A1 ⟨?_⟩; intros) | (refine Wcx (m1) ?_) | (refine Wdcx (m1) ?_) | (refine Wcgx (m1) ?_) | (refine Wdcgx (m1) ?_) | (refine Wcx (m2) ?_) | (refine Wdcx (m2) ?_) | (refine Wcgx (m2) ?_) | (refine Wdcgx (m2) ?_) | (refine Wcx (m3) ?_) | (refine Wdcx (m3) ?_) | (refine Wcgx (m3) ?_) | (refine Wdcgx (m3) ?_))
  ((first | refine endR ?_ | refine endN ?_); refine end1 (RV.cellA rfl (by (first | exact List.mem_cons_self | exact (List.mem_cons_of_mem _ List.mem_cons_self) | exact (List.mem_cons_of_mem _ (List.mem_cons_of_mem _ List.mem_cons_self)) | exact (List.mem_cons_of_mem _ (List.mem_cons_of_mem _ (List.mem_cons_of_mem _ List.mem_cons_self))) | exact (List.mem_cons_of_mem _ (List.mem_cons_of_mem _ (List.mem_cons_of_mem _ (List.mem_cons_of_mem _ List.mem_cons_self)))) | exact (List.mem_cons_of_mem _ (List.mem_cons_of_mem _ (List.mem_cons_of_mem _ (List.mem_cons_of_mem _ (List.mem_cons_of_mem _ List.mem_cons_self))))) | exact (List.mem_cons_of_mem _ (List.mem_cons_of_mem _ (List.mem_cons_of_mem _ (List.mem_cons_of_mem _ (List.mem_cons_of_mem _ (List.mem_cons_of_mem _ List.mem_cons_self)))))) | exact (List.mem_cons_of_mem _ (List.mem_cons_of_mem _ (List.mem_cons_of_mem _ (List.mem_cons_of_mem _ (List.mem_cons_of_mem _ (List.mem_cons_of_mem _ (List.mem_cons_of_mem _ List.mem_cons_self))))))))) (by (first | (simp only [List.drop_succ_cons, List.drop_zero, List.drop_nil, List.take_succ_cons, List.take_zero, List.take_nil, Nat.zero_add, Nat.add_zero, Nat.reduceAdd]; done) | (simp only [List.drop_succ_cons, List.drop_zero, List.drop_nil, List.take_succ_cons, List.take_zero, List.take_nil, Nat.zero_add, Nat.add_zero, Nat.reduceAdd]; exact rfl) | exact rfl)) rfl) (Le.refl _))
theorem sameL_pu (l : Li) (h : l.le 1000000) : Pu Tryz.prog 33 [lq l, lq l] (lit (.bool true)) := by
  have m1 := sameI_t (decide (l.a < 0)) (dgs l.a.natAbs) (show il l.a ≤ _ by have := h.a; omega)
  have m2 := sameI_t (decide (l.b < 0)) (dgs l.b.natAbs) (show il l.b ≤ _ by have := h.b; omega)
  have m3 := sameI_t (decide (l.c < 0)) (dgs l.c.natAbs) (show il l.c ≤ _ by have := h.c; omega)
  refine Pu.intro Tryz.func33 rfl (by kernel_rfl) fun C => ?_
  repeat (first | (refine A1 ⟨?_⟩; intros) | (refine Wcx (m1) ?_) | (refine Wdcx (m1) ?_) | (refine Wcgx (m1) ?_) | (refine Wdcgx (m1) ?_) | (refine Wcx (m2) ?_) | (refine Wdcx (m2) ?_) | (refine Wcgx (m2) ?_) | (refine Wdcgx (m2) ?_) | (refine Wcx (m3) ?_) | (refine Wdcx (m3) ?_) | (refine Wcgx (m3) ?_) | (refine Wdcgx (m3) ?_))
  ((first | refine endR ?_ | refine endN ?_); exact end1 (RV.tmp rfl) (Le.refl _))
theorem rdot_pu (x y u v : Rat) (hx : ht x ≤ 1000000) (hy : ht y ≤ 1000000) (hu : ht u ≤ 1000000) (hv : ht v ≤ 1000000) (h1 : ht (x * u) ≤ 3000000) (h2 : ht (y * v) ≤ 3000000) : Pu Tryz.prog 156 [rp x y, rp u v] (rq (x * u + y * v)) := by
  have t1 := rtimes_pu x u (by omega) (by omega)
  have t2 := rtimes_pu y v (by omega) (by omega)
  have p := rplus_pu (x * u) (y * v) h1 h2
  refine Pu.intro Tryz.func156 rfl (by kernel_rfl) fun C => ?_
  repeat (first | (refine A1 ⟨?_⟩; intros) | (refine Wcx (t1) ?_) | (refine Wdcx (t1) ?_) | (refine Wcgx (t1) ?_) | (refine Wdcgx (t1) ?_) | (refine Wcx (t2) ?_) | (refine Wdcx (t2) ?_) | (refine Wcgx (t2) ?_) | (refine Wdcgx (t2) ?_) | (refine Wcx (p) ?_) | (refine Wdcx (p) ?_) | (refine Wcgx (p) ?_) | (refine Wdcgx (p) ?_))
  ((first | refine endR ?_ | refine endN ?_); refine end1 (RV.cellA rfl (by (first | exact List.mem_cons_self | exact (List.mem_cons_of_mem _ List.mem_cons_self) | exact (List.mem_cons_of_mem _ (List.mem_cons_of_mem _ List.mem_cons_self)) | exact (List.mem_cons_of_mem _ (List.mem_cons_of_mem _ (List.mem_cons_of_mem _ List.mem_cons_self))) | exact (List.mem_cons_of_mem _ (List.mem_cons_of_mem _ (List.mem_cons_of_mem _ (List.mem_cons_of_mem _ List.mem_cons_self)))) | exact (List.mem_cons_of_mem _ (List.mem_cons_of_mem _ (List.mem_cons_of_mem _ (List.mem_cons_of_mem _ (List.mem_cons_of_mem _ List.mem_cons_self))))) | exact (List.mem_cons_of_mem _ (List.mem_cons_of_mem _ (List.mem_cons_of_mem _ (List.mem_cons_of_mem _ (List.mem_cons_of_mem _ (List.mem_cons_of_mem _ List.mem_cons_self)))))) | exact (List.mem_cons_of_mem _ (List.mem_cons_of_mem _ (List.mem_cons_of_mem _ (List.mem_cons_of_mem _ (List.mem_cons_of_mem _ (List.mem_cons_of_mem _ (List.mem_cons_of_mem _ List.mem_cons_self))))))))) (by (first | (simp only [List.drop_succ_cons, List.drop_zero, List.drop_nil, List.take_succ_cons, List.take_zero, List.take_nil, Nat.zero_add, Nat.add_zero, Nat.reduceAdd]; done) | (simp only [List.drop_succ_cons, List.drop_zero, List.drop_nil, List.take_succ_cons, List.take_zero, List.take_nil, Nat.zero_add, Nat.add_zero, Nat.reduceAdd]; exact rfl) | exact rfl)) rfl) (Le.refl _))
theorem rcross_pu (x y u v : Rat) (hx : ht x ≤ 100000) (hy : ht y ≤ 100000) (hu : ht u ≤ 100000) (hv : ht v ≤ 100000) : Pu Tryz.prog 80 [rp x y, rp u v] (rq (x * v - y * u)) := by
  have h1 := ht_mul x v
  have h2 := ht_mul y u
  have t1 := rtimes_pu x v (by omega) (by omega)
  have t2 := rtimes_pu y u (by omega) (by omega)
  have p := rqsub_pu (x * v) (y * u) (by omega) (by omega)
  refine Pu.intro Tryz.func80 rfl (by kernel_rfl) fun C => ?_
  repeat (first | (refine A1 ⟨?_⟩; intros) | (refine Wcx (t1) ?_) | (refine Wdcx (t1) ?_) | (refine Wcgx (t1) ?_) | (refine Wdcgx (t1) ?_) | (refine Wcx (t2) ?_) | (refine Wdcx (t2) ?_) | (refine Wcgx (t2) ?_) | (refine Wdcgx (t2) ?_) | (refine Wcx (p) ?_) | (refine Wdcx (p) ?_) | (refine Wcgx (p) ?_) | (refine Wdcgx (p) ?_))
  ((first | refine endR ?_ | refine endN ?_); refine end1 (RV.cellA rfl (by (first | exact List.mem_cons_self | exact (List.mem_cons_of_mem _ List.mem_cons_self) | exact (List.mem_cons_of_mem _ (List.mem_cons_of_mem _ List.mem_cons_self)) | exact (List.mem_cons_of_mem _ (List.mem_cons_of_mem _ (List.mem_cons_of_mem _ List.mem_cons_self))) | exact (List.mem_cons_of_mem _ (List.mem_cons_of_mem _ (List.mem_cons_of_mem _ (List.mem_cons_of_mem _ List.mem_cons_self)))) | exact (List.mem_cons_of_mem _ (List.mem_cons_of_mem _ (List.mem_cons_of_mem _ (List.mem_cons_of_mem _ (List.mem_cons_of_mem _ List.mem_cons_self))))) | exact (List.mem_cons_of_mem _ (List.mem_cons_of_mem _ (List.mem_cons_of_mem _ (List.mem_cons_of_mem _ (List.mem_cons_of_mem _ (List.mem_cons_of_mem _ List.mem_cons_self)))))) | exact (List.mem_cons_of_mem _ (List.mem_cons_of_mem _ (List.mem_cons_of_mem _ (List.mem_cons_of_mem _ (List.mem_cons_of_mem _ (List.mem_cons_of_mem _ (List.mem_cons_of_mem _ List.mem_cons_self))))))))) (by (first | (simp only [List.drop_succ_cons, List.drop_zero, List.drop_nil, List.take_succ_cons, List.take_zero, List.take_nil, Nat.zero_add, Nat.add_zero, Nat.reduceAdd]; done) | (simp only [List.drop_succ_cons, List.drop_zero, List.drop_nil, List.take_succ_cons, List.take_zero, List.take_nil, Nat.zero_add, Nat.add_zero, Nat.reduceAdd]; exact rfl) | exact rfl)) rfl) (Le.refl _))
theorem mul_dens {a : Rat} (m : Nat) {n : Nat} (h : n = a.den * m) : a * ((n : Int) : Rat) = ((a.num * m : Int) : Rat) := by
  subst h
  have h1 : a * (a.den : Rat) = (a.num : Rat) := by
    conv => lhs; lhs; rw [← Rat.mkRat_self a]
    rw [show (a.den : Rat) = mkRat (a.den : Int) 1 from (Rat.mkRat_one _).symm, Rat.mkRat_mul_mkRat, Nat.mul_one]
    have := Rat.mkRat_mul_right (n := a.num) (d := 1) a.den_nz
    rw [Nat.one_mul] at this
    rw [this, Rat.mkRat_one]
  rw [show (((a.den * m : Nat) : Int) : Rat) = (a.den : Rat) * (m : Rat) from by push_cast; rfl, ← Rat.mul_assoc, h1]
  push_cast
  rfl
theorem leRaw (m : Nat) : LeL [ag [lit (.bool false), nat m, lit (.slice none 0 0)]] [rq ((m : Int) : Rat)] := by
  rw [rq_int]
  refine ⟨Le.ag ⟨?_, ?_, le_nil, trivial⟩, trivial⟩
  · rw [decide_eq_false (by omega)]; exact Le.refl _
  · rw [Int.natAbs_natCast]; exact Le.refl _
set_option maxHeartbeats 1000000 in
theorem through_pu {x y u v : Rat} {L : Nat} (hL : L ≤ 10000) (hx : ht x ≤ L) (hy : ht y ≤ L) (hu : ht u ≤ L) (hv : ht v ≤ L) (h : u - x ≠ 0 ∨ v - y ≠ 0) : Pu Tryz.prog 77 [rp x y, rp u v] (Ab.tup [lq (thr x y u v), lit (.bool true)]) := by
  have s := rsub_pt u v x y (by omega) (by omega) (by omega) (by omega)
  have k1 := ht_sub u x
  have k2 := ht_sub v y
  have k3 := ht_neg (v - y)
  have n1 := ropp_pu (v - y) (by omega)
  have k4 := ht_mul (-(v - y)) x
  have k5 := ht_mul (u - x) y
  have t1 := rtimes_pu (-(v - y)) x (by omega) (by omega)
  have t2 := rtimes_pu (u - x) y (by omega) (by omega)
  have k6 := ht_add (-(v - y) * x) ((u - x) * y)
  have p1 := rplus_pu (-(v - y) * x) ((u - x) * y) (by omega) (by omega)
  have n2 := ropp_pu (-(v - y) * x + (u - x) * y) (by omega)
  have k7 := ht_neg (-(v - y) * x + (u - x) * y)
  have hab : -(v - y) ≠ 0 ∨ u - x ≠ 0 := by
    rcases h with h | h
    · exact .inr h
    · exact .inl fun e => h (by rw [← Rat.neg_neg (v - y), e]; rfl)
  unfold thr
  generalize -(v - y) = a at *
  generalize u - x = b at *
  generalize -(a * x + b * y) = c at *
  have e1 := rden_pu a
  have e2 := rden_pu b
  have e3 := rden_pu c
  have l1 := ht_den a
  have l2 := ht_den b
  have l3 := ht_den c
  have l4 := dlen_mul a.den b.den
  have l5 := dlen_mul (a.den * b.den) c.den
  have q1 := rprod_pu a.den b.den (by omega) (by omega)
  have q2 := rprod_pu (a.den * b.den) c.den (by omega) (by omega)
  have m1 := rmake_pu false (a.den * b.den * c.den) (by omega)
  rw [sv_nat, int_nat] at m1
  obtain ⟨m, hm⟩ : ∃ m, m = a.den * b.den * c.den := ⟨_, rfl⟩
  have fa := mul_dens (a := a) (b.den * c.den) (n := m) (by rw [hm, Nat.mul_assoc])
  have fb := mul_dens (a := b) (a.den * c.den) (n := m) (by rw [hm, Nat.mul_comm a.den, Nat.mul_assoc])
  have fc := mul_dens (a := c) (a.den * b.den) (n := m) (by rw [hm, Nat.mul_comm])
  have hmp : (0 : Rat) < ((m : Int) : Rat) := by
    have : 0 < m := by rw [hm]; exact Nat.mul_pos (Nat.mul_pos a.den_pos b.den_pos) c.den_pos
    exact_mod_cast this
  rw [← hm] at q2 m1 l5
  have hmh : ht ((m : Int) : Rat) ≤ max (dgs m).length 1 := by rw [ht_of_int]; exact Nat.le_refl _
  have g1 := (rtimes_pu a ((m : Int) : Rat) (by omega) (by omega)).arg (l' := [rq a, ag [lit (.bool false), nat m, lit (.slice none 0 0)]]) ⟨Le.refl _, leRaw m⟩
  have g2 := (rtimes_pu b ((m : Int) : Rat) (by omega) (by omega)).arg (l' := [rq b, ag [lit (.bool false), nat m, lit (.slice none 0 0)]]) ⟨Le.refl _, leRaw m⟩
  have g3 := (rtimes_pu c ((m : Int) : Rat) (by omega) (by omega)).arg (l' := [rq c, ag [lit (.bool false), nat m, lit (.slice none 0 0)]]) ⟨Le.refl _, leRaw m⟩
  have o1 := ht_mul a ((m : Int) : Rat)
  have o2 := ht_mul b ((m : Int) : Rat)
  have o3 := ht_mul c ((m : Int) : Rat)
  have ep : prim a b c = prim (((m : Int) : Rat) * a) (((m : Int) : Rat) * b) (((m : Int) : Rat) * c) := (prim_mul _ _ _ _ hmp).symm
  rw [Rat.mul_comm _ a, Rat.mul_comm _ b, Rat.mul_comm _ c] at ep
  have hne : a * ((m : Int) : Rat) ≠ 0 ∨ b * ((m : Int) : Rat) ≠ 0 := by
    have h0 : ((m : Int) : Rat) ≠ 0 := fun e => by rw [e] at hmp; exact absurd hmp (by decide)
    rcases hab with h | h
    · exact .inl fun e => by rcases Rat.mul_eq_zero.1 e with e | e; exact h e; exact h0 e
    · exact .inr fun e => by rcases Rat.mul_eq_zero.1 e with e | e; exact h e; exact h0 e
  rw [fa] at g1 o1
  rw [fb] at g2 o2
  rw [fc] at g3 o3
  rw [fa, fb, fc] at ep
  rw [fa, fb] at hne
  rw [ep]
  clear fa fb fc ep hmp hab h hm
  generalize a.num * ((b.den * c.den : Nat) : Int) = A at *
  generalize b.num * ((a.den * c.den : Nat) : Int) = B at *
  generalize c.num * ((a.den * b.den : Nat) : Int) = C' at *
  rw [ht_of_int] at o1 o2 o3
  have hne' : A ≠ 0 ∨ B ≠ 0 := by
    rcases hne with h | h
    · exact .inl fun e => h (by rw [e]; rfl)
    · exact .inr fun e => h (by rw [e]; rfl)
  have mk := rmakeL_pu C' (a := A) (b := B) (by omega) (by omega) (by omega) hne'
  simp only [rq_int] at g1 g2 g3
  generalize prim (A : Rat) (B : Rat) (C' : Rat) = r at *
  clear o1 o2 o3 hmh k1 k2 k3 k4 k5 k6 k7 l1 l2 l3 l4 l5 hne hne' hx hy hu hv
  refine Pu.intro Tryz.func77 rfl (by kernel_rfl) fun C => ?_
  repeat (first | (refine AS ⟨?_⟩; intros) | (refine O1 ⟨?_⟩; intros) | (refine Wcx (s) ?_) | (refine Wcgx (s) ?_) | (refine Wcx (n1) ?_) | (refine Wcgx (n1) ?_))
  refine WdL 7 1 ?_
  repeat (first | (refine A1 ⟨?_⟩; intros) | (refine Wcx (n1) ?_) | (refine Wdcx (n1) ?_) | (refine Wcgx (n1) ?_) | (refine Wdcgx (n1) ?_))
  refine dL2 fun b7 b8 => ?_
  refine Gs (sv := rq a) (cs' := [lit (.bool (decide (a.num < 0))), nat a.num.natAbs, dg (dden a.den)]) rfl rfl rfl (by first | exact .here _ | exact .there _ (.here _)) rfl rfl ?_ ?_
  · (repeat (first | exact LOk.nil | refine Lsk ?_ | refine Lcv ?_))
  refine Gn ?_ ?_
  · (repeat (first | exact LOk.nil | refine Lsk ?_ | refine Lcv ?_))
  repeat (first | (refine A1 ⟨?_⟩; intros) | (refine Wo (ov_fieldA rfl rfl (by kernel_rfl) rfl) ?_) | (refine Wdo (ov_fieldA rfl rfl (by kernel_rfl) rfl) ?_) | (refine Wcx (s) ?_) | (refine Wdcx (s) ?_) | (refine Wcgx (s) ?_) | (refine Wdcgx (s) ?_) | (refine Wcx (n1) ?_) | (refine Wdcx (n1) ?_) | (refine Wcgx (n1) ?_) | (refine Wdcgx (n1) ?_) | (refine Wcx (t1) ?_) | (refine Wdcx (t1) ?_) | (refine Wcgx (t1) ?_) | (refine Wdcgx (t1) ?_) | (refine Wcx (t2) ?_) | (refine Wdcx (t2) ?_) | (refine Wcgx (t2) ?_) | (refine Wdcgx (t2) ?_) | (refine Wcx (p1) ?_) | (refine Wdcx (p1) ?_) | (refine Wcgx (p1) ?_) | (refine Wdcgx (p1) ?_) | (refine Wcx (n2) ?_) | (refine Wdcx (n2) ?_) | (refine Wcgx (n2) ?_) | (refine Wdcgx (n2) ?_) | (refine Wcx (e1) ?_) | (refine Wdcx (e1) ?_) | (refine Wcgx (e1) ?_) | (refine Wdcgx (e1) ?_) | (refine Wcx (e2) ?_) | (refine Wdcx (e2) ?_) | (refine Wcgx (e2) ?_) | (refine Wdcgx (e2) ?_) | (refine Wcx (e3) ?_) | (refine Wdcx (e3) ?_) | (refine Wcgx (e3) ?_) | (refine Wdcgx (e3) ?_) | (refine Wcx (q1) ?_) | (refine Wdcx (q1) ?_) | (refine Wcgx (q1) ?_) | (refine Wdcgx (q1) ?_) | (refine Wcx (q2) ?_) | (refine Wdcx (q2) ?_) | (refine Wcgx (q2) ?_) | (refine Wdcgx (q2) ?_) | (refine Wcx (m1) ?_) | (refine Wdcx (m1) ?_) | (refine Wcgx (m1) ?_) | (refine Wdcgx (m1) ?_) | (refine Wcx (g1) ?_) | (refine Wdcx (g1) ?_) | (refine Wcgx (g1) ?_) | (refine Wdcgx (g1) ?_) | (refine Wcx (g2) ?_) | (refine Wdcx (g2) ?_) | (refine Wcgx (g2) ?_) | (refine Wdcgx (g2) ?_) | (refine Wcx (g3) ?_) | (refine Wdcx (g3) ?_) | (refine Wcgx (g3) ?_) | (refine Wdcgx (g3) ?_) | (refine Wcx (mk) ?_) | (refine Wdcx (mk) ?_) | (refine Wcgx (mk) ?_) | (refine Wdcgx (mk) ?_))
  ((first | refine endR ?_ | refine endN ?_); exact end2 (RV.cellA rfl (by (first | exact List.mem_cons_self | exact (List.mem_cons_of_mem _ List.mem_cons_self) | exact (List.mem_cons_of_mem _ (List.mem_cons_of_mem _ List.mem_cons_self)) | exact (List.mem_cons_of_mem _ (List.mem_cons_of_mem _ (List.mem_cons_of_mem _ List.mem_cons_self))) | exact (List.mem_cons_of_mem _ (List.mem_cons_of_mem _ (List.mem_cons_of_mem _ (List.mem_cons_of_mem _ List.mem_cons_self)))) | exact (List.mem_cons_of_mem _ (List.mem_cons_of_mem _ (List.mem_cons_of_mem _ (List.mem_cons_of_mem _ (List.mem_cons_of_mem _ List.mem_cons_self))))) | exact (List.mem_cons_of_mem _ (List.mem_cons_of_mem _ (List.mem_cons_of_mem _ (List.mem_cons_of_mem _ (List.mem_cons_of_mem _ (List.mem_cons_of_mem _ List.mem_cons_self)))))) | exact (List.mem_cons_of_mem _ (List.mem_cons_of_mem _ (List.mem_cons_of_mem _ (List.mem_cons_of_mem _ (List.mem_cons_of_mem _ (List.mem_cons_of_mem _ (List.mem_cons_of_mem _ List.mem_cons_self))))))))) (by (first | (simp only [List.drop_succ_cons, List.drop_zero, List.drop_nil, List.take_succ_cons, List.take_zero, List.take_nil, Nat.zero_add, Nat.add_zero, Nat.reduceAdd]; done) | (simp only [List.drop_succ_cons, List.drop_zero, List.drop_nil, List.take_succ_cons, List.take_zero, List.take_nil, Nat.zero_add, Nat.add_zero, Nat.reduceAdd]; exact rfl) | exact rfl)) rfl) (RV.tmp rfl) (Le.refl _))
end Go.Ab
/- Values of which only the kind is known, in regions that draw their order. -/
namespace Go.Ab
open Go.Proofs
set_option linter.unusedSectionVars false
set_option linter.unusedVariables false
set_option linter.unusedSimpArgs false
variable [Base]
section
variable {P : Program} {F : Fr} {H : LH} {ty : TypeId}
theorem ArgsOk.exAt {m : Mem} {α : Type} {g : α → SV} : ∀ {pre post : List SV} {vs : List Value}, ArgsOk m (pre ++ ex g :: post) vs → ∃ x, ArgsOk m (pre ++ g x :: post) vs
  | [], _, [], h => h.elim
  | [], _, v :: vs, h => by
    have h1 := h.1
    unfold ex at h1
    obtain ⟨x, hx⟩ := h1
    exact ⟨x, hx, h.2⟩
  | _ :: _, _, [], h => h.elim
  | s :: pre, post, v :: vs, h => by
    obtain ⟨x, hx⟩ := ArgsOk.exAt (pre := pre) (post := post) h.2
    exact ⟨x, h.1, hx⟩
theorem ex_mk {α : Type} {m : Mem} {v : Value} {g : α → SV} (x : α) (h : (g x).p m v) : (ex g).p m v := by unfold ex; exact ⟨x, h⟩
theorem Le.exL {α : Type} {g : α → SV} {s : SV} (h : ∀ x, Le (g x) s) : Le (Ab.ex g) s := fun m v hv => by
  unfold Ab.ex at hv
  obtain ⟨x, hx⟩ := hv
  exact h x m v hx
/-- a function over a value of which only the kind is known -/
theorem Pu.exAt {f : FuncId} {α : Type} (pre post : List SV) {g r : α → SV} (x0 : α) (h : ∀ x, Pu P f (pre ++ g x :: post) (r x)) : Pu P f (pre ++ ex g :: post) (ex r) := by
  unfold Pu at *
  exact ⟨(h x0).1, fun m w vs hm ha => by
    obtain ⟨x, hx⟩ := ha.exAt
    exact ((h x).2 m w vs hm hx).mono fun _ _ ⟨v, m', e, hp, k⟩ => ⟨v, m', e, ex_mk x hp, k⟩⟩
/-- .. that makes no difference to the result -/
theorem Pu.exAt' {f : FuncId} {α : Type} (pre post : List SV) {g : α → SV} {r : SV} (x0 : α) (h : ∀ x, Pu P f (pre ++ g x :: post) r) : Pu P f (pre ++ ex g :: post) r := by
  unfold Pu at *
  exact ⟨(h x0).1, fun m w vs hm ha => by
    obtain ⟨x, hx⟩ := ha.exAt
    exact (h x).2 m w vs hm hx⟩
theorem OpV.mono' {op : Op} {s s' : SV} (h : OpV P op ty F H s) (k : Le s s') : OpV P op ty F H s' := by
  unfold OpV at *
  exact fun m w o a ho hty h1 h2 h3 K Q hK => h m w o a ho hty h1 h2 h3 K Q fun v m' w' hp => hK v m' w' (k _ _ hp)
theorem OpV.exc {op : Op} {α : Type} (t : Nat) {f : α → SV} {s : SV} (x0 : α) (hf : F t = ex f) (h : ∀ x, OpV P op ty (upd F t (f x)) H s) : OpV P op ty F H s := by
    unfold OpV at *
    intro m w o a ho hty h1 h2 h3 K Q hK
    have key : ∃ x : α, (.tmp t ∈ op.operands → (f x).p m (a.eval (.tmp t))) := by
      by_cases ht : .tmp t ∈ op.operands
      · have h0 := h3 t ht
        rw [hf] at h0
        unfold ex at h0
        obtain ⟨x, hx⟩ := h0
        exact ⟨x, fun _ => hx⟩
      · exact ⟨x0, fun k => (ht k).elim⟩
    obtain ⟨x, hx⟩ := key
    refine h x m w o a ho hty h1 h2 (fun t' ht' => ?_) K Q hK
    by_cases e : t' = t
    · subst e; rw [upd_eq]; exact hx ht'
    · rw [upd_ne e]; exact h3 t' ht'
/-- an operation over a value of which only the kind is known -/
theorem OpV.exd {op : Op} {α : Type} (t : Nat) {f g : α → SV} (x0 : α) (hf : F t = ex f) (h : ∀ x, OpV P op ty (upd F t (f x)) H (g x)) : OpV P op ty F H (ex g) :=
  OpV.exc t x0 hf fun x => (h x).mono' fun _ _ hp => ex_mk x hp
end
end Go.Ab
/- Trees of package bsp and of the reference: their values, leaves, nodes; written as lists of nodes. -/
namespace Go.Ab
open Go.Proofs
set_option linter.unusedSectionVars false
set_option linter.unusedVariables false
set_option linter.unusedSimpArgs false
variable [Base]
/-- a partition of the plane -/
inductive Tr where
  | leaf (i : Bool)
  | node (l : Li) (a b : Tr)
/-- the cells of a line of package geo -/
abbrev lfc (a b c : Rat) : List SV := [lit (.int .i64 (r0 a)), lit (.int .i64 (r1 a)), r2 a, lit (.int .i64 (r0 b)), lit (.int .i64 (r1 b)), r2 b, lit (.int .i64 (r0 c)), lit (.int .i64 (r1 c)), r2 c]
/-- the cells of a tree of package bsp -/
def bc : Tr → List SV
  | .leaf i => [lit (.int .i64 0), lit (.int .i64 0), lit (.pointer none), lit (.int .i64 0), lit (.int .i64 0), lit (.pointer none), lit (.int .i64 0), lit (.int .i64 0), lit (.pointer none), lit (.pointer none), lit (.pointer none), lit (.bool i)]
  | .node l a b => [lit (.int .i64 (r0 l.a)), lit (.int .i64 (r1 l.a)), r2 l.a, lit (.int .i64 (r0 l.b)), lit (.int .i64 (r1 l.b)), r2 l.b, lit (.int .i64 (r0 l.c)), lit (.int .i64 (r1 l.c)), r2 l.c, pt (bc a), pt (bc b), lit (.bool false)]
theorem bc_leaf (i : Bool) : bc (.leaf i) = [lit (.int .i64 0), lit (.int .i64 0), lit (.pointer none), lit (.int .i64 0), lit (.int .i64 0), lit (.pointer none), lit (.int .i64 0), lit (.int .i64 0), lit (.pointer none), lit (.pointer none), lit (.pointer none), lit (.bool i)] := rfl
theorem bc_node (l : Li) (a b : Tr) : bc (.node l a b) = [lit (.int .i64 (r0 l.a)), lit (.int .i64 (r1 l.a)), r2 l.a, lit (.int .i64 (r0 l.b)), lit (.int .i64 (r1 l.b)), r2 l.b, lit (.int .i64 (r0 l.c)), lit (.int .i64 (r1 l.c)), r2 l.c, pt (bc a), pt (bc b), lit (.bool false)] := rfl
/-- a tree of package bsp -/
abbrev bt (t : Tr) : SV := pt (bc t)
/-- a function that hands back a new block, given away -/
theorem PuN.toPt {P : Program} {f : FuncId} {T : TypeId} {args cs : List SV} (h : PuN P f T args cs) : Pu P f args (pt cs) := by
  unfold Pu
  exact ⟨h.1, fun m w vs hm ha => (h.2 m w vs hm ha).mono fun _ w' ⟨b, m', e, hb, h1, h2, ⟨arr, h3, h4⟩, h5⟩ => by
    have hle : m'.le (fun x => if x = b then w'.heap[b]? else m' x) := fun x o hx => by
      show (if x = b then w'.heap[b]? else m' x) = some o
      rw [if_neg (fun e => by rw [e] at hx; rw [h2] at hx; cases hx)]; exact hx
    refine ⟨_, (fun x => if x = b then w'.heap[b]? else m' x), e, pub_pt (arr := arr) (T := T) _ (by show (if b = b then w'.heap[b]? else m' b) = _; rw [if_pos rfl]; exact h3) (h4.mono hle), ⟨fun x o hx => ?_, Mem.le_trans h1.base hle⟩, ⟨Mem.le_trans h5.le hle, fun x hx hnx => ?_, h5.os, h5.tape, h5.output, h5.size, h5.block⟩⟩
    · by_cases hxb : x = b
      · subst hxb; simp only [if_true] at hx; exact hx
      · simp only [if_neg hxb] at hx; exact h1 x o hx
    · show (if x = b then w'.heap[b]? else m' x) = _
      rw [if_neg (by omega)]; exact h5.old x hx hnx⟩
theorem leaf_pu (i : Bool) : Pu Tryz.prog 192 [lit (.bool i)] (bt (.leaf i)) := by
  unfold bt
  rw [bc_leaf]
  apply PuN.toPt (T := 220)
  refine PuN.intro Tryz.func192 rfl (by kernel_rfl) fun C => ?_
  repeat (refine A1 ⟨?_⟩; intros)
  exact endNwR _ _ (end1 (RV.tmp rfl) (Le.refl _)) List.mem_cons_self (LeL.refl _)
theorem isLeaf_leaf (i : Bool) : Pu Tryz.prog 131 [bt (.leaf i)] (lit (.bool true)) := by
  unfold bt
  rw [bc_leaf]
  refine Pu.intro Tryz.func131 rfl (by kernel_rfl) fun C => ?_
  repeat (refine A1 ⟨?_⟩; intros)
  ((first | refine endR ?_ | refine endN ?_); exact end1 (RV.tmp rfl) (Le.refl _))
theorem isLeaf_node (l : Li) (a b : Tr) : Pu Tryz.prog 131 [bt (.node l a b)] (lit (.bool false)) := by
  unfold bt
  rw [bc_node]
  refine Pu.intro Tryz.func131 rfl (by kernel_rfl) fun C => ?_
  repeat (refine A1 ⟨?_⟩; intros)
  ((first | refine endR ?_ | refine endN ?_); exact end1 (RV.tmp rfl) (Le.refl _))
theorem bnew_pu (l : Li) (a b : Tr) : Pu Tryz.prog 132 [lf l.a l.b l.c, bt a, bt b] (bt (.node l a b)) := by
  unfold bt
  rw [bc_node]
  apply PuN.toPt (T := 220)
  refine PuN.intro Tryz.func132 rfl (by kernel_rfl) fun C => ?_
  repeat (refine A1 ⟨?_⟩; intros)
  exact endNwR _ _ (end1 (RV.tmp rfl) (Le.refl _)) List.mem_cons_self (LeL.refl _)
def Tr.size : Tr → Nat
  | .leaf _ => 0
  | .node _ a b => 1 + a.size + b.size
theorem Tr.size_node (l : Li) (a b : Tr) : (Tr.node l a b).size = 1 + a.size + b.size := rfl
/-- the number that stands for a tree whose nodes begin at k -/
def Tr.root (k : Nat) : Tr → Int
  | .leaf true => -2
  | .leaf false => -1
  | .node _ _ _ => k
/-- a node of package api -/
def nd (l : Li) (i j : Int) : List SV := [lit (.bool (decide (l.a < 0))), nat l.a.natAbs, lit (.bool (decide (l.b < 0))), nat l.b.natAbs, lit (.bool (decide (l.c < 0))), nat l.c.natAbs, lit (.int .i64 i), lit (.int .i64 j)]
/-- the nodes of a tree, one behind the other, from number k on -/
def Tr.rows (k : Nat) : Tr → List SV
  | .leaf _ => []
  | .node l a b => nd l (a.root (k + 1)) (b.root (k + 1 + a.size)) ++ a.rows (k + 1) ++ b.rows (k + 1 + a.size)
theorem Tr.rows_len : ∀ (t : Tr) (k : Nat), (t.rows k).length = t.size * 8
  | .leaf _, _ => rfl
  | .node _ a b, k => by simp only [Tr.rows, Tr.size, List.length_append, rows_len a, rows_len b, nd, List.length_cons, List.length_nil]; omega
/-- the lines of a tree are lines -/
def Tr.all (p : Li → Prop) : Tr → Prop
  | .leaf _ => True
  | .node l a b => p l ∧ a.all p ∧ b.all p
instance tyF : TY Tryz.prog 221 1 8 [lit .nilFunc] false := ⟨⟨[.nilFunc], by kernel_rfl, rfl, rfl, rfl⟩, by kernel_rfl⟩
theorem set_mid6 {cs rest : List SV} {k : Nat} {x0 x1 x2 x3 x4 x5 x6 x7 v : SV} (h : cs.length = k) : spl (cs ++ (x0 :: x1 :: x2 :: x3 :: x4 :: x5 :: x6 :: x7 :: rest)) (0 + k + 6) [v] = cs ++ (x0 :: x1 :: x2 :: x3 :: x4 :: x5 :: v :: x7 :: rest) := by
  subst h
  simp only [spl, Nat.zero_add]
  rw [List.set_append_right _ _ (by omega), Nat.add_sub_cancel_left]
  rfl
theorem set_mid7 {cs rest : List SV} {k : Nat} {x0 x1 x2 x3 x4 x5 x6 x7 v : SV} (h : cs.length = k) : spl (cs ++ (x0 :: x1 :: x2 :: x3 :: x4 :: x5 :: x6 :: x7 :: rest)) (0 + k + 7) [v] = cs ++ (x0 :: x1 :: x2 :: x3 :: x4 :: x5 :: x6 :: v :: rest) := by
  subst h
  simp only [spl, Nat.zero_add]
  rw [List.set_append_right _ _ (by omega), Nat.add_sub_cancel_left]
  rfl
theorem ble_mid {cs rest : List SV} {k j : Nat} {x0 x1 x2 x3 x4 x5 x6 x7 : SV} (h : cs.length = k) (hj : j < 8) : Nat.ble (0 + k + j + 1) (cs ++ (x0 :: x1 :: x2 :: x3 :: x4 :: x5 :: x6 :: x7 :: rest)).length = true := by
  rw [Nat.ble_eq, List.length_append]; simp only [List.length_cons]; omega
theorem api1_pu : ∀ (t : Tr) (_ : t.all fun l => l.le 1000000) (out fn n0 : Nat) (cs : List SV) (s : SV) (Hs : LH) (_ : Own 158 8 n0 cs s Hs) (_ : n0 + t.size ≤ 1000000) (r0' : Int),
    PuH Tryz.prog 133 [bt t, lit (.pointer (some ⟨out, 0, none⟩)), lit (.pointer (some ⟨fn, 0, none⟩))]
      ((out, 50, [lit (.int .i64 r0'), s]) :: (fn, 221, [fnv 133 [] [lit (.pointer (some ⟨out, 0, none⟩)), lit (.pointer (some ⟨fn, 0, none⟩))]]) :: Hs)
      (fun r H => r = lit (.int .i64 (t.root n0)) ∧ ∃ s' H', Own 158 8 (n0 + t.size) (cs ++ t.rows n0) s' H' ∧
        H = (out, 50, [lit (.int .i64 r0'), s']) :: (fn, 221, [fnv 133 [] [lit (.pointer (some ⟨out, 0, none⟩)), lit (.pointer (some ⟨fn, 0, none⟩))]]) :: H') noX := by
  intro t
  induction t with
  | leaf i =>
    intro _ out fn n0 cs s Hs hown _ r0'
    have c1 := isLeaf_leaf i
    have hfin : Own 158 8 (n0 + (Tr.leaf i).size) (cs ++ (Tr.leaf i).rows n0) s Hs := by
      simpa [Tr.size, Tr.rows] using hown
    unfold bt at *
    rw [bc_leaf] at *
    cases i with
    | true =>
      refine PuH.intro Tryz.func133 rfl (by kernel_rfl) fun C hC => ?_
      repeat (first | (refine A1 ⟨?_⟩; intros) | (refine Wcx (c1) ?_) | (refine Wdcx (c1) ?_) | (refine Wcgx (c1) ?_) | (refine Wdcgx (c1) ?_))
      exact endHR _ _ (end1 (RV.tmp rfl) (Le.refl _)) (List.Sublist.refl _) ⟨rfl, _, _, hfin, rfl⟩
    | false =>
      refine PuH.intro Tryz.func133 rfl (by kernel_rfl) fun C hC => ?_
      repeat (first | (refine A1 ⟨?_⟩; intros) | (refine Wcx (c1) ?_) | (refine Wdcx (c1) ?_) | (refine Wcgx (c1) ?_) | (refine Wdcgx (c1) ?_))
      exact endHR _ _ (end1 (RV.tmp rfl) (Le.refl _)) (List.Sublist.refl _) ⟨rfl, _, _, hfin, rfl⟩
  | node l a b iha ihb =>
    intro hall out fn n0 cs s Hs hown hsz r0'
    obtain ⟨hl, hla, hlb⟩ := hall
    have c1 := isLeaf_node l a b
    have c2 := lapi_pu l hl
    haveI := hown.co
    rw [Tr.size_node] at hsz
    unfold bt at *
    rw [bc_node] at *
    refine PuH.intro Tryz.func133 rfl (by kernel_rfl) fun C hC => ?_
    repeat (first | (refine A1 ⟨?_⟩; intros) | (refine Wcx (c1) ?_) | (refine Wdcx (c1) ?_) | (refine Wcgx (c1) ?_) | (refine Wdcgx (c1) ?_))
    refine Wo (ov_lenOwn hown rfl) ?_
    repeat (first | (refine AS ⟨?_⟩; intros) | (refine O1 ⟨?_⟩; intros) | (refine Wcx (c1) ?_) | (refine Wcgx (c1) ?_))
    refine WdN 9 ?_
    repeat (first | (refine A1 ⟨?_⟩; intros) | (refine Wcx (c2) ?_) | (refine Wdcx (c2) ?_) | (refine Wcgx (c2) ?_) | (refine Wdcgx (c2) ?_))
    simp only [List.drop_succ_cons, List.drop_zero]
    refine Wown hown (by omega) (fun s1 H1 o1 => ?_)
    have o1' := o1
    obtain ⟨_, ⟨h1, _⟩ | ⟨b1, k1, _, _, rfl, rfl⟩⟩ := o1
    · omega
    simp only [List.cons_append, List.nil_append]
    repeat (first | (refine AS ⟨?_⟩; intros) | (refine O1 ⟨?_⟩; intros) | (refine Wcx (c2) ?_) | (refine Wcgx (c2) ?_))
    refine WdN 5 ?_
    repeat (refine A1 ⟨?_⟩; intros)
    simp only [List.drop_succ_cons, List.drop_zero]
    refine WvT (iha hla out fn (n0 + 1) _ _ _ o1' (by omega) r0') ?_
    rintro _ _ ⟨rfl, s2, H2, o2, rfl⟩
    have o2' := o2
    obtain ⟨_, ⟨h2, _⟩ | ⟨b2, k2, _, _, rfl, rfl⟩⟩ := o2
    · omega
    simp only [List.cons_append, List.nil_append]
    repeat (first | (refine AS ⟨?_⟩; intros) | (refine O1 ⟨?_⟩; intros) | (refine Wcx (c2) ?_) | (refine Wcgx (c2) ?_))
    refine WdN 5 ?_
    repeat (refine A1 ⟨?_⟩; intros)
    simp only [List.drop_succ_cons, List.drop_zero]
    refine WvT (ihb hlb out fn (n0 + 1 + a.size) _ _ _ o2' (by omega) r0') ?_
    rintro _ _ ⟨rfl, s3, H3, o3, rfl⟩
    simp only [List.cons_append, List.nil_append]
    obtain ⟨hlen, ⟨h0, _⟩ | ⟨b3, c3, hc3, hm3, rfl, rfl⟩⟩ := o3
    · omega
    have hcl := hown.1
    simp only [List.append_assoc, List.cons_append, List.nil_append]
    repeat (first | (refine AS ⟨?_⟩; intros) | (refine O1 ⟨?_⟩; intros) | (refine Wcx (c2) ?_) | (refine Wcgx (c2) ?_))
    refine WdL 8 3 ?_
    repeat (refine A1 ⟨?_⟩; intros)
    refine dL0 ?_
    refine Gv ?_ ?_
    · (repeat (first | exact LOk.nil | refine Lsk ?_ | refine Lcv ?_))
    refine Gv ?_ ?_
    · (repeat (first | exact LOk.nil | refine Lsk ?_ | refine Lcv ?_))
    refine Gs (b := b3) (o := 0 + n0 * 8 + 6) (sv := lit (.int .i64 (a.root (n0 + 1)))) rfl rfl rfl (.there _ (.there _ (.there _ (.here _)))) (set_mid6 hcl) (ble_mid hcl (by decide)) ?_ ?_
    · (repeat (first | exact LOk.nil | refine Lsk ?_ | refine Lcv ?_))
    refine Gn ?_ ?_
    · (repeat (first | exact LOk.nil | refine Lsk ?_ | refine Lcv ?_))
    repeat (refine A1 ⟨?_⟩; intros)
    refine WPL.store (b := b3) (o := 0 + n0 * 8 + 7) (sv := lit (.int .i64 (b.root (n0 + 1 + a.size)))) rfl rfl rfl (.there _ (.there _ (.there _ (.here _)))) (set_mid7 hcl) (ble_mid hcl (by decide)) ?_
    repeat (refine A1 ⟨?_⟩; intros)
    refine endHR _ _ (end1 (RV.tmp rfl) (Le.refl _)) (List.Sublist.cons _ (List.Sublist.refl _)) ⟨rfl, _, _, ⟨?_, .inr ⟨b3, c3, ?_, hm3, ?_, ?_⟩⟩, rfl⟩
    · rw [List.length_append, hown.1, Tr.rows_len, Nat.add_mul]
    · rw [Tr.size_node]; omega
    · rw [show n0 + (Tr.node l a b).size = n0 + 1 + a.size + b.size from by rw [Tr.size_node]; omega]
    · rw [show n0 + (Tr.node l a b).size = n0 + 1 + a.size + b.size from by rw [Tr.size_node]; omega]
      simp only [Tr.rows, nd, List.append_assoc, List.cons_append, List.nil_append]
theorem All2.repl {m : Mem} {x y : SV} {c2 : List SV} (h : ∀ v, x.p m v → y.p m v) : ∀ {c1 : List SV} {l : List Value}, All2 m (c1 ++ x :: c2) l → All2 m (c1 ++ y :: c2) l
  | [], [], k => k.elim
  | [], _ :: _, k => ⟨⟨h _ k.1.1, k.1.2⟩, k.2⟩
  | _ :: _, [], k => k.elim
  | _ :: _, _ :: _, k => ⟨k.1, All2.repl h k.2⟩
/-- giving a block away to which a cell of another block points -/
theorem St.pubC {C : Ctx} {n : Nat} {F : Fr} {H H1 H' : LH} {a : Act} {w : World} {b o : Nat} {T To : TypeId} {cs c1 c2 : List SV} {v : Value} {s' : SV} (hs : St C n F H a w) (hdel : HDel b T cs H H1)
    (hu : HUpd o To (c1 ++ lit v :: c2) (c1 ++ s' :: c2) H1 H') (hsv : ∀ (m : Mem) (arr : Array Value), m b = some (.cells arr T (0, 0)) → All2 m cs arr.toList → s'.p m v) : St C n F H' a w := by
  obtain ⟨hdef, hn, m, h1, h2, h3, h4, h5⟩ := hs
  obtain ⟨hmb, arr, hb, hall⟩ := h2.2 _ hdel.mem
  have hle : m.le (fun x => if x = b then w.heap[b]? else m x) := fun x o hx => by
    show (if x = b then w.heap[b]? else m x) = some o
    rw [if_neg (fun e => by rw [e] at hx; rw [hmb] at hx; cases hx)]; exact hx
  have hk := hdel.keys h2.1
  have hval : s'.p (fun x => if x = b then w.heap[b]? else m x) v := hsv _ arr (by show (if b = b then w.heap[b]? else m b) = _; rw [if_pos rfl]; exact hb) (hall.mono hle)
  refine ⟨hdef, hn, (fun x => if x = b then w.heap[b]? else m x), ⟨fun x o hx => ?_, Mem.le_trans h1.base hle⟩, ⟨hu.keys ▸ hk.1, fun e he => ?_⟩, ⟨Mem.le_trans h3.le hle, fun x hx hnx => ?_, h3.os, h3.tape, h3.output, h3.size, h3.block⟩,
    fun e he => ?_, fun t => (F t).mono hle (h5 t)⟩
  · by_cases hxb : x = b
    · subst hxb; simp only [if_true] at hx; exact hx
    · simp only [if_neg hxb] at hx; exact h1 x o hx
  · rcases hu.mem' hk.1 e he with rfl | ⟨he', hne⟩
    · obtain ⟨q1, arr', q2, q3⟩ := h2.2 _ (hdel.sub _ hu.mem)
      refine ⟨?_, arr', q2, (q3.mono hle).repl fun u hu' => ?_⟩
      · show (if o = b then w.heap[b]? else m o) = none
        rw [if_neg (hk.2 _ hu.mem)]; exact q1
      · rw [lit_p] at hu'; subst hu'; exact hval
    · obtain ⟨q1, arr', q2, q3⟩ := h2.2 e (hdel.sub e he')
      exact ⟨by show (if e.1 = b then w.heap[b]? else m e.1) = none; rw [if_neg (hk.2 e he')]; exact q1, arr', q2, q3.mono hle⟩
  · have hxb : x ≠ b := fun e => by
      subst e
      rcases h4 _ hdel.mem with h | h
      · exact hnx h
      · exact absurd hx (Nat.not_lt.2 h)
    show (if x = b then w.heap[b]? else m x) = _
    rw [if_neg hxb]; exact h3.old x hx hnx
  · have : e.1 ∈ H'.map (·.1) := List.mem_map.2 ⟨e, he, rfl⟩
    rw [hu.keys] at this
    obtain ⟨e', he', hk'⟩ := List.mem_map.1 this
    exact hk' ▸ h4 e' (hdel.sub e' he')
theorem WPL.pubC {P : Program} {C : Ctx} {n : Nat} {F : Fr} {H H1 H' : LH} {ops : Array Oper} {K : Fr → LH → Prop} {l : List Oper} {b o : Nat} {T To : TypeId} {cs c1 c2 : List SV} {v : Value} {s' : SV} (hdel : HDel b T cs H H1)
    (hu : HUpd o To (c1 ++ lit v :: c2) (c1 ++ s' :: c2) H1 H') (hsv : ∀ (m : Mem) (arr : Array Value), m b = some (.cells arr T (0, 0)) → All2 m cs arr.toList → s'.p m v) (k : WPL P C n ops l K F H') : WPL P C n ops l K F H := by
  unfold WPL at *
  exact fun a w hs => k a w (hs.pubC hdel hu hsv)
/-- a tree of package api -/
abbrev tq (t : Tr) : SV := ag [lit (.int .i64 (t.root 0)), sl (t.rows 0) t.size]
theorem pub_own {m : Mem} {arr : Array Value} {b : Nat} {T : TypeId} {cs : List SV} {j n c : Nat} (hm : m b = some (.cells arr T (0, 0))) (ha : All2 m (cs ++ List.replicate j top) arr.toList) (h1 : n ≤ c) (h2 : c ≤ maxLen) : (sl cs n).p m (.slice (some ⟨b, 0, none⟩) n c) := by
  refine sl_mk h1 h2 (.inr ⟨b, 0, rfl, arr, T, (0, 0), hm, ?_⟩)
  rw [List.drop_zero]
  exact ha.split.1
theorem tapi_pu (t : Tr) (hall : t.all fun l => l.le 1000000) (hsz : t.size ≤ 1000000) : Pu Tryz.prog 75 [bt t] (tq t) := by
  have c := fun out fn => api1_pu t hall out fn 0 [] _ [] (Own.nil 158 8) (by omega) 0
  refine Pu.intro Tryz.func75 rfl (by kernel_rfl) fun C => ?_
  repeat (refine A1 ⟨?_⟩; intros)
  rename_i b1 b2 b3
  refine Ss ?_
  refine Ws (sv := fnv 133 [] [lit (.pointer (some ⟨b2, 0, none⟩)), lit (.pointer (some ⟨b3, 0, none⟩))]) ?_
  repeat (refine A1 ⟨?_⟩; intros)
  refine WvT (c _ _) ?_
  rintro _ _ ⟨rfl, s', H', ho, rfl⟩
  simp only [List.cons_append, List.nil_append, Nat.zero_add] at ho ⊢
  obtain ⟨hlen, ⟨h0, rfl, rfl⟩ | ⟨b, cc, h1, h2, rfl, rfl⟩⟩ := ho
  · have hr : t.rows 0 = [] := List.eq_nil_of_length_eq_zero (by rw [hlen, h0])
    have hle : Le (lit (.slice none 0 0)) (sl (t.rows 0) t.size) := fun m v hv => by
      rw [lit_p] at hv; subst hv; rw [hr, h0]
      exact sl_mk (Nat.le_refl _) (by decide) (.inl rfl)
    repeat (refine A1 ⟨?_⟩; intros)
    exact endR (end1 (RV.cellA rfl List.mem_cons_self rfl rfl) (Le.ag ⟨Le.refl _, hle, trivial⟩))
  · refine WPL.pubC (c1 := [lit (.int .i64 0)]) (c2 := []) (s' := sl (t.rows 0) t.size) (.there _ (.there _ (.there _ (.here _)))) (.there _ (.here _)) (fun m arr hm ha => pub_own hm ha h1 h2) ?_
    simp only [List.cons_append, List.nil_append]
    repeat (refine A1 ⟨?_⟩; intros)
    exact endR (end1 (RV.cellA rfl List.mem_cons_self rfl rfl) (Le.refl _))
end Go.Ab
