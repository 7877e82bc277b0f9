/- Texts laid one behind the other: TapeB, RTree, RTreeW, RTreeS, LateC, TreeB. -/
import Derived.Test.YtmmifnkikifmnaaGreatDoorB18
import Derived.Test.YtmmifnkikifmnaaGreatDoorB03
import Derived.Test.YtmmifnkikifmnaaGreatDoorLate
import Derived.Test.YtmmifnkikifmnaaGreatDoorB16
/- The scenes' tape: points, vectors, lines, trees. -/
namespace Go.Ab
open Go.Proofs
set_option linter.unusedSectionVars false
set_option linter.unusedVariables false
set_option linter.unusedSimpArgs false
variable [Base]
theorem rsame_pu (x y u v : Rat) (hx : ht x ≤ 3000000) (hy : ht y ≤ 3000000) (hu : ht u ≤ 3000000) (hv : ht v ≤ 3000000) : Pu Tryz.prog 81 [rp x y, rp u v] (lit (.bool (decide (x = u ∧ y = v)))) := by
  have c1 := rc_pu x u hx hu
  have c2 := rc_pu y v hy hv
  have e1 := sub_sign_zero (x := x) (y := u)
  have e2 := sub_sign_zero (x := y) (y := v)
  generalize (x - u).num.sign = s at *
  generalize (y - v).num.sign = t at *
  clear hx hy hu hv
  by_cases h1 : x = u
  · have hs := e1.2 h1
    by_cases h2 : y = v
    · have ht := e2.2 h2
      rw [decide_eq_true ⟨h1, h2⟩]
      clear e1 e2
      subst hs ht
      refine Pu.intro Tryz.func81 rfl (by kernel_rfl) fun C => ?_
      repeat (first | (refine A1 ⟨?_⟩; intros) | (refine Wcx (c1) ?_) | (refine Wdcx (c1) ?_) | (refine Wcgx (c1) ?_) | (refine Wdcgx (c1) ?_) | (refine Wcx (c2) ?_) | (refine Wdcx (c2) ?_) | (refine Wcgx (c2) ?_) | (refine Wdcgx (c2) ?_))
      ((first | refine endR ?_ | refine endN ?_); exact end1 (RV.tmp rfl) (Le.refl _))
    · have ht : t ≠ 0 := fun e => h2 (e2.1 e)
      rw [decide_eq_false (fun h => h2 h.2)]
      clear e1 e2
      subst hs
      refine Pu.intro Tryz.func81 rfl (by kernel_rfl) fun C => ?_
      repeat (first | (refine A1 ⟨?_⟩; intros) | (refine Wcx (c1) ?_) | (refine Wdcx (c1) ?_) | (refine Wcgx (c1) ?_) | (refine Wdcgx (c1) ?_) | (refine Wcx (c2) ?_) | (refine Wdcx (c2) ?_) | (refine Wcgx (c2) ?_) | (refine Wdcgx (c2) ?_))
      ((first | refine endR ?_ | refine endN ?_); exact end1 (RV.tmp rfl) (Le.refl _))
  · have hs : s ≠ 0 := fun e => h1 (e1.1 e)
    rw [decide_eq_false (fun h => h1 h.1)]
    clear e1 e2
    refine Pu.intro Tryz.func81 rfl (by kernel_rfl) fun C => ?_
    repeat (first | (refine A1 ⟨?_⟩; intros) | (refine Wcx (c1) ?_) | (refine Wdcx (c1) ?_) | (refine Wcgx (c1) ?_) | (refine Wdcgx (c1) ?_) | (refine Wcx (c2) ?_) | (refine Wdcx (c2) ?_) | (refine Wcgx (c2) ?_) | (refine Wdcgx (c2) ?_))
    ((first | refine endR ?_ | refine endN ?_); exact end1 (RV.tmp rfl) (Le.refl _))
/-- a point with small integer coordinates -/
abbrev intP : SV := ex fun p : { p : Int × Int // p.1.natAbs ≤ 4 ∧ p.2.natAbs ≤ 4 } => rp (p.1.1 : Rat) (p.1.2 : Rat)
/-- such a vector other than 0 -/
abbrev intV : SV := ex fun p : { p : Int × Int // (p.1.natAbs ≤ 4 ∧ p.2.natAbs ≤ 4) ∧ (p.1 ≠ 0 ∨ p.2 ≠ 0) } => rp (p.1.1 : Rat) (p.1.2 : Rat)
theorem tp_pu (zs : List Int) (hz : zs.length ≤ 400) : PuT 76 zs [] intP := by
  refine PuM.intro Tryz.func76 rfl (by kernel_rfl) fun C b => ?_
  repeat (refine A1 ⟨?_⟩; intros)
  refine Wtx (next_pu zs hz 9 (by omega) (by omega)) (by (first | exact List.mem_cons_self | exact (List.mem_cons_of_mem _ List.mem_cons_self) | exact (List.mem_cons_of_mem _ (List.mem_cons_of_mem _ List.mem_cons_self)) | exact (List.mem_cons_of_mem _ (List.mem_cons_of_mem _ (List.mem_cons_of_mem _ List.mem_cons_self))) | exact (List.mem_cons_of_mem _ (List.mem_cons_of_mem _ (List.mem_cons_of_mem _ (List.mem_cons_of_mem _ List.mem_cons_self)))) | exact (List.mem_cons_of_mem _ (List.mem_cons_of_mem _ (List.mem_cons_of_mem _ (List.mem_cons_of_mem _ (List.mem_cons_of_mem _ List.mem_cons_self))))) | exact (List.mem_cons_of_mem _ (List.mem_cons_of_mem _ (List.mem_cons_of_mem _ (List.mem_cons_of_mem _ (List.mem_cons_of_mem _ (List.mem_cons_of_mem _ List.mem_cons_self)))))) | exact (List.mem_cons_of_mem _ (List.mem_cons_of_mem _ (List.mem_cons_of_mem _ (List.mem_cons_of_mem _ (List.mem_cons_of_mem _ (List.mem_cons_of_mem _ (List.mem_cons_of_mem _ List.mem_cons_self))))))))) fun x => ?_
  obtain ⟨x, hx⟩ := x
  simp only []
  repeat (refine A1 ⟨?_⟩; intros)
  refine Wtx (next_pu zs hz 9 (by omega) (by omega)) (by (first | exact List.mem_cons_self | exact (List.mem_cons_of_mem _ List.mem_cons_self) | exact (List.mem_cons_of_mem _ (List.mem_cons_of_mem _ List.mem_cons_self)) | exact (List.mem_cons_of_mem _ (List.mem_cons_of_mem _ (List.mem_cons_of_mem _ List.mem_cons_self))) | exact (List.mem_cons_of_mem _ (List.mem_cons_of_mem _ (List.mem_cons_of_mem _ (List.mem_cons_of_mem _ List.mem_cons_self)))) | exact (List.mem_cons_of_mem _ (List.mem_cons_of_mem _ (List.mem_cons_of_mem _ (List.mem_cons_of_mem _ (List.mem_cons_of_mem _ List.mem_cons_self))))) | exact (List.mem_cons_of_mem _ (List.mem_cons_of_mem _ (List.mem_cons_of_mem _ (List.mem_cons_of_mem _ (List.mem_cons_of_mem _ (List.mem_cons_of_mem _ List.mem_cons_self)))))) | exact (List.mem_cons_of_mem _ (List.mem_cons_of_mem _ (List.mem_cons_of_mem _ (List.mem_cons_of_mem _ (List.mem_cons_of_mem _ (List.mem_cons_of_mem _ (List.mem_cons_of_mem _ List.mem_cons_self))))))))) fun y => ?_
  obtain ⟨y, hy⟩ := y
  simp only []
  repeat (first | (refine A1 ⟨?_⟩; intros) | (refine Wcx (xy_pu ((x : Int) - 4) ((y : Int) - 4) (by omega) (by omega) (by omega) (by omega)) ?_) | (refine Wdcx (xy_pu ((x : Int) - 4) ((y : Int) - 4) (by omega) (by omega) (by omega) (by omega)) ?_) | (refine Wcgx (xy_pu ((x : Int) - 4) ((y : Int) - 4) (by omega) (by omega) (by omega) (by omega)) ?_) | (refine Wdcgx (xy_pu ((x : Int) - 4) ((y : Int) - 4) (by omega) (by omega) (by omega) (by omega)) ?_))
  exact endMR () _ (end1 (RV.cellA rfl (by (first | exact List.mem_cons_self | exact (List.mem_cons_of_mem _ List.mem_cons_self) | exact (List.mem_cons_of_mem _ (List.mem_cons_of_mem _ List.mem_cons_self)) | exact (List.mem_cons_of_mem _ (List.mem_cons_of_mem _ (List.mem_cons_of_mem _ List.mem_cons_self))) | exact (List.mem_cons_of_mem _ (List.mem_cons_of_mem _ (List.mem_cons_of_mem _ (List.mem_cons_of_mem _ List.mem_cons_self)))) | exact (List.mem_cons_of_mem _ (List.mem_cons_of_mem _ (List.mem_cons_of_mem _ (List.mem_cons_of_mem _ (List.mem_cons_of_mem _ List.mem_cons_self))))) | exact (List.mem_cons_of_mem _ (List.mem_cons_of_mem _ (List.mem_cons_of_mem _ (List.mem_cons_of_mem _ (List.mem_cons_of_mem _ (List.mem_cons_of_mem _ List.mem_cons_self)))))) | exact (List.mem_cons_of_mem _ (List.mem_cons_of_mem _ (List.mem_cons_of_mem _ (List.mem_cons_of_mem _ (List.mem_cons_of_mem _ (List.mem_cons_of_mem _ (List.mem_cons_of_mem _ List.mem_cons_self))))))))) rfl rfl) (Le.ex ⟨((x : Int) - 4, (y : Int) - 4), by simp only; omega, by simp only; omega⟩ (Le.refl _))) (by (first | exact List.mem_cons_self | exact (List.mem_cons_of_mem _ List.mem_cons_self) | exact (List.mem_cons_of_mem _ (List.mem_cons_of_mem _ List.mem_cons_self)) | exact (List.mem_cons_of_mem _ (List.mem_cons_of_mem _ (List.mem_cons_of_mem _ List.mem_cons_self))) | exact (List.mem_cons_of_mem _ (List.mem_cons_of_mem _ (List.mem_cons_of_mem _ (List.mem_cons_of_mem _ List.mem_cons_self)))) | exact (List.mem_cons_of_mem _ (List.mem_cons_of_mem _ (List.mem_cons_of_mem _ (List.mem_cons_of_mem _ (List.mem_cons_of_mem _ List.mem_cons_self))))) | exact (List.mem_cons_of_mem _ (List.mem_cons_of_mem _ (List.mem_cons_of_mem _ (List.mem_cons_of_mem _ (List.mem_cons_of_mem _ (List.mem_cons_of_mem _ List.mem_cons_self)))))) | exact (List.mem_cons_of_mem _ (List.mem_cons_of_mem _ (List.mem_cons_of_mem _ (List.mem_cons_of_mem _ (List.mem_cons_of_mem _ (List.mem_cons_of_mem _ (List.mem_cons_of_mem _ List.mem_cons_self))))))))) (LeL.refl _)
theorem ht_i (z : Int) (h : z.natAbs ≤ 1000) : ht (z : Rat) ≤ 1 := ht_int z (by omega)
theorem leZP : LeL [ag [lit (.bool false), lit (.slice none 0 0), lit (.slice none 0 0), lit (.bool false), lit (.slice none 0 0), lit (.slice none 0 0)]] [rp 0 0] :=
  ⟨Le.ag (by repeat (first | exact trivial | refine ⟨?_, ?_⟩ | exact Le.refl _ | exact leN0 | exact leD0)), trivial⟩
theorem int_zero {z : Int} : ((z : Rat) = 0) ↔ z = 0 := by constructor <;> intro h <;> exact_mod_cast h
theorem tv_pu (zs : List Int) (hz : zs.length ≤ 400) : PuT 79 zs [] intV := by
  refine PuM.intro Tryz.func79 rfl (by kernel_rfl) fun C b => ?_
  repeat (refine A1 ⟨?_⟩; intros)
  refine Wtx (tp_pu zs hz) (by (first | exact List.mem_cons_self | exact (List.mem_cons_of_mem _ List.mem_cons_self) | exact (List.mem_cons_of_mem _ (List.mem_cons_of_mem _ List.mem_cons_self)) | exact (List.mem_cons_of_mem _ (List.mem_cons_of_mem _ (List.mem_cons_of_mem _ List.mem_cons_self))) | exact (List.mem_cons_of_mem _ (List.mem_cons_of_mem _ (List.mem_cons_of_mem _ (List.mem_cons_of_mem _ List.mem_cons_self)))) | exact (List.mem_cons_of_mem _ (List.mem_cons_of_mem _ (List.mem_cons_of_mem _ (List.mem_cons_of_mem _ (List.mem_cons_of_mem _ List.mem_cons_self))))) | exact (List.mem_cons_of_mem _ (List.mem_cons_of_mem _ (List.mem_cons_of_mem _ (List.mem_cons_of_mem _ (List.mem_cons_of_mem _ (List.mem_cons_of_mem _ List.mem_cons_self)))))) | exact (List.mem_cons_of_mem _ (List.mem_cons_of_mem _ (List.mem_cons_of_mem _ (List.mem_cons_of_mem _ (List.mem_cons_of_mem _ (List.mem_cons_of_mem _ (List.mem_cons_of_mem _ List.mem_cons_self))))))))) fun p => ?_
  obtain ⟨⟨x, y⟩, hx, hy⟩ := p
  simp only at hx hy
  simp only []
  have h0 := ht_zero
  have hx' := ht_i x (by omega)
  have hy' := ht_i y (by omega)
  have c1 := (rsame_pu x y 0 0 (by omega) (by omega) (by omega) (by omega)).arg (l' := [rp x y, ag [lit (.bool false), lit (.slice none 0 0), lit (.slice none 0 0), lit (.bool false), lit (.slice none 0 0), lit (.slice none 0 0)]]) ⟨Le.refl _, leZP⟩
  have c2 := xy_pu 1 0 (by omega) (by omega) (by omega) (by omega)
  by_cases h : x = 0 ∧ y = 0
  · rw [decide_eq_true (show (x : Rat) = 0 ∧ (y : Rat) = 0 from ⟨int_zero.2 h.1, int_zero.2 h.2⟩)] at c1
    clear h hx' hy' h0
    repeat (first | (refine A1 ⟨?_⟩; intros) | (refine Wcx (c1) ?_) | (refine Wdcx (c1) ?_) | (refine Wcgx (c1) ?_) | (refine Wdcgx (c1) ?_) | (refine Wcx (c2) ?_) | (refine Wdcx (c2) ?_) | (refine Wcgx (c2) ?_) | (refine Wdcgx (c2) ?_))
    exact endMR () _ (end1 (RV.cellA rfl (by (first | exact List.mem_cons_self | exact (List.mem_cons_of_mem _ List.mem_cons_self) | exact (List.mem_cons_of_mem _ (List.mem_cons_of_mem _ List.mem_cons_self)) | exact (List.mem_cons_of_mem _ (List.mem_cons_of_mem _ (List.mem_cons_of_mem _ List.mem_cons_self))) | exact (List.mem_cons_of_mem _ (List.mem_cons_of_mem _ (List.mem_cons_of_mem _ (List.mem_cons_of_mem _ List.mem_cons_self)))) | exact (List.mem_cons_of_mem _ (List.mem_cons_of_mem _ (List.mem_cons_of_mem _ (List.mem_cons_of_mem _ (List.mem_cons_of_mem _ List.mem_cons_self))))) | exact (List.mem_cons_of_mem _ (List.mem_cons_of_mem _ (List.mem_cons_of_mem _ (List.mem_cons_of_mem _ (List.mem_cons_of_mem _ (List.mem_cons_of_mem _ List.mem_cons_self)))))) | exact (List.mem_cons_of_mem _ (List.mem_cons_of_mem _ (List.mem_cons_of_mem _ (List.mem_cons_of_mem _ (List.mem_cons_of_mem _ (List.mem_cons_of_mem _ (List.mem_cons_of_mem _ List.mem_cons_self))))))))) rfl rfl) (Le.ex ⟨(1, 0), by decide, by decide⟩ (Le.refl _))) (by (first | exact List.mem_cons_self | exact (List.mem_cons_of_mem _ List.mem_cons_self) | exact (List.mem_cons_of_mem _ (List.mem_cons_of_mem _ List.mem_cons_self)) | exact (List.mem_cons_of_mem _ (List.mem_cons_of_mem _ (List.mem_cons_of_mem _ List.mem_cons_self))) | exact (List.mem_cons_of_mem _ (List.mem_cons_of_mem _ (List.mem_cons_of_mem _ (List.mem_cons_of_mem _ List.mem_cons_self)))) | exact (List.mem_cons_of_mem _ (List.mem_cons_of_mem _ (List.mem_cons_of_mem _ (List.mem_cons_of_mem _ (List.mem_cons_of_mem _ List.mem_cons_self))))) | exact (List.mem_cons_of_mem _ (List.mem_cons_of_mem _ (List.mem_cons_of_mem _ (List.mem_cons_of_mem _ (List.mem_cons_of_mem _ (List.mem_cons_of_mem _ List.mem_cons_self)))))) | exact (List.mem_cons_of_mem _ (List.mem_cons_of_mem _ (List.mem_cons_of_mem _ (List.mem_cons_of_mem _ (List.mem_cons_of_mem _ (List.mem_cons_of_mem _ (List.mem_cons_of_mem _ List.mem_cons_self))))))))) (LeL.refl _)
  · rw [decide_eq_false (show ¬((x : Rat) = 0 ∧ (y : Rat) = 0) from fun e => h ⟨int_zero.1 e.1, int_zero.1 e.2⟩)] at c1
    have hv : x ≠ 0 ∨ y ≠ 0 := by omega
    clear h hx' hy' h0
    repeat (first | (refine A1 ⟨?_⟩; intros) | (refine Wcx (c1) ?_) | (refine Wdcx (c1) ?_) | (refine Wcgx (c1) ?_) | (refine Wdcgx (c1) ?_) | (refine Wcx (c2) ?_) | (refine Wdcx (c2) ?_) | (refine Wcgx (c2) ?_) | (refine Wdcgx (c2) ?_))
    exact endMR () _ (end1 (RV.cellA rfl (by (first | exact List.mem_cons_self | exact (List.mem_cons_of_mem _ List.mem_cons_self) | exact (List.mem_cons_of_mem _ (List.mem_cons_of_mem _ List.mem_cons_self)) | exact (List.mem_cons_of_mem _ (List.mem_cons_of_mem _ (List.mem_cons_of_mem _ List.mem_cons_self))) | exact (List.mem_cons_of_mem _ (List.mem_cons_of_mem _ (List.mem_cons_of_mem _ (List.mem_cons_of_mem _ List.mem_cons_self)))) | exact (List.mem_cons_of_mem _ (List.mem_cons_of_mem _ (List.mem_cons_of_mem _ (List.mem_cons_of_mem _ (List.mem_cons_of_mem _ List.mem_cons_self))))) | exact (List.mem_cons_of_mem _ (List.mem_cons_of_mem _ (List.mem_cons_of_mem _ (List.mem_cons_of_mem _ (List.mem_cons_of_mem _ (List.mem_cons_of_mem _ List.mem_cons_self)))))) | exact (List.mem_cons_of_mem _ (List.mem_cons_of_mem _ (List.mem_cons_of_mem _ (List.mem_cons_of_mem _ (List.mem_cons_of_mem _ (List.mem_cons_of_mem _ (List.mem_cons_of_mem _ List.mem_cons_self))))))))) rfl rfl) (Le.ex ⟨(x, y), ⟨hx, hy⟩, hv⟩ (Le.refl _))) (by (first | exact List.mem_cons_self | exact (List.mem_cons_of_mem _ List.mem_cons_self) | exact (List.mem_cons_of_mem _ (List.mem_cons_of_mem _ List.mem_cons_self)) | exact (List.mem_cons_of_mem _ (List.mem_cons_of_mem _ (List.mem_cons_of_mem _ List.mem_cons_self))) | exact (List.mem_cons_of_mem _ (List.mem_cons_of_mem _ (List.mem_cons_of_mem _ (List.mem_cons_of_mem _ List.mem_cons_self)))) | exact (List.mem_cons_of_mem _ (List.mem_cons_of_mem _ (List.mem_cons_of_mem _ (List.mem_cons_of_mem _ (List.mem_cons_of_mem _ List.mem_cons_self))))) | exact (List.mem_cons_of_mem _ (List.mem_cons_of_mem _ (List.mem_cons_of_mem _ (List.mem_cons_of_mem _ (List.mem_cons_of_mem _ (List.mem_cons_of_mem _ List.mem_cons_self)))))) | exact (List.mem_cons_of_mem _ (List.mem_cons_of_mem _ (List.mem_cons_of_mem _ (List.mem_cons_of_mem _ (List.mem_cons_of_mem _ (List.mem_cons_of_mem _ (List.mem_cons_of_mem _ List.mem_cons_self))))))))) (LeL.refl _)
/-- a line with short coefficients -/
abbrev smallL : SV := ex fun l : { l : Li // l.ok ∧ l.le 1 } => lq l.1
theorem thr_int (x y u v : Int) : thr x y ((x : Rat) + 1 * u) ((y : Rat) + 1 * v) = prim ((-v : Int) : Rat) ((u : Int) : Rat) ((v * x - u * y : Int) : Rat) := by
  unfold thr
  push_cast
  congr 1 <;> grind
theorem il_le (z : Int) (h : z.natAbs ≤ 1000) : il z ≤ 1 := len_le (k := 1) (by simp; omega)
theorem mul_le4 {a b : Int} (ha : a.natAbs ≤ 4) (hb : b.natAbs ≤ 4) : (a * b).natAbs ≤ 16 := by rw [Int.natAbs_mul]; exact Nat.mul_le_mul ha hb
/-- the line through a point in a direction -/
theorem lthr_pu {x y u v : Int} (hx : x.natAbs ≤ 4) (hy : y.natAbs ≤ 4) (hu : u.natAbs ≤ 4) (hv : v.natAbs ≤ 4) (hne : u ≠ 0 ∨ v ≠ 0) :
    (∃ l : Li, l.ok ∧ l.le 1 ∧ l = thr x y ((x : Rat) + 1 * u) ((y : Rat) + 1 * v)) ∧ Pu Tryz.prog 78 [rp x y, rq 1, rp u v] (rp ((x : Rat) + 1 * u) ((y : Rat) + 1 * v)) ∧
    Pu Tryz.prog 77 [rp x y, rp ((x : Rat) + 1 * u) ((y : Rat) + 1 * v)] (Ab.tup [lq (thr x y ((x : Rat) + 1 * u) ((y : Rat) + 1 * v)), lit (.bool true)]) := by
  have hx' := ht_i x (by omega)
  have hy' := ht_i y (by omega)
  have hu' := ht_i u (by omega)
  have hv' := ht_i v (by omega)
  have h1 := ht_one
  have a := gadd_pu x y 1 u v (by omega) (by omega) (by omega) (by omega) (by omega)
  have k1 := ht_mul 1 (u : Rat)
  have k2 := ht_mul 1 (v : Rat)
  have k3 := ht_add (x : Rat) (1 * u)
  have k4 := ht_add (y : Rat) (1 * v)
  have t := through_pu (x := x) (y := y) (u := (x : Rat) + 1 * u) (v := (y : Rat) + 1 * v) (L := 10) (by omega) (by omega) (by omega) (by omega) (by omega) (by
    rw [show (x : Rat) + 1 * u - x = u from by grind, show (y : Rat) + 1 * v - y = v from by grind]
    rcases hne with h | h
    · exact .inl fun e => h (int_zero.1 e)
    · exact .inr fun e => h (int_zero.1 e))
  refine ⟨?_, a, t⟩
  rw [thr_int]
  have hne' : -v ≠ 0 ∨ u ≠ 0 := by omega
  have hm1 := mul_le4 hv hx
  have hm2 := mul_le4 hu hy
  have hok : (prim ((-v : Int) : Rat) ((u : Int) : Rat) ((v * x - u * y : Int) : Rat)).ok := prim_ok (by
    rcases hne' with h | h
    · exact .inl fun e => h (int_zero.1 e)
    · exact .inr fun e => h (int_zero.1 e))
  obtain ⟨q1, q2, q3⟩ := prim_abs (v * x - u * y) hne'
  generalize v * x = e1 at *
  generalize u * y = e2 at *
  exact ⟨_, hok, ⟨il_le _ (by omega), il_le _ (by omega), il_le _ (by omega)⟩, rfl⟩
theorem tl_pu (zs : List Int) (hz : zs.length ≤ 400) : PuT 25 zs [] smallL := by
  refine PuM.intro Tryz.func25 rfl (by kernel_rfl) fun C b => ?_
  repeat (refine A1 ⟨?_⟩; intros)
  refine Wtx (tp_pu zs hz) (by (first | exact List.mem_cons_self | exact (List.mem_cons_of_mem _ List.mem_cons_self) | exact (List.mem_cons_of_mem _ (List.mem_cons_of_mem _ List.mem_cons_self)) | exact (List.mem_cons_of_mem _ (List.mem_cons_of_mem _ (List.mem_cons_of_mem _ List.mem_cons_self))) | exact (List.mem_cons_of_mem _ (List.mem_cons_of_mem _ (List.mem_cons_of_mem _ (List.mem_cons_of_mem _ List.mem_cons_self)))) | exact (List.mem_cons_of_mem _ (List.mem_cons_of_mem _ (List.mem_cons_of_mem _ (List.mem_cons_of_mem _ (List.mem_cons_of_mem _ List.mem_cons_self))))) | exact (List.mem_cons_of_mem _ (List.mem_cons_of_mem _ (List.mem_cons_of_mem _ (List.mem_cons_of_mem _ (List.mem_cons_of_mem _ (List.mem_cons_of_mem _ List.mem_cons_self)))))) | exact (List.mem_cons_of_mem _ (List.mem_cons_of_mem _ (List.mem_cons_of_mem _ (List.mem_cons_of_mem _ (List.mem_cons_of_mem _ (List.mem_cons_of_mem _ (List.mem_cons_of_mem _ List.mem_cons_self))))))))) fun p => ?_
  obtain ⟨⟨x, y⟩, hx, hy⟩ := p
  simp only at hx hy
  simp only []
  have x0 : { p : Int × Int // (p.1.natAbs ≤ 4 ∧ p.2.natAbs ≤ 4) ∧ (p.1 ≠ 0 ∨ p.2 ≠ 0) } := ⟨(1, 0), by decide, by decide⟩
  repeat (first | (refine A1 ⟨?_⟩; intros) | (refine Wcx (rof1) ?_) | (refine Wdcx (rof1) ?_) | (refine Wcgx (rof1) ?_) | (refine Wdcgx (rof1) ?_))
  refine Wdo (ov_callT (tv_pu zs hz) rfl (by (first | exact List.mem_cons_self | exact (List.mem_cons_of_mem _ List.mem_cons_self) | exact (List.mem_cons_of_mem _ (List.mem_cons_of_mem _ List.mem_cons_self)) | exact (List.mem_cons_of_mem _ (List.mem_cons_of_mem _ (List.mem_cons_of_mem _ List.mem_cons_self))) | exact (List.mem_cons_of_mem _ (List.mem_cons_of_mem _ (List.mem_cons_of_mem _ (List.mem_cons_of_mem _ List.mem_cons_self)))) | exact (List.mem_cons_of_mem _ (List.mem_cons_of_mem _ (List.mem_cons_of_mem _ (List.mem_cons_of_mem _ (List.mem_cons_of_mem _ List.mem_cons_self))))) | exact (List.mem_cons_of_mem _ (List.mem_cons_of_mem _ (List.mem_cons_of_mem _ (List.mem_cons_of_mem _ (List.mem_cons_of_mem _ (List.mem_cons_of_mem _ List.mem_cons_self)))))) | exact (List.mem_cons_of_mem _ (List.mem_cons_of_mem _ (List.mem_cons_of_mem _ (List.mem_cons_of_mem _ (List.mem_cons_of_mem _ (List.mem_cons_of_mem _ (List.mem_cons_of_mem _ List.mem_cons_self)))))))))) ?_
  refine Wdc (Pu.exAt [rp x y, rq 1] [] x0 fun v => (lthr_pu hx hy v.2.1.1 v.2.1.2 v.2.2).2.1) ?_
  refine Wdc (Pu.exAt [rp x y] [] x0 fun v => (lthr_pu hx hy v.2.1.1 v.2.1.2 v.2.2).2.2) ?_
  refine Wdo (OpV.exd 15 x0 rfl fun v => Ov0) ?_
  refine Wdo (OpV.exd 8 x0 rfl fun v => Ov0) ?_
  refine Wdo (OpV.exc 8 x0 rfl fun v => Ov0) ?_
  repeat (refine A1 ⟨?_⟩; intros)
  refine WPL.exd (d := 16) rfl fun v => ?_
  obtain ⟨⟨l, hok, hle, e⟩, _⟩ := lthr_pu hx hy v.2.1.1 v.2.1.2 v.2.2
  rw [← e]
  repeat (refine A1 ⟨?_⟩; intros)
  exact endMR () _ (end1 (RV.cellA rfl (by (first | exact List.mem_cons_self | exact (List.mem_cons_of_mem _ List.mem_cons_self) | exact (List.mem_cons_of_mem _ (List.mem_cons_of_mem _ List.mem_cons_self)) | exact (List.mem_cons_of_mem _ (List.mem_cons_of_mem _ (List.mem_cons_of_mem _ List.mem_cons_self))) | exact (List.mem_cons_of_mem _ (List.mem_cons_of_mem _ (List.mem_cons_of_mem _ (List.mem_cons_of_mem _ List.mem_cons_self)))) | exact (List.mem_cons_of_mem _ (List.mem_cons_of_mem _ (List.mem_cons_of_mem _ (List.mem_cons_of_mem _ (List.mem_cons_of_mem _ List.mem_cons_self))))) | exact (List.mem_cons_of_mem _ (List.mem_cons_of_mem _ (List.mem_cons_of_mem _ (List.mem_cons_of_mem _ (List.mem_cons_of_mem _ (List.mem_cons_of_mem _ List.mem_cons_self)))))) | exact (List.mem_cons_of_mem _ (List.mem_cons_of_mem _ (List.mem_cons_of_mem _ (List.mem_cons_of_mem _ (List.mem_cons_of_mem _ (List.mem_cons_of_mem _ (List.mem_cons_of_mem _ List.mem_cons_self))))))))) rfl rfl) (Le.ex ⟨l, hok, hle⟩ (Le.refl _))) (by (first | exact List.mem_cons_self | exact (List.mem_cons_of_mem _ List.mem_cons_self) | exact (List.mem_cons_of_mem _ (List.mem_cons_of_mem _ List.mem_cons_self)) | exact (List.mem_cons_of_mem _ (List.mem_cons_of_mem _ (List.mem_cons_of_mem _ List.mem_cons_self))) | exact (List.mem_cons_of_mem _ (List.mem_cons_of_mem _ (List.mem_cons_of_mem _ (List.mem_cons_of_mem _ List.mem_cons_self)))) | exact (List.mem_cons_of_mem _ (List.mem_cons_of_mem _ (List.mem_cons_of_mem _ (List.mem_cons_of_mem _ (List.mem_cons_of_mem _ List.mem_cons_self))))) | exact (List.mem_cons_of_mem _ (List.mem_cons_of_mem _ (List.mem_cons_of_mem _ (List.mem_cons_of_mem _ (List.mem_cons_of_mem _ (List.mem_cons_of_mem _ List.mem_cons_self)))))) | exact (List.mem_cons_of_mem _ (List.mem_cons_of_mem _ (List.mem_cons_of_mem _ (List.mem_cons_of_mem _ (List.mem_cons_of_mem _ (List.mem_cons_of_mem _ (List.mem_cons_of_mem _ List.mem_cons_self))))))))) (LeL.refl _)
end Go.Ab
/- Trees of the reference: drawn from a tape; written as lists of nodes; compared. -/
namespace Go.Ab
open Go.Proofs
set_option linter.unusedSectionVars false
set_option linter.unusedVariables false
set_option linter.unusedSimpArgs false
variable [Base]
/-- the cells of a tree of the reference -/
def rc : Tr → List SV
  | .leaf i => [lit (.bool true), lit (.bool i), lit (.bool false), lit (.slice none 0 0), lit (.bool false), lit (.slice none 0 0), lit (.bool false), lit (.slice none 0 0), lit (.pointer none), lit (.pointer none)]
  | .node l a b => [lit (.bool false), lit (.bool false), lit (.bool (decide (l.a < 0))), nat l.a.natAbs, lit (.bool (decide (l.b < 0))), nat l.b.natAbs, lit (.bool (decide (l.c < 0))), nat l.c.natAbs, pt (rc a), pt (rc b)]
theorem rc_leaf (i : Bool) : rc (.leaf i) = [lit (.bool true), lit (.bool i), lit (.bool false), lit (.slice none 0 0), lit (.bool false), lit (.slice none 0 0), lit (.bool false), lit (.slice none 0 0), lit (.pointer none), lit (.pointer none)] := rfl
theorem rc_node (l : Li) (a b : Tr) : rc (.node l a b) = [lit (.bool false), lit (.bool false), lit (.bool (decide (l.a < 0))), nat l.a.natAbs, lit (.bool (decide (l.b < 0))), nat l.b.natAbs, lit (.bool (decide (l.c < 0))), nat l.c.natAbs, pt (rc a), pt (rc b)] := rfl
/-- a tree of the reference -/
abbrev rt (t : Tr) : SV := pt (rc t)
theorem rcode_pu (i : Bool) : Pu Tryz.prog 54 [lit (.bool i)] (rt (.leaf i)) := by
  unfold rt
  rw [rc_leaf]
  apply PuN.toPt (T := 126)
  refine PuN.intro Tryz.func54 rfl (by kernel_rfl) fun C => ?_
  repeat (refine A1 ⟨?_⟩; intros)
  exact endNwR _ _ (end1 (RV.tmp rfl) (Le.refl _)) (by (first | exact List.mem_cons_self | exact (List.mem_cons_of_mem _ List.mem_cons_self) | exact (List.mem_cons_of_mem _ (List.mem_cons_of_mem _ List.mem_cons_self)) | exact (List.mem_cons_of_mem _ (List.mem_cons_of_mem _ (List.mem_cons_of_mem _ List.mem_cons_self))) | exact (List.mem_cons_of_mem _ (List.mem_cons_of_mem _ (List.mem_cons_of_mem _ (List.mem_cons_of_mem _ List.mem_cons_self)))) | exact (List.mem_cons_of_mem _ (List.mem_cons_of_mem _ (List.mem_cons_of_mem _ (List.mem_cons_of_mem _ (List.mem_cons_of_mem _ List.mem_cons_self))))) | exact (List.mem_cons_of_mem _ (List.mem_cons_of_mem _ (List.mem_cons_of_mem _ (List.mem_cons_of_mem _ (List.mem_cons_of_mem _ (List.mem_cons_of_mem _ List.mem_cons_self)))))) | exact (List.mem_cons_of_mem _ (List.mem_cons_of_mem _ (List.mem_cons_of_mem _ (List.mem_cons_of_mem _ (List.mem_cons_of_mem _ (List.mem_cons_of_mem _ (List.mem_cons_of_mem _ List.mem_cons_self))))))))) (LeL.refl _)
/-- a tree with at most the given depth, of lines with short coefficients -/
abbrev smallT (d : Nat) : SV := ex fun t : { t : Tr // t.all (fun l => l.ok ∧ l.le 1) ∧ t.size < 2 ^ d } => rt t.1
theorem ttree_pu (zs : List Int) (hz : zs.length ≤ 400) : ∀ d : Nat, d ≤ 10 → PuT 14 zs [lit (.int .i64 (d : Int))] (smallT d)
  | 0, _ => by
    refine PuM.intro Tryz.func14 rfl (by kernel_rfl) fun C b => ?_
    repeat (refine A1 ⟨?_⟩; intros)
    refine Wtx (next_pu zs hz 2 (by omega) (by omega)) (by (first | exact List.mem_cons_self | exact (List.mem_cons_of_mem _ List.mem_cons_self) | exact (List.mem_cons_of_mem _ (List.mem_cons_of_mem _ List.mem_cons_self)) | exact (List.mem_cons_of_mem _ (List.mem_cons_of_mem _ (List.mem_cons_of_mem _ List.mem_cons_self))) | exact (List.mem_cons_of_mem _ (List.mem_cons_of_mem _ (List.mem_cons_of_mem _ (List.mem_cons_of_mem _ List.mem_cons_self)))) | exact (List.mem_cons_of_mem _ (List.mem_cons_of_mem _ (List.mem_cons_of_mem _ (List.mem_cons_of_mem _ (List.mem_cons_of_mem _ List.mem_cons_self))))) | exact (List.mem_cons_of_mem _ (List.mem_cons_of_mem _ (List.mem_cons_of_mem _ (List.mem_cons_of_mem _ (List.mem_cons_of_mem _ (List.mem_cons_of_mem _ List.mem_cons_self)))))) | exact (List.mem_cons_of_mem _ (List.mem_cons_of_mem _ (List.mem_cons_of_mem _ (List.mem_cons_of_mem _ (List.mem_cons_of_mem _ (List.mem_cons_of_mem _ (List.mem_cons_of_mem _ List.mem_cons_self))))))))) fun x => ?_
    obtain ⟨x, hx⟩ := x
    simp only []
    repeat (refine A1 ⟨?_⟩; intros)
    repeat (first | (refine A1 ⟨?_⟩; intros) | (refine Wcx (rcode_pu _) ?_) | (refine Wdcx (rcode_pu _) ?_) | (refine Wcgx (rcode_pu _) ?_) | (refine Wdcgx (rcode_pu _) ?_))
    exact endMR () _ (end1 (RV.tmp rfl) (Le.ex ⟨.leaf (decide ((x : Int) = 1)), trivial, Nat.lt_of_lt_of_le Nat.zero_lt_one (Nat.le_refl _)⟩ (Le.refl _))) (by (first | exact List.mem_cons_self | exact (List.mem_cons_of_mem _ List.mem_cons_self) | exact (List.mem_cons_of_mem _ (List.mem_cons_of_mem _ List.mem_cons_self)) | exact (List.mem_cons_of_mem _ (List.mem_cons_of_mem _ (List.mem_cons_of_mem _ List.mem_cons_self))) | exact (List.mem_cons_of_mem _ (List.mem_cons_of_mem _ (List.mem_cons_of_mem _ (List.mem_cons_of_mem _ List.mem_cons_self)))) | exact (List.mem_cons_of_mem _ (List.mem_cons_of_mem _ (List.mem_cons_of_mem _ (List.mem_cons_of_mem _ (List.mem_cons_of_mem _ List.mem_cons_self))))) | exact (List.mem_cons_of_mem _ (List.mem_cons_of_mem _ (List.mem_cons_of_mem _ (List.mem_cons_of_mem _ (List.mem_cons_of_mem _ (List.mem_cons_of_mem _ List.mem_cons_self)))))) | exact (List.mem_cons_of_mem _ (List.mem_cons_of_mem _ (List.mem_cons_of_mem _ (List.mem_cons_of_mem _ (List.mem_cons_of_mem _ (List.mem_cons_of_mem _ (List.mem_cons_of_mem _ List.mem_cons_self))))))))) (LeL.refl _)
  | d + 1, hd => by
    have ih := ttree_pu zs hz d (by omega)
    rw [show (d : Int) = ((d + 1 : Nat) : Int) - 1 from by omega] at ih
    have hp : 0 < 2 ^ d := Nat.pow_pos (by omega)
    have x0 : { t : Tr // t.all (fun l => l.ok ∧ l.le 1) ∧ t.size < 2 ^ d } := ⟨.leaf true, trivial, hp⟩
    refine PuM.intro Tryz.func14 rfl (by kernel_rfl) fun C b => ?_
    repeat (refine A1 ⟨?_⟩; intros)
    refine WgE ?_
    refine Wtx (next_pu zs hz 4 (by omega) (by omega)) (by (first | exact List.mem_cons_self | exact (List.mem_cons_of_mem _ List.mem_cons_self) | exact (List.mem_cons_of_mem _ (List.mem_cons_of_mem _ List.mem_cons_self)) | exact (List.mem_cons_of_mem _ (List.mem_cons_of_mem _ (List.mem_cons_of_mem _ List.mem_cons_self))) | exact (List.mem_cons_of_mem _ (List.mem_cons_of_mem _ (List.mem_cons_of_mem _ (List.mem_cons_of_mem _ List.mem_cons_self)))) | exact (List.mem_cons_of_mem _ (List.mem_cons_of_mem _ (List.mem_cons_of_mem _ (List.mem_cons_of_mem _ (List.mem_cons_of_mem _ List.mem_cons_self))))) | exact (List.mem_cons_of_mem _ (List.mem_cons_of_mem _ (List.mem_cons_of_mem _ (List.mem_cons_of_mem _ (List.mem_cons_of_mem _ (List.mem_cons_of_mem _ List.mem_cons_self)))))) | exact (List.mem_cons_of_mem _ (List.mem_cons_of_mem _ (List.mem_cons_of_mem _ (List.mem_cons_of_mem _ (List.mem_cons_of_mem _ (List.mem_cons_of_mem _ (List.mem_cons_of_mem _ List.mem_cons_self))))))))) fun k => ?_
    obtain ⟨k, hk⟩ := k
    simp only []
    by_cases hk0 : k = 0
    · subst hk0
      repeat (refine A1 ⟨?_⟩; intros)
      refine Wtx (next_pu zs hz 2 (by omega) (by omega)) (by (first | exact List.mem_cons_self | exact (List.mem_cons_of_mem _ List.mem_cons_self) | exact (List.mem_cons_of_mem _ (List.mem_cons_of_mem _ List.mem_cons_self)) | exact (List.mem_cons_of_mem _ (List.mem_cons_of_mem _ (List.mem_cons_of_mem _ List.mem_cons_self))) | exact (List.mem_cons_of_mem _ (List.mem_cons_of_mem _ (List.mem_cons_of_mem _ (List.mem_cons_of_mem _ List.mem_cons_self)))) | exact (List.mem_cons_of_mem _ (List.mem_cons_of_mem _ (List.mem_cons_of_mem _ (List.mem_cons_of_mem _ (List.mem_cons_of_mem _ List.mem_cons_self))))) | exact (List.mem_cons_of_mem _ (List.mem_cons_of_mem _ (List.mem_cons_of_mem _ (List.mem_cons_of_mem _ (List.mem_cons_of_mem _ (List.mem_cons_of_mem _ List.mem_cons_self)))))) | exact (List.mem_cons_of_mem _ (List.mem_cons_of_mem _ (List.mem_cons_of_mem _ (List.mem_cons_of_mem _ (List.mem_cons_of_mem _ (List.mem_cons_of_mem _ (List.mem_cons_of_mem _ List.mem_cons_self))))))))) fun x => ?_
      obtain ⟨x, hx⟩ := x
      simp only []
      repeat (refine A1 ⟨?_⟩; intros)
      repeat (first | (refine A1 ⟨?_⟩; intros) | (refine Wcx (rcode_pu _) ?_) | (refine Wdcx (rcode_pu _) ?_) | (refine Wcgx (rcode_pu _) ?_) | (refine Wdcgx (rcode_pu _) ?_))
      exact endMR () _ (end1 (RV.tmp rfl) (Le.ex ⟨.leaf (decide ((x : Int) = 1)), trivial, Nat.pow_pos (by omega)⟩ (Le.refl _))) (by (first | exact List.mem_cons_self | exact (List.mem_cons_of_mem _ List.mem_cons_self) | exact (List.mem_cons_of_mem _ (List.mem_cons_of_mem _ List.mem_cons_self)) | exact (List.mem_cons_of_mem _ (List.mem_cons_of_mem _ (List.mem_cons_of_mem _ List.mem_cons_self))) | exact (List.mem_cons_of_mem _ (List.mem_cons_of_mem _ (List.mem_cons_of_mem _ (List.mem_cons_of_mem _ List.mem_cons_self)))) | exact (List.mem_cons_of_mem _ (List.mem_cons_of_mem _ (List.mem_cons_of_mem _ (List.mem_cons_of_mem _ (List.mem_cons_of_mem _ List.mem_cons_self))))) | exact (List.mem_cons_of_mem _ (List.mem_cons_of_mem _ (List.mem_cons_of_mem _ (List.mem_cons_of_mem _ (List.mem_cons_of_mem _ (List.mem_cons_of_mem _ List.mem_cons_self)))))) | exact (List.mem_cons_of_mem _ (List.mem_cons_of_mem _ (List.mem_cons_of_mem _ (List.mem_cons_of_mem _ (List.mem_cons_of_mem _ (List.mem_cons_of_mem _ (List.mem_cons_of_mem _ List.mem_cons_self))))))))) (LeL.refl _)
    · repeat (refine A1 ⟨?_⟩; intros)
      refine Wtx (tl_pu zs hz) (by (first | exact List.mem_cons_self | exact (List.mem_cons_of_mem _ List.mem_cons_self) | exact (List.mem_cons_of_mem _ (List.mem_cons_of_mem _ List.mem_cons_self)) | exact (List.mem_cons_of_mem _ (List.mem_cons_of_mem _ (List.mem_cons_of_mem _ List.mem_cons_self))) | exact (List.mem_cons_of_mem _ (List.mem_cons_of_mem _ (List.mem_cons_of_mem _ (List.mem_cons_of_mem _ List.mem_cons_self)))) | exact (List.mem_cons_of_mem _ (List.mem_cons_of_mem _ (List.mem_cons_of_mem _ (List.mem_cons_of_mem _ (List.mem_cons_of_mem _ List.mem_cons_self))))) | exact (List.mem_cons_of_mem _ (List.mem_cons_of_mem _ (List.mem_cons_of_mem _ (List.mem_cons_of_mem _ (List.mem_cons_of_mem _ (List.mem_cons_of_mem _ List.mem_cons_self)))))) | exact (List.mem_cons_of_mem _ (List.mem_cons_of_mem _ (List.mem_cons_of_mem _ (List.mem_cons_of_mem _ (List.mem_cons_of_mem _ (List.mem_cons_of_mem _ (List.mem_cons_of_mem _ List.mem_cons_self))))))))) fun l => ?_
      obtain ⟨l, hok, hle⟩ := l
      simp only []
      repeat (refine A1 ⟨?_⟩; intros)
      refine Wtx ih (by (first | exact List.mem_cons_self | exact (List.mem_cons_of_mem _ List.mem_cons_self) | exact (List.mem_cons_of_mem _ (List.mem_cons_of_mem _ List.mem_cons_self)) | exact (List.mem_cons_of_mem _ (List.mem_cons_of_mem _ (List.mem_cons_of_mem _ List.mem_cons_self))) | exact (List.mem_cons_of_mem _ (List.mem_cons_of_mem _ (List.mem_cons_of_mem _ (List.mem_cons_of_mem _ List.mem_cons_self)))) | exact (List.mem_cons_of_mem _ (List.mem_cons_of_mem _ (List.mem_cons_of_mem _ (List.mem_cons_of_mem _ (List.mem_cons_of_mem _ List.mem_cons_self))))) | exact (List.mem_cons_of_mem _ (List.mem_cons_of_mem _ (List.mem_cons_of_mem _ (List.mem_cons_of_mem _ (List.mem_cons_of_mem _ (List.mem_cons_of_mem _ List.mem_cons_self)))))) | exact (List.mem_cons_of_mem _ (List.mem_cons_of_mem _ (List.mem_cons_of_mem _ (List.mem_cons_of_mem _ (List.mem_cons_of_mem _ (List.mem_cons_of_mem _ (List.mem_cons_of_mem _ List.mem_cons_self))))))))) fun a => ?_
      repeat (refine A1 ⟨?_⟩; intros)
      refine Wdo (ov_callT ih rfl (by (first | exact List.mem_cons_self | exact (List.mem_cons_of_mem _ List.mem_cons_self) | exact (List.mem_cons_of_mem _ (List.mem_cons_of_mem _ List.mem_cons_self)) | exact (List.mem_cons_of_mem _ (List.mem_cons_of_mem _ (List.mem_cons_of_mem _ List.mem_cons_self))) | exact (List.mem_cons_of_mem _ (List.mem_cons_of_mem _ (List.mem_cons_of_mem _ (List.mem_cons_of_mem _ List.mem_cons_self)))) | exact (List.mem_cons_of_mem _ (List.mem_cons_of_mem _ (List.mem_cons_of_mem _ (List.mem_cons_of_mem _ (List.mem_cons_of_mem _ List.mem_cons_self))))) | exact (List.mem_cons_of_mem _ (List.mem_cons_of_mem _ (List.mem_cons_of_mem _ (List.mem_cons_of_mem _ (List.mem_cons_of_mem _ (List.mem_cons_of_mem _ List.mem_cons_self)))))) | exact (List.mem_cons_of_mem _ (List.mem_cons_of_mem _ (List.mem_cons_of_mem _ (List.mem_cons_of_mem _ (List.mem_cons_of_mem _ (List.mem_cons_of_mem _ (List.mem_cons_of_mem _ List.mem_cons_self)))))))))) ?_
      refine Wdo (OpV.exd 29 x0 rfl fun v => Ov0) ?_
      refine Wdo (OpV.exd 30 x0 rfl fun v => ov_boxP (sv := ag (rc (.node l a.1 v.1))) rfl) ?_
      repeat (refine A1 ⟨?_⟩; intros)
      refine endMR () _ (end1 (RV.tmp (s := ex fun v : { t : Tr // t.all (fun l => l.ok ∧ l.le 1) ∧ t.size < 2 ^ d } => pt (rc (.node l a.1 v.1))) rfl) (Le.exL fun v => Le.ex ⟨.node l a.1 v.1, ⟨⟨hok, hle⟩, a.2.1, v.2.1⟩, ?_⟩ (Le.refl _))) (by (first | exact List.mem_cons_self | exact (List.mem_cons_of_mem _ List.mem_cons_self) | exact (List.mem_cons_of_mem _ (List.mem_cons_of_mem _ List.mem_cons_self)) | exact (List.mem_cons_of_mem _ (List.mem_cons_of_mem _ (List.mem_cons_of_mem _ List.mem_cons_self))) | exact (List.mem_cons_of_mem _ (List.mem_cons_of_mem _ (List.mem_cons_of_mem _ (List.mem_cons_of_mem _ List.mem_cons_self)))) | exact (List.mem_cons_of_mem _ (List.mem_cons_of_mem _ (List.mem_cons_of_mem _ (List.mem_cons_of_mem _ (List.mem_cons_of_mem _ List.mem_cons_self))))) | exact (List.mem_cons_of_mem _ (List.mem_cons_of_mem _ (List.mem_cons_of_mem _ (List.mem_cons_of_mem _ (List.mem_cons_of_mem _ (List.mem_cons_of_mem _ List.mem_cons_self)))))) | exact (List.mem_cons_of_mem _ (List.mem_cons_of_mem _ (List.mem_cons_of_mem _ (List.mem_cons_of_mem _ (List.mem_cons_of_mem _ (List.mem_cons_of_mem _ (List.mem_cons_of_mem _ List.mem_cons_self))))))))) (LeL.refl _)
      have h1 := a.2.2
      have h2 := v.2.2
      rw [Tr.size_node, Nat.pow_succ]
      omega
end Go.Ab
/- Trees of the reference, written as lists of nodes. -/
namespace Go.Ab
open Go.Proofs
set_option linter.unusedSectionVars false
set_option linter.unusedVariables false
set_option linter.unusedSimpArgs false
variable [Base]
theorem rwrite1_pu : ∀ (t : Tr) (_ : t.all fun l => l.le 1000000) (n0 : Nat) (cs : List SV) (s : SV) (Hs : LH) (_ : Own 158 8 n0 cs s Hs) (_ : n0 + t.size ≤ 1000000),
    PuH Tryz.prog 53 [rt t, s] Hs
      (fun r H => ∃ s', Own 158 8 (n0 + t.size) (cs ++ t.rows n0) s' H ∧ r = Ab.tup [s', lit (.int .i64 (t.root n0))]) noX := by
  intro t
  induction t with
  | leaf i =>
    intro _ n0 cs s Hs hown _
    have hfin : Own 158 8 (n0 + (Tr.leaf i).size) (cs ++ (Tr.leaf i).rows n0) s Hs := by
      simpa [Tr.size, Tr.rows] using hown
    unfold rt at *
    rw [rc_leaf] at *
    haveI := hown.co
    cases i with
    | true =>
      refine PuH.intro Tryz.func53 rfl (by kernel_rfl) fun C hC => ?_
      repeat (refine A1 ⟨?_⟩; intros)
      exact endHR _ _ (end2 (RV.tmp rfl) (RV.tmp rfl) (Le.refl _)) (List.Sublist.refl _) ⟨_, hfin, rfl⟩
    | false =>
      refine PuH.intro Tryz.func53 rfl (by kernel_rfl) fun C hC => ?_
      repeat (refine A1 ⟨?_⟩; intros)
      exact endHR _ _ (end2 (RV.tmp rfl) (RV.tmp rfl) (Le.refl _)) (List.Sublist.refl _) ⟨_, hfin, rfl⟩
  | node l a b iha ihb =>
    intro hall n0 cs s Hs hown hsz
    obtain ⟨hl, hla, hlb⟩ := hall
    have c2 := toL_pu l hl
    haveI := hown.co
    rw [Tr.size_node] at hsz
    unfold rt at *
    rw [rc_node] at *
    refine PuH.intro Tryz.func53 rfl (by kernel_rfl) fun C hC => ?_
    repeat (refine A1 ⟨?_⟩; intros)
    refine Wo (ov_lenOwn hown rfl) ?_
    repeat (first | (refine A1 ⟨?_⟩; intros) | (refine Wcx (c2) ?_) | (refine Wdcx (c2) ?_) | (refine Wcgx (c2) ?_) | (refine Wdcgx (c2) ?_))
    refine Wown hown (by omega) (fun s1 H1 o1 => ?_)
    have o1' := o1
    obtain ⟨_, ⟨h1, _⟩ | ⟨b1, k1, _, _, rfl, rfl⟩⟩ := o1
    · omega
    simp only [List.cons_append, List.nil_append]
    repeat (refine A1 ⟨?_⟩; intros)
    refine WfT (iha hla (n0 + 1) _ _ _ o1' (by omega)) ?_
    rintro _ _ ⟨s2, o2, rfl⟩
    have o2' := o2
    obtain ⟨_, ⟨h2, _⟩ | ⟨b2, k2, _, _, rfl, rfl⟩⟩ := o2
    · omega
    simp only [List.cons_append, List.nil_append]
    repeat (refine A1 ⟨?_⟩; intros)
    refine WfT (ihb hlb (n0 + 1 + a.size) _ _ _ o2' (by omega)) ?_
    rintro _ _ ⟨s3, o3, rfl⟩
    obtain ⟨hlen, ⟨h0, _⟩ | ⟨b3, c3, hc3, hm3, rfl, rfl⟩⟩ := o3
    · omega
    have hcl := hown.1
    simp only [List.append_assoc, List.cons_append, List.nil_append]
    repeat (refine A1 ⟨?_⟩; intros)
    refine WPL.store (b := b3) (o := 0 + n0 * 8 + 6) (sv := lit (.int .i64 (a.root (n0 + 1)))) rfl rfl rfl (.there _ (.here _)) (set_mid6 hcl) (ble_mid hcl (by decide)) ?_
    repeat (refine A1 ⟨?_⟩; intros)
    refine WPL.store (b := b3) (o := 0 + n0 * 8 + 7) (sv := lit (.int .i64 (b.root (n0 + 1 + a.size)))) rfl rfl rfl (.there _ (.here _)) (set_mid7 hcl) (ble_mid hcl (by decide)) ?_
    repeat (refine A1 ⟨?_⟩; intros)
    refine endHR _ _ (end2 (RV.tmp rfl) (RV.tmp rfl) (Le.refl _)) (List.Sublist.cons _ (List.Sublist.refl _)) ⟨lit (.slice (some ⟨b3, 0, none⟩) (n0 + 1 + a.size + b.size) c3), ⟨?_, .inr ⟨b3, c3, ?_, hm3, ?_, ?_⟩⟩, rfl⟩
    · rw [List.length_append, hown.1, Tr.rows_len, Nat.add_mul]
    · rw [Tr.size_node]; omega
    · rw [show n0 + (Tr.node l a b).size = n0 + 1 + a.size + b.size from by rw [Tr.size_node]; omega]
    · rw [show n0 + (Tr.node l a b).size = n0 + 1 + a.size + b.size from by rw [Tr.size_node]; omega]
      simp only [Tr.rows, nd, List.append_assoc, List.cons_append, List.nil_append]
theorem rwrite_pu (t : Tr) (hall : t.all fun l => l.le 1000000) (hsz : t.size ≤ 1000000) : Pu Tryz.prog 13 [rt t] (tq t) := by
  have c := rwrite1_pu t hall 0 [] _ [] (Own.nil 158 8) (by omega)
  refine Pu.intro Tryz.func13 rfl (by kernel_rfl) fun C => ?_
  repeat (refine A1 ⟨?_⟩; intros)
  refine WfT c ?_
  rintro _ _ ⟨s', ho, rfl⟩
  simp only [List.cons_append, List.nil_append, Nat.zero_add] at ho ⊢
  obtain ⟨hlen, ⟨h0, rfl, rfl⟩ | ⟨b, cc, h1, h2, rfl, rfl⟩⟩ := ho
  · have hr : t.rows 0 = [] := List.eq_nil_of_length_eq_zero (by rw [hlen, h0])
    have hle : Le (lit (.slice none 0 0)) (sl (t.rows 0) t.size) := fun m v hv => by
      rw [lit_p] at hv; subst hv; rw [hr, h0]
      exact sl_mk (Nat.le_refl _) (by decide) (.inl rfl)
    repeat (refine A1 ⟨?_⟩; intros)
    exact endR (end1 (RV.cellA (cs' := [lit (.int .i64 (t.root 0)), lit (.slice none 0 0)]) rfl (by (first | exact List.mem_cons_self | exact (List.mem_cons_of_mem _ List.mem_cons_self) | exact (List.mem_cons_of_mem _ (List.mem_cons_of_mem _ List.mem_cons_self)) | exact (List.mem_cons_of_mem _ (List.mem_cons_of_mem _ (List.mem_cons_of_mem _ List.mem_cons_self))) | exact (List.mem_cons_of_mem _ (List.mem_cons_of_mem _ (List.mem_cons_of_mem _ (List.mem_cons_of_mem _ List.mem_cons_self)))) | exact (List.mem_cons_of_mem _ (List.mem_cons_of_mem _ (List.mem_cons_of_mem _ (List.mem_cons_of_mem _ (List.mem_cons_of_mem _ List.mem_cons_self))))) | exact (List.mem_cons_of_mem _ (List.mem_cons_of_mem _ (List.mem_cons_of_mem _ (List.mem_cons_of_mem _ (List.mem_cons_of_mem _ (List.mem_cons_of_mem _ List.mem_cons_self)))))) | exact (List.mem_cons_of_mem _ (List.mem_cons_of_mem _ (List.mem_cons_of_mem _ (List.mem_cons_of_mem _ (List.mem_cons_of_mem _ (List.mem_cons_of_mem _ (List.mem_cons_of_mem _ List.mem_cons_self))))))))) rfl rfl) (Le.ag ⟨Le.refl _, hle, trivial⟩))
  · (refine O1 ⟨?_⟩; intros)
    (refine O1 ⟨?_⟩; intros)
    refine WPL.pub (d := 7) (s' := sl (t.rows 0) t.size) (.there _ (.there _ (.here _))) rfl (fun m arr hm ha => pub_own hm ha h1 h2) ?_
    repeat (refine A1 ⟨?_⟩; intros)
    ((first | refine endR ?_ | refine endN ?_); refine end1 (RV.cellA rfl (by (first | exact List.mem_cons_self | exact (List.mem_cons_of_mem _ List.mem_cons_self) | exact (List.mem_cons_of_mem _ (List.mem_cons_of_mem _ List.mem_cons_self)) | exact (List.mem_cons_of_mem _ (List.mem_cons_of_mem _ (List.mem_cons_of_mem _ List.mem_cons_self))) | exact (List.mem_cons_of_mem _ (List.mem_cons_of_mem _ (List.mem_cons_of_mem _ (List.mem_cons_of_mem _ List.mem_cons_self)))) | exact (List.mem_cons_of_mem _ (List.mem_cons_of_mem _ (List.mem_cons_of_mem _ (List.mem_cons_of_mem _ (List.mem_cons_of_mem _ List.mem_cons_self))))) | exact (List.mem_cons_of_mem _ (List.mem_cons_of_mem _ (List.mem_cons_of_mem _ (List.mem_cons_of_mem _ (List.mem_cons_of_mem _ (List.mem_cons_of_mem _ List.mem_cons_self)))))) | exact (List.mem_cons_of_mem _ (List.mem_cons_of_mem _ (List.mem_cons_of_mem _ (List.mem_cons_of_mem _ (List.mem_cons_of_mem _ (List.mem_cons_of_mem _ (List.mem_cons_of_mem _ List.mem_cons_self))))))))) (by (first | (simp only [List.drop_succ_cons, List.drop_zero, List.drop_nil, List.take_succ_cons, List.take_zero, List.take_nil, Nat.zero_add, Nat.add_zero, Nat.reduceAdd]; done) | (simp only [List.drop_succ_cons, List.drop_zero, List.drop_nil, List.take_succ_cons, List.take_zero, List.take_nil, Nat.zero_add, Nat.add_zero, Nat.reduceAdd]; exact rfl) | exact rfl)) rfl) (Le.refl _))
end Go.Ab
/- Trees as lists of nodes, compared. -/
namespace Go.Ab
open Go.Proofs
set_option linter.unusedSectionVars false
set_option linter.unusedVariables false
set_option linter.unusedSimpArgs false
variable [Base]
def Tr.nodes (k : Nat) : Tr → List (Li × Int × Int)
  | .leaf _ => []
  | .node l a b => (l, a.root (k + 1), b.root (k + 1 + a.size)) :: (a.nodes (k + 1) ++ b.nodes (k + 1 + a.size))
abbrev ndc (x : Li × Int × Int) : List SV := nd x.1 x.2.1 x.2.2
theorem ndc_len (x : Li × Int × Int) : (ndc x).length = 8 := rfl
theorem Tr.rows_nodes : ∀ (t : Tr) (k : Nat), t.rows k = ((t.nodes k).map ndc).flatten
  | .leaf _, _ => rfl
  | .node l a b, k => by
    simp only [Tr.rows, Tr.nodes, List.map_cons, List.map_append, List.flatten_cons, List.flatten_append, rows_nodes a, rows_nodes b, List.append_assoc]
theorem Tr.nodes_len : ∀ (t : Tr) (k : Nat), (t.nodes k).length = t.size
  | .leaf _, _ => rfl
  | .node _ a b, k => by simp only [Tr.nodes, Tr.size, List.length_cons, List.length_append, nodes_len a, nodes_len b]; omega
theorem Tr.nodes_all {p : Li → Prop} : ∀ (t : Tr) (k : Nat), t.all p → ∀ x ∈ t.nodes k, p x.1
  | .leaf _, _, _, _, hx => by cases hx
  | .node l a b, k, h, x, hx => by
    rcases List.mem_cons.1 hx with rfl | hx
    · exact h.1
    · rcases List.mem_append.1 hx with hx | hx
      · exact nodes_all a _ h.2.1 x hx
      · exact nodes_all b _ h.2.2 x hx
theorem sameN_l (r : Int) (ns : List (Li × Int × Int)) (hn : ∀ x ∈ ns, x.1.le 1000000) (hl : ns.length ≤ 1000000) :
    Pu Tryz.prog 24 [ag [lit (.int .i64 r), sl (ns.map ndc).flatten ns.length], ag [lit (.int .i64 r), sl (ns.map ndc).flatten ns.length]] (lit (.bool true)) := by
  refine Pu.intro Tryz.func24 rfl (by kernel_rfl) fun C => ?_
  repeat (refine A1 ⟨?_⟩; intros)
  rename_i b2 b3
  refine WP.loopS (ι := Nat) (fun k => k ≤ ns.length) (fun k => ns.length - k) (fun k => fm [(2, lit (.pointer (some ⟨b2, 0, none⟩))), (3, lit (.pointer (some ⟨b3, 0, none⟩))), (23, sl (ns.map ndc).flatten ns.length), (24, lit (.int .i64 ns.length)), (25, lit (.int .i64 k))])
    (fun _ => [(b3, 50, [lit (.int .i64 r), sl (ns.map ndc).flatten ns.length])]) 0 (Nat.zero_le _) (by (repeat (first | exact LeF.nil _ | refine LeF.cons (Le.refl _) ?_ | refine LeF.cons (Le.int (by omega)) ?_))) (List.Sublist.cons_cons _ (List.nil_sublist _)) ?_
  rintro k hk K hK
  by_cases hkl : k < ns.length
  · have hget := List.getElem?_eq_getElem hkl
    generalize ns[k] = x at hget
    have hmem : x ∈ ns := List.mem_of_getElem? hget
    have c1 := sameL_pu x.1 (hn x hmem)
    have hat := flat_at (f := ndc) (n := 8) ndc_len hget
    have hne : (ns.map ndc).flatten ≠ [] := flat_ne ndc_len (by omega) (fun e => by rw [e] at hkl; simp at hkl)
    obtain ⟨l, i, j⟩ := x
    clear hn hmem hget
    simp only [ndc, nd] at hat
    repeat (refine A1 ⟨?_⟩; intros)
    refine Wo (ov_idxS rfl rfl (by omega) (by omega) hat hne) ?_
    repeat (refine A1 ⟨?_⟩; intros)
    refine Wo (ov_idxS rfl rfl (by omega) (by omega) hat hne) ?_
    repeat (first | (refine A1 ⟨?_⟩; intros) | (refine Wcx (c1) ?_) | (refine Wdcx (c1) ?_) | (refine Wcgx (c1) ?_) | (refine Wdcgx (c1) ?_))
    exact hK _ _ (k + 1) (by omega) (by omega) (by (repeat (first | exact LeF.nil _ | refine LeF.cons (Le.refl _) ?_ | refine LeF.cons (Le.int (by omega)) ?_))) (List.Sublist.cons _ (List.Sublist.cons _ (List.Sublist.cons_cons _ (List.nil_sublist _))))
  · have hke : k = ns.length := by omega
    subst hke
    repeat (refine A1 ⟨?_⟩; intros)
    ((first | refine endR ?_ | refine endN ?_); exact end1 (RV.tmp rfl) (Le.refl _))
theorem sameT_pu (t : Tr) (hall : t.all fun l => l.le 1000000) (hsz : t.size ≤ 1000000) : Pu Tryz.prog 24 [tq t, tq t] (lit (.bool true)) := by
  have h := sameN_l (t.root 0) (t.nodes 0) (t.nodes_all 0 hall) (by rw [t.nodes_len]; exact hsz)
  rw [← t.rows_nodes, t.nodes_len] at h
  exact h
end Go.Ab
/- Drawn regions: a call over some blocks stands in the row. -/
namespace Go.Ab
open Go.Proofs
set_option linter.unusedSectionVars false
set_option linter.unusedVariables false
set_option linter.unusedSimpArgs false
variable [Base]
section
variable {P : Program} {C : Ctx} {n : Nat} {F Fe : Fr} {H : LH} {ops : Array Oper}
theorem wp_monoX {o : Oper} {a : Act} {w : World} {next : Act → World → Prop} {Q Q' : Exit → Act → World → Prop} (hp : ∀ c a w, Q' (.panic c) a w → Q (.panic c) a w) (ho : ∀ a w, Q' .outgrown a w → Q .outgrown a w) (h : o.wp P a w next Q') : o.wp P a w next Q := by
  unfold Oper.wp at *
  generalize (execOp a.eval o).run P w = r at *
  cases r with
  | ok n w' =>
    cases n <;> simp only [Oper.upon] at h ⊢ <;>
      first
        | exact h
        | exact Calls.mono h (fun e w'' he => by cases e <;> first | exact he | exact hp _ _ _ he | exact he.imp fun a h => h.imp fun w h => ho a w h)
  | halt x w' => cases x <;> simp only [Oper.upon] at h ⊢ <;> first | exact hp _ _ _ h | exact h
theorem TS.ofWPL {i : Nat} {o : Oper} {sv : SV} {H' : LH} (ho : ops[i]? = some o) (h : ∀ F, (∀ t, t ∈ o.looksAt ops → Fe t = F t) → WPL P ⟨C.ks, C.m, C.w, noX⟩ n ops [o] (fun F' H2 => F' = dstf o F sv ∧ H2 = H') F H) : TS P C n ops i o Fe H sv H' := by
  intro F hF a w hst Q' K' hK'
  have h1 := h F hF
  unfold WPL at h1
  have h2 := h1 a w hst (fun e a w => match e with
    | .normal => K' a w
    | .panic c => Q' (.panic c) a w
    | .outgrown => Q' .outgrown a w
    | _ => False) ⟨fun a' w' F' H2 hs' hk => by
      obtain ⟨rfl, rfl⟩ := hk
      exact hK' a' w' hs', fun ch a' w' hp => by obtain ⟨_, _, _, _, _, _, _, _, _, _, _, hf⟩ := hp; exact hf.elim⟩
  unfold wpOp
  simp only [ho]
  unfold wpList at h2
  split
  · rename_i hw
    rw [if_pos hw] at h2
    rcases h2 with h2 | h2
    · exact .inl (wp_monoX (fun _ _ _ h => h) (fun _ _ h => h) h2)
    · exact .inr ⟨h2.1, h2.2⟩
  · rename_i hw
    rw [if_neg hw] at h2
    exact h2
theorem TS.callH {i d : Nat} {f : FuncId} {l : List Operand} {tys : Array TypeId} {ty : TypeId} {pos : String} {aft : Array Edge} {svs : List SV} {Hin Hout Rs : LH} {res : SV} (ho : ops[i]? = some ⟨some d, .call ⟨.value (.func f), l.toArray, tys⟩, ty, pos, aft, none⟩) (hd : Nat.blt d n = true)
    (hc : PuH P f svs Hin (fun r H => r = res ∧ H = Hout) noX) (hs : Tk H Hin Rs) (ha : l.map (ev Fe) = svs) : TS P C n ops i ⟨some d, .call ⟨.value (.func f), l.toArray, tys⟩, ty, pos, aft, none⟩ Fe H res (Rs ++ Hout) := by
  refine TS.ofWPL ho fun F hF => ?_
  refine WfT hc ?_ ?_ hs hd
  · rintro _ _ ⟨rfl, rfl⟩
    exact WPL.nil ⟨rfl, rfl⟩
  · rw [← ha]
    refine List.map_congr_left fun x hx => ?_
    exact ev_looks (by simp [Op.operands, Call.operands, hx]) hF
/-- a call in the row -/
theorem Gc {k q i d : Nat} {late : List NO'} {K : Fr → LH → Prop} {r : List Oper} {f : FuncId} {l : List Operand} {tys : Array TypeId} {ty : TypeId} {pos : String} {aft : Array Edge} {svs : List SV} {Hin Hout Rs : LH} {res : SV}
    (hc : PuH P f svs Hin (fun r H => r = res ∧ H = Hout) noX) (hs : Tk H Hin Rs) (hl : LOk P ops k q n H F late) (h : Stg P C n ops k q late K (i + 1) r (upd F d res) (Rs ++ Hout))
    (ha : l.map (ev F) = svs := by exact rfl) (ho : ops[i]? = some ⟨some d, .call ⟨.value (.func f), l.toArray, tys⟩, ty, pos, aft, none⟩ := by exact rfl) (hd : Nat.blt d n = true := by exact rfl) :
    Stg P C n ops k q late K i (⟨some d, .call ⟨.value (.func f), l.toArray, tys⟩, ty, pos, aft, none⟩ :: r) F H := ⟨hl, res, Rs ++ Hout, TS.callH ho hd hc hs ha, h⟩
end
end Go.Ab
/- Package bsp: a list of nodes, read as a tree. -/
namespace Go.Ab
open Go.Proofs
set_option linter.unusedSectionVars false
set_option linter.unusedVariables false
set_option linter.unusedSimpArgs false
variable [Base]
theorem Tr.root_node (k : Nat) (l : Li) (a b : Tr) : (Tr.node l a b).root k = k := rfl
/-- k of n marks are set -/
def marks (k n : Nat) : List SV := List.replicate k (lit (.bool true)) ++ List.replicate (n - k) (lit (.bool false))
theorem marks_len {k n : Nat} (h : k ≤ n) : (marks k n).length = n := by unfold marks; simp; omega
theorem marks_set {k n : Nat} (h : k < n) : (marks k n).set k (lit (.bool true)) = marks (k + 1) n := by
  unfold marks
  rw [List.set_append_right _ _ (by simp), List.length_replicate, Nat.sub_self, show n - k = (n - (k + 1)) + 1 from by omega, List.replicate_succ, List.set_cons_zero, List.replicate_succ', List.append_assoc]
  rfl
theorem marks_get {k n : Nat} (h : k < n) : (marks k n)[k]? = some (lit (.bool false)) := by
  unfold marks
  rw [List.getElem?_append_right (by simp), List.length_replicate, Nat.sub_self, show n - k = (n - (k + 1)) + 1 from by omega, List.replicate_succ]
  rfl
/-- the nodes of t stand in the list from number k on -/
def At (all : List SV) (k : Nat) (t : Tr) : Prop := (all.drop (k * 8)).take (t.size * 8) = t.rows k
theorem At.node {all : List SV} {k : Nat} {l : Li} {a b : Tr} (h : At all k (.node l a b)) : (all.drop (k * 8)).take 8 = nd l (a.root (k + 1)) (b.root (k + 1 + a.size)) ∧ At all (k + 1) a ∧ At all (k + 1 + a.size) b := by
  unfold At at h ⊢
  rw [Tr.size_node] at h
  simp only [Tr.rows] at h
  have hn : (nd l (a.root (k + 1)) (b.root (k + 1 + a.size))).length = 8 := rfl
  have h1 := congrArg (List.take 8) h
  rw [List.take_take, Nat.min_eq_left (by omega), List.append_assoc, List.take_left' hn] at h1
  have h2 := congrArg (List.drop 8) h
  rw [List.drop_take, List.drop_drop, List.append_assoc, List.drop_left' hn] at h2
  rw [show k * 8 + 8 = (k + 1) * 8 from by omega, show (1 + a.size + b.size) * 8 - 8 = a.size * 8 + b.size * 8 from by omega] at h2
  have ha := Tr.rows_len a (k + 1)
  have h3 := congrArg (List.take (a.size * 8)) h2
  rw [List.take_take, Nat.min_eq_left (by omega), List.take_left' ha] at h3
  have h4 := congrArg (List.drop (a.size * 8)) h2
  rw [List.drop_take, List.drop_drop, List.drop_left' ha] at h4
  rw [show (k + 1) * 8 + a.size * 8 = (k + 1 + a.size) * 8 from by omega, Nat.add_sub_cancel_left] at h4
  exact ⟨h1, h3, h4⟩
/-- the reader: its nodes, its marks, its count -/
abbrev rdC (all : List SV) (n s k : Nat) : List SV := [sl all n, lit (.slice (some ⟨s, 0, none⟩) n n), lit (.int .i64 (k : Int)), lit (.bool false)]
theorem part_pu : ∀ (t : Tr) (_ : t.all fun l => l.ok ∧ l.le 100000) (all : List SV) (n k r s : Nat) (_ : At all k t) (_ : k + t.size ≤ n) (_ : n ≤ 1000000) (_ : all.length = n * 8),
    PuH Tryz.prog 130 [lit (.pointer (some ⟨r, 0, none⟩)), lit (.int .i64 (t.root k))] [(r, 216, rdC all n s k), (s, 4, marks k n)]
      (fun res H => res = bt t ∧ H = [(r, 216, rdC all n s (k + t.size)), (s, 4, marks (k + t.size) n)]) noX := by
  intro t
  induction t with
  | leaf i =>
    intro _ all n k r s _ _ _ _
    have c1 := leaf_pu i
    cases i with
    | true =>
      simp only [Tr.root]
      refine PuH.intro Tryz.func130 rfl (by kernel_rfl) fun C hC => ?_
      repeat (first | (refine A1 ⟨?_⟩; intros) | (refine Wcx (c1) ?_) | (refine Wdcx (c1) ?_) | (refine Wcgx (c1) ?_) | (refine Wdcgx (c1) ?_))
      exact endHR _ _ (end1 (RV.tmp rfl) (Le.refl _)) (List.Sublist.refl _) ⟨rfl, rfl⟩
    | false =>
      simp only [Tr.root]
      refine PuH.intro Tryz.func130 rfl (by kernel_rfl) fun C hC => ?_
      repeat (first | (refine A1 ⟨?_⟩; intros) | (refine Wcx (c1) ?_) | (refine Wdcx (c1) ?_) | (refine Wcgx (c1) ?_) | (refine Wdcgx (c1) ?_))
      exact endHR _ _ (end1 (RV.tmp rfl) (Le.refl _)) (List.Sublist.refl _) ⟨rfl, rfl⟩
  | node l a b iha ihb =>
    intro hall all n k r s hat hkn hn hlen
    obtain ⟨⟨hok, hle⟩, hla, hlb⟩ := hall
    obtain ⟨h1, hA, hB⟩ := hat.node
    rw [Tr.size_node] at hkn
    have c2 := lnOf_pu hok hle
    have hg := marks_get (k := k) (n := n) (by omega)
    have hs : spl (marks k n) k [lit (.bool true)] = marks (k + 1) n := by simp only [spl]; exact marks_set (by omega)
    simp only [nd] at h1
    have hml := marks_len (k := k) (n := n) (by omega)
    have hne : all ≠ [] := fun e => by rw [e] at hlen; simp at hlen; omega
    simp only [Tr.root]
    refine PuH.intro Tryz.func130 rfl (by kernel_rfl) fun C hC => ?_
    repeat (refine A1 ⟨?_⟩; intros)
    refine WgE ?_
    refine Wo (ov_loadL rfl (by (first | exact List.mem_cons_self | exact (List.mem_cons_of_mem _ List.mem_cons_self) | exact (List.mem_cons_of_mem _ (List.mem_cons_of_mem _ List.mem_cons_self)) | exact (List.mem_cons_of_mem _ (List.mem_cons_of_mem _ (List.mem_cons_of_mem _ List.mem_cons_self))) | exact (List.mem_cons_of_mem _ (List.mem_cons_of_mem _ (List.mem_cons_of_mem _ (List.mem_cons_of_mem _ List.mem_cons_self)))) | exact (List.mem_cons_of_mem _ (List.mem_cons_of_mem _ (List.mem_cons_of_mem _ (List.mem_cons_of_mem _ (List.mem_cons_of_mem _ List.mem_cons_self))))) | exact (List.mem_cons_of_mem _ (List.mem_cons_of_mem _ (List.mem_cons_of_mem _ (List.mem_cons_of_mem _ (List.mem_cons_of_mem _ (List.mem_cons_of_mem _ List.mem_cons_self)))))) | exact (List.mem_cons_of_mem _ (List.mem_cons_of_mem _ (List.mem_cons_of_mem _ (List.mem_cons_of_mem _ (List.mem_cons_of_mem _ (List.mem_cons_of_mem _ (List.mem_cons_of_mem _ List.mem_cons_self))))))))) hg) ?_
    repeat (refine A1 ⟨?_⟩; intros)
    refine WPL.store (b := s) (o := k) (sv := lit (.bool true)) (cs' := marks (k + 1) n) rfl rfl rfl (.there _ (.here _)) hs (by rw [Nat.ble_eq, hml]; omega) ?_
    repeat (refine A1 ⟨?_⟩; intros)
    refine Wo (ov_idxS rfl rfl (by omega) (by omega) h1 hne) ?_
    repeat (first | (refine A1 ⟨?_⟩; intros) | (refine Wcx (c2) ?_) | (refine Wdcx (c2) ?_) | (refine Wcgx (c2) ?_) | (refine Wdcgx (c2) ?_))
    refine WfT (iha hla all n (k + 1) r s hA (by omega) hn hlen) ?_
    rintro _ _ ⟨rfl, rfl⟩
    simp only [List.cons_append, List.nil_append]
    repeat (first | (refine AS ⟨?_⟩; intros) | (refine O1 ⟨?_⟩; intros) | (refine Wcx (c2) ?_) | (refine Wcgx (c2) ?_))
    refine WdL 5 1 ?_
    repeat (refine A1 ⟨?_⟩; intros)
    refine dL0 ?_
    have c3 := ihb hlb all n (k + 1 + a.size) r s hB (by omega) hn hlen
    have c4 := bnew_pu l a b
    refine Gc c3 (.skip _ (.skip _ (.same _))) ?_ ?_
    · (repeat (first | exact LOk.nil | refine Lsk ?_ | refine Lcv ?_))
    simp only [List.cons_append, List.nil_append]
    refine Gn ?_ ?_
    · (repeat (first | exact LOk.nil | refine Lsk ?_ | refine Lcv ?_))
    repeat (first | (refine A1 ⟨?_⟩; intros) | (refine Wcx (c4) ?_) | (refine Wdcx (c4) ?_) | (refine Wcgx (c4) ?_) | (refine Wdcgx (c4) ?_))
    rw [show k + 1 + a.size + b.size = k + (Tr.node l a b).size from by rw [Tr.size_node]; omega]
    exact endHR _ _ (end1 (RV.tmp rfl) (Le.refl _)) (List.Sublist.cons _ (List.Sublist.cons _ (List.Sublist.refl _))) ⟨rfl, rfl⟩
theorem At.all (t : Tr) : At (t.rows 0) 0 t := by
  unfold At
  rw [Nat.zero_mul, List.drop_zero, ← Tr.rows_len t 0, List.take_length]
theorem bof_pu (t : Tr) (hall : t.all fun l => l.ok ∧ l.le 100000) (hsz : t.size ≤ 60000) : Pu Tryz.prog 73 [tq t] (Ab.tup [bt t, lit (.bool true)]) := by
  have c := fun r s => part_pu t hall (t.rows 0) t.size 0 r s (At.all t) (by omega) (by omega) (t.rows_len 0)
  simp only [Nat.zero_add] at c
  refine Pu.intro Tryz.func73 rfl (by kernel_rfl) fun C => ?_
  repeat (first | (refine AS ⟨?_⟩; intros) | (refine O1 ⟨?_⟩; intros) | (refine Wcx (leaf_pu true) ?_) | (refine Wcgx (leaf_pu true) ?_))
  refine WdN 6 ?_
  repeat (refine A1 ⟨?_⟩; intros)
  refine Wdnew (nk_make rfl rfl (by omega) (by omega)) ?_
  repeat (refine A1 ⟨?_⟩; intros)
  rename_i b1 s r
  refine WfT (c r s) ?_
  rintro _ _ ⟨rfl, rfl⟩
  simp only [List.cons_append, List.nil_append]
  repeat (refine A1 ⟨?_⟩; intros)
  ((first | refine endR ?_ | refine endN ?_); exact end2 (RV.tmp rfl) (RV.tmp rfl) (Le.refl _))
end Go.Ab
