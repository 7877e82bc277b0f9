/- Texts laid one behind the other: AffC, LnC, RLn, Ex, TapeB, ExTape, RowC, Parens. -/
import Derived.Test.YtijejidpcfgioaaGreatDoorB11
import Derived.Test.YtijejidpcfgioaaGreatDoorB14
import Derived.Test.YtijejidpcfgioaaGreatDoorB03
import Derived.Test.YtijejidpcfgioaaGreatDoorB21
import Derived.Test.YtijejidpcfgioaaGreatDoorB04
import Derived.Test.YtijejidpcfgioaaGreatDoorB13
import Derived.Test.YtijejidpcfgioaaGreatDoorB17
import Derived.Test.YtijejidpcfgioaaGreatDoorB15
/- Package affine: Invert; the reference's After, Invert. -/
namespace Go.Ab
open Go.Proofs
set_option linter.unusedSectionVars false
set_option linter.unusedVariables false
set_option linter.unusedSimpArgs false
variable [Base]
end Go.Ab
/- Packages geo, affine: lines made, lines read, images of lines. -/
namespace Go.Ab
open Go.Proofs
set_option linter.unusedSectionVars false
set_option linter.unusedVariables false
set_option linter.unusedSimpArgs false
variable [Base]
end Go.Ab
/- The reference of layers 4 and 5: lines. -/
namespace Go.Ab
open Go.Proofs
set_option linter.unusedSectionVars false
set_option linter.unusedVariables false
set_option linter.unusedSimpArgs false
variable [Base]
end Go.Ab
/- Values of which only the kind is known, in regions that draw their order. -/
namespace Go.Ab
open Go.Proofs
set_option linter.unusedSectionVars false
set_option linter.unusedVariables false
set_option linter.unusedSimpArgs false
variable [Base]
section
variable {P : Program} {F : Fr} {H : LH} {ty : TypeId}
theorem ArgsOk.exAt {m : Mem} {α : Type} {g : α → SV} : ∀ {pre post : List SV} {vs : List Value}, ArgsOk m (pre ++ ex g :: post) vs → ∃ x, ArgsOk m (pre ++ g x :: post) vs
  | [], _, [], h => h.elim
  | [], _, v :: vs, h => by
    have h1 := h.1
    unfold ex at h1
    obtain ⟨x, hx⟩ := h1
    exact ⟨x, hx, h.2⟩
  | _ :: _, _, [], h => h.elim
  | s :: pre, post, v :: vs, h => by
    obtain ⟨x, hx⟩ := ArgsOk.exAt (pre := pre) (post := post) h.2
    exact ⟨x, h.1, hx⟩
theorem ex_mk {α : Type} {m : Mem} {v : Value} {g : α → SV} (x : α) (h : (g x).p m v) : (ex g).p m v := by unfold ex; exact ⟨x, h⟩
/-- a function over a value of which only the kind is known -/
theorem Pu.exAt {f : FuncId} {α : Type} (pre post : List SV) {g r : α → SV} (x0 : α) (h : ∀ x, Pu P f (pre ++ g x :: post) (r x)) : Pu P f (pre ++ ex g :: post) (ex r) := by
  unfold Pu at *
  exact ⟨(h x0).1, fun m w vs hm ha => by
    obtain ⟨x, hx⟩ := ha.exAt
    exact ((h x).2 m w vs hm hx).mono fun _ _ ⟨v, m', e, hp, k⟩ => ⟨v, m', e, ex_mk x hp, k⟩⟩
/-- .. that makes no difference to the result -/
theorem Pu.exAt' {f : FuncId} {α : Type} (pre post : List SV) {g : α → SV} {r : SV} (x0 : α) (h : ∀ x, Pu P f (pre ++ g x :: post) r) : Pu P f (pre ++ ex g :: post) r := by
  unfold Pu at *
  exact ⟨(h x0).1, fun m w vs hm ha => by
    obtain ⟨x, hx⟩ := ha.exAt
    exact (h x).2 m w vs hm hx⟩
theorem OpV.mono' {op : Op} {s s' : SV} (h : OpV P op ty F H s) (k : Le s s') : OpV P op ty F H s' := by
  unfold OpV at *
  exact fun m w o a ho hty h1 h2 h3 K Q hK => h m w o a ho hty h1 h2 h3 K Q fun v m' w' hp => hK v m' w' (k _ _ hp)
theorem OpV.exc {op : Op} {α : Type} (t : Nat) {f : α → SV} {s : SV} (x0 : α) (hf : F t = ex f) (h : ∀ x, OpV P op ty (upd F t (f x)) H s) : OpV P op ty F H s := by
    unfold OpV at *
    intro m w o a ho hty h1 h2 h3 K Q hK
    have key : ∃ x : α, (.tmp t ∈ op.operands → (f x).p m (a.eval (.tmp t))) := by
      by_cases ht : .tmp t ∈ op.operands
      · have h0 := h3 t ht
        rw [hf] at h0
        unfold ex at h0
        obtain ⟨x, hx⟩ := h0
        exact ⟨x, fun _ => hx⟩
      · exact ⟨x0, fun k => (ht k).elim⟩
    obtain ⟨x, hx⟩ := key
    refine h x m w o a ho hty h1 h2 (fun t' ht' => ?_) K Q hK
    by_cases e : t' = t
    · subst e; rw [upd_eq]; exact hx ht'
    · rw [upd_ne e]; exact h3 t' ht'
/-- an operation over a value of which only the kind is known -/
theorem OpV.exd {op : Op} {α : Type} (t : Nat) {f g : α → SV} (x0 : α) (hf : F t = ex f) (h : ∀ x, OpV P op ty (upd F t (f x)) H (g x)) : OpV P op ty F H (ex g) :=
  OpV.exc t x0 hf fun x => (h x).mono' fun _ _ hp => ex_mk x hp
end
end Go.Ab
/- The scenes' tape: points, vectors, lines, trees. -/
namespace Go.Ab
open Go.Proofs
set_option linter.unusedSectionVars false
set_option linter.unusedVariables false
set_option linter.unusedSimpArgs false
variable [Base]
theorem rsame_pu (x y u v : Rat) (hx : ht x ≤ 3000000) (hy : ht y ≤ 3000000) (hu : ht u ≤ 3000000) (hv : ht v ≤ 3000000) : Pu Tryz.prog 101 [rp x y, rp u v] (lit (.bool (decide (x = u ∧ y = v)))) := by
  have c1 := rc_pu x u hx hu
  have c2 := rc_pu y v hy hv
  have e1 := sub_sign_zero (x := x) (y := u)
  have e2 := sub_sign_zero (x := y) (y := v)
  generalize (x - u).num.sign = s at *
  generalize (y - v).num.sign = t at *
  clear hx hy hu hv
  by_cases h1 : x = u
  · have hs := e1.2 h1
    by_cases h2 : y = v
    · have ht := e2.2 h2
      rw [decide_eq_true ⟨h1, h2⟩]
      clear e1 e2
      subst hs ht
      refine Pu.intro Tryz.func101 rfl (by kernel_rfl) fun C => ?_
      repeat (first | (refine A1 ⟨?_⟩; intros) | (refine Wcx (c1) ?_) | (refine Wdcx (c1) ?_) | (refine Wcgx (c1) ?_) | (refine Wdcgx (c1) ?_) | (refine Wcx (c2) ?_) | (refine Wdcx (c2) ?_) | (refine Wcgx (c2) ?_) | (refine Wdcgx (c2) ?_))
      ((first | refine endR ?_ | refine endN ?_); exact end1 (RV.tmp rfl) (Le.refl _))
    · have ht : t ≠ 0 := fun e => h2 (e2.1 e)
      rw [decide_eq_false (fun h => h2 h.2)]
      clear e1 e2
      subst hs
      refine Pu.intro Tryz.func101 rfl (by kernel_rfl) fun C => ?_
      repeat (first | (refine A1 ⟨?_⟩; intros) | (refine Wcx (c1) ?_) | (refine Wdcx (c1) ?_) | (refine Wcgx (c1) ?_) | (refine Wdcgx (c1) ?_) | (refine Wcx (c2) ?_) | (refine Wdcx (c2) ?_) | (refine Wcgx (c2) ?_) | (refine Wdcgx (c2) ?_))
      ((first | refine endR ?_ | refine endN ?_); exact end1 (RV.tmp rfl) (Le.refl _))
  · have hs : s ≠ 0 := fun e => h1 (e1.1 e)
    rw [decide_eq_false (fun h => h1 h.1)]
    clear e1 e2
    refine Pu.intro Tryz.func101 rfl (by kernel_rfl) fun C => ?_
    repeat (first | (refine A1 ⟨?_⟩; intros) | (refine Wcx (c1) ?_) | (refine Wdcx (c1) ?_) | (refine Wcgx (c1) ?_) | (refine Wdcgx (c1) ?_) | (refine Wcx (c2) ?_) | (refine Wdcx (c2) ?_) | (refine Wcgx (c2) ?_) | (refine Wdcgx (c2) ?_))
    ((first | refine endR ?_ | refine endN ?_); exact end1 (RV.tmp rfl) (Le.refl _))
/-- a point with small integer coordinates -/
abbrev intP : SV := ex fun p : { p : Int × Int // p.1.natAbs ≤ 4 ∧ p.2.natAbs ≤ 4 } => rp (p.1.1 : Rat) (p.1.2 : Rat)
/-- such a vector other than 0 -/
abbrev intV : SV := ex fun p : { p : Int × Int // (p.1.natAbs ≤ 4 ∧ p.2.natAbs ≤ 4) ∧ (p.1 ≠ 0 ∨ p.2 ≠ 0) } => rp (p.1.1 : Rat) (p.1.2 : Rat)
theorem tp_pu (zs : List Int) (hz : zs.length ≤ 400) : PuT 66 zs [] intP := by
  refine PuM.intro Tryz.func66 rfl (by kernel_rfl) fun C b => ?_
  repeat (refine A1 ⟨?_⟩; intros)
  refine Wtx (next_pu zs hz 9 (by omega) (by omega)) (by (first | exact List.mem_cons_self | exact (List.mem_cons_of_mem _ List.mem_cons_self) | exact (List.mem_cons_of_mem _ (List.mem_cons_of_mem _ List.mem_cons_self)) | exact (List.mem_cons_of_mem _ (List.mem_cons_of_mem _ (List.mem_cons_of_mem _ List.mem_cons_self))) | exact (List.mem_cons_of_mem _ (List.mem_cons_of_mem _ (List.mem_cons_of_mem _ (List.mem_cons_of_mem _ List.mem_cons_self)))) | exact (List.mem_cons_of_mem _ (List.mem_cons_of_mem _ (List.mem_cons_of_mem _ (List.mem_cons_of_mem _ (List.mem_cons_of_mem _ List.mem_cons_self))))) | exact (List.mem_cons_of_mem _ (List.mem_cons_of_mem _ (List.mem_cons_of_mem _ (List.mem_cons_of_mem _ (List.mem_cons_of_mem _ (List.mem_cons_of_mem _ List.mem_cons_self)))))) | exact (List.mem_cons_of_mem _ (List.mem_cons_of_mem _ (List.mem_cons_of_mem _ (List.mem_cons_of_mem _ (List.mem_cons_of_mem _ (List.mem_cons_of_mem _ (List.mem_cons_of_mem _ List.mem_cons_self))))))))) fun x => ?_
  obtain ⟨x, hx⟩ := x
  simp only []
  repeat (refine A1 ⟨?_⟩; intros)
  refine Wtx (next_pu zs hz 9 (by omega) (by omega)) (by (first | exact List.mem_cons_self | exact (List.mem_cons_of_mem _ List.mem_cons_self) | exact (List.mem_cons_of_mem _ (List.mem_cons_of_mem _ List.mem_cons_self)) | exact (List.mem_cons_of_mem _ (List.mem_cons_of_mem _ (List.mem_cons_of_mem _ List.mem_cons_self))) | exact (List.mem_cons_of_mem _ (List.mem_cons_of_mem _ (List.mem_cons_of_mem _ (List.mem_cons_of_mem _ List.mem_cons_self)))) | exact (List.mem_cons_of_mem _ (List.mem_cons_of_mem _ (List.mem_cons_of_mem _ (List.mem_cons_of_mem _ (List.mem_cons_of_mem _ List.mem_cons_self))))) | exact (List.mem_cons_of_mem _ (List.mem_cons_of_mem _ (List.mem_cons_of_mem _ (List.mem_cons_of_mem _ (List.mem_cons_of_mem _ (List.mem_cons_of_mem _ List.mem_cons_self)))))) | exact (List.mem_cons_of_mem _ (List.mem_cons_of_mem _ (List.mem_cons_of_mem _ (List.mem_cons_of_mem _ (List.mem_cons_of_mem _ (List.mem_cons_of_mem _ (List.mem_cons_of_mem _ List.mem_cons_self))))))))) fun y => ?_
  obtain ⟨y, hy⟩ := y
  simp only []
  repeat (first | (refine A1 ⟨?_⟩; intros) | (refine Wcx (xy_pu ((x : Int) - 4) ((y : Int) - 4) (by omega) (by omega) (by omega) (by omega)) ?_) | (refine Wdcx (xy_pu ((x : Int) - 4) ((y : Int) - 4) (by omega) (by omega) (by omega) (by omega)) ?_) | (refine Wcgx (xy_pu ((x : Int) - 4) ((y : Int) - 4) (by omega) (by omega) (by omega) (by omega)) ?_) | (refine Wdcgx (xy_pu ((x : Int) - 4) ((y : Int) - 4) (by omega) (by omega) (by omega) (by omega)) ?_))
  exact endMR () _ (end1 (RV.cellA rfl (by (first | exact List.mem_cons_self | exact (List.mem_cons_of_mem _ List.mem_cons_self) | exact (List.mem_cons_of_mem _ (List.mem_cons_of_mem _ List.mem_cons_self)) | exact (List.mem_cons_of_mem _ (List.mem_cons_of_mem _ (List.mem_cons_of_mem _ List.mem_cons_self))) | exact (List.mem_cons_of_mem _ (List.mem_cons_of_mem _ (List.mem_cons_of_mem _ (List.mem_cons_of_mem _ List.mem_cons_self)))) | exact (List.mem_cons_of_mem _ (List.mem_cons_of_mem _ (List.mem_cons_of_mem _ (List.mem_cons_of_mem _ (List.mem_cons_of_mem _ List.mem_cons_self))))) | exact (List.mem_cons_of_mem _ (List.mem_cons_of_mem _ (List.mem_cons_of_mem _ (List.mem_cons_of_mem _ (List.mem_cons_of_mem _ (List.mem_cons_of_mem _ List.mem_cons_self)))))) | exact (List.mem_cons_of_mem _ (List.mem_cons_of_mem _ (List.mem_cons_of_mem _ (List.mem_cons_of_mem _ (List.mem_cons_of_mem _ (List.mem_cons_of_mem _ (List.mem_cons_of_mem _ List.mem_cons_self))))))))) rfl rfl) (Le.ex ⟨((x : Int) - 4, (y : Int) - 4), by simp only; omega, by simp only; omega⟩ (Le.refl _))) (by (first | exact List.mem_cons_self | exact (List.mem_cons_of_mem _ List.mem_cons_self) | exact (List.mem_cons_of_mem _ (List.mem_cons_of_mem _ List.mem_cons_self)) | exact (List.mem_cons_of_mem _ (List.mem_cons_of_mem _ (List.mem_cons_of_mem _ List.mem_cons_self))) | exact (List.mem_cons_of_mem _ (List.mem_cons_of_mem _ (List.mem_cons_of_mem _ (List.mem_cons_of_mem _ List.mem_cons_self)))) | exact (List.mem_cons_of_mem _ (List.mem_cons_of_mem _ (List.mem_cons_of_mem _ (List.mem_cons_of_mem _ (List.mem_cons_of_mem _ List.mem_cons_self))))) | exact (List.mem_cons_of_mem _ (List.mem_cons_of_mem _ (List.mem_cons_of_mem _ (List.mem_cons_of_mem _ (List.mem_cons_of_mem _ (List.mem_cons_of_mem _ List.mem_cons_self)))))) | exact (List.mem_cons_of_mem _ (List.mem_cons_of_mem _ (List.mem_cons_of_mem _ (List.mem_cons_of_mem _ (List.mem_cons_of_mem _ (List.mem_cons_of_mem _ (List.mem_cons_of_mem _ List.mem_cons_self))))))))) (LeL.refl _)
theorem ht_i (z : Int) (h : z.natAbs ≤ 1000) : ht (z : Rat) ≤ 1 := ht_int z (by omega)
theorem leZP : LeL [ag [lit (.bool false), lit (.slice none 0 0), lit (.slice none 0 0), lit (.bool false), lit (.slice none 0 0), lit (.slice none 0 0)]] [rp 0 0] :=
  ⟨Le.ag (by repeat (first | exact trivial | refine ⟨?_, ?_⟩ | exact Le.refl _ | exact leN0 | exact leD0)), trivial⟩
theorem int_zero {z : Int} : ((z : Rat) = 0) ↔ z = 0 := by constructor <;> intro h <;> exact_mod_cast h
theorem tv_pu (zs : List Int) (hz : zs.length ≤ 400) : PuT 70 zs [] intV := by
  refine PuM.intro Tryz.func70 rfl (by kernel_rfl) fun C b => ?_
  repeat (refine A1 ⟨?_⟩; intros)
  refine Wtx (tp_pu zs hz) (by (first | exact List.mem_cons_self | exact (List.mem_cons_of_mem _ List.mem_cons_self) | exact (List.mem_cons_of_mem _ (List.mem_cons_of_mem _ List.mem_cons_self)) | exact (List.mem_cons_of_mem _ (List.mem_cons_of_mem _ (List.mem_cons_of_mem _ List.mem_cons_self))) | exact (List.mem_cons_of_mem _ (List.mem_cons_of_mem _ (List.mem_cons_of_mem _ (List.mem_cons_of_mem _ List.mem_cons_self)))) | exact (List.mem_cons_of_mem _ (List.mem_cons_of_mem _ (List.mem_cons_of_mem _ (List.mem_cons_of_mem _ (List.mem_cons_of_mem _ List.mem_cons_self))))) | exact (List.mem_cons_of_mem _ (List.mem_cons_of_mem _ (List.mem_cons_of_mem _ (List.mem_cons_of_mem _ (List.mem_cons_of_mem _ (List.mem_cons_of_mem _ List.mem_cons_self)))))) | exact (List.mem_cons_of_mem _ (List.mem_cons_of_mem _ (List.mem_cons_of_mem _ (List.mem_cons_of_mem _ (List.mem_cons_of_mem _ (List.mem_cons_of_mem _ (List.mem_cons_of_mem _ List.mem_cons_self))))))))) fun p => ?_
  obtain ⟨⟨x, y⟩, hx, hy⟩ := p
  simp only at hx hy
  simp only []
  have h0 := ht_zero
  have hx' := ht_i x (by omega)
  have hy' := ht_i y (by omega)
  have c1 := (rsame_pu x y 0 0 (by omega) (by omega) (by omega) (by omega)).arg (l' := [rp x y, ag [lit (.bool false), lit (.slice none 0 0), lit (.slice none 0 0), lit (.bool false), lit (.slice none 0 0), lit (.slice none 0 0)]]) ⟨Le.refl _, leZP⟩
  have c2 := xy_pu 1 0 (by omega) (by omega) (by omega) (by omega)
  by_cases h : x = 0 ∧ y = 0
  · rw [decide_eq_true (show (x : Rat) = 0 ∧ (y : Rat) = 0 from ⟨int_zero.2 h.1, int_zero.2 h.2⟩)] at c1
    clear h hx' hy' h0
    repeat (first | (refine A1 ⟨?_⟩; intros) | (refine Wcx (c1) ?_) | (refine Wdcx (c1) ?_) | (refine Wcgx (c1) ?_) | (refine Wdcgx (c1) ?_) | (refine Wcx (c2) ?_) | (refine Wdcx (c2) ?_) | (refine Wcgx (c2) ?_) | (refine Wdcgx (c2) ?_))
    exact endMR () _ (end1 (RV.cellA rfl (by (first | exact List.mem_cons_self | exact (List.mem_cons_of_mem _ List.mem_cons_self) | exact (List.mem_cons_of_mem _ (List.mem_cons_of_mem _ List.mem_cons_self)) | exact (List.mem_cons_of_mem _ (List.mem_cons_of_mem _ (List.mem_cons_of_mem _ List.mem_cons_self))) | exact (List.mem_cons_of_mem _ (List.mem_cons_of_mem _ (List.mem_cons_of_mem _ (List.mem_cons_of_mem _ List.mem_cons_self)))) | exact (List.mem_cons_of_mem _ (List.mem_cons_of_mem _ (List.mem_cons_of_mem _ (List.mem_cons_of_mem _ (List.mem_cons_of_mem _ List.mem_cons_self))))) | exact (List.mem_cons_of_mem _ (List.mem_cons_of_mem _ (List.mem_cons_of_mem _ (List.mem_cons_of_mem _ (List.mem_cons_of_mem _ (List.mem_cons_of_mem _ List.mem_cons_self)))))) | exact (List.mem_cons_of_mem _ (List.mem_cons_of_mem _ (List.mem_cons_of_mem _ (List.mem_cons_of_mem _ (List.mem_cons_of_mem _ (List.mem_cons_of_mem _ (List.mem_cons_of_mem _ List.mem_cons_self))))))))) rfl rfl) (Le.ex ⟨(1, 0), by decide, by decide⟩ (Le.refl _))) (by (first | exact List.mem_cons_self | exact (List.mem_cons_of_mem _ List.mem_cons_self) | exact (List.mem_cons_of_mem _ (List.mem_cons_of_mem _ List.mem_cons_self)) | exact (List.mem_cons_of_mem _ (List.mem_cons_of_mem _ (List.mem_cons_of_mem _ List.mem_cons_self))) | exact (List.mem_cons_of_mem _ (List.mem_cons_of_mem _ (List.mem_cons_of_mem _ (List.mem_cons_of_mem _ List.mem_cons_self)))) | exact (List.mem_cons_of_mem _ (List.mem_cons_of_mem _ (List.mem_cons_of_mem _ (List.mem_cons_of_mem _ (List.mem_cons_of_mem _ List.mem_cons_self))))) | exact (List.mem_cons_of_mem _ (List.mem_cons_of_mem _ (List.mem_cons_of_mem _ (List.mem_cons_of_mem _ (List.mem_cons_of_mem _ (List.mem_cons_of_mem _ List.mem_cons_self)))))) | exact (List.mem_cons_of_mem _ (List.mem_cons_of_mem _ (List.mem_cons_of_mem _ (List.mem_cons_of_mem _ (List.mem_cons_of_mem _ (List.mem_cons_of_mem _ (List.mem_cons_of_mem _ List.mem_cons_self))))))))) (LeL.refl _)
  · rw [decide_eq_false (show ¬((x : Rat) = 0 ∧ (y : Rat) = 0) from fun e => h ⟨int_zero.1 e.1, int_zero.1 e.2⟩)] at c1
    have hv : x ≠ 0 ∨ y ≠ 0 := by omega
    clear h hx' hy' h0
    repeat (first | (refine A1 ⟨?_⟩; intros) | (refine Wcx (c1) ?_) | (refine Wdcx (c1) ?_) | (refine Wcgx (c1) ?_) | (refine Wdcgx (c1) ?_) | (refine Wcx (c2) ?_) | (refine Wdcx (c2) ?_) | (refine Wcgx (c2) ?_) | (refine Wdcgx (c2) ?_))
    exact endMR () _ (end1 (RV.cellA rfl (by (first | exact List.mem_cons_self | exact (List.mem_cons_of_mem _ List.mem_cons_self) | exact (List.mem_cons_of_mem _ (List.mem_cons_of_mem _ List.mem_cons_self)) | exact (List.mem_cons_of_mem _ (List.mem_cons_of_mem _ (List.mem_cons_of_mem _ List.mem_cons_self))) | exact (List.mem_cons_of_mem _ (List.mem_cons_of_mem _ (List.mem_cons_of_mem _ (List.mem_cons_of_mem _ List.mem_cons_self)))) | exact (List.mem_cons_of_mem _ (List.mem_cons_of_mem _ (List.mem_cons_of_mem _ (List.mem_cons_of_mem _ (List.mem_cons_of_mem _ List.mem_cons_self))))) | exact (List.mem_cons_of_mem _ (List.mem_cons_of_mem _ (List.mem_cons_of_mem _ (List.mem_cons_of_mem _ (List.mem_cons_of_mem _ (List.mem_cons_of_mem _ List.mem_cons_self)))))) | exact (List.mem_cons_of_mem _ (List.mem_cons_of_mem _ (List.mem_cons_of_mem _ (List.mem_cons_of_mem _ (List.mem_cons_of_mem _ (List.mem_cons_of_mem _ (List.mem_cons_of_mem _ List.mem_cons_self))))))))) rfl rfl) (Le.ex ⟨(x, y), ⟨hx, hy⟩, hv⟩ (Le.refl _))) (by (first | exact List.mem_cons_self | exact (List.mem_cons_of_mem _ List.mem_cons_self) | exact (List.mem_cons_of_mem _ (List.mem_cons_of_mem _ List.mem_cons_self)) | exact (List.mem_cons_of_mem _ (List.mem_cons_of_mem _ (List.mem_cons_of_mem _ List.mem_cons_self))) | exact (List.mem_cons_of_mem _ (List.mem_cons_of_mem _ (List.mem_cons_of_mem _ (List.mem_cons_of_mem _ List.mem_cons_self)))) | exact (List.mem_cons_of_mem _ (List.mem_cons_of_mem _ (List.mem_cons_of_mem _ (List.mem_cons_of_mem _ (List.mem_cons_of_mem _ List.mem_cons_self))))) | exact (List.mem_cons_of_mem _ (List.mem_cons_of_mem _ (List.mem_cons_of_mem _ (List.mem_cons_of_mem _ (List.mem_cons_of_mem _ (List.mem_cons_of_mem _ List.mem_cons_self)))))) | exact (List.mem_cons_of_mem _ (List.mem_cons_of_mem _ (List.mem_cons_of_mem _ (List.mem_cons_of_mem _ (List.mem_cons_of_mem _ (List.mem_cons_of_mem _ (List.mem_cons_of_mem _ List.mem_cons_self))))))))) (LeL.refl _)
end Go.Ab
/- Expressions made of a tape: each is one printable expression. -/
namespace Go.Ab
open Go.Proofs
set_option linter.unusedSectionVars false
set_option linter.unusedVariables false
set_option linter.unusedSimpArgs false
variable [Base]
theorem stk_append (i : Nat) (A B : List Nd) : ∀ (i : Nat) (st : List (Ex × Nat)), stk (A ++ B) i st = match stk A i st with
    | some st' => stk B (i + A.length) st'
    | none => none := by
  induction A with
  | nil => intro i st; rfl
  | cons n A ih =>
    intro i st
    rw [List.cons_append, stk_cons, stk_cons]
    cases stp i n st with
    | none => rfl
    | some st' =>
      simp only
      rw [ih, List.length_cons, show i + 1 + A.length = i + (A.length + 1) by omega]
/-- a list of parts that is one printable expression, wherever it begins -/
structure Wr (ns : List Nd) (i : Nat) (t : Ex) : Prop where
  st : ∀ s, stk ns i s = some ((t, i + ns.length - 1) :: s)
  pos : 1 ≤ ns.length
  good : t.good = true
  ok : ∀ n ∈ ns, n.ok 20
  nm : ∀ n ∈ ns, n.nm.all (fun b => decide (clsN b.toNat = 3)) = true
  nq : ∀ n ∈ ns, n.k = 1 → ∃ k, k < 4 ∧ n.nm = [UInt8.ofNat (97 + k)]
theorem stk_one {n : Nd} {i : Nat} {s s' : List (Ex × Nat)} (h : stp i n s = some s') : stk [n] i s = some s' := by rw [stk_cons, h]; rfl
theorem Wr.leaf {n : Nd} {i : Nat} (h1 : okN n = true) (h5 : n.k ≠ 5) (h6 : n.k ≠ 6) (hg : (Ex.leaf n).good = true) (hok : n.ok 20) (hq : n.k = 1 → ∃ k, k < 4 ∧ n.nm = [UInt8.ofNat (97 + k)]) (hn : n.nm.all (fun b => decide (clsN b.toNat = 3)) = true := by rfl) : Wr [n] i (.leaf n) :=
  ⟨fun s => stk_one (by unfold stp; rw [if_pos h1, if_neg h5, if_neg h6]; rfl), Nat.le_refl _, hg, fun m hm => by rw [List.mem_singleton.1 hm]; exact hok, fun m hm => by rw [List.mem_singleton.1 hm]; exact hn, fun m hm => by rw [List.mem_singleton.1 hm]; exact hq⟩
theorem Wr.un {A : List Nd} {n : Nd} {i : Nat} {x : Ex} (h : Wr A i x) (h1 : okN n = true) (h5 : n.k = 5) (hx : n.x = (i + A.length : Nat) - 1) (hok : n.ok 20) (hn : n.nm.all (fun b => decide (clsN b.toNat = 3)) = true := by rfl) : Wr (A ++ [n]) i (.un n x) := by
  have hp := h.pos
  refine ⟨fun s => ?_, by simp, h.good, fun m hm => ?_, fun m hm => ?_, fun m hm => ?_⟩
  · rw [stk_append i, h.st]
    simp only
    rw [stk_one (s' := (.un n x, i + A.length) :: s) (by unfold stp; rw [if_pos h1, if_pos h5]; simp only; rw [if_pos (by omega)]), List.length_append, List.length_singleton, show i + (A.length + 1) - 1 = i + A.length by omega]
  · rcases List.mem_append.1 hm with hm | hm
    · exact h.ok m hm
    · rw [List.mem_singleton.1 hm]; exact hok
  · rcases List.mem_append.1 hm with hm | hm
    · exact h.nm m hm
    · rw [List.mem_singleton.1 hm]; exact hn
  · rcases List.mem_append.1 hm with hm | hm
    · exact h.nq m hm
    · rw [List.mem_singleton.1 hm]; exact fun e => by omega
theorem Wr.bi {A B : List Nd} {n : Nd} {i : Nat} {x y : Ex} (h : Wr A i x) (k : Wr B (i + A.length) y) (h1 : okN n = true) (h6 : n.k = 6) (hx : n.x = (i + A.length : Nat) - 1) (hy : n.y = (i + A.length + B.length : Nat) - 1) (hok : n.ok 20) (hn : n.nm.all (fun b => decide (clsN b.toNat = 3)) = true := by rfl) : Wr (A ++ B ++ [n]) i (.bi n x y) := by
  have hp := h.pos
  have kp := k.pos
  refine ⟨fun s => ?_, by simp; omega, by show (x.good && y.good) = true; rw [h.good, k.good]; rfl, fun m hm => ?_, fun m hm => ?_, fun m hm => ?_⟩
  · rw [stk_append i, stk_append i, h.st]
    simp only
    rw [k.st]
    simp only
    rw [List.length_append, stk_one (s' := (.bi n x y, i + (A.length + B.length)) :: s) (by unfold stp; rw [if_pos h1, if_neg (by omega), if_pos h6]; simp only; rw [if_pos ⟨by omega, by omega⟩]), List.length_append, List.length_append, List.length_singleton, show i + (A.length + B.length + 1) - 1 = i + (A.length + B.length) by omega]
  · rcases List.mem_append.1 hm with hm | hm
    · rcases List.mem_append.1 hm with hm | hm
      · exact h.ok m hm
      · exact k.ok m hm
    · rw [List.mem_singleton.1 hm]; exact hok
  · rcases List.mem_append.1 hm with hm | hm
    · rcases List.mem_append.1 hm with hm | hm
      · exact h.nm m hm
      · exact k.nm m hm
    · rw [List.mem_singleton.1 hm]; exact hn
  · rcases List.mem_append.1 hm with hm | hm
    · rcases List.mem_append.1 hm with hm | hm
      · exact h.nq m hm
      · exact k.nq m hm
    · rw [List.mem_singleton.1 hm]; exact fun e => by omega
theorem Wr.otx {ns : List Nd} {t : Ex} (h : Wr ns 0 t) : otx ns = some t.txt := by
  unfold Ab.otx
  rw [h.st]
  simp only
  rw [if_pos h.good]
abbrev z0 : RQ := ⟨false, [], []⟩
def unNd (x : Int) : Nd := ⟨5, [], z0, z0, z0, z0, 0, x, 0, 0, 0⟩
def aNd (k : Int) : Nd := ⟨k, [], z0, z0, z0, z0, 0, 0, 0, 0, 0⟩
def hNd (a b c e : Rat) : Nd := ⟨4, [], RQ.of a, RQ.of b, RQ.of c, RQ.of e, 0, 0, 0, 0, 0⟩
theorem z_ok {k : Int} {nm : List UInt8} {op x y : Int} (h : nm.length ≤ 100) : (⟨k, nm, z0, z0, z0, z0, op, x, y, 0, 0⟩ : Nd).ok 20 := ⟨zr_ok, zr_ok, zr_ok, zr_ok, h⟩
theorem okN_op {op x y : Int} (h1 : 1 ≤ op) (h4 : op ≤ 4) : okN (opNd op x y) = true := by
  unfold okN opNd; simp [zp, zq, h1, h4]
theorem okN_un {x : Int} : okN (unNd x) = true := by
  unfold okN unNd; simp [zp, zq]
theorem okN_a {k : Int} (h1 : 2 ≤ k) (h3 : k ≤ 3) : okN (aNd k) = true := by
  have : k = 2 ∨ k = 3 := by omega
  rcases this with rfl | rfl <;> rfl
theorem good_a {k : Int} (h1 : 2 ≤ k) (h3 : k ≤ 3) : (Ex.leaf (aNd k)).good = true := by
  have : k = 2 ∨ k = 3 := by omega
  rcases this with rfl | rfl <;> rfl
theorem okN_h {a b c e : Rat} : okN (hNd a b c e) = true := by
  unfold okN hNd; simp
theorem okN_nm {c : UInt8} : okN (nmNd c) = true := by
  unfold okN nmNd; simp [zp, zq]
theorem nrmQ_of (x : Rat) : nrmQ (RQ.of x) = true := by
  unfold nrmQ
  rw [RQ.of_v]
  exact decide_eq_true ⟨rfl, rfl, rfl⟩
theorem good_h {a b c e : Rat} : (Ex.leaf (hNd a b c e)).good = true := by
  show (if (4 : Int) = 1 then _ else if (4 : Int) = 4 then (nrmQ (RQ.of a) && nrmQ (RQ.of b) && (nrmQ (RQ.of c) && nrmQ (RQ.of e))) else true) = true
  rw [if_neg (by decide), if_pos rfl, nrmQ_of, nrmQ_of, nrmQ_of, nrmQ_of]; rfl
abbrev abcd : List SV := [str [97], str [98], str [99], str [100]]
theorem abcd_at {k : Nat} (h : k < 4) : abcd[k]? = some (str [UInt8.ofNat (97 + k)]) ∧ (Ex.leaf (nmNd (UInt8.ofNat (97 + k)))).good = true ∧ (nmNd (UInt8.ofNat (97 + k))).nm.all (fun b => decide (clsN b.toNat = 3)) = true := by
  have : k = 0 ∨ k = 1 ∨ k = 2 ∨ k = 3 := by omega
  rcases this with rfl | rfl | rfl | rfl <;> exact ⟨rfl, by decide +kernel, by decide +kernel⟩
theorem flat_snoc (l : List Nd) (n : Nd) : ((l ++ [n]).map ndx).flatten = (l.map ndx).flatten ++ ndx n := by
  rw [List.map_append, List.flatten_append]; simp only [List.map_cons, List.map_nil, List.flatten_cons, List.flatten_nil, List.append_nil]
theorem Own.snoc {T : TypeId} {l : List Nd} {n : Nd} {s : SV} {H : LH} (h : Own T 19 (l.length + 1) ((l.map ndx).flatten ++ ndx n) s H) : Own T 19 (l ++ [n]).length ((l ++ [n]).map ndx).flatten s H := by
  rw [flat_snoc, List.length_append, List.length_singleton]; exact h
abbrev exT : TypeId := 35
abbrev tpT : TypeId := 99
abbrev medP : SV := ex fun p : { p : Rat × Rat // ht p.1 ≤ 20 ∧ ht p.2 ≤ 20 } => rp p.1.1 p.1.2
theorem addT_pu {x y : Int} (hx : x.natAbs ≤ 4) (hy : y.natAbs ≤ 4) : Pu Tryz.prog 68 [rp (x : Rat) (y : Rat), smallR, intV] medP := by
  refine Pu.exAt' [rp (x : Rat) (y : Rat)] [intV] ⟨0, by have := ht_zero; omega⟩ fun q => ?_
  refine Pu.exAt' [rp (x : Rat) (y : Rat), rq q.1] [] ⟨(1, 0), ⟨by decide, by decide⟩, .inl (by decide)⟩ fun v => ?_
  obtain ⟨q, hq⟩ := q
  obtain ⟨⟨u, v⟩, ⟨hu, hv⟩, _⟩ := v
  simp only at hu hv
  have h1 := ht_i x (by omega)
  have h2 := ht_i y (by omega)
  have h3 := ht_i u (by omega)
  have h4 := ht_i v (by omega)
  have h5 := ht_mul q (u : Rat)
  have h6 := ht_mul q (v : Rat)
  have h7 := ht_add (x : Rat) (q * (u : Rat))
  have h8 := ht_add (y : Rat) (q * (v : Rat))
  exact (gadd_pu (x : Rat) (y : Rat) q (u : Rat) (v : Rat) (by omega) (by omega) (by omega) (by omega) (by omega)).le (Le.ex ⟨(_, _), by simp only; omega, by simp only; omega⟩ (Le.refl _))
def p0 : { p : Rat × Rat // ht p.1 ≤ 20 ∧ ht p.2 ≤ 20 } := ⟨(0, 0), by have := ht_zero; simp only; omega, by have := ht_zero; simp only; omega⟩
abbrev medQ : SV := ex fun p : { p : Rat × Rat // ht p.1 ≤ 20 ∧ ht p.2 ≤ 20 } => pq p.1.1 p.1.2
theorem toPT_pu : Pu Tryz.prog 67 [medP] medQ :=
  Pu.exAt [] [] ⟨(0, 0), by have := ht_zero; simp only; omega, by have := ht_zero; simp only; omega⟩ fun p => toP_pu p.1.1 p.1.2 (by have := p.2.1; omega) (by have := p.2.2; omega)
set_option maxHeartbeats 4000000 in
theorem expr1_pu (zs : List Int) (hz : zs.length ≤ 400) (b : Nat) : ∀ (m : Nat), m ≤ 100 → ∀ (ns : List Nd) (s : SV) (Hs : LH), ns.length ≤ 10000 - 50 * m → Own exT 19 ns.length (ns.map ndx).flatten s Hs →
    PuH Tryz.prog 48 [lit (.pointer (some ⟨b, 0, none⟩)), s, lit (.int .i64 m)] ((b, tpT, tapeC zs) :: Hs)
      (fun r H' => ∃ (t : Ex) (ns2 : List Nd) (Hs' : LH), H' = (b, tpT, tapeC zs) :: Hs' ∧ Own exT 19 (ns ++ ns2).length ((ns ++ ns2).map ndx).flatten r Hs' ∧ Wr ns2 ns.length t ∧ ns2.length ≤ 2 * m + 1) noX := by
  intro m
  induction m using Nat.strongRecOn with
  | _ m ih =>
    intro hm ns s Hs hns hown
    have hco := hown.co
    refine PuH.intro Tryz.func48 rfl (by kernel_rfl) fun C hC => ?_
    repeat (refine A1 ⟨?_⟩; intros)
    refine Wtx (next_pu zs hz 10 (by omega) (by omega)) (by (first | exact List.mem_cons_self | exact (List.mem_cons_of_mem _ List.mem_cons_self) | exact (List.mem_cons_of_mem _ (List.mem_cons_of_mem _ List.mem_cons_self)) | exact (List.mem_cons_of_mem _ (List.mem_cons_of_mem _ (List.mem_cons_of_mem _ List.mem_cons_self))) | exact (List.mem_cons_of_mem _ (List.mem_cons_of_mem _ (List.mem_cons_of_mem _ (List.mem_cons_of_mem _ List.mem_cons_self)))) | exact (List.mem_cons_of_mem _ (List.mem_cons_of_mem _ (List.mem_cons_of_mem _ (List.mem_cons_of_mem _ (List.mem_cons_of_mem _ List.mem_cons_self))))) | exact (List.mem_cons_of_mem _ (List.mem_cons_of_mem _ (List.mem_cons_of_mem _ (List.mem_cons_of_mem _ (List.mem_cons_of_mem _ (List.mem_cons_of_mem _ List.mem_cons_self)))))) | exact (List.mem_cons_of_mem _ (List.mem_cons_of_mem _ (List.mem_cons_of_mem _ (List.mem_cons_of_mem _ (List.mem_cons_of_mem _ (List.mem_cons_of_mem _ (List.mem_cons_of_mem _ List.mem_cons_self))))))))) fun k => ?_
    obtain ⟨k, hk⟩ := k
    simp only []
    refine WPL.viaS1 (fun F H => ∃ kk : Nat, kk < 10 ∧ (m = 0 → 6 ≤ kk) ∧ LeF F (fm [(0, lit (.pointer (some ⟨b, 0, none⟩))), (1, s), (2, lit (.int .i64 m)), (7, lit (.int .i64 kk))]) ∧ H = (b, tpT, tapeC zs) :: Hs) ?_ ?_
    · by_cases h0 : m = 0
      · by_cases h6 : k < 6
        · repeat (refine A1 ⟨?_⟩; intros)
          exact ⟨6, by omega, fun _ => by omega, by (repeat (first | exact LeF.nil _ | refine LeF.cons (Le.refl _) ?_ | refine LeF.cons (Le.int (by omega)) ?_)), rfl⟩
        · repeat (refine A1 ⟨?_⟩; intros)
          exact ⟨k, by omega, fun _ => by omega, by (repeat (first | exact LeF.nil _ | refine LeF.cons (Le.refl _) ?_ | refine LeF.cons (Le.int (by omega)) ?_)), rfl⟩
      · repeat (refine A1 ⟨?_⟩; intros)
        exact ⟨k, by omega, fun h => absurd h h0, by (repeat (first | exact LeF.nil _ | refine LeF.cons (Le.refl _) ?_ | refine LeF.cons (Le.int (by omega)) ?_)), rfl⟩
    rintro F H ⟨kk, hkk, h6, hF, rfl⟩
    refine WP.le hF ?_
    clear hF
    by_cases h4 : kk < 4
    · have hm1 : 1 ≤ m := by omega
      clear h6
      repeat (refine A1 ⟨?_⟩; intros)
      rw [show ((m : Int) - 1) / 2 = (((m - 1) / 2 : Nat) : Int) by omega]
      refine WfT (ih ((m - 1) / 2) (by omega) (by omega) ns s Hs (by omega) hown) ?_
      rintro s1 _ ⟨x, A, H1, rfl, hown1, hA, hAl⟩
      simp only [List.cons_append, List.nil_append]
      have hco1 := hown1.co
      have e1 : (ns ++ A).length = ns.length + A.length := List.length_append
      repeat (refine A1 ⟨?_⟩; intros)
      refine Wo (ov_lenOwn hown1 rfl) ?_
      repeat (refine A1 ⟨?_⟩; intros)
      rw [show ((m : Int) - 1) / 2 = (((m - 1) / 2 : Nat) : Int) by omega]
      refine WfT (ih ((m - 1) / 2) (by omega) (by omega) (ns ++ A) s1 H1 (by omega) hown1) ?_
      rintro s2 _ ⟨y, B, H2, rfl, hown2, hB, hBl⟩
      simp only [List.cons_append, List.nil_append]
      have hco2 := hown2.co
      have e2 : (ns ++ A ++ B).length = ns.length + A.length + B.length := by rw [List.length_append, e1]
      repeat (refine A1 ⟨?_⟩; intros)
      refine Wo (ov_lenOwn hown2 rfl) ?_
      repeat (refine A1 ⟨?_⟩; intros)
      refine WPL.lowB (HUpd.here _) (cs' := ndx (opNd (1 + (kk : Nat)) ((ns ++ A).length - 1) ((ns ++ A ++ B).length - 1))) (by simp only [opNd, unNd, aNd, nmNd]; repeat (first | exact trivial | refine ⟨?_, ?_⟩ | exact Le.refl _ | exact le_nil)) ?_
      refine Wown hown2 (by omega) (fun s' H' hown' => ?_)
      simp only [List.cons_append, List.nil_append]
      repeat (refine A1 ⟨?_⟩; intros)
      exact endHR _ _ (end1 (RV.tmp rfl) (Le.refl _)) (List.sublist_cons_self _ _) ⟨_, A ++ B ++ [opNd (1 + (kk : Nat)) ((ns ++ A).length - 1) ((ns ++ A ++ B).length - 1)], H', rfl, by rw [← List.append_assoc, ← List.append_assoc]; exact hown'.snoc,
        Wr.bi hA (by rw [← e1]; exact hB) (okN_op (by omega) (by omega)) rfl (by show ((ns ++ A).length : Int) - 1 = _; rw [e1]) (by show ((ns ++ A ++ B).length : Int) - 1 = _; rw [e2]) (z_ok (by decide)), by simp; omega⟩
    by_cases k6 : kk < 6
    · have hm1 : 1 ≤ m := by omega
      clear h6
      repeat (refine A1 ⟨?_⟩; intros)
      rw [show ((m : Int) - 1) = ((m - 1 : Nat) : Int) by omega]
      refine WfT (ih (m - 1) (by omega) (by omega) ns s Hs (by omega) hown) ?_
      rintro s1 _ ⟨x, A, H1, rfl, hown1, hA, hAl⟩
      simp only [List.cons_append, List.nil_append]
      have hco1 := hown1.co
      have e1 : (ns ++ A).length = ns.length + A.length := List.length_append
      repeat (refine A1 ⟨?_⟩; intros)
      refine Wo (ov_lenOwn hown1 rfl) ?_
      repeat (refine A1 ⟨?_⟩; intros)
      refine WPL.lowB (HUpd.here _) (cs' := ndx (unNd ((ns ++ A).length - 1))) (by simp only [opNd, unNd, aNd, nmNd]; repeat (first | exact trivial | refine ⟨?_, ?_⟩ | exact Le.refl _ | exact le_nil)) ?_
      refine Wown hown1 (by omega) (fun s' H' hown' => ?_)
      simp only [List.cons_append, List.nil_append]
      repeat (refine A1 ⟨?_⟩; intros)
      exact endHR _ _ (end1 (RV.tmp rfl) (Le.refl _)) (List.sublist_cons_self _ _) ⟨_, A ++ [unNd ((ns ++ A).length - 1)], H', rfl, by rw [← List.append_assoc]; exact hown'.snoc,
        Wr.un hA okN_un rfl (by show ((ns ++ A).length : Int) - 1 = _; rw [e1]) (z_ok (by decide)), by simp; omega⟩
    clear ih h6
    by_cases k6 : kk = 6
    · subst k6
      repeat (refine A1 ⟨?_⟩; intros)
      refine Wtx (next_pu zs hz 2 (by omega) (by omega)) (by (first | exact List.mem_cons_self | exact (List.mem_cons_of_mem _ List.mem_cons_self) | exact (List.mem_cons_of_mem _ (List.mem_cons_of_mem _ List.mem_cons_self)) | exact (List.mem_cons_of_mem _ (List.mem_cons_of_mem _ (List.mem_cons_of_mem _ List.mem_cons_self))) | exact (List.mem_cons_of_mem _ (List.mem_cons_of_mem _ (List.mem_cons_of_mem _ (List.mem_cons_of_mem _ List.mem_cons_self)))) | exact (List.mem_cons_of_mem _ (List.mem_cons_of_mem _ (List.mem_cons_of_mem _ (List.mem_cons_of_mem _ (List.mem_cons_of_mem _ List.mem_cons_self))))) | exact (List.mem_cons_of_mem _ (List.mem_cons_of_mem _ (List.mem_cons_of_mem _ (List.mem_cons_of_mem _ (List.mem_cons_of_mem _ (List.mem_cons_of_mem _ List.mem_cons_self)))))) | exact (List.mem_cons_of_mem _ (List.mem_cons_of_mem _ (List.mem_cons_of_mem _ (List.mem_cons_of_mem _ (List.mem_cons_of_mem _ (List.mem_cons_of_mem _ (List.mem_cons_of_mem _ List.mem_cons_self))))))))) fun k => ?_
      obtain ⟨k, hk⟩ := k
      simp only []
      repeat (refine A1 ⟨?_⟩; intros)
      refine WPL.lowB (HUpd.here _) (cs' := ndx (aNd (2 + (k : Nat)))) (by simp only [opNd, unNd, aNd, nmNd]; repeat (first | exact trivial | refine ⟨?_, ?_⟩ | exact Le.refl _ | exact le_nil)) ?_
      refine Wown hown (by omega) (fun s' H' hown' => ?_)
      simp only [List.cons_append, List.nil_append]
      repeat (refine A1 ⟨?_⟩; intros)
      exact endHR _ _ (end1 (RV.tmp rfl) (Le.refl _)) (List.sublist_cons_self _ _) ⟨_, [aNd (2 + (k : Nat))], H', rfl, hown'.snoc,
        Wr.leaf (okN_a (by omega) (by omega)) (show (2 + (k : Nat) : Int) ≠ 5 by omega) (show (2 + (k : Nat) : Int) ≠ 6 by omega) (good_a (by omega) (by omega)) (z_ok (by decide)) (fun e => absurd e (show (2 + (k : Nat) : Int) ≠ 1 by omega)), by simp⟩
    by_cases k7 : kk = 7
    · subst k7
      repeat (refine A1 ⟨?_⟩; intros)
      refine Wtx (tp_pu zs hz) (by (first | exact List.mem_cons_self | exact (List.mem_cons_of_mem _ List.mem_cons_self) | exact (List.mem_cons_of_mem _ (List.mem_cons_of_mem _ List.mem_cons_self)) | exact (List.mem_cons_of_mem _ (List.mem_cons_of_mem _ (List.mem_cons_of_mem _ List.mem_cons_self))) | exact (List.mem_cons_of_mem _ (List.mem_cons_of_mem _ (List.mem_cons_of_mem _ (List.mem_cons_of_mem _ List.mem_cons_self)))) | exact (List.mem_cons_of_mem _ (List.mem_cons_of_mem _ (List.mem_cons_of_mem _ (List.mem_cons_of_mem _ (List.mem_cons_of_mem _ List.mem_cons_self))))) | exact (List.mem_cons_of_mem _ (List.mem_cons_of_mem _ (List.mem_cons_of_mem _ (List.mem_cons_of_mem _ (List.mem_cons_of_mem _ (List.mem_cons_of_mem _ List.mem_cons_self)))))) | exact (List.mem_cons_of_mem _ (List.mem_cons_of_mem _ (List.mem_cons_of_mem _ (List.mem_cons_of_mem _ (List.mem_cons_of_mem _ (List.mem_cons_of_mem _ (List.mem_cons_of_mem _ List.mem_cons_self))))))))) fun p => ?_
      obtain ⟨⟨x, y⟩, hx, hy⟩ := p
      simp only at hx hy
      simp only []
      repeat (first | (refine AS ⟨?_⟩; intros) | (refine O1 ⟨?_⟩; intros))
      rename_i b9
      have c1 := toP_pu (x : Rat) (y : Rat) (by have := ht_i x (by omega); omega) (by have := ht_i y (by omega); omega)
      have c2 := addT_pu hx hy
      have c3 := toPT_pu
      refine WdN 12 ?_
      repeat (first | (refine A1 ⟨?_⟩; intros) | (refine Wcx (c1) ?_) | (refine Wdcx (c1) ?_) | (refine Wcgx (c1) ?_) | (refine Wdcgx (c1) ?_))
      refine Wdo (ov_callT (tq_pu zs hz) rfl (by (first | exact List.mem_cons_self | exact (List.mem_cons_of_mem _ List.mem_cons_self) | exact (List.mem_cons_of_mem _ (List.mem_cons_of_mem _ List.mem_cons_self)) | exact (List.mem_cons_of_mem _ (List.mem_cons_of_mem _ (List.mem_cons_of_mem _ List.mem_cons_self))) | exact (List.mem_cons_of_mem _ (List.mem_cons_of_mem _ (List.mem_cons_of_mem _ (List.mem_cons_of_mem _ List.mem_cons_self)))) | exact (List.mem_cons_of_mem _ (List.mem_cons_of_mem _ (List.mem_cons_of_mem _ (List.mem_cons_of_mem _ (List.mem_cons_of_mem _ List.mem_cons_self))))) | exact (List.mem_cons_of_mem _ (List.mem_cons_of_mem _ (List.mem_cons_of_mem _ (List.mem_cons_of_mem _ (List.mem_cons_of_mem _ (List.mem_cons_of_mem _ List.mem_cons_self)))))) | exact (List.mem_cons_of_mem _ (List.mem_cons_of_mem _ (List.mem_cons_of_mem _ (List.mem_cons_of_mem _ (List.mem_cons_of_mem _ (List.mem_cons_of_mem _ (List.mem_cons_of_mem _ List.mem_cons_self)))))))))) ?_
      repeat (refine A1 ⟨?_⟩; intros)
      refine Wdo (ov_callT (tv_pu zs hz) rfl (by (first | exact List.mem_cons_self | exact (List.mem_cons_of_mem _ List.mem_cons_self) | exact (List.mem_cons_of_mem _ (List.mem_cons_of_mem _ List.mem_cons_self)) | exact (List.mem_cons_of_mem _ (List.mem_cons_of_mem _ (List.mem_cons_of_mem _ List.mem_cons_self))) | exact (List.mem_cons_of_mem _ (List.mem_cons_of_mem _ (List.mem_cons_of_mem _ (List.mem_cons_of_mem _ List.mem_cons_self)))) | exact (List.mem_cons_of_mem _ (List.mem_cons_of_mem _ (List.mem_cons_of_mem _ (List.mem_cons_of_mem _ (List.mem_cons_of_mem _ List.mem_cons_self))))) | exact (List.mem_cons_of_mem _ (List.mem_cons_of_mem _ (List.mem_cons_of_mem _ (List.mem_cons_of_mem _ (List.mem_cons_of_mem _ (List.mem_cons_of_mem _ List.mem_cons_self)))))) | exact (List.mem_cons_of_mem _ (List.mem_cons_of_mem _ (List.mem_cons_of_mem _ (List.mem_cons_of_mem _ (List.mem_cons_of_mem _ (List.mem_cons_of_mem _ (List.mem_cons_of_mem _ List.mem_cons_self)))))))))) ?_
      repeat (first | (refine A1 ⟨?_⟩; intros) | (refine Wcx (c2) ?_) | (refine Wdcx (c2) ?_) | (refine Wcgx (c2) ?_) | (refine Wdcgx (c2) ?_) | (refine Wcx (c3) ?_) | (refine Wdcx (c3) ?_) | (refine Wcgx (c3) ?_) | (refine Wdcgx (c3) ?_))
      refine Wdo (OpV.exd 85 p0 rfl (g := fun p : { p : Rat × Rat // ht p.1 ≤ 20 ∧ ht p.2 ≤ 20 } => ag (ndx (hNd (x : Rat) (y : Rat) p.1.1 p.1.2))) fun p => Ov0) ?_
      refine Wdo (OpV.exd 86 p0 rfl (g := fun p : { p : Rat × Rat // ht p.1 ≤ 20 ∧ ht p.2 ≤ 20 } => sl (ndx (hNd (x : Rat) (y : Rat) p.1.1 p.1.2)) 1) fun p => ov_bsN (s := ag (ndx (hNd (x : Rat) (y : Rat) p.1.1 p.1.2))) rfl inferInstance) ?_
      repeat (refine A1 ⟨?_⟩; intros)
      refine WPL.exd (d := 87) rfl fun p => ?_
      obtain ⟨⟨u, v⟩, hu, hv⟩ := p
      simp only at hu hv
      simp only []
      refine WownS hown (Tk.skip _ (Tk.skip _ (Tk.same _))) (by omega) (fun s' H' hown' => ?_)
      simp only [List.cons_append, List.nil_append]
      repeat (refine A1 ⟨?_⟩; intros)
      exact endHR _ _ (end1 (RV.tmp rfl) (Le.refl _)) (List.sublist_cons_self _ _) ⟨_, [hNd (x : Rat) (y : Rat) u v], H', rfl, hown'.snoc,
        Wr.leaf okN_h (show (4 : Int) ≠ 5 by decide) (show (4 : Int) ≠ 6 by decide) good_h ⟨RQ.of_ok (by have := ht_i x (by omega); omega), RQ.of_ok (by have := ht_i y (by omega); omega), RQ.of_ok hu, RQ.of_ok hv, Nat.zero_le _⟩ (fun e => absurd e (show (4 : Int) ≠ 1 by decide)), by simp⟩
    · repeat (refine A1 ⟨?_⟩; intros)
      refine Wtx (next_pu zs hz 4 (by omega) (by omega)) (by (first | exact List.mem_cons_self | exact (List.mem_cons_of_mem _ List.mem_cons_self) | exact (List.mem_cons_of_mem _ (List.mem_cons_of_mem _ List.mem_cons_self)) | exact (List.mem_cons_of_mem _ (List.mem_cons_of_mem _ (List.mem_cons_of_mem _ List.mem_cons_self))) | exact (List.mem_cons_of_mem _ (List.mem_cons_of_mem _ (List.mem_cons_of_mem _ (List.mem_cons_of_mem _ List.mem_cons_self)))) | exact (List.mem_cons_of_mem _ (List.mem_cons_of_mem _ (List.mem_cons_of_mem _ (List.mem_cons_of_mem _ (List.mem_cons_of_mem _ List.mem_cons_self))))) | exact (List.mem_cons_of_mem _ (List.mem_cons_of_mem _ (List.mem_cons_of_mem _ (List.mem_cons_of_mem _ (List.mem_cons_of_mem _ (List.mem_cons_of_mem _ List.mem_cons_self)))))) | exact (List.mem_cons_of_mem _ (List.mem_cons_of_mem _ (List.mem_cons_of_mem _ (List.mem_cons_of_mem _ (List.mem_cons_of_mem _ (List.mem_cons_of_mem _ (List.mem_cons_of_mem _ List.mem_cons_self))))))))) fun k => ?_
      obtain ⟨k, hk⟩ := k
      simp only []
      repeat (refine A1 ⟨?_⟩; intros)
      refine Wo (ov_loadL rfl (by (first | exact List.mem_cons_self | exact (List.mem_cons_of_mem _ List.mem_cons_self) | exact (List.mem_cons_of_mem _ (List.mem_cons_of_mem _ List.mem_cons_self)) | exact (List.mem_cons_of_mem _ (List.mem_cons_of_mem _ (List.mem_cons_of_mem _ List.mem_cons_self))) | exact (List.mem_cons_of_mem _ (List.mem_cons_of_mem _ (List.mem_cons_of_mem _ (List.mem_cons_of_mem _ List.mem_cons_self)))) | exact (List.mem_cons_of_mem _ (List.mem_cons_of_mem _ (List.mem_cons_of_mem _ (List.mem_cons_of_mem _ (List.mem_cons_of_mem _ List.mem_cons_self))))) | exact (List.mem_cons_of_mem _ (List.mem_cons_of_mem _ (List.mem_cons_of_mem _ (List.mem_cons_of_mem _ (List.mem_cons_of_mem _ (List.mem_cons_of_mem _ List.mem_cons_self)))))) | exact (List.mem_cons_of_mem _ (List.mem_cons_of_mem _ (List.mem_cons_of_mem _ (List.mem_cons_of_mem _ (List.mem_cons_of_mem _ (List.mem_cons_of_mem _ (List.mem_cons_of_mem _ List.mem_cons_self))))))))) (abcd_at hk).1) ?_
      repeat (refine A1 ⟨?_⟩; intros)
      refine WPL.lowB (HUpd.here _) (cs' := ndx (nmNd (UInt8.ofNat (97 + k)))) (by simp only [opNd, unNd, aNd, nmNd]; repeat (first | exact trivial | refine ⟨?_, ?_⟩ | exact Le.refl _ | exact le_nil)) ?_
      refine Wown hown (by omega) (fun s' H' hown' => ?_)
      simp only [List.cons_append, List.nil_append]
      repeat (refine A1 ⟨?_⟩; intros)
      exact endHR _ _ (end1 (RV.tmp rfl) (Le.refl _)) (List.Sublist.cons _ (List.sublist_cons_self _ _)) ⟨_, [nmNd (UInt8.ofNat (97 + k))], H', rfl, hown'.snoc,
        Wr.leaf okN_nm (show (1 : Int) ≠ 5 by decide) (show (1 : Int) ≠ 6 by decide) (abcd_at hk).2.1 (z_ok (by simp)) (fun _ => ⟨k, hk, rfl⟩) (abcd_at hk).2.2, by simp⟩
theorem expression_pu (zs : List Int) (hz : zs.length ≤ 400) (b : Nat) : PuH Tryz.prog 24 [lit (.pointer (some ⟨b, 0, none⟩)), lit (.int .i64 9)] [(b, tpT, tapeC zs)]
    (fun r H' => ∃ (t : Ex) (ns : List Nd) (Hs' : LH), H' = (b, tpT, tapeC zs) :: Hs' ∧ Own exT 19 ns.length (ns.map ndx).flatten r Hs' ∧ Wr ns 0 t ∧ ns.length ≤ 19) noX := by
  have c := expr1_pu zs hz b 9 (by omega) [] (lit (.slice none 0 0)) [] (by simp) (Own.nil exT 19)
  refine PuH.intro Tryz.func24 rfl (by kernel_rfl) fun C hC => ?_
  repeat (refine A1 ⟨?_⟩; intros)
  refine WfT c ?_
  rintro s' _ ⟨t, ns, H1, rfl, h1, h2, h3⟩
  simp only [List.cons_append, List.nil_append]
  have hco := h1.co
  repeat (refine A1 ⟨?_⟩; intros)
  exact endHR _ _ (end1 (RV.tmp rfl) (Le.refl _)) (List.Sublist.refl _) ⟨t, ns, H1, rfl, h1, h2, by omega⟩
end Go.Ab
/- Rows of one's own: taking from the end; two rows beside each other. -/
namespace Go.Ab
open Go.Proofs
set_option linter.unusedSectionVars false
set_option linter.unusedVariables false
set_option linter.unusedSimpArgs false
variable [Base]
section
variable {P : Program} {C : Ctx} {n : Nat} {F : Fr} {H : LH} {ops : Array Oper} {K : Fr → LH → Prop} {rest : List Oper} {ty : TypeId} {pos : String} {aft : Array Edge}
/-- a row with something in it stands in a block -/
theorem Own.blk {T : TypeId} {sz k : Nat} {cs : List SV} {s : SV} {Hs : LH} (h : Own T sz k cs s Hs) (hk : 0 < k) :
    ∃ b c, k ≤ c ∧ c ≤ maxLen ∧ s = lit (.slice (some ⟨b, 0, none⟩) k c) ∧ Hs = [(b, T, cs ++ List.replicate (c * sz - k * sz) top)] := by
  obtain ⟨_, ⟨h0, _⟩ | h⟩ := h
  · omega
  · exact h
theorem LeL.top : ∀ (l : List SV) (k : Nat), l.length = k → LeL l (List.replicate k top)
  | [], _, h => by subst h; exact trivial
  | s :: l, 0, h => by cases h
  | s :: l, k + 1, h => ⟨fun m v _ => by unfold Ab.top; trivial, LeL.top l k (by simpa using h)⟩
theorem LeL.app : ∀ {a b c d : List SV}, LeL a b → LeL c d → LeL (a ++ c) (b ++ d)
  | [], [], _, _, _, k => k
  | _ :: _, _ :: _, _, _, h, k => ⟨h.1, LeL.app h.2 k⟩
  | [], _ :: _, _, _, h, _ => h.elim
  | _ :: _, [], _, _, h, _ => h.elim
/-- .. what is left when it is cut -/
theorem Own.cut {T : TypeId} {sz k b c j : Nat} {cs : List SV} (hl : cs.length = k * sz) (hkc : k ≤ c) (hc : c ≤ maxLen) (hj : j ≤ k) :
    Own T sz j (cs.take (j * sz)) (lit (.slice (some ⟨b, 0, none⟩) j c)) [(b, T, cs.take (j * sz) ++ List.replicate (c * sz - j * sz) top)] ∧ LeL (cs ++ List.replicate (c * sz - k * sz) top) (cs.take (j * sz) ++ List.replicate (c * sz - j * sz) top) := by
  have h1 : j * sz ≤ k * sz := Nat.mul_le_mul_right _ hj
  have h2 : k * sz ≤ c * sz := Nat.mul_le_mul_right _ hkc
  refine ⟨⟨by rw [List.length_take, hl]; omega, .inr ⟨b, c, by omega, hc, rfl, rfl⟩⟩, ?_⟩
  have e1 : cs ++ List.replicate (c * sz - k * sz) top = cs.take (j * sz) ++ (cs.drop (j * sz) ++ List.replicate (c * sz - k * sz) top) := by
    rw [← List.append_assoc, List.take_append_drop]
  rw [e1]
  refine LeL.app (LeL.refl _) (LeL.top _ _ ?_)
  rw [List.length_append, List.length_drop, List.length_replicate, hl]
  omega
end
end Go.Ab
/- The law PrinterParens, walked. -/
namespace Go.Ab
open Go.Proofs
set_option linter.unusedSectionVars false
set_option linter.unusedVariables false
set_option linter.unusedSimpArgs false
variable [Base]
theorem prsAll_rn {ts : List Tok} {A : List Nd} {x : Ex} (hT : TOk ts) (h : prsAll ts = some (A, x)) : Rn A 0 x := by
  unfold prsAll at h
  cases hp : prs (8 * ts.length + 8) 1 0 0 ts none with
  | none => rw [hp] at h; cases h
  | some q =>
    obtain ⟨B, z, t'⟩ := q
    rw [hp] at h
    simp only at h
    split at h
    · simp only [Option.some.injEq, Prod.mk.injEq] at h
      obtain ⟨rfl, rfl⟩ := h
      exact (prs_ok _ _ _ _ _ _ _ _ _ (by omega) (fun h => by omega) hT trivial hp).1
    · cases h
/-- what ParseExpr gives, its list finished -/
def prS (l : List UInt8) : SV := match lexT l with
  | none => Ab.tup [lit (.slice none 0 0), errE]
  | some ts => match prsAll ts with
    | some (A, _) => Ab.tup [sl (A.map ndx).flatten A.length, lit .nilIface]
    | none => Ab.tup [lit (.slice none 0 0), errE]
theorem parseS_pu [Sent 5] [Sent 4] (l : List UInt8) (hok : ∀ b ∈ l, okC b = true) (hl : l.length ≤ 65536) : Pu Tryz.prog 29 [str l] (prS l) := by
  have c := gexpr_pu l hok hl
  unfold prS
  unfold prR at c
  cases hlx : lexT l with
  | none =>
    rw [hlx] at c
    simp only at c ⊢
    refine Pu.intro Tryz.func29 rfl (by kernel_rfl) fun C => ?_
    repeat (refine A1 ⟨?_⟩; intros)
    refine WfT c ?_
    rintro _ H' rfl
    repeat (refine A1 ⟨?_⟩; intros)
    ((first | refine endR ?_ | refine endN ?_); exact end2 (RV.tmp rfl) (RV.tmp rfl) (Le.refl _))
  | some ts =>
    rw [hlx] at c
    simp only at c ⊢
    cases hp : prsAll ts with
    | none =>
      rw [hp] at c
      simp only at c ⊢
      refine Pu.intro Tryz.func29 rfl (by kernel_rfl) fun C => ?_
      repeat (refine A1 ⟨?_⟩; intros)
      refine WfT c ?_
      rintro _ H' rfl
      repeat (refine A1 ⟨?_⟩; intros)
      ((first | refine endR ?_ | refine endN ?_); exact end2 (RV.tmp rfl) (RV.tmp rfl) (Le.refl _))
    | some q =>
      obtain ⟨A, x⟩ := q
      rw [hp] at c
      simp only at c ⊢
      have hr := prsAll_rn (lexF_ok _ _ _ _ hlx).1 hp
      refine Pu.intro Tryz.func29 rfl (by kernel_rfl) fun C => ?_
      repeat (refine A1 ⟨?_⟩; intros)
      refine WfT c ?_
      rintro _ H' ⟨s, rfl, hown⟩
      obtain ⟨b, c1, hnc, hcm, rfl, rfl⟩ := hown.blk hr.2
      simp only [List.nil_append]
      clear hown
      (refine O1 ⟨?_⟩; intros)
      refine WPL.pub (d := 6) (s' := sl (A.map ndx).flatten A.length) (HDel.here _) rfl (fun m arr h1 h2 => pub_ownL h1 h2 hnc hcm) ?_
      repeat (refine A1 ⟨?_⟩; intros)
      ((first | refine endR ?_ | refine endN ?_); exact end2 (RV.tmp rfl) (RV.tmp rfl) (Le.refl _))
theorem let_of {ns : List Nd} (h : ∀ n ∈ ns, n.k ≠ 4 ∧ n.nm.all (fun b => decide (clsN b.toNat = 3)) = true) : ∀ {t : Ex} {i : Nat}, t.At ns i → t.let = true
  | .leaf n, i, hat => by
    obtain ⟨h1, h2⟩ := h n (List.mem_of_getElem? hat.1)
    unfold Ex.let
    rw [Bool.and_eq_true]
    exact ⟨decide_eq_true h1, h2⟩
  | .un n x, i, hat => by
    obtain ⟨_, _, j, _, hx⟩ := hat
    show x.let = true
    exact let_of h hx
  | .bi n l r, i, hat => by
    obtain ⟨_, _, _, j, k, _, _, hl, hr⟩ := hat
    show (l.let && r.let) = true
    rw [let_of h hl, let_of h hr]; rfl
theorem like_of_same {n m : Nd} (h : sameN n m = true) : Like n m := by
  unfold sameN at h
  simp only [Bool.and_eq_true, decide_eq_true_eq] at h
  exact ⟨h.1, h.2.2.1, h.2.2.2.1, h.2.2.2.2.1⟩
theorem likeL_of_same : ∀ {ns ms : List Nd}, sameL ns ms = true → LikeL ns ms
  | [], [], _ => trivial
  | _ :: _, _ :: _, h => by
    unfold sameL at h
    rw [Bool.and_eq_true] at h
    exact ⟨like_of_same h.1, likeL_of_same h.2⟩
  | [], _ :: _, h => by cases h
  | _ :: _, [], h => by cases h
theorem bcnt_take_succ {l : List UInt8} {i : Nat} (b : UInt8) (h : i < l.length) : bcnt b (l.take (i + 1)) = bcnt b (l.take i) + (if l.getD i 0 = b then 1 else 0) := by
  rw [List.take_add_one, List.getElem?_eq_getElem h, bcnt_append, List.getD, List.getElem?_eq_getElem h]
  show _ + bcnt b [l[i]] = _
  rw [bcnt_cons, bcnt_nil]
  simp
theorem lev_step {l : List UInt8} {i k : Nat} (hik : i ≤ k) (h : k < l.length) : lev ((l.drop i).take (k + 1 - i)) = lev ((l.drop i).take (k - i)) + (if l.getD k 0 = 40 then 1 else 0) - (if l.getD k 0 = 41 then 1 else 0) := by
  have e : (l.drop i).take (k + 1 - i) = (l.drop i).take (k - i) ++ [l.getD k 0] := by
    rw [show k + 1 - i = (k - i) + 1 by omega, List.take_add_one, List.getElem?_drop, show i + (k - i) = k by omega, List.getElem?_eq_getElem h, List.getD, List.getElem?_eq_getElem h]
    rfl
  rw [e, lev_append]
  have : lev [l.getD k 0] = (if l.getD k 0 = 40 then 1 else 0) - (if l.getD k 0 = 41 then 1 else 0) := by
    unfold lev
    rw [bcnt_cons, bcnt_cons, bcnt_nil, bcnt_nil]
    split <;> split <;> simp_all
  omega
/-- at the end of a balanced text nothing is open -/
theorem lev_end {l : List UInt8} (h : Bal l) (i : Nat) (hi : i ≤ l.length) : lev ((l.drop i).take (l.length - i)) ≤ 0 := by
  rw [List.take_of_length_le (by rw [List.length_drop]; exact Nat.le_refl _)]
  have h1 := lev_take_drop l i
  have h2 := h.pos i
  have h3 := h.zero
  omega
/-- the text without two of its bytes -/
def cut2 (l : List UInt8) (i k : Nat) : List UInt8 := l.take i ++ (l.take k).drop (i + 1) ++ l.drop (k + 1)
theorem cut2_sub (l : List UInt8) {i k : Nat} (h : i < k) (hk : k < l.length) : (cut2 l i k).length + 2 = l.length ∧ (∀ b ∈ cut2 l i k, b ∈ l) ∧ (l.getD i 0 = 40 → bcnt 40 (cut2 l i k) < bcnt 40 l) := by
  have e : l = l.take i ++ ([l[i]] ++ ((l.take k).drop (i + 1) ++ ([l[k]] ++ l.drop (k + 1)))) := by
    have e1 : l.drop k = [l[k]] ++ l.drop (k + 1) := List.drop_eq_getElem_cons hk
    have e2 : (l.take k).drop i = [l[i]] ++ (l.take k).drop (i + 1) := by
      rw [List.drop_eq_getElem_cons (by rw [List.length_take]; omega), List.getElem_take]; rfl
    rw [← e1]
    have e3 : [l[i]] ++ ((l.take k).drop (i + 1) ++ l.drop k) = (l.take k).drop i ++ l.drop k := by rw [e2, List.append_assoc]
    rw [e3]
    have e4 : (l.take k).drop i ++ l.drop k = l.drop i := by
      rw [← List.drop_append_of_le_length (by rw [List.length_take]; omega), List.take_append_drop]
    rw [e4, List.take_append_drop]
  refine ⟨?_, ?_, ?_⟩
  · unfold cut2
    simp only [List.length_append, List.length_take, List.length_drop]
    omega
  · intro b hb
    unfold cut2 at hb
    rcases List.mem_append.1 hb with hb | hb
    · rcases List.mem_append.1 hb with hb | hb
      · exact List.mem_of_mem_take hb
      · exact List.mem_of_mem_take (List.mem_of_mem_drop hb)
    · exact List.mem_of_mem_drop hb
  · intro h40
    have hi : l[i] = 40 := by
      rw [List.getD, List.getElem?_eq_getElem (by omega)] at h40
      exact h40
    have hb := congrArg (bcnt 40) e
    simp only [bcnt_append] at hb
    rw [hi, show bcnt 40 ([40] : List UInt8) = 1 from rfl] at hb
    unfold cut2
    simp only [bcnt_append]
    omega
/-- the text without a pair of its brackets is no text of the same expression -/
theorem parens_cut {ns : List Nd} {t : Ex} {l : List UInt8} (hx : Rn ns 0 t) (hc : bcnt 40 l < pc t) {ts : List Tok} {A : List Nd} {y : Ex} (hlx : lexT l = some ts) (hp : prsAll ts = some (A, y)) : sameL ns A = false := by
  obtain ⟨g1, g2, _⟩ := lexF_ok _ _ _ _ hlx
  exact Bool.eq_false_iff.2 fun h => parens hx g1 hp (Nat.lt_of_le_of_lt g2 hc) (likeL_of_same h)
end Go.Ab
