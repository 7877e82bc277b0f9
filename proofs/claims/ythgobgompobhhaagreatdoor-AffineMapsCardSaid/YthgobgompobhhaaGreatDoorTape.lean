/- The scenes' tape: UNDER WAY. -/
import Derived.Test.YthgobgompobhhaaGreatDoorLoop
import Derived.Test.YthgobgompobhhaaGreatDoorRefH
import Derived.Test.YthgobgompobhhaaGreatDoorRef4
namespace Go.Ab
open Go.Proofs
set_option linter.unusedSectionVars false
variable [Base]
/-- a tape: its list, and any place in it -/
abbrev tapeC (zs : List Int) : List SV := [nsl .i64 zs, ex fun k : { k : Nat // k ≤ zs.length } => lit (.int .i64 (k.1 : Int))]
section
variable {P : Program} {F : Fr} {H : LH}
variable {C : Ctx} {n : Nat} {ops : Array Oper} {K : Fr → LH → Prop} {rest : List Oper} {ty : TypeId} {pos : String} {aft : Array Edge}
/-- a call of a function of the tape -/
theorem Wt {d : Nat} {f : FuncId} {l : List Operand} {tys : Array TypeId} {T : TypeId} {b : Nat} {args : Nat → List SV} {cs : List SV} {res : SV} (hc : PuM P f T args cs (fun _ : Unit => cs) (fun _ => res)) (hm : (b, T, cs) ∈ H) (k : WPL P C n ops rest K (upd F d res) H)
    (ha : l.map (ev F) = args b := by exact rfl) (hd : Nat.blt d n = true := by exact rfl) : WPL P C n ops (⟨some d, .call ⟨.value (.func f), l.toArray, tys⟩, ty, pos, aft, none⟩ :: rest) K F H := WPL.val (ov_callT hc ha hm) hd k
/-- .. whose result is one of many -/
theorem Wtx {d : Nat} {f : FuncId} {l : List Operand} {tys : Array TypeId} {T : TypeId} {b : Nat} {args : Nat → List SV} {cs : List SV} {α : Type} {res : α → SV} (hc : PuM P f T args cs (fun _ : Unit => cs) (fun _ => ex res)) (hm : (b, T, cs) ∈ H) (k : ∀ x, WPL P C n ops rest K (upd F d (res x)) H)
    (ha : l.map (ev F) = args b := by exact rfl) (hd : Nat.blt d n = true := by exact rfl) : WPL P C n ops (⟨some d, .call ⟨.value (.func f), l.toArray, tys⟩, ty, pos, aft, none⟩ :: rest) K F H :=
  WPL.val (ov_callT hc ha hm) hd (WPL.exd (d := d) upd_eq fun x => by
    have e : upd (upd F d (ex res)) d (res x) = upd F d (res x) := by
      funext t
      by_cases h : t = d
      · subst h; rw [upd_eq, upd_eq]
      · rw [upd_ne h, upd_ne h, upd_ne h]
    rw [e]; exact k x)
theorem endNwR {rs : Array ResultVar} {T : TypeId} {cs : List SV} (b : Nat) (cs0 : List SV) (h : Ends P rs.toList (lit (.pointer (some ⟨b, 0, none⟩))) F H) (hm : (b, T, cs0) ∈ H) (hl : LeL cs0 cs) : endNw P rs T cs .ret F H := ⟨b, cs0, h, hm, hl⟩
theorem endMR {rs : Array ResultVar} {α : Type} {b : Nat} {T : TypeId} {cs' : α → List SV} {res : α → SV} (x : α) (cs : List SV) (h : Ends P rs.toList (res x) F H) (hm : (b, T, cs) ∈ H) (hl : LeL cs (cs' x)) : endM P rs b T cs' res .ret F H := ⟨x, h, cs, hm, hl⟩
theorem All2.exI {α : Type} {m : Mem} {f : α → SV} : ∀ {cs : List SV} {vs : List Value} (i : Nat), All2 m cs vs → cs[i]? = some (ex f) → ∃ x, All2 m (cs.set i (f x)) vs
  | [], _, i, _, h => by simp at h
  | _ :: _, [], _, h, _ => h.elim
  | s :: cs, v :: vs, 0, h, hi => by
    simp only [List.getElem?_cons_zero, Option.some.injEq] at hi
    subst hi
    have h1 := h.1.1
    unfold ex at h1
    obtain ⟨x, hx⟩ := h1
    exact ⟨x, ⟨hx, h.1.2⟩, h.2⟩
  | s :: cs, v :: vs, i + 1, h, hi => by
    obtain ⟨x, hx⟩ := All2.exI i h.2 (by simpa using hi)
    exact ⟨x, h.1, hx⟩
/-- what a cell of a block holds is one of many -/
theorem WP.exH {C : Ctx} {n : Nat} {Q : Exit → Fr → LH → Prop} {α : Type} {f : α → SV} {c : Code} {b : Nat} {T : TypeId} {cs : List SV} {H' : α → LH} (i : Nat) (hi : cs[i]? = some (ex f)) (hu : ∀ x, HUpd b T cs (cs.set i (f x)) H (H' x)) (x0 : α)
    (k : ∀ x, WP P C n c Q F (H' x)) : WP P C n c Q F H := by
  unfold WP at *
  rintro a w ⟨hdef, hn, m, h1, h2, h3, h4, h5⟩
  obtain ⟨g1, arr, g2, g3⟩ := h2.2 _ (hu x0).mem
  obtain ⟨x, hx⟩ := g3.exI i hi
  refine k x a w ⟨hdef, hn, m, h1, ⟨(hu x).keys ▸ h2.1, fun e he => ?_⟩, h3, fun e he => ?_, h5⟩
  · rcases (hu x).mem' h2.1 e he with rfl | ⟨he', _⟩
    · exact ⟨g1, arr, g2, hx⟩
    · exact h2.2 e he'
  · have : e.1 ∈ (H' x).map (·.1) := List.mem_map.2 ⟨e, he, rfl⟩
    rw [(hu x).keys] at this
    obtain ⟨e', he', hk'⟩ := List.mem_map.1 this
    exact hk' ▸ h4 e' he'
end
theorem new_pu (zs : List Int) (hz : zs.length ≤ 9223372036854775807) : PuN Tryz.prog 6 101 [nsl .i64 zs] (tapeC (zs.take (min zs.length 400))) := by
  obtain ⟨k, hk⟩ : ∃ k, k = min zs.length 400 := ⟨_, rfl⟩
  rw [← hk]
  by_cases h : zs.length ≤ 400
  · have hk : k = zs.length := by omega
    subst hk
    refine PuN.intro Tryz.func6 rfl (by kernel_rfl) fun C => ?_
    repeat (refine A1 ⟨?_⟩; intros)
    refine Wo (ov_sliceN (i := 0) (j := zs.length) rfl (fun _ h => by cases h) (fun _ => rfl) (fun y h => ⟨_, _, by cases h; exact rfl, rfl⟩) (fun h => by cases h) (by omega) (by omega) rfl) ?_
    repeat (refine A1 ⟨?_⟩; intros)
    exact endNwR _ _ (end1 (RV.tmp rfl) (Le.refl _)) List.mem_cons_self ⟨Le.refl _, Le.ex ⟨0, by simp⟩ (Le.refl _), trivial⟩
  · have hk : k = 400 := by omega
    subst hk
    refine PuN.intro Tryz.func6 rfl (by kernel_rfl) fun C => ?_
    repeat (refine A1 ⟨?_⟩; intros)
    refine Wo (ov_sliceN (i := 0) (j := 400) rfl (fun _ h => by cases h) (fun _ => rfl) (fun y h => ⟨_, _, by cases h; exact rfl, rfl⟩) (fun h => by cases h) (by omega) (by omega) rfl) ?_
    repeat (refine A1 ⟨?_⟩; intros)
    exact endNwR _ _ (end1 (RV.tmp rfl) (Le.refl _)) List.mem_cons_self ⟨Le.refl _, Le.ex ⟨0, by simp⟩ (Le.refl _), trivial⟩
/-- a function of the tape, which goes on somewhere in it -/
abbrev PuT (f : FuncId) (zs : List Int) (args : List SV) (res : SV) : Prop := PuM Tryz.prog f 101 (fun b => lit (.pointer (some ⟨b, 0, none⟩)) :: args) (tapeC zs) (fun _ : Unit => tapeC zs) (fun _ => res)
/-- a number below n -/
abbrev below (n : Nat) : SV := ex fun k : { k : Nat // k < n } => lit (.int .i64 (k.1 : Int))
theorem next_pu (zs : List Int) (hz : zs.length ≤ 400) (n : Nat) (hn : 0 < n) (hn' : n ≤ 1000000000) : PuT 49 zs [lit (.int .i64 n)] (below n) := by
  refine PuM.intro Tryz.func49 rfl (by kernel_rfl) fun C b => ?_
  refine WP.exH 1 rfl (fun x => HUpd.here _) ⟨0, by omega⟩ fun x => ?_
  obtain ⟨k, hk⟩ := x
  simp only [tapeC, List.set_cons_succ, List.set_cons_zero]
  by_cases hkl : k < zs.length
  · have m1 := Int.tmod_lt_of_pos (zs.getD k 0) (show (0 : Int) < n by omega)
    have m2 := Int.lt_tmod_of_pos (zs.getD k 0) (show (0 : Int) < n by omega)
    repeat (refine A1 ⟨?_⟩; intros)
    generalize (zs.getD k 0).tmod (n : Int) = r at *
    refine WPd (fun h => ?_) (fun h => ?_)
    · repeat (refine A1 ⟨?_⟩; intros)
      exact endMR () _ (end1 (RV.tmp rfl) (Le.ex ⟨(r + n).toNat, by omega⟩ (Le.int (by simp only; omega)))) List.mem_cons_self ⟨Le.refl _, Le.ex ⟨k + 1, by omega⟩ (Le.refl _), trivial⟩
    · repeat (refine A1 ⟨?_⟩; intros)
      exact endMR () _ (end1 (RV.tmp rfl) (Le.ex ⟨r.toNat, by omega⟩ (Le.int (by simp only; omega)))) List.mem_cons_self ⟨Le.refl _, Le.ex ⟨k + 1, by omega⟩ (Le.refl _), trivial⟩
  · repeat (refine A1 ⟨?_⟩; intros)
    exact endMR () _ (end1 (RV.tmp rfl) (Le.ex ⟨0, hn⟩ (Le.refl _))) List.mem_cons_self ⟨Le.refl _, Le.ex ⟨k, hk⟩ (Le.refl _), trivial⟩
/-- a rational whose parts have one digit -/
abbrev smallR : SV := ex fun x : { x : Rat // ht x ≤ 1 } => rq x.1
theorem ht_mkz (z : Int) (d : Nat) (hz : z.natAbs < 4294967296) (hd : d < 4294967296) : ht (mkRat z d) ≤ 1 := by
  have h := ht_mk z d
  have h1 : il z ≤ 1 := len_le (k := 1) (by simpa using hz)
  have h2 := len_le (n := d) (k := 1) (by simpa using hd)
  omega
theorem ht_int (z : Int) (h : z.natAbs < 4294967296) : ht (z : Rat) ≤ 1 := by
  unfold ht
  rw [Rat.num_intCast, Rat.den_intCast, dgs_one]
  have : il z ≤ 1 := len_le (k := 1) (by simpa using h)
  simp; omega
theorem tq_pu (zs : List Int) (hz : zs.length ≤ 400) : PuT 48 zs [] smallR := by
  refine PuM.intro Tryz.func48 rfl (by kernel_rfl) fun C b => ?_
  repeat (refine A1 ⟨?_⟩; intros)
  refine Wtx (next_pu zs hz 9 (by omega) (by omega)) (List.mem_cons_of_mem _ List.mem_cons_self) fun k => ?_
  obtain ⟨k, hk⟩ := k
  simp only []
  repeat (refine A1 ⟨?_⟩; intros)
  refine Wtx (next_pu zs hz 6 (by omega) (by omega)) (List.mem_cons_of_mem _ List.mem_cons_self) fun j => ?_
  obtain ⟨j, hj⟩ := j
  simp only []
  have fin : ∀ (x : Rat), ht x ≤ 1 → Le (ag [lit (.bool (decide (x.num < 0))), nat x.num.natAbs, dg (dden x.den)]) smallR := fun x hx => Le.ex ⟨x, hx⟩ (Le.refl _)
  by_cases hj0 : j = 0
  · have hp := rpart_pu (2 * ((k : Int) - 4) + 1) 2 (by omega) (by omega) (by omega) (by omega)
    repeat (first | (refine A1 ⟨?_⟩; intros) | (refine Wcx (hp) ?_) | (refine Wdcx (hp) ?_) | (refine Wcgx (hp) ?_) | (refine Wdcgx (hp) ?_))
    exact endMR () _ (end1 (RV.cellA rfl List.mem_cons_self rfl rfl) (fin _ (ht_mkz _ _ (by omega) (by omega)))) (List.mem_cons_of_mem _ List.mem_cons_self) (LeL.refl _)
  · by_cases hj1 : j = 1
    · have hp := rpart_pu (3 * ((k : Int) - 4) + 1) 3 (by omega) (by omega) (by omega) (by omega)
      repeat (first | (refine A1 ⟨?_⟩; intros) | (refine Wcx (hp) ?_) | (refine Wdcx (hp) ?_) | (refine Wcgx (hp) ?_) | (refine Wdcgx (hp) ?_))
      exact endMR () _ (end1 (RV.cellA rfl List.mem_cons_self rfl rfl) (fin _ (ht_mkz _ _ (by omega) (by omega)))) (List.mem_cons_of_mem _ List.mem_cons_self) (LeL.refl _)
    · have hp := rof_pu ((k : Int) - 4) (by omega) (by omega)
      repeat (first | (refine A1 ⟨?_⟩; intros) | (refine Wcx (hp) ?_) | (refine Wdcx (hp) ?_) | (refine Wcgx (hp) ?_) | (refine Wdcgx (hp) ?_))
      exact endMR () _ (end1 (RV.cellA rfl List.mem_cons_self rfl rfl) (fin _ (ht_int _ (by omega)))) (List.mem_cons_of_mem _ List.mem_cons_self) (LeL.refl _)
theorem leN0 : Le (lit (.slice none 0 0)) (nat (0 : Rat).num.natAbs) := by
  rw [show (0 : Rat).num.natAbs = 0 from rfl, show nat 0 = dg [] from by show dg (dgs 0) = _; rw [dgs_zero]]
  exact le_nil
theorem leD0 : Le (lit (.slice none 0 0)) (dg (dden (0 : Rat).den)) := by
  rw [show (0 : Rat).den = 1 from rfl, dden_one]; exact le_nil
abbrev smallP : SV := ex fun p : { p : Rat × Rat // ht p.1 ≤ 1 ∧ ht p.2 ≤ 1 } => rp p.1.1 p.1.2
abbrev smallM : SV := ex fun m : { m : M6 Rat // m.le 1 } => rm m.1
theorem tpoint_pu (zs : List Int) (hz : zs.length ≤ 400) : PuT 8 zs [] smallP := by
  refine PuM.intro Tryz.func8 rfl (by kernel_rfl) fun C b => ?_
  repeat (refine A1 ⟨?_⟩; intros)
  refine Wtx (tq_pu zs hz) (List.mem_cons_of_mem _ List.mem_cons_self) fun x => ?_
  repeat (refine A1 ⟨?_⟩; intros)
  refine Wtx (tq_pu zs hz) (List.mem_cons_of_mem _ List.mem_cons_self) fun y => ?_
  repeat (refine A1 ⟨?_⟩; intros)
  exact endMR () _ (end1 (RV.cellA rfl List.mem_cons_self rfl rfl) (Le.ex ⟨(x.1, y.1), x.2, y.2⟩ (Le.refl _))) (List.mem_cons_of_mem _ List.mem_cons_self) (LeL.refl _)
theorem tmap_pu (zs : List Int) (hz : zs.length ≤ 400) : PuT 7 zs [] smallM := by
  have h0 : ht 0 ≤ 1 := by rw [show (0 : Rat) = ((0 : Int) : Rat) from rfl]; exact ht_int 0 (by omega)
  have h1 : ht 1 ≤ 1 := by rw [ht_one]; omega
  refine PuM.intro Tryz.func7 rfl (by kernel_rfl) fun C b => ?_
  repeat (first | (refine A1 ⟨?_⟩; intros) | (refine Wcx (rof1) ?_) | (refine Wdcx (rof1) ?_) | (refine Wcgx (rof1) ?_) | (refine Wdcgx (rof1) ?_))
  refine Wtx (tq_pu zs hz) (List.mem_cons_of_mem _ List.mem_cons_self) fun c => ?_
  repeat (refine A1 ⟨?_⟩; intros)
  refine Wtx (tq_pu zs hz) (List.mem_cons_of_mem _ List.mem_cons_self) fun f => ?_
  repeat (refine A1 ⟨?_⟩; intros)
  refine Wtx (next_pu zs hz 4 (by omega) (by omega)) (List.mem_cons_of_mem _ (List.mem_cons_of_mem _ List.mem_cons_self)) fun j => ?_
  obtain ⟨j, hj⟩ := j
  simp only []
  by_cases hj0 : j = 0
  · repeat (refine A1 ⟨?_⟩; intros)
    refine Wtx (tq_pu zs hz) (List.mem_cons_of_mem _ (List.mem_cons_of_mem _ List.mem_cons_self)) fun xa => ?_
    repeat (refine A1 ⟨?_⟩; intros)
    refine Wtx (tq_pu zs hz) (List.mem_cons_of_mem _ (List.mem_cons_of_mem _ List.mem_cons_self)) fun xb => ?_
    repeat (refine A1 ⟨?_⟩; intros)
    refine Wtx (tq_pu zs hz) (List.mem_cons_of_mem _ (List.mem_cons_of_mem _ List.mem_cons_self)) fun xd => ?_
    repeat (refine A1 ⟨?_⟩; intros)
    refine Wtx (tq_pu zs hz) (List.mem_cons_of_mem _ (List.mem_cons_of_mem _ List.mem_cons_self)) fun xe => ?_
    repeat (refine A1 ⟨?_⟩; intros)
    exact endMR () _ (end1 (RV.cellA rfl (List.mem_cons_of_mem _ List.mem_cons_self) rfl rfl) (Le.ex ⟨⟨xa.1, xb.1, c.1, xd.1, xe.1, f.1⟩, ⟨xa.2, xb.2, c.2, xd.2, xe.2, f.2⟩⟩ (Le.ag (by repeat (first | exact trivial | refine ⟨?_, ?_⟩ | exact Le.refl _ | exact leN0 | exact leD0))))) (List.mem_cons_of_mem _ (List.mem_cons_of_mem _ List.mem_cons_self)) (LeL.refl _)
  · by_cases hj1 : j = 1
    · repeat (first | (refine A1 ⟨?_⟩; intros) | (refine Wcx (rof1) ?_) | (refine Wdcx (rof1) ?_) | (refine Wcgx (rof1) ?_) | (refine Wdcgx (rof1) ?_))
      exact endMR () _ (end1 (RV.cellA rfl (List.mem_cons_of_mem _ List.mem_cons_self) rfl rfl) (Le.ex ⟨⟨0, 1, c.1, 1, 0, f.1⟩, ⟨h0, h1, c.2, h1, h0, f.2⟩⟩ (Le.ag (by repeat (first | exact trivial | refine ⟨?_, ?_⟩ | exact Le.refl _ | exact leN0 | exact leD0))))) (List.mem_cons_of_mem _ (List.mem_cons_of_mem _ List.mem_cons_self)) (LeL.refl _)
    · by_cases hj2 : j = 2
      · repeat (refine A1 ⟨?_⟩; intros)
        refine Wtx (tq_pu zs hz) (List.mem_cons_of_mem _ (List.mem_cons_of_mem _ List.mem_cons_self)) fun xb => ?_
        repeat (refine A1 ⟨?_⟩; intros)
        exact endMR () _ (end1 (RV.cellA rfl (List.mem_cons_of_mem _ List.mem_cons_self) rfl rfl) (Le.ex ⟨⟨1, xb.1, c.1, 0, 1, f.1⟩, ⟨h1, xb.2, c.2, h0, h1, f.2⟩⟩ (Le.ag (by repeat (first | exact trivial | refine ⟨?_, ?_⟩ | exact Le.refl _ | exact leN0 | exact leD0))))) (List.mem_cons_of_mem _ (List.mem_cons_of_mem _ List.mem_cons_self)) (LeL.refl _)
      · repeat (refine A1 ⟨?_⟩; intros)
        exact endMR () _ (end1 (RV.cellA rfl (List.mem_cons_of_mem _ List.mem_cons_self) rfl rfl) (Le.ex ⟨⟨1, 0, c.1, 0, 1, f.1⟩, ⟨h1, h0, c.2, h0, h1, f.2⟩⟩ (Le.ag (by repeat (first | exact trivial | refine ⟨?_, ?_⟩ | exact Le.refl _ | exact leN0 | exact leD0))))) (List.mem_cons_of_mem _ (List.mem_cons_of_mem _ List.mem_cons_self)) (LeL.refl _)
end Go.Ab
