/- Texts laid one behind the other: Tape, AffC, LnC, Fld, RLn, Ex. -/
import Derived.Test.YtnhnilapllmiaaaGreatDoorB03
import Derived.Test.YtnhnilapllmiaaaGreatDoorB13
import Derived.Test.YtnhnilapllmiaaaGreatDoorB14
import Derived.Test.YtnhnilapllmiaaaGreatDoorRow
import Derived.Test.YtnhnilapllmiaaaGreatDoorB17
import Derived.Test.YtnhnilapllmiaaaGreatDoorB16
set_option linter.unusedSectionVars false
set_option linter.unusedVariables false
set_option linter.unusedSimpArgs false
namespace Go.Ab
open Go.Proofs
variable [Base]
abbrev tapeC (zs : List Int) : List SV := [nsl .i64 zs, ex fun k : { k : Nat // k ≤ zs.length } => lit (.int .i64 (k.1 : Int))]
section
variable {P : Program} {F : Fr} {H : LH}
variable {C : Ctx} {n : Nat} {ops : Array Oper} {K : Fr → LH → Prop} {rest : List Oper} {ty : TypeId} {pos : String} {aft : Array Edge}
theorem Wtx {d : Nat} {f : FuncId} {l : List Operand} {tys : Array TypeId} {T : TypeId} {b : Nat} {args : Nat → List SV} {cs : List SV} {α : Type} {res : α → SV} (hc : PuM P f T args cs (fun _ : Unit => cs) (fun _ => ex res)) (hm : (b, T, cs) ∈ H) (k : ∀ x, WPL P C n ops rest K (upd F d (res x)) H)
    (ha : l.map (ev F) = args b := by exact rfl) (hd : Nat.blt d n = true := by exact rfl) : WPL P C n ops (⟨some d, .call ⟨.value (.func f), l.toArray, tys⟩, ty, pos, aft, none⟩ :: rest) K F H :=
  WPL.val (ov_callT hc ha hm) hd (WPL.exd (d := d) upd_eq fun x => by
    have e : upd (upd F d (ex res)) d (res x) = upd F d (res x) := by
      funext t
      by_cases h : t = d
      · subst h; rw [upd_eq, upd_eq]
      · rw [upd_ne h, upd_ne h, upd_ne h]
    rw [e]; exact k x)
theorem endNwR {rs : Array ResultVar} {T : TypeId} {cs : List SV} (b : Nat) (cs0 : List SV) (h : Ends P rs.toList (lit (.pointer (some ⟨b, 0, none⟩))) F H) (hm : (b, T, cs0) ∈ H) (hl : LeL cs0 cs) : endNw P rs T cs .ret F H := ⟨b, cs0, h, hm, hl⟩
theorem endMR {rs : Array ResultVar} {α : Type} {b : Nat} {T : TypeId} {cs' : α → List SV} {res : α → SV} (x : α) (cs : List SV) (h : Ends P rs.toList (res x) F H) (hm : (b, T, cs) ∈ H) (hl : LeL cs (cs' x)) : endM P rs b T cs' res .ret F H := ⟨x, h, cs, hm, hl⟩
theorem All2.exI {α : Type} {m : Mem} {f : α → SV} : ∀ {cs : List SV} {vs : List Value} (i : Nat), All2 m cs vs → cs[i]? = some (ex f) → ∃ x, All2 m (cs.set i (f x)) vs
  | [], _, i, _, h => by simp at h
  | _ :: _, [], _, h, _ => h.elim
  | s :: cs, v :: vs, 0, h, hi => by
    simp only [List.getElem?_cons_zero, Option.some.injEq] at hi
    subst hi
    have h1 := h.1.1
    unfold ex at h1
    obtain ⟨x, hx⟩ := h1
    exact ⟨x, ⟨hx, h.1.2⟩, h.2⟩
  | s :: cs, v :: vs, i + 1, h, hi => by
    obtain ⟨x, hx⟩ := All2.exI i h.2 (by simpa using hi)
    exact ⟨x, h.1, hx⟩
theorem WP.exH {C : Ctx} {n : Nat} {Q : Exit → Fr → LH → Prop} {α : Type} {f : α → SV} {c : Code} {b : Nat} {T : TypeId} {cs : List SV} {H' : α → LH} (i : Nat) (hi : cs[i]? = some (ex f)) (hu : ∀ x, HUpd b T cs (cs.set i (f x)) H (H' x)) (x0 : α)
    (k : ∀ x, WP P C n c Q F (H' x)) : WP P C n c Q F H := by
  unfold WP at *
  rintro a w ⟨hdef, hn, m, h1, h2, h3, h4, h5⟩
  obtain ⟨g1, arr, g2, g3⟩ := h2.2 _ (hu x0).mem
  obtain ⟨x, hx⟩ := g3.exI i hi
  refine k x a w ⟨hdef, hn, m, h1, ⟨(hu x).keys ▸ h2.1, fun e he => ?_⟩, h3, fun e he => ?_, h5⟩
  · rcases (hu x).mem' h2.1 e he with rfl | ⟨he', _⟩
    · exact ⟨g1, arr, g2, hx⟩
    · exact h2.2 e he'
  · have : e.1 ∈ (H' x).map (·.1) := List.mem_map.2 ⟨e, he, rfl⟩
    rw [(hu x).keys] at this
    obtain ⟨e', he', hk'⟩ := List.mem_map.1 this
    exact hk' ▸ h4 e' he'
end
theorem new_pu (zs : List Int) (hz : zs.length ≤ 9223372036854775807) : PuN Tryz.prog 4 79 [nsl .i64 zs] (tapeC (zs.take (min zs.length 400))) := by
  obtain ⟨k, hk⟩ : ∃ k, k = min zs.length 400 := ⟨_, rfl⟩
  rw [← hk]
  by_cases h : zs.length ≤ 400
  · have hk : k = zs.length := by omega
    subst hk
    refine PuN.intro Tryz.func4 rfl (by kernel_rfl) fun C => ?_
    repeat (refine A1 ⟨?_⟩; intros)
    refine Wo (ov_sliceN (i := 0) (j := zs.length) rfl (fun _ h => by cases h) (fun _ => rfl) (fun y h => ⟨_, _, by cases h; exact rfl, rfl⟩) (fun h => by cases h) (by omega) (by omega) rfl) ?_
    repeat (refine A1 ⟨?_⟩; intros)
    exact endNwR _ _ (end1 (RV.tmp rfl) (Le.refl _)) List.mem_cons_self ⟨Le.refl _, Le.ex ⟨0, by simp⟩ (Le.refl _), trivial⟩
  · have hk : k = 400 := by omega
    subst hk
    refine PuN.intro Tryz.func4 rfl (by kernel_rfl) fun C => ?_
    repeat (refine A1 ⟨?_⟩; intros)
    refine Wo (ov_sliceN (i := 0) (j := 400) rfl (fun _ h => by cases h) (fun _ => rfl) (fun y h => ⟨_, _, by cases h; exact rfl, rfl⟩) (fun h => by cases h) (by omega) (by omega) rfl) ?_
    repeat (refine A1 ⟨?_⟩; intros)
    exact endNwR _ _ (end1 (RV.tmp rfl) (Le.refl _)) List.mem_cons_self ⟨Le.refl _, Le.ex ⟨0, by simp⟩ (Le.refl _), trivial⟩
abbrev PuT (f : FuncId) (zs : List Int) (args : List SV) (res : SV) : Prop := PuM Tryz.prog f 79 (fun b => lit (.pointer (some ⟨b, 0, none⟩)) :: args) (tapeC zs) (fun _ : Unit => tapeC zs) (fun _ => res)
abbrev below (n : Nat) : SV := ex fun k : { k : Nat // k < n } => lit (.int .i64 (k.1 : Int))
theorem next_pu (zs : List Int) (hz : zs.length ≤ 400) (n : Nat) (hn : 0 < n) (hn' : n ≤ 1000000000) : PuT 28 zs [lit (.int .i64 n)] (below n) := by
  refine PuM.intro Tryz.func28 rfl (by kernel_rfl) fun C b => ?_
  refine WP.exH 1 rfl (fun x => HUpd.here _) ⟨0, by omega⟩ fun x => ?_
  obtain ⟨k, hk⟩ := x
  simp only [tapeC, List.set_cons_succ, List.set_cons_zero]
  by_cases hkl : k < zs.length
  · have m1 := Int.tmod_lt_of_pos (zs.getD k 0) (show (0 : Int) < n by omega)
    have m2 := Int.lt_tmod_of_pos (zs.getD k 0) (show (0 : Int) < n by omega)
    repeat (refine A1 ⟨?_⟩; intros)
    generalize (zs.getD k 0).tmod (n : Int) = r at *
    refine WPd (fun h => ?_) (fun h => ?_)
    · repeat (refine A1 ⟨?_⟩; intros)
      exact endMR () _ (end1 (RV.tmp rfl) (Le.ex ⟨(r + n).toNat, by omega⟩ (Le.int (by simp only; omega)))) List.mem_cons_self ⟨Le.refl _, Le.ex ⟨k + 1, by omega⟩ (Le.refl _), trivial⟩
    · repeat (refine A1 ⟨?_⟩; intros)
      exact endMR () _ (end1 (RV.tmp rfl) (Le.ex ⟨r.toNat, by omega⟩ (Le.int (by simp only; omega)))) List.mem_cons_self ⟨Le.refl _, Le.ex ⟨k + 1, by omega⟩ (Le.refl _), trivial⟩
  · repeat (refine A1 ⟨?_⟩; intros)
    exact endMR () _ (end1 (RV.tmp rfl) (Le.ex ⟨0, hn⟩ (Le.refl _))) List.mem_cons_self ⟨Le.refl _, Le.ex ⟨k, hk⟩ (Le.refl _), trivial⟩
abbrev smallR : SV := ex fun x : { x : Rat // ht x ≤ 1 } => rq x.1
theorem ht_mkz (z : Int) (d : Nat) (hz : z.natAbs < 4294967296) (hd : d < 4294967296) : ht (mkRat z d) ≤ 1 := by
  have h := ht_mk z d
  have h1 : il z ≤ 1 := len_le (k := 1) (by simpa using hz)
  have h2 := len_le (n := d) (k := 1) (by simpa using hd)
  omega
theorem ht_int (z : Int) (h : z.natAbs < 4294967296) : ht (z : Rat) ≤ 1 := by
  unfold ht
  rw [Rat.num_intCast, Rat.den_intCast, dgs_one]
  have : il z ≤ 1 := len_le (k := 1) (by simpa using h)
  simp; omega
theorem tq_pu (zs : List Int) (hz : zs.length ≤ 400) : PuT 27 zs [] smallR := by
  refine PuM.intro Tryz.func27 rfl (by kernel_rfl) fun C b => ?_
  repeat (refine A1 ⟨?_⟩; intros)
  refine Wtx (next_pu zs hz 9 (by omega) (by omega)) (List.mem_cons_of_mem _ List.mem_cons_self) fun k => ?_
  obtain ⟨k, hk⟩ := k
  simp only []
  repeat (refine A1 ⟨?_⟩; intros)
  refine Wtx (next_pu zs hz 6 (by omega) (by omega)) (List.mem_cons_of_mem _ List.mem_cons_self) fun j => ?_
  obtain ⟨j, hj⟩ := j
  simp only []
  have fin : ∀ (x : Rat), ht x ≤ 1 → Le (ag [lit (.bool (decide (x.num < 0))), nat x.num.natAbs, dg (dden x.den)]) smallR := fun x hx => Le.ex ⟨x, hx⟩ (Le.refl _)
  by_cases hj0 : j = 0
  · have hp := rpart_pu (2 * ((k : Int) - 4) + 1) 2 (by omega) (by omega) (by omega) (by omega)
    repeat (first | (refine A1 ⟨?_⟩; intros) | (refine Wcx (hp) ?_) | (refine Wdcx (hp) ?_) | (refine Wcgx (hp) ?_) | (refine Wdcgx (hp) ?_))
    exact endMR () _ (end1 (RV.cellA rfl List.mem_cons_self rfl rfl) (fin _ (ht_mkz _ _ (by omega) (by omega)))) (List.mem_cons_of_mem _ List.mem_cons_self) (LeL.refl _)
  · by_cases hj1 : j = 1
    · have hp := rpart_pu (3 * ((k : Int) - 4) + 1) 3 (by omega) (by omega) (by omega) (by omega)
      repeat (first | (refine A1 ⟨?_⟩; intros) | (refine Wcx (hp) ?_) | (refine Wdcx (hp) ?_) | (refine Wcgx (hp) ?_) | (refine Wdcgx (hp) ?_))
      exact endMR () _ (end1 (RV.cellA rfl List.mem_cons_self rfl rfl) (fin _ (ht_mkz _ _ (by omega) (by omega)))) (List.mem_cons_of_mem _ List.mem_cons_self) (LeL.refl _)
    · have hp := rof_pu ((k : Int) - 4) (by omega) (by omega)
      repeat (first | (refine A1 ⟨?_⟩; intros) | (refine Wcx (hp) ?_) | (refine Wdcx (hp) ?_) | (refine Wcgx (hp) ?_) | (refine Wdcgx (hp) ?_))
      exact endMR () _ (end1 (RV.cellA rfl List.mem_cons_self rfl rfl) (fin _ (ht_int _ (by omega)))) (List.mem_cons_of_mem _ List.mem_cons_self) (LeL.refl _)
theorem leN0 : Le (lit (.slice none 0 0)) (nat (0 : Rat).num.natAbs) := by
  rw [show (0 : Rat).num.natAbs = 0 from rfl, show nat 0 = dg [] from by show dg (dgs 0) = _; rw [dgs_zero]]
  exact le_nil
theorem leD0 : Le (lit (.slice none 0 0)) (dg (dden (0 : Rat).den)) := by
  rw [show (0 : Rat).den = 1 from rfl, dden_one]; exact le_nil
abbrev smallM : SV := ex fun m : { m : M6 Rat // m.le 1 } => rm m.1
theorem tmap_pu (zs : List Int) (hz : zs.length ≤ 400) : PuT 5 zs [] smallM := by
  have h0 : ht 0 ≤ 1 := by rw [show (0 : Rat) = ((0 : Int) : Rat) from rfl]; exact ht_int 0 (by omega)
  have h1 : ht 1 ≤ 1 := by rw [ht_one]; omega
  refine PuM.intro Tryz.func5 rfl (by kernel_rfl) fun C b => ?_
  repeat (first | (refine A1 ⟨?_⟩; intros) | (refine Wcx (rof1) ?_) | (refine Wdcx (rof1) ?_) | (refine Wcgx (rof1) ?_) | (refine Wdcgx (rof1) ?_))
  refine Wtx (tq_pu zs hz) (List.mem_cons_of_mem _ List.mem_cons_self) fun c => ?_
  repeat (refine A1 ⟨?_⟩; intros)
  refine Wtx (tq_pu zs hz) (List.mem_cons_of_mem _ List.mem_cons_self) fun f => ?_
  repeat (refine A1 ⟨?_⟩; intros)
  refine Wtx (next_pu zs hz 4 (by omega) (by omega)) (List.mem_cons_of_mem _ (List.mem_cons_of_mem _ List.mem_cons_self)) fun j => ?_
  obtain ⟨j, hj⟩ := j
  simp only []
  by_cases hj0 : j = 0
  · repeat (refine A1 ⟨?_⟩; intros)
    refine Wtx (tq_pu zs hz) (List.mem_cons_of_mem _ (List.mem_cons_of_mem _ List.mem_cons_self)) fun xa => ?_
    repeat (refine A1 ⟨?_⟩; intros)
    refine Wtx (tq_pu zs hz) (List.mem_cons_of_mem _ (List.mem_cons_of_mem _ List.mem_cons_self)) fun xb => ?_
    repeat (refine A1 ⟨?_⟩; intros)
    refine Wtx (tq_pu zs hz) (List.mem_cons_of_mem _ (List.mem_cons_of_mem _ List.mem_cons_self)) fun xd => ?_
    repeat (refine A1 ⟨?_⟩; intros)
    refine Wtx (tq_pu zs hz) (List.mem_cons_of_mem _ (List.mem_cons_of_mem _ List.mem_cons_self)) fun xe => ?_
    repeat (refine A1 ⟨?_⟩; intros)
    exact endMR () _ (end1 (RV.cellA rfl (List.mem_cons_of_mem _ List.mem_cons_self) rfl rfl) (Le.ex ⟨⟨xa.1, xb.1, c.1, xd.1, xe.1, f.1⟩, ⟨xa.2, xb.2, c.2, xd.2, xe.2, f.2⟩⟩ (Le.ag (by repeat (first | exact trivial | refine ⟨?_, ?_⟩ | exact Le.refl _ | exact leN0 | exact leD0))))) (List.mem_cons_of_mem _ (List.mem_cons_of_mem _ List.mem_cons_self)) (LeL.refl _)
  · by_cases hj1 : j = 1
    · repeat (first | (refine A1 ⟨?_⟩; intros) | (refine Wcx (rof1) ?_) | (refine Wdcx (rof1) ?_) | (refine Wcgx (rof1) ?_) | (refine Wdcgx (rof1) ?_))
      exact endMR () _ (end1 (RV.cellA rfl (List.mem_cons_of_mem _ List.mem_cons_self) rfl rfl) (Le.ex ⟨⟨0, 1, c.1, 1, 0, f.1⟩, ⟨h0, h1, c.2, h1, h0, f.2⟩⟩ (Le.ag (by repeat (first | exact trivial | refine ⟨?_, ?_⟩ | exact Le.refl _ | exact leN0 | exact leD0))))) (List.mem_cons_of_mem _ (List.mem_cons_of_mem _ List.mem_cons_self)) (LeL.refl _)
    · by_cases hj2 : j = 2
      · repeat (refine A1 ⟨?_⟩; intros)
        refine Wtx (tq_pu zs hz) (List.mem_cons_of_mem _ (List.mem_cons_of_mem _ List.mem_cons_self)) fun xb => ?_
        repeat (refine A1 ⟨?_⟩; intros)
        exact endMR () _ (end1 (RV.cellA rfl (List.mem_cons_of_mem _ List.mem_cons_self) rfl rfl) (Le.ex ⟨⟨1, xb.1, c.1, 0, 1, f.1⟩, ⟨h1, xb.2, c.2, h0, h1, f.2⟩⟩ (Le.ag (by repeat (first | exact trivial | refine ⟨?_, ?_⟩ | exact Le.refl _ | exact leN0 | exact leD0))))) (List.mem_cons_of_mem _ (List.mem_cons_of_mem _ List.mem_cons_self)) (LeL.refl _)
      · repeat (refine A1 ⟨?_⟩; intros)
        exact endMR () _ (end1 (RV.cellA rfl (List.mem_cons_of_mem _ List.mem_cons_self) rfl rfl) (Le.ex ⟨⟨1, 0, c.1, 0, 1, f.1⟩, ⟨h1, h0, c.2, h0, h1, f.2⟩⟩ (Le.ag (by repeat (first | exact trivial | refine ⟨?_, ?_⟩ | exact Le.refl _ | exact leN0 | exact leD0))))) (List.mem_cons_of_mem _ (List.mem_cons_of_mem _ List.mem_cons_self)) (LeL.refl _)
theorem regular_f {m : M6 Rat} {L : Nat} (h : m.le L) (hL : L ≤ 100000) (h0 : m.det = 0) [Sent 0] : Pu Tryz.prog 40 [mq m] (Ab.tup [mf m, lit (sent 0)]) := by
  have hd := adet_pu h (by omega)
  have ho := aof_q (m := m) ⟨Nat.le_trans h.a (by omega), Nat.le_trans h.b (by omega), Nat.le_trans h.c (by omega), Nat.le_trans h.d (by omega), Nat.le_trans h.e (by omega), Nat.le_trans h.f (by omega)⟩
  have hz := zero_pu m.det
  rw [show m.a * m.e - m.d * m.b = m.det from rfl] at hd
  rw [decide_eq_true (Rat.num_eq_zero.2 h0)] at hz
  refine Pu.intro Tryz.func40 rfl (by kernel_rfl) fun C => ?_
  repeat (first | (refine A1 ⟨?_⟩; intros) | (refine Wcx (ho) ?_) | (refine Wdcx (ho) ?_) | (refine Wcgx (ho) ?_) | (refine Wdcgx (ho) ?_) | (refine Wcx (hd) ?_) | (refine Wdcx (hd) ?_) | (refine Wcgx (hd) ?_) | (refine Wdcgx (hd) ?_) | (refine Wcx (hz) ?_) | (refine Wdcx (hz) ?_) | (refine Wcgx (hz) ?_) | (refine Wdcgx (hz) ?_))
  repeat' (first | (refine A1 ⟨?_⟩; intros) | exact WPI.nil | refine And.intro ?_ ?_)
  all_goals ((first | refine endR ?_ | refine endN ?_); exact end2 (RV.cellA rfl (by repeat (first | exact List.mem_cons_self | apply List.mem_cons_of_mem)) (by (try simp only [List.drop_succ_cons, List.drop_zero, List.drop_nil, List.take_succ_cons, List.take_zero, List.take_nil, Nat.zero_add, Nat.add_zero, Nat.reduceAdd]) <;> exact rfl) rfl) (RV.tmp rfl) (Le.refl _))
theorem regular_t {m : M6 Rat} {L : Nat} (h : m.le L) (hL : L ≤ 100000) (h0 : m.det ≠ 0) : Pu Tryz.prog 40 [mq m] (Ab.tup [mf m, lit .nilIface]) := by
  have hd := adet_pu h (by omega)
  have ho := aof_q (m := m) ⟨Nat.le_trans h.a (by omega), Nat.le_trans h.b (by omega), Nat.le_trans h.c (by omega), Nat.le_trans h.d (by omega), Nat.le_trans h.e (by omega), Nat.le_trans h.f (by omega)⟩
  have hz := zero_pu m.det
  rw [show m.a * m.e - m.d * m.b = m.det from rfl] at hd
  rw [decide_eq_false (fun e => h0 (Rat.num_eq_zero.1 e))] at hz
  refine Pu.intro Tryz.func40 rfl (by kernel_rfl) fun C => ?_
  repeat (first | (refine A1 ⟨?_⟩; intros) | (refine Wcx (ho) ?_) | (refine Wdcx (ho) ?_) | (refine Wcgx (ho) ?_) | (refine Wdcgx (ho) ?_) | (refine Wcx (hd) ?_) | (refine Wdcx (hd) ?_) | (refine Wcgx (hd) ?_) | (refine Wdcgx (hd) ?_) | (refine Wcx (hz) ?_) | (refine Wdcx (hz) ?_) | (refine Wcgx (hz) ?_) | (refine Wdcgx (hz) ?_))
  ((first | refine endR ?_ | refine endN ?_); exact end2 (RV.cellA rfl (by repeat (first | exact List.mem_cons_self | apply List.mem_cons_of_mem)) (by (try simp only [List.drop_succ_cons, List.drop_zero, List.drop_nil, List.take_succ_cons, List.take_zero, List.take_nil, Nat.zero_add, Nat.add_zero, Nat.reduceAdd]) <;> exact rfl) rfl) (RV.tmp rfl) (Le.refl _))
theorem ht_g3 {a b c : Rat} {L : Nat} (ha : ht a ≤ L) (hb : ht b ≤ L) (hc : ht c ≤ L) : ht (rgcd a b) ≤ 2 * L + 1 ∧ ht (g3 a b c) ≤ 3 * L + 2 ∧ ht (g3 a b c)⁻¹ ≤ 3 * L + 3 := by
  have h1 := ht_rgcd a b
  have h2 := ht_rgcd (rgcd a b) c
  have h3 := ht_inv (g3 a b c)
  have e : g3 a b c = rgcd (rgcd a b) c := rfl
  rw [← e] at h2
  omega
set_option maxRecDepth 20000 in
set_option maxHeartbeats 1000000 in
theorem make_pu (a b c : Rat) {L : Nat} (hL : L ≤ 100000) (ha : ht a ≤ L) (hb : ht b ≤ L) (hc : ht c ≤ L) (h : a ≠ 0 ∨ b ≠ 0) : Pu Tryz.prog 89 [fr a, fr b, fr c] (Ab.tup [lf (prim a b c).a (prim a b c).b (prim a b c).c, lit (.bool true)]) := by
  obtain ⟨h1, h2, h3⟩ := ht_g3 ha hb hc
  have c1 := zero_pu a
  have c2 := zero_pu b
  have c3 := frgcd_pu a b (by omega) (by omega)
  have c4 := frgcd_pu (rgcd a b) c (by omega) (by omega)
  have c5 : Pu Tryz.prog 136 [fr (rgcd (rgcd a b) c)] (fr (g3 a b c)⁻¹) := inv_pu (g3 a b c) (by omega)
  obtain ⟨e1, e2, e3⟩ := prim_eq (c := c) h
  have c6 := fun b0 => scaled_pu b0 (g3 a b c)⁻¹ a b c (by omega) (by omega) (by omega) (by omega)
  rw [e1, e2, e3] at c6
  generalize (g3 a b c)⁻¹ = q at *
  generalize rgcd a b = r1 at *
  generalize rgcd r1 c = r2 at *
  clear e1 e2 e3
  by_cases h0 : a.num = 0
  · have h9 : b.num ≠ 0 := fun e => by
      rcases h with h | h
      · exact h (Rat.num_eq_zero.1 h0)
      · exact h (Rat.num_eq_zero.1 e)
    rw [decide_eq_true h0] at c1
    rw [decide_eq_false h9] at c2
    clear h0 h9 h
    refine Pu.intro Tryz.func89 rfl (by kernel_rfl) fun C => ?_
    repeat (first | (refine AS ⟨?_⟩; intros) | (refine O1 ⟨?_⟩; intros) | (refine Wcx (c1) ?_) | (refine Wcgx (c1) ?_) | (refine Wcx (c2) ?_) | (refine Wcgx (c2) ?_))
    refine WdN 10 ?_
    repeat (first | (refine A1 ⟨?_⟩; intros) | (refine Wcx (c3) ?_) | (refine Wdcx (c3) ?_) | (refine Wcgx (c3) ?_) | (refine Wdcgx (c3) ?_) | (refine Wcx (c4) ?_) | (refine Wdcx (c4) ?_) | (refine Wcgx (c4) ?_) | (refine Wdcgx (c4) ?_) | (refine Wcx (c5) ?_) | (refine Wdcx (c5) ?_) | (refine Wcgx (c5) ?_) | (refine Wdcgx (c5) ?_))
    simp only [List.drop_succ_cons, List.drop_zero]
    refine WfT (c6 _) ?_
    rintro _ _ ⟨rfl, rfl⟩
    repeat (refine A1 ⟨?_⟩; intros)
    ((first | refine endR ?_ | refine endN ?_); exact end2 (RV.cellA rfl (by repeat (first | exact List.mem_cons_self | apply List.mem_cons_of_mem)) (by (try simp only [List.drop_succ_cons, List.drop_zero, List.drop_nil, List.take_succ_cons, List.take_zero, List.take_nil, Nat.zero_add, Nat.add_zero, Nat.reduceAdd]) <;> exact rfl) rfl) (RV.tmp rfl) (Le.refl _))
  · rw [decide_eq_false h0] at c1
    clear h0 h
    refine Pu.intro Tryz.func89 rfl (by kernel_rfl) fun C => ?_
    repeat (first | (refine AS ⟨?_⟩; intros) | (refine O1 ⟨?_⟩; intros) | (refine Wcx (c1) ?_) | (refine Wcgx (c1) ?_))
    refine WdN 10 ?_
    repeat (first | (refine A1 ⟨?_⟩; intros) | (refine Wcx (c3) ?_) | (refine Wdcx (c3) ?_) | (refine Wcgx (c3) ?_) | (refine Wdcgx (c3) ?_) | (refine Wcx (c4) ?_) | (refine Wdcx (c4) ?_) | (refine Wcgx (c4) ?_) | (refine Wdcgx (c4) ?_) | (refine Wcx (c5) ?_) | (refine Wdcx (c5) ?_) | (refine Wcgx (c5) ?_) | (refine Wdcgx (c5) ?_))
    simp only [List.drop_succ_cons, List.drop_zero]
    refine WfT (c6 _) ?_
    rintro _ _ ⟨rfl, rfl⟩
    repeat (refine A1 ⟨?_⟩; intros)
    ((first | refine endR ?_ | refine endN ?_); exact end2 (RV.cellA rfl (by repeat (first | exact List.mem_cons_self | apply List.mem_cons_of_mem)) (by (try simp only [List.drop_succ_cons, List.drop_zero, List.drop_nil, List.take_succ_cons, List.take_zero, List.take_nil, Nat.zero_add, Nat.add_zero, Nat.reduceAdd]) <;> exact rfl) rfl) (RV.tmp rfl) (Le.refl _))
theorem prim_le {a b c : Rat} {L : Nat} (ha : ht a ≤ L) (hb : ht b ≤ L) (hc : ht c ≤ L) : (prim a b c).le (4 * L + 4) := by
  obtain ⟨_, _, h3⟩ := ht_g3 ha hb hc
  have k1 := ht_mul a (g3 a b c)⁻¹
  have k2 := ht_mul b (g3 a b c)⁻¹
  have k3 := ht_mul c (g3 a b c)⁻¹
  have n1 := ht_num (a * (g3 a b c)⁻¹)
  have n2 := ht_num (b * (g3 a b c)⁻¹)
  have n3 := ht_num (c * (g3 a b c)⁻¹)
  unfold prim
  constructor <;> simp only <;> omega
theorem Li.im_le {m : M6 Rat} {l : Li} {L : Nat} (hm : m.le L) (h : l.le L) (h1 : 1 ≤ L) : (l.im m).le (200 * L + 200) := by
  have hi := M6.inv_le hm
  obtain ⟨i1, i2, i3, i4, i5, i6⟩ := hi
  obtain ⟨ha, hb, hc⟩ := h
  have e1 := ht_of_int l.a
  have e2 := ht_of_int l.b
  have e3 := ht_of_int l.c
  have k1 := ht_mul (l.a : Rat) m.inv.a
  have k2 := ht_mul (l.b : Rat) m.inv.d
  have k3 := ht_mul (l.a : Rat) m.inv.b
  have k4 := ht_mul (l.b : Rat) m.inv.e
  have k5 := ht_mul (l.a : Rat) m.inv.c
  have k6 := ht_mul (l.b : Rat) m.inv.f
  have j1 := ht_add ((l.a : Rat) * m.inv.a) (l.b * m.inv.d)
  have j2 := ht_add ((l.a : Rat) * m.inv.b) (l.b * m.inv.e)
  have j3 := ht_add ((l.a : Rat) * m.inv.c) (l.b * m.inv.f)
  have j4 := ht_add ((l.a : Rat) * m.inv.c + l.b * m.inv.f) l.c
  unfold Li.im
  have := prim_le (a := l.a * m.inv.a + l.b * m.inv.d) (b := l.a * m.inv.b + l.b * m.inv.e) (c := l.a * m.inv.c + l.b * m.inv.f + l.c) (L := 46 * L + 48) (by omega) (by omega) (by omega)
  exact ⟨Nat.le_trans this.a (by omega), Nat.le_trans this.b (by omega), Nat.le_trans this.c (by omega)⟩
set_option maxHeartbeats 1000000 in
theorem lnOf_pu {l : Li} (hl : l.ok) (h : l.le 100000) : Pu Tryz.prog 39 [lq l] (Ab.tup [lf l.a l.b l.c, lit (.bool true)]) := by
  obtain ⟨ha, hb, hc⟩ := h
  have e1 := ht_of_int l.a
  have e2 := ht_of_int l.b
  have e3 := ht_of_int l.c
  have n1 := intNormal_z l.a (by omega)
  have n2 := intNormal_z l.b (by omega)
  have n3 := intNormal_z l.c (by omega)
  have w1 := whole_pu l.a (by omega)
  have w2 := whole_pu l.b (by omega)
  have w3 := whole_pu l.c (by omega)
  have z1 := zero_pu (l.a : Rat)
  have z2 := zero_pu (l.b : Rat)
  rw [Rat.num_intCast] at z1 z2
  have hg1 := ht_rgcd (l.a : Rat) (l.b : Rat)
  have g1 := frgcd_pu (l.a : Rat) (l.b : Rat) (by omega) (by omega)
  have g2 := frgcd_pu (rgcd l.a l.b) (l.c : Rat) (by omega) (by omega)
  have hg : rgcd (rgcd l.a l.b) l.c = 1 := by
    rw [rgcd_ints, show ((Nat.gcd l.a.natAbs l.b.natAbs : Nat) : Rat) = (((Nat.gcd l.a.natAbs l.b.natAbs : Nat) : Int) : Rat) from rfl, rgcd_ints, Int.natAbs_natCast, hl.1]; rfl
  rw [hg] at g2
  generalize rgcd (l.a : Rat) (l.b : Rat) = G at *
  have f1 : Pu Tryz.prog 84 [lit (.int .i64 1)] (fr 1) := fint_pu 1 (by omega) (by omega)
  have q := fequal_pu 1 1 (by decide +kernel) (by decide +kernel)
  rw [decide_eq_true rfl] at q
  have hne := hl.2
  clear hg hg1 e1 e2 e3 ha hb hc hl
  by_cases h0 : l.a = 0
  · have h9 : l.b ≠ 0 := by
      rcases hne with h | h
      · exact absurd h0 h
      · exact h
    rw [decide_eq_true h0] at z1
    rw [decide_eq_false h9] at z2
    clear hne h9 h0
    refine Pu.intro Tryz.func39 rfl (by kernel_rfl) fun C => ?_
    repeat (first | (refine A1 ⟨?_⟩; intros) | (refine Wcx (n1) ?_) | (refine Wdcx (n1) ?_) | (refine Wcgx (n1) ?_) | (refine Wdcgx (n1) ?_) | (refine Wcx (n2) ?_) | (refine Wdcx (n2) ?_) | (refine Wcgx (n2) ?_) | (refine Wdcgx (n2) ?_) | (refine Wcx (n3) ?_) | (refine Wdcx (n3) ?_) | (refine Wcgx (n3) ?_) | (refine Wdcgx (n3) ?_) | (refine Wcx (w1) ?_) | (refine Wdcx (w1) ?_) | (refine Wcgx (w1) ?_) | (refine Wdcgx (w1) ?_) | (refine Wcx (w2) ?_) | (refine Wdcx (w2) ?_) | (refine Wcgx (w2) ?_) | (refine Wdcgx (w2) ?_) | (refine Wcx (w3) ?_) | (refine Wdcx (w3) ?_) | (refine Wcgx (w3) ?_) | (refine Wdcgx (w3) ?_) | (refine Wcx (z1) ?_) | (refine Wdcx (z1) ?_) | (refine Wcgx (z1) ?_) | (refine Wdcgx (z1) ?_) | (refine Wcx (z2) ?_) | (refine Wdcx (z2) ?_) | (refine Wcgx (z2) ?_) | (refine Wdcgx (z2) ?_) | (refine Wcx (g1) ?_) | (refine Wdcx (g1) ?_) | (refine Wcgx (g1) ?_) | (refine Wdcgx (g1) ?_) | (refine Wcx (g2) ?_) | (refine Wdcx (g2) ?_) | (refine Wcgx (g2) ?_) | (refine Wdcgx (g2) ?_) | (refine Wcx (f1) ?_) | (refine Wdcx (f1) ?_) | (refine Wcgx (f1) ?_) | (refine Wdcgx (f1) ?_) | (refine Wcx (q) ?_) | (refine Wdcx (q) ?_) | (refine Wcgx (q) ?_) | (refine Wdcgx (q) ?_))
    ((first | refine endR ?_ | refine endN ?_); exact end2 (RV.cellA rfl (by repeat (first | exact List.mem_cons_self | apply List.mem_cons_of_mem)) (by (try simp only [List.drop_succ_cons, List.drop_zero, List.drop_nil, List.take_succ_cons, List.take_zero, List.take_nil, Nat.zero_add, Nat.add_zero, Nat.reduceAdd]) <;> exact rfl) rfl) (RV.tmp rfl) (Le.refl _))
  · rw [decide_eq_false h0] at z1
    clear hne h0 z2
    refine Pu.intro Tryz.func39 rfl (by kernel_rfl) fun C => ?_
    repeat (first | (refine A1 ⟨?_⟩; intros) | (refine Wcx (n1) ?_) | (refine Wdcx (n1) ?_) | (refine Wcgx (n1) ?_) | (refine Wdcgx (n1) ?_) | (refine Wcx (n2) ?_) | (refine Wdcx (n2) ?_) | (refine Wcgx (n2) ?_) | (refine Wdcgx (n2) ?_) | (refine Wcx (n3) ?_) | (refine Wdcx (n3) ?_) | (refine Wcgx (n3) ?_) | (refine Wdcgx (n3) ?_) | (refine Wcx (w1) ?_) | (refine Wdcx (w1) ?_) | (refine Wcgx (w1) ?_) | (refine Wdcgx (w1) ?_) | (refine Wcx (w2) ?_) | (refine Wdcx (w2) ?_) | (refine Wcgx (w2) ?_) | (refine Wdcgx (w2) ?_) | (refine Wcx (w3) ?_) | (refine Wdcx (w3) ?_) | (refine Wcgx (w3) ?_) | (refine Wdcgx (w3) ?_) | (refine Wcx (z1) ?_) | (refine Wdcx (z1) ?_) | (refine Wcgx (z1) ?_) | (refine Wdcgx (z1) ?_) | (refine Wcx (g1) ?_) | (refine Wdcx (g1) ?_) | (refine Wcgx (g1) ?_) | (refine Wdcgx (g1) ?_) | (refine Wcx (g2) ?_) | (refine Wdcx (g2) ?_) | (refine Wcgx (g2) ?_) | (refine Wdcgx (g2) ?_) | (refine Wcx (f1) ?_) | (refine Wdcx (f1) ?_) | (refine Wcgx (f1) ?_) | (refine Wdcgx (f1) ?_) | (refine Wcx (q) ?_) | (refine Wdcx (q) ?_) | (refine Wcgx (q) ?_) | (refine Wdcgx (q) ?_))
    ((first | refine endR ?_ | refine endN ?_); exact end2 (RV.cellA rfl (by repeat (first | exact List.mem_cons_self | apply List.mem_cons_of_mem)) (by (try simp only [List.drop_succ_cons, List.drop_zero, List.drop_nil, List.take_succ_cons, List.take_zero, List.take_nil, Nat.zero_add, Nat.add_zero, Nat.reduceAdd]) <;> exact rfl) rfl) (RV.tmp rfl) (Le.refl _))
set_option maxHeartbeats 1000000 in
theorem aline_pu {m : M6 Rat} {l : Li} {L : Nat} (hm : m.le L) (h : l.le L) (h1 : 1 ≤ L) (hL : L ≤ 400) (hdet : m.det ≠ 0) (hl : l.ok) : Pu Tryz.prog 41 [mf m, lf l.a l.b l.c] (lf (l.im m).a (l.im m).b (l.im m).c) := by
  have c1 := inverse_pu hm (by omega)
  obtain ⟨i1, i2, i3, i4, i5, i6⟩ := M6.inv_le hm
  obtain ⟨ha, hb, hc⟩ := h
  have e1 := ht_of_int l.a
  have e2 := ht_of_int l.b
  have e3 := ht_of_int l.c
  have k1 := ht_mul (l.a : Rat) m.inv.a
  have k2 := ht_mul (l.b : Rat) m.inv.d
  have k3 := ht_mul (l.a : Rat) m.inv.b
  have k4 := ht_mul (l.b : Rat) m.inv.e
  have k5 := ht_mul (l.a : Rat) m.inv.c
  have k6 := ht_mul (l.b : Rat) m.inv.f
  have j1 := ht_add ((l.a : Rat) * m.inv.a) (l.b * m.inv.d)
  have j2 := ht_add ((l.a : Rat) * m.inv.b) (l.b * m.inv.e)
  have j3 := ht_add ((l.a : Rat) * m.inv.c) (l.b * m.inv.f)
  have j4 := ht_add ((l.a : Rat) * m.inv.c + l.b * m.inv.f) l.c
  have c2 := lnormal_pu l.a l.b l.c
  have c3 := pdot_pu l.a l.b m.inv.a m.inv.d (by omega) (by omega) (by omega) (by omega)
  have c4 := pdot_pu l.a l.b m.inv.b m.inv.e (by omega) (by omega) (by omega) (by omega)
  have c5 := lvalue_pu l.a l.b l.c m.inv.c m.inv.f (by omega) (by omega) (by omega) (by omega) (by omega)
  have c6 := make_pu (l.a * m.inv.a + l.b * m.inv.d) (l.a * m.inv.b + l.b * m.inv.e) (l.a * m.inv.c + l.b * m.inv.f + l.c) (L := 46 * L + 48) (by omega) (by omega) (by omega) (by omega) (Li.im_ne hdet hl)
  rw [show prim (l.a * m.inv.a + l.b * m.inv.d) (l.a * m.inv.b + l.b * m.inv.e) (l.a * m.inv.c + l.b * m.inv.f + l.c) = l.im m from rfl] at c6
  generalize l.im m = l' at *
  clear k1 k2 k3 k4 k5 k6 j1 j2 j3 j4 e1 e2 e3 i1 i2 i3 i4 i5 i6 ha hb hc
  refine Pu.intro Tryz.func41 rfl (by kernel_rfl) fun C => ?_
  repeat (first | (refine A1 ⟨?_⟩; intros) | (refine Wcx (c1) ?_) | (refine Wdcx (c1) ?_) | (refine Wcgx (c1) ?_) | (refine Wdcgx (c1) ?_) | (refine Wcx (c2) ?_) | (refine Wdcx (c2) ?_) | (refine Wcgx (c2) ?_) | (refine Wdcgx (c2) ?_) | (refine Wcx (c3) ?_) | (refine Wdcx (c3) ?_) | (refine Wcgx (c3) ?_) | (refine Wdcgx (c3) ?_) | (refine Wcx (c4) ?_) | (refine Wdcx (c4) ?_) | (refine Wcgx (c4) ?_) | (refine Wdcgx (c4) ?_) | (refine Wcx (c5) ?_) | (refine Wdcx (c5) ?_) | (refine Wcgx (c5) ?_) | (refine Wdcgx (c5) ?_) | (refine Wcx (c6) ?_) | (refine Wdcx (c6) ?_) | (refine Wcgx (c6) ?_) | (refine Wdcgx (c6) ?_))
  ((first | refine endR ?_ | refine endN ?_); refine end1 (RV.cellA rfl (by repeat (first | exact List.mem_cons_self | apply List.mem_cons_of_mem)) (by (try simp only [List.drop_succ_cons, List.drop_zero, List.drop_nil, List.take_succ_cons, List.take_zero, List.take_nil, Nat.zero_add, Nat.add_zero, Nat.reduceAdd]) <;> exact rfl) rfl) (Le.refl _))
theorem aLine_t {m : M6 Rat} {l : Li} {L : Nat} (hm : m.le L) (h : l.le L) (h1 : 1 ≤ L) (hL : L ≤ 400) (hdet : m.det ≠ 0) (hl : l.ok) : Pu Tryz.prog 10 [mq m, lq l] (Ab.tup [lq (l.im m), lit .nilIface]) := by
  have c1 := lnOf_pu hl ⟨Nat.le_trans h.a (by omega), Nat.le_trans h.b (by omega), Nat.le_trans h.c (by omega)⟩
  have c2 := regular_t hm (by omega) hdet
  have c3 := aline_pu hm h h1 hL hdet hl
  have hi := Li.im_le hm h h1
  have c4 := lapi_pu (l.im m) ⟨Nat.le_trans hi.a (by omega), Nat.le_trans hi.b (by omega), Nat.le_trans hi.c (by omega)⟩
  generalize l.im m = l' at *
  clear hi
  refine Pu.intro Tryz.func10 rfl (by kernel_rfl) fun C => ?_
  repeat (first | (refine A1 ⟨?_⟩; intros) | (refine Wcx (c1) ?_) | (refine Wdcx (c1) ?_) | (refine Wcgx (c1) ?_) | (refine Wdcgx (c1) ?_) | (refine Wcx (c2) ?_) | (refine Wdcx (c2) ?_) | (refine Wcgx (c2) ?_) | (refine Wdcgx (c2) ?_) | (refine Wcx (c3) ?_) | (refine Wdcx (c3) ?_) | (refine Wcgx (c3) ?_) | (refine Wdcgx (c3) ?_) | (refine Wcx (c4) ?_) | (refine Wdcx (c4) ?_) | (refine Wcgx (c4) ?_) | (refine Wdcgx (c4) ?_))
  ((first | refine endR ?_ | refine endN ?_); exact end2 (RV.cellA rfl (by repeat (first | exact List.mem_cons_self | apply List.mem_cons_of_mem)) (by (try simp only [List.drop_succ_cons, List.drop_zero, List.drop_nil, List.take_succ_cons, List.take_zero, List.take_nil, Nat.zero_add, Nat.add_zero, Nat.reduceAdd]) <;> exact rfl) rfl) (RV.tmp rfl) (Le.refl _))
section
variable {P : Program} {F : Fr} {H : LH} {ty : TypeId}
theorem ov_fieldA {S : TypeId} {fs : List (Nat × Nat)} [TSt P S fs] {x : Operand} {f off sz : Nat} {cs cs' : List SV} (hx : ev F x = ag cs) (_hf : fs[f]? = some (off, sz)) (hk : fieldK P S f = some (off, true, sz)) (hc : (cs.drop off).take sz = cs') : OpV P (.field S x f) ty F H (ag cs') :=
  OpV.pure fun m w o a ho _ _ _ h => by
    have h0 := h x (by simp [Op.operands]); rw [hx] at h0
    unfold ag at h0
    obtain ⟨arr, h0, hall⟩ := h0
    have hall' := (hall.drop off).take sz
    rw [hc] at hall'
    unfold fieldK at hk
    cases hu : P.underlying S with
    | none => rw [hu] at hk; cases hk
    | some d =>
      rw [hu] at hk
      cases d with
      | struct A =>
        simp only [Option.bind_eq_some_iff, Option.map_eq_some_iff, Prod.mk.injEq] at hk
        obtain ⟨fl, hfl, d, hd, i, hi, e1, e2, e3⟩ := hk
        have hg : (isAgg fl.type).run P w = .ok true w := by
          cases d <;> first | (cases e2; done) | simp [isAgg, underlying, hd]
        have hs : (sizeOf fl.type).run P w = .ok i.size w := by
          simp [sizeOf, typeInfo, hi]
        refine ⟨.agg (arr.extract off (off + sz)), ?_, by unfold ag; exact ⟨_, rfl, by
          have e : (arr.extract off (off + sz)).toList = (arr.toList.drop off).take sz := by
            simp [List.take_drop, Nat.add_sub_cancel_left]
          rw [e]; exact hall'⟩⟩
        simp [execOp, ho, h0, Instr.field, underlying, hu, hfl, asAgg, part, hg, hs, e1, e3]
      | _ => cases hk
theorem nk_make {T e : TypeId} {by_ : Nat} {z0 : SV} {g : Bool} [hS : TSl P T e] [hT : TY P e 1 by_ [z0] g] {x y : Operand} {k : Nat}
    (hx : ev F x = lit (.int .i64 k)) (hy : ev F y = lit (.int .i64 k)) (hk : k * by_ ≤ 140737488355328) (hk' : k ≤ 9223372036854775807) : NewOk P (.makeSlice T x y) F e (List.replicate k z0) (mkS k) := by
  intro w o a ho ⟨m0, hm0⟩
  obtain ⟨v, hz, hall⟩ := hT.run_zero w
  obtain ⟨i, v', hi, hsz, hby, hz', _, hfl, hvs⟩ := hT.run_bytes
  have hvv : v = v' := by simp [zeroValue, typeInfo, hi, hz'] at hz; exact hz.symm
  subst hvv
  have e0 := evN hm0 (x := x) (by simp [Op.operands]); rw [hx, lit_p] at e0
  have e1 := evN hm0 (x := y) (by simp [Op.operands]); rw [hy, lit_p] at e1
  have hw : IntKind.i64.wrap (k : Int) = k := by
    simp only [IntKind.wrap, IntKind.bits, IntKind.signed, Bool.true_and]
    have h1 : ¬ (9223372036854775808 : Int) ≤ (k : Int) % 18446744073709551616 := by omega
    simp [h1]; omega
  obtain ⟨c0, hc0⟩ : ∃ c0, v.cells = #[c0] := by
    have : v.cells.size = 1 := hvs
    rcases hvc : v.cells with ⟨l⟩
    rw [hvc] at this
    match l, this with
    | [c0], _ => exact ⟨c0, rfl⟩
  have hrun : (execOp a.eval o).run P w = .ok (.value (.slice (some ⟨w.heap.size, 0, none⟩) k k)) (w.alloc (.cells (List.replicate k c0).toArray e)) := by
    have hb : ¬ ((by_ : Int) * (k : Int) > 281474976710656) := by
      have : (by_ * k : Nat) ≤ 281474976710656 := by rw [Nat.mul_comm]; omega
      have h2 : ((by_ * k : Nat) : Int) ≤ 281474976710656 := by omega
      rw [Int.natCast_mul] at h2; omega
    have hk0 : ¬ ((k : Int) < 0) := by omega
    have harr : (Array.range k).map (fun j => v.cells[j % v.cells.size]!) = (List.replicate k c0).toArray := by
      rw [hc0]
      apply Array.ext
      · simp
      · intro j h1 h2; simp [Nat.mod_one]
    simp only [execOp, ho, Instr.makeSlice, e0, e1, Sem.run_bind, underlying, run_program, hS.h, Result.andThen_ok, Sem.run_pure, asInt, asIntOf, typeInfo, hi, hw, hby]
    have hcond : ((decide ((k : Int) < 0) || decide ((by_ : Int) * (k : Int) > 2 ^ 48)) || decide ((k : Int) < 0) || decide ((k : Int) > (k : Int))) = false := by
      simp only [Bool.or_eq_false_iff, decide_eq_false_iff_not]
      refine ⟨⟨⟨hk0, ?_⟩, hk0⟩, by omega⟩
      have : (2 : Int) ^ 48 = 281474976710656 := by decide
      rw [this]; exact hb
    simp only [hcond, Bool.false_eq_true, if_false, Int.toNat_natCast, Sem.run_bind, run_askRoom, Result.andThen_ok, hT.run_size, Nat.mul_one, newRow]
    by_cases hk : k = 0
    · subst hk; simp [show (Array.range 0) = #[] from rfl]
    · simp only [hk, if_false, Sem.run_bind, hz, Result.andThen_ok, Sem.run_pure, harr, run_newObj, World.alloc_eq]
  refine ⟨_, hrun, fun m _ => ?_⟩
  have := hall m
  rw [hc0] at this
  exact All2.replicate this.1.1 this.1.2 k
end
theorem rmakeL_pu {a b : Int} (c : Int) (ha : il a ≤ 1000000) (hb : il b ≤ 1000000) (hc : il c ≤ 1000000) (h : a ≠ 0 ∨ b ≠ 0) : Pu Tryz.prog 76 [int a, int b, int c] (Ab.tup [lq (prim a b c), lit (.bool true)]) := by
  have hg := g_ne c h
  have hg1 : Nat.gcd a.natAbs b.natAbs ≠ 0 := fun e => by rw [Nat.gcd_eq_zero_iff] at e; omega
  have k1 := dlen_gcd_le (a := a.natAbs) (b := b.natAbs) (n := 1000000) ha hb
  have c1 := rcommon_pu a.natAbs b.natAbs (show il a ≤ _ by omega) (show il b ≤ _ by omega)
  have c2 := rcommon_pu (Nat.gcd a.natAbs b.natAbs) c.natAbs (by omega) (show il c ≤ _ by omega)
  have k2 := dlen_gcd_le (a := Nat.gcd a.natAbs b.natAbs) (b := c.natAbs) (n := 1000000) k1 hc
  have e := prim_ints c h
  have ea := congrArg Li.a e
  have eb := congrArg Li.b e
  have ec := congrArg Li.c e
  clear e
  simp only at ea eb ec
  generalize prim a b c = l at *
  have hn1 := dgs_ne_nil hg1
  generalize Nat.gcd a.natAbs b.natAbs = g1 at *
  generalize Nat.gcd g1 c.natAbs = g at *
  have d1 := rdivide_pu a.natAbs g hg (show il a ≤ _ by omega) (by omega)
  have d2 := rdivide_pu b.natAbs g hg (show il b ≤ _ by omega) (by omega)
  have d3 := rdivide_pu c.natAbs g hg (show il c ≤ _ by omega) (by omega)
  have m1 := rmake_pu (decide (a < 0)) (a.natAbs / g) (Nat.le_trans (len_mono (Nat.div_le_self _ _)) (show il a ≤ _ by omega))
  have m2 := rmake_pu (decide (b < 0)) (b.natAbs / g) (Nat.le_trans (len_mono (Nat.div_le_self _ _)) (show il b ≤ _ by omega))
  have m3 := rmake_pu (decide (c < 0)) (c.natAbs / g) (Nat.le_trans (len_mono (Nat.div_le_self _ _)) (show il c ≤ _ by omega))
  rw [← ea] at m1
  rw [← eb] at m2
  rw [← ec] at m3
  clear ea eb ec ha hb hc hg hg1 k1 k2 h
  refine Pu.intro Tryz.func76 rfl (by kernel_rfl) fun C => ?_
  repeat (first | (refine A1 ⟨?_⟩; intros) | (refine Wcx (c1) ?_) | (refine Wdcx (c1) ?_) | (refine Wcgx (c1) ?_) | (refine Wdcgx (c1) ?_) | (refine Wcx (c2) ?_) | (refine Wdcx (c2) ?_) | (refine Wcgx (c2) ?_) | (refine Wdcgx (c2) ?_) | (refine Wcx (d1) ?_) | (refine Wdcx (d1) ?_) | (refine Wcgx (d1) ?_) | (refine Wdcgx (d1) ?_) | (refine Wcx (d2) ?_) | (refine Wdcx (d2) ?_) | (refine Wcgx (d2) ?_) | (refine Wdcgx (d2) ?_) | (refine Wcx (d3) ?_) | (refine Wdcx (d3) ?_) | (refine Wcgx (d3) ?_) | (refine Wdcgx (d3) ?_) | (refine Wcx (m1) ?_) | (refine Wdcx (m1) ?_) | (refine Wcgx (m1) ?_) | (refine Wdcgx (m1) ?_) | (refine Wcx (m2) ?_) | (refine Wdcx (m2) ?_) | (refine Wcgx (m2) ?_) | (refine Wdcgx (m2) ?_) | (refine Wcx (m3) ?_) | (refine Wdcx (m3) ?_) | (refine Wcgx (m3) ?_) | (refine Wdcgx (m3) ?_))
  ((first | refine endR ?_ | refine endN ?_); exact end2 (RV.cellA rfl (by repeat (first | exact List.mem_cons_self | apply List.mem_cons_of_mem)) (by (try simp only [List.drop_succ_cons, List.drop_zero, List.drop_nil, List.take_succ_cons, List.take_zero, List.take_nil, Nat.zero_add, Nat.add_zero, Nat.reduceAdd]) <;> exact rfl) rfl) (RV.tmp rfl) (Le.refl _))
theorem rgq_pu (a : Int) : Pu Tryz.prog 115 [int a] (rq (a : Rat)) := by
  rw [rq_int]
  refine Pu.intro Tryz.func115 rfl (by kernel_rfl) fun C => ?_
  repeat (refine A1 ⟨?_⟩; intros)
  exact endR (end1 (RV.cellA rfl List.mem_cons_self rfl rfl) (Le.ag ⟨Le.refl _, Le.refl _, le_nil, trivial⟩))
theorem rsub_pt (x y u v : Rat) (hx : ht x ≤ 100000) (hy : ht y ≤ 100000) (hu : ht u ≤ 100000) (hv : ht v ≤ 100000) : Pu Tryz.prog 70 [rp x y, rp u v] (rp (x - u) (y - v)) := by
  have o := rof_pu (-1) (by omega) (by omega)
  have h1 : ht ((-1 : Int) : Rat) ≤ 1 := ht_int _ (by omega)
  have a := gadd_pu x y ((-1 : Int) : Rat) u v (by omega) (by omega) (by omega) (by omega) (by omega)
  have e : ∀ x u : Rat, x + ((-1 : Int) : Rat) * u = x - u := fun x u => by rw [show ((-1 : Int) : Rat) = -1 from rfl]; grind
  rw [e, e] at a
  refine Pu.intro Tryz.func70 rfl (by kernel_rfl) fun C => ?_
  repeat (first | (refine A1 ⟨?_⟩; intros) | (refine Wcx (o) ?_) | (refine Wdcx (o) ?_) | (refine Wcgx (o) ?_) | (refine Wdcgx (o) ?_) | (refine Wcx (a) ?_) | (refine Wdcx (a) ?_) | (refine Wcgx (a) ?_) | (refine Wdcgx (a) ?_))
  ((first | refine endR ?_ | refine endN ?_); refine end1 (RV.cellA rfl (by repeat (first | exact List.mem_cons_self | apply List.mem_cons_of_mem)) (by (try simp only [List.drop_succ_cons, List.drop_zero, List.drop_nil, List.take_succ_cons, List.take_zero, List.take_nil, Nat.zero_add, Nat.add_zero, Nat.reduceAdd]) <;> exact rfl) rfl) (Le.refl _))
theorem rdir_pu (l : Li) (h : l.le 1000000) : Pu Tryz.prog 66 [lq l] (rp (l.b : Rat) (-(l.a : Rat))) := by
  have q1 := rgq_pu l.b
  have q2 := rgq_pu l.a
  have o := ropp_pu (l.a : Rat) (by rw [ht_of_int]; have := h.a; omega)
  refine Pu.intro Tryz.func66 rfl (by kernel_rfl) fun C => ?_
  repeat (first | (refine A1 ⟨?_⟩; intros) | (refine Wcx (q1) ?_) | (refine Wdcx (q1) ?_) | (refine Wcgx (q1) ?_) | (refine Wdcgx (q1) ?_) | (refine Wcx (q2) ?_) | (refine Wdcx (q2) ?_) | (refine Wcgx (q2) ?_) | (refine Wdcgx (q2) ?_) | (refine Wcx (o) ?_) | (refine Wdcx (o) ?_) | (refine Wcgx (o) ?_) | (refine Wdcgx (o) ?_))
  ((first | refine endR ?_ | refine endN ?_); refine end1 (RV.cellA rfl (by repeat (first | exact List.mem_cons_self | apply List.mem_cons_of_mem)) (by (try simp only [List.drop_succ_cons, List.drop_zero, List.drop_nil, List.take_succ_cons, List.take_zero, List.take_nil, Nat.zero_add, Nat.add_zero, Nat.reduceAdd]) <;> exact rfl) rfl) (Le.refl _))
theorem rrev_pu (l : Li) (h : l.le 1000000) : Pu Tryz.prog 67 [lq l] (lq l.neg) := by
  have m1 := rminus_int l.a (show il l.a ≤ _ by have := h.a; omega)
  have m2 := rminus_int l.b (show il l.b ≤ _ by have := h.b; omega)
  have m3 := rminus_int l.c (show il l.c ≤ _ by have := h.c; omega)
  refine Pu.intro Tryz.func67 rfl (by kernel_rfl) fun C => ?_
  repeat (first | (refine A1 ⟨?_⟩; intros) | (refine Wcx (m1) ?_) | (refine Wdcx (m1) ?_) | (refine Wcgx (m1) ?_) | (refine Wdcgx (m1) ?_) | (refine Wcx (m2) ?_) | (refine Wdcx (m2) ?_) | (refine Wcgx (m2) ?_) | (refine Wdcgx (m2) ?_) | (refine Wcx (m3) ?_) | (refine Wdcx (m3) ?_) | (refine Wcgx (m3) ?_) | (refine Wdcgx (m3) ?_))
  ((first | refine endR ?_ | refine endN ?_); refine end1 (RV.cellA rfl (by repeat (first | exact List.mem_cons_self | apply List.mem_cons_of_mem)) (by (try simp only [List.drop_succ_cons, List.drop_zero, List.drop_nil, List.take_succ_cons, List.take_zero, List.take_nil, Nat.zero_add, Nat.add_zero, Nat.reduceAdd]) <;> exact rfl) rfl) (Le.refl _))
theorem toL_pu (l : Li) (h : l.le 1000000) : Pu Tryz.prog 11 [lq l] (lq l) := by
  have m1 := toI_pu l.a (by have := h.a; omega)
  have m2 := toI_pu l.b (by have := h.b; omega)
  have m3 := toI_pu l.c (by have := h.c; omega)
  refine Pu.intro Tryz.func11 rfl (by kernel_rfl) fun C => ?_
  repeat (first | (refine A1 ⟨?_⟩; intros) | (refine Wcx (m1) ?_) | (refine Wdcx (m1) ?_) | (refine Wcgx (m1) ?_) | (refine Wdcgx (m1) ?_) | (refine Wcx (m2) ?_) | (refine Wdcx (m2) ?_) | (refine Wcgx (m2) ?_) | (refine Wdcgx (m2) ?_) | (refine Wcx (m3) ?_) | (refine Wdcx (m3) ?_) | (refine Wcgx (m3) ?_) | (refine Wdcgx (m3) ?_))
  ((first | refine endR ?_ | refine endN ?_); refine end1 (RV.cellA rfl (by repeat (first | exact List.mem_cons_self | apply List.mem_cons_of_mem)) (by (try simp only [List.drop_succ_cons, List.drop_zero, List.drop_nil, List.take_succ_cons, List.take_zero, List.take_nil, Nat.zero_add, Nat.add_zero, Nat.reduceAdd]) <;> exact rfl) rfl) (Le.refl _))
theorem sameL_pu (l : Li) (h : l.le 1000000) : Pu Tryz.prog 20 [lq l, lq l] (lit (.bool true)) := by
  have m1 := sameI_t (decide (l.a < 0)) (dgs l.a.natAbs) (show il l.a ≤ _ by have := h.a; omega)
  have m2 := sameI_t (decide (l.b < 0)) (dgs l.b.natAbs) (show il l.b ≤ _ by have := h.b; omega)
  have m3 := sameI_t (decide (l.c < 0)) (dgs l.c.natAbs) (show il l.c ≤ _ by have := h.c; omega)
  refine Pu.intro Tryz.func20 rfl (by kernel_rfl) fun C => ?_
  repeat (first | (refine A1 ⟨?_⟩; intros) | (refine Wcx (m1) ?_) | (refine Wdcx (m1) ?_) | (refine Wcgx (m1) ?_) | (refine Wdcgx (m1) ?_) | (refine Wcx (m2) ?_) | (refine Wdcx (m2) ?_) | (refine Wcgx (m2) ?_) | (refine Wdcgx (m2) ?_) | (refine Wcx (m3) ?_) | (refine Wdcx (m3) ?_) | (refine Wcgx (m3) ?_) | (refine Wdcgx (m3) ?_))
  ((first | refine endR ?_ | refine endN ?_); exact end1 (RV.tmp rfl) (Le.refl _))
theorem rdot_pu (x y u v : Rat) (hx : ht x ≤ 1000000) (hy : ht y ≤ 1000000) (hu : ht u ≤ 1000000) (hv : ht v ≤ 1000000) (h1 : ht (x * u) ≤ 3000000) (h2 : ht (y * v) ≤ 3000000) : Pu Tryz.prog 116 [rp x y, rp u v] (rq (x * u + y * v)) := by
  have t1 := rtimes_pu x u (by omega) (by omega)
  have t2 := rtimes_pu y v (by omega) (by omega)
  have p := rplus_pu (x * u) (y * v) h1 h2
  refine Pu.intro Tryz.func116 rfl (by kernel_rfl) fun C => ?_
  repeat (first | (refine A1 ⟨?_⟩; intros) | (refine Wcx (t1) ?_) | (refine Wdcx (t1) ?_) | (refine Wcgx (t1) ?_) | (refine Wdcgx (t1) ?_) | (refine Wcx (t2) ?_) | (refine Wdcx (t2) ?_) | (refine Wcgx (t2) ?_) | (refine Wdcgx (t2) ?_) | (refine Wcx (p) ?_) | (refine Wdcx (p) ?_) | (refine Wcgx (p) ?_) | (refine Wdcgx (p) ?_))
  ((first | refine endR ?_ | refine endN ?_); refine end1 (RV.cellA rfl (by repeat (first | exact List.mem_cons_self | apply List.mem_cons_of_mem)) (by (try simp only [List.drop_succ_cons, List.drop_zero, List.drop_nil, List.take_succ_cons, List.take_zero, List.take_nil, Nat.zero_add, Nat.add_zero, Nat.reduceAdd]) <;> exact rfl) rfl) (Le.refl _))
theorem rcross_pu (x y u v : Rat) (hx : ht x ≤ 100000) (hy : ht y ≤ 100000) (hu : ht u ≤ 100000) (hv : ht v ≤ 100000) : Pu Tryz.prog 34 [rp x y, rp u v] (rq (x * v - y * u)) := by
  have h1 := ht_mul x v
  have h2 := ht_mul y u
  have t1 := rtimes_pu x v (by omega) (by omega)
  have t2 := rtimes_pu y u (by omega) (by omega)
  have p := rqsub_pu (x * v) (y * u) (by omega) (by omega)
  refine Pu.intro Tryz.func34 rfl (by kernel_rfl) fun C => ?_
  repeat (first | (refine A1 ⟨?_⟩; intros) | (refine Wcx (t1) ?_) | (refine Wdcx (t1) ?_) | (refine Wcgx (t1) ?_) | (refine Wdcgx (t1) ?_) | (refine Wcx (t2) ?_) | (refine Wdcx (t2) ?_) | (refine Wcgx (t2) ?_) | (refine Wdcgx (t2) ?_) | (refine Wcx (p) ?_) | (refine Wdcx (p) ?_) | (refine Wcgx (p) ?_) | (refine Wdcgx (p) ?_))
  ((first | refine endR ?_ | refine endN ?_); refine end1 (RV.cellA rfl (by repeat (first | exact List.mem_cons_self | apply List.mem_cons_of_mem)) (by (try simp only [List.drop_succ_cons, List.drop_zero, List.drop_nil, List.take_succ_cons, List.take_zero, List.take_nil, Nat.zero_add, Nat.add_zero, Nat.reduceAdd]) <;> exact rfl) rfl) (Le.refl _))
theorem mul_dens {a : Rat} (m : Nat) {n : Nat} (h : n = a.den * m) : a * ((n : Int) : Rat) = ((a.num * m : Int) : Rat) := by
  subst h
  have h1 : a * (a.den : Rat) = (a.num : Rat) := by
    conv => lhs; lhs; rw [← Rat.mkRat_self a]
    rw [show (a.den : Rat) = mkRat (a.den : Int) 1 from (Rat.mkRat_one _).symm, Rat.mkRat_mul_mkRat, Nat.mul_one]
    have := Rat.mkRat_mul_right (n := a.num) (d := 1) a.den_nz
    rw [Nat.one_mul] at this
    rw [this, Rat.mkRat_one]
  rw [show (((a.den * m : Nat) : Int) : Rat) = (a.den : Rat) * (m : Rat) from by push_cast; rfl, ← Rat.mul_assoc, h1]
  push_cast
  rfl
theorem leRaw (m : Nat) : LeL [ag [lit (.bool false), nat m, lit (.slice none 0 0)]] [rq ((m : Int) : Rat)] := by
  rw [rq_int]
  refine ⟨Le.ag ⟨?_, ?_, le_nil, trivial⟩, trivial⟩
  · rw [decide_eq_false (by omega)]; exact Le.refl _
  · rw [Int.natAbs_natCast]; exact Le.refl _
set_option maxHeartbeats 1000000 in
theorem through_pu {x y u v : Rat} {L : Nat} (hL : L ≤ 10000) (hx : ht x ≤ L) (hy : ht y ≤ L) (hu : ht u ≤ L) (hv : ht v ≤ L) (h : u - x ≠ 0 ∨ v - y ≠ 0) : Pu Tryz.prog 30 [rp x y, rp u v] (Ab.tup [lq (thr x y u v), lit (.bool true)]) := by
  have s := rsub_pt u v x y (by omega) (by omega) (by omega) (by omega)
  have k1 := ht_sub u x
  have k2 := ht_sub v y
  have k3 := ht_neg (v - y)
  have n1 := ropp_pu (v - y) (by omega)
  have k4 := ht_mul (-(v - y)) x
  have k5 := ht_mul (u - x) y
  have t1 := rtimes_pu (-(v - y)) x (by omega) (by omega)
  have t2 := rtimes_pu (u - x) y (by omega) (by omega)
  have k6 := ht_add (-(v - y) * x) ((u - x) * y)
  have p1 := rplus_pu (-(v - y) * x) ((u - x) * y) (by omega) (by omega)
  have n2 := ropp_pu (-(v - y) * x + (u - x) * y) (by omega)
  have k7 := ht_neg (-(v - y) * x + (u - x) * y)
  have hab : -(v - y) ≠ 0 ∨ u - x ≠ 0 := by
    rcases h with h | h
    · exact .inr h
    · exact .inl fun e => h (by rw [← Rat.neg_neg (v - y), e]; rfl)
  unfold thr
  generalize -(v - y) = a at *
  generalize u - x = b at *
  generalize -(a * x + b * y) = c at *
  have e1 := rden_pu a
  have e2 := rden_pu b
  have e3 := rden_pu c
  have l1 := ht_den a
  have l2 := ht_den b
  have l3 := ht_den c
  have l4 := dlen_mul a.den b.den
  have l5 := dlen_mul (a.den * b.den) c.den
  have q1 := rprod_pu a.den b.den (by omega) (by omega)
  have q2 := rprod_pu (a.den * b.den) c.den (by omega) (by omega)
  have m1 := rmake_pu false (a.den * b.den * c.den) (by omega)
  rw [sv_nat, int_nat] at m1
  obtain ⟨m, hm⟩ : ∃ m, m = a.den * b.den * c.den := ⟨_, rfl⟩
  have fa := mul_dens (a := a) (b.den * c.den) (n := m) (by rw [hm, Nat.mul_assoc])
  have fb := mul_dens (a := b) (a.den * c.den) (n := m) (by rw [hm, Nat.mul_comm a.den, Nat.mul_assoc])
  have fc := mul_dens (a := c) (a.den * b.den) (n := m) (by rw [hm, Nat.mul_comm])
  have hmp : (0 : Rat) < ((m : Int) : Rat) := by
    have : 0 < m := by rw [hm]; exact Nat.mul_pos (Nat.mul_pos a.den_pos b.den_pos) c.den_pos
    exact_mod_cast this
  rw [← hm] at q2 m1 l5
  have hmh : ht ((m : Int) : Rat) ≤ max (dgs m).length 1 := by rw [ht_of_int]; exact Nat.le_refl _
  have g1 := (rtimes_pu a ((m : Int) : Rat) (by omega) (by omega)).arg (l' := [rq a, ag [lit (.bool false), nat m, lit (.slice none 0 0)]]) ⟨Le.refl _, leRaw m⟩
  have g2 := (rtimes_pu b ((m : Int) : Rat) (by omega) (by omega)).arg (l' := [rq b, ag [lit (.bool false), nat m, lit (.slice none 0 0)]]) ⟨Le.refl _, leRaw m⟩
  have g3 := (rtimes_pu c ((m : Int) : Rat) (by omega) (by omega)).arg (l' := [rq c, ag [lit (.bool false), nat m, lit (.slice none 0 0)]]) ⟨Le.refl _, leRaw m⟩
  have o1 := ht_mul a ((m : Int) : Rat)
  have o2 := ht_mul b ((m : Int) : Rat)
  have o3 := ht_mul c ((m : Int) : Rat)
  have ep : prim a b c = prim (((m : Int) : Rat) * a) (((m : Int) : Rat) * b) (((m : Int) : Rat) * c) := (prim_mul _ _ _ _ hmp).symm
  rw [Rat.mul_comm _ a, Rat.mul_comm _ b, Rat.mul_comm _ c] at ep
  have hne : a * ((m : Int) : Rat) ≠ 0 ∨ b * ((m : Int) : Rat) ≠ 0 := by
    have h0 : ((m : Int) : Rat) ≠ 0 := fun e => by rw [e] at hmp; exact absurd hmp (by decide)
    rcases hab with h | h
    · exact .inl fun e => by rcases Rat.mul_eq_zero.1 e with e | e; exact h e; exact h0 e
    · exact .inr fun e => by rcases Rat.mul_eq_zero.1 e with e | e; exact h e; exact h0 e
  rw [fa] at g1 o1
  rw [fb] at g2 o2
  rw [fc] at g3 o3
  rw [fa, fb, fc] at ep
  rw [fa, fb] at hne
  rw [ep]
  clear fa fb fc ep hmp hab h hm
  generalize a.num * ((b.den * c.den : Nat) : Int) = A at *
  generalize b.num * ((a.den * c.den : Nat) : Int) = B at *
  generalize c.num * ((a.den * b.den : Nat) : Int) = C' at *
  rw [ht_of_int] at o1 o2 o3
  have hne' : A ≠ 0 ∨ B ≠ 0 := by
    rcases hne with h | h
    · exact .inl fun e => h (by rw [e]; rfl)
    · exact .inr fun e => h (by rw [e]; rfl)
  have mk := rmakeL_pu C' (a := A) (b := B) (by omega) (by omega) (by omega) hne'
  simp only [rq_int] at g1 g2 g3
  generalize prim (A : Rat) (B : Rat) (C' : Rat) = r at *
  clear o1 o2 o3 hmh k1 k2 k3 k4 k5 k6 k7 l1 l2 l3 l4 l5 hne hne' hx hy hu hv
  refine Pu.intro Tryz.func30 rfl (by kernel_rfl) fun C => ?_
  repeat (first | (refine AS ⟨?_⟩; intros) | (refine O1 ⟨?_⟩; intros) | (refine Wcx (s) ?_) | (refine Wcgx (s) ?_) | (refine Wcx (n1) ?_) | (refine Wcgx (n1) ?_))
  refine WdL 7 1 ?_
  repeat (first | (refine A1 ⟨?_⟩; intros) | (refine Wcx (n1) ?_) | (refine Wdcx (n1) ?_) | (refine Wcgx (n1) ?_) | (refine Wdcgx (n1) ?_))
  refine dL2 fun b7 b8 => ?_
  refine Gs (sv := rq a) (cs' := [lit (.bool (decide (a.num < 0))), nat a.num.natAbs, dg (dden a.den)]) rfl rfl rfl (by first | exact .here _ | exact .there _ (.here _)) rfl rfl ?_ ?_
  · (repeat (first | exact LOk.nil | refine Lsk ?_ | refine Lcv ?_))
  refine Gn ?_ ?_
  · (repeat (first | exact LOk.nil | refine Lsk ?_ | refine Lcv ?_))
  repeat (first | (refine A1 ⟨?_⟩; intros) | (refine Wo (ov_fieldA rfl rfl (by kernel_rfl) rfl) ?_) | (refine Wdo (ov_fieldA rfl rfl (by kernel_rfl) rfl) ?_) | (refine Wcx (s) ?_) | (refine Wdcx (s) ?_) | (refine Wcgx (s) ?_) | (refine Wdcgx (s) ?_) | (refine Wcx (n1) ?_) | (refine Wdcx (n1) ?_) | (refine Wcgx (n1) ?_) | (refine Wdcgx (n1) ?_) | (refine Wcx (t1) ?_) | (refine Wdcx (t1) ?_) | (refine Wcgx (t1) ?_) | (refine Wdcgx (t1) ?_) | (refine Wcx (t2) ?_) | (refine Wdcx (t2) ?_) | (refine Wcgx (t2) ?_) | (refine Wdcgx (t2) ?_) | (refine Wcx (p1) ?_) | (refine Wdcx (p1) ?_) | (refine Wcgx (p1) ?_) | (refine Wdcgx (p1) ?_) | (refine Wcx (n2) ?_) | (refine Wdcx (n2) ?_) | (refine Wcgx (n2) ?_) | (refine Wdcgx (n2) ?_) | (refine Wcx (e1) ?_) | (refine Wdcx (e1) ?_) | (refine Wcgx (e1) ?_) | (refine Wdcgx (e1) ?_) | (refine Wcx (e2) ?_) | (refine Wdcx (e2) ?_) | (refine Wcgx (e2) ?_) | (refine Wdcgx (e2) ?_) | (refine Wcx (e3) ?_) | (refine Wdcx (e3) ?_) | (refine Wcgx (e3) ?_) | (refine Wdcgx (e3) ?_) | (refine Wcx (q1) ?_) | (refine Wdcx (q1) ?_) | (refine Wcgx (q1) ?_) | (refine Wdcgx (q1) ?_) | (refine Wcx (q2) ?_) | (refine Wdcx (q2) ?_) | (refine Wcgx (q2) ?_) | (refine Wdcgx (q2) ?_) | (refine Wcx (m1) ?_) | (refine Wdcx (m1) ?_) | (refine Wcgx (m1) ?_) | (refine Wdcgx (m1) ?_) | (refine Wcx (g1) ?_) | (refine Wdcx (g1) ?_) | (refine Wcgx (g1) ?_) | (refine Wdcgx (g1) ?_) | (refine Wcx (g2) ?_) | (refine Wdcx (g2) ?_) | (refine Wcgx (g2) ?_) | (refine Wdcgx (g2) ?_) | (refine Wcx (g3) ?_) | (refine Wdcx (g3) ?_) | (refine Wcgx (g3) ?_) | (refine Wdcgx (g3) ?_) | (refine Wcx (mk) ?_) | (refine Wdcx (mk) ?_) | (refine Wcgx (mk) ?_) | (refine Wdcgx (mk) ?_))
  ((first | refine endR ?_ | refine endN ?_); exact end2 (RV.cellA rfl (by repeat (first | exact List.mem_cons_self | apply List.mem_cons_of_mem)) (by (try simp only [List.drop_succ_cons, List.drop_zero, List.drop_nil, List.take_succ_cons, List.take_zero, List.take_nil, Nat.zero_add, Nat.add_zero, Nat.reduceAdd]) <;> exact rfl) rfl) (RV.tmp rfl) (Le.refl _))
section
variable {P : Program} {F : Fr} {H : LH} {ty : TypeId}
theorem ArgsOk.exAt {m : Mem} {α : Type} {g : α → SV} : ∀ {pre post : List SV} {vs : List Value}, ArgsOk m (pre ++ ex g :: post) vs → ∃ x, ArgsOk m (pre ++ g x :: post) vs
  | [], _, [], h => h.elim
  | [], _, v :: vs, h => by
    have h1 := h.1
    unfold ex at h1
    obtain ⟨x, hx⟩ := h1
    exact ⟨x, hx, h.2⟩
  | _ :: _, _, [], h => h.elim
  | s :: pre, post, v :: vs, h => by
    obtain ⟨x, hx⟩ := ArgsOk.exAt (pre := pre) (post := post) h.2
    exact ⟨x, h.1, hx⟩
theorem ex_mk {α : Type} {m : Mem} {v : Value} {g : α → SV} (x : α) (h : (g x).p m v) : (ex g).p m v := by unfold ex; exact ⟨x, h⟩
theorem Le.exL {α : Type} {g : α → SV} {s : SV} (h : ∀ x, Le (g x) s) : Le (Ab.ex g) s := fun m v hv => by
  unfold Ab.ex at hv
  obtain ⟨x, hx⟩ := hv
  exact h x m v hx
theorem Pu.exAt {f : FuncId} {α : Type} (pre post : List SV) {g r : α → SV} (x0 : α) (h : ∀ x, Pu P f (pre ++ g x :: post) (r x)) : Pu P f (pre ++ ex g :: post) (ex r) := by
  unfold Pu at *
  exact ⟨(h x0).1, fun m w vs hm ha => by
    obtain ⟨x, hx⟩ := ha.exAt
    exact ((h x).2 m w vs hm hx).mono fun _ _ ⟨v, m', e, hp, k⟩ => ⟨v, m', e, ex_mk x hp, k⟩⟩
theorem OpV.mono' {op : Op} {s s' : SV} (h : OpV P op ty F H s) (k : Le s s') : OpV P op ty F H s' := by
  unfold OpV at *
  exact fun m w o a ho hty h1 h2 h3 K Q hK => h m w o a ho hty h1 h2 h3 K Q fun v m' w' hp => hK v m' w' (k _ _ hp)
theorem OpV.exc {op : Op} {α : Type} (t : Nat) {f : α → SV} {s : SV} (x0 : α) (hf : F t = ex f) (h : ∀ x, OpV P op ty (upd F t (f x)) H s) : OpV P op ty F H s := by
    unfold OpV at *
    intro m w o a ho hty h1 h2 h3 K Q hK
    have key : ∃ x : α, (.tmp t ∈ op.operands → (f x).p m (a.eval (.tmp t))) := by
      by_cases ht : .tmp t ∈ op.operands
      · have h0 := h3 t ht
        rw [hf] at h0
        unfold ex at h0
        obtain ⟨x, hx⟩ := h0
        exact ⟨x, fun _ => hx⟩
      · exact ⟨x0, fun k => (ht k).elim⟩
    obtain ⟨x, hx⟩ := key
    refine h x m w o a ho hty h1 h2 (fun t' ht' => ?_) K Q hK
    by_cases e : t' = t
    · subst e; rw [upd_eq]; exact hx ht'
    · rw [upd_ne e]; exact h3 t' ht'
theorem OpV.exd {op : Op} {α : Type} (t : Nat) {f g : α → SV} (x0 : α) (hf : F t = ex f) (h : ∀ x, OpV P op ty (upd F t (f x)) H (g x)) : OpV P op ty F H (ex g) :=
  OpV.exc t x0 hf fun x => (h x).mono' fun _ _ hp => ex_mk x hp
end
end Go.Ab
