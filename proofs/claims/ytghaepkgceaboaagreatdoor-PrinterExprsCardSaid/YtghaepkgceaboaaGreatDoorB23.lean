/- Texts laid one behind the other: RowB, ExTape, Open, RowKit, LaidKit. -/
import Derived.Test.YtghaepkgceaboaaGreatDoorB03
import Derived.Test.YtghaepkgceaboaaGreatDoorB21
import Derived.Test.YtghaepkgceaboaaGreatDoorB22
import Derived.Test.YtghaepkgceaboaaGreatDoorB04
import Derived.ProofKit
import Derived.OpenShut
import Derived.ChangeOld
import Derived.Below
import Derived.OpenVars
import Derived.Deep.Slices
import Derived.Test.YtghaepkgceaboaaGreatDoorB14
import Derived.WalkKit
import Derived.Stop.LaidErr
import Derived.LaidMore
import Derived.Deep.DeepHandedRow
import Derived.Deep.DeepWitnessRowRef
/- Appending a finished record to a row of one's own; what is done with a value that is known to exist only. -/
namespace Go.Ab
open Go.Proofs
set_option linter.unusedSectionVars false
set_option linter.unusedVariables false
set_option linter.unusedSimpArgs false
variable [Base]
section
variable {P : Program} {C : Ctx} {n : Nat} {F : Fr} {H : LH} {ops : Array Oper} {K : Fr → LH → Prop} {rest : List Oper} {ty : TypeId} {pos : String} {aft : Array Edge}
theorem HUpd.mem_or {b : Nat} {T : TypeId} {cs cs' : List SV} {H H' : LH} (h : HUpd b T cs cs' H H') : ∀ e ∈ H', e = (b, T, cs') ∨ e ∈ H := by
  induction h with
  | here => exact fun e he => (List.mem_cons.1 he).imp id fun h => List.mem_cons_of_mem _ h
  | there _ _ ih => exact fun e he => (List.mem_cons.1 he).elim (fun h => .inr (by rw [h]; exact List.mem_cons_self)) fun h => (ih e h).imp id fun h => List.mem_cons_of_mem _ h
/-- a block's description made weaker -/
theorem St.lowB {b : Nat} {T : TypeId} {cs cs' : List SV} {H' : LH} {a : Act} {w : World} (hu : HUpd b T cs cs' H H') (hle : LeL cs cs') (hs : St C n F H a w) : St C n F H' a w := by
  obtain ⟨hdef, hn, m, h1, h2, h3, h4, h5⟩ := hs
  obtain ⟨g1, g2⟩ := h2.2 _ hu.mem
  refine ⟨hdef, hn, m, h1, ⟨by rw [hu.keys]; exact h2.1, fun e he => ?_⟩, h3, fun e he => ?_, h5⟩
  · rcases hu.mem_or e he with rfl | h
    · exact ⟨g1, g2.le hle⟩
    · exact h2.2 e h
  · rcases hu.mem_or e he with rfl | h
    · exact h4 (b, T, cs) hu.mem
    · exact h4 e h
theorem WPL.lowB {l : List Oper} {b : Nat} {T : TypeId} {cs cs' : List SV} {H' : LH} (hu : HUpd b T cs cs' H H') (hle : LeL cs cs') (k : WPL P C n ops l K F H') : WPL P C n ops l K F H := by
  unfold WPL at *
  exact fun a w hs => k a w (hs.lowB hu hle)
/-- a join behind the rest of a region and one more piece -/
theorem WPL.viaS1 {Q : Exit → Fr → LH → Prop} {l : List Oper} {B R : Code} (J : Fr → LH → Prop) (h : WPL P C n ops l (fun F H => thenQ (fun F H => WP P C n B (thenQ J Q) F H) Q .normal F H) F H)
    (k : ∀ F H, J F H → WP P C n R Q F H) : WPL P C n ops l (fun F H => thenQ (WP P C n (.seq B R) Q) Q .normal F H) F H :=
  WPL.via _ h fun F H hB => WP.join _ hB k
/-- a new slice of one record, at once finished -/
theorem ov_bsN {T e : TypeId} {sz by_ : Nat} {z : List SV} {g : Bool} [hS : TSl P T e] [hT : TY P e sz by_ z g] {x : Operand} {s : SV} {ds : List SV} (hx : ev F x = s) (hco : CO s ds) (hf : fillS ((List.range 1).map fun i => (i * sz, sz)) (List.replicate 1 z).flatten [(0, ds)] = some ds := by exact rfl)
    (hsz : Nat.ble (1 * sz) 16777216 = true := by exact rfl) (hpos : Nat.blt 0 sz = true := by exact rfl) : OpV P (.buildSlice T 1 [(0, x)].toArray) ty F H (sl ds 1) :=
  OpV.pubN (nk_bslice (.cons hx hco .nil) hf hsz hpos) fun m b arr hb h => sl_new hb h (by simp only [maxLen]; omega)
theorem WPL.appOwnS {T e : TypeId} {sz by_ : Nat} {z : List SV} {g : Bool} [hS : TSl P T e] [hT : TY P e sz by_ z g] {d : Nat} {x y : Operand} {n0 : Nat} {cs ds : List SV} {s : SV} {Hs Rs : LH}
    (hown : Own e sz n0 cs s Hs) (hx : ev F x = s) (hy : ev F y = sl ds 1) (hsp : Spl H Hs Rs) (hds : ds.length = sz) (hpos : 0 < sz) (hl : n0 ≤ 1000000000) (hby : by_ ≤ 10000)
    (k : ∀ s' H', Own e sz (n0 + 1) (cs ++ ds) s' H' → WPL P C n ops rest K (upd F d s') (H' ++ Rs)) (hd : Nat.blt d n = true) :
    WPL P C n ops (⟨some d, .call ⟨.builtin .append, #[x, y], #[T, T]⟩, ty, pos, aft, none⟩ :: rest) K F H := by
  unfold WPL
  intro a w hs0 Q hq
  have hs := hs0.perm hsp.perm
  refine wpList_plain rfl fun K' hK' => ?_
  obtain ⟨hdef, hn, m0, h10, h20, h30, h40, h50⟩ := id hs
  have hp0 : ∀ x, (ev F x).p m0 (a.eval x) := fun x => by
    cases x with
    | tmp t => exact h50 t
    | const v => unfold ev lit; rfl
    | global g => unfold ev lit; rfl
    | func f => unfold ev lit; rfl
  have e0 := hp0 x; rw [hx] at e0
  have e1 := hp0 y; rw [hy] at e1
  obtain ⟨ad2, c2, e1, hc1, hc2, hcb⟩ := sl_cells e1
  obtain ⟨b2, off2, rfl, arr2, T2, fz2, hbm2, hall2⟩ := hcb.resolve_left (fun h => by rw [h] at hds; simp at hds; omega)
  have hb2 := h10 _ _ hbm2
  rw [hds] at hall2
  generalize hl2 : (arr2.toList.drop off2).take sz = l2 at hall2
  obtain ⟨i, v, hi, hsz, hbyt, hz, hzl, hfl, hvs⟩ := hT.run_bytes
  have hlen2 := hall2.length
  have hys : ∀ j u, l2[j]? = some u → w.cell? ((⟨b2, off2, none⟩ : Addr).add j) = some u := fun j u hj => by
    rw [add_none, cell_of w b2 _ arr2 _ _ hb2]
    rw [← hl2, List.getElem?_take] at hj
    split at hj
    · rw [List.getElem?_drop] at hj; simpa using hj
    · cases hj
  have hexec : execOp a.eval (⟨some d, .call ⟨.builtin .append, #[x, y], #[T, T]⟩, ty, pos, aft, none⟩ : Oper) = (do let v ← Builtin.append_ #[T, T] ty #[a.eval x, a.eval y]; pure (.value v)) := by
    simp [execOp, resolve, invoke, builtin]
  have hmul : ∀ q, q ≤ 1000000001 → q * by_ ≤ 140737488355328 := fun q hq => Nat.le_trans (Nat.mul_le_mul hq hby) (by decide)
  have get2 : ∀ m, MemIn m w → (ev F y).p m (a.eval y) → All2 m ds l2 := fun m h1 h2 => by
    rw [hy, e1] at h2
    obtain ⟨ad3, c3, e3, _, _, hcb3⟩ := sl_cells h2
    obtain ⟨b3, off3, rfl, arr3, T3, fz3, hbm3, hall3⟩ := hcb3.resolve_left (fun h => by rw [h] at hds; simp at hds; omega)
    have hb3 := h1 _ _ hbm3
    simp only [Value.slice.injEq, Option.some.injEq, Addr.mk.injEq, and_true, true_and] at e3
    obtain ⟨⟨rfl, rfl⟩, _⟩ := e3
    rw [hb2] at hb3
    simp only [Option.some.injEq, Obj.cells.injEq] at hb3
    obtain ⟨rfl, _⟩ := hb3
    rw [hds, hl2] at hall3
    exact hall3
  unfold Oper.wp
  rw [hexec, e1]
  obtain ⟨hcl, hcase⟩ := hown
  rcases hcase with ⟨rfl, rfl, rfl⟩ | ⟨b, c, hnc, hcm, rfl, rfl⟩
  · rw [lit_p] at e0
    have hcs : cs = [] := List.eq_nil_of_length_eq_zero (by rw [hcl, Nat.zero_mul])
    subst hcs
    have hrun := run_append_nil (P := P) w T ty e i v hS.h hi hz ⟨b2, off2, none⟩ 1 c2 l2 (by rw [hlen2, hsz, hds, Nat.one_mul]) hys (by omega) (by omega) (by rw [hbyt]; have := hmul 1 (by omega); omega)
    rw [e0]
    simp only [Sem.run_bind, hrun, Result.andThen_ok, Sem.run_pure]
    have hge := grownCap_ge w 1 0 e
    have hle := grownCap_le_maxLen w 1 0 e (by simp only [maxLen]; omega)
    have h := k (lit (.slice (some ⟨w.heap.size, 0, none⟩) 1 (grownCap w 1 0 e))) [(w.heap.size, e, ([] ++ ds) ++ List.replicate (grownCap w 1 0 e * sz - 1 * sz) top)] ⟨by rw [List.nil_append, hds]; omega, .inr ⟨_, _, hge, hle, rfl, by rw [Nat.zero_add]⟩⟩
    unfold WPL at h
    refine hK' _ _ (h _ _ (St.pushD (Nat.blt_eq.mp hd) hs fun m h1 h2 h3 => ?_) Q hq)
    simp only [Array.toList_append, List.toList_toArray, List.nil_append]
    refine (get2 m h1 (h3 y)).append (All2.topL ?_ (zeroCells_one hfl))
    rw [Array.length_toList, size_zeroCells, hvs, Nat.sub_mul]
  · rw [lit_p] at e0
    obtain ⟨hmb, arr, hb, hall⟩ := h20.2 _ (List.mem_append_left Rs (List.mem_singleton.2 rfl))
    have hlen := hall.length
    simp only [List.length_append, List.length_replicate, hcl, Array.length_toList] at hlen
    have hmono : n0 * sz ≤ c * sz := Nat.mul_le_mul_right _ hnc
    have getc : ∀ m, HOk m w ([(b, e, cs ++ List.replicate (c * sz - n0 * sz) top)] ++ Rs) → All2 m (cs ++ List.replicate (c * sz - n0 * sz) top) arr.toList := fun m h2 => by
      obtain ⟨_, arr', hb', hall'⟩ := h2.2 _ (List.mem_append_left Rs (List.mem_singleton.2 rfl))
      rw [hb] at hb'
      simp only [Option.some.injEq, Obj.cells.injEq] at hb'
      obtain ⟨rfl, _⟩ := hb'
      exact hall'
    by_cases hroom : n0 + 1 ≤ c
    · have hm1 : (n0 + 1) * sz ≤ c * sz := Nat.mul_le_mul_right _ hroom
      rw [Nat.succ_mul] at hm1
      have hrun := run_append_room (P := P) w T ty e i hS.h hi b n0 c arr hb ⟨b2, off2, none⟩ 1 c2 l2 (by rw [hlen2, hsz, hds, Nat.one_mul]) hys hall2.flat hroom (by rw [hsz, hlen2, hds]; omega)
      rw [e0]
      simp only [Sem.run_bind, hrun, Result.andThen_ok, Sem.run_pure]
      have h := k (lit (.slice (some ⟨b, 0, none⟩) (n0 + 1) c)) [(b, e, (cs ++ ds) ++ List.replicate (c * sz - (n0 + 1) * sz) top)] ⟨by rw [List.length_append, hcl, hds, Nat.succ_mul], .inr ⟨_, _, hroom, hcm, rfl, rfl⟩⟩
      unfold WPL at h
      have hfin : All2 m0 ((cs ++ ds) ++ List.replicate (c * sz - (n0 + 1) * sz) top) (arr.toList.take (n0 * i.size) ++ l2 ++ arr.toList.drop (n0 * i.size + l2.length)).toArray.toList := by
        obtain ⟨q1, q2⟩ := (getc m0 h20).split
        rw [hcl] at q1 q2
        rw [hsz, hlen2, hds, List.toList_toArray]
        refine (q1.append (get2 m0 h10 (hp0 y))).append (All2.topL ?_ fun u hu => ?_)
        · rw [List.length_drop, Array.length_toList, Nat.succ_mul]; omega
        · exact hall.flat u (List.mem_of_mem_drop hu)
      obtain ⟨q1, q2, q3, q4⟩ := write_ok (w' := w.setRow b (arr.toList.take (n0 * i.size) ++ l2 ++ arr.toList.drop (n0 * i.size + l2.length)).toArray) h10 h20 h30 h40 (.here Rs)
        (setRow_heap w b arr _ e _ hb) (fun j hj => setRow_other w b j _ hj) rfl rfl rfl (by simp) hfin
      refine hK' _ _ (h (a.put (some d) (.slice (some ⟨b, 0, none⟩) (n0 + 1) c)) _ ⟨hdef, by simpa [Act.put] using hn, m0, q1, q2, q3, q4, fun t => ?_⟩ Q hq)
      rw [getD_put (Nat.lt_of_lt_of_le (Nat.blt_eq.mp hd) hn)]
      unfold Ab.upd
      by_cases ht : t = d
      · subst ht; rw [if_pos rfl, Nat.beq_refl]; exact lit_p.2 rfl
      · rw [if_neg ht]
        have : Nat.beq t d = false := by
          cases hbb : Nat.beq t d with
          | false => rfl
          | true => exact absurd (Nat.eq_of_beq_eq_true hbb) ht
        rw [this]
        exact h50 t
    · have hxs : ∀ j u, (arr.toList.take (n0 * sz))[j]? = some u → w.cell? ((⟨b, 0, none⟩ : Addr).add j) = some u := fun j u hj => by
        rw [add_none, cell_of w b _ arr _ _ hb]
        rw [List.getElem?_take] at hj
        split at hj
        · simpa using hj
        · cases hj
      have hrun := run_append_grow (P := P) w T ty e i v hS.h hi hz ⟨b, 0, none⟩ n0 c (arr.toList.take (n0 * sz)) (by rw [List.length_take, Array.length_toList, hsz]; omega) hxs
        ⟨b2, off2, none⟩ 1 c2 l2 (by rw [hlen2, hsz, hds, Nat.one_mul]) hys (by omega) (by omega) (growslice_fits (by omega) (by rw [hbyt]; exact hmul _ (by omega)))
      rw [e0]
      simp only [Sem.run_bind, hrun, Result.andThen_ok, Sem.run_pure]
      have hge := grownCap_ge w (n0 + 1) c e
      have hle := grownCap_le_maxLen w (n0 + 1) c e (by simp only [maxLen]; omega)
      have h := k (lit (.slice (some ⟨w.heap.size, 0, none⟩) (n0 + 1) (grownCap w (n0 + 1) c e))) [(w.heap.size, e, (cs ++ ds) ++ List.replicate (grownCap w (n0 + 1) c e * sz - (n0 + 1) * sz) top)]
        ⟨by rw [List.length_append, hcl, hds, Nat.succ_mul], .inr ⟨_, _, hge, hle, rfl, rfl⟩⟩
      unfold WPL at h
      have hst := St.pushD (d := d) (cs := (cs ++ ds) ++ List.replicate (grownCap w (n0 + 1) c e * sz - (n0 + 1) * sz) top) (v := .slice (some ⟨w.heap.size, 0, none⟩) (n0 + 1) (grownCap w (n0 + 1) c e)) (T := e)
        (arr := (arr.toList.take (n0 * sz)).toArray ++ l2.toArray ++ Builtin.zeroCells v.cells (grownCap w (n0 + 1) c e - (n0 + 1))) (Nat.blt_eq.mp hd) hs fun m h1 h2 h3 => ?_
      · refine hK' _ _ (h _ _ ?_ Q hq)
        exact hst.drop (.there _ (.here _))
      · simp only [Array.toList_append, List.toList_toArray]
        obtain ⟨q1, _⟩ := (getc m h2).split
        rw [hcl] at q1
        refine (q1.append (get2 m h1 (h3 y))).append (All2.topL ?_ (zeroCells_one hfl))
        rw [Array.length_toList, size_zeroCells, hvs, Nat.sub_mul]
/-- appending one finished record to a row of one's own -/
theorem WownS {T e : TypeId} {sz by_ : Nat} {z : List SV} {g : Bool} [hS : TSl P T e] [hT : TY P e sz by_ z g] {d : Nat} {x y : Operand} {n0 : Nat} {cs ds : List SV} {s : SV} {Hs Rs : LH}
    (hown : Own e sz n0 cs s Hs) (hsp : Tk H Hs Rs) (hl : n0 ≤ 1000000000) (k : ∀ s' H', Own e sz (n0 + 1) (cs ++ ds) s' H' → WPL P C n ops rest K (upd F d s') (Rs ++ H'))
    (hx : ev F x = s := by exact rfl) (hy : ev F y = sl ds 1 := by exact rfl) (hds : ds.length = sz := by exact rfl) (hpos : 0 < sz := by decide) (hby : by_ ≤ 10000 := by decide)
    (hd : Nat.blt d n = true := by exact rfl) :
    WPL P C n ops (⟨some d, .call ⟨.builtin .append, #[x, y], #[T, T]⟩, ty, pos, aft, none⟩ :: rest) K F H :=
  .perm hsp.perm (.appOwnS hown hx hy (Spl.app _ _) hds hpos hl hby (fun s' H' h => .perm List.perm_append_comm (k s' H' h)) hd)
end
theorem pub_ownL {m : Mem} {arr : Array Value} {b : Nat} {T : TypeId} {cs : List SV} {j n c : Nat} (hm : m b = some (.cells arr T (0, 0))) (ha : All2 m (cs ++ List.replicate j top) arr.toList) (h1 : n ≤ c) (h2 : c ≤ maxLen) : (sl cs n).p m (.slice (some ⟨b, 0, none⟩) n c) := by
  refine sl_mk h1 h2 (.inr ⟨b, 0, rfl, arr, T, (0, 0), hm, ?_⟩)
  rw [List.drop_zero]
  exact ha.split.1
end Go.Ab
/- Expressions made of a tape: each is one printable expression. -/
namespace Go.Ab
open Go.Proofs
set_option linter.unusedSectionVars false
set_option linter.unusedVariables false
set_option linter.unusedSimpArgs false
variable [Base]
theorem stk_append (i : Nat) (A B : List Nd) : ∀ (i : Nat) (st : List (Ex × Nat)), stk (A ++ B) i st = match stk A i st with
    | some st' => stk B (i + A.length) st'
    | none => none := by
  induction A with
  | nil => intro i st; rfl
  | cons n A ih =>
    intro i st
    rw [List.cons_append, stk_cons, stk_cons]
    cases stp i n st with
    | none => rfl
    | some st' =>
      simp only
      rw [ih, List.length_cons, show i + 1 + A.length = i + (A.length + 1) by omega]
/-- a list of parts that is one printable expression, wherever it begins -/
structure Wr (ns : List Nd) (i : Nat) (t : Ex) : Prop where
  st : ∀ s, stk ns i s = some ((t, i + ns.length - 1) :: s)
  pos : 1 ≤ ns.length
  good : t.good = true
  ok : ∀ n ∈ ns, n.ok 20
theorem stk_one {n : Nd} {i : Nat} {s s' : List (Ex × Nat)} (h : stp i n s = some s') : stk [n] i s = some s' := by rw [stk_cons, h]; rfl
theorem Wr.leaf {n : Nd} {i : Nat} (h1 : okN n = true) (h5 : n.k ≠ 5) (h6 : n.k ≠ 6) (hg : (Ex.leaf n).good = true) (hok : n.ok 20) : Wr [n] i (.leaf n) :=
  ⟨fun s => stk_one (by unfold stp; rw [if_pos h1, if_neg h5, if_neg h6]; rfl), Nat.le_refl _, hg, fun m hm => by rw [List.mem_singleton.1 hm]; exact hok⟩
theorem Wr.un {A : List Nd} {n : Nd} {i : Nat} {x : Ex} (h : Wr A i x) (h1 : okN n = true) (h5 : n.k = 5) (hx : n.x = (i + A.length : Nat) - 1) (hok : n.ok 20) : Wr (A ++ [n]) i (.un n x) := by
  have hp := h.pos
  refine ⟨fun s => ?_, by simp, h.good, fun m hm => ?_⟩
  · rw [stk_append i, h.st]
    simp only
    rw [stk_one (s' := (.un n x, i + A.length) :: s) (by unfold stp; rw [if_pos h1, if_pos h5]; simp only; rw [if_pos (by omega)]), List.length_append, List.length_singleton, show i + (A.length + 1) - 1 = i + A.length by omega]
  · rcases List.mem_append.1 hm with hm | hm
    · exact h.ok m hm
    · rw [List.mem_singleton.1 hm]; exact hok
theorem Wr.bi {A B : List Nd} {n : Nd} {i : Nat} {x y : Ex} (h : Wr A i x) (k : Wr B (i + A.length) y) (h1 : okN n = true) (h6 : n.k = 6) (hx : n.x = (i + A.length : Nat) - 1) (hy : n.y = (i + A.length + B.length : Nat) - 1) (hok : n.ok 20) : Wr (A ++ B ++ [n]) i (.bi n x y) := by
  have hp := h.pos
  have kp := k.pos
  refine ⟨fun s => ?_, by simp; omega, by show (x.good && y.good) = true; rw [h.good, k.good]; rfl, fun m hm => ?_⟩
  · rw [stk_append i, stk_append i, h.st]
    simp only
    rw [k.st]
    simp only
    rw [List.length_append, stk_one (s' := (.bi n x y, i + (A.length + B.length)) :: s) (by unfold stp; rw [if_pos h1, if_neg (by omega), if_pos h6]; simp only; rw [if_pos ⟨by omega, by omega⟩]), List.length_append, List.length_append, List.length_singleton, show i + (A.length + B.length + 1) - 1 = i + (A.length + B.length) by omega]
  · rcases List.mem_append.1 hm with hm | hm
    · rcases List.mem_append.1 hm with hm | hm
      · exact h.ok m hm
      · exact k.ok m hm
    · rw [List.mem_singleton.1 hm]; exact hok
theorem Wr.otx {ns : List Nd} {t : Ex} (h : Wr ns 0 t) : otx ns = some t.txt := by
  unfold Ab.otx
  rw [h.st]
  simp only
  rw [if_pos h.good]
abbrev z0 : RQ := ⟨false, [], []⟩
def unNd (x : Int) : Nd := ⟨5, [], z0, z0, z0, z0, 0, x, 0, 0, 0⟩
def aNd (k : Int) : Nd := ⟨k, [], z0, z0, z0, z0, 0, 0, 0, 0, 0⟩
def hNd (a b c e : Rat) : Nd := ⟨4, [], RQ.of a, RQ.of b, RQ.of c, RQ.of e, 0, 0, 0, 0, 0⟩
theorem z_ok {k : Int} {nm : List UInt8} {op x y : Int} (h : nm.length ≤ 100) : (⟨k, nm, z0, z0, z0, z0, op, x, y, 0, 0⟩ : Nd).ok 20 := ⟨zr_ok, zr_ok, zr_ok, zr_ok, h⟩
theorem okN_op {op x y : Int} (h1 : 1 ≤ op) (h4 : op ≤ 4) : okN (opNd op x y) = true := by
  unfold okN opNd; simp [zp, zq, h1, h4]
theorem okN_un {x : Int} : okN (unNd x) = true := by
  unfold okN unNd; simp [zp, zq]
theorem okN_a {k : Int} (h1 : 2 ≤ k) (h3 : k ≤ 3) : okN (aNd k) = true := by
  have : k = 2 ∨ k = 3 := by omega
  rcases this with rfl | rfl <;> rfl
theorem good_a {k : Int} (h1 : 2 ≤ k) (h3 : k ≤ 3) : (Ex.leaf (aNd k)).good = true := by
  have : k = 2 ∨ k = 3 := by omega
  rcases this with rfl | rfl <;> rfl
theorem okN_h {a b c e : Rat} : okN (hNd a b c e) = true := by
  unfold okN hNd; simp
theorem okN_nm {c : UInt8} : okN (nmNd c) = true := by
  unfold okN nmNd; simp [zp, zq]
theorem nrmQ_of (x : Rat) : nrmQ (RQ.of x) = true := by
  unfold nrmQ
  rw [RQ.of_v]
  exact decide_eq_true ⟨rfl, rfl, rfl⟩
theorem good_h {a b c e : Rat} : (Ex.leaf (hNd a b c e)).good = true := by
  show (if (4 : Int) = 1 then _ else if (4 : Int) = 4 then (nrmQ (RQ.of a) && nrmQ (RQ.of b) && (nrmQ (RQ.of c) && nrmQ (RQ.of e))) else true) = true
  rw [if_neg (by decide), if_pos rfl, nrmQ_of, nrmQ_of, nrmQ_of, nrmQ_of]; rfl
abbrev abcd : List SV := [str [97], str [98], str [99], str [100]]
theorem abcd_at {k : Nat} (h : k < 4) : abcd[k]? = some (str [UInt8.ofNat (97 + k)]) ∧ (Ex.leaf (nmNd (UInt8.ofNat (97 + k)))).good = true := by
  have : k = 0 ∨ k = 1 ∨ k = 2 ∨ k = 3 := by omega
  rcases this with rfl | rfl | rfl | rfl <;> exact ⟨rfl, by decide +kernel⟩
theorem flat_snoc (l : List Nd) (n : Nd) : ((l ++ [n]).map ndx).flatten = (l.map ndx).flatten ++ ndx n := by
  rw [List.map_append, List.flatten_append]; simp only [List.map_cons, List.map_nil, List.flatten_cons, List.flatten_nil, List.append_nil]
theorem Own.snoc {T : TypeId} {l : List Nd} {n : Nd} {s : SV} {H : LH} (h : Own T 19 (l.length + 1) ((l.map ndx).flatten ++ ndx n) s H) : Own T 19 (l ++ [n]).length ((l ++ [n]).map ndx).flatten s H := by
  rw [flat_snoc, List.length_append, List.length_singleton]; exact h
abbrev exT : TypeId := 33
abbrev tpT : TypeId := 75
abbrev medP : SV := ex fun p : { p : Rat × Rat // ht p.1 ≤ 20 ∧ ht p.2 ≤ 20 } => rp p.1.1 p.1.2
theorem addT_pu {x y : Int} (hx : x.natAbs ≤ 4) (hy : y.natAbs ≤ 4) : Pu Tryz.prog 42 [rp (x : Rat) (y : Rat), smallR, intV] medP := by
  refine Pu.exAt' [rp (x : Rat) (y : Rat)] [intV] ⟨0, by have := ht_zero; omega⟩ fun q => ?_
  refine Pu.exAt' [rp (x : Rat) (y : Rat), rq q.1] [] ⟨(1, 0), ⟨by decide, by decide⟩, .inl (by decide)⟩ fun v => ?_
  obtain ⟨q, hq⟩ := q
  obtain ⟨⟨u, v⟩, ⟨hu, hv⟩, _⟩ := v
  simp only at hu hv
  have h1 := ht_i x (by omega)
  have h2 := ht_i y (by omega)
  have h3 := ht_i u (by omega)
  have h4 := ht_i v (by omega)
  have h5 := ht_mul q (u : Rat)
  have h6 := ht_mul q (v : Rat)
  have h7 := ht_add (x : Rat) (q * (u : Rat))
  have h8 := ht_add (y : Rat) (q * (v : Rat))
  exact (gadd_pu (x : Rat) (y : Rat) q (u : Rat) (v : Rat) (by omega) (by omega) (by omega) (by omega) (by omega)).le (Le.ex ⟨(_, _), by simp only; omega, by simp only; omega⟩ (Le.refl _))
def p0 : { p : Rat × Rat // ht p.1 ≤ 20 ∧ ht p.2 ≤ 20 } := ⟨(0, 0), by have := ht_zero; simp only; omega, by have := ht_zero; simp only; omega⟩
abbrev medQ : SV := ex fun p : { p : Rat × Rat // ht p.1 ≤ 20 ∧ ht p.2 ≤ 20 } => pq p.1.1 p.1.2
theorem toPT_pu : Pu Tryz.prog 29 [medP] medQ :=
  Pu.exAt [] [] ⟨(0, 0), by have := ht_zero; simp only; omega, by have := ht_zero; simp only; omega⟩ fun p => toP_pu p.1.1 p.1.2 (by have := p.2.1; omega) (by have := p.2.2; omega)
set_option maxHeartbeats 4000000 in
theorem expr1_pu (zs : List Int) (hz : zs.length ≤ 400) (b : Nat) : ∀ (m : Nat), m ≤ 100 → ∀ (ns : List Nd) (s : SV) (Hs : LH), ns.length ≤ 10000 - 50 * m → Own exT 19 ns.length (ns.map ndx).flatten s Hs →
    PuH Tryz.prog 24 [lit (.pointer (some ⟨b, 0, none⟩)), s, lit (.int .i64 m)] ((b, tpT, tapeC zs) :: Hs)
      (fun r H' => ∃ (t : Ex) (ns2 : List Nd) (Hs' : LH), H' = (b, tpT, tapeC zs) :: Hs' ∧ Own exT 19 (ns ++ ns2).length ((ns ++ ns2).map ndx).flatten r Hs' ∧ Wr ns2 ns.length t ∧ ns2.length ≤ 2 * m + 1) noX := by
  intro m
  induction m using Nat.strongRecOn with
  | _ m ih =>
    intro hm ns s Hs hns hown
    have hco := hown.co
    refine PuH.intro Tryz.func24 rfl (by kernel_rfl) fun C hC => ?_
    repeat (refine A1 ⟨?_⟩; intros)
    refine Wtx (next_pu zs hz 10 (by omega) (by omega)) (by (first | exact List.mem_cons_self | exact (List.mem_cons_of_mem _ List.mem_cons_self) | exact (List.mem_cons_of_mem _ (List.mem_cons_of_mem _ List.mem_cons_self)) | exact (List.mem_cons_of_mem _ (List.mem_cons_of_mem _ (List.mem_cons_of_mem _ List.mem_cons_self))) | exact (List.mem_cons_of_mem _ (List.mem_cons_of_mem _ (List.mem_cons_of_mem _ (List.mem_cons_of_mem _ List.mem_cons_self)))) | exact (List.mem_cons_of_mem _ (List.mem_cons_of_mem _ (List.mem_cons_of_mem _ (List.mem_cons_of_mem _ (List.mem_cons_of_mem _ List.mem_cons_self))))) | exact (List.mem_cons_of_mem _ (List.mem_cons_of_mem _ (List.mem_cons_of_mem _ (List.mem_cons_of_mem _ (List.mem_cons_of_mem _ (List.mem_cons_of_mem _ List.mem_cons_self)))))) | exact (List.mem_cons_of_mem _ (List.mem_cons_of_mem _ (List.mem_cons_of_mem _ (List.mem_cons_of_mem _ (List.mem_cons_of_mem _ (List.mem_cons_of_mem _ (List.mem_cons_of_mem _ List.mem_cons_self))))))))) fun k => ?_
    obtain ⟨k, hk⟩ := k
    simp only []
    refine WPL.viaS1 (fun F H => ∃ kk : Nat, kk < 10 ∧ (m = 0 → 6 ≤ kk) ∧ LeF F (fm [(0, lit (.pointer (some ⟨b, 0, none⟩))), (1, s), (2, lit (.int .i64 m)), (7, lit (.int .i64 kk))]) ∧ H = (b, tpT, tapeC zs) :: Hs) ?_ ?_
    · by_cases h0 : m = 0
      · by_cases h6 : k < 6
        · repeat (refine A1 ⟨?_⟩; intros)
          exact ⟨6, by omega, fun _ => by omega, by (repeat (first | exact LeF.nil _ | refine LeF.cons (Le.refl _) ?_ | refine LeF.cons (Le.int (by omega)) ?_)), rfl⟩
        · repeat (refine A1 ⟨?_⟩; intros)
          exact ⟨k, by omega, fun _ => by omega, by (repeat (first | exact LeF.nil _ | refine LeF.cons (Le.refl _) ?_ | refine LeF.cons (Le.int (by omega)) ?_)), rfl⟩
      · repeat (refine A1 ⟨?_⟩; intros)
        exact ⟨k, by omega, fun h => absurd h h0, by (repeat (first | exact LeF.nil _ | refine LeF.cons (Le.refl _) ?_ | refine LeF.cons (Le.int (by omega)) ?_)), rfl⟩
    rintro F H ⟨kk, hkk, h6, hF, rfl⟩
    refine WP.le hF ?_
    clear hF
    by_cases h4 : kk < 4
    · have hm1 : 1 ≤ m := by omega
      clear h6
      repeat (refine A1 ⟨?_⟩; intros)
      rw [show ((m : Int) - 1) / 2 = (((m - 1) / 2 : Nat) : Int) by omega]
      refine WfT (ih ((m - 1) / 2) (by omega) (by omega) ns s Hs (by omega) hown) ?_
      rintro s1 _ ⟨x, A, H1, rfl, hown1, hA, hAl⟩
      simp only [List.cons_append, List.nil_append]
      have hco1 := hown1.co
      have e1 : (ns ++ A).length = ns.length + A.length := List.length_append
      repeat (refine A1 ⟨?_⟩; intros)
      refine Wo (ov_lenOwn hown1 rfl) ?_
      repeat (refine A1 ⟨?_⟩; intros)
      rw [show ((m : Int) - 1) / 2 = (((m - 1) / 2 : Nat) : Int) by omega]
      refine WfT (ih ((m - 1) / 2) (by omega) (by omega) (ns ++ A) s1 H1 (by omega) hown1) ?_
      rintro s2 _ ⟨y, B, H2, rfl, hown2, hB, hBl⟩
      simp only [List.cons_append, List.nil_append]
      have hco2 := hown2.co
      have e2 : (ns ++ A ++ B).length = ns.length + A.length + B.length := by rw [List.length_append, e1]
      repeat (refine A1 ⟨?_⟩; intros)
      refine Wo (ov_lenOwn hown2 rfl) ?_
      repeat (refine A1 ⟨?_⟩; intros)
      refine WPL.lowB (HUpd.here _) (cs' := ndx (opNd (1 + (kk : Nat)) ((ns ++ A).length - 1) ((ns ++ A ++ B).length - 1))) (by simp only [opNd, unNd, aNd, nmNd]; repeat (first | exact trivial | refine ⟨?_, ?_⟩ | exact Le.refl _ | exact le_nil)) ?_
      refine Wown hown2 (by omega) (fun s' H' hown' => ?_)
      simp only [List.cons_append, List.nil_append]
      repeat (refine A1 ⟨?_⟩; intros)
      exact endHR _ _ (end1 (RV.tmp rfl) (Le.refl _)) (List.sublist_cons_self _ _) ⟨_, A ++ B ++ [opNd (1 + (kk : Nat)) ((ns ++ A).length - 1) ((ns ++ A ++ B).length - 1)], H', rfl, by rw [← List.append_assoc, ← List.append_assoc]; exact hown'.snoc,
        Wr.bi hA (by rw [← e1]; exact hB) (okN_op (by omega) (by omega)) rfl (by show ((ns ++ A).length : Int) - 1 = _; rw [e1]) (by show ((ns ++ A ++ B).length : Int) - 1 = _; rw [e2]) (z_ok (by decide)), by simp; omega⟩
    by_cases k6 : kk < 6
    · have hm1 : 1 ≤ m := by omega
      clear h6
      repeat (refine A1 ⟨?_⟩; intros)
      rw [show ((m : Int) - 1) = ((m - 1 : Nat) : Int) by omega]
      refine WfT (ih (m - 1) (by omega) (by omega) ns s Hs (by omega) hown) ?_
      rintro s1 _ ⟨x, A, H1, rfl, hown1, hA, hAl⟩
      simp only [List.cons_append, List.nil_append]
      have hco1 := hown1.co
      have e1 : (ns ++ A).length = ns.length + A.length := List.length_append
      repeat (refine A1 ⟨?_⟩; intros)
      refine Wo (ov_lenOwn hown1 rfl) ?_
      repeat (refine A1 ⟨?_⟩; intros)
      refine WPL.lowB (HUpd.here _) (cs' := ndx (unNd ((ns ++ A).length - 1))) (by simp only [opNd, unNd, aNd, nmNd]; repeat (first | exact trivial | refine ⟨?_, ?_⟩ | exact Le.refl _ | exact le_nil)) ?_
      refine Wown hown1 (by omega) (fun s' H' hown' => ?_)
      simp only [List.cons_append, List.nil_append]
      repeat (refine A1 ⟨?_⟩; intros)
      exact endHR _ _ (end1 (RV.tmp rfl) (Le.refl _)) (List.sublist_cons_self _ _) ⟨_, A ++ [unNd ((ns ++ A).length - 1)], H', rfl, by rw [← List.append_assoc]; exact hown'.snoc,
        Wr.un hA okN_un rfl (by show ((ns ++ A).length : Int) - 1 = _; rw [e1]) (z_ok (by decide)), by simp; omega⟩
    clear ih h6
    by_cases k6 : kk = 6
    · subst k6
      repeat (refine A1 ⟨?_⟩; intros)
      refine Wtx (next_pu zs hz 2 (by omega) (by omega)) (by (first | exact List.mem_cons_self | exact (List.mem_cons_of_mem _ List.mem_cons_self) | exact (List.mem_cons_of_mem _ (List.mem_cons_of_mem _ List.mem_cons_self)) | exact (List.mem_cons_of_mem _ (List.mem_cons_of_mem _ (List.mem_cons_of_mem _ List.mem_cons_self))) | exact (List.mem_cons_of_mem _ (List.mem_cons_of_mem _ (List.mem_cons_of_mem _ (List.mem_cons_of_mem _ List.mem_cons_self)))) | exact (List.mem_cons_of_mem _ (List.mem_cons_of_mem _ (List.mem_cons_of_mem _ (List.mem_cons_of_mem _ (List.mem_cons_of_mem _ List.mem_cons_self))))) | exact (List.mem_cons_of_mem _ (List.mem_cons_of_mem _ (List.mem_cons_of_mem _ (List.mem_cons_of_mem _ (List.mem_cons_of_mem _ (List.mem_cons_of_mem _ List.mem_cons_self)))))) | exact (List.mem_cons_of_mem _ (List.mem_cons_of_mem _ (List.mem_cons_of_mem _ (List.mem_cons_of_mem _ (List.mem_cons_of_mem _ (List.mem_cons_of_mem _ (List.mem_cons_of_mem _ List.mem_cons_self))))))))) fun k => ?_
      obtain ⟨k, hk⟩ := k
      simp only []
      repeat (refine A1 ⟨?_⟩; intros)
      refine WPL.lowB (HUpd.here _) (cs' := ndx (aNd (2 + (k : Nat)))) (by simp only [opNd, unNd, aNd, nmNd]; repeat (first | exact trivial | refine ⟨?_, ?_⟩ | exact Le.refl _ | exact le_nil)) ?_
      refine Wown hown (by omega) (fun s' H' hown' => ?_)
      simp only [List.cons_append, List.nil_append]
      repeat (refine A1 ⟨?_⟩; intros)
      exact endHR _ _ (end1 (RV.tmp rfl) (Le.refl _)) (List.sublist_cons_self _ _) ⟨_, [aNd (2 + (k : Nat))], H', rfl, hown'.snoc,
        Wr.leaf (okN_a (by omega) (by omega)) (show (2 + (k : Nat) : Int) ≠ 5 by omega) (show (2 + (k : Nat) : Int) ≠ 6 by omega) (good_a (by omega) (by omega)) (z_ok (by decide)), by simp⟩
    by_cases k7 : kk = 7
    · subst k7
      repeat (refine A1 ⟨?_⟩; intros)
      refine Wtx (tp_pu zs hz) (by (first | exact List.mem_cons_self | exact (List.mem_cons_of_mem _ List.mem_cons_self) | exact (List.mem_cons_of_mem _ (List.mem_cons_of_mem _ List.mem_cons_self)) | exact (List.mem_cons_of_mem _ (List.mem_cons_of_mem _ (List.mem_cons_of_mem _ List.mem_cons_self))) | exact (List.mem_cons_of_mem _ (List.mem_cons_of_mem _ (List.mem_cons_of_mem _ (List.mem_cons_of_mem _ List.mem_cons_self)))) | exact (List.mem_cons_of_mem _ (List.mem_cons_of_mem _ (List.mem_cons_of_mem _ (List.mem_cons_of_mem _ (List.mem_cons_of_mem _ List.mem_cons_self))))) | exact (List.mem_cons_of_mem _ (List.mem_cons_of_mem _ (List.mem_cons_of_mem _ (List.mem_cons_of_mem _ (List.mem_cons_of_mem _ (List.mem_cons_of_mem _ List.mem_cons_self)))))) | exact (List.mem_cons_of_mem _ (List.mem_cons_of_mem _ (List.mem_cons_of_mem _ (List.mem_cons_of_mem _ (List.mem_cons_of_mem _ (List.mem_cons_of_mem _ (List.mem_cons_of_mem _ List.mem_cons_self))))))))) fun p => ?_
      obtain ⟨⟨x, y⟩, hx, hy⟩ := p
      simp only at hx hy
      simp only []
      repeat (first | (refine AS ⟨?_⟩; intros) | (refine O1 ⟨?_⟩; intros))
      rename_i b9
      have c1 := toP_pu (x : Rat) (y : Rat) (by have := ht_i x (by omega); omega) (by have := ht_i y (by omega); omega)
      have c2 := addT_pu hx hy
      have c3 := toPT_pu
      refine WdN 12 ?_
      repeat (first | (refine A1 ⟨?_⟩; intros) | (refine Wcx (c1) ?_) | (refine Wdcx (c1) ?_) | (refine Wcgx (c1) ?_) | (refine Wdcgx (c1) ?_))
      refine Wdo (ov_callT (tq_pu zs hz) rfl (by (first | exact List.mem_cons_self | exact (List.mem_cons_of_mem _ List.mem_cons_self) | exact (List.mem_cons_of_mem _ (List.mem_cons_of_mem _ List.mem_cons_self)) | exact (List.mem_cons_of_mem _ (List.mem_cons_of_mem _ (List.mem_cons_of_mem _ List.mem_cons_self))) | exact (List.mem_cons_of_mem _ (List.mem_cons_of_mem _ (List.mem_cons_of_mem _ (List.mem_cons_of_mem _ List.mem_cons_self)))) | exact (List.mem_cons_of_mem _ (List.mem_cons_of_mem _ (List.mem_cons_of_mem _ (List.mem_cons_of_mem _ (List.mem_cons_of_mem _ List.mem_cons_self))))) | exact (List.mem_cons_of_mem _ (List.mem_cons_of_mem _ (List.mem_cons_of_mem _ (List.mem_cons_of_mem _ (List.mem_cons_of_mem _ (List.mem_cons_of_mem _ List.mem_cons_self)))))) | exact (List.mem_cons_of_mem _ (List.mem_cons_of_mem _ (List.mem_cons_of_mem _ (List.mem_cons_of_mem _ (List.mem_cons_of_mem _ (List.mem_cons_of_mem _ (List.mem_cons_of_mem _ List.mem_cons_self)))))))))) ?_
      repeat (refine A1 ⟨?_⟩; intros)
      refine Wdo (ov_callT (tv_pu zs hz) rfl (by (first | exact List.mem_cons_self | exact (List.mem_cons_of_mem _ List.mem_cons_self) | exact (List.mem_cons_of_mem _ (List.mem_cons_of_mem _ List.mem_cons_self)) | exact (List.mem_cons_of_mem _ (List.mem_cons_of_mem _ (List.mem_cons_of_mem _ List.mem_cons_self))) | exact (List.mem_cons_of_mem _ (List.mem_cons_of_mem _ (List.mem_cons_of_mem _ (List.mem_cons_of_mem _ List.mem_cons_self)))) | exact (List.mem_cons_of_mem _ (List.mem_cons_of_mem _ (List.mem_cons_of_mem _ (List.mem_cons_of_mem _ (List.mem_cons_of_mem _ List.mem_cons_self))))) | exact (List.mem_cons_of_mem _ (List.mem_cons_of_mem _ (List.mem_cons_of_mem _ (List.mem_cons_of_mem _ (List.mem_cons_of_mem _ (List.mem_cons_of_mem _ List.mem_cons_self)))))) | exact (List.mem_cons_of_mem _ (List.mem_cons_of_mem _ (List.mem_cons_of_mem _ (List.mem_cons_of_mem _ (List.mem_cons_of_mem _ (List.mem_cons_of_mem _ (List.mem_cons_of_mem _ List.mem_cons_self)))))))))) ?_
      repeat (first | (refine A1 ⟨?_⟩; intros) | (refine Wcx (c2) ?_) | (refine Wdcx (c2) ?_) | (refine Wcgx (c2) ?_) | (refine Wdcgx (c2) ?_) | (refine Wcx (c3) ?_) | (refine Wdcx (c3) ?_) | (refine Wcgx (c3) ?_) | (refine Wdcgx (c3) ?_))
      refine Wdo (OpV.exd 85 p0 rfl (g := fun p : { p : Rat × Rat // ht p.1 ≤ 20 ∧ ht p.2 ≤ 20 } => ag (ndx (hNd (x : Rat) (y : Rat) p.1.1 p.1.2))) fun p => Ov0) ?_
      refine Wdo (OpV.exd 86 p0 rfl (g := fun p : { p : Rat × Rat // ht p.1 ≤ 20 ∧ ht p.2 ≤ 20 } => sl (ndx (hNd (x : Rat) (y : Rat) p.1.1 p.1.2)) 1) fun p => ov_bsN (s := ag (ndx (hNd (x : Rat) (y : Rat) p.1.1 p.1.2))) rfl inferInstance) ?_
      repeat (refine A1 ⟨?_⟩; intros)
      refine WPL.exd (d := 87) rfl fun p => ?_
      obtain ⟨⟨u, v⟩, hu, hv⟩ := p
      simp only at hu hv
      simp only []
      refine WownS hown (Tk.skip _ (Tk.skip _ (Tk.same _))) (by omega) (fun s' H' hown' => ?_)
      simp only [List.cons_append, List.nil_append]
      repeat (refine A1 ⟨?_⟩; intros)
      exact endHR _ _ (end1 (RV.tmp rfl) (Le.refl _)) (List.sublist_cons_self _ _) ⟨_, [hNd (x : Rat) (y : Rat) u v], H', rfl, hown'.snoc,
        Wr.leaf okN_h (show (4 : Int) ≠ 5 by decide) (show (4 : Int) ≠ 6 by decide) good_h ⟨RQ.of_ok (by have := ht_i x (by omega); omega), RQ.of_ok (by have := ht_i y (by omega); omega), RQ.of_ok hu, RQ.of_ok hv, Nat.zero_le _⟩, by simp⟩
    · repeat (refine A1 ⟨?_⟩; intros)
      refine Wtx (next_pu zs hz 4 (by omega) (by omega)) (by (first | exact List.mem_cons_self | exact (List.mem_cons_of_mem _ List.mem_cons_self) | exact (List.mem_cons_of_mem _ (List.mem_cons_of_mem _ List.mem_cons_self)) | exact (List.mem_cons_of_mem _ (List.mem_cons_of_mem _ (List.mem_cons_of_mem _ List.mem_cons_self))) | exact (List.mem_cons_of_mem _ (List.mem_cons_of_mem _ (List.mem_cons_of_mem _ (List.mem_cons_of_mem _ List.mem_cons_self)))) | exact (List.mem_cons_of_mem _ (List.mem_cons_of_mem _ (List.mem_cons_of_mem _ (List.mem_cons_of_mem _ (List.mem_cons_of_mem _ List.mem_cons_self))))) | exact (List.mem_cons_of_mem _ (List.mem_cons_of_mem _ (List.mem_cons_of_mem _ (List.mem_cons_of_mem _ (List.mem_cons_of_mem _ (List.mem_cons_of_mem _ List.mem_cons_self)))))) | exact (List.mem_cons_of_mem _ (List.mem_cons_of_mem _ (List.mem_cons_of_mem _ (List.mem_cons_of_mem _ (List.mem_cons_of_mem _ (List.mem_cons_of_mem _ (List.mem_cons_of_mem _ List.mem_cons_self))))))))) fun k => ?_
      obtain ⟨k, hk⟩ := k
      simp only []
      repeat (refine A1 ⟨?_⟩; intros)
      refine Wo (ov_loadL rfl (by (first | exact List.mem_cons_self | exact (List.mem_cons_of_mem _ List.mem_cons_self) | exact (List.mem_cons_of_mem _ (List.mem_cons_of_mem _ List.mem_cons_self)) | exact (List.mem_cons_of_mem _ (List.mem_cons_of_mem _ (List.mem_cons_of_mem _ List.mem_cons_self))) | exact (List.mem_cons_of_mem _ (List.mem_cons_of_mem _ (List.mem_cons_of_mem _ (List.mem_cons_of_mem _ List.mem_cons_self)))) | exact (List.mem_cons_of_mem _ (List.mem_cons_of_mem _ (List.mem_cons_of_mem _ (List.mem_cons_of_mem _ (List.mem_cons_of_mem _ List.mem_cons_self))))) | exact (List.mem_cons_of_mem _ (List.mem_cons_of_mem _ (List.mem_cons_of_mem _ (List.mem_cons_of_mem _ (List.mem_cons_of_mem _ (List.mem_cons_of_mem _ List.mem_cons_self)))))) | exact (List.mem_cons_of_mem _ (List.mem_cons_of_mem _ (List.mem_cons_of_mem _ (List.mem_cons_of_mem _ (List.mem_cons_of_mem _ (List.mem_cons_of_mem _ (List.mem_cons_of_mem _ List.mem_cons_self))))))))) (abcd_at hk).1) ?_
      repeat (refine A1 ⟨?_⟩; intros)
      refine WPL.lowB (HUpd.here _) (cs' := ndx (nmNd (UInt8.ofNat (97 + k)))) (by simp only [opNd, unNd, aNd, nmNd]; repeat (first | exact trivial | refine ⟨?_, ?_⟩ | exact Le.refl _ | exact le_nil)) ?_
      refine Wown hown (by omega) (fun s' H' hown' => ?_)
      simp only [List.cons_append, List.nil_append]
      repeat (refine A1 ⟨?_⟩; intros)
      exact endHR _ _ (end1 (RV.tmp rfl) (Le.refl _)) (List.Sublist.cons _ (List.sublist_cons_self _ _)) ⟨_, [nmNd (UInt8.ofNat (97 + k))], H', rfl, hown'.snoc,
        Wr.leaf okN_nm (show (1 : Int) ≠ 5 by decide) (show (1 : Int) ≠ 6 by decide) (abcd_at hk).2 (z_ok (by simp)), by simp⟩
theorem expression_pu (zs : List Int) (hz : zs.length ≤ 400) (b : Nat) : PuH Tryz.prog 11 [lit (.pointer (some ⟨b, 0, none⟩)), lit (.int .i64 9)] [(b, tpT, tapeC zs)]
    (fun r H' => ∃ (t : Ex) (ns : List Nd) (Hs' : LH), H' = (b, tpT, tapeC zs) :: Hs' ∧ Own exT 19 ns.length (ns.map ndx).flatten r Hs' ∧ Wr ns 0 t ∧ ns.length ≤ 19) noX := by
  have c := expr1_pu zs hz b 9 (by omega) [] (lit (.slice none 0 0)) [] (by simp) (Own.nil exT 19)
  refine PuH.intro Tryz.func11 rfl (by kernel_rfl) fun C hC => ?_
  repeat (refine A1 ⟨?_⟩; intros)
  refine WfT c ?_
  rintro s' _ ⟨t, ns, H1, rfl, h1, h2, h3⟩
  simp only [List.cons_append, List.nil_append]
  have hco := h1.co
  repeat (refine A1 ⟨?_⟩; intros)
  exact endHR _ _ (end1 (RV.tmp rfl) (Le.refl _)) (List.Sublist.refl _) ⟨t, ns, H1, rfl, h1, h2, by omega⟩
set_option maxHeartbeats 4000000 in
theorem exprs_pu [Sent 0] (zs : List Int) (hz : zs.length ≤ 9223372036854775807) : Pu Tryz.prog 4 [nsl .i64 zs] (lit (.bool true)) := by
  have hk : (zs.take (min zs.length 400)).length ≤ 400 := by simp; omega
  have hnew := new_pu zs hz
  generalize zs.take (min zs.length 400) = ys at *
  have kn := known13
  clear hz
  refine Pu.intro Tryz.func4 rfl (by kernel_rfl) fun C => ?_
  repeat (refine A1 ⟨?_⟩; intros)
  refine WPL.callN hnew rfl rfl fun b => ?_
  repeat (refine A1 ⟨?_⟩; intros)
  refine WfT (expression_pu ys hk b) ?_
  rintro s _ ⟨t, ns, H1, rfl, hown, hw, hl⟩
  simp only [List.cons_append, List.nil_append]
  have c1 := pexpr_pu ns hw.ok (by omega) (by omega)
  have c2 := rExpr_pu ns hw.ok (by omega) (by omega)
  rw [hw.otx] at c1 c2
  unfold pans at c1
  unfold rans at c2
  have c3 := agrees_t t.txt
  obtain ⟨hcl, ⟨h0, rfl, rfl⟩ | ⟨b2, c, hnc, hcm, rfl, rfl⟩⟩ := hown
  · have := hw.pos
    omega
  refine WPL.pub (d := 10) (s' := sl (ns.map ndx).flatten ns.length) (HDel.there _ (HDel.here _)) rfl (fun m arr h1 h2 => pub_ownL h1 h2 hnc hcm) ?_
  repeat (first | (refine A1 ⟨?_⟩; intros) | (refine Wcx (c1) ?_) | (refine Wdcx (c1) ?_) | (refine Wcgx (c1) ?_) | (refine Wdcgx (c1) ?_) | (refine Wcx (c2) ?_) | (refine Wdcx (c2) ?_) | (refine Wcgx (c2) ?_) | (refine Wdcgx (c2) ?_) | (refine Wcx (c3) ?_) | (refine Wdcx (c3) ?_) | (refine Wcgx (c3) ?_) | (refine Wdcgx (c3) ?_) | (refine Wcx (kn) ?_) | (refine Wdcx (kn) ?_) | (refine Wcgx (kn) ?_) | (refine Wdcgx (kn) ?_))
  ((first | refine endR ?_ | refine endN ?_); exact end1 (RV.tmp rfl) (Le.refl _))
end Go.Ab
/- From the reading of a law's arguments to what the abstract machine says of them; the frame of a law's row. -/
namespace Go.Ab
open Go.Proofs
set_option linter.unusedSectionVars false
set_option linter.unusedVariables false
set_option linter.unusedSimpArgs false
variable [Base]
open Go.ChangeShapes Go.WideShapes Go.ChangeAt Go.RowKit
section
variable {H : Type} {enc : TypeId × Value → H} {P : Program} {w : World} {sp : Nat → Bool} {held : Bool}
/-- the memory that lies there when a law is called -/
def memOf (w : World) : Mem := fun b => w.heap[b]?
theorem memOf_in (w : World) (h : Base.mem.le (memOf w)) : MemIn (memOf w) w := ⟨fun _ _ h => h, h⟩
/-- whatever reads as a datum of this type has cells of one of these shapes -/
def Opn (enc : TypeId × Value → H) (P : Program) (w : World) (sp : Nat → Bool) (held : Bool) (T : TypeId) (G : List SV → Prop) : Prop :=
  ∀ fuel cs x, DataW.trod enc P w 0 sp held fuel T cs = some x → ∃ svs, G svs ∧ All2 (memOf w) svs cs
/-- shapes laid one behind the other -/
inductive Cat : List (List SV → Prop) → List SV → Prop
  | nil : Cat [] []
  | cons {G : List SV → Prop} {Gs : List (List SV → Prop)} {a b : List SV} (h : G a) (k : Cat Gs b) : Cat (G :: Gs) (a ++ b)
def GBool : List SV → Prop := fun l => ∃ b, l = [lit (.bool b)]
def GInt (k : IntKind) : List SV → Prop := fun l => ∃ n, (Lit.int k n).wf = true ∧ l = [lit (.int k n)]
def GStr : List SV → Prop := fun l => ∃ s : ByteArray, s.size ≤ maxLen ∧ l = [lit (.string s)]
def GNat : List SV → Prop := fun l => ∃ xs, D xs ∧ l = [dg xs]
def GInts (k : IntKind) : List SV → Prop := fun l => ∃ zs : List Int, (∀ z ∈ zs, (Lit.int k z).wf = true) ∧ zs.length ≤ maxLen ∧ l = [nsl k zs]
def GSl (k : Nat) (G : List SV → Prop) : List SV → Prop := fun l => ∃ es : List (List SV), (∀ e ∈ es, G e ∧ e.length = k) ∧ es.length ≤ maxLen ∧ l = [sl es.flatten es.length]
theorem all2_one {m : Mem} {s : SV} {v : Value} (h : s.p m v) (f : v.oneCell' = true) : All2 m [s] [v] := ⟨⟨h, f⟩, trivial⟩
theorem opn_bool {T : TypeId} [hT : TBo P T] : Opn enc P w sp held T GBool := fun fuel cs x h => by
  obtain ⟨b, rfl, _⟩ := DataW.trod_bool hT.h h
  exact ⟨_, ⟨b, rfl⟩, all2_one (lit_p.2 rfl) rfl⟩
theorem opn_int {T : TypeId} {k : IntKind} [hT : TIn P T k] : Opn enc P w sp held T (GInt k) := fun fuel cs x h => by
  obtain ⟨n, rfl, _, hw⟩ := DataW.trod_int hT.h h
  exact ⟨_, ⟨n, hw, rfl⟩, all2_one (lit_p.2 rfl) rfl⟩
theorem opn_str {T : TypeId} [hT : TSr P T] : Opn enc P w sp held T GStr := fun fuel cs x h => by
  obtain ⟨s, rfl, _, hw⟩ := DataW.trod_string hT.h h
  exact ⟨_, ⟨s, hw, rfl⟩, all2_one (lit_p.2 rfl) rfl⟩
/-- the cells of a struct's fields, one behind the other -/
def laid (P : Program) : List Field → Nat → Nat → Bool
  | [], o, n => Nat.beq o n
  | f :: fs, o, n => Nat.beq f.offset o && laid P fs (o + P.cellsOf f.type) n
inductive Opns (enc : TypeId × Value → H) (P : Program) (w : World) (sp : Nat → Bool) (held : Bool) : List TypeId → List (List SV → Prop) → Prop
  | nil : Opns enc P w sp held [] []
  | cons {T : TypeId} {G : List SV → Prop} {Ts : List TypeId} {Gs : List (List SV → Prop)} (h : Opn enc P w sp held T G) (k : Opns enc P w sp held Ts Gs) : Opns enc P w sp held (T :: Ts) (G :: Gs)
theorem opn_cat {n : Nat} : ∀ {fs : List Field} {Gs : List (List SV → Prop)} {o : Nat} {cs : List Value}, Opns enc P w sp held (fs.map (·.type)) Gs → laid P fs o cs.length = true →
    (∀ (i : Nat) (f : Field), fs[i]? = some f → ∃ x, DataW.trod enc P w 0 sp held n f.type ((cs.drop f.offset).take (P.cellsOf f.type)) = some x) →
    ∃ svs, Cat Gs svs ∧ All2 (memOf w) svs (cs.drop o)
  | [], _, o, cs, h, hl, _ => by
    cases h
    simp only [laid] at hl
    have := Nat.eq_of_beq_eq_true hl
    subst this
    exact ⟨[], .nil, by rw [List.drop_length]; trivial⟩
  | f :: fs, _, o, cs, h, hl, hx => by
    cases h with
    | cons h k =>
      simp only [laid, Bool.and_eq_true] at hl
      have ho := Nat.eq_of_beq_eq_true hl.1
      obtain ⟨x, hx0⟩ := hx 0 f rfl
      rw [ho] at hx0
      obtain ⟨s0, g0, a0⟩ := h _ _ _ hx0
      obtain ⟨s1, g1, a1⟩ := opn_cat k hl.2 fun i f' hf => hx (i + 1) f' (by simpa using hf)
      refine ⟨s0 ++ s1, .cons g0 g1, ?_⟩
      have := a0.append a1
      rwa [← List.drop_drop, List.take_append_drop] at this
theorem opn_struct {T : TypeId} {fs : Array Field} {Gs : List (List SV → Prop)} (hT : P.underlying T = some (.struct fs)) (hl : laid P fs.toList 0 (P.cellsOf T) = true) (ho : Opns enc P w sp held (fs.toList.map (·.type)) Gs) : Opn enc P w sp held T (Cat Gs) := fun fuel cs x h => by
  obtain ⟨xs, n, _, _, hc, hlen, hf⟩ := DataW.trod_struct hT h
  have := opn_cat (n := n) (cs := cs) ho (by rw [hc]; exact hl) fun i f hi => by
    have h1 := hf i f (by simpa using hi)
    have h2 : i < xs.length := by
      have := (List.getElem?_eq_some_iff.1 hi).1
      simp at this; omega
    rw [List.getElem?_eq_getElem h2] at h1
    exact ⟨_, h1⟩
  simpa using this
theorem cells_get {a : Addr} {n : Nat} {cs : List Value} (h : w.cells? 0 a n = some cs) : cs.length = n ∧ ∀ j, j < n → w.cell? (a.add j) = cs[j]? := by
  unfold World.cells? at h
  rw [if_pos (Nat.zero_le _)] at h
  have hl := mapM_some_length h
  refine ⟨by simpa using hl, fun j hj => ?_⟩
  have := mapM_some_get h j j (by simp [hj])
  simpa using this
theorem flat_range {m : Mem} {f : Nat → List SV} {k : Nat} {vs : List Value} : ∀ {n : Nat}, (∀ i, i < n → (f i).length = k ∧ All2 m (f i) ((vs.drop (i * k)).take k)) → All2 m ((List.range n).map f).flatten (vs.take (n * k))
  | 0, _ => by simp [All2]
  | n + 1, h => by
    have h1 := flat_range (n := n) fun i hi => h i (by omega)
    have h2 := (h n (by omega)).2
    have := h1.append h2
    rw [List.range_succ, List.map_append, List.flatten_append, show (n + 1) * k = n * k + k from by rw [Nat.add_mul, Nat.one_mul], List.take_add]
    simpa using this
theorem opn_slice {T e : TypeId} {k : Nat} {G : List SV → Prop} [hT : TSl P T e] (hk : P.cellsOf e = k) (hk0 : 0 < k) (hG : Opn enc P w sp held e G) : Opn enc P w sp held T (GSl k G) := fun fuel cs x h => by
  rcases Deep.open_slice hT.h h with ⟨rfl, _⟩ | ⟨a, len, cap, m, n, Dd, Pl, rfl, _, hlc, hcm, hm, _, hx⟩
  · exact ⟨_, ⟨[], by simp, by simp, rfl⟩, all2_one (sl_mk (by simp) (by simp [maxLen]) (.inl rfl)) rfl⟩
  · have hlm : len ≤ m := by rw [hm]; split <;> omega
    have hcell : ∀ i, i < len → ∃ l, G l ∧ l.length = k ∧ ∃ cs', w.cells? 0 (a.add (i * k)) k = some cs' ∧ All2 (memOf w) l cs' := fun i hi => by
      obtain ⟨cs', h1, h2⟩ := hx i (by omega)
      rw [hk] at h1
      obtain ⟨l, g1, g2⟩ := hG _ _ _ h2
      exact ⟨l, g1, by rw [← g2.length, (cells_get h1).1], cs', h1, g2⟩
    have hch : ∀ i : Nat, ∃ l, i < len → G l ∧ l.length = k ∧ ∃ cs', w.cells? 0 (a.add (i * k)) k = some cs' ∧ All2 (memOf w) l cs' := fun i => by
      by_cases hi : i < len
      · obtain ⟨l, hl⟩ := hcell i hi
        exact ⟨l, fun _ => hl⟩
      · exact ⟨[], fun h => absurd h hi⟩
    obtain ⟨f, hf⟩ := Classical.axiomOfChoice hch
    refine ⟨_, ⟨(List.range len).map f, fun l hl => ?_, by simp; omega, rfl⟩, all2_one (v := .slice (some a) len cap) ?_ rfl⟩
    · obtain ⟨i, hi, rfl⟩ := List.mem_map.1 hl
      have := hf i (by simpa using hi)
      exact ⟨this.1, this.2.1⟩
    · rw [List.length_map, List.length_range]
      refine sl_mk hlc hcm ?_
      rcases Nat.eq_zero_or_pos len with h0 | h0
      · left; subst h0; rfl
      · right
        obtain ⟨_, hl0, cs0, hc0, _⟩ := hf 0 h0
        have hcc := (cells_get hc0).2 0 hk0
        rw [Nat.zero_mul] at hcc
        have hcl := (cells_get hc0).1
        rw [List.getElem?_eq_getElem (by omega)] at hcc
        obtain ⟨b, off, spot⟩ := a
        have hs : spot = none := by simpa [Addr.add] using World.cell?_spot hcc
        subst hs
        simp only [add_none, Nat.add_zero] at hcc
        have hb : ∃ arr T fz, w.heap[b]? = some (.cells arr T fz) := by
          unfold World.cell? at hcc
          cases hbb : w.heap[b]? with
          | none => simp [hbb] at hcc
          | some o => cases o with
            | cells arr T fz => exact ⟨arr, T, fz, rfl⟩
            | _ => simp [hbb] at hcc
        obtain ⟨arr, T', fz, hb⟩ := hb
        refine ⟨b, off, rfl, arr, T', fz, hb, ?_⟩
        have hfl : ((List.range len).map f).flatten.length = len * k := by
          have : ∀ n, n ≤ len → ((List.range n).map f).flatten.length = n * k := by
            intro n
            induction n with
            | zero => intro _; simp
            | succ n ih => intro hn; rw [List.range_succ, List.map_append, List.flatten_append, List.length_append, ih (by omega)]; simp [(hf n (by omega)).2.1, Nat.add_mul]
          exact this len (Nat.le_refl _)
        rw [hfl]
        refine flat_range fun i hi => ?_
        obtain ⟨_, hl, cs', hc, ha⟩ := hf i hi
        refine ⟨hl, ?_⟩
        have hcs : cs' = ((arr.toList.drop off).drop (i * k)).take k := by
          obtain ⟨g1, g2⟩ := cells_get hc
          apply List.ext_getElem?
          intro j
          by_cases hj : j < k
          · have h1 := g2 j hj
            simp only [add_none] at h1
            rw [cell_of w b _ arr _ _ hb] at h1
            rw [List.getElem?_take_of_lt hj, List.getElem?_drop, List.getElem?_drop, ← h1]
            simp [Nat.add_assoc]
          · rw [List.getElem?_eq_none (by omega), List.getElem?_eq_none (by rw [List.length_take]; omega)]
        rw [← hcs]; exact ha
theorem opn_ints {T e : TypeId} {k : IntKind} [hT : TSl P T e] [hE : TIn P e k] (hk : P.cellsOf e = 1) : Opn enc P w sp held T (GInts k) := fun fuel cs x h => by
  obtain ⟨svs, ⟨es, hes, hl, rfl⟩, ha⟩ := opn_slice (k := 1) hk (by omega) (opn_int (k := k)) fuel cs x h
  refine ⟨_, ?_, ha⟩
  have : ∃ zs : List Int, (∀ z ∈ zs, (Lit.int k z).wf = true) ∧ es = zs.map fun z => [lit (.int k z)] := by
    clear ha hl
    induction es with
    | nil => exact ⟨[], by simp, rfl⟩
    | cons e es ih =>
      obtain ⟨zs, h1, h2⟩ := ih fun x hx => hes x (by simp [hx])
      obtain ⟨⟨z, hz, rfl⟩, _⟩ := hes e (by simp)
      exact ⟨z :: zs, by simpa using ⟨hz, h1⟩, by rw [h2]; rfl⟩
  obtain ⟨zs, h1, rfl⟩ := this
  refine ⟨zs, h1, by simpa using hl, ?_⟩
  have hfl : (zs.map fun z => [lit (.int k z)]).flatten = zs.map fun z => lit (.int k z) := by
    clear hl hes ha h1
    induction zs with
    | nil => rfl
    | cons z zs ih => simp [ih]
  rw [hfl, List.length_map]
  unfold nsl; rfl
theorem opn_nat {T e : TypeId} [hT : TSl P T e] [hE : TIn P e .u32] (hk : P.cellsOf e = 1) : Opn enc P w sp held T GNat := fun fuel cs x h => by
  obtain ⟨svs, ⟨zs, hz, hl, rfl⟩, ha⟩ := opn_ints (k := .u32) hk fuel cs x h
  have : ∃ xs : List Nat, D xs ∧ zs = xs.map fun d : Nat => (d : Int) := by
    clear ha hl
    induction zs with
    | nil => exact ⟨[], D.nil, rfl⟩
    | cons z zs ih =>
      obtain ⟨xs, h1, h2⟩ := ih fun x hx => hz x (by simp [hx])
      have := hz z (by simp)
      simp only [Lit.wf, IntKind.min, IntKind.max, IntKind.signed, IntKind.bits, Bool.and_eq_true, decide_eq_true_eq] at this
      simp at this
      exact ⟨z.toNat :: xs, D.cons (by omega) h1, by rw [h2]; simp; omega⟩
  obtain ⟨xs, hD, rfl⟩ := this
  exact ⟨_, ⟨xs, hD, (dg_nsl xs).symm ▸ rfl⟩, ha⟩
end
end Go.Ab
/- The rows of this seat's laws: what is common to them. -/
namespace Go.Ab
open Go.Proofs
set_option linter.unusedSectionVars false
set_option linter.unusedVariables false
set_option linter.unusedSimpArgs false
variable [Base]
open Go.ChangeShapes Go.WideShapes Go.ChangeAt Go.RowKit
theorem agg_of {m : Mem} {svs : List SV} {v : Value} (h : All2 m svs v.cells.toList) (hl : 2 ≤ svs.length) : (ag svs).p m v := by
  have hlen := h.length
  unfold ag
  cases v with
  | agg arr => exact ⟨arr, rfl, h⟩
  | _ => simp [Value.cells] at hlen; omega
theorem calls_of {P : Program} {f : FuncId} {args : List SV} {W : World} {vs : List Value} (hB : Base.mem.le (memOf W)) (h : Pu P f args (lit (.bool true))) (ha : ArgsOk (memOf W) args vs) :
    Calls P f vs.toArray W fun e w' => e = .returned (.bool true) ∧ Below W.heap.size W w' := by
  unfold Pu at h
  refine (h.2 _ W vs (memOf_in W hB) ha).mono ?_
  rintro e w' ⟨v, m', rfl, hv, _, hr⟩
  rw [lit_p] at hv
  subst hv
  exact ⟨rfl, hr.os, hr.tape, hr.output, hr.size, fun k hk => hr.block k hk (by simp)⟩
theorem own0 : ownKnob Tryz.prog.godebug = none := by kernel_rfl
theorem laidOut0 : laidOutB Tryz.prog = true := by kernel_rfl
section
variable {H : Type} {enc : TypeId × Value → H} {W : World} {sp : Nat → Bool} {held : Bool}
abbrev GI : List SV → Prop := Cat [GBool, GNat]
abbrev GR : List SV → Prop := Cat [GI, GNat]
theorem opn_nat0 : Opn enc Tryz.prog W sp held 25 GNat := opn_nat (by kernel_rfl)
theorem opn_int0 : Opn enc Tryz.prog W sp held 27 GI := opn_struct Tryz.underlying27 (by kernel_rfl) (.cons opn_bool (.cons opn_nat0 .nil))
theorem opn_rat0 : Opn enc Tryz.prog W sp held 29 GR := opn_struct Tryz.underlying29 (by kernel_rfl) (.cons opn_int0 (.cons opn_nat0 .nil))
end
theorem cat_rat {l : List SV} (h : GR l) : ∃ r : RQ, (D r.n ∧ D r.d) ∧ l = qcells r := by
  cases h with
  | cons h k => cases h with
    | cons hb hk => cases hk with
      | cons hn hz => cases hz; cases k with
        | cons hd hz => cases hz
                        obtain ⟨b, rfl⟩ := hb
                        obtain ⟨xs, hx, rfl⟩ := hn
                        obtain ⟨ys, hy, rfl⟩ := hd
                        exact ⟨⟨b, xs, ys⟩, ⟨hx, hy⟩, rfl⟩
end Go.Ab
/- Rows that list package variables: what the list says to the abstract machine. -/
namespace Go.Ab
open Go.Proofs
set_option linter.unusedSectionVars false
set_option linter.unusedVariables false
set_option linter.unusedSimpArgs false
variable [Base]
open Go.ChangeShapes Go.WideShapes Go.ChangeAt Go.RowKit
theorem starE : "*" ++ "errors.errorString" = "*errors.errorString" := by decide
theorem rowE (u : TypeId) (h : (Tryz.prog).typeName? 3 u = some "*errors.errorString") : u = 378 :=
  typeName_ptr_named (nm := "errors.errorString") (by rw [starE]; kernel_rfl) (by kernel_rfl) (by decide) u (by rw [starE]; exact h)
/-- a listed sentinel, at the head of a list -/
theorem sent_head {n : String} {text : List UInt8} {r : List (String × DataW Unit)} {W : World} {g : Nat} (h : laidMet Tryz.prog ((n, .iface "*errors.errorString" (.ptr (.agg [.lit (.string text)]))) :: r) W)
    (hg : (Tryz.prog).globalNamed n = some g) (ht : ((Tryz.prog).globals[g]?).map (·.type) = some 36) : ∃ (a : Addr) (T : TypeId) (fz : Nat × Nat), W.heap[g]? = some (.cells #[.iface 378 (.pointer (some a))] T fz) := by
  obtain ⟨a, s, hv, _⟩ := laid_sentinel (tp := 378) h hg ht Tryz.underlying36 rowE Tryz.underlying378 Tryz.underlying400 rfl rfl Tryz.underlying9 (by kernel_rfl) (by kernel_rfl)
  unfold World.var? at hv
  rw [hg] at hv
  simp only [Option.bind_some] at hv
  cases hh : W.heap[g]? with
  | none => rw [hh] at hv; cases hv
  | some o =>
    rw [hh] at hv
    cases o with
    | cells cs T fz =>
      simp only [Option.some.injEq] at hv
      subst hv
      exact ⟨a, T, fz, rfl⟩
    | _ => cases hv
/-- the memory of a call, for a whole law -/
abbrev baseOf (W : World) : Base := ⟨memOf W⟩
end Go.Ab
