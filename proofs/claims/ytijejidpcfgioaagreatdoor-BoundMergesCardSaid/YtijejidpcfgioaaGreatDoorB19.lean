/- Texts laid one behind the other: RowB, RowC, Fpos, Parse, LexS, LexW. -/
import Derived.Test.YtijejidpcfgioaaGreatDoorB03
import Derived.Test.YtijejidpcfgioaaGreatDoorB18
import Derived.Test.YtijejidpcfgioaaGreatDoorB16
import Derived.Test.YtijejidpcfgioaaGreatDoorB15
import Derived.Test.YtijejidpcfgioaaGreatDoorB14
/- Appending a finished record to a row of one's own; what is done with a value that is known to exist only. -/
namespace Go.Ab
open Go.Proofs
set_option linter.unusedSectionVars false
set_option linter.unusedVariables false
set_option linter.unusedSimpArgs false
variable [Base]
section
variable {P : Program} {C : Ctx} {n : Nat} {F : Fr} {H : LH} {ops : Array Oper} {K : Fr → LH → Prop} {rest : List Oper} {ty : TypeId} {pos : String} {aft : Array Edge}
theorem HUpd.mem_or {b : Nat} {T : TypeId} {cs cs' : List SV} {H H' : LH} (h : HUpd b T cs cs' H H') : ∀ e ∈ H', e = (b, T, cs') ∨ e ∈ H := by
  induction h with
  | here => exact fun e he => (List.mem_cons.1 he).imp id fun h => List.mem_cons_of_mem _ h
  | there _ _ ih => exact fun e he => (List.mem_cons.1 he).elim (fun h => .inr (by rw [h]; exact List.mem_cons_self)) fun h => (ih e h).imp id fun h => List.mem_cons_of_mem _ h
/-- a block's description made weaker -/
theorem St.lowB {b : Nat} {T : TypeId} {cs cs' : List SV} {H' : LH} {a : Act} {w : World} (hu : HUpd b T cs cs' H H') (hle : LeL cs cs') (hs : St C n F H a w) : St C n F H' a w := by
  obtain ⟨hdef, hn, m, h1, h2, h3, h4, h5⟩ := hs
  obtain ⟨g1, g2⟩ := h2.2 _ hu.mem
  refine ⟨hdef, hn, m, h1, ⟨by rw [hu.keys]; exact h2.1, fun e he => ?_⟩, h3, fun e he => ?_, h5⟩
  · rcases hu.mem_or e he with rfl | h
    · exact ⟨g1, g2.le hle⟩
    · exact h2.2 e h
  · rcases hu.mem_or e he with rfl | h
    · exact h4 (b, T, cs) hu.mem
    · exact h4 e h
theorem WPL.lowB {l : List Oper} {b : Nat} {T : TypeId} {cs cs' : List SV} {H' : LH} (hu : HUpd b T cs cs' H H') (hle : LeL cs cs') (k : WPL P C n ops l K F H') : WPL P C n ops l K F H := by
  unfold WPL at *
  exact fun a w hs => k a w (hs.lowB hu hle)
/-- a join behind the rest of a region and one more piece -/
theorem WPL.viaS1 {Q : Exit → Fr → LH → Prop} {l : List Oper} {B R : Code} (J : Fr → LH → Prop) (h : WPL P C n ops l (fun F H => thenQ (fun F H => WP P C n B (thenQ J Q) F H) Q .normal F H) F H)
    (k : ∀ F H, J F H → WP P C n R Q F H) : WPL P C n ops l (fun F H => thenQ (WP P C n (.seq B R) Q) Q .normal F H) F H :=
  WPL.via _ h fun F H hB => WP.join _ hB k
/-- x[j:], records -/
theorem ov_slFn {T e : TypeId} {sz by_ : Nat} {z : List SV} {g : Bool} [hS : TSl P T e] [hT : TY P e sz by_ z g] {x y : Operand} {cs : List SV} {k : Nat} {v : Int} (j : Nat) (hx : ev F x = sl cs k) (hy : ev F y = lit (.int .i64 v)) (hv : v = (j : Int)) (hk : cs.length = k * sz) (hj : j ≤ k) :
    OpV P (.slice T x (some y) none none) ty F H (sl (cs.drop (j * sz)) (k - j)) :=
  OpV.pure fun m w o a ho _ _ _ h => by
    have e0 := h x (by simp [Op.operands]); rw [hx] at e0
    have e1 := h y (by simp [Op.operands]); rw [hy, lit_p] at e1
    subst hv
    obtain ⟨ad, cap, e0, hc1, hc2, hca⟩ := sl_cells e0
    have hb : (Instr.sliceBounds true k cap (some (a.eval y)) none none).run P w = .ok (j, k, cap) w := by
      simp [Instr.sliceBounds, run_bound j k _ e1 hj]
    have hrun : ∃ a', (execOp a.eval o).run P w = .ok (.value (.slice a' (k - j) (cap - j))) w ∧ (cs.drop (j * sz) = [] ∨ ∃ b off, ad = some ⟨b, off, none⟩ ∧ a' = some ⟨b, off + j * sz, none⟩ ∧ cellsAt m b off cs) := by
      refine ⟨if cap = j then ad else ad.map (·.add (j * sz)), ?_, ?_⟩
      · simp [execOp, ho, Instr.sliceAt, Instr.slice, underlying, hS.h, e0, hb, hT.run_size]
      · rcases hca with hnil | ⟨b, off, rfl, hca⟩
        · left; rw [hnil, List.drop_nil]
        · by_cases hci : cap = j
          · left
            have hkj : k = j := by omega
            exact List.drop_eq_nil_of_le (by rw [hk, hkj]; exact Nat.le_refl _)
          · right
            refine ⟨b, off, rfl, ?_, hca⟩
            rw [if_neg hci]
            simp [add_none]
    obtain ⟨a', hr, hcs⟩ := hrun
    refine ⟨_, hr, sl_mk (by omega) (by omega) ?_⟩
    rcases hcs with hnil | ⟨b, off, _, rfl, hca⟩
    · left; exact hnil
    · right
      exact ⟨b, off + j * sz, rfl, hca.drop (j * sz)⟩
attribute [local semireducible] WPL in
/-- a row's operation, by the rule for a straight walk -/
theorem TSR.of {i : Nat} {o : Oper} {Fe : Fr} {Post : SV → LH → Prop} (ho : ops[i]? = some o) (hg : o.guard = none) (h : ∀ F : Fr, (∀ t, t ∈ o.looksAt ops → Fe t = F t) → WPL P { C with pan := noX } n ops [o] (fun F' H' => ∃ sv, Post sv H' ∧ F' = dstf o F sv) F H) : TSR P C n ops i o Fe H Post := by
  obtain ⟨od, oop, oty, opos, oaft, og⟩ := o
  simp only at hg
  subst hg
  intro F hF a w hst Q' K' hK
  have h' := h F hF a w hst (fun e a' w' => match e with | .normal => K' a' w' | e => False) ⟨fun a' w' F' H' hst' hKK => ?_, fun ch a' w' hp => ?_⟩
  · unfold wpOp
    rw [ho]
    unfold wpList at h'
    simp only [Region.wanted, if_true] at h' ⊢
    left
    rcases h' with h' | ⟨_, a0, w0, h0⟩
    · exact wp_agree h' (fun _ _ _ h => h.elim) (fun _ _ h => h.elim)
    · exact h0.elim
  · obtain ⟨sv, hP, rfl⟩ := hKK
    exact hK sv H' hP a' w' hst'
  · obtain ⟨_, _, _, _, _, _, _, _, _, _, _, hx⟩ := hp
    exact hx.elim
/-- appending one record to a row of one's own, in a row of late operations -/
theorem Gown {k q i d : Nat} {late : List NO'} {T e : TypeId} {sz by_ : Nat} {z : List SV} {g : Bool} [hS : TSl P T e] [hT : TY P e sz by_ z g] {x y : Operand} {n0 b2 c2 : Nat} {T' : TypeId} {cs ds : List SV} {s : SV} {Hs Rs : LH} {r : List Oper}
    (hown : Own e sz n0 cs s Hs) (hl : n0 ≤ 1000000000) (hlok : LOk P ops k q n H F late) (h : ∀ s' H', Own e sz (n0 + 1) (cs ++ ds) s' H' → Stg P C n ops k q late K (i + 1) r (upd F d s') (Rs ++ H')) (hsp : Tk H Hs Rs) (hm : (b2, T', ds) ∈ Rs)
    (hx : ev F x = s := by exact rfl) (hy : ev F y = lit (.slice (some ⟨b2, 0, none⟩) 1 c2) := by exact rfl) (hds : ds.length = sz := by exact rfl) (hpos : 0 < sz := by decide) (hby : by_ ≤ 10000 := by decide)
    (ho : ops[i]? = some ⟨some d, .call ⟨.builtin .append, #[x, y], #[T, T]⟩, ty, pos, aft, none⟩ := by exact rfl) (hd : Nat.blt d n = true := by exact rfl) :
    Stg P C n ops k q late K i (⟨some d, .call ⟨.builtin .append, #[x, y], #[T, T]⟩, ty, pos, aft, none⟩ :: r) F H := by
  refine ⟨hlok, fun s' H' => ∃ H1, Own e sz (n0 + 1) (cs ++ ds) s' H1 ∧ H' = Rs ++ H1, TSR.of ho rfl fun F1 hF1 => ?_, ?_⟩
  · have hx1 : ev F1 x = s := by rw [← hx]; exact (ev_looks (by simp [Op.operands, Call.operands]) hF1)
    have hy1 : ev F1 y = lit (.slice (some ⟨b2, 0, none⟩) 1 c2) := by rw [← hy]; exact (ev_looks (by simp [Op.operands, Call.operands]) hF1)
    exact Wown hown hl (fun s' H' h' => WPL.nil ⟨s', ⟨H', h', rfl⟩, rfl⟩) hx1 hy1 hsp hm hds hpos hby hd
  · rintro s' H' ⟨H1, h1, rfl⟩
    exact h s' H1 h1
/-- a new slice of one record, at once finished -/
theorem ov_bsN {T e : TypeId} {sz by_ : Nat} {z : List SV} {g : Bool} [hS : TSl P T e] [hT : TY P e sz by_ z g] {x : Operand} {s : SV} {ds : List SV} (hx : ev F x = s) (hco : CO s ds) (hf : fillS ((List.range 1).map fun i => (i * sz, sz)) (List.replicate 1 z).flatten [(0, ds)] = some ds := by exact rfl)
    (hsz : Nat.ble (1 * sz) 16777216 = true := by exact rfl) (hpos : Nat.blt 0 sz = true := by exact rfl) : OpV P (.buildSlice T 1 [(0, x)].toArray) ty F H (sl ds 1) :=
  OpV.pubN (nk_bslice (.cons hx hco .nil) hf hsz hpos) fun m b arr hb h => sl_new hb h (by simp only [maxLen]; omega)
theorem WPL.appOwnS {T e : TypeId} {sz by_ : Nat} {z : List SV} {g : Bool} [hS : TSl P T e] [hT : TY P e sz by_ z g] {d : Nat} {x y : Operand} {n0 : Nat} {cs ds : List SV} {s : SV} {Hs Rs : LH}
    (hown : Own e sz n0 cs s Hs) (hx : ev F x = s) (hy : ev F y = sl ds 1) (hsp : Spl H Hs Rs) (hds : ds.length = sz) (hpos : 0 < sz) (hl : n0 ≤ 1000000000) (hby : by_ ≤ 10000)
    (k : ∀ s' H', Own e sz (n0 + 1) (cs ++ ds) s' H' → WPL P C n ops rest K (upd F d s') (H' ++ Rs)) (hd : Nat.blt d n = true) :
    WPL P C n ops (⟨some d, .call ⟨.builtin .append, #[x, y], #[T, T]⟩, ty, pos, aft, none⟩ :: rest) K F H := by
  unfold WPL
  intro a w hs0 Q hq
  have hs := hs0.perm hsp.perm
  refine wpList_plain rfl fun K' hK' => ?_
  obtain ⟨hdef, hn, m0, h10, h20, h30, h40, h50⟩ := id hs
  have hp0 : ∀ x, (ev F x).p m0 (a.eval x) := fun x => by
    cases x with
    | tmp t => exact h50 t
    | const v => unfold ev lit; rfl
    | global g => unfold ev lit; rfl
    | func f => unfold ev lit; rfl
  have e0 := hp0 x; rw [hx] at e0
  have e1 := hp0 y; rw [hy] at e1
  obtain ⟨ad2, c2, e1, hc1, hc2, hcb⟩ := sl_cells e1
  obtain ⟨b2, off2, rfl, arr2, T2, fz2, hbm2, hall2⟩ := hcb.resolve_left (fun h => by rw [h] at hds; simp at hds; omega)
  have hb2 := h10 _ _ hbm2
  rw [hds] at hall2
  generalize hl2 : (arr2.toList.drop off2).take sz = l2 at hall2
  obtain ⟨i, v, hi, hsz, hbyt, hz, hzl, hfl, hvs⟩ := hT.run_bytes
  have hlen2 := hall2.length
  have hys : ∀ j u, l2[j]? = some u → w.cell? ((⟨b2, off2, none⟩ : Addr).add j) = some u := fun j u hj => by
    rw [add_none, cell_of w b2 _ arr2 _ _ hb2]
    rw [← hl2, List.getElem?_take] at hj
    split at hj
    · rw [List.getElem?_drop] at hj; simpa using hj
    · cases hj
  have hexec : execOp a.eval (⟨some d, .call ⟨.builtin .append, #[x, y], #[T, T]⟩, ty, pos, aft, none⟩ : Oper) = (do let v ← Builtin.append_ #[T, T] ty #[a.eval x, a.eval y]; pure (.value v)) := by
    simp [execOp, resolve, invoke, builtin]
  have hmul : ∀ q, q ≤ 1000000001 → q * by_ ≤ 140737488355328 := fun q hq => Nat.le_trans (Nat.mul_le_mul hq hby) (by decide)
  have get2 : ∀ m, MemIn m w → (ev F y).p m (a.eval y) → All2 m ds l2 := fun m h1 h2 => by
    rw [hy, e1] at h2
    obtain ⟨ad3, c3, e3, _, _, hcb3⟩ := sl_cells h2
    obtain ⟨b3, off3, rfl, arr3, T3, fz3, hbm3, hall3⟩ := hcb3.resolve_left (fun h => by rw [h] at hds; simp at hds; omega)
    have hb3 := h1 _ _ hbm3
    simp only [Value.slice.injEq, Option.some.injEq, Addr.mk.injEq, and_true, true_and] at e3
    obtain ⟨⟨rfl, rfl⟩, _⟩ := e3
    rw [hb2] at hb3
    simp only [Option.some.injEq, Obj.cells.injEq] at hb3
    obtain ⟨rfl, _⟩ := hb3
    rw [hds, hl2] at hall3
    exact hall3
  unfold Oper.wp
  rw [hexec, e1]
  obtain ⟨hcl, hcase⟩ := hown
  rcases hcase with ⟨rfl, rfl, rfl⟩ | ⟨b, c, hnc, hcm, rfl, rfl⟩
  · rw [lit_p] at e0
    have hcs : cs = [] := List.eq_nil_of_length_eq_zero (by rw [hcl, Nat.zero_mul])
    subst hcs
    have hrun := run_append_nil (P := P) w T ty e i v hS.h hi hz ⟨b2, off2, none⟩ 1 c2 l2 (by rw [hlen2, hsz, hds, Nat.one_mul]) hys (by omega) (by omega) (by rw [hbyt]; have := hmul 1 (by omega); omega)
    rw [e0]
    simp only [Sem.run_bind, hrun, Result.andThen_ok, Sem.run_pure]
    have hge := grownCap_ge w 1 0 e
    have hle := grownCap_le_maxLen w 1 0 e (by simp only [maxLen]; omega)
    have h := k (lit (.slice (some ⟨w.heap.size, 0, none⟩) 1 (grownCap w 1 0 e))) [(w.heap.size, e, ([] ++ ds) ++ List.replicate (grownCap w 1 0 e * sz - 1 * sz) top)] ⟨by rw [List.nil_append, hds]; omega, .inr ⟨_, _, hge, hle, rfl, by rw [Nat.zero_add]⟩⟩
    unfold WPL at h
    refine hK' _ _ (h _ _ (St.pushD (Nat.blt_eq.mp hd) hs fun m h1 h2 h3 => ?_) Q hq)
    simp only [Array.toList_append, List.toList_toArray, List.nil_append]
    refine (get2 m h1 (h3 y)).append (All2.topL ?_ (zeroCells_one hfl))
    rw [Array.length_toList, size_zeroCells, hvs, Nat.sub_mul]
  · rw [lit_p] at e0
    obtain ⟨hmb, arr, hb, hall⟩ := h20.2 _ (List.mem_append_left Rs (List.mem_singleton.2 rfl))
    have hlen := hall.length
    simp only [List.length_append, List.length_replicate, hcl, Array.length_toList] at hlen
    have hmono : n0 * sz ≤ c * sz := Nat.mul_le_mul_right _ hnc
    have getc : ∀ m, HOk m w ([(b, e, cs ++ List.replicate (c * sz - n0 * sz) top)] ++ Rs) → All2 m (cs ++ List.replicate (c * sz - n0 * sz) top) arr.toList := fun m h2 => by
      obtain ⟨_, arr', hb', hall'⟩ := h2.2 _ (List.mem_append_left Rs (List.mem_singleton.2 rfl))
      rw [hb] at hb'
      simp only [Option.some.injEq, Obj.cells.injEq] at hb'
      obtain ⟨rfl, _⟩ := hb'
      exact hall'
    by_cases hroom : n0 + 1 ≤ c
    · have hm1 : (n0 + 1) * sz ≤ c * sz := Nat.mul_le_mul_right _ hroom
      rw [Nat.succ_mul] at hm1
      have hrun := run_append_room (P := P) w T ty e i hS.h hi b n0 c arr hb ⟨b2, off2, none⟩ 1 c2 l2 (by rw [hlen2, hsz, hds, Nat.one_mul]) hys hall2.flat hroom (by rw [hsz, hlen2, hds]; omega)
      rw [e0]
      simp only [Sem.run_bind, hrun, Result.andThen_ok, Sem.run_pure]
      have h := k (lit (.slice (some ⟨b, 0, none⟩) (n0 + 1) c)) [(b, e, (cs ++ ds) ++ List.replicate (c * sz - (n0 + 1) * sz) top)] ⟨by rw [List.length_append, hcl, hds, Nat.succ_mul], .inr ⟨_, _, hroom, hcm, rfl, rfl⟩⟩
      unfold WPL at h
      have hfin : All2 m0 ((cs ++ ds) ++ List.replicate (c * sz - (n0 + 1) * sz) top) (arr.toList.take (n0 * i.size) ++ l2 ++ arr.toList.drop (n0 * i.size + l2.length)).toArray.toList := by
        obtain ⟨q1, q2⟩ := (getc m0 h20).split
        rw [hcl] at q1 q2
        rw [hsz, hlen2, hds, List.toList_toArray]
        refine (q1.append (get2 m0 h10 (hp0 y))).append (All2.topL ?_ fun u hu => ?_)
        · rw [List.length_drop, Array.length_toList, Nat.succ_mul]; omega
        · exact hall.flat u (List.mem_of_mem_drop hu)
      obtain ⟨q1, q2, q3, q4⟩ := write_ok (w' := w.setRow b (arr.toList.take (n0 * i.size) ++ l2 ++ arr.toList.drop (n0 * i.size + l2.length)).toArray) h10 h20 h30 h40 (.here Rs)
        (setRow_heap w b arr _ e _ hb) (fun j hj => setRow_other w b j _ hj) rfl rfl rfl (by simp) hfin
      refine hK' _ _ (h (a.put (some d) (.slice (some ⟨b, 0, none⟩) (n0 + 1) c)) _ ⟨hdef, by simpa [Act.put] using hn, m0, q1, q2, q3, q4, fun t => ?_⟩ Q hq)
      rw [getD_put (Nat.lt_of_lt_of_le (Nat.blt_eq.mp hd) hn)]
      unfold Ab.upd
      by_cases ht : t = d
      · subst ht; rw [if_pos rfl, Nat.beq_refl]; exact lit_p.2 rfl
      · rw [if_neg ht]
        have : Nat.beq t d = false := by
          cases hbb : Nat.beq t d with
          | false => rfl
          | true => exact absurd (Nat.eq_of_beq_eq_true hbb) ht
        rw [this]
        exact h50 t
    · have hxs : ∀ j u, (arr.toList.take (n0 * sz))[j]? = some u → w.cell? ((⟨b, 0, none⟩ : Addr).add j) = some u := fun j u hj => by
        rw [add_none, cell_of w b _ arr _ _ hb]
        rw [List.getElem?_take] at hj
        split at hj
        · simpa using hj
        · cases hj
      have hrun := run_append_grow (P := P) w T ty e i v hS.h hi hz ⟨b, 0, none⟩ n0 c (arr.toList.take (n0 * sz)) (by rw [List.length_take, Array.length_toList, hsz]; omega) hxs
        ⟨b2, off2, none⟩ 1 c2 l2 (by rw [hlen2, hsz, hds, Nat.one_mul]) hys (by omega) (by omega) (growslice_fits (by omega) (by rw [hbyt]; exact hmul _ (by omega)))
      rw [e0]
      simp only [Sem.run_bind, hrun, Result.andThen_ok, Sem.run_pure]
      have hge := grownCap_ge w (n0 + 1) c e
      have hle := grownCap_le_maxLen w (n0 + 1) c e (by simp only [maxLen]; omega)
      have h := k (lit (.slice (some ⟨w.heap.size, 0, none⟩) (n0 + 1) (grownCap w (n0 + 1) c e))) [(w.heap.size, e, (cs ++ ds) ++ List.replicate (grownCap w (n0 + 1) c e * sz - (n0 + 1) * sz) top)]
        ⟨by rw [List.length_append, hcl, hds, Nat.succ_mul], .inr ⟨_, _, hge, hle, rfl, rfl⟩⟩
      unfold WPL at h
      have hst := St.pushD (d := d) (cs := (cs ++ ds) ++ List.replicate (grownCap w (n0 + 1) c e * sz - (n0 + 1) * sz) top) (v := .slice (some ⟨w.heap.size, 0, none⟩) (n0 + 1) (grownCap w (n0 + 1) c e)) (T := e)
        (arr := (arr.toList.take (n0 * sz)).toArray ++ l2.toArray ++ Builtin.zeroCells v.cells (grownCap w (n0 + 1) c e - (n0 + 1))) (Nat.blt_eq.mp hd) hs fun m h1 h2 h3 => ?_
      · refine hK' _ _ (h _ _ ?_ Q hq)
        exact hst.drop (.there _ (.here _))
      · simp only [Array.toList_append, List.toList_toArray]
        obtain ⟨q1, _⟩ := (getc m h2).split
        rw [hcl] at q1
        refine (q1.append (get2 m h1 (h3 y))).append (All2.topL ?_ (zeroCells_one hfl))
        rw [Array.length_toList, size_zeroCells, hvs, Nat.sub_mul]
/-- appending one finished record to a row of one's own -/
theorem WownS {T e : TypeId} {sz by_ : Nat} {z : List SV} {g : Bool} [hS : TSl P T e] [hT : TY P e sz by_ z g] {d : Nat} {x y : Operand} {n0 : Nat} {cs ds : List SV} {s : SV} {Hs Rs : LH}
    (hown : Own e sz n0 cs s Hs) (hsp : Tk H Hs Rs) (hl : n0 ≤ 1000000000) (k : ∀ s' H', Own e sz (n0 + 1) (cs ++ ds) s' H' → WPL P C n ops rest K (upd F d s') (Rs ++ H'))
    (hx : ev F x = s := by exact rfl) (hy : ev F y = sl ds 1 := by exact rfl) (hds : ds.length = sz := by exact rfl) (hpos : 0 < sz := by decide) (hby : by_ ≤ 10000 := by decide)
    (hd : Nat.blt d n = true := by exact rfl) :
    WPL P C n ops (⟨some d, .call ⟨.builtin .append, #[x, y], #[T, T]⟩, ty, pos, aft, none⟩ :: rest) K F H :=
  .perm hsp.perm (.appOwnS hown hx hy (Spl.app _ _) hds hpos hl hby (fun s' H' h => .perm List.perm_append_comm (k s' H' h)) hd)
end
theorem pub_ownL {m : Mem} {arr : Array Value} {b : Nat} {T : TypeId} {cs : List SV} {j n c : Nat} (hm : m b = some (.cells arr T (0, 0))) (ha : All2 m (cs ++ List.replicate j top) arr.toList) (h1 : n ≤ c) (h2 : c ≤ maxLen) : (sl cs n).p m (.slice (some ⟨b, 0, none⟩) n c) := by
  refine sl_mk h1 h2 (.inr ⟨b, 0, rfl, arr, T, (0, 0), hm, ?_⟩)
  rw [List.drop_zero]
  exact ha.split.1
end Go.Ab
/- Rows of one's own: taking from the end; two rows beside each other. -/
namespace Go.Ab
open Go.Proofs
set_option linter.unusedSectionVars false
set_option linter.unusedVariables false
set_option linter.unusedSimpArgs false
variable [Base]
section
variable {P : Program} {C : Ctx} {n : Nat} {F : Fr} {H : LH} {ops : Array Oper} {K : Fr → LH → Prop} {rest : List Oper} {ty : TypeId} {pos : String} {aft : Array Edge}
/-- x[:j] of a slice over a local block -/
theorem ov_slTL {T e : TypeId} {sz by_ : Nat} {z : List SV} {g : Bool} [hS : TSl P T e] [hT : TY P e sz by_ z g] {x y : Operand} {b k c : Nat} {v : Int} (j : Nat) (hx : ev F x = lit (.slice (some ⟨b, 0, none⟩) k c)) (hy : ev F y = lit (.int .i64 v)) (hv : v = (j : Int)) (hj : j ≤ c) :
    OpV P (.slice T x none (some y) none) ty F H (lit (.slice (some ⟨b, 0, none⟩) j c)) :=
  OpV.pure fun m w o a ho _ _ _ h => by
    have e0 := h x (by simp [Op.operands]); rw [hx, lit_p] at e0
    have e1 := h y (by simp [Op.operands]); rw [hy, lit_p] at e1
    subst hv
    have hb : (Instr.sliceBounds true k c none (some (a.eval y)) none).run P w = .ok (0, j, c) w := by
      simp [Instr.sliceBounds, run_bound j c _ e1 hj]
    refine ⟨.slice (some ⟨b, 0, none⟩) j c, ?_, lit_p.2 rfl⟩
    by_cases h0 : c = 0
    · subst h0
      simp [execOp, ho, Instr.sliceAt, Instr.slice, underlying, hS.h, e0, hb, hT.run_size]
    · simp [execOp, ho, Instr.sliceAt, Instr.slice, underlying, hS.h, e0, hb, hT.run_size, add_none, Ne.symm h0]
/-- a row with something in it stands in a block -/
theorem Own.blk {T : TypeId} {sz k : Nat} {cs : List SV} {s : SV} {Hs : LH} (h : Own T sz k cs s Hs) (hk : 0 < k) :
    ∃ b c, k ≤ c ∧ c ≤ maxLen ∧ s = lit (.slice (some ⟨b, 0, none⟩) k c) ∧ Hs = [(b, T, cs ++ List.replicate (c * sz - k * sz) top)] := by
  obtain ⟨_, ⟨h0, _⟩ | h⟩ := h
  · omega
  · exact h
theorem LeL.top : ∀ (l : List SV) (k : Nat), l.length = k → LeL l (List.replicate k top)
  | [], _, h => by subst h; exact trivial
  | s :: l, 0, h => by cases h
  | s :: l, k + 1, h => ⟨fun m v _ => by unfold Ab.top; trivial, LeL.top l k (by simpa using h)⟩
theorem LeL.app : ∀ {a b c d : List SV}, LeL a b → LeL c d → LeL (a ++ c) (b ++ d)
  | [], [], _, _, _, k => k
  | _ :: _, _ :: _, _, _, h, k => ⟨h.1, LeL.app h.2 k⟩
  | [], _ :: _, _, _, h, _ => h.elim
  | _ :: _, [], _, _, h, _ => h.elim
/-- .. what is left when it is cut -/
theorem Own.cut {T : TypeId} {sz k b c j : Nat} {cs : List SV} (hl : cs.length = k * sz) (hkc : k ≤ c) (hc : c ≤ maxLen) (hj : j ≤ k) :
    Own T sz j (cs.take (j * sz)) (lit (.slice (some ⟨b, 0, none⟩) j c)) [(b, T, cs.take (j * sz) ++ List.replicate (c * sz - j * sz) top)] ∧ LeL (cs ++ List.replicate (c * sz - k * sz) top) (cs.take (j * sz) ++ List.replicate (c * sz - j * sz) top) := by
  have h1 : j * sz ≤ k * sz := Nat.mul_le_mul_right _ hj
  have h2 : k * sz ≤ c * sz := Nat.mul_le_mul_right _ hkc
  refine ⟨⟨by rw [List.length_take, hl]; omega, .inr ⟨b, c, by omega, hc, rfl, rfl⟩⟩, ?_⟩
  have e1 : cs ++ List.replicate (c * sz - k * sz) top = cs.take (j * sz) ++ (cs.drop (j * sz) ++ List.replicate (c * sz - k * sz) top) := by
    rw [← List.append_assoc, List.take_append_drop]
  rw [e1]
  refine LeL.app (LeL.refl _) (LeL.top _ _ ?_)
  rw [List.length_append, List.length_drop, List.length_replicate, hl]
  omega
/-- appending one record to a row of one's own, wherever it stands -/
theorem WownP {T e : TypeId} {sz by_ : Nat} {z : List SV} {g : Bool} [hS : TSl P T e] [hT : TY P e sz by_ z g] {d : Nat} {x y : Operand} {n0 b2 c2 : Nat} {T' : TypeId} {cs ds : List SV} {s : SV} {Hs Rs : LH}
    (hown : Own e sz n0 cs s Hs) (hp : H.Perm (Hs ++ Rs)) (hl : n0 ≤ 1000000000) (k : ∀ s' H', Own e sz (n0 + 1) (cs ++ ds) s' H' → WPL P C n ops rest K (upd F d s') (H' ++ Rs)) (hm : (b2, T', ds) ∈ Rs)
    (hx : ev F x = s := by exact rfl) (hy : ev F y = lit (.slice (some ⟨b2, 0, none⟩) 1 c2) := by exact rfl) (hds : ds.length = sz := by exact rfl) (hpos : 0 < sz := by decide) (hby : by_ ≤ 10000 := by decide)
    (hd : Nat.blt d n = true := by exact rfl) :
    WPL P C n ops (⟨some d, .call ⟨.builtin .append, #[x, y], #[T, T]⟩, ty, pos, aft, none⟩ :: rest) K F H :=
  .perm hp (.appOwn hown hx hy (Spl.app _ _) hm hds hpos hl hby k hd)
end
end Go.Ab
/- The first place of a name in a list; the greatest of some ints. -/
namespace Go.Ab
open Go.Proofs
set_option linter.unusedSectionVars false
set_option linter.unusedVariables false
set_option linter.unusedSimpArgs false
variable [Base]
def fpos (l : List (List UInt8)) (s : List UInt8) : Int := match l.findIdx? (fun x => decide (x = s)) with
  | some i => (i : Int)
  | none => -1
theorem fpos_at {l : List (List UInt8)} {s : List UInt8} {k : Nat} (hk : k < l.length) (h : ∀ j, j < k → l[j]? ≠ some s) (he : l[k]? = some s) : fpos l s = k := by
  have : l.findIdx? (fun x => decide (x = s)) = some k := by
    rw [List.findIdx?_eq_some_iff_getElem]
    refine ⟨hk, ?_, fun j hj => ?_⟩
    · rw [List.getElem?_eq_getElem hk] at he
      simpa using he
    · have := h j hj
      rw [List.getElem?_eq_getElem (by omega)] at this
      simpa using this
  unfold fpos; rw [this]
theorem fpos_none {l : List (List UInt8)} {s : List UInt8} (h : ∀ j, j < l.length → l[j]? ≠ some s) : fpos l s = -1 := by
  have : l.findIdx? (fun x => decide (x = s)) = none := by
    rw [List.findIdx?_eq_none_iff]
    intro x hx
    obtain ⟨j, hj⟩ := List.mem_iff_getElem?.1 hx
    have := h j (List.getElem?_eq_some_iff.1 hj).1
    rw [hj] at this
    simpa using this
  unfold fpos; rw [this]
theorem fpos_lt (l : List (List UInt8)) (s : List UInt8) : fpos l s < 0 ∧ fpos l s = -1 ∨ ∃ i : Nat, fpos l s = i ∧ i < l.length := by
  unfold fpos
  cases h : l.findIdx? (fun x => decide (x = s)) with
  | none => exact .inl ⟨by decide, rfl⟩
  | some i =>
    rw [List.findIdx?_eq_some_iff_getElem] at h
    exact .inr ⟨i, rfl, h.1⟩
theorem strs_at {l : List (List UInt8)} {k : Nat} {s : List UInt8} (h : l[k]? = some s) : ((l.map str).drop (((k : Nat) : Int).toNat * 1)).take 1 = [str s] := by
  obtain ⟨hk, rfl⟩ := List.getElem?_eq_some_iff.1 h
  rw [Int.toNat_natCast, Nat.mul_one, List.drop_eq_getElem_cons (by simpa using hk)]
  simp
theorem index_pu (l : List (List UInt8)) (s : List UInt8) (hl : l.length ≤ 1000000000) : Pu Tryz.prog 62 [sl (l.map str) l.length, str s] (lit (.int .i64 (fpos l s))) := by
  refine Pu.intro Tryz.func62 rfl (by kernel_rfl) fun C => ?_
  repeat (refine A1 ⟨?_⟩; intros)
  refine WP.loop (ι := Nat) (fun k => k ≤ l.length ∧ ∀ j, j < k → l[j]? ≠ some s) (fun k => l.length - k)
    (fun k => fm [(0, sl (l.map str) l.length), (1, str s), (7, lit (.int .i64 l.length)), (8, lit (.int .i64 k))]) (fun _ => []) 0 ⟨Nat.zero_le _, fun j hj => by omega⟩ (by (repeat (first | exact LeF.nil _ | refine LeF.cons (Le.refl _) ?_ | refine LeF.cons (Le.int (by omega)) ?_))) rfl ?_
  rintro k ⟨hk, hall⟩ K hK
  by_cases hkl : k < l.length
  · have hget := List.getElem?_eq_getElem hkl
    have hat := strs_at hget
    have hne : l.map str ≠ [] := fun e => by rw [List.map_eq_nil_iff] at e; rw [e] at hkl; simp at hkl
    by_cases he : l[k] = s
    · have hf := fpos_at hkl hall (by rw [hget, he])
      rw [hf]
      rw [he] at hat
      clear hK hall
      repeat (refine A1 ⟨?_⟩; intros)
      refine Wo (ov_idxS rfl rfl (by omega) (by omega) hat hne) ?_
      repeat (refine A1 ⟨?_⟩; intros)
      refine Wo (ov_seql (r := true) rfl rfl (decide_eq_true rfl)) ?_
      repeat (refine A1 ⟨?_⟩; intros)
      ((first | refine endR ?_ | refine endN ?_); exact end1 (RV.tmp rfl) (Le.refl _))
    · have hgo := fun F' H' (h : LeF F' (fm [(0, sl (l.map str) l.length), (1, str s), (7, lit (.int .i64 l.length)), (8, lit (.int .i64 (k + 1 : Nat)))])) (h2 : H' = []) => hK F' H' (k + 1) ⟨by omega, fun j hj => by
        rcases Nat.lt_succ_iff_lt_or_eq.1 hj with h | rfl
        · exact hall j h
        · rw [hget]; simpa using he⟩ (by omega) h h2
      generalize l[k] = x at *
      clear hK hall
      repeat (refine A1 ⟨?_⟩; intros)
      refine Wo (ov_idxS rfl rfl (by omega) (by omega) hat hne) ?_
      repeat (refine A1 ⟨?_⟩; intros)
      refine Wo (ov_seql (r := false) rfl rfl (decide_eq_false (fun e => he e.symm))) ?_
      repeat (refine A1 ⟨?_⟩; intros)
      exact hgo _ _ (by (repeat (first | exact LeF.nil _ | refine LeF.cons (Le.refl _) ?_ | refine LeF.cons (Le.int (by omega)) ?_))) rfl
  · obtain rfl : k = l.length := by omega
    rw [fpos_none hall]
    clear hK hall
    repeat (refine A1 ⟨?_⟩; intros)
    ((first | refine endR ?_ | refine endN ?_); exact end1 (RV.tmp rfl) (Le.refl _))
theorem rfind_pu (l : List (List UInt8)) (s : List UInt8) (hl : l.length ≤ 1000000000) : Pu Tryz.prog 46 [sl (l.map str) l.length, str s] (lit (.int .i64 (fpos l s))) := by
  refine Pu.intro Tryz.func46 rfl (by kernel_rfl) fun C => ?_
  repeat (refine A1 ⟨?_⟩; intros)
  refine WP.loop (ι := Nat) (fun k => k ≤ l.length ∧ ∀ j, j < k → l[j]? ≠ some s) (fun k => l.length - k)
    (fun k => fm [(1, str s), (7, sl (l.map str) l.length), (8, lit (.int .i64 l.length)), (9, lit (.int .i64 k))]) (fun _ => []) 0 ⟨Nat.zero_le _, fun j hj => by omega⟩ (by (repeat (first | exact LeF.nil _ | refine LeF.cons (Le.refl _) ?_ | refine LeF.cons (Le.int (by omega)) ?_))) rfl ?_
  rintro k ⟨hk, hall⟩ K hK
  by_cases hkl : k < l.length
  · have hget := List.getElem?_eq_getElem hkl
    have hat := strs_at hget
    have hne : l.map str ≠ [] := fun e => by rw [List.map_eq_nil_iff] at e; rw [e] at hkl; simp at hkl
    by_cases he : l[k] = s
    · have hf := fpos_at hkl hall (by rw [hget, he])
      rw [hf]
      rw [he] at hat
      clear hK hall
      repeat (refine A1 ⟨?_⟩; intros)
      refine Wo (ov_idxS rfl rfl (by omega) (by omega) hat hne) ?_
      repeat (refine A1 ⟨?_⟩; intros)
      refine Wo (ov_seql (r := true) rfl rfl (decide_eq_true rfl)) ?_
      repeat (refine A1 ⟨?_⟩; intros)
      ((first | refine endR ?_ | refine endN ?_); exact end1 (RV.tmp rfl) (Le.refl _))
    · have hgo := fun F' H' (h : LeF F' (fm [(1, str s), (7, sl (l.map str) l.length), (8, lit (.int .i64 l.length)), (9, lit (.int .i64 (k + 1 : Nat)))])) (h2 : H' = []) => hK F' H' (k + 1) ⟨by omega, fun j hj => by
        rcases Nat.lt_succ_iff_lt_or_eq.1 hj with h | rfl
        · exact hall j h
        · rw [hget]; simpa using he⟩ (by omega) h h2
      generalize l[k] = x at *
      clear hK hall
      repeat (refine A1 ⟨?_⟩; intros)
      refine Wo (ov_idxS rfl rfl (by omega) (by omega) hat hne) ?_
      repeat (refine A1 ⟨?_⟩; intros)
      exact hgo _ _ (by (repeat (first | exact LeF.nil _ | refine LeF.cons (Le.refl _) ?_ | refine LeF.cons (Le.int (by omega)) ?_))) rfl
  · obtain rfl : k = l.length := by omega
    rw [fpos_none hall]
    clear hK hall
    repeat (refine A1 ⟨?_⟩; intros)
    ((first | refine endR ?_ | refine endN ?_); exact end1 (RV.tmp rfl) (Le.refl _))
theorem max_pu (l : List Nat) (h0 : l ≠ []) (hl : l.length ≤ 1000000000) (hm : ∀ x ∈ l, x ≤ 9223372036854775807) : Pu Tryz.prog 41 [nsl .i64 (l.map Int.ofNat)] (lit (.int .i64 (lmax l : Nat))) := by
  have hlen : (l.map Int.ofNat).length = l.length := List.length_map ..
  have hpos : 0 < l.length := List.length_pos_iff.2 h0
  have hgd : ∀ k, (l.map Int.ofNat).getD k 0 = ((l.getD k 0 : Nat) : Int) := fun k => by simp [List.getD, List.getElem?_map]; cases l[k]? <;> rfl
  have hgm : ∀ k, l.getD k 0 ≤ 9223372036854775807 := fun k => by
    by_cases hk : k < l.length
    · rw [List.getD, List.getElem?_eq_getElem hk]; exact hm _ (List.getElem_mem hk)
    · rw [List.getD, List.getElem?_eq_none (by omega)]; decide
  have hlm : ∀ k, lmax (l.take k) ≤ 9223372036854775807 := fun k => lmax_le fun x hx => hm x (List.mem_of_mem_take hx)
  have hstep : ∀ k, k < l.length → lmax (l.take (k + 1)) = max (lmax (l.take k)) (l.getD k 0) := fun k hk => by
    rw [List.take_add_one, List.getD, List.getElem?_eq_getElem hk]; exact lmax_snoc _ _
  have hfirst : lmax (l.take 1) = l.getD 0 0 := by rw [hstep 0 hpos]; simp [lmax]
  refine Pu.intro Tryz.func41 rfl (by kernel_rfl) fun C => ?_
  repeat (refine A1 ⟨?_⟩; intros)
  refine Wo (ov_idxN (i := 0) rfl rfl (by omega)) ?_
  rw [hgd 0]
  repeat (refine A1 ⟨?_⟩; intros)
  refine WP.loop (ι := Nat) (fun k => 1 ≤ k ∧ k ≤ l.length) (fun k => l.length - k)
    (fun k => fm [(0, nsl .i64 (l.map Int.ofNat)), (3, lit (.int .i64 (lmax (l.take k) : Nat))), (4, lit (.int .i64 k))]) (fun _ => []) 1 ⟨Nat.le_refl _, hpos⟩ (by rw [hfirst]; (repeat (first | exact LeF.nil _ | refine LeF.cons (Le.refl _) ?_ | refine LeF.cons (Le.int (by omega)) ?_))) rfl ?_
  rintro k ⟨hk1, hk⟩ K hK
  by_cases hkl : k < l.length
  · have hs := hstep k hkl
    have hgo := fun F' H' (h : LeF F' (fm [(0, nsl .i64 (l.map Int.ofNat)), (3, lit (.int .i64 (lmax (l.take (k + 1)) : Nat))), (4, lit (.int .i64 (k + 1 : Nat)))])) (h2 : H' = []) => hK F' H' (k + 1) ⟨by omega, by omega⟩ (by omega) h h2
    rw [hs] at hgo
    have hg := hgd k
    have m1 := hgm k
    have m2 := hlm k
    clear hK hgd hgm hlm hstep hs hfirst
    generalize l.getD k 0 = x at *
    generalize lmax (l.take k) = y at *
    repeat (refine A1 ⟨?_⟩; intros)
    rw [hg]
    refine Wo (ov_max rfl rfl (r := ((max y x : Nat) : Int)) (by split <;> omega)) ?_
    repeat (refine A1 ⟨?_⟩; intros)
    exact hgo _ _ (by (repeat (first | exact LeF.nil _ | refine LeF.cons (Le.refl _) ?_ | refine LeF.cons (Le.int (by omega)) ?_))) rfl
  · obtain rfl : k = l.length := by omega
    rw [List.take_length]
    clear hK hgd hgm hlm hstep hfirst
    repeat (refine A1 ⟨?_⟩; intros)
    ((first | refine endR ?_ | refine endN ?_); exact end1 (RV.tmp rfl) (Le.refl _))
end Go.Ab
/- The grammar of expressions without numbers, as a plain function on tokens; how many brackets a text needs at least. -/
namespace Go.Ab
open Go.Proofs
set_option linter.unusedSectionVars false
set_option linter.unusedVariables false
set_option linter.unusedSimpArgs false
variable [Base]
/-- a token: its kind (0 the end, 1 a name, 3 a sign), its text, its line and column -/
structure Tok where
  k : Nat
  t : List UInt8
  l : Nat
  c : Nat
/-- tokens end with the end, and only there -/
def TOk : List Tok → Prop
  | [] => False
  | [e] => e.k = 0 ∧ e.t = []
  | a :: r => (a.k = 1 ∨ a.k = 3) ∧ TOk r
theorem TOk.tail {a : Tok} {r : List Tok} (h : TOk (a :: r)) (h0 : a.k ≠ 0) : TOk r ∧ (a.k = 1 ∨ a.k = 3) := by
  cases r with
  | nil => exact absurd h.1 h0
  | cons b r => exact ⟨h.2, h.1⟩
theorem TOk.ne {ts : List Tok} (h : TOk ts) : ts ≠ [] := fun e => by rw [e] at h; exact h
theorem TOk.pos {ts : List Tok} (h : TOk ts) : 0 < ts.length := List.length_pos_iff.2 h.ne
theorem TOk.end {a : Tok} {r : List Tok} (h : TOk (a :: r)) (h0 : a.k = 0) : r = [] ∧ a.t = [] := by
  cases r with
  | nil => exact ⟨rfl, h.2⟩
  | cons b r => rcases h.1 with h | h <;> omega
def hd (ts : List Tok) : Tok := ts.headD ⟨0, [], 0, 0⟩
/-- the next token is a word or a sign with this text -/
def tis (ts : List Tok) (s : List UInt8) : Bool := decide ((hd ts).k ≠ 0) && decide ((hd ts).t = s)
/-- the operator that stands next: of sums (level 1), of products (level 2) -/
def opAt (lv : Nat) (ts : List Tok) : Int :=
  if lv = 1 then (if tis ts [43] = true then 1 else if tis ts [45] = true then 3 else if tis ts [94] = true then 4 else 0) else (if tis ts [42] = true then 2 else 0)
abbrev zz : RQ := ⟨false, [], []⟩
def ndB (op x y : Int) (a : Tok) : Nd := ⟨6, [], zz, zz, zz, zz, op, x, y, a.l, a.c⟩
def ndU (x : Int) (a : Tok) : Nd := ⟨5, [], zz, zz, zz, zz, 0, x, 0, a.l, a.c⟩
def ndA (k : Int) (a : Tok) : Nd := ⟨k, [], zz, zz, zz, zz, 0, 0, 0, a.l, a.c⟩
def ndN (a : Tok) : Nd := ⟨1, a.t, zz, zz, zz, zz, 0, 0, 0, a.l, a.c⟩
abbrev wAll : List UInt8 := [97, 108, 108]
abbrev wNone : List UInt8 := [110, 111, 110, 101]
abbrev wHalf : List UInt8 := [104, 97, 108, 102]
/-- level 1: sums, 2: products, 3: all others; d: brackets and ~ around; i: the number of the next part; acc: what stands on the left already -/
def prs : Nat → Nat → Nat → Nat → List Tok → Option (List Nd × Ex) → Option (List Nd × Ex × List Tok)
  | 0, _, _, _, _, _ => none
  | f + 1, lv, d, i, ts, none =>
    if lv = 3 then
      if tis ts [126] = true then
        (if 200 ≤ d then none else match prs f 3 (d + 1) i ts.tail none with
          | some (A, x, ts') => some (A ++ [ndU ((i + A.length : Nat) - 1) (hd ts)], .un (ndU ((i + A.length : Nat) - 1) (hd ts)) x, ts')
          | none => none)
      else if tis ts [40] = true then
        (if 200 ≤ d then none else match prs f 1 (d + 1) i ts.tail none with
          | some (A, x, ts') => if tis ts' [41] = true then some (A, x, ts'.tail) else none
          | none => none)
      else if tis ts wAll = true then some ([ndA 2 (hd ts)], .leaf (ndA 2 (hd ts)), ts.tail)
      else if tis ts wNone = true then some ([ndA 3 (hd ts)], .leaf (ndA 3 (hd ts)), ts.tail)
      else if tis ts wHalf = true then none
      else if (hd ts).k = 1 ∧ resv (hd ts).t = false then some ([ndN (hd ts)], .leaf (ndN (hd ts)), ts.tail)
      else none
    else match prs f (lv + 1) d i ts none with
      | some (A, x, ts') => prs f lv d i ts' (some (A, x))
      | none => none
  | f + 1, lv, d, i, ts, some (A, x) =>
    if opAt lv ts = 0 then some (A, x, ts)
    else match prs f (lv + 1) d (i + A.length) ts.tail none with
      | some (B, y, ts') => prs f lv d i ts' (some (A ++ B ++ [ndB (opAt lv ts) ((i + A.length : Nat) - 1) ((i + A.length + B.length : Nat) - 1) (hd ts)], .bi (ndB (opAt lv ts) ((i + A.length : Nat) - 1) ((i + A.length + B.length : Nat) - 1) (hd ts)) x y))
      | none => none
/-- a whole expression -/
def prsAll (ts : List Tok) : Option (List Nd × Ex) := match prs (8 * ts.length + 8) 1 0 0 ts none with
  | some (A, x, ts') => if (hd ts').k = 0 then some (A, x) else none
  | none => none
/-- opening brackets among tokens -/
def cntO (ts : List Tok) : Nat := (ts.filter fun a => decide (a.t = [40])).length
theorem tis_ne {ts : List Tok} {s : List UInt8} (h : tis ts s = true) : ∃ a r, ts = a :: r ∧ a.k ≠ 0 ∧ a.t = s := by
  unfold tis hd at h
  cases ts with
  | nil => simp at h
  | cons a r => simp at h; exact ⟨a, r, rfl, h.1, h.2⟩
theorem cntO_cons (a : Tok) (r : List Tok) : cntO (a :: r) = cntO r + (if a.t = [40] then 1 else 0) := by
  unfold cntO
  rw [List.filter_cons]
  by_cases h : a.t = [40]
  · rw [if_pos h, if_pos (by simpa using h)]; rfl
  · rw [if_neg h, if_neg (by simpa using h)]; rfl
theorem opAt_ne {lv : Nat} {ts : List Tok} (h : opAt lv ts ≠ 0) : (∃ a r, ts = a :: r ∧ a.k ≠ 0) ∧ (lv = 1 → opAt lv ts = 1 ∨ opAt lv ts = 3 ∨ opAt lv ts = 4) ∧ (lv ≠ 1 → opAt lv ts = 2) := by
  unfold opAt at *
  by_cases h1 : lv = 1
  · simp only [if_pos h1] at h ⊢
    by_cases c1 : tis ts [43] = true
    · obtain ⟨a, r, e, k, _⟩ := tis_ne c1
      rw [if_pos c1]; exact ⟨⟨a, r, e, k⟩, fun _ => .inl rfl, fun h => absurd h1 h⟩
    · rw [if_neg c1] at h ⊢
      by_cases c2 : tis ts [45] = true
      · obtain ⟨a, r, e, k, _⟩ := tis_ne c2
        rw [if_pos c2]; exact ⟨⟨a, r, e, k⟩, fun _ => .inr (.inl rfl), fun h => absurd h1 h⟩
      · rw [if_neg c2] at h ⊢
        by_cases c3 : tis ts [94] = true
        · obtain ⟨a, r, e, k, _⟩ := tis_ne c3
          rw [if_pos c3]; exact ⟨⟨a, r, e, k⟩, fun _ => .inr (.inr rfl), fun h => absurd h1 h⟩
        · rw [if_neg c3] at h; exact absurd rfl h
  · simp only [if_neg h1] at h ⊢
    by_cases c1 : tis ts [42] = true
    · obtain ⟨a, r, e, k, _⟩ := tis_ne c1
      rw [if_pos c1]; exact ⟨⟨a, r, e, k⟩, fun h => absurd h h1, fun _ => rfl⟩
    · rw [if_neg c1] at h; exact absurd rfl h
end Go.Ab
/- Tokens of texts of letters, blanks and signs, as a plain function. -/
namespace Go.Ab
open Go.Proofs
set_option linter.unusedSectionVars false
set_option linter.unusedVariables false
set_option linter.unusedSimpArgs false
variable [Base]
/-- a letter, a blank or a sign -/
def okC (b : UInt8) : Bool := decide (b.toNat = 32) || decide (clsN b.toNat = 3) || decide (clsN b.toNat = 5)
def skipN (l : List UInt8) : Nat := (l.takeWhile fun b => decide (b.toNat = 32)).length
def runN (l : List UInt8) : Nat := (l.takeWhile fun b => decide (clsN b.toNat = 3)).length
theorem takeWhile_le {α : Type} (p : α → Bool) : ∀ l : List α, (l.takeWhile p).length ≤ l.length
  | [] => Nat.le_refl _
  | a :: l => by
    rw [List.takeWhile_cons]
    split
    · simp only [List.length_cons]; have := takeWhile_le p l; omega
    · simp
theorem skipN_le (l : List UInt8) : skipN l ≤ l.length := takeWhile_le _ l
theorem runN_le (l : List UInt8) : runN l ≤ l.length := takeWhile_le _ l
def lexF : Nat → List UInt8 → Nat → Option (List Tok)
  | 0, _, _ => none
  | f + 1, l, c => match l.drop (skipN l) with
    | [] => some [⟨0, [], 1, c + skipN l⟩]
    | b :: r => if clsN b.toNat = 3 then
        (if 24 < runN (b :: r) then none else match lexF f ((b :: r).drop (runN (b :: r))) (c + skipN l + runN (b :: r)) with
          | some ts => some (⟨1, (b :: r).take (runN (b :: r)), 1, c + skipN l⟩ :: ts)
          | none => none)
      else match lexF f r (c + skipN l + 1) with
        | some ts => some (⟨3, [b], 1, c + skipN l⟩ :: ts)
        | none => none
/-- the tokens of a text -/
def lexT (l : List UInt8) : Option (List Tok) := lexF (l.length + 1) l 1
theorem runN_pos {b : UInt8} {r : List UInt8} (h : clsN b.toNat = 3) : 1 ≤ runN (b :: r) := by
  unfold runN
  rw [List.takeWhile_cons, if_pos (by simpa using h)]
  simp
theorem lexF_ok : ∀ (f : Nat) (l : List UInt8) (c : Nat) (ts : List Tok), lexF f l c = some ts → TOk ts ∧ cntO ts ≤ (l.filter fun b => decide (b = 40)).length ∧ ∀ a ∈ ts, a.l = 1 ∧ 1 ≤ c → 1 ≤ a.c := by
  intro f
  induction f with
  | zero => intro l c ts h; unfold lexF at h; cases h
  | succ f ih =>
    intro l c ts h
    unfold lexF at h
    have hf : ∀ k, ((l.drop k).filter fun b => decide (b = (40 : UInt8))).length ≤ (l.filter fun b => decide (b = (40 : UInt8))).length := fun k => ((List.drop_sublist k l).filter _).length_le
    have h0 := hf (skipN l)
    cases hl : l.drop (skipN l) with
    | nil =>
      rw [hl] at h
      simp only [Option.some.injEq] at h
      subst h
      refine ⟨⟨rfl, rfl⟩, by unfold cntO; simp, fun a ha h => ?_⟩
      rw [List.mem_singleton.1 ha]
      simp only; omega
    | cons b r =>
      rw [hl] at h h0
      simp only at h
      by_cases h3 : clsN b.toNat = 3
      · rw [if_pos h3] at h
        have hp := runN_pos (r := r) h3
        by_cases h24 : 24 < runN (b :: r)
        · rw [if_pos h24] at h; cases h
        · rw [if_neg h24] at h
          cases hr : lexF f ((b :: r).drop (runN (b :: r))) (c + skipN l + runN (b :: r)) with
          | none => rw [hr] at h; cases h
          | some ts1 =>
            rw [hr] at h
            simp only [Option.some.injEq] at h
            subst h
            obtain ⟨g1, g2, g3⟩ := ih _ _ _ hr
            have hs := (((List.drop_sublist (runN (b :: r)) (b :: r)).filter fun b => decide (b = (40 : UInt8))).length_le)
            refine ⟨?_, ?_, fun a ha h => ?_⟩
            · cases ts1 with
              | nil => exact g1.elim
              | cons a1 r1 => exact ⟨.inl rfl, g1⟩
            · rw [cntO_cons, if_neg]
              · omega
              · intro e
                simp only at e
                have hb : b = 40 := by
                  have h4 : (b :: r).take (runN (b :: r)) = b :: r.take (runN (b :: r) - 1) := by
                    obtain ⟨m, hm⟩ : ∃ m, runN (b :: r) = m + 1 := ⟨runN (b :: r) - 1, by omega⟩
                    rw [hm]; rfl
                  rw [h4] at e
                  exact (List.cons.inj e).1
                rw [hb] at h3
                revert h3; decide +kernel
            · rcases List.mem_cons.1 ha with rfl | ha
              · simp only; omega
              · exact g3 a ha ⟨h.1, by omega⟩
      · rw [if_neg h3] at h
        cases hr : lexF f r (c + skipN l + 1) with
        | none => rw [hr] at h; cases h
        | some ts1 =>
          rw [hr] at h
          simp only [Option.some.injEq] at h
          subst h
          obtain ⟨g1, g2, g3⟩ := ih _ _ _ hr
          refine ⟨?_, ?_, fun a ha h => ?_⟩
          · cases ts1 with
            | nil => exact g1.elim
            | cons a1 r1 => exact ⟨.inr rfl, g1⟩
          · rw [cntO_cons]
            rw [List.filter_cons] at h0
            by_cases hb : b = 40
            · subst hb
              rw [if_pos rfl]
              simp at h0
              omega
            · rw [if_neg (fun e => hb (List.cons.inj e).1)]
              rw [if_neg (by simpa using hb)] at h0
              omega
          · rcases List.mem_cons.1 ha with rfl | ha
            · simp only; omega
            · exact g3 a ha ⟨h.1, by omega⟩
end Go.Ab
/- The lexer, walked over texts of letters, blanks and signs. -/
namespace Go.Ab
open Go.Proofs
set_option linter.unusedSectionVars false
set_option linter.unusedVariables false
set_option linter.unusedSimpArgs false
variable [Base]
abbrev rdT : TypeId := 235
abbrev tkT : TypeId := 157
abbrev rdC (l : List UInt8) (k : Nat) : List SV := [str l, lit (.int .i64 k), lit (.int .i64 1), lit (.int .i64 (k + 1 : Nat))]
abbrev tkx (a : Tok) : List SV := [lit (.int .i64 a.k), str a.t, lit (.int .i64 a.l), lit (.int .i64 a.c)]
/-- some error of the package -/
abbrev errE : SV := ifc 70 Ab.top
theorem Le.ifcT {t : TypeId} {s : SV} : Le (ifc t s) (ifc t Ab.top) := fun m v h => by
  unfold ifc at *
  obtain ⟨u, rfl, _⟩ := h
  exact ⟨u, rfl, by unfold Ab.top; trivial⟩
theorem Le.ifcL {t : TypeId} {u : Value} : Le (lit (.iface t u)) (ifc t Ab.top) := fun m v h => by
  rw [lit_p] at h
  unfold ifc
  exact ⟨u, h, by unfold Ab.top; trivial⟩
section
variable {P : Program} {F : Fr} {H : LH} {ty : TypeId}
theorem ov_ineF {T T' u : TypeId} {s : SV} {x : Operand} (hT : P.isIface T = true) (hx : ev F x = ifc u s) : OpV P (.binOp .neq T x (.const .nilIface) T') ty F H (lit (.bool true)) :=
  OpV.pure fun m w o a ho _ _ _ h => by
    have h0 := h x (by simp [Op.operands]); rw [hx] at h0
    unfold ifc at h0
    obtain ⟨v, h0, _⟩ := h0
    have e1 : a.eval (.const .nilIface) = .nilIface := rfl
    exact ⟨.bool true, by simp [execOp, ho, h0, e1, run_neq_iface_nil w T hT u v, Go.eqGuard], lit_p.2 rfl⟩
end
theorem take_drop_eq (l : List UInt8) (k n : Nat) : (l.take (k + n)).drop k = (l.drop k).take n := by
  rw [List.drop_take, Nat.add_sub_cancel_left]
theorem rdC_add (l : List UInt8) (k n : Nat) : rdC l (k + n) = [str l, lit (.int .i64 ((k : Int) + n)), lit (.int .i64 1), lit (.int .i64 (((k + 1 : Nat) : Int) + n))] := by
  show [str l, lit (.int .i64 ((k + n : Nat) : Int)), lit (.int .i64 1), lit (.int .i64 ((k + n + 1 : Nat) : Int))] = _
  rw [show ((k + n : Nat) : Int) = (k : Int) + n by omega, show ((k + n + 1 : Nat) : Int) = ((k + 1 : Nat) : Int) + n by omega]
theorem rtake_pu (r : Nat) (l : List UInt8) (k n : Nat) (h : k + n ≤ l.length) (hl : l.length ≤ 100000) :
    PuH Tryz.prog 188 [lit (.pointer (some ⟨r, 0, none⟩)), lit (.int .i64 n)] [(r, rdT, rdC l k)] (fun v H => v = str ((l.drop k).take n) ∧ H = [(r, rdT, rdC l (k + n))]) noX := by
  rw [← take_drop_eq]
  refine PuH.intro Tryz.func188 rfl (by kernel_rfl) fun C hC => ?_
  repeat (refine A1 ⟨?_⟩; intros)
  refine Wdo (ov_ssl (i := k) (j := k + n) rfl (fun y hy => by cases hy; exact ⟨_, _, rfl, rfl⟩) (fun h => by cases h) (fun y hy => by cases hy; exact ⟨_, _, rfl, by omega⟩) (fun h => by cases h) (by omega) h) ?_
  repeat (refine A1 ⟨?_⟩; intros)
  exact endHR _ _ (end1 (RV.tmp rfl) (Le.refl _)) (List.Sublist.refl _) ⟨rfl, by rw [rdC_add]⟩
theorem skipN_32 {b : UInt8} (h : b.toNat = 32) (r : List UInt8) : skipN (b :: r) = skipN r + 1 := by
  unfold skipN; rw [List.takeWhile_cons, if_pos (by simpa using h)]; rfl
theorem skipN_ne {b : UInt8} (h : b.toNat ≠ 32) (r : List UInt8) : skipN (b :: r) = 0 := by
  unfold skipN; rw [List.takeWhile_cons, if_neg (by simpa using h)]; rfl
theorem runN_3 {b : UInt8} (h : clsN b.toNat = 3) (r : List UInt8) : runN (b :: r) = runN r + 1 := by
  unfold runN; rw [List.takeWhile_cons, if_pos (by simpa using h)]; rfl
theorem runN_ne {b : UInt8} (h : clsN b.toNat ≠ 3) (r : List UInt8) : runN (b :: r) = 0 := by
  unfold runN; rw [List.takeWhile_cons, if_neg (by simpa using h)]; rfl
theorem cls_ok {b : UInt8} (h : okC b = true) : (b.toNat = 32 ∧ clsN b.toNat = 1) ∨ (b.toNat ≠ 32 ∧ clsN b.toNat = 3) ∨ (b.toNat ≠ 32 ∧ clsN b.toNat = 5) := by
  have h32 : clsN 32 = 1 := by decide +kernel
  by_cases e : b.toNat = 32
  · exact .inl ⟨e, by rw [e]; exact h32⟩
  · unfold okC at h
    rw [decide_eq_false e, Bool.false_or, Bool.or_eq_true] at h
    rcases h with h | h
    · exact .inr (.inl ⟨e, of_decide_eq_true h⟩)
    · exact .inr (.inr ⟨e, of_decide_eq_true h⟩)
theorem at_byte {l : List UInt8} {j : Nat} (h : j < l.length) : ∃ b, l.drop j = b :: l.drop (j + 1) ∧ b ∈ l ∧ l.getD j 0 = b :=
  ⟨l[j], List.drop_eq_getElem_cons h, List.getElem_mem h, by simp [List.getD, h]⟩
theorem skip_pu (r : Nat) (l : List UInt8) (k : Nat) (hok : ∀ b ∈ l, okC b = true) (hk : k ≤ l.length) (hl : l.length ≤ 100000) :
    PuH Tryz.prog 186 [lit (.pointer (some ⟨r, 0, none⟩))] [(r, rdT, rdC l k)] (fun v H => v = Ab.tup [] ∧ H = [(r, rdT, rdC l (k + skipN (l.drop k)))]) noX := by
  refine PuH.intro Tryz.func186 rfl (by kernel_rfl) fun C hC => ?_
  refine WP.block ?_
  refine WP.loopS (ι := Nat) (fun j => j ≤ l.length ∧ j + skipN (l.drop j) = k + skipN (l.drop k)) (fun j => l.length - j) (fun j => fm [(0, lit (.pointer (some ⟨r, 0, none⟩)))]) (fun j => [(r, rdT, rdC l j)]) k ⟨hk, rfl⟩ (by (repeat (first | exact LeF.nil _ | refine LeF.cons (Le.refl _) ?_ | refine LeF.cons (Le.int (by omega)) ?_))) (List.Sublist.refl _) ?_
  rintro j ⟨hj, hs⟩ K hK
  by_cases hjl : j < l.length
  · obtain ⟨b, hd, hm, hg⟩ := at_byte hjl
    have hb := b.toNat_lt
    have c1 := classOf_pu (b := b.toNat) (by omega)
    rcases cls_ok (hok b hm) with ⟨h32, hc⟩ | ⟨h32, hc⟩ | ⟨h32, hc⟩
    · rw [hc, ← hg] at c1
      have c2 := rtake_pu r l j 1 (by omega) hl
      rw [show ((1 : Nat) : Int) = 1 from rfl] at c2
      rw [hd, List.take_succ_cons, List.take_zero, show b = 32 from UInt8.toNat_inj.1 h32] at c2
      rw [hd, skipN_32 h32] at hs
      have hgo := fun F' H' => hK F' H' (j + 1) ⟨by omega, by omega⟩ (by omega)
      clear hK hs
      repeat (first | (refine A1 ⟨?_⟩; intros) | (refine Wcx (c1) ?_) | (refine Wdcx (c1) ?_) | (refine Wcgx (c1) ?_) | (refine Wdcgx (c1) ?_))
      refine WfT c2 ?_
      rintro _ _ ⟨rfl, rfl⟩
      simp only [List.cons_append, List.nil_append]
      repeat (refine A1 ⟨?_⟩; intros)
      exact hgo _ _ (by (repeat (first | exact LeF.nil _ | refine LeF.cons (Le.refl _) ?_ | refine LeF.cons (Le.int (by omega)) ?_))) (List.Sublist.refl _)
    · rw [hc, ← hg] at c1
      rw [hd, skipN_ne h32] at hs
      clear hK
      have hj' : j = k + skipN (l.drop k) := by omega
      subst hj'
      repeat (first | (refine A1 ⟨?_⟩; intros) | (refine Wcx (c1) ?_) | (refine Wdcx (c1) ?_) | (refine Wcgx (c1) ?_) | (refine Wdcgx (c1) ?_))
      exact endHR _ _ end0 (List.Sublist.refl _) ⟨rfl, rfl⟩
    · rw [hc, ← hg] at c1
      rw [hd, skipN_ne h32] at hs
      clear hK
      have hj' : j = k + skipN (l.drop k) := by omega
      subst hj'
      repeat (first | (refine A1 ⟨?_⟩; intros) | (refine Wcx (c1) ?_) | (refine Wdcx (c1) ?_) | (refine Wcgx (c1) ?_) | (refine Wdcgx (c1) ?_))
      exact endHR _ _ end0 (List.Sublist.refl _) ⟨rfl, rfl⟩
  · rw [List.drop_eq_nil_of_le (by omega)] at hs
    have hj' : j = k + skipN (l.drop k) := by unfold skipN at hs ⊢; simpa using hs
    subst hj'
    clear hK
    repeat (refine A1 ⟨?_⟩; intros)
    exact endHN _ _ end0 (List.Sublist.refl _) ⟨rfl, rfl⟩
theorem rrun_pu (r : Nat) (l : List UInt8) (k : Nat) (hok : ∀ b ∈ l, okC b = true) (hk : k ≤ l.length) (hl : l.length ≤ 100000) :
    PuH Tryz.prog 189 [lit (.pointer (some ⟨r, 0, none⟩)), sl [lit (.int .i64 3), lit (.int .i64 4)] 2] [(r, rdT, rdC l k)] (fun v H => v = lit (.int .i64 (runN (l.drop k) : Nat)) ∧ H = [(r, rdT, rdC l k)]) noX := by
  refine PuH.intro Tryz.func189 rfl (by kernel_rfl) fun C hC => ?_
  repeat (refine A1 ⟨?_⟩; intros)
  refine WP.loopS (ι := Nat) (fun j => k + j ≤ l.length ∧ j + runN (l.drop (k + j)) = runN (l.drop k)) (fun j => l.length - (k + j))
    (fun j => fm [(0, lit (.pointer (some ⟨r, 0, none⟩))), (1, sl [lit (.int .i64 3), lit (.int .i64 4)] 2), (5, lit (.int .i64 j))]) (fun j => [(r, rdT, rdC l k)]) 0 ⟨hk, by rw [Nat.add_zero, Nat.zero_add]⟩ (by (repeat (first | exact LeF.nil _ | refine LeF.cons (Le.refl _) ?_ | refine LeF.cons (Le.int (by omega)) ?_))) (List.Sublist.refl _) ?_
  rintro j ⟨hj, hs⟩ K hK
  by_cases hjl : k + j < l.length
  · obtain ⟨b, hd, hm, hg⟩ := at_byte hjl
    have hb := b.toNat_lt
    have c1 := classOf_pu (b := b.toNat) (by omega)
    rcases cls_ok (hok b hm) with ⟨h32, hc⟩ | ⟨h32, hc⟩ | ⟨h32, hc⟩
    · rw [hc, ← hg] at c1
      rw [hd, runN_ne (by omega)] at hs
      clear hK
      have hj' : j = runN (l.drop k) := by omega
      subst hj'
      repeat (first | (refine A1 ⟨?_⟩; intros) | (refine Wcx (c1) ?_) | (refine Wdcx (c1) ?_) | (refine Wcgx (c1) ?_) | (refine Wdcgx (c1) ?_))
      refine WP.unroll 3 ?_
      refine WPR.succ ?_
      repeat (refine A1 ⟨?_⟩; intros)
      refine Wo (ov_idxS (cs' := [lit (.int .i64 3)]) rfl rfl (by omega) (by omega) rfl (by simp)) ?_
      repeat (refine A1 ⟨?_⟩; intros)
      refine Wo (ov_idxS (cs' := [lit (.int .i64 4)]) rfl rfl (by omega) (by omega) rfl (by simp)) ?_
      repeat (refine A1 ⟨?_⟩; intros)
      exact endHR _ _ (end1 (RV.tmp rfl) (Le.refl _)) (List.Sublist.refl _) ⟨rfl, rfl⟩
    · rw [hc, ← hg] at c1
      rw [hd, runN_3 hc] at hs
      have hgo := fun F' H' => hK F' H' (j + 1) ⟨by omega, by rw [show k + (j + 1) = k + j + 1 by omega]; omega⟩ (by omega)
      clear hK hs
      repeat (first | (refine A1 ⟨?_⟩; intros) | (refine Wcx (c1) ?_) | (refine Wdcx (c1) ?_) | (refine Wcgx (c1) ?_) | (refine Wdcgx (c1) ?_))
      refine WP.unroll 3 ?_
      refine WPR.succ ?_
      repeat (refine A1 ⟨?_⟩; intros)
      refine Wo (ov_idxS (cs' := [lit (.int .i64 3)]) rfl rfl (by omega) (by omega) rfl (by simp)) ?_
      repeat (refine A1 ⟨?_⟩; intros)
      exact hgo _ _ (by (repeat (first | exact LeF.nil _ | refine LeF.cons (Le.refl _) ?_ | refine LeF.cons (Le.int (by omega)) ?_))) (List.Sublist.refl _)
    · rw [hc, ← hg] at c1
      rw [hd, runN_ne (by omega)] at hs
      clear hK
      have hj' : j = runN (l.drop k) := by omega
      subst hj'
      repeat (first | (refine A1 ⟨?_⟩; intros) | (refine Wcx (c1) ?_) | (refine Wdcx (c1) ?_) | (refine Wcgx (c1) ?_) | (refine Wdcgx (c1) ?_))
      refine WP.unroll 3 ?_
      refine WPR.succ ?_
      repeat (refine A1 ⟨?_⟩; intros)
      refine Wo (ov_idxS (cs' := [lit (.int .i64 3)]) rfl rfl (by omega) (by omega) rfl (by simp)) ?_
      repeat (refine A1 ⟨?_⟩; intros)
      refine Wo (ov_idxS (cs' := [lit (.int .i64 4)]) rfl rfl (by omega) (by omega) rfl (by simp)) ?_
      repeat (refine A1 ⟨?_⟩; intros)
      exact endHR _ _ (end1 (RV.tmp rfl) (Le.refl _)) (List.Sublist.refl _) ⟨rfl, rfl⟩
  · rw [List.drop_eq_nil_of_le (by omega)] at hs
    have hj' : j = runN (l.drop k) := by unfold runN at hs ⊢; simpa using hs
    subst hj'
    clear hK
    repeat (refine A1 ⟨?_⟩; intros)
    exact endHR _ _ (end1 (RV.tmp rfl) (Le.refl _)) (List.Sublist.refl _) ⟨rfl, rfl⟩
end Go.Ab
