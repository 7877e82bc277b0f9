/- Texts laid one behind the other: StkA, RowB, LexW, LexX, LexY, RName, RNum, RPoint, RRes, RNode, Shape, RPart, StkP, ParseB, ParseW, ParseX, ParseY, ParseZ, GLexS, PNumS, RowC, PNum, PRat, Pub2. -/
import Derived.Test.YtebghnhocigmlaaGreatDoorB11
import Derived.Test.YtebghnhocigmlaaGreatDoorB03
import Derived.Test.YtebghnhocigmlaaGreatDoorB10
import Derived.Test.YtebghnhocigmlaaGreatDoorB04
import Derived.LaidEql
set_option linter.unusedSectionVars false
set_option linter.unusedVariables false
set_option linter.unusedSimpArgs false
namespace Go.Ab
open Go.Proofs
variable [Base]
section
variable {P : Program} {C : Ctx} {n : Nat} {F : Fr} {H : LH} {ty : TypeId}
theorem pub_new {m : Mem} {w w' : World} {arr : Array Value} {e : TypeId} (h1 : MemIn m w) (hw : w' = w.alloc (.cells arr e) ∨ w' = w.drew.alloc (.cells arr e)) :
    ∃ m', MemIn m' w' ∧ Rel [] m w m' w' ∧ m' w.heap.size = some (.cells arr e (0, 0)) := by
  have hnone : m w.heap.size = none := by
    cases hmm : m w.heap.size with
    | none => rfl
    | some o => have := h1 _ _ hmm; rw [Array.getElem?_eq_none (Nat.le_refl _)] at this; cases this
  have hsize : w'.heap.size = w.heap.size + 1 := by rcases hw with rfl | rfl <;> exact World.size_alloc ..
  have hold : ∀ b, b < w.heap.size → w'.heap[b]? = w.heap[b]? := by
    rcases hw with rfl | rfl
    · exact fun b hb => heap_alloc_old w _ b hb
    · exact fun b hb => heap_alloc_old w.drew _ b hb
  have hnew : w'.heap[w.heap.size]? = some (.cells arr e (0, 0)) := by
    rcases hw with rfl | rfl
    · exact heap_alloc_new w _
    · exact heap_alloc_new w.drew _
  have hos : w'.os = w.os ∧ w'.tape = w.tape ∧ w'.output = w.output := by rcases hw with rfl | rfl <;> exact ⟨rfl, rfl, rfl⟩
  have hle : m.le fun b => if b = w.heap.size then some (.cells arr e (0, 0)) else m b := fun b o hb => by
    have : b ≠ w.heap.size := fun e => by rw [e, hnone] at hb; cases hb
    simp only [if_neg this]; exact hb
  refine ⟨fun b => if b = w.heap.size then some (.cells arr e (0, 0)) else m b, ⟨fun b o hb => ?_, Mem.le_trans h1.base hle⟩, ⟨hle, fun b hb _ => ?_, hos.1, hos.2.1, hos.2.2, by omega, fun b hb _ => hold b hb⟩, by simp⟩
  · by_cases hbe : b = w.heap.size
    · subst hbe
      simp only [if_true] at hb
      obtain rfl := Option.some.inj hb
      exact hnew
    · simp only [if_neg hbe] at hb
      have := h1 b o hb
      rw [hold b (Array.getElem?_eq_some_iff.1 this).1]; exact this
  · simp only [if_neg (Nat.ne_of_lt hb)]
theorem OpV.pubN {op : Op} {T : TypeId} {z : List SV} {mk : Nat → Value} {sv : SV} (hn : NewOk P op F T z mk) (hsv : ∀ (m : Mem) (b : Nat) (arr : Array Value), m b = some (.cells arr T (0, 0)) → All2 m z arr.toList → sv.p m (mk b)) : OpV P op ty F H sv := by
  refine OpV.of0 ?_
  intro m w o a ho hty h1 h2 h3 K Q hK
  obtain ⟨arr, hrun, hall⟩ := hn w o a ho ⟨m, h3⟩
  obtain ⟨m', g1, g2, g3⟩ := pub_new (w' := w.alloc (.cells arr T)) h1 (.inl rfl)
  unfold Oper.wp
  rw [hrun]
  exact hK _ m' _ (hsv m' _ arr g3 ((hall m h3).mono g2.le)) g1 g2
theorem sl_new {m : Mem} {b k : Nat} {arr : Array Value} {T : TypeId} {cs : List SV} (hb : m b = some (.cells arr T (0, 0))) (h : All2 m cs arr.toList) (hk : k ≤ maxLen) : (sl cs k).p m (.slice (some ⟨b, 0, none⟩) k k) :=
  sl_mk (Nat.le_refl _) hk (.inr ⟨b, 0, rfl, arr, T, (0, 0), hb, by rw [List.drop_zero, ← h.length, List.take_length]; exact h⟩)
theorem ov_bs1 {T e : TypeId} {by_ : Nat} {z : List SV} {g : Bool} [hS : TSl P T e] [hT : TY P e 1 by_ z g] {x : Operand} {s : SV} (hp : Parts F [(0, x)] [(0, [s])]) : OpV P (.buildSlice T 1 [(0, x)].toArray) ty F H (sl [s] 1) := by
  have hz1 : z.length = 1 := by
    obtain ⟨l, _, h2, _, h4⟩ := hT.info
    rw [← h2, List.length_map, h4]
  have hf : fillS ((List.range 1).map fun i => (i * 1, 1)) (List.replicate 1 z).flatten [(0, [s])] = some [s] := by
    match z, hz1 with
    | [y], _ => rfl
  exact OpV.pubN (nk_bslice hp hf (by decide) (by decide)) fun m b arr hb h => sl_new hb h (by simp only [maxLen]; omega)
theorem run_bound {P : Program} {w : World} {v : Value} (l u : Nat) {ki : IntKind} (code : BoundsCode) (hy : v = .int ki l) (hle : l ≤ u) : (Instr.sliceBound v u code).run P w = .ok l w := by
  have h1 : (l : Int) ≤ (u : Int) := by omega
  subst hy
  simp [Instr.sliceBound, asIntOf, h1]
end
section
variable {P : Program} {C : Ctx} {n : Nat} {F : Fr} {H : LH} {ops : Array Oper} {K : Fr → LH → Prop} {rest : List Oper} {ty : TypeId} {pos : String} {aft : Array Edge}
theorem HUpd.mem_or {b : Nat} {T : TypeId} {cs cs' : List SV} {H H' : LH} (h : HUpd b T cs cs' H H') : ∀ e ∈ H', e = (b, T, cs') ∨ e ∈ H := by
  induction h with
  | here => exact fun e he => (List.mem_cons.1 he).imp id fun h => List.mem_cons_of_mem _ h
  | there _ _ ih => exact fun e he => (List.mem_cons.1 he).elim (fun h => .inr (by rw [h]; exact List.mem_cons_self)) fun h => (ih e h).imp id fun h => List.mem_cons_of_mem _ h
theorem St.lowB {b : Nat} {T : TypeId} {cs cs' : List SV} {H' : LH} {a : Act} {w : World} (hu : HUpd b T cs cs' H H') (hle : LeL cs cs') (hs : St C n F H a w) : St C n F H' a w := by
  obtain ⟨hdef, hn, m, h1, h2, h3, h4, h5⟩ := hs
  obtain ⟨g1, g2⟩ := h2.2 _ hu.mem
  refine ⟨hdef, hn, m, h1, ⟨by rw [hu.keys]; exact h2.1, fun e he => ?_⟩, h3, fun e he => ?_, h5⟩
  · rcases hu.mem_or e he with rfl | h
    · exact ⟨g1, g2.le hle⟩
    · exact h2.2 e h
  · rcases hu.mem_or e he with rfl | h
    · exact h4 (b, T, cs) hu.mem
    · exact h4 e h
theorem WPL.lowB {l : List Oper} {b : Nat} {T : TypeId} {cs cs' : List SV} {H' : LH} (hu : HUpd b T cs cs' H H') (hle : LeL cs cs') (k : WPL P C n ops l K F H') : WPL P C n ops l K F H := by
  unfold WPL at *
  exact fun a w hs => k a w (hs.lowB hu hle)
theorem WPL.viaS1 {Q : Exit → Fr → LH → Prop} {l : List Oper} {B R : Code} (J : Fr → LH → Prop) (h : WPL P C n ops l (fun F H => thenQ (fun F H => WP P C n B (thenQ J Q) F H) Q .normal F H) F H)
    (k : ∀ F H, J F H → WP P C n R Q F H) : WPL P C n ops l (fun F H => thenQ (WP P C n (.seq B R) Q) Q .normal F H) F H :=
  WPL.via _ h fun F H hB => WP.join _ hB k
theorem ov_slFn {T e : TypeId} {sz by_ : Nat} {z : List SV} {g : Bool} [hS : TSl P T e] [hT : TY P e sz by_ z g] {x y : Operand} {cs : List SV} {k : Nat} {v : Int} (j : Nat) (hx : ev F x = sl cs k) (hy : ev F y = lit (.int .i64 v)) (hv : v = (j : Int)) (hk : cs.length = k * sz) (hj : j ≤ k) :
    OpV P (.slice T x (some y) none none) ty F H (sl (cs.drop (j * sz)) (k - j)) :=
  OpV.pure fun m w o a ho _ _ _ h => by
    have e0 := h x (by simp [Op.operands]); rw [hx] at e0
    have e1 := h y (by simp [Op.operands]); rw [hy, lit_p] at e1
    subst hv
    obtain ⟨ad, cap, e0, hc1, hc2, hca⟩ := sl_cells e0
    have hb : (Instr.sliceBounds true k cap (some (a.eval y)) none none).run P w = .ok (j, k, cap) w := by
      simp [Instr.sliceBounds, run_bound j k _ e1 hj]
    have hrun : ∃ a', (execOp a.eval o).run P w = .ok (.value (.slice a' (k - j) (cap - j))) w ∧ (cs.drop (j * sz) = [] ∨ ∃ b off, ad = some ⟨b, off, none⟩ ∧ a' = some ⟨b, off + j * sz, none⟩ ∧ cellsAt m b off cs) := by
      refine ⟨if cap = j then ad else ad.map (·.add (j * sz)), ?_, ?_⟩
      · simp [execOp, ho, Instr.sliceAt, Instr.slice, underlying, hS.h, e0, hb, hT.run_size]
      · rcases hca with hnil | ⟨b, off, rfl, hca⟩
        · left; rw [hnil, List.drop_nil]
        · by_cases hci : cap = j
          · left
            have hkj : k = j := by omega
            exact List.drop_eq_nil_of_le (by rw [hk, hkj]; exact Nat.le_refl _)
          · right
            refine ⟨b, off, rfl, ?_, hca⟩
            rw [if_neg hci]
            simp [add_none]
    obtain ⟨a', hr, hcs⟩ := hrun
    refine ⟨_, hr, sl_mk (by omega) (by omega) ?_⟩
    rcases hcs with hnil | ⟨b, off, _, rfl, hca⟩
    · left; exact hnil
    · right
      exact ⟨b, off + j * sz, rfl, hca.drop (j * sz)⟩
attribute [local semireducible] WPL in
theorem TSR.of {i : Nat} {o : Oper} {Fe : Fr} {Post : SV → LH → Prop} (ho : ops[i]? = some o) (hg : o.guard = none) (h : ∀ F : Fr, (∀ t, t ∈ o.looksAt ops → Fe t = F t) → WPL P { C with pan := noX } n ops [o] (fun F' H' => ∃ sv, Post sv H' ∧ F' = dstf o F sv) F H) : TSR P C n ops i o Fe H Post := by
  obtain ⟨od, oop, oty, opos, oaft, og⟩ := o
  simp only at hg
  subst hg
  intro F hF a w hst Q' K' hK
  have h' := h F hF a w hst (fun e a' w' => match e with | .normal => K' a' w' | e => False) ⟨fun a' w' F' H' hst' hKK => ?_, fun ch a' w' hp => ?_⟩
  · unfold wpOp
    rw [ho]
    unfold wpList at h'
    simp only [Region.wanted, if_true] at h' ⊢
    left
    rcases h' with h' | ⟨_, a0, w0, h0⟩
    · exact wp_agree h' (fun _ _ _ h => h.elim) (fun _ _ h => h.elim)
    · exact h0.elim
  · obtain ⟨sv, hP, rfl⟩ := hKK
    exact hK sv H' hP a' w' hst'
  · obtain ⟨_, _, _, _, _, _, _, _, _, _, _, hx⟩ := hp
    exact hx.elim
theorem Gown {k q i d : Nat} {late : List NO'} {T e : TypeId} {sz by_ : Nat} {z : List SV} {g : Bool} [hS : TSl P T e] [hT : TY P e sz by_ z g] {x y : Operand} {n0 b2 c2 : Nat} {T' : TypeId} {cs ds : List SV} {s : SV} {Hs Rs : LH} {r : List Oper}
    (hown : Own e sz n0 cs s Hs) (hl : n0 ≤ 1000000000) (hlok : LOk P ops k q n H F late) (h : ∀ s' H', Own e sz (n0 + 1) (cs ++ ds) s' H' → Stg P C n ops k q late K (i + 1) r (upd F d s') (Rs ++ H')) (hsp : Tk H Hs Rs) (hm : (b2, T', ds) ∈ Rs)
    (hx : ev F x = s := by exact rfl) (hy : ev F y = lit (.slice (some ⟨b2, 0, none⟩) 1 c2) := by exact rfl) (hds : ds.length = sz := by exact rfl) (hpos : 0 < sz := by decide) (hby : by_ ≤ 10000 := by decide)
    (ho : ops[i]? = some ⟨some d, .call ⟨.builtin .append, #[x, y], #[T, T]⟩, ty, pos, aft, none⟩ := by exact rfl) (hd : Nat.blt d n = true := by exact rfl) :
    Stg P C n ops k q late K i (⟨some d, .call ⟨.builtin .append, #[x, y], #[T, T]⟩, ty, pos, aft, none⟩ :: r) F H := by
  refine ⟨hlok, fun s' H' => ∃ H1, Own e sz (n0 + 1) (cs ++ ds) s' H1 ∧ H' = Rs ++ H1, TSR.of ho rfl fun F1 hF1 => ?_, ?_⟩
  · have hx1 : ev F1 x = s := by rw [← hx]; exact (ev_looks (by simp [Op.operands, Call.operands]) hF1)
    have hy1 : ev F1 y = lit (.slice (some ⟨b2, 0, none⟩) 1 c2) := by rw [← hy]; exact (ev_looks (by simp [Op.operands, Call.operands]) hF1)
    exact Wown hown hl (fun s' H' h' => WPL.nil ⟨s', ⟨H', h', rfl⟩, rfl⟩) hx1 hy1 hsp hm hds hpos hby hd
  · rintro s' H' ⟨H1, h1, rfl⟩
    exact h s' H1 h1
theorem ov_bsN {T e : TypeId} {sz by_ : Nat} {z : List SV} {g : Bool} [hS : TSl P T e] [hT : TY P e sz by_ z g] {x : Operand} {s : SV} {ds : List SV} (hx : ev F x = s) (hco : CO s ds) (hf : fillS ((List.range 1).map fun i => (i * sz, sz)) (List.replicate 1 z).flatten [(0, ds)] = some ds := by exact rfl)
    (hsz : Nat.ble (1 * sz) 16777216 = true := by exact rfl) (hpos : Nat.blt 0 sz = true := by exact rfl) : OpV P (.buildSlice T 1 [(0, x)].toArray) ty F H (sl ds 1) :=
  OpV.pubN (nk_bslice (.cons hx hco .nil) hf hsz hpos) fun m b arr hb h => sl_new hb h (by simp only [maxLen]; omega)
theorem WPL.appOwnS {T e : TypeId} {sz by_ : Nat} {z : List SV} {g : Bool} [hS : TSl P T e] [hT : TY P e sz by_ z g] {d : Nat} {x y : Operand} {n0 : Nat} {cs ds : List SV} {s : SV} {Hs Rs : LH}
    (hown : Own e sz n0 cs s Hs) (hx : ev F x = s) (hy : ev F y = sl ds 1) (hsp : Spl H Hs Rs) (hds : ds.length = sz) (hpos : 0 < sz) (hl : n0 ≤ 1000000000) (hby : by_ ≤ 10000)
    (k : ∀ s' H', Own e sz (n0 + 1) (cs ++ ds) s' H' → WPL P C n ops rest K (upd F d s') (H' ++ Rs)) (hd : Nat.blt d n = true) :
    WPL P C n ops (⟨some d, .call ⟨.builtin .append, #[x, y], #[T, T]⟩, ty, pos, aft, none⟩ :: rest) K F H := by
  unfold WPL
  intro a w hs0 Q hq
  have hs := hs0.perm hsp.perm
  refine wpList_plain rfl fun K' hK' => ?_
  obtain ⟨hdef, hn, m0, h10, h20, h30, h40, h50⟩ := id hs
  have hp0 : ∀ x, (ev F x).p m0 (a.eval x) := fun x => by
    cases x with
    | tmp t => exact h50 t
    | const v => unfold ev lit; rfl
    | global g => unfold ev lit; rfl
    | func f => unfold ev lit; rfl
  have e0 := hp0 x; rw [hx] at e0
  have e1 := hp0 y; rw [hy] at e1
  obtain ⟨ad2, c2, e1, hc1, hc2, hcb⟩ := sl_cells e1
  obtain ⟨b2, off2, rfl, arr2, T2, fz2, hbm2, hall2⟩ := hcb.resolve_left (fun h => by rw [h] at hds; simp at hds; omega)
  have hb2 := h10 _ _ hbm2
  rw [hds] at hall2
  generalize hl2 : (arr2.toList.drop off2).take sz = l2 at hall2
  obtain ⟨i, v, hi, hsz, hbyt, hz, hzl, hfl, hvs⟩ := hT.run_bytes
  have hlen2 := hall2.length
  have hys : ∀ j u, l2[j]? = some u → w.cell? ((⟨b2, off2, none⟩ : Addr).add j) = some u := fun j u hj => by
    rw [add_none, cell_of w b2 _ arr2 _ _ hb2]
    rw [← hl2, List.getElem?_take] at hj
    split at hj
    · rw [List.getElem?_drop] at hj; simpa using hj
    · cases hj
  have hexec : execOp a.eval (⟨some d, .call ⟨.builtin .append, #[x, y], #[T, T]⟩, ty, pos, aft, none⟩ : Oper) = (do let v ← Builtin.append_ #[T, T] ty #[a.eval x, a.eval y]; pure (.value v)) := by
    simp [execOp, resolve, invoke, builtin]
  have hmul : ∀ q, q ≤ 1000000001 → q * by_ ≤ 140737488355328 := fun q hq => Nat.le_trans (Nat.mul_le_mul hq hby) (by decide)
  have get2 : ∀ m, MemIn m w → (ev F y).p m (a.eval y) → All2 m ds l2 := fun m h1 h2 => by
    rw [hy, e1] at h2
    obtain ⟨ad3, c3, e3, _, _, hcb3⟩ := sl_cells h2
    obtain ⟨b3, off3, rfl, arr3, T3, fz3, hbm3, hall3⟩ := hcb3.resolve_left (fun h => by rw [h] at hds; simp at hds; omega)
    have hb3 := h1 _ _ hbm3
    simp only [Value.slice.injEq, Option.some.injEq, Addr.mk.injEq, and_true, true_and] at e3
    obtain ⟨⟨rfl, rfl⟩, _⟩ := e3
    rw [hb2] at hb3
    simp only [Option.some.injEq, Obj.cells.injEq] at hb3
    obtain ⟨rfl, _⟩ := hb3
    rw [hds, hl2] at hall3
    exact hall3
  unfold Oper.wp
  rw [hexec, e1]
  obtain ⟨hcl, hcase⟩ := hown
  rcases hcase with ⟨rfl, rfl, rfl⟩ | ⟨b, c, hnc, hcm, rfl, rfl⟩
  · rw [lit_p] at e0
    have hcs : cs = [] := List.eq_nil_of_length_eq_zero (by rw [hcl, Nat.zero_mul])
    subst hcs
    have hrun := run_append_nil (P := P) w T ty e i v hS.h hi hz ⟨b2, off2, none⟩ 1 c2 l2 (by rw [hlen2, hsz, hds, Nat.one_mul]) hys (by omega) (by omega) (by rw [hbyt]; have := hmul 1 (by omega); omega)
    rw [e0]
    simp only [Sem.run_bind, hrun, Result.andThen_ok, Sem.run_pure]
    have hge := grownCap_ge w 1 0 e
    have hle := grownCap_le_maxLen w 1 0 e (by simp only [maxLen]; omega)
    have h := k (lit (.slice (some ⟨w.heap.size, 0, none⟩) 1 (grownCap w 1 0 e))) [(w.heap.size, e, ([] ++ ds) ++ List.replicate (grownCap w 1 0 e * sz - 1 * sz) top)] ⟨by rw [List.nil_append, hds]; omega, .inr ⟨_, _, hge, hle, rfl, by rw [Nat.zero_add]⟩⟩
    unfold WPL at h
    refine hK' _ _ (h _ _ (St.pushD (Nat.blt_eq.mp hd) hs fun m h1 h2 h3 => ?_) Q hq)
    simp only [Array.toList_append, List.toList_toArray, List.nil_append]
    refine (get2 m h1 (h3 y)).append (All2.topL ?_ (zeroCells_one hfl))
    rw [Array.length_toList, size_zeroCells, hvs, Nat.sub_mul]
  · rw [lit_p] at e0
    obtain ⟨hmb, arr, hb, hall⟩ := h20.2 _ (List.mem_append_left Rs (List.mem_singleton.2 rfl))
    have hlen := hall.length
    simp only [List.length_append, List.length_replicate, hcl, Array.length_toList] at hlen
    have hmono : n0 * sz ≤ c * sz := Nat.mul_le_mul_right _ hnc
    have getc : ∀ m, HOk m w ([(b, e, cs ++ List.replicate (c * sz - n0 * sz) top)] ++ Rs) → All2 m (cs ++ List.replicate (c * sz - n0 * sz) top) arr.toList := fun m h2 => by
      obtain ⟨_, arr', hb', hall'⟩ := h2.2 _ (List.mem_append_left Rs (List.mem_singleton.2 rfl))
      rw [hb] at hb'
      simp only [Option.some.injEq, Obj.cells.injEq] at hb'
      obtain ⟨rfl, _⟩ := hb'
      exact hall'
    by_cases hroom : n0 + 1 ≤ c
    · have hm1 : (n0 + 1) * sz ≤ c * sz := Nat.mul_le_mul_right _ hroom
      rw [Nat.succ_mul] at hm1
      have hrun := run_append_room (P := P) w T ty e i hS.h hi b n0 c arr hb ⟨b2, off2, none⟩ 1 c2 l2 (by rw [hlen2, hsz, hds, Nat.one_mul]) hys hall2.flat hroom (by rw [hsz, hlen2, hds]; omega)
      rw [e0]
      simp only [Sem.run_bind, hrun, Result.andThen_ok, Sem.run_pure]
      have h := k (lit (.slice (some ⟨b, 0, none⟩) (n0 + 1) c)) [(b, e, (cs ++ ds) ++ List.replicate (c * sz - (n0 + 1) * sz) top)] ⟨by rw [List.length_append, hcl, hds, Nat.succ_mul], .inr ⟨_, _, hroom, hcm, rfl, rfl⟩⟩
      unfold WPL at h
      have hfin : All2 m0 ((cs ++ ds) ++ List.replicate (c * sz - (n0 + 1) * sz) top) (arr.toList.take (n0 * i.size) ++ l2 ++ arr.toList.drop (n0 * i.size + l2.length)).toArray.toList := by
        obtain ⟨q1, q2⟩ := (getc m0 h20).split
        rw [hcl] at q1 q2
        rw [hsz, hlen2, hds, List.toList_toArray]
        refine (q1.append (get2 m0 h10 (hp0 y))).append (All2.topL ?_ fun u hu => ?_)
        · rw [List.length_drop, Array.length_toList, Nat.succ_mul]; omega
        · exact hall.flat u (List.mem_of_mem_drop hu)
      obtain ⟨q1, q2, q3, q4⟩ := write_ok (w' := w.setRow b (arr.toList.take (n0 * i.size) ++ l2 ++ arr.toList.drop (n0 * i.size + l2.length)).toArray) h10 h20 h30 h40 (.here Rs)
        (setRow_heap w b arr _ e _ hb) (fun j hj => setRow_other w b j _ hj) rfl rfl rfl (by simp) hfin
      refine hK' _ _ (h (a.put (some d) (.slice (some ⟨b, 0, none⟩) (n0 + 1) c)) _ ⟨hdef, by simpa [Act.put] using hn, m0, q1, q2, q3, q4, fun t => ?_⟩ Q hq)
      rw [getD_put (Nat.lt_of_lt_of_le (Nat.blt_eq.mp hd) hn)]
      unfold Ab.upd
      by_cases ht : t = d
      · subst ht; rw [if_pos rfl, Nat.beq_refl]; exact lit_p.2 rfl
      · rw [if_neg ht]
        have : Nat.beq t d = false := by
          cases hbb : Nat.beq t d with
          | false => rfl
          | true => exact absurd (Nat.eq_of_beq_eq_true hbb) ht
        rw [this]
        exact h50 t
    · have hxs : ∀ j u, (arr.toList.take (n0 * sz))[j]? = some u → w.cell? ((⟨b, 0, none⟩ : Addr).add j) = some u := fun j u hj => by
        rw [add_none, cell_of w b _ arr _ _ hb]
        rw [List.getElem?_take] at hj
        split at hj
        · simpa using hj
        · cases hj
      have hrun := run_append_grow (P := P) w T ty e i v hS.h hi hz ⟨b, 0, none⟩ n0 c (arr.toList.take (n0 * sz)) (by rw [List.length_take, Array.length_toList, hsz]; omega) hxs
        ⟨b2, off2, none⟩ 1 c2 l2 (by rw [hlen2, hsz, hds, Nat.one_mul]) hys (by omega) (by omega) (growslice_fits (by omega) (by rw [hbyt]; exact hmul _ (by omega)))
      rw [e0]
      simp only [Sem.run_bind, hrun, Result.andThen_ok, Sem.run_pure]
      have hge := grownCap_ge w (n0 + 1) c e
      have hle := grownCap_le_maxLen w (n0 + 1) c e (by simp only [maxLen]; omega)
      have h := k (lit (.slice (some ⟨w.heap.size, 0, none⟩) (n0 + 1) (grownCap w (n0 + 1) c e))) [(w.heap.size, e, (cs ++ ds) ++ List.replicate (grownCap w (n0 + 1) c e * sz - (n0 + 1) * sz) top)]
        ⟨by rw [List.length_append, hcl, hds, Nat.succ_mul], .inr ⟨_, _, hge, hle, rfl, rfl⟩⟩
      unfold WPL at h
      have hst := St.pushD (d := d) (cs := (cs ++ ds) ++ List.replicate (grownCap w (n0 + 1) c e * sz - (n0 + 1) * sz) top) (v := .slice (some ⟨w.heap.size, 0, none⟩) (n0 + 1) (grownCap w (n0 + 1) c e)) (T := e)
        (arr := (arr.toList.take (n0 * sz)).toArray ++ l2.toArray ++ Builtin.zeroCells v.cells (grownCap w (n0 + 1) c e - (n0 + 1))) (Nat.blt_eq.mp hd) hs fun m h1 h2 h3 => ?_
      · refine hK' _ _ (h _ _ ?_ Q hq)
        exact hst.drop (.there _ (.here _))
      · simp only [Array.toList_append, List.toList_toArray]
        obtain ⟨q1, _⟩ := (getc m h2).split
        rw [hcl] at q1
        refine (q1.append (get2 m h1 (h3 y))).append (All2.topL ?_ (zeroCells_one hfl))
        rw [Array.length_toList, size_zeroCells, hvs, Nat.sub_mul]
end
theorem pub_ownL {m : Mem} {arr : Array Value} {b : Nat} {T : TypeId} {cs : List SV} {j n c : Nat} (hm : m b = some (.cells arr T (0, 0))) (ha : All2 m (cs ++ List.replicate j top) arr.toList) (h1 : n ≤ c) (h2 : c ≤ maxLen) : (sl cs n).p m (.slice (some ⟨b, 0, none⟩) n c) := by
  refine sl_mk h1 h2 (.inr ⟨b, 0, rfl, arr, T, (0, 0), hm, ?_⟩)
  rw [List.drop_zero]
  exact ha.split.1
abbrev rdT : TypeId := 236
abbrev tkT : TypeId := 119
abbrev tkx (a : Tok) : List SV := [lit (.int .i64 a.k), str a.t, lit (.int .i64 a.l), lit (.int .i64 a.c)]
theorem Le.ifcT {t : TypeId} {s : SV} : Le (ifc t s) (ifc t Ab.top) := fun m v h => by
  unfold ifc at *
  obtain ⟨u, rfl, _⟩ := h
  exact ⟨u, rfl, by unfold Ab.top; trivial⟩
section
variable {P : Program} {F : Fr} {H : LH} {ty : TypeId}
theorem ov_ineF {T T' u : TypeId} {s : SV} {x : Operand} (hT : P.isIface T = true) (hx : ev F x = ifc u s) : OpV P (.binOp .neq T x (.const .nilIface) T') ty F H (lit (.bool true)) :=
  OpV.pure fun m w o a ho _ _ _ h => by
    have h0 := h x (by simp [Op.operands]); rw [hx] at h0
    unfold ifc at h0
    obtain ⟨v, h0, _⟩ := h0
    have e1 : a.eval (.const .nilIface) = .nilIface := rfl
    exact ⟨.bool true, by simp [execOp, ho, h0, e1, run_neq_iface_nil w T hT u v, Go.eqGuard], lit_p.2 rfl⟩
end
theorem take_drop_eq (l : List UInt8) (k n : Nat) : (l.take (k + n)).drop k = (l.drop k).take n := by
  rw [List.drop_take, Nat.add_sub_cancel_left]
theorem at_byte {l : List UInt8} {j : Nat} (h : j < l.length) : ∃ b, l.drop j = b :: l.drop (j + 1) ∧ b ∈ l ∧ l.getD j 0 = b :=
  ⟨l[j], List.drop_eq_getElem_cons h, List.getElem_mem h, by simp [List.getD, h]⟩
abbrev toks (ts : List Tok) : SV := sl (ts.map tkx).flatten ts.length
theorem toks_snoc (A : List Tok) (t : Tok) : ((A ++ [t]).map tkx).flatten = (A.map tkx).flatten ++ tkx t := by
  rw [List.map_append, List.flatten_append]; simp only [List.map_cons, List.map_nil, List.flatten_cons, List.flatten_nil, List.append_nil]
def numT (r : RQ) : List UInt8 := if nrmQ r = true then fmt r.v else []
theorem numT_t {r : RQ} (h : nrmQ r = true) : numT r = fmt r.v := by unfold numT; rw [if_pos h]
theorem numT_len {r : RQ} {L : Nat} (h : r.ok L) : (numT r).length ≤ 20 * L + 24 := by
  unfold numT
  split
  · have := fmt_len (ht_v h); omega
  · simp
def rpT (a b : RQ) : List UInt8 := [40] ++ numT a ++ [44] ++ numT b ++ [41]
theorem rpT_good {a b : RQ} (h : (nrmQ a && nrmQ b) = true) : rpT a b = ptxt a b := by
  rw [Bool.and_eq_true] at h
  unfold rpT ptxt
  rw [numT_t h.1, numT_t h.2]
theorem rpT_len {a b : RQ} {L : Nat} (ha : a.ok L) (hb : b.ok L) : (rpT a b).length ≤ 40 * L + 60 := by
  have h1 := numT_len ha
  have h2 := numT_len hb
  unfold rpT
  simp only [List.length_append, List.length_cons, List.length_nil]
  omega
def Ex.rtxt : Ex → List UInt8
  | .leaf n => if n.k = 1 then n.nm else if n.k = 2 then [97, 108, 108] else if n.k = 3 then [110, 111, 110, 101] else [104, 97, 108, 102, 32] ++ rpT n.a n.b ++ [32] ++ rpT n.c n.e
  | .un _ x => [126] ++ par (decide (rk x.top < 3)) x.rtxt
  | .bi n l r => par (decide (rk l.top < rk n)) l.rtxt ++ sgn n.op ++ par (decide (rk r.top < rk n + 1)) r.rtxt
theorem Ex.rtxt_good : ∀ {t : Ex}, t.good = true → (∀ (ns : List Nd) (i : Nat), t.At ns i → t.rtxt = t.txt)
  | .leaf n, h, ns, i, hat => by
    obtain ⟨_, h1, h4⟩ := hat
    unfold Ex.rtxt Ex.txt
    unfold Ex.good at h
    by_cases k1 : n.k = 1
    · rw [if_pos k1, if_pos k1]
    rw [if_neg k1] at h ⊢
    rw [if_neg k1]
    by_cases k2 : n.k = 2
    · rw [if_pos k2, if_pos k2]
    rw [if_neg k2, if_neg k2]
    by_cases k3 : n.k = 3
    · rw [if_pos k3, if_pos k3]
    rw [if_neg k3, if_neg k3]
    rw [if_pos (by omega : n.k = 4)] at h
    rw [Bool.and_eq_true] at h
    rw [rpT_good h.1, rpT_good h.2]
    unfold ptxt2
    simp only [List.append_assoc, List.cons_append, List.nil_append]
  | .un n x, h, ns, i, hat => by
    obtain ⟨_, _, j, _, hx⟩ := hat
    unfold Ex.rtxt Ex.txt
    rw [Ex.rtxt_good (t := x) h ns j hx]
  | .bi n l r, h, ns, i, hat => by
    obtain ⟨_, _, _, j, k, _, _, hl, hr⟩ := hat
    have h' : (l.good && r.good) = true := h
    rw [Bool.and_eq_true] at h'
    unfold Ex.rtxt Ex.txt
    rw [Ex.rtxt_good h'.1 ns j hl, Ex.rtxt_good h'.2 ns k hr]
theorem Ex.rtxt_len {L : Nat} (hL : L ≤ 20) {ns : List Nd} (hok : ∀ n ∈ ns, n.ok L) : ∀ {t : Ex} {i : Nat}, t.At ns i → t.rtxt.length ≤ 2000 * t.size
  | .leaf n, i, hat => by
    have hm := hok n (List.mem_of_getElem? hat.1)
    have h1 := rpT_len hm.a hm.b
    have h2 := rpT_len hm.c hm.e
    have h3 := hm.nm
    simp only [Ex.rtxt, Ex.size]
    split
    · omega
    split
    · simp
    split
    · simp
    · simp only [List.length_append, List.length_cons, List.length_nil]; omega
  | .un n x, i, hat => by
    obtain ⟨_, _, j, _, hx⟩ := hat
    have h1 := Ex.rtxt_len hL hok hx
    have h2 := par_len (decide (rk x.top < 3)) x.rtxt
    simp only [Ex.rtxt, Ex.size, List.length_append, List.length_cons, List.length_nil]
    omega
  | .bi n l r, i, hat => by
    obtain ⟨_, _, _, j, k, _, _, hl, hr⟩ := hat
    have h1 := Ex.rtxt_len hL hok hl
    have h2 := Ex.rtxt_len hL hok hr
    have h3 := par_len (decide (rk l.top < rk n)) l.rtxt
    have h4 := par_len (decide (rk r.top < rk n + 1)) r.rtxt
    have h5 := sgn_len n.op
    simp only [Ex.rtxt, Ex.size, List.length_append]
    omega
def stp (i : Nat) (n : Nd) (st : List (Ex × Nat)) : Option (List (Ex × Nat)) :=
  if okN n = true then
    if n.k = 5 then (match st with
      | (x, j) :: r => if n.x = (j : Nat) then some ((.un n x, i) :: r) else none
      | [] => none)
    else if n.k = 6 then (match st with
      | (y, k) :: (x, j) :: r => if n.x = (j : Nat) ∧ n.y = (k : Nat) then some ((.bi n x y, i) :: r) else none
      | _ => none)
    else some ((.leaf n, i) :: st)
  else none
def stk : List Nd → Nat → List (Ex × Nat) → Option (List (Ex × Nat))
  | [], _, st => some st
  | n :: ns, i, st => match stp i n st with
    | some st' => stk ns (i + 1) st'
    | none => none
theorem stk_cons (n : Nd) (ns : List Nd) (i : Nat) (st : List (Ex × Nat)) : stk (n :: ns) i st = match stp i n st with
    | some st' => stk ns (i + 1) st'
    | none => none := rfl
inductive Sk (ns : List Nd) (ss : List Nat) : Nat → List (Ex × Nat) → Prop
  | nil : Sk ns ss 0 []
  | cons {i : Nat} {t : Ex} {st : List (Ex × Nat)} (h1 : t.At ns i) (h2 : t.size = ss.getD i 0) (h3 : t.size ≤ i + 1) (h : Sk ns ss (i + 1 - t.size) st) : Sk ns ss (i + 1) ((t, i) :: st)
theorem Sk.more {ns : List Nd} {ss : List Nat} {i s : Nat} {st : List (Ex × Nat)} (h : Sk ns ss i st) : i ≤ ss.length → Sk ns (ss ++ [s]) i st := by
  induction h with
  | nil => exact fun _ => .nil
  | @cons i t st h1 h2 h3 _ ih =>
    intro hi
    refine .cons h1 ?_ h3 (ih (by have := t.size_pos; omega))
    rw [h2]
    simp [List.getD, List.getElem?_append_left (show i < ss.length by omega)]
theorem Sk.all {ns : List Nd} {ss : List Nat} {i : Nat} {st : List (Ex × Nat)} (h : Sk ns ss i st) : ∀ e ∈ st, e.1.At ns e.2 ∧ e.1.size ≤ i ∧ e.2 < i := by
  induction h with
  | nil => intro e he; cases he
  | @cons i t st h1 h2 h3 _ ih =>
    intro e he
    have := t.size_pos
    rcases List.mem_cons.1 he with rfl | he
    · exact ⟨h1, h3, Nat.lt_succ_self _⟩
    · obtain ⟨a, b, c⟩ := ih e he
      exact ⟨a, by omega, by omega⟩
theorem Sk.len {ns : List Nd} {ss : List Nat} {i : Nat} {st : List (Ex × Nat)} (h : Sk ns ss i st) : st.length ≤ i := by
  induction h with
  | nil => exact Nat.le_refl _
  | @cons i t st h1 h2 h3 _ ih =>
    have := t.size_pos
    simp only [List.length_cons]; omega
theorem getD_snoc (ss : List Nat) (s : Nat) : (ss ++ [s]).getD ss.length 0 = s := by simp [List.getD]
theorem stp_step {ns : List Nd} {ss : List Nat} {n : Nd} {st : List (Ex × Nat)} (hat : ns[ss.length]? = some n) (h : Sk ns ss ss.length st) :
    match stp ss.length n st with
    | some st' => ∃ s, step1 ss n = some s ∧ Sk ns (ss ++ [s]) (ss.length + 1) st'
    | none => step1 ss n = none := by
  generalize hi : ss.length = i at *
  unfold stp step1
  rw [hi]
  by_cases e : okN n = true
  · rw [if_pos e, if_pos e]
    obtain ⟨hk, ho⟩ := okN_k e
    by_cases k5 : n.k = 5
    · rw [if_pos k5, if_pos k5]
      cases h with
      | nil => simp only; rw [if_neg (by omega)]
      | @cons j t st' h1 h2 h3 h4 =>
        simp only [Nat.add_sub_cancel]
        by_cases hx : n.x = (j : Nat)
        · rw [if_pos hx, if_pos (by omega)]
          refine ⟨_, rfl, .cons ⟨hat, k5, j, hx, h1⟩ ?_ ?_ ?_⟩
          · rw [← hi, getD_snoc]; simp only [Ex.size]; omega
          · simp only [Ex.size]; omega
          · have := (Sk.more (s := 1 + ss.getD j 0) h4 (by omega))
            simp only [Ex.size]
            rw [show j + 1 + 1 - (1 + t.size) = j + 1 - t.size by omega]
            exact this
        · rw [if_neg hx, if_neg (by omega)]
    · rw [if_neg k5, if_neg k5]
      by_cases k6 : n.k = 6
      · rw [if_pos k6, if_pos k6]
        cases h with
        | nil => simp only; rw [if_neg (by omega)]
        | @cons k y st' h1 h2 h3 h4 =>
          simp only [Nat.add_sub_cancel]
          rw [← h2]
          have hy1 := y.size_pos
          generalize hm : k + 1 - y.size = m at h4
          cases h4 with
          | nil => simp only; rw [if_neg (by omega)]
          | @cons j x r g1 g2 g3 g4 =>
            simp only
            have hj : k - y.size = j := by omega
            rw [hj, ← g2]
            by_cases hx : n.x = (j : Nat) ∧ n.y = (k : Nat)
            · rw [if_pos hx, if_pos (by omega)]
              refine ⟨_, rfl, .cons ⟨hat, k6, ho k6, j, k, hx.1, hx.2, g1, h1⟩ ?_ ?_ ?_⟩
              · rw [← hi, getD_snoc]; simp only [Ex.size]; omega
              · simp only [Ex.size]; omega
              · have := (Sk.more (s := 1 + y.size + x.size) g4 (by omega))
                simp only [Ex.size]
                rw [show k + 1 + 1 - (1 + x.size + y.size) = j + 1 - x.size by omega]
                exact this
            · rw [if_neg hx, if_neg (by omega)]
      · rw [if_neg k6, if_neg k6]
        refine ⟨1, rfl, .cons ⟨hat, hk.1, by omega⟩ ?_ ?_ ?_⟩
        · rw [← hi, getD_snoc]; rfl
        · simp only [Ex.size]; omega
        · have := (Sk.more (s := 1) h (by omega))
          simpa [Ex.size] using this
  · rw [if_neg e, if_neg e]
theorem stk_sizes {ns : List Nd} : ∀ (rest : List Nd) (ss : List Nat) (st : List (Ex × Nat)), ns.drop ss.length = rest → ss.length ≤ ns.length → Sk ns ss ss.length st →
    match stk rest ss.length st with
    | some st' => ∃ out, sizes rest ss = some out ∧ out.length = ns.length ∧ Sk ns out ns.length st'
    | none => sizes rest ss = none
  | [], ss, st, hd, hl, h => by
    have hlen : ss.length = ns.length := by
      have := congrArg List.length hd
      simp at this
      omega
    unfold stk sizes
    exact ⟨ss, rfl, hlen, hlen ▸ h⟩
  | n :: rest, ss, st, hd, hl, h => by
    rw [stk_cons, sizes_cons]
    have hat : ns[ss.length]? = some n := by
      have := congrArg (·[0]?) hd
      simpa using this
    have hlt : ss.length < ns.length := (List.getElem?_eq_some_iff.1 hat).1
    have hs := stp_step hat h
    cases hst : stp ss.length n st with
    | none => rw [hst] at hs; simp only at hs ⊢; rw [hs]
    | some st' =>
      rw [hst] at hs
      obtain ⟨s, hs1, hs2⟩ := hs
      simp only
      rw [hs1]
      have hrec := stk_sizes rest (ss ++ [s]) st' (by
        rw [List.length_append, List.length_singleton]
        have := drop_cons hat
        rw [hd] at this
        exact ((List.cons.inj this).2).symm) (by simp; omega) (by rw [List.length_append, List.length_singleton]; exact hs2)
      rw [List.length_append, List.length_singleton] at hrec
      exact hrec
theorem stk_okL (ns : List Nd) : match stk ns 0 [] with
    | some st => okL ns = decide (st.length = 1) ∧ ∀ t j r, st = (t, j) :: r → t.At ns j ∧ (r = [] → j = ns.length - 1 ∧ t.size = ns.length)
    | none => okL ns = false := by
  have h := stk_sizes (ns := ns) ns [] [] rfl (Nat.zero_le _) .nil
  simp only [List.length_nil] at h
  cases hst : stk ns 0 [] with
  | none =>
    rw [hst] at h
    exact okL_none h
  | some st =>
    rw [hst] at h
    obtain ⟨out, h1, h2, h3⟩ := h
    simp only
    unfold okL
    rw [h1]
    simp only
    generalize hN : ns.length = N at *
    cases h3 with
    | nil => exact ⟨rfl, fun _ _ _ h => by cases h⟩
    | @cons i t st' g1 g2 g3 g4 =>
      simp only [Nat.add_sub_cancel]
      rw [← g2]
      have hp := t.size_pos
      generalize hm : i + 1 - t.size = m at g4
      cases g4 with
      | nil =>
        refine ⟨by simp; omega, fun t' j r he => ?_⟩
        cases he
        exact ⟨g1, fun _ => ⟨rfl, by omega⟩⟩
      | @cons i' t' st'' q1 q2 q3 q4 =>
        refine ⟨by simp; omega, fun t' j r he => ?_⟩
        cases he
        exact ⟨g1, fun hr => by cases hr⟩
theorem stk_app (A B : List Nd) : ∀ (i : Nat) (st : List (Ex × Nat)), stk (A ++ B) i st = match stk A i st with
    | some st' => stk B (i + A.length) st'
    | none => none := by
  induction A with
  | nil => intro i st; rfl
  | cons n A ih =>
    intro i st
    rw [List.cons_append, stk_cons, stk_cons]
    cases stp i n st with
    | none => rfl
    | some st' =>
      simp only
      rw [ih, List.length_cons, show i + 1 + A.length = i + (A.length + 1) by omega]
def Rn (A : List Nd) (i : Nat) (x : Ex) : Prop := (∀ s, stk A i s = some ((x, i + A.length - 1) :: s)) ∧ 1 ≤ A.length
theorem okNB {op x y : Int} {a : Tok} (h1 : 1 ≤ op) (h4 : op ≤ 4) : okN (ndB op x y a) = true := by
  unfold okN ndB; simp [zp, zq, h1, h4]
theorem okNU {x : Int} {a : Tok} : okN (ndU x a) = true := by
  unfold okN ndU; simp [zp, zq]
theorem okNA {k : Int} {a : Tok} (h : k = 2 ∨ k = 3) : okN (ndA k a) = true := by
  rcases h with rfl | rfl <;> rfl
theorem okNm {a : Tok} : okN (ndN a) = true := by
  unfold okN ndN; simp [zp, zq]
theorem Rn.leaf {n : Nd} {i : Nat} (h1 : okN n = true) (h5 : n.k ≠ 5) (h6 : n.k ≠ 6) : Rn [n] i (.leaf n) :=
  ⟨fun s => by rw [stk_cons, show stp i n s = some ((.leaf n, i) :: s) from by unfold stp; rw [if_pos h1, if_neg h5, if_neg h6]]; rfl, Nat.le_refl _⟩
theorem Rn.un {A : List Nd} {n : Nd} {i : Nat} {x : Ex} (h : Rn A i x) (h1 : okN n = true) (h5 : n.k = 5) (hx : n.x = (i + A.length : Nat) - 1) : Rn (A ++ [n]) i (.un n x) := by
  obtain ⟨hs, hp⟩ := h
  refine ⟨fun s => ?_, by simp⟩
  rw [stk_app, hs]
  simp only
  rw [stk_cons, show stp (i + A.length) n ((x, i + A.length - 1) :: s) = some ((.un n x, i + A.length) :: s) from by unfold stp; rw [if_pos h1, if_pos h5]; simp only; rw [if_pos (by omega)]]
  rw [List.length_append, List.length_singleton, show i + (A.length + 1) - 1 = i + A.length by omega]
  rfl
theorem Rn.bi {A B : List Nd} {n : Nd} {i : Nat} {x y : Ex} (h : Rn A i x) (k : Rn B (i + A.length) y) (h1 : okN n = true) (h6 : n.k = 6) (hx : n.x = (i + A.length : Nat) - 1) (hy : n.y = (i + A.length + B.length : Nat) - 1) : Rn (A ++ B ++ [n]) i (.bi n x y) := by
  obtain ⟨hs, hp⟩ := h
  obtain ⟨ks, kp⟩ := k
  refine ⟨fun s => ?_, by simp; omega⟩
  rw [stk_app, stk_app, hs]
  simp only
  rw [ks]
  simp only
  rw [List.length_append, stk_cons, show stp (i + (A.length + B.length)) n ((y, i + A.length + B.length - 1) :: (x, i + A.length - 1) :: s) = some ((.bi n x y, i + (A.length + B.length)) :: s) from by unfold stp; rw [if_pos h1, if_neg (by omega), if_pos h6]; simp only; rw [if_pos ⟨by omega, by omega⟩]]
  rw [List.length_append, List.length_append, List.length_singleton, show i + (A.length + B.length + 1) - 1 = i + (A.length + B.length) by omega]
  rfl
def Like (n m : Nd) : Prop := n.k = m.k ∧ n.op = m.op ∧ n.x = m.x ∧ n.y = m.y
inductive LikeT : Ex → Ex → Prop
  | leaf {n m : Nd} (h : Like n m) : LikeT (.leaf n) (.leaf m)
  | un {n m : Nd} {x y : Ex} (h : Like n m) (k : LikeT x y) : LikeT (.un n x) (.un m y)
  | bi {n m : Nd} {x y u v : Ex} (h : Like n m) (k : LikeT x u) (l : LikeT y v) : LikeT (.bi n x y) (.bi m u v)
inductive LikeS : List (Ex × Nat) → List (Ex × Nat) → Prop
  | nil : LikeS [] []
  | cons {x y : Ex} {j : Nat} {s t : List (Ex × Nat)} (h : LikeT x y) (k : LikeS s t) : LikeS ((x, j) :: s) ((y, j) :: t)
theorem LikeS.head {x y : Ex} {j k : Nat} {s t : List (Ex × Nat)} (h : LikeS ((x, j) :: s) ((y, k) :: t)) : LikeT x y := by
  cases h with
  | cons g _ => exact g
theorem Like.rk {n m : Nd} (h : Like n m) : rk n = rk m := by
  obtain ⟨h1, h2, _, _⟩ := h
  unfold Ab.rk
  rw [h1, h2]
theorem LikeT.rk {x y : Ex} (h : LikeT x y) : rk x.top = rk y.top := by
  cases h with
  | leaf h => exact h.rk
  | un h _ => exact h.rk
  | bi h _ _ => exact h.rk
abbrev psT : TypeId := 182
abbrev exPT : TypeId := 75
abbrev psC (ts : List Tok) (d : Nat) (s : SV) : List SV := [toks ts, lit (.int .i64 d), s]
theorem tkx_len (a : Tok) : (tkx a).length = 4 := rfl
theorem toks_ne (a : Tok) (r : List Tok) : ((a :: r).map tkx).flatten ≠ [] := by
  rw [List.map_cons, List.flatten_cons]; exact fun h => by cases h
theorem toks_hd (a : Tok) (r : List Tok) : (((a :: r).map tkx).flatten.drop (0 * 4)).take 4 = tkx a := by
  rw [Nat.zero_mul, List.drop_zero, List.map_cons, List.flatten_cons]; rfl
theorem toks_tl (a : Tok) (r : List Tok) : ((a :: r).map tkx).flatten.drop (1 * 4) = (r.map tkx).flatten := by
  rw [List.map_cons, List.flatten_cons]; rfl
theorem toks_len (ts : List Tok) : (ts.map tkx).flatten.length = ts.length * 4 := by
  induction ts with
  | nil => rfl
  | cons a r ih => rw [List.map_cons, List.flatten_cons, List.length_append, ih, tkx_len, List.length_cons]; omega
theorem pnext_pu (s : SV) (hco : CO s [s]) (a : Tok) (r : List Tok) (d : Nat) (hr : r.length ≤ 1000000) : PuM Tryz.prog 51 psT (fun p => [lit (.pointer (some ⟨p, 0, none⟩))]) (psC (a :: r) d s) (fun _ : Unit => psC (a :: r) d s) (fun _ => ag (tkx a)) := by
  have hl : (a :: r).length = r.length + 1 := rfl
  refine PuM.intro Tryz.func51 rfl (by kernel_rfl) fun C b => ?_
  repeat (refine A1 ⟨?_⟩; intros)
  refine Wo (ov_idxS (cs' := tkx a) (i := 0) rfl rfl (by omega) (by omega) (toks_hd a r) (toks_ne a r)) ?_
  repeat (refine A1 ⟨?_⟩; intros)
  exact endMR () _ (end1 (RV.cellA rfl (by repeat (first | exact List.mem_cons_self | apply List.mem_cons_of_mem)) rfl rfl) (Le.refl _)) (by repeat (first | exact List.mem_cons_self | apply List.mem_cons_of_mem)) (LeL.refl _)
theorem ptake_pu (s : SV) (hco : CO s [s]) (p : Nat) (a : Tok) (r : List Tok) (d : Nat) (hr : r.length ≤ 1000000) : PuH Tryz.prog 96 [lit (.pointer (some ⟨p, 0, none⟩))] [(p, psT, psC (a :: r) d s)] (fun v H => v = ag (tkx a) ∧ H = [(p, psT, psC r d s)]) noX := by
  have hl : (a :: r).length = r.length + 1 := rfl
  refine PuH.intro Tryz.func96 rfl (by kernel_rfl) fun C hC => ?_
  repeat (refine A1 ⟨?_⟩; intros)
  refine Wo (ov_idxS (cs' := tkx a) (i := 0) rfl rfl (by omega) (by omega) (toks_hd a r) (toks_ne a r)) ?_
  repeat (refine A1 ⟨?_⟩; intros)
  refine Wo (ov_slFn (cs := ((a :: r).map tkx).flatten) (sz := 4) 1 rfl rfl rfl (toks_len _) (by omega)) ?_
  rw [toks_tl, show (a :: r).length - 1 = r.length from rfl]
  repeat (refine A1 ⟨?_⟩; intros)
  exact endHR _ _ (end1 (RV.cellA rfl (by repeat (first | exact List.mem_cons_self | apply List.mem_cons_of_mem)) rfl rfl) (Le.refl _)) (by repeat (first | exact List.Sublist.refl _ | refine List.Sublist.cons _ ?_)) ⟨rfl, rfl⟩
def Tok.ok (a : Tok) : Prop := (a.k = 0 ∧ a.t = []) ∨ a.k = 1 ∨ a.k = 3
theorem TOk.hd {a : Tok} {r : List Tok} (h : TOk (a :: r)) : a.ok := by
  cases r with
  | nil => exact .inl h
  | cons b r => exact .inr h.1
theorem tis_cons (a : Tok) (r : List Tok) (w : List UInt8) : tis (a :: r) w = (decide (a.k ≠ 0) && decide (a.t = w)) := rfl
theorem pisName_pu (s : SV) (hco : CO s [s]) (a : Tok) (r : List Tok) (d : Nat) (hr : r.length ≤ 1000000) : PuM Tryz.prog 152 psT (fun p => [lit (.pointer (some ⟨p, 0, none⟩))]) (psC (a :: r) d s) (fun _ : Unit => psC (a :: r) d s) (fun _ => lit (.bool (decide (a.k = 1 ∧ resv a.t = false)))) := by
  have c := pnext_pu s hco a r d hr
  have c2 := reserved_pu a.t
  by_cases hk : a.k = 1
  · cases hv : resv a.t with
    | true =>
      rw [hv] at c2
      rw [decide_eq_false (fun h => by cases h.2)]
      refine PuM.intro Tryz.func152 rfl (by kernel_rfl) fun C b => ?_
      repeat (refine A1 ⟨?_⟩; intros)
      refine Wo (ov_callT c rfl (by repeat (first | exact List.mem_cons_self | apply List.mem_cons_of_mem))) ?_
      repeat (refine A1 ⟨?_⟩; intros)
      refine WgE ?_
      refine Wo (ov_callT c rfl (by repeat (first | exact List.mem_cons_self | apply List.mem_cons_of_mem))) ?_
      repeat (first | (refine A1 ⟨?_⟩; intros) | (refine Wcx (c2) ?_) | (refine Wdcx (c2) ?_) | (refine Wcgx (c2) ?_) | (refine Wdcgx (c2) ?_))
      exact endMR () _ (end1 (RV.tmp rfl) (Le.refl _)) (by repeat (first | exact List.mem_cons_self | apply List.mem_cons_of_mem)) (LeL.refl _)
    | false =>
      rw [hv] at c2
      rw [decide_eq_true ⟨hk, rfl⟩]
      refine PuM.intro Tryz.func152 rfl (by kernel_rfl) fun C b => ?_
      repeat (refine A1 ⟨?_⟩; intros)
      refine Wo (ov_callT c rfl (by repeat (first | exact List.mem_cons_self | apply List.mem_cons_of_mem))) ?_
      repeat (refine A1 ⟨?_⟩; intros)
      refine WgE ?_
      refine Wo (ov_callT c rfl (by repeat (first | exact List.mem_cons_self | apply List.mem_cons_of_mem))) ?_
      repeat (first | (refine A1 ⟨?_⟩; intros) | (refine Wcx (c2) ?_) | (refine Wdcx (c2) ?_) | (refine Wcgx (c2) ?_) | (refine Wdcgx (c2) ?_))
      exact endMR () _ (end1 (RV.tmp rfl) (Le.refl _)) (by repeat (first | exact List.mem_cons_self | apply List.mem_cons_of_mem)) (LeL.refl _)
  · rw [decide_eq_false (fun h => hk h.1)]
    refine PuM.intro Tryz.func152 rfl (by kernel_rfl) fun C b => ?_
    repeat (refine A1 ⟨?_⟩; intros)
    refine Wo (ov_callT c rfl (by repeat (first | exact List.mem_cons_self | apply List.mem_cons_of_mem))) ?_
    repeat (refine A1 ⟨?_⟩; intros)
    exact endMR () _ (end1 (RV.tmp rfl) (Le.refl _)) (by repeat (first | exact List.mem_cons_self | apply List.mem_cons_of_mem)) (LeL.refl _)
theorem TOk.cons {ts : List Tok} (h : TOk ts) : ∃ a r, ts = a :: r ∧ a.ok := by
  cases ts with
  | nil => exact h.elim
  | cons a r => exact ⟨a, r, rfl, h.hd⟩
theorem TOk.next {a : Tok} {r : List Tok} {w : List UInt8} (h : TOk (a :: r)) (ht : tis (a :: r) w = true) : TOk r := by
  rw [tis_cons, Bool.and_eq_true] at ht
  exact (h.tail (of_decide_eq_true ht.1)).1
theorem flat_snocN (l : List Nd) (n : Nd) : ((l ++ [n]).map ndx).flatten = (l.map ndx).flatten ++ ndx n := by
  rw [List.map_append, List.flatten_append]; simp only [List.map_cons, List.map_nil, List.flatten_cons, List.flatten_nil, List.append_nil]
def Nd.at (n : Nd) (a : Tok) : Nd := { n with ln := a.l, cl := a.c }
theorem padd_pu (p : Nat) (ts : List Tok) (d : Nat) (ns : List Nd) (s : SV) (Hs : LH) (hown : Own exPT 19 ns.length (ns.map ndx).flatten s Hs) (hns : ns.length ≤ 1000000) (n : Nd) (a : Tok) :
    PuH Tryz.prog 252 [lit (.pointer (some ⟨p, 0, none⟩)), ag (ndx n), ag (tkx a)] ((p, psT, psC ts d s) :: Hs)
      (fun v H => v = lit (.int .i64 ns.length) ∧ ∃ s' Hs', Own exPT 19 (ns ++ [n.at a]).length ((ns ++ [n.at a]).map ndx).flatten s' Hs' ∧ H = (p, psT, psC ts d s') :: Hs') noX := by
  have hco := hown.co
  refine PuH.intro Tryz.func252 rfl (by kernel_rfl) fun C hC => ?_
  repeat (first | (refine AS ⟨?_⟩; intros) | (refine O1 ⟨?_⟩; intros))
  rename_i b4 b5
  refine WP.perm (List.Perm.swap _ _ _) ?_
  refine WdM [5, 7] ((b5, tkT, tkx a) :: (p, psT, psC ts d s) :: Hs) (fun k => [(b4, exPT, ndx (if k = 0 then n else if k = 1 then { n with ln := a.l } else n.at a))]) ?_
  refine MkD 5 ?_
  repeat (refine A1 ⟨?_⟩; intros)
  refine mkD0 ?_
  refine MkR (sv := top) (TS.store (sv := lit (.int .i64 a.l)) (ds := [lit (.int .i64 a.l)]) rfl rfl rfl rfl (HUpd.here _) rfl rfl) ?_
  refine MkD 1 ?_
  repeat (refine A1 ⟨?_⟩; intros)
  refine mkD0 ?_
  refine MkR (sv := top) (TS.store (sv := lit (.int .i64 a.c)) (ds := [lit (.int .i64 a.c)]) rfl rfl rfl rfl (HUpd.here _) rfl rfl) ?_
  refine MkN ?_
  simp only [List.cons_append, List.nil_append]
  rw [show (if [5, 7].length = 0 then n else if [5, 7].length = 1 then { n with ln := (a.l : Int) } else n.at a) = n.at a from rfl]
  generalize n.at a = na at *
  repeat (first | (refine AS ⟨?_⟩; intros) | (refine O1 ⟨?_⟩; intros))
  refine WdL 7 1 ?_
  repeat (refine A1 ⟨?_⟩; intros)
  refine dL1 (fun b19 => ?_)
  refine Gown hown (by omega) (by (repeat (first | exact LOk.nil | refine Lsk ?_ | refine Lcv ?_))) (fun s' H1 hown' => ?_) (Tk.skip _ (Tk.skip _ (Tk.skip _ (Tk.skip _ (Tk.same _))))) List.mem_cons_self
  refine Gn (by (repeat (first | exact LOk.nil | refine Lsk ?_ | refine Lcv ?_))) ?_
  have hown'' : Own exPT 19 (ns ++ [na]).length ((ns ++ [na]).map ndx).flatten s' H1 := by
    rw [flat_snocN, List.length_append, List.length_singleton]; exact hown'
  have hco' := hown''.co
  have hlen : (ns ++ [na]).length = ns.length + 1 := by simp
  simp only [List.cons_append, List.nil_append]
  repeat (refine A1 ⟨?_⟩; intros)
  refine Ss ?_
  refine Ws (sv := s') ?_
  repeat (refine A1 ⟨?_⟩; intros)
  refine Wo (ov_lenOwn hown'' rfl) ?_
  repeat (refine A1 ⟨?_⟩; intros)
  exact endHR _ _ (end1 (RV.tmp (s := lit (.int .i64 (((ns ++ [na]).length : Nat) - 1))) rfl) (Le.refl _)) (by repeat (first | exact List.Sublist.refl _ | refine List.Sublist.cons _ ?_)) ⟨by rw [List.length_append, List.length_singleton, show ((ns.length + 1 : Nat) : Int) - 1 = (ns.length : Int) by omega], s', H1, hown'', rfl⟩
abbrev ptrP (p : Nat) : SV := lit (.pointer (some ⟨p, 0, none⟩))
def Ps (p : Nat) (ts : List Tok) (d : Nat) (ns : List Nd) (H : LH) : Prop := ∃ s Hs, Own exPT 19 ns.length (ns.map ndx).flatten s Hs ∧ H = (p, psT, psC ts d s) :: Hs
abbrev bxT : TypeId := 117
def ndB0 (op x y : Int) : Nd := ⟨6, [], zz, zz, zz, zz, op, x, y, 0, 0⟩
theorem ndB0_at (op x y : Int) (a : Tok) : (ndB0 op x y).at a = ndB op x y a := rfl
section
variable {P : Program} {C : Ctx} {n : Nat} {F : Fr} {H : LH} {ops : Array Oper} {K : Fr → LH → Prop} {rest : List Oper} {ty : TypeId} {pos : String} {aft : Array Edge}
end
def ndU0 (x : Int) : Nd := ⟨5, [], zz, zz, zz, zz, 0, x, 0, 0, 0⟩
def ndA0 (k : Int) : Nd := ⟨k, [], zz, zz, zz, zz, 0, 0, 0, 0, 0⟩
def ndN0 (t : List UInt8) : Nd := ⟨1, t, zz, zz, zz, zz, 0, 0, 0, 0, 0⟩
structure Er where
  k : Nat
  t : List UInt8
  l : Nat
  c : Nat
def gsk : Bool → List UInt8 → Nat → Nat → Nat × Nat × Nat
  | _, [], ln, cl => (0, ln, cl)
  | cm, b :: r, ln, cl =>
    if b.toNat = 10 then ((gsk false r (ln + 1) 1).1 + 1, (gsk false r (ln + 1) 1).2)
    else if cm = true ∨ clsN b.toNat = 2 then ((gsk true r ln (cl + 1)).1 + 1, (gsk true r ln (cl + 1)).2)
    else if clsN b.toNat = 1 then ((gsk false r ln (cl + 1)).1 + 1, (gsk false r ln (cl + 1)).2)
    else (0, ln, cl)
theorem gsk_le : ∀ (cm : Bool) (l : List UInt8) (ln cl : Nat), (gsk cm l ln cl).1 ≤ l.length
  | _, [], _, _ => Nat.le_refl _
  | cm, b :: r, ln, cl => by
    unfold gsk
    have h1 := gsk_le false r (ln + 1) 1
    have h2 := gsk_le true r ln (cl + 1)
    have h3 := gsk_le false r ln (cl + 1)
    simp only [List.length_cons]
    split
    · simp only; omega
    · split
      · simp only; omega
      · split
        · simp only; omega
        · simp
theorem gsk_run : ∀ (m : Nat) (l : List UInt8) (ln cl : Nat), m ≤ l.length → (∀ i, i < m → l.getD i 0 ≠ 10) → gsk true l ln cl = ((gsk true (l.drop m) ln (cl + m)).1 + m, (gsk true (l.drop m) ln (cl + m)).2)
  | 0, l, ln, cl, _, _ => rfl
  | m + 1, [], ln, cl, h, _ => by simp at h
  | m + 1, b :: r, ln, cl, h, hn => by
    have h0 : b.toNat ≠ 10 := fun e => hn 0 (by omega) (UInt8.toNat_inj.1 e)
    have ih := gsk_run m r ln (cl + 1) (by simpa using h) fun i hi => by simpa using hn (i + 1) (by omega)
    rw [show gsk true (b :: r) ln cl = ((gsk true r ln (cl + 1)).1 + 1, (gsk true r ln (cl + 1)).2) from by rw [gsk, if_neg h0, if_pos (.inl rfl)], ih, List.drop_succ_cons, show cl + 1 + m = cl + (m + 1) by omega]
    rfl
theorem gsk_cm {m : Nat} {l : List UInt8} (ln cl : Nat) (hm : m ≤ l.length) (hn : ∀ i, i < m → l.getD i 0 ≠ 10) (he : m = l.length ∨ l.getD m 0 = 10) :
    gsk true l ln cl = ((gsk false (l.drop m) ln (cl + m)).1 + m, (gsk false (l.drop m) ln (cl + m)).2) := by
  rw [gsk_run m l ln cl hm hn]
  have : gsk true (l.drop m) ln (cl + m) = gsk false (l.drop m) ln (cl + m) := by
    by_cases hl : m = l.length
    · rw [List.drop_eq_nil_of_le (by omega)]; rfl
    · have h10 := he.resolve_left hl
      rw [List.drop_eq_getElem_cons (show m < l.length by omega)]
      rw [List.getD, List.getElem?_eq_getElem (show m < l.length by omega)] at h10
      have h11 : (l[m]'(by omega)).toNat = 10 := by
        simp only [Option.getD_some] at h10
        rw [h10]; rfl
      rw [gsk, gsk, if_pos h11, if_pos h11]
  rw [this]
theorem gsk_hash {b : UInt8} {r : List UInt8} (h : clsN b.toNat = 2) (h0 : b.toNat ≠ 10) (ln cl : Nat) : gsk false (b :: r) ln cl = gsk true (b :: r) ln cl := by
  rw [gsk, gsk, if_neg h0, if_neg h0, if_pos (.inr h), if_pos (.inl rfl)]
theorem gsk_nl {b : UInt8} {r : List UInt8} (h : b.toNat = 10) (ln cl : Nat) : gsk false (b :: r) ln cl = ((gsk false r (ln + 1) 1).1 + 1, (gsk false r (ln + 1) 1).2) := by
  rw [gsk, if_pos h]
theorem gsk_sp {b : UInt8} {r : List UInt8} (h : b.toNat ≠ 10) (h1 : clsN b.toNat = 1) (ln cl : Nat) : gsk false (b :: r) ln cl = ((gsk false r ln (cl + 1)).1 + 1, (gsk false r ln (cl + 1)).2) := by
  rw [gsk, if_neg h, if_neg (by rw [h1]; simp), if_pos h1]
theorem gsk_stop {b : UInt8} {r : List UInt8} (h1 : clsN b.toNat ≠ 1) (h2 : clsN b.toNat ≠ 2) (h : b.toNat ≠ 10) (ln cl : Nat) : gsk false (b :: r) ln cl = (0, ln, cl) := by
  rw [gsk, if_neg h, if_neg (by simp [h2]), if_neg h1]
theorem gsk_head : ∀ (cm : Bool) (l : List UInt8) (ln cl : Nat) (b : UInt8) (r : List UInt8), l.drop (gsk cm l ln cl).1 = b :: r → clsN b.toNat ≠ 1 ∧ clsN b.toNat ≠ 2
  | _, [], _, _, b, r, h => by simp at h
  | cm, c :: l, ln, cl, b, r, h => by
    rw [gsk] at h
    split at h
    · exact gsk_head _ _ _ _ _ _ (by simpa using h)
    · split at h
      · exact gsk_head _ _ _ _ _ _ (by simpa using h)
      · rename_i h1 h2
        split at h
        · exact gsk_head _ _ _ _ _ _ (by simpa using h)
        · rename_i h3
          simp only [List.drop_zero] at h
          obtain ⟨rfl, _⟩ := List.cons.inj h
          exact ⟨h3, fun e => h2 (.inr e)⟩
def grun (p : Int → Bool) (l : List UInt8) : Nat := (l.takeWhile fun b => p (clsN b.toNat)).length
def isLD (c : Int) : Bool := decide (c = 3) || decide (c = 4)
def isD (c : Int) : Bool := decide (c = 4)
theorem grun_le (p : Int → Bool) : ∀ l : List UInt8, grun p l ≤ l.length
  | [] => Nat.le_refl _
  | a :: l => by
    have := grun_le p l
    unfold grun at *
    rw [List.takeWhile_cons]
    split
    · simp only [List.length_cons]; omega
    · simp
theorem grun_t {p : Int → Bool} {b : UInt8} (h : p (clsN b.toNat) = true) (r : List UInt8) : grun p (b :: r) = grun p r + 1 := by
  unfold grun; rw [List.takeWhile_cons, if_pos h]; rfl
theorem grun_f {p : Int → Bool} {b : UInt8} (h : p (clsN b.toNat) = false) (r : List UInt8) : grun p (b :: r) = 0 := by
  unfold grun; rw [List.takeWhile_cons, if_neg (by rw [h]; decide)]; rfl
def gnx (l : List UInt8) (ln cl : Nat) : Except Er (Tok × Nat) := match l.drop (gsk false l ln cl).1 with
  | [] => .ok (⟨0, [], (gsk false l ln cl).2.1, (gsk false l ln cl).2.2⟩, (gsk false l ln cl).1)
  | b :: r => if clsN b.toNat = 3 then
      (if 24 < grun isLD (b :: r) then .error ⟨2, (b :: r).take (grun isLD (b :: r)), (gsk false l ln cl).2.1, (gsk false l ln cl).2.2⟩
        else .ok (⟨1, (b :: r).take (grun isLD (b :: r)), (gsk false l ln cl).2.1, (gsk false l ln cl).2.2⟩, (gsk false l ln cl).1 + grun isLD (b :: r)))
    else if clsN b.toNat = 4 then
      (if 4096 < grun isD (b :: r) then .error ⟨2, (b :: r).take (grun isD (b :: r)), (gsk false l ln cl).2.1, (gsk false l ln cl).2.2⟩
        else .ok (⟨2, (b :: r).take (grun isD (b :: r)), (gsk false l ln cl).2.1, (gsk false l ln cl).2.2⟩, (gsk false l ln cl).1 + grun isD (b :: r)))
    else if clsN b.toNat = 5 then .ok (⟨3, [b], (gsk false l ln cl).2.1, (gsk false l ln cl).2.2⟩, (gsk false l ln cl).1 + 1)
    else .error ⟨1, [b], (gsk false l ln cl).2.1, (gsk false l ln cl).2.2⟩
def glexF : Nat → List UInt8 → Nat → Nat → Except Er (List Tok)
  | 0, _, _, _ => .error ⟨1, [], 0, 0⟩
  | f + 1, l, ln, cl => match gnx l ln cl with
    | .error e => .error e
    | .ok (t, n) => if t.k = 0 then .ok [t] else match glexF f (l.drop n) t.l (t.c + t.t.length) with
      | .error e => .error e
      | .ok ts => .ok (t :: ts)
def glex (l : List UInt8) : Except Er (List Tok) := glexF (l.length + 1) l 1 1
theorem glexF_succ (f : Nat) (l : List UInt8) (ln cl : Nat) : glexF (f + 1) l ln cl = match gnx l ln cl with
    | .error e => .error e
    | .ok (t, n) => if t.k = 0 then .ok [t] else match glexF f (l.drop n) t.l (t.c + t.t.length) with
      | .error e => .error e
      | .ok ts => .ok (t :: ts) := rfl
theorem idxB_spec (l : List UInt8) {b : Nat} (hb : b < 256) : (idxB l b = -1 ∧ ∀ i, i < l.length → l.getD i 0 ≠ UInt8.ofNat b) ∨ ∃ m : Nat, idxB l b = m ∧ m < l.length ∧ l.getD m 0 = UInt8.ofNat b ∧ ∀ i, i < m → l.getD i 0 ≠ UInt8.ofNat b := by
  have hs : (⟨l.toArray⟩ : ByteArray).size = l.length := ba_size l
  have hg : ∀ i, i < l.length → (⟨l.toArray⟩ : ByteArray)[i]! = l.getD i 0 := fun i hi => by
    have h := ba_get l i hi
    rw [getElem!_def, h]
  have hc : (b : Int).toNat.toUInt8 = UInt8.ofNat b := rfl
  unfold idxB
  cases h : (List.range (⟨l.toArray⟩ : ByteArray).size).find? fun i => (⟨l.toArray⟩ : ByteArray)[i]! == (b : Int).toNat.toUInt8 with
  | none =>
    refine .inl ⟨rfl, fun i hi e => ?_⟩
    have := List.find?_eq_none.1 h i (List.mem_range.2 (by rw [hs]; exact hi))
    rw [hg i hi, hc, e] at this
    simp at this
  | some m =>
    rw [List.find?_range_eq_some] at h
    obtain ⟨h1, h2, h3⟩ := h
    have hm : m < l.length := by rw [← hs]; exact List.mem_range.1 h2
    refine .inr ⟨m, rfl, hm, ?_, fun i hi e => ?_⟩
    · rw [hg m hm, hc] at h1
      exact beq_iff_eq.1 h1
    · have := h3 i hi
      rw [hg i (by omega), hc, e] at this
      simp at this
def dcv (l : List UInt8) : Nat := l.foldl (fun n b => n * 10 + (b.toNat - 48)) 0
def allD (l : List UInt8) : Prop := ∀ b ∈ l, 48 ≤ b.toNat ∧ b.toNat ≤ 57
theorem dcv_nil : dcv [] = 0 := rfl
theorem dcv_fold (l : List UInt8) (n : Nat) : l.foldl (fun n b => n * 10 + (b.toNat - 48)) n = n * 10 ^ l.length + dcv l := by
  unfold dcv
  induction l generalizing n with
  | nil => simp
  | cons b r ih =>
    rw [List.foldl_cons, ih, List.foldl_cons, ih (0 * 10 + (b.toNat - 48)), List.length_cons, Nat.pow_succ, Nat.add_mul, Nat.zero_mul, Nat.zero_add, Nat.mul_assoc, Nat.mul_comm 10, Nat.add_assoc]
theorem dcv_append (a b : List UInt8) : dcv (a ++ b) = dcv a * 10 ^ b.length + dcv b := by
  unfold dcv
  rw [List.foldl_append, dcv_fold]
  rfl
theorem dcv_snoc (a : List UInt8) (b : UInt8) : dcv (a ++ [b]) = dcv a * 10 + (b.toNat - 48) := by
  rw [dcv_append]
  simp [dcv]
theorem dcv_lt {l : List UInt8} (h : allD l) : dcv l < 10 ^ l.length := by
  have key : ∀ r : List UInt8, allD r.reverse → dcv r.reverse < 10 ^ r.length := by
    intro r
    induction r with
    | nil => intro _; decide
    | cons b r ih =>
      intro h
      rw [List.reverse_cons] at h ⊢
      have h1 := ih fun x hx => h x (by simp at hx ⊢; exact .inl hx)
      have h2 := h b (by simp)
      rw [dcv_snoc, List.length_cons, Nat.pow_succ]
      omega
  have := key l.reverse (by rw [List.reverse_reverse]; exact h)
  rwa [List.reverse_reverse, List.length_reverse] at this
theorem dcv_take_succ {l : List UInt8} {i : Nat} (h : i < l.length) : dcv (l.take (i + 1)) = dcv (l.take i) * 10 + ((l.getD i 0).toNat - 48) := by
  rw [List.take_add_one, List.getElem?_eq_getElem h, Option.toList_some, dcv_snoc, List.getD, List.getElem?_eq_getElem h]
  rfl
theorem allD.take {l : List UInt8} (h : allD l) (k : Nat) : allD (l.take k) := fun b hb => h b (List.mem_of_mem_take hb)
theorem allD.drop {l : List UInt8} (h : allD l) (k : Nat) : allD (l.drop k) := fun b hb => h b (List.mem_of_mem_drop hb)
theorem allD.at {l : List UInt8} (h : allD l) {i : Nat} (hi : i < l.length) : 48 ≤ (l.getD i 0).toNat ∧ (l.getD i 0).toNat ≤ 57 := by
  rw [List.getD, List.getElem?_eq_getElem hi]
  exact h _ (List.getElem_mem hi)
theorem dgs_of {e : List Nat} (hD : D e) (h : e ≠ [] → 4294967296 ^ (e.length - 1) ≤ val e) : e = dgs (val e) := by
  refine Can.eq ⟨hD, fun hl => ?_⟩
  obtain ⟨a, rfl⟩ : ∃ a, e = a ++ [0] := by
    have hne : e ≠ [] := fun h0 => by rw [h0] at hl; cases hl
    have hg : e.getLast hne = 0 := by
      rw [List.getLast?_eq_some_getLast hne] at hl
      exact Option.some.inj hl
    exact ⟨e.dropLast, by rw [← hg, List.dropLast_concat_getLast hne]⟩
  have h1 := h (by simp)
  rw [val_snoc, List.length_append, List.length_singleton, Nat.add_sub_cancel, Nat.mul_zero, Nat.add_zero] at h1
  have := val_lt hD.left
  omega
def chk (n : Nat) : Nat := if n % 9 = 0 then 9 else n % 9
theorem chk_le {n : Nat} (h : 0 < n) : 0 < chk n ∧ chk n ≤ 9 ∧ chk n ≤ n ∧ (n - chk n) % 9 = 0 := by
  unfold chk
  split <;> omega
theorem pow10_9 : (10 : Nat) ^ 9 = 1000000000 := rfl
theorem dcv_chunk {l : List UInt8} (h : allD l) (hl : l.length ≤ 9) : dcv l < 1000000000 := by
  have := dcv_lt h
  have h2 : (10 : Nat) ^ l.length ≤ 10 ^ 9 := Nat.pow_le_pow_right (by omega) hl
  rw [pow10_9] at h2
  omega
section
variable {P : Program} {C : Ctx} {n : Nat} {F : Fr} {H : LH} {ops : Array Oper} {K : Fr → LH → Prop} {rest : List Oper} {ty : TypeId} {pos : String} {aft : Array Edge}
theorem Own.blk {T : TypeId} {sz k : Nat} {cs : List SV} {s : SV} {Hs : LH} (h : Own T sz k cs s Hs) (hk : 0 < k) :
    ∃ b c, k ≤ c ∧ c ≤ maxLen ∧ s = lit (.slice (some ⟨b, 0, none⟩) k c) ∧ Hs = [(b, T, cs ++ List.replicate (c * sz - k * sz) top)] := by
  obtain ⟨_, ⟨h0, _⟩ | h⟩ := h
  · omega
  · exact h
theorem LeL.top : ∀ (l : List SV) (k : Nat), l.length = k → LeL l (List.replicate k top)
  | [], _, h => by subst h; exact trivial
  | s :: l, 0, h => by cases h
  | s :: l, k + 1, h => ⟨fun m v _ => by unfold Ab.top; trivial, LeL.top l k (by simpa using h)⟩
theorem LeL.app : ∀ {a b c d : List SV}, LeL a b → LeL c d → LeL (a ++ c) (b ++ d)
  | [], [], _, _, _, k => k
  | _ :: _, _ :: _, _, _, h, k => ⟨h.1, LeL.app h.2 k⟩
  | [], _ :: _, _, _, h, _ => h.elim
  | _ :: _, [], _, _, h, _ => h.elim
end
theorem muladd_step {e ds : List Nat} {i c d v0 : Nat} (hi : i < ds.length) (hd : ds.getD i 0 = d) (he : e.length = i) (hD : D e) (hc : c ≤ 1000000000) (hdl : d < 4294967296) (hv : val e + 4294967296 ^ i * c = v0 + 1000000000 * val (ds.take i)) :
    D (e ++ [(c + d * 1000000000) % 4294967296]) ∧ (c + d * 1000000000) / 4294967296 ≤ 1000000000 ∧ val (e ++ [(c + d * 1000000000) % 4294967296]) + 4294967296 ^ (i + 1) * ((c + d * 1000000000) / 4294967296) = v0 + 1000000000 * val (ds.take (i + 1)) := by
  refine ⟨hD.append (D.cons (Nat.mod_lt _ (by omega)) D.nil), by omega, ?_⟩
  rw [val_snoc, he, val_take_succ' ds i, hd, Nat.pow_succ, Nat.mul_assoc, Nat.add_assoc, ← Nat.mul_add]
  have e1 : (c + d * 1000000000) % 4294967296 + 4294967296 * ((c + d * 1000000000) / 4294967296) = c + d * 1000000000 := Nat.mod_add_div _ _
  rw [e1, Nat.mul_add, ← Nat.add_assoc, hv, Nat.mul_add, Nat.add_assoc]
  congr 2
  rw [Nat.mul_comm d, Nat.mul_left_comm]
theorem muladd_end {e : List Nat} {v v0 c : Nat} (he : e.length = (dgs v).length) (hD : D e) (hc : c ≤ 1000000000) (hv : val e + 4294967296 ^ (dgs v).length * c = v0 + 1000000000 * v) :
    (0 < c → e ++ [c] = dgs (v0 + 1000000000 * v)) ∧ (c = 0 → e = dgs (v0 + 1000000000 * v)) := by
  constructor
  · intro h0
    have hval : val (e ++ [c]) = v0 + 1000000000 * v := by rw [val_snoc, he]; exact hv
    rw [← hval]
    refine Can.eq ⟨hD.append (D.cons (by omega) D.nil), ?_⟩
    rw [List.getLast?_append]
    simp
    omega
  · intro h0
    rw [h0, Nat.mul_zero, Nat.add_zero] at hv
    rw [← hv]
    refine dgs_of hD fun hne => ?_
    have h1 : (dgs v).length - 1 < (dgs v).length := by
      have : 0 < e.length := List.length_pos_iff.2 hne
      omega
    have := pow_le_of_len h1
    rw [he, hv]
    omega
abbrev u32T : TypeId := 65
structure MaSt where
  i : Nat
  e : List Nat
  c : Nat
  Hs : LH
structure NpSt where
  k : Nat
  s : SV
  Hs : LH
set_option maxHeartbeats 8000000 in
theorem nparse_pu (l : List UInt8) (h : allD l) (hne : l ≠ []) (hlen : l.length ≤ 4096) : Pu Tryz.prog 310 [str l] (Ab.tup [nat (dcv l), lit .nilIface]) := by
  have hpos : 0 < l.length := List.length_pos_iff.2 hne
  refine Pu.intro Tryz.func310 rfl (by kernel_rfl) fun C => ?_
  repeat (refine A1 ⟨?_⟩; intros)
  refine WP.loopS (ι := Nat) (fun k => k ≤ l.length) (fun k => l.length - k) (fun k => fm [(0, str l), (16, lit (.int .i64 l.length)), (17, lit (.int .i64 k))]) (fun _ => []) 0 (Nat.zero_le _) (by (repeat (first | exact LeF.nil _ | refine LeF.cons (Le.refl _) ?_ | refine LeF.cons (Le.int (by omega)) ?_))) (List.nil_sublist _) ?_
  rintro k hk K hK
  by_cases hkl : k < l.length
  · have hb := h.at hkl
    have hgo := fun F' H' (hF : LeF F' (fm [(0, str l), (16, lit (.int .i64 l.length)), (17, lit (.int .i64 (k + 1 : Nat)))])) => hK F' H' (k + 1) (by omega) (by omega) hF (List.nil_sublist _)
    clear hK h
    generalize hgb : (l.getD k 0).toNat = bb at *
    repeat (refine A1 ⟨?_⟩; intros)
    exact hgo _ _ (by (repeat (first | exact LeF.nil _ | refine LeF.cons (Le.refl _) ?_ | refine LeF.cons (Le.int (by omega)) ?_)))
  · clear hK
    obtain rfl : k = l.length := by omega
    repeat (refine A1 ⟨?_⟩; intros)
    refine WP.loopS (ι := NpSt) (fun x => x.k ≤ l.length ∧ (x.k = 0 ∨ (l.length - x.k) % 9 = 0) ∧ Own u32T 1 (dgs (dcv (l.take x.k))).length (dcells (dgs (dcv (l.take x.k)))) x.s x.Hs) (fun x => l.length - x.k)
      (fun x => fm [(0, str (l.drop x.k)), (5, x.s)]) (fun x => x.Hs) ⟨0, lit (.slice none 0 0), []⟩ ⟨Nat.zero_le _, .inl rfl, by rw [List.take_zero, dcv_nil, dgs_zero]; exact Own.nil _ _⟩ (by rw [List.drop_zero]; (repeat (first | exact LeF.nil _ | refine LeF.cons (Le.refl _) ?_ | refine LeF.cons (Le.int (by omega)) ?_))) (List.nil_sublist _) ?_
    rintro ⟨k, s, Hs⟩ ⟨hk, h9, hown⟩ K hK
    simp only at hk h9 hown ⊢
    by_cases hkl : k < l.length
    · have hrl : (l.drop k).length = l.length - k := List.length_drop
      have hrd := h.drop k
      have hcut : ∀ n, dcv (l.take (k + n)) = dcv (l.take k) * 10 ^ ((l.drop k).take n).length + dcv ((l.drop k).take n) := fun n => by rw [← dcv_append, List.take_add]
      have hdd : ∀ n, l.drop (k + n) = (l.drop k).drop n := fun n => by rw [List.drop_drop]
      have hg0 := fun n F' H' s' Hs' => hK F' H' ⟨k + n, s', Hs'⟩
      simp only [hcut, hdd] at hg0
      have hv0 : k = 0 → dcv (l.take k) = 0 := fun e => by rw [e, List.take_zero]; rfl
      have hvl : (dgs (dcv (l.take k))).length ≤ 4096 := by
        have h1 := dcv_lt (h.take k)
        rw [List.length_take, Nat.min_eq_left hk] at h1
        have h2 : (10 : Nat) ^ k ≤ 4294967296 ^ k := Nat.pow_le_pow_left (by omega) k
        have := len_le (Nat.lt_of_lt_of_le h1 h2)
        omega
      clear hK h hcut hdd
      generalize l.drop k = rest at *
      generalize dcv (l.take k) = v at *
      have hco := hown.co
      obtain ⟨n0, n9, nl, nm⟩ := chk_le (n := l.length - k) (by omega)
      generalize hchk : chk (l.length - k) = n at *
      repeat (refine AS ⟨?_⟩; intros)
      (refine O1 ⟨?_⟩; intros)
      (refine O1 ⟨?_⟩; intros)
      (refine O1 ⟨?_⟩; intros)
      repeat (refine AS ⟨?_⟩; intros)
      refine WPL.viaS1 (fun F H => LeF F (fm [(0, str rest), (5, s), (6, lit (.int .i64 n))]) ∧ H = Hs) ?_ ?_
      · by_cases h0 : ((rest.length % 9 : Nat) : Int) = 0
        · have hn : n = 9 := by rw [← hchk, ← hrl]; unfold chk; rw [if_pos (by omega)]
          repeat (refine A1 ⟨?_⟩; intros)
          exact ⟨by (repeat (first | exact LeF.nil _ | refine LeF.cons (Le.refl _) ?_ | refine LeF.cons (Le.int (by omega)) ?_)), rfl⟩
        · have hn : n = rest.length % 9 := by rw [← hchk, ← hrl]; unfold chk; rw [if_neg (by omega)]
          repeat (refine A1 ⟨?_⟩; intros)
          exact ⟨by rw [hn]; (repeat (first | exact LeF.nil _ | refine LeF.cons (Le.refl _) ?_ | refine LeF.cons (Le.int (by omega)) ?_)), rfl⟩
      rintro F H ⟨hF, rfl⟩
      refine WP.le hF ?_
      clear hF
      have hcl : allD (rest.take n) := hrd.take n
      have hc9 : dcv (rest.take n) < 1000000000 := dcv_chunk hcl (by rw [List.length_take]; omega)
      repeat (refine A1 ⟨?_⟩; intros)
      refine WP.loopS (ι := Nat) (fun i => i ≤ n) (fun i => n - i) (fun i => fm [(0, str rest), (5, s), (6, lit (.int .i64 n)), (7, lit (.int .u64 (dcv (rest.take i) : Nat))), (46, lit (.int .i64 n)), (47, lit (.int .i64 i))]) (fun _ => H) 0 (Nat.zero_le _) (by rw [List.take_zero, dcv_nil]; (repeat (first | exact LeF.nil _ | refine LeF.cons (Le.refl _) ?_ | refine LeF.cons (Le.int (by omega)) ?_))) (List.Sublist.refl _) ?_
      rintro i hi K2 hK2
      by_cases hin : i < n
      · have hb := hrd.at (i := i) (by omega)
        have hc8 : dcv (rest.take i) < 1000000000 := dcv_chunk (hrd.take i) (by rw [List.length_take]; omega)
        have hst := dcv_take_succ (l := rest) (i := i) (by omega)
        have hgo := fun F' H' (hF : LeF F' (fm [(0, str rest), (5, s), (6, lit (.int .i64 n)), (7, lit (.int .u64 (dcv (rest.take (i + 1)) : Nat))), (46, lit (.int .i64 n)), (47, lit (.int .i64 (i + 1 : Nat)))])) => hK2 F' H' (i + 1) (by omega) (by omega) hF
        rw [hst] at hgo
        clear hK2 hst hg0 hown hrd hcl hc9
        generalize dcv (rest.take i) = cc at *
        repeat (refine A1 ⟨?_⟩; intros)
        exact hgo _ _ (by (repeat (first | exact LeF.nil _ | refine LeF.cons (Le.refl _) ?_ | refine LeF.cons (Le.int (by omega)) ?_))) (List.Sublist.refl _)
      · obtain rfl : i = n := by omega
        clear hK2
        replace hg0 := hg0 i
        have hti : (rest.take i).length = i := by rw [List.length_take]; omega
        rw [hti] at hg0
        have hv' : v * 10 ^ i + dcv (rest.take i) = dcv (rest.take i) + 1000000000 * v := by
          rcases h9 with h0 | h0
          · rw [hv0 h0]; omega
          · have : i = 9 := by rw [← hchk]; unfold chk; rw [if_pos h0]
            rw [this, pow10_9]; omega
        rw [hv'] at hg0
        repeat (refine A1 ⟨?_⟩; intros)
        refine Wo (ov_ssl (i := i) (j := rest.length) rfl (fun y hy => by cases hy; exact ⟨_, _, rfl, rfl⟩) (fun h => by cases h) (fun _ h => by cases h) (fun _ => rfl) (by omega) (Nat.le_refl _)) ?_
        rw [List.take_length]
        clear hv' hcl hrd hti
        generalize rest.drop i = rest2 at *
        generalize dcv (rest.take i) = v0 at *
        have hDv := D_dgs v
        have hvv := val_dgs v
        repeat (refine A1 ⟨?_⟩; intros)
        refine Wo (ov_lenOwn hown rfl) ?_
        repeat (refine A1 ⟨?_⟩; intros)
        refine WP.loopS (ι := MaSt) (fun x => x.i ≤ (dgs v).length ∧ x.e.length = x.i ∧ D x.e ∧ x.c ≤ 1000000000 ∧ val x.e + 4294967296 ^ x.i * x.c = v0 + 1000000000 * val ((dgs v).take x.i) ∧ Own u32T 1 (dgs v).length (dcells (x.e ++ (dgs v).drop x.i)) s x.Hs) (fun x => (dgs v).length - x.i)
          (fun x => fm [(0, str rest2), (5, s), (7, lit (.int .u64 x.c)), (62, s), (63, lit (.int .i64 (dgs v).length)), (64, lit (.int .i64 x.i))]) (fun x => x.Hs) ⟨0, [], v0, H⟩
          ⟨Nat.zero_le _, rfl, D.nil, by simp only; omega, by simp only [List.take_zero, val_nil]; omega, by simp only [List.drop_zero, List.nil_append]; exact hown⟩ (by (repeat (first | exact LeF.nil _ | refine LeF.cons (Le.refl _) ?_ | refine LeF.cons (Le.int (by omega)) ?_))) (List.Sublist.refl _) ?_
        clear hown
        rintro ⟨j, e, c, Hs⟩ ⟨hj, hej, hDe, hc, hval, hown⟩ K3 hK3
        simp only at hj hej hDe hc hval hown ⊢
        by_cases hjl : j < (dgs v).length
        · obtain ⟨b, cap, hnc, hcm, rfl, rfl⟩ := hown.blk (by omega)
          have hdj := hDv.get (k := j)
          obtain ⟨d, hd⟩ : ∃ d, (dgs v).getD j 0 = d := ⟨_, rfl⟩
          rw [hd] at hdj
          obtain ⟨g1, g2, g3⟩ := muladd_step hjl hd hej hDe hc hdj hval
          have hdrop : (dgs v).drop j = d :: (dgs v).drop (j + 1) := by
            rw [List.drop_eq_getElem_cons hjl, ← hd, List.getD, List.getElem?_eq_getElem hjl]
            rfl
          have hl2 : (dcells (e ++ (dgs v).drop j)).length = (dgs v).length := by rw [dcells_length, List.length_append, List.length_drop]; omega
          have hgt : (dcells (e ++ (dgs v).drop j) ++ List.replicate (cap * 1 - (dgs v).length * 1) top)[j]? = some (lit (.int .u32 (d : Int))) := by
            rw [List.getElem?_append_left (by omega), dcells_get _ _ (by rw [List.length_append, List.length_drop]; omega), hdrop, List.getD, List.getElem?_append_right (by omega), hej, Nat.sub_self]
            rfl
          have hset : ∀ x : Nat, spl (dcells (e ++ (dgs v).drop j) ++ List.replicate (cap * 1 - (dgs v).length * 1) top) j [lit (.int .u32 (x : Int))] = dcells ((e ++ [x]) ++ (dgs v).drop (j + 1)) ++ List.replicate (cap * 1 - (dgs v).length * 1) top := fun x => by
            show (dcells (e ++ (dgs v).drop j) ++ _).set j _ = _
            rw [List.set_append_left _ _ (by omega), dcells_set, hdrop, List.set_append_right _ _ (by omega), hej, Nat.sub_self, List.set_cons_zero, List.append_assoc]
            rfl
          have hgo := fun F' H' => hK3 F' H' ⟨j + 1, e ++ [(c + d * 1000000000) % 4294967296], (c + d * 1000000000) / 4294967296, [(b, u32T, dcells ((e ++ [(c + d * 1000000000) % 4294967296]) ++ (dgs v).drop (j + 1)) ++ List.replicate (cap * 1 - (dgs v).length * 1) top)]⟩ ⟨by simp only; omega, by simp [hej], g1, g2, g3, ⟨by rw [dcells_length]; simp [hej]; omega, .inr ⟨b, cap, hnc, hcm, rfl, rfl⟩⟩⟩ (by simp only; omega)
          have hset1 := hset ((c + d * 1000000000) % 4294967296)
          clear hK3 hset hown g1 g2 g3 hdrop hd hDv hvv hval hDe
          repeat (refine A1 ⟨?_⟩; intros)
          refine Wo (ov_loadL rfl (by repeat (first | exact List.mem_cons_self | apply List.mem_cons_of_mem)) hgt) ?_
          repeat (refine A1 ⟨?_⟩; intros)
          rw [show ((c : Int) + (d : Int) * 1000000000) % 4294967296 = (((c + d * 1000000000) % 4294967296 : Nat) : Int) by omega]
          refine WPL.store (b := b) (o := j) (sv := lit (.int .u32 (((c + d * 1000000000) % 4294967296 : Nat) : Int))) rfl rfl rfl (.here _) hset1 (Nat.ble_eq_true_of_le (by rw [List.length_append, hl2]; omega)) ?_
          repeat (refine A1 ⟨?_⟩; intros)
          exact hgo _ _ (by (repeat (first | exact LeF.nil _ | refine LeF.cons (Le.refl _) ?_ | refine LeF.cons (Le.int (by omega)) ?_))) (List.Sublist.refl _)
        · obtain rfl : j = (dgs v).length := by omega
          rw [List.take_length, hvv] at hval
          rw [List.drop_length, List.append_nil] at hown
          obtain ⟨m1, m2⟩ := muladd_end hej hDe hc hval
          clear hK3 hval hDv hvv
          rcases Nat.eq_zero_or_pos c with h0 | h0
          · have he := m2 h0
            rw [← he] at hg0
            have hgo := fun F' H' => hg0 F' H' s Hs ⟨by omega, .inr (by omega), by rw [hej]; exact hown⟩ (by omega)
            clear hg0 m1 m2 hown
            subst h0
            repeat (refine A1 ⟨?_⟩; intros)
            exact hgo _ _ (by (repeat (first | exact LeF.nil _ | refine LeF.cons (Le.refl _) ?_ | refine LeF.cons (Le.int (by omega)) ?_))) (List.Sublist.refl _)
          · have he := m1 h0
            rw [← he] at hg0
            clear m1 m2
            repeat (refine A1 ⟨?_⟩; intros)
            refine Wown hown (by omega) (fun s' H' hown' => ?_)
            have hgo := fun F' H'' => hg0 F' H'' s' H' ⟨by omega, .inr (by omega), by rw [List.length_append, hej]; unfold dcells at hown' ⊢; rw [List.map_append]; exact hown'⟩ (by omega)
            have hco' := hown'.co
            clear hg0 hown hown'
            simp only [List.cons_append, List.nil_append]
            repeat (refine A1 ⟨?_⟩; intros)
            exact hgo _ _ (by (repeat (first | exact LeF.nil _ | refine LeF.cons (Le.refl _) ?_ | refine LeF.cons (Le.int (by omega)) ?_))) (List.sublist_cons_self _ _)
    · obtain rfl : k = l.length := by omega
      rw [List.take_length] at hown
      rw [List.drop_length]
      clear hK
      have hco := hown.co
      clear h9 hk
      unfold nat
      generalize dgs (dcv l) = ds at *
      obtain ⟨hcl, ⟨h0, rfl, rfl⟩ | ⟨b, cap, hnc, hcm, rfl, rfl⟩⟩ := hown
      · have hds := List.length_eq_zero_iff.1 h0
        subst hds
        clear hcl
        repeat (refine A1 ⟨?_⟩; intros)
        refine endR (end2 (RV.tmp rfl) (RV.tmp rfl) (Le.tup2 le_nil (Le.refl _)))
      · clear hcl
        refine WP.pub (d := 5) (s' := dg ds) (HDel.here _) rfl (fun m arr h1 h2 => by
          rw [dg_nsl]
          unfold nsl
          rw [List.length_map, List.map_map]
          exact pub_ownL (cs := dcells ds) h1 h2 hnc hcm) ?_
        repeat (refine A1 ⟨?_⟩; intros)
        ((first | refine endR ?_ | refine endN ?_); exact end2 (RV.tmp rfl) (RV.tmp rfl) (Le.refl _))
theorem ov_ieqNL' {F : Fr} {H : LH} {ty T' : TypeId} {x y : Operand} {u : TypeId} {v : Value} (hx : ev F x = lit .nilIface) (hy : ev F y = lit (.iface u v)) : OpV Tryz.prog (.binOp .eql 25 x y T') ty F H (lit (.bool false)) :=
  ov_bin hx hy (fun w => run_eql_iface_nil_left w u v Tryz.underlying25) (fun w => by simp [Go.eqGuard])
theorem isNil'_pu (g : Nat) : Pu Tryz.prog 14 [lit .nilIface, lit (sent g)] (lit (.bool false)) := by
  refine Pu.intro Tryz.func14 rfl (by kernel_rfl) fun C => ?_
  repeat (refine A1 ⟨?_⟩; intros)
  refine Wo (ov_ieqNL' rfl rfl) ?_
  repeat (refine A1 ⟨?_⟩; intros)
  ((first | refine endR ?_ | refine endN ?_); exact end1 (RV.tmp rfl) (Le.refl _))
theorem getD_mem {l : List UInt8} {i : Nat} (h : i < l.length) : l.getD i 0 ∈ l := by
  rw [List.getD, List.getElem?_eq_getElem h]; exact List.getElem_mem h
theorem idxB_no {l : List UInt8} {b : Nat} (hb : b < 256) (h : ∀ x ∈ l, x ≠ UInt8.ofNat b) : idxB l b = -1 := by
  rcases idxB_spec l hb with ⟨h1, _⟩ | ⟨m, _, hm, h2, _⟩
  · exact h1
  · exact absurd h2 (h _ (getD_mem hm))
theorem idxB_cut {l r : List UInt8} {b : Nat} (hb : b < 256) (h : ∀ x ∈ l, x ≠ UInt8.ofNat b) : idxB (l ++ UInt8.ofNat b :: r) b = l.length := by
  have hat : (l ++ UInt8.ofNat b :: r).getD l.length 0 = UInt8.ofNat b := by simp [List.getD]
  rcases idxB_spec (l ++ UInt8.ofNat b :: r) hb with ⟨_, h1⟩ | ⟨m, h0, hm, h2, h3⟩
  · exact absurd hat (h1 l.length (by simp))
  · rw [h0]
    rcases Nat.lt_trichotomy m l.length with hl | hl | hl
    · have : (l ++ UInt8.ofNat b :: r).getD m 0 = l.getD m 0 := by simp [List.getD, List.getElem?_append_left hl]
      rw [this] at h2
      exact absurd h2 (h _ (getD_mem hl))
    · rw [hl]
    · exact absurd hat (h3 _ hl)
theorem sindex_pu (l : List UInt8) {b : Nat} (hb : b < 256) (hne : l ≠ [UInt8.ofNat b]) (hl : l.length ≤ 1000000) : Pu Tryz.prog 53 [str l, str [UInt8.ofNat b]] (lit (.int .i64 (idxB l b))) := by
  have c := sliteIdx_pu l hb
  have h1 : ([UInt8.ofNat b] : List UInt8).length = 1 := rfl
  have hne' : ¬ [UInt8.ofNat b] = l := fun e => hne e.symm
  refine Pu.intro Tryz.func53 rfl (by kernel_rfl) fun C => ?_
  repeat (refine A1 ⟨?_⟩; intros)
  refine Wo (ov_sidx (i := 0) rfl rfl (by omega)) ?_
  rw [show (([UInt8.ofNat b].getD 0 0).toNat : Int) = (b : Int) from by
    show ((UInt8.ofNat b).toNat : Int) = b
    rw [UInt8.toNat_ofNat', Nat.mod_eq_of_lt hb]]
  repeat (first | (refine A1 ⟨?_⟩; intros) | (refine Wcx (c) ?_) | (refine Wdcx (c) ?_) | (refine Wcgx (c) ?_) | (refine Wdcgx (c) ?_))
  ((first | refine endR ?_ | refine endN ?_); exact end1 (RV.tmp rfl) (Le.refl _))
theorem cut_t (l r : List UInt8) {b : Nat} (hb : b < 256) (h : ∀ x ∈ l, x ≠ UInt8.ofNat b) (h0 : l ≠ []) (hl : l.length + r.length ≤ 100000) : Pu Tryz.prog 354 [str (l ++ UInt8.ofNat b :: r), str [UInt8.ofNat b]] (Ab.tup [str l, str r, lit (.bool true)]) := by
  have c := sindex_pu (l ++ UInt8.ofNat b :: r) hb (fun e => by
    have := congrArg List.length e
    have h1 := List.length_pos_iff.2 h0
    simp at this
    omega) (by simp; omega)
  rw [idxB_cut hb h] at c
  have h1 : ([UInt8.ofNat b] : List UInt8).length = 1 := rfl
  have hlen : (l ++ UInt8.ofNat b :: r).length = l.length + (r.length + 1) := by simp
  have e1 : ((l ++ UInt8.ofNat b :: r).take l.length).drop 0 = l := by simp
  have e2 : (l ++ UInt8.ofNat b :: r).drop (l.length + 1) = r := by simp
  generalize l ++ UInt8.ofNat b :: r = w at *
  refine Pu.intro Tryz.func354 rfl (by kernel_rfl) fun C => ?_
  repeat (first | (refine A1 ⟨?_⟩; intros) | (refine Wcx (c) ?_) | (refine Wdcx (c) ?_) | (refine Wcgx (c) ?_) | (refine Wdcgx (c) ?_))
  refine Wdo (ov_ssl (i := 0) (j := l.length) rfl (fun _ h => by cases h) (fun _ => rfl) (fun y h => ⟨_, _, by cases h; exact rfl, rfl⟩) (fun h => by cases h) (by omega) (by omega)) ?_
  rw [e1]
  repeat (refine A1 ⟨?_⟩; intros)
  refine Wdo (ov_ssl (i := l.length + 1) (j := w.length) rfl (fun y h => ⟨_, _, by cases h; exact rfl, by omega⟩) (fun h => by cases h) (fun _ h => by cases h) (fun _ => rfl) (by omega) (Nat.le_refl _)) ?_
  rw [List.take_length, e2]
  repeat (refine A1 ⟨?_⟩; intros)
  ((first | refine endR ?_ | refine endN ?_); exact end3 (RV.tmp rfl) (RV.tmp rfl) (RV.tmp rfl) (Le.refl _))
theorem cut_f (l : List UInt8) {b : Nat} (hb : b < 256) (h : ∀ x ∈ l, x ≠ UInt8.ofNat b) (hl : l.length ≤ 100000) : Pu Tryz.prog 354 [str l, str [UInt8.ofNat b]] (Ab.tup [str l, str [], lit (.bool false)]) := by
  have c := sindex_pu l hb (fun e => by rw [e] at h; exact h _ (by simp) rfl) (by omega)
  rw [idxB_no hb h] at c
  refine Pu.intro Tryz.func354 rfl (by kernel_rfl) fun C => ?_
  repeat (first | (refine A1 ⟨?_⟩; intros) | (refine Wcx (c) ?_) | (refine Wdcx (c) ?_) | (refine Wcgx (c) ?_) | (refine Wdcgx (c) ?_))
  ((first | refine endR ?_ | refine endN ?_); exact end3 (RV.tmp rfl) (RV.tmp rfl) (RV.tmp rfl) (Le.refl _))
theorem scut_t (l r : List UInt8) (h : ∀ x ∈ l, x ≠ 47) (h0 : l ≠ []) (hl : l.length + r.length ≤ 100000) : Pu Tryz.prog 308 [str (l ++ 47 :: r), str [47]] (Ab.tup [str l, str r, lit (.bool true)]) := by
  have c := cut_t l r (b := 47) (by omega) h h0 hl
  refine Pu.intro Tryz.func308 rfl (by kernel_rfl) fun C => ?_
  repeat (first | (refine A1 ⟨?_⟩; intros) | (refine Wcx (c) ?_) | (refine Wdcx (c) ?_) | (refine Wcgx (c) ?_) | (refine Wdcgx (c) ?_))
  ((first | refine endR ?_ | refine endN ?_); exact end3 (RV.tmp rfl) (RV.tmp rfl) (RV.tmp rfl) (Le.refl _))
theorem scut_f (l : List UInt8) (h : ∀ x ∈ l, x ≠ 47) (hl : l.length ≤ 100000) : Pu Tryz.prog 308 [str l, str [47]] (Ab.tup [str l, str [], lit (.bool false)]) := by
  have c := cut_f l (b := 47) (by omega) h hl
  refine Pu.intro Tryz.func308 rfl (by kernel_rfl) fun C => ?_
  repeat (first | (refine A1 ⟨?_⟩; intros) | (refine Wcx (c) ?_) | (refine Wdcx (c) ?_) | (refine Wcgx (c) ?_) | (refine Wdcgx (c) ?_))
  ((first | refine endR ?_ | refine endN ?_); exact end3 (RV.tmp rfl) (RV.tmp rfl) (RV.tmp rfl) (Le.refl _))
theorem hasP_pu (l : List UInt8) (b : UInt8) (hl : l.length ≤ 100000) : Pu Tryz.prog 384 [str l, str [b]] (lit (.bool (decide (l.take 1 = [b])))) := by
  have h1 : ([b] : List UInt8).length = 1 := rfl
  cases l with
  | nil =>
    rw [decide_eq_false (by simp)]
    refine Pu.intro Tryz.func384 rfl (by kernel_rfl) fun C => ?_
    repeat (refine A1 ⟨?_⟩; intros)
    ((first | refine endR ?_ | refine endN ?_); exact end1 (RV.tmp rfl) (Le.refl _))
  | cons c r =>
    have hlen : (c :: r).length = r.length + 1 := rfl
    by_cases hc : (c :: r).take 1 = [b]
    · rw [decide_eq_true hc]
      refine Pu.intro Tryz.func384 rfl (by kernel_rfl) fun C => ?_
      repeat (refine A1 ⟨?_⟩; intros)
      refine Wog (ov_ssl (i := 0) (j := 1) rfl (fun _ h => by cases h) (fun _ => rfl) (fun y h => ⟨_, _, by cases h; exact rfl, rfl⟩) (fun h => by cases h) (by omega) (by omega)) ?_
      rw [List.drop_zero]
      repeat (refine A1 ⟨?_⟩; intros)
      ((first | refine endR ?_ | refine endN ?_); exact end1 (RV.tmp rfl) (Le.refl _))
    · rw [decide_eq_false hc]
      refine Pu.intro Tryz.func384 rfl (by kernel_rfl) fun C => ?_
      repeat (refine A1 ⟨?_⟩; intros)
      refine Wog (ov_ssl (i := 0) (j := 1) rfl (fun _ h => by cases h) (fun _ => rfl) (fun y h => ⟨_, _, by cases h; exact rfl, rfl⟩) (fun h => by cases h) (by omega) (by omega)) ?_
      rw [List.drop_zero]
      repeat (refine A1 ⟨?_⟩; intros)
      ((first | refine endR ?_ | refine endN ?_); exact end1 (RV.tmp rfl) (Le.refl _))
theorem cutP_pu (l : List UInt8) (b : UInt8) (hl : l.length ≤ 100000) : Pu Tryz.prog 355 [str l, str [b]] (if l.take 1 = [b] then Ab.tup [str (l.drop 1), lit (.bool true)] else Ab.tup [str l, lit (.bool false)]) := by
  have c := hasP_pu l b hl
  have h1 : ([b] : List UInt8).length = 1 := rfl
  by_cases hc : l.take 1 = [b]
  · rw [decide_eq_true hc] at c
    rw [if_pos hc]
    have hlen : 1 ≤ l.length := by
      cases l with
      | nil => simp at hc
      | cons _ _ => simp
    have d : Pu Tryz.prog 378 [str l, str [b]] (Ab.tup [str (l.drop 1), lit (.bool true)]) := by
      refine Pu.intro Tryz.func378 rfl (by kernel_rfl) fun C => ?_
      repeat (first | (refine A1 ⟨?_⟩; intros) | (refine Wcx (c) ?_) | (refine Wdcx (c) ?_) | (refine Wcgx (c) ?_) | (refine Wdcgx (c) ?_))
      refine Wo (ov_ssl (i := 1) (j := l.length) rfl (fun y h => ⟨_, _, by cases h; exact rfl, rfl⟩) (fun h => by cases h) (fun _ h => by cases h) (fun _ => rfl) (by omega) (Nat.le_refl _)) ?_
      rw [List.take_length]
      repeat (refine A1 ⟨?_⟩; intros)
      ((first | refine endR ?_ | refine endN ?_); exact end2 (RV.tmp rfl) (RV.tmp rfl) (Le.refl _))
    refine Pu.intro Tryz.func355 rfl (by kernel_rfl) fun C => ?_
    repeat (first | (refine A1 ⟨?_⟩; intros) | (refine Wcx (d) ?_) | (refine Wdcx (d) ?_) | (refine Wcgx (d) ?_) | (refine Wdcgx (d) ?_))
    ((first | refine endR ?_ | refine endN ?_); exact end2 (RV.tmp rfl) (RV.tmp rfl) (Le.refl _))
  · rw [decide_eq_false hc] at c
    rw [if_neg hc]
    have d : Pu Tryz.prog 378 [str l, str [b]] (Ab.tup [str l, lit (.bool false)]) := by
      refine Pu.intro Tryz.func378 rfl (by kernel_rfl) fun C => ?_
      repeat (first | (refine A1 ⟨?_⟩; intros) | (refine Wcx (c) ?_) | (refine Wdcx (c) ?_) | (refine Wcgx (c) ?_) | (refine Wdcgx (c) ?_))
      ((first | refine endR ?_ | refine endN ?_); exact end2 (RV.tmp rfl) (RV.tmp rfl) (Le.refl _))
    refine Pu.intro Tryz.func355 rfl (by kernel_rfl) fun C => ?_
    repeat (first | (refine A1 ⟨?_⟩; intros) | (refine Wcx (d) ?_) | (refine Wdcx (d) ?_) | (refine Wcgx (d) ?_) | (refine Wdcgx (d) ?_))
    ((first | refine endR ?_ | refine endN ?_); exact end2 (RV.tmp rfl) (RV.tmp rfl) (Le.refl _))
section
variable {P : Program} {C : Ctx} {n : Nat} {F : Fr} {H : LH} {ops : Array Oper} {K : Fr → LH → Prop}
theorem St.pub2 {b : Nat} {T : TypeId} {cs : List SV} {H' : LH} {a : Act} {w : World} {d d2 : Nat} {v : Value} {s' : SV} (hs : St C n F H a w) (hdel : HDel b T cs H H') (hv : F d = lit v) (hv2 : F d2 = lit v)
    (hsv : ∀ (m : Mem) (arr : Array Value), m b = some (.cells arr T (0, 0)) → All2 m cs arr.toList → s'.p m v) : St C n (upd (upd F d s') d2 s') H' a w := by
  obtain ⟨hdef, hn, m, h1, h2, h3, h4, h5⟩ := hs
  obtain ⟨hmb, arr, hb, hall⟩ := h2.2 _ hdel.mem
  have hle : m.le (fun x => if x = b then w.heap[b]? else m x) := fun x o hx => by
    show (if x = b then w.heap[b]? else m x) = some o
    rw [if_neg (fun e => by rw [e] at hx; rw [hmb] at hx; cases hx)]; exact hx
  have hfr := h5 d
  rw [hv, lit_p] at hfr
  have hfr2 := h5 d2
  rw [hv2, lit_p] at hfr2
  have hk := hdel.keys h2.1
  have hnew := hsv (fun x => if x = b then w.heap[b]? else m x) arr (by show (if b = b then w.heap[b]? else m b) = _; rw [if_pos rfl]; exact hb) (hall.mono hle)
  refine ⟨hdef, hn, (fun x => if x = b then w.heap[b]? else m x), ⟨fun x o hx => ?_, Mem.le_trans h1.base hle⟩, ⟨hk.1, fun e he => ?_⟩, ⟨Mem.le_trans h3.le hle, fun x hx hnx => ?_, h3.os, h3.tape, h3.output, h3.size, h3.block⟩,
    fun e he => h4 e (hdel.sub e he), fun t => ?_⟩
  · by_cases hxb : x = b
    · subst hxb; simp only [if_true] at hx; exact hx
    · simp only [if_neg hxb] at hx; exact h1 x o hx
  · obtain ⟨q1, arr', q2, q3⟩ := h2.2 e (hdel.sub e he)
    exact ⟨by show (if e.1 = b then w.heap[b]? else m e.1) = none; rw [if_neg (hk.2 e he)]; exact q1, arr', q2, q3.mono hle⟩
  · have hxb : x ≠ b := fun e => by
      subst e
      rcases h4 _ hdel.mem with h | h
      · exact hnx h
      · exact absurd hx (Nat.not_lt.2 h)
    show (if x = b then w.heap[b]? else m x) = _
    rw [if_neg hxb]; exact h3.old x hx hnx
  · unfold upd
    cases hbq : Nat.beq t d2 with
    | true =>
      have := Nat.eq_of_beq_eq_true hbq; subst this
      rw [hfr2]
      exact hnew
    | false =>
      cases hbq1 : Nat.beq t d with
      | true =>
        have := Nat.eq_of_beq_eq_true hbq1; subst this
        rw [hfr]
        exact hnew
      | false => exact (F t).mono hle (h5 t)
theorem WPL.pub2 {l : List Oper} {b : Nat} {T : TypeId} {cs : List SV} {H' : LH} (d d2 : Nat) {v : Value} {s' : SV} (hdel : HDel b T cs H H') (hv : F d = lit v) (hv2 : F d2 = lit v)
    (hsv : ∀ (m : Mem) (arr : Array Value), m b = some (.cells arr T (0, 0)) → All2 m cs arr.toList → s'.p m v) (k : WPL P C n ops l K (upd (upd F d s') d2 s') H') : WPL P C n ops l K F H := by
  unfold WPL at *
  exact fun a w hs => k a w (hs.pub2 hdel hv hv2 hsv)
end
end Go.Ab
