/- Slices of digits whose capacity is known; appending to them makes a new row. -/
import Derived.Test.YthgobgompobhhaaGreatDoorNatF
namespace Go.Ab
open Go.Proofs
set_option linter.unusedSectionVars false
variable [Base]
/-- digits, in a slice of capacity c -/
@[irreducible] def dgc (ds : List Nat) (c : Nat) : SV := ⟨fun m v => ∃ a, v = .slice a ds.length c ∧ ds.length ≤ c ∧ c ≤ maxLen ∧ (ds = [] ∨ ∃ b off, a = some ⟨b, off, none⟩ ∧ cellsAt m b off (dcells ds)),
  fun h ⟨a, e, x, y, k⟩ => ⟨a, e, x, y, k.imp id fun ⟨b, off, e, k⟩ => ⟨b, off, e, k.mono h⟩⟩⟩
theorem dgc_dg (ds : List Nat) (c : Nat) : Le (dgc ds c) (dg ds) := fun m v h => by
  unfold dgc at h
  obtain ⟨a, rfl, h1, h2, h3⟩ := h
  rw [dg_sl]
  exact sl_mk h1 h2 (h3.imp (fun e => by rw [e]; rfl) id)
instance (ds : List Nat) (c : Nat) : CO (dgc ds c) [dgc ds c] := co_one fun m v h => by unfold dgc at h; obtain ⟨a, rfl, _⟩ := h; exact ⟨rfl, rfl⟩
section
variable {P : Program} {C : Ctx} {n : Nat} {F : Fr} {H : LH} {ops : Array Oper} {K : Fr → LH → Prop} {rest : List Oper} {ty : TypeId} {pos : String} {aft : Array Edge}
theorem OpV.low {op : Op} {sv s : SV} (t : Nat) (hle : Le (F t) s) (h : OpV P op ty (upd F t s) H sv) : OpV P op ty F H sv := by
  unfold OpV at *
  exact fun m w o a ho hty h1 h2 h3 => h m w o a ho hty h1 h2 fun t' ht => LeF.upd hle (LeF.refl F) t' m _ (h3 t' ht)
theorem ov_lenC {t : Nat} {T e : TypeId} [TSl P T e] {ds : List Nat} {c : Nat} (hx : F t = dgc ds c) : OpV P (.call ⟨.builtin .len, #[.tmp t], #[T]⟩) ty F H (lit (.int .i64 ds.length)) :=
  OpV.low t (hx ▸ dgc_dg ds c) (ov_lenD (x := .tmp t) upd_eq)
theorem ov_idxC {t t' : Nat} (hne : t' ≠ t) {T e : TypeId} {by_ : Nat} {z : List SV} {g : Bool} [TSl P T e] [TY P e 1 by_ z g] {ki : IntKind} {ds : List Nat} {c i : Nat}
    (hx : F t = dgc ds c) (hi : F t' = lit (.int ki i)) (h1 : i < ds.length) : OpV P (.indexAddr T (.tmp t) (.tmp t')) ty F H (pt [lit (.int .u32 (ds.getD i 0 : Nat))]) :=
  OpV.low t (hx ▸ dgc_dg ds c) (ov_idxD (x := .tmp t) (ix := .tmp t') upd_eq ((upd_ne hne).trans hi) h1)
theorem ov_toC {x y : Operand} {T e : TypeId} {by_ : Nat} {z : List SV} {g : Bool} [hT : TSl P T e] [hE : TY P e 1 by_ z g] {ds : List Nat} {ki : IntKind} {v : Int} {c : Nat} (j : Nat)
    (hx : ev F x = dgc ds c) (hy : ev F y = lit (.int ki v)) (hv : v = (j : Int)) (hj : j ≤ ds.length) : OpV P (.slice T x none (some y) none) ty F H (dgc (ds.take j) c) :=
  OpV.pure fun m w o a ho _ _ _ h => by
    have e0 := h x (by simp [Op.operands]); rw [hx] at e0
    have e1 := h y (by simp [Op.operands]); rw [hy, lit_p] at e1
    subst hv
    unfold dgc at e0
    obtain ⟨ad, e0, h1, h2, h3⟩ := e0
    have hjc : (j : Int) ≤ (c : Int) := by omega
    have hjn : ¬ c < j := by omega
    have hlen : (ds.take j).length = j := by rw [List.length_take]; omega
    refine ⟨.slice (if c = 0 then ad else ad.map (·.add 0)) j c, ?_, ?_⟩
    · simp [execOp, ho, Instr.sliceAt, Instr.slice, underlying, hT.h, e0, e1, Instr.sliceBounds, Instr.sliceBound, asIntOf, hjc, hjn, hE.run_size]
    · unfold dgc
      refine ⟨_, by rw [hlen], by omega, h2, ?_⟩
      rcases h3 with h3 | ⟨b, off, rfl, h3⟩
      · left; rw [h3, List.take_nil]
      · right
        refine ⟨b, off, by simp [add_none], ?_⟩
        have := h3.take j
        rwa [show (dcells ds).take j = dcells (ds.take j) from by simp [dcells, List.map_take]] at this
theorem WpubC {l : List Oper} {b : Nat} {T : TypeId} {ds : List Nat} {H' : LH} {k c : Nat} (d : Nat) (hv : F d = lit (.slice (some ⟨b, 0, none⟩) k c)) (hdel : HDel b T (dcells ds) H H') (hk : ds.length = k) (hc : k ≤ c) (hc' : c ≤ 1000000000)
    (h : WPL P C n ops l K (upd F d (dgc ds c)) H') : WPL P C n ops l K F H := by
  subst hk
  refine WPL.pub hdel hv (fun m arr hm ha => ?_) h
  unfold dgc
  exact ⟨_, rfl, hc, by simp only [maxLen]; omega, .inr ⟨b, 0, rfl, arr, T, (0, 0), hm, by rw [List.drop_zero, ← ha.length, List.take_length]; exact ha⟩⟩
/-- a prefix of a row of one's own is finished -/
theorem pub_dgt {b : Nat} {T : TypeId} {ds : List Nat} {k c : Nat} (h0 : k ≤ ds.length) (h1 : k ≤ c) (h2 : c ≤ maxLen) (m : Mem) (arr : Array Value) (hm : m b = some (.cells arr T (0, 0))) (ha : All2 m (dcells ds) arr.toList) :
    (dg (ds.take k)).p m (.slice (some ⟨b, 0, none⟩) k c) := by
  rw [dg_sl, show (ds.take k).length = k from by rw [List.length_take]; omega]
  refine sl_mk h1 h2 (.inr ⟨b, 0, rfl, arr, T, (0, 0), hm, ?_⟩)
  have := ha.take k
  rw [List.drop_zero, List.length_map, show (ds.take k).length = k from by rw [List.length_take]; omega]
  rwa [show (dcells ds).take k = dcells (ds.take k) from by simp [dcells, List.map_take]] at this
/-- x[:j] of a row of one's own -/
theorem ov_toL {x y : Operand} {T e : TypeId} {by_ : Nat} {z : List SV} {g : Bool} [hT : TSl P T e] [hE : TY P e 1 by_ z g] {ki : IntKind} {v : Int} {b k c : Nat} (j : Nat)
    (hx : ev F x = lit (.slice (some ⟨b, 0, none⟩) k c)) (hy : ev F y = lit (.int ki v)) (hv : v = (j : Int)) (hj : j ≤ c) : OpV P (.slice T x none (some y) none) ty F H (lit (.slice (some ⟨b, 0, none⟩) j c)) :=
  OpV.pure fun m w o a ho _ _ _ h => by
    have e0 := h x (by simp [Op.operands]); rw [hx, lit_p] at e0
    have e1 := h y (by simp [Op.operands]); rw [hy, lit_p] at e1
    subst hv
    have hjc : (j : Int) ≤ (c : Int) := by omega
    have hjn : ¬ c < j := by omega
    refine ⟨_, ?_, lit_p.2 rfl⟩
    simp [execOp, ho, Instr.sliceAt, Instr.slice, underlying, hT.h, e0, e1, Instr.sliceBounds, Instr.sliceBound, asIntOf, hjc, hjn, hE.run_size, add_none]
theorem St.pushD {a : Act} {w : World} {d : Nat} {T : TypeId} {arr : Array Value} {cs : List SV} {v : Value} (hd : d < n) (hs : St C n F H a w)
    (hcs : ∀ m, MemIn m w → HOk m w H → (∀ x, (ev F x).p m (a.eval x)) → All2 m cs arr.toList) :
    St C n (upd F d (lit v)) ((w.heap.size, T, cs) :: H) (a.put (some d) v) (w.drew.alloc (.cells arr T)) := by
  obtain ⟨hdef, hn, m, h1, h2, h3, h4, h5⟩ := hs
  have hp : ∀ x, (ev F x).p m (a.eval x) := fun x => by
    cases x with
    | tmp t => exact h5 t
    | const v => unfold ev lit; rfl
    | global g => unfold ev lit; rfl
    | func f => unfold ev lit; rfl
  have hnone : m w.heap.size = none := by
    cases hmm : m w.heap.size with
    | none => rfl
    | some o => have := h1 _ _ hmm; rw [Array.getElem?_eq_none (Nat.le_refl _)] at this; cases this
  have hsize : (w.drew.alloc (.cells arr T)).heap.size = w.heap.size + 1 := World.size_alloc ..
  have hold : ∀ b, b < w.heap.size → (w.drew.alloc (.cells arr T)).heap[b]? = w.heap[b]? := fun b hb => heap_alloc_old w.drew _ b hb
  have rel : Rel [] m w m (w.drew.alloc (.cells arr T)) := ⟨Mem.le_refl m, fun _ _ _ => rfl, rfl, rfl, rfl, by omega, fun b hb _ => hold b hb⟩
  refine ⟨hdef, by simpa [Act.put] using hn, m, ⟨fun b o hb => ?_, h1.base⟩, ⟨?_, ?_⟩, h3.trans rel (fun b hb h => by cases h), ?_, fun t => ?_⟩
  · have := h1 b o hb
    rw [hold b (Array.getElem?_eq_some_iff.1 this).1]; exact this
  · simp only [List.map_cons, List.nodup_cons]
    refine ⟨fun hm => ?_, h2.1⟩
    obtain ⟨e, he, hk⟩ := List.mem_map.1 hm
    have := (h2.2 e he).2.lt
    omega
  · intro e he
    rcases List.mem_cons.1 he with rfl | he
    · exact ⟨hnone, arr, heap_alloc_new w.drew _, hcs m h1 h2 hp⟩
    · have hh := h2.rel rel (fun _ _ => by simp)
      exact hh.2 e he
  · intro e he
    rcases List.mem_cons.1 he with rfl | he
    · exact .inr h3.size
    · exact h4 e he
  · rw [getD_put (Nat.lt_of_lt_of_le hd hn)]
    unfold upd
    by_cases ht : t = d
    · subst ht; rw [if_pos rfl, Nat.beq_refl]; exact lit_p.2 rfl
    · rw [if_neg ht]
      have : Nat.beq t d = false := by
        cases hb : Nat.beq t d with
        | false => rfl
        | true => exact absurd (Nat.eq_of_beq_eq_true hb) ht
      rw [this]
      exact h5 t
theorem All2.dcz {m : Mem} : ∀ (k : Nat), All2 m (dcells (List.replicate k 0)) (List.replicate k (Value.int .u32 0)) := fun k => by
  rw [← dcells_rep]; exact All2.replicate (lit_p.2 rfl) rfl k
/-- appending where there is no room: a row of one's own -/
theorem WappC {T e : TypeId} [hS : TSl P T e] {g : Bool} [hT : TY P e 1 4 [lit (Value.int IntKind.u32 0)] g] {d : Nat} {x y : Operand} {ds es : List Nat} {c b2 c2 : Nat} {T' : TypeId}
    (hx : ev F x = dgc ds c) (hy : ev F y = lit (.slice (some ⟨b2, 0, none⟩) es.length c2)) (hm : (b2, T', dcells es) ∈ H) (hne : ds ≠ []) (hroom : c < ds.length + es.length) (hl : ds.length + es.length ≤ 1000000000)
    (h : ∀ b k, k ≤ maxLen → ∀ j, k = ds.length + es.length + j → WPL P C n ops rest K (upd F d (lit (.slice (some ⟨b, 0, none⟩) (ds.length + es.length) k))) ((b, e, dcells (ds ++ es ++ List.replicate j 0)) :: H)) (hd : Nat.blt d n = true := by exact rfl) :
    WPL P C n ops (⟨some d, .call ⟨.builtin .append, #[x, y], #[T, T]⟩, ty, pos, aft, none⟩ :: rest) K F H := by
  unfold WPL
  intro a w hs Q hq
  refine wpList_plain rfl fun K' hK' => ?_
  obtain ⟨m0, h10, h20, hp0⟩ : ∃ m, MemIn m w ∧ HOk m w H ∧ ∀ x, (ev F x).p m (a.eval x) := by
    obtain ⟨_, _, m, h1, h2, _, _, h5⟩ := hs
    refine ⟨m, h1, h2, fun x => ?_⟩
    cases x with
    | tmp t => exact h5 t
    | const v => unfold ev lit; rfl
    | global g => unfold ev lit; rfl
    | func f => unfold ev lit; rfl
  have e0 := hp0 x; rw [hx] at e0
  have e1 := hp0 y; rw [hy, lit_p] at e1
  unfold dgc at e0
  obtain ⟨ad, e0, hc1, hc2, hca⟩ := e0
  obtain ⟨b1, off, rfl, arr1, T1, fz1, hb1, hall1⟩ := hca.resolve_left hne
  obtain ⟨_, arr2, hb2, hall2⟩ := h20.2 _ hm
  obtain ⟨i, v, hi, hsz, hby, hz, hzl, hfl, hvs⟩ := hT.run_bytes
  simp only [dcells_length] at hall1
  have hlen1 := hall1.length
  have hlen2 := hall2.length
  simp only [dcells_length, Array.length_toList] at hlen1 hlen2
  have hw1 := h10 _ _ hb1
  have hxs : ∀ j u, ((arr1.toList.drop off).take ds.length)[j]? = some u → w.cell? ((⟨b1, off, none⟩ : Addr).add j) = some u := fun j u hj => by
    rw [add_none, cell_of w b1 _ arr1 _ _ hw1]
    rw [List.getElem?_take] at hj
    split at hj
    · rw [List.getElem?_drop] at hj; simpa using hj
    · cases hj
  have hys : ∀ j u, arr2.toList[j]? = some u → w.cell? ((⟨b2, 0, none⟩ : Addr).add j) = some u := fun j u hj => by
    rw [add_none, cell_of w b2 _ arr2 _ _ hb2]; simpa using hj
  have hrun := run_append_grow (P := P) w T ty e i v hS.h hi hz ⟨b1, off, none⟩ ds.length c ((arr1.toList.drop off).take ds.length) (by rw [hlen1, hsz, Nat.mul_one]) hxs
    ⟨b2, 0, none⟩ es.length c2 arr2.toList (by rw [Array.length_toList, hlen2, hsz, Nat.mul_one]) hys (by omega) (by omega) (growslice_fits (by omega) (by rw [hby]; omega))
  have hexec : execOp a.eval (⟨some d, .call ⟨.builtin .append, #[x, y], #[T, T]⟩, ty, pos, aft, none⟩ : Oper) = (do let v ← Builtin.append_ #[T, T] ty #[a.eval x, a.eval y]; pure (.value v)) := by
    simp [execOp, resolve, invoke, builtin]
  unfold Oper.wp
  rw [hexec, e0, e1]
  simp only [Sem.run_bind, hrun, Result.andThen_ok, Sem.run_pure]
  have hge := grownCap_ge w (ds.length + es.length) c e
  have hle := grownCap_le_maxLen w (ds.length + es.length) c e (by simp only [maxLen]; omega)
  have h := h w.heap.size _ hle (grownCap w (ds.length + es.length) c e - (ds.length + es.length)) (by omega)
  unfold WPL at h
  refine hK' _ _ (h _ _ (St.pushD (Nat.blt_eq.mp hd) hs fun m h1 h2 hp => ?_) Q hq)
  have e0' := hp x; rw [hx] at e0'
  unfold dgc at e0'
  obtain ⟨ad', e0', _, _, hca'⟩ := e0'
  rw [e0] at e0'
  simp only [Value.slice.injEq] at e0'
  obtain ⟨b1', off', hbe, arr1', T1', fz1', hb1', hall1'⟩ := hca'.resolve_left hne
  rw [← e0'.1] at hbe
  simp only [Option.some.injEq, Addr.mk.injEq] at hbe
  obtain ⟨rfl, rfl, _⟩ := hbe
  have hw1' := h1 _ _ hb1'
  rw [hw1] at hw1'
  simp only [Option.some.injEq, Obj.cells.injEq] at hw1'
  obtain ⟨rfl, _, _⟩ := hw1'
  obtain ⟨_, arr2', hb2', hall2'⟩ := h2.2 _ hm
  rw [hb2] at hb2'
  simp only [Option.some.injEq, Obj.cells.injEq] at hb2'
  obtain ⟨rfl, _⟩ := hb2'
  rw [show dcells (ds ++ es ++ List.replicate (grownCap w (ds.length + es.length) c e - (ds.length + es.length)) 0) = dcells ds ++ dcells es ++ dcells (List.replicate (grownCap w (ds.length + es.length) c e - (ds.length + es.length)) 0) from by simp [dcells]]
  simp only [Array.toList_append, List.toList_toArray]
  refine ((by simpa [dcells_length] using hall1' : All2 m (dcells ds) _).append hall2').append ?_
  have hv1 : v.cells.toList = [Value.int .u32 0] := by
    have h1 : v.cells.toList.length = 1 := by simpa using hvs
    match hv : v.cells.toList, h1 with
    | [u], _ =>
      rw [hv] at hzl
      simp only [List.map_cons, List.map_nil, List.cons.injEq, and_true] at hzl
      have : (lit u).p (fun _ => none) u := lit_p.2 rfl
      rw [hzl, lit_p] at this
      rw [this]
  have hzc : ∀ k, (Builtin.zeroCells v.cells k).toList = List.replicate k (Value.int .u32 0) := fun k => by
    have hs1 : v.cells.size = 1 := hvs
    have hg0 : v.cells = #[Value.int .u32 0] := by
      apply Array.ext'
      rw [hv1]
    rw [hg0]
    simp only [Builtin.zeroCells, List.size_toArray, List.length_cons, List.length_nil, Nat.zero_add, Nat.mul_one, Nat.mod_one, Array.toList_map, Array.toList_range]
    rw [List.map_const']
    simp
  rw [hzc]
  exact All2.dcz _
end
theorem trim_cap (ds : List Nat) (c : Nat) (hl : ds.length ≤ 1000000000) : Pu Tryz.prog 175 [dgc ds c] (dgc (trimL ds) c) := by
  refine Pu.intro Tryz.func175 rfl (by kernel_rfl) fun C => ?_
  repeat (refine A1 ⟨?_⟩; intros)
  refine WP.loop (ι := Nat) (fun k => k ≤ ds.length ∧ trimL (ds.take k) = trimL ds) (fun k => k) (fun k => fm [(0, dgc (ds.take k) c)]) (fun _ => []) ds.length ⟨Nat.le_refl _, by rw [List.take_length]⟩ (LeF.cons (by rw [List.take_length]; exact Le.refl _) (LeF.nil _)) rfl ?_
  rintro k ⟨hk, ht⟩ K hK
  have hlen : (ds.take k).length = k := by rw [List.length_take]; omega
  rcases k with _ | j
  · iterate 2 refine WP.seq' ?_
    refine WP.reg ?_
    (refine O1 ⟨?_⟩; intros)
    refine Wo (ov_lenC rfl) ?_
    repeat (refine A1 ⟨?_⟩; intros)
    exact endR (end1 (RV.tmp (s := dgc (List.take 0 ds) c) rfl) (Le.of_eq (by rw [← ht]; rfl)))
  · have hg : (List.take (j + 1) ds).getD j 0 = ds.getD j 0 := by simp [List.getD]
    iterate 2 refine WP.seq' ?_
    refine WP.reg ?_
    (refine O1 ⟨?_⟩; intros)
    refine Wo (ov_lenC rfl) ?_
    iterate 4 (refine O1 ⟨?_⟩; intros)
    refine Wog (ov_lenC rfl) ?_
    refine Wog (ov_sub (r := (j : Int)) rfl rfl (wi64e (by omega) (by omega) (by omega))) ?_
    refine Wog (ov_idxC (i := j) (by decide) rfl rfl (by omega)) ?_
    rw [hg]
    by_cases hd : ds.getD j 0 = 0
    · repeat (refine A1 ⟨?_⟩; intros)
      refine Wo (ov_lenC rfl) ?_
      repeat (refine A1 ⟨?_⟩; intros)
      refine Wo (ov_toC j rfl rfl (by omega) (by omega)) ?_
      rw [List.take_take, Nat.min_eq_left (by omega)]
      repeat (refine A1 ⟨?_⟩; intros)
      refine hK _ _ j ⟨by omega, ?_⟩ (by omega) (LeF.cons (Le.refl _) (LeF.nil _)) rfl
      rw [take_succ_getD ds j (by omega), hd, trimL_snoc_zero] at ht
      exact ht
    · rw [take_succ_getD ds j (by omega), trimL_snoc_ne _ _ hd, ← take_succ_getD ds j (by omega)] at ht
      repeat (refine A1 ⟨?_⟩; intros)
      exact endR (end1 (RV.tmp (s := dgc (List.take (j + 1) ds) c) rfl) (Le.of_eq (by rw [ht])))
end Go.Ab
