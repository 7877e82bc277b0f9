/- Texts laid one behind the other: Drw, NatA, NatB, NatC, NatD, NatE, NatF. -/
import Derived.Test.YtjdnfbhbdfokcaaGreatDoorB03
import Derived.Test.YtjdnfbhbdfokcaaGreatDoorTy
set_option linter.unusedSectionVars false
set_option linter.unusedVariables false
set_option linter.unusedSimpArgs false
namespace Go.Ab
open Go.Proofs
variable [Base]
def drawSeq (ops : Array Oper) (k : Nat) : Bool := (List.range ops.size).all fun i => Nat.blt i k || (List.range i).all fun j => edgeT ops i j
theorem drawSeq_spec {ops : Array Oper} {k : Nat} (h : drawSeq ops k = true) : ∀ i, i < ops.size → k ≤ i → ∀ j, j < i → edgeT ops i j = true := fun i hi hk j hj => by
  have h1 := List.all_eq_true.1 h i (List.mem_range.2 hi)
  rw [Bool.or_eq_true] at h1
  rcases h1 with h1 | h1
  · have := Nat.blt_eq.mp h1; omega
  · exact List.all_eq_true.1 h1 j (List.mem_range.2 hj)
theorem upOp {ro : Option Nat} {dd : Nat} {P : Program} {ops : Array Oper} {Q : Exit → Act → World → Prop} {i : Nat} {K : Act → World → Prop} {a : Act} {w : World} (hq : ∀ a w, ¬ Q .outgrown a w) (hd : ∀ o, ops[i]? = some o → (!isDefer o.op) = true) (h : wpOp P ops Q i K a w) : wpOpIn (fe ro) dd P ops Q i K a w := by
  unfold wpOp at h
  unfold wpOpIn
  cases ho : ops[i]? with
  | none => rw [ho] at h; exact h
  | some o =>
    rw [ho] at h
    simp only at h ⊢
    by_cases hw : Region.wanted o (yielded ops a.tmps) = true
    · rw [if_pos hw] at h ⊢
      rcases h with h | ⟨_, a0, w0, h0⟩
      · exact up1 (hd o ho) h
      · exact (hq _ _ h0).elim
    · rw [if_neg hw] at h ⊢
      exact ⟨fun _ _ => trivial, h⟩
section
variable {P : Program} {ops : Array Oper} {C : Ctx} {n : Nat} {F F' : Fr} {H : LH}
attribute [local semireducible] WP WPL thenQ blkQ Dk
set_option maxHeartbeats 4000000 in
theorem draw_anyX {ro : Option Nat} {dd : Nat} {Q' : Exit → Act → World → Prop} {k : Nat} {N0 : List NW} (hchk : drawOk ops k = true) (hseq : ∀ i, i < ops.size → k ≤ i → ∀ j, j < i → edgeT ops i j = true) (hq : ∀ a w, ¬ Q' .outgrown a w) (hdf : ∀ i o, ops[i]? = some o → i < k → (!isDefer o.op) = true) (hN : ∀ e ∈ N0, ∃ o, ops[e.idx]? = some o ∧ e.idx < k ∧ o.dst = some e.d ∧ lone ops k e.idx = true)
    (hd0 : N0.Pairwise fun a b => a.d ≠ b.d) (hi0 : N0.Pairwise fun a b => a.idx ≠ b.idx)
    (fin : ∀ nm a w, St C n (updN N0 nm F') (entN N0 nm ++ H) a w → wpListIn (fe ro) dd P ops Q' (ops.toList.drop k) a w) :
    ∀ (fuel : Nat) (listed : Array Bool) (a : Act) (w : World) (Nr E : List NW) (nm : Nat → Nat) (F : Fr), (left ops k listed).length + (ops.size - k) ≤ fuel → listed.size = ops.size → Closed ops listed →
      (∀ j, k ≤ j → j < ops.size → listed.getD j true = false) → Dr P ops n H (left ops k listed) Nr F F' → (E ++ Nr).Perm N0 → (∀ e ∈ E, listed.getD e.idx true = true) → St C n (updN E nm F) (entN E nm ++ H) a w →
      wpAnyIn (fe ro) dd P .any ops Q' fuel listed a w := by
  obtain ⟨hk, hback, hpre, _⟩ := drawOk_spec hchk
  have tail_at : ∀ (fuel t : Nat) (listed : Array Bool) (a : Act) (w : World), k ≤ t → listed.size = ops.size → Closed ops listed → ops.size - t ≤ fuel → (∀ j, j < t → listed.getD j true = true) → (∀ j, t ≤ j → j < ops.size → listed.getD j true = false) →
      wpListIn (fe ro) dd P ops Q' (ops.toList.drop t) a w → wpAnyIn (fe ro) dd P .any ops Q' fuel listed a w := by
    intro fuel
    induction fuel with
    | zero =>
      intro t listed a w hkt hs hcl hfu h1 h2 h
      have ht : ops.size ≤ t := by omega
      refine ⟨?_, ?_⟩
      · cases hr : Region.ready .any ops listed with
        | nil => rfl
        | cons x xs =>
          have hx : x ∈ Region.ready .any ops listed := by rw [hr]; simp
          obtain ⟨h0, o, ho, _⟩ := mem_ready.1 hx
          have := (Array.getElem?_eq_some_iff.1 ho).1
          rw [h1 x (by omega)] at h0; cases h0
      · rw [List.drop_eq_nil_of_le (by simpa using ht)] at h; exact h
    | succ fuel ih =>
      intro t listed a w hkt hs hcl hfu h1 h2 h
      have only : ∀ i ∈ Region.ready .any ops listed, i = t ∧ t < ops.size := fun i hi => by
        obtain ⟨h0, o, ho, _⟩ := mem_ready.1 hi
        have hlt := (Array.getElem?_eq_some_iff.1 ho).1
        have hge : t ≤ i := by
          rcases Nat.lt_or_ge i t with h | h
          · rw [h1 i h] at h0; cases h0
          · exact h
        rcases Nat.lt_or_ge t i with hlt' | hle
        · have := edgeT_listed hcl hi (hseq i hlt (by omega) t hlt')
          have := listed_false hs (by omega : t < ops.size) this
          rw [h2 t (Nat.le_refl _) (by omega)] at this; cases this
        · exact ⟨by omega, by omega⟩
      refine ⟨fun hr => ?_, fun i hi => ?_⟩
      · rcases Nat.lt_or_ge t ops.size with hlt | hge
        · exfalso
          have hmem : t ∈ Region.ready .any ops listed := by
            rw [mem_ready]
            refine ⟨h2 t (Nat.le_refl _) hlt, ops[t], by simp [hlt], fun e he hb => ?_⟩
            have hlt' := back_spec (hback t hlt) (by simp [hlt] : ops[t]? = some ops[t]) e he hb
            have := h1 e.on hlt'
            have hsz : e.on < listed.size := by omega
            simp [hsz] at this ⊢; exact this
          rw [hr] at hmem; cases hmem
        · rw [List.drop_eq_nil_of_le (by simpa using hge)] at h; exact h
      · obtain ⟨rfl, hlt⟩ := only i hi
        have ho : ops[i]? = some ops[i] := by simp [hlt]
        have hd : ops.toList.drop i = ops[i] :: ops.toList.drop (i + 1) := by
          rw [List.drop_eq_getElem_cons (by simpa using hlt)]; simp
        rw [hd] at h
        have hstep : wpOpIn (fe ro) dd P ops Q' i (fun a w => wpListIn (fe ro) dd P ops Q' (ops.toList.drop (i + 1)) a w) a w := by
          unfold wpOpIn; rw [ho]; exact h
        refine wpOpIn_mono (fun a' w' h' => ih (i + 1) (listed.setIfInBounds i true) a' w' (by omega) (by simpa using hs) (hcl.step hi) (by omega) (fun j hj => ?_) (fun j hj hjs => ?_) h') hstep
        · by_cases hji : i = j
          · subst hji; simp [hs, hlt]
          · rw [getD_set_ne true hji]; exact h1 j (by omega)
        · rw [getD_set_ne true (by omega)]; exact h2 j (by omega) hjs
  have done : ∀ (fuel : Nat) (listed : Array Bool) (a : Act) (w : World) (Nr E : List NW) (nm : Nat → Nat) (F : Fr), (left ops k listed) = [] → (ops.size - k) ≤ fuel → listed.size = ops.size → Closed ops listed →
      (∀ j, k ≤ j → j < ops.size → listed.getD j true = false) → Dr P ops n H (left ops k listed) Nr F F' → (E ++ Nr).Perm N0 → St C n (updN E nm F) (entN E nm ++ H) a w →
      wpAnyIn (fe ro) dd P .any ops Q' fuel listed a w := by
    intro fuel listed a w Nr E nm F hnil hfu hs hcl hl hdr hp hst
    rw [hnil] at hdr
    cases hdr
    rw [List.append_nil] at hp
    have hpw : E.Pairwise fun a b => a.d ≠ b.d := (hp.pairwise_iff (fun h => h.symm)).2 hd0
    have hst' : St C n (updN N0 nm F') (entN N0 nm ++ H) a w := by
      rw [← updN_perm hp hpw]
      exact hst.perm ((hp.map _).append_right _)
    refine tail_at fuel k listed a w (Nat.le_refl _) hs hcl hfu (fun j hj => ?_) hl (fin nm a w hst')
    cases hb : listed.getD j true with
    | true => rfl
    | false =>
      have : (j, ops[j]) ∈ left ops k listed := mem_left.2 ⟨hj, by simp, hb⟩
      rw [hnil] at this; cases this
  intro fuel
  induction fuel with
  | zero =>
    intro listed a w Nr E nm F hfu hs hcl hl hdr hp hEl hst
    exact done 0 listed a w Nr E nm F (List.eq_nil_of_length_eq_zero (by omega)) (by omega) hs hcl hl hdr hp hst
  | succ fuel ih =>
    intro listed a w Nr E nm F hfu hs hcl hl hdr hp hEl hst
    by_cases hnil : left ops k listed = []
    · exact done (fuel + 1) listed a w Nr E nm F hnil (by rw [hnil] at hfu; simpa using hfu) hs hcl hl hdr hp hst
    have hEN : ∀ e ∈ E, e ∈ N0 := fun e he => hp.mem_iff.1 (by simp [he])
    refine ⟨fun hr => ?_, fun i hi => ?_⟩
    · exfalso
      obtain ⟨⟨i, o⟩, l', hcons⟩ := List.exists_cons_of_ne_nil hnil
      have hmem : (i, o) ∈ left ops k listed := by rw [hcons]; simp
      obtain ⟨h1, h2, h3⟩ := mem_left.1 hmem
      have hready : i ∈ Region.ready .any ops listed := by
        rw [mem_ready]
        refine ⟨h3, o, h2, fun e he hb => ?_⟩
        have hlt := back_spec (hback i (by simp only at h1; omega)) h2 e he hb
        cases hle : listed.getD e.on false with
        | true => rfl
        | false =>
          have hsz : e.on < listed.size := by simp only at h1; omega
          have h4 : listed.getD e.on true = false := by simp [hsz] at hle ⊢; exact hle
          have hm2 : (e.on, ops[e.on]'(by omega)) ∈ left ops k listed := mem_left.2 ⟨by simp only at h1 ⊢; omega, by simp, h4⟩
          have hsort := left_sorted (ops := ops) k listed
          rw [hcons] at hsort hm2
          rcases List.mem_cons.1 hm2 with h | h
          · simp only [Prod.mk.injEq] at h; omega
          · have := (List.pairwise_cons.1 hsort).1 _ h; simp at this; omega
      rw [hr] at hready; cases hready
    · obtain ⟨hun, o, ho, _⟩ := mem_ready.1 hi
      have hlt := (Array.getElem?_eq_some_iff.1 ho).1
      have others : k ≤ i → ∀ j, j < ops.size → j < i → listed.getD j true = false → False := fun hki j hj hji hun' => by
        have := listed_false hs hj (edgeT_listed hcl hi (hseq i hlt hki j hji))
        rw [hun'] at this; cases this
      rcases Nat.lt_or_ge i k with hik | hki
      · skip
        have hmem : (i, o) ∈ left ops k listed := mem_left.2 ⟨hik, ho, hun⟩
        obtain ⟨l1, l2, hl12⟩ := List.append_of_mem hmem
        have hset := left_set hs hlt hl12
        have hlen : (l1 ++ l2).length + 1 = (left ops k listed).length := by rw [hl12]; simp; omega
        have hsort := left_sorted (ops := ops) k listed
        rw [hl12] at hsort
        have hbefore : ∀ y ∈ l1, o.apart ops y.2 = true := fun y hy => by
          obtain ⟨y1, y2, y3⟩ := mem_left.1 (by rw [hl12]; simp [hy] : y ∈ left ops k listed)
          have hyi : y.1 < i := by
            rw [List.pairwise_append] at hsort
            exact hsort.2.2 y hy (i, o) (by simp)
          rcases hpre i hik y.1 hyi with h | h
          · have := listed_false hs (by omega) (edgeT_listed hcl hi h)
            rw [y3] at this; cases this
          · exact apart_at ho y2 h
        have hEi : ∀ e ∈ E, e.idx ≠ i := fun e he hei => by
          have := hEl e he
          rw [hei, hun] at this; cases this
        have apartE : ∀ e ∈ E, e.d ∉ o.looksAt ops ∧ o.dst ≠ some e.d := fun e he => by
          obtain ⟨oe, e1, e2, e3, e4⟩ := hN e (hEN e he)
          exact lone_spec e4 e1 e3 ho hik (fun h => hEi e he h.symm)
        have hEl' : ∀ e ∈ E, (listed.setIfInBounds i true).getD e.idx true = true := fun e he => by
          rw [getD_set_ne true (fun h => hEi e he h.symm)]; exact hEl e he
        rw [hl12] at hdr
        have hl' : ∀ j, k ≤ j → j < ops.size → (listed.setIfInBounds i true).getD j true = false := fun j hj hjs => by
          rw [getD_set_ne true (by omega)]; exact hl j hj hjs
        obtain ⟨d, hd⟩ := hdr.dst (i, o) (by simp)
        have hfr : ∀ t ∈ o.looksAt ops, F t = updN E nm F t := fun t ht => (updN_ne fun e he hed => (apartE e he).1 (hed ▸ ht)).symm
        have hdd : ∀ e ∈ E, e.d ≠ d := fun e he hed => (apartE e he).2 (by rw [hd, hed])
        rcases hdr.pick (x := (i, o)) hd hbefore with ⟨sv, hdn, hds, hdr'⟩ | ⟨N1, N2, e, hNr, hei, hed, hguard, hdn, hT, hdr'⟩
        · have hds' := hds.frame hfr
          obtain ⟨hdef, hn, m, h1, h2, h3, h4, h5⟩ := hst
          refine upOp hq (fun o ho => hdf i o ho hik) (hds'.wp ho hd hn h1 h2.tail h5 fun v m' w' hv hm' hH' r => ?_)
          refine ih _ _ _ Nr E nm (upd F d sv) (by rw [hset]; omega) (by simpa using hs) (hcl.step hi) hl' (by rw [hset]; exact hdr') hp hEl' ?_
          rw [updN_upd hdd]
          exact St.put (Nat.blt_eq.mp hdn) hdef hn h2 h3 h4 h5 hv hm' (h2.beside hH' r) (r.mono fun b hb => by unfold keys at *; rw [List.map_append]; exact List.mem_append_right _ hb)
        · have hw : Region.wanted o (yielded ops a.tmps) = true := by simp only [Region.wanted, (show o.guard = none from hguard)]
          refine upOp hq (fun o ho => hdf i o ho hik) ?_
          unfold wpOp
          simp only [ho, hw, if_true]
          left
          subst hNr
          simp only at hei
          have hp' : (e :: E ++ (N1 ++ N2)).Perm N0 := by
            refine List.Perm.trans ?_ hp
            exact (List.perm_middle (a := e) (l₁ := E) (l₂ := N1 ++ N2)).symm.trans ((List.perm_middle (a := e) (l₁ := N1) (l₂ := N2)).symm.append_left E)
          have hT' := hT.congr fun t ht => hfr t (looks_op ht)
          have hfacts : ∃ m : Mem, ∀ t, .tmp t ∈ o.op.operands → (updN E nm F t).p m (a.eval (.tmp t)) := by
            obtain ⟨_, _, m, _, _, _, _, h5⟩ := hst
            exact ⟨m, fun t _ => h5 t⟩
          obtain ⟨arr, hrun, hall⟩ := hT' w o a rfl hfacts
          unfold Oper.wp
          rw [hrun]
          show wpAnyIn (fe ro) dd P .any ops Q' fuel (listed.setIfInBounds i true) (a.put o.dst _) _
          rw [hd, ← hed]
          have hpush := St.push (T := e.T) (arr := arr) (v := e.val w.heap.size) (Nat.blt_eq.mp (hed ▸ hdn)) hst fun m hm => hall m fun t _ => hm (.tmp t)
          refine ih _ _ _ (N1 ++ N2) (e :: E) (fun x => if x = i then w.heap.size else nm x) F (by rw [hset]; omega) (by simpa using hs) (hcl.step hi) hl' (by rw [hset]; exact hdr') hp' (fun x hx => ?_) ?_
          · rcases List.mem_cons.1 hx with rfl | hx
            · rw [hei]; simp [hs, hlt]
            · exact hEl' x hx
          have hnm : ∀ x ∈ E, nm x.idx = (fun x => if x = i then w.heap.size else nm x) x.idx := fun x hx => by simp [hEi x hx]
          rw [show updN (e :: E) (fun x => if x = i then w.heap.size else nm x) F = upd (updN E nm F) e.d (lit (e.val w.heap.size)) from by
            simp only [updN, hei, if_true]; rw [← updN_nm hnm]]
          rw [show entN (e :: E) (fun x => if x = i then w.heap.size else nm x) = (w.heap.size, e.T, e.z) :: entN E nm from by
            have := entN_nm (N := E) (nm := nm) (nm' := fun x => if x = i then w.heap.size else nm x) hnm; unfold entN at this ⊢; rw [List.map_cons, ← this]; simp only [hei, if_true]]
          exact hpush
      · obtain ⟨⟨j, oj⟩, l', hcons⟩ := List.exists_cons_of_ne_nil hnil
        obtain ⟨h1, h2, h3⟩ := mem_left.1 (by rw [hcons]; simp : (j, oj) ∈ left ops k listed)
        simp only at h1 h2 h3
        exact (others hki j (by omega) (by omega) h3).elim
theorem drawX {ro : Option Nat} {dd : Nat} {Q' : Exit → Act → World → Prop} {id : Nat} {l : List Oper} (k : Nat) (h : Dk P l.toArray n H (preK 0 k l) (fun N F' => N = [] ∧ ∀ a w, St C n F' H a w → wpListIn (fe ro) dd P l.toArray Q' (l.drop k) a w) F) (hq : ∀ a w, ¬ Q' .outgrown a w) {a : Act} {w : World} (hs : St C n F H a w)
    (hm : P.follows .mixedOrders = true := by kernel_rfl) (hchk : drawOk l.toArray k = true := by kernel_rfl) (hseq : drawSeq l.toArray k = true := by kernel_rfl) (hdf : ((l.take k).all fun o => !isDefer o.op) = true := by exact rfl) :
    (Code.region id l.toArray true).wpIn (fe ro) dd P Q' a w := by
  obtain ⟨N, F', h1, rfl, h2⟩ := h
  rw [preK_eq] at h1
  obtain ⟨hk, hback, hpre, _⟩ := drawOk_spec hchk
  refine wpIn_region_any hm ?_
  refine draw_anyX (C := C) (n := n) (H := H) (F' := F') (N0 := []) hchk (drawSeq_spec hseq) hq (fun i o ho hi => ?_) (fun e he => by cases he) .nil .nil ?_ l.toArray.size (Array.replicate l.toArray.size false) a { w with drawn := w.drawn + 1 } [] [] (fun _ => 0) F ?_ (by simp) (fun m j hm => by by_cases hlt : m < l.length <;> simp [hlt] at hm) ?_ ?_ (by simp) (fun e he => by cases he) ?_
  · have ho' : l[i]? = some o := by simpa using ho
    exact List.all_eq_true.1 hdf o (List.mem_of_getElem? (l := l.take k) (i := i) (by rw [List.getElem?_take, if_pos hi]; exact ho'))
  · intro nm a' w' hst
    exact h2 a' w' hst
  · have : (left l.toArray k (Array.replicate l.toArray.size false)).length ≤ k := by
      unfold left
      refine Nat.le_trans (List.length_filter_le _ _) ?_
      simp; omega
    omega
  · intro j _ hj
    have hj' : j < l.length := by simpa using hj
    simp [hj']
  · have : left l.toArray k (Array.replicate l.toArray.size false) = (l.zipIdx.map fun p => (p.2, p.1)).take k := by
      unfold left
      rw [List.filter_eq_self.2]
      intro x hx
      obtain ⟨h1, h2⟩ := (mem_all (ops := l.toArray)).1 hx
      have := (Array.getElem?_eq_some_iff.1 h2).1
      have hj' : x.1 < l.length := by simpa using this
      simp [hj']
    rw [this]; exact h1
  · obtain ⟨hdef, hn, m, h1, h2, h3, h4, h5⟩ := hs
    exact ⟨hdef, hn, m, ⟨h1.at', h1.base⟩, ⟨h2.1, h2.2⟩, ⟨h3.le, h3.old, h3.os, h3.tape, h3.output, h3.size, h3.block⟩, h4, h5⟩
end
abbrev nat (n : Nat) : SV := dg (dgs n)
set_option maxHeartbeats 1000000000 in
theorem trim_pu (ds : List Nat) (hl : ds.length ≤ 1000000000) : Pu Tryz.prog 186 [dg ds] (dg (trimL ds)) := by
  refine Pu.intro Tryz.func186 rfl (by kernel_rfl) fun C => ?_
  repeat (refine A1 ⟨?_⟩; intros)
  refine WP.loop (ι := Nat) (fun k => k ≤ ds.length ∧ trimL (ds.take k) = trimL ds) (fun k => k) (fun k => fm [(0, dg (ds.take k))]) (fun _ => []) ds.length ⟨Nat.le_refl _, by rw [List.take_length]⟩ (LeF.cons (by rw [List.take_length]; exact Le.refl _) (LeF.nil _)) rfl ?_
  rintro k ⟨hk, ht⟩ K hK
  have hlen : (ds.take k).length = k := by rw [List.length_take]; omega
  rcases k with _ | j
  · repeat (refine A1 ⟨?_⟩; intros)
    exact endR (end1 (RV.tmp (s := dg (List.take 0 ds)) rfl) (Le.of_eq (by rw [← ht]; rfl)))
  · have hg : (List.take (j + 1) ds).getD j 0 = ds.getD j 0 := by simp [List.getD]
    iterate 2 refine WP.seq' ?_
    refine WP.reg ?_
    iterate 7 (refine O1 ⟨?_⟩; intros)
    refine Wog (ov_sub (r := (j : Int)) rfl rfl (wi64e (by omega) (by omega) (by omega))) ?_
    refine Wog (ov_idxD (i := j) rfl rfl (by omega)) ?_
    rw [hg]
    by_cases hd : ds.getD j 0 = 0
    · repeat (refine A1 ⟨?_⟩; intros)
      refine Wo (ov_toD j rfl rfl (by omega) (by omega)) ?_
      rw [List.take_take, Nat.min_eq_left (by omega)]
      repeat (refine A1 ⟨?_⟩; intros)
      refine hK _ _ j ⟨by omega, ?_⟩ (by omega) (LeF.cons (Le.refl _) (LeF.nil _)) rfl
      rw [take_succ_getD ds j (by omega), hd, trimL_snoc_zero] at ht
      exact ht
    · rw [take_succ_getD ds j (by omega), trimL_snoc_ne _ _ hd, ← take_succ_getD ds j (by omega)] at ht
      repeat (refine A1 ⟨?_⟩; intros)
      exact endR (end1 (RV.tmp (s := dg (List.take (j + 1) ds)) rfl) (Le.of_eq (by rw [ht])))
theorem trim_nat (ds : List Nat) (hl : ds.length ≤ 1000000000) (hD : D ds) : Pu Tryz.prog 186 [dg ds] (nat (val ds)) := by
  have := trim_pu ds hl; rwa [trimL_eq hD] at this
theorem le_nil : Le (lit (.slice none 0 0)) (dg []) := fun m v h => by
  rw [lit_p] at h; subst h; rw [dg_sl]
  exact sl_mk (by simp) (by simp [maxLen]) (.inl rfl)
theorem clone_pu (ds : List Nat) (hl : ds.length ≤ 1000000000) : Pu Tryz.prog 234 [dg ds] (dg ds) := by
  refine Pu.intro Tryz.func234 rfl (by kernel_rfl) fun C => ?_
  repeat (refine A1 ⟨?_⟩; intros)
  refine WP.exd (d := 4) rfl fun b => ?_
  cases hb : b && decide (ds = []) with
  | true =>
    have : ds = [] := by simp at hb; exact hb.2
    subst this
    repeat (refine A1 ⟨?_⟩; intros)
    exact endR (end1 (RV.tmp rfl) le_nil)
  | false =>
    repeat (refine A1 ⟨?_⟩; intros)
    ((first | refine endR ?_ | refine endN ?_); exact end1 (RV.tmp rfl) (Le.refl _))
theorem norm_nat (ds : List Nat) (hl : ds.length ≤ 1000000000) (hD : D ds) : Pu Tryz.prog 174 [dg ds] (nat (val ds)) := by
  have hl' : (dgs (val ds)).length ≤ 1000000000 := by
    have := len_le (val_lt hD); omega
  refine Pu.intro Tryz.func174 rfl (by kernel_rfl) fun C => ?_
  repeat (refine A1 ⟨?_⟩; intros)
  refine Wc (trim_nat ds hl hD) ?_
  refine Wc (clone_pu _ hl') ?_
  repeat (refine A1 ⟨?_⟩; intros)
  ((first | refine endR ?_ | refine endN ?_); exact end1 (RV.tmp rfl) (Le.refl _))
theorem fromUint_nat (u : Nat) (hu : u < 18446744073709551616) : Pu Tryz.prog 175 [lit (.int .u64 u)] (nat u) := by
  have hD : D [u % 4294967296, u / 4294967296] := D.cons (by omega) (D.cons (by omega) D.nil)
  have hv : val [u % 4294967296, u / 4294967296] = u := by simp [val]; omega
  refine Pu.intro Tryz.func175 rfl (by kernel_rfl) fun C => ?_
  repeat (refine A1 ⟨?_⟩; intros)
  refine WpubD (ds := [u % 4294967296, u / 4294967296]) 8 rfl (HDel.here _) rfl (by omega) (by omega) ?_
  refine Wc (trim_nat _ (by simp) hD) ?_
  rw [hv]
  repeat (refine A1 ⟨?_⟩; intros)
  ((first | refine endR ?_ | refine endN ?_); exact end1 (RV.tmp rfl) (Le.refl _))
theorem or0 {a : Int} (x : Nat) (ha : a = (x : Int)) (hx : x < 18446744073709551616) : IntKind.u64.wrap ((BitVec.ofInt (IntKind.bits .u64) 0 ||| BitVec.ofInt (IntKind.bits .u64) a).toNat : Int) = (x : Int) := by
  subst ha
  rw [BitVec.toNat_or]
  simp only [IntKind.bits]
  rw [ofInt_nat 64 _ (by omega), show (0 : Int) = ((0 : Nat) : Int) from rfl, ofInt_nat 64 0 (by omega), Nat.zero_or]
  exact wrapn .u64 rfl _ (by simp only [IntKind.bits]; omega)
theorem uint_or (k c d : Nat) (hk : k < 2) (hc : c < 4294967296 ^ k) (hd : d < 4294967296) :
    IntKind.u64.wrap ((BitVec.ofInt (IntKind.bits .u64) (c : Int) ||| BitVec.ofInt (IntKind.bits .u64) (IntKind.u64.wrap ((d : Int) * 2 ^ (min (32 * (k : Int)).toNat (IntKind.bits .u64))))).toNat : Int) = ((c + 4294967296 ^ k * d : Nat) : Int) := by
  match k, hk with
  | 0, _ =>
    have : c = 0 := by simpa using hc
    subst this
    refine (or0 d ?_ (by omega)).trans (by simp)
    show IntKind.u64.wrap ((d : Int) * 1) = d
    rw [Int.mul_one]; exact wu64 (by omega) (by omega)
  | 1, _ =>
    have hc' : c < 4294967296 := by simpa using hc
    refine (or64' d c rfl ?_ hd hc').trans (by simp; omega)
    exact shl32 (by omega) (by omega)
theorem uint_nat (ds : List Nat) (hl : ds.length ≤ 1000000000) (hD : D ds) : Pu Tryz.prog 173 [dg ds]
    (if val ds < 18446744073709551616 then tup [lit (.int .u64 (val ds)), lit (.bool true)] else tup [lit (.int .u64 0), lit (.bool false)]) := by
  refine Pu.intro Tryz.func173 rfl (by kernel_rfl) fun C => ?_
  repeat (refine A1 ⟨?_⟩; intros)
  refine Wc (trim_nat ds hl hD) ?_
  have hll : (dgs (val ds)).length ≤ 1000000000 := by
    have := len_le (val_lt hD); omega
  by_cases hlen : (dgs (val ds)).length ≤ 2
  · have hlt : val ds < 18446744073709551616 := by have := len_lt hlen; simpa using this
    rw [if_pos hlt]
    repeat (refine A1 ⟨?_⟩; intros)
    generalize hgen : dgs (val ds) = es at *
    have hDe : D es := hgen ▸ D_dgs _
    have hve : val es = val ds := by rw [← hgen, val_dgs]
    refine WP.loop (ι := Nat) (fun k => k ≤ es.length) (fun k => es.length - k) (fun k => fm [(4, lit (.int .u64 (val (es.take k) : Nat))), (12, dg es), (13, lit (.int .i64 es.length)), (14, lit (.int .i64 k))]) (fun _ => []) 0 (Nat.zero_le _)
      (LeF.cons (Le.refl _) (LeF.cons (Le.refl _) (LeF.cons (Le.refl _) (LeF.cons (Le.refl _) (LeF.nil _))))) rfl ?_
    intro k hk K hK
    have hg := hDe.get k
    by_cases hlt2 : k < es.length
    · repeat (refine A1 ⟨?_⟩; intros)
      have hvt := val_lt (hDe.take k)
      rw [List.length_take, Nat.min_eq_left hk] at hvt
      refine Wo (ov_or rfl rfl (uint_or k _ _ (by omega) hvt hg)) ?_
      rw [← val_take_succ es k hlt2]
      repeat (refine A1 ⟨?_⟩; intros)
      exact hK _ _ (k + 1) (by omega) (by omega) (LeF.cons (Le.refl _) (LeF.cons (Le.refl _) (LeF.cons (Le.refl _) (LeF.cons (Le.refl _) (LeF.nil _))))) rfl
    · have hke : k = es.length := by omega
      subst hke
      rw [List.take_length, hve]
      repeat (refine A1 ⟨?_⟩; intros)
      ((first | refine endR ?_ | refine endN ?_); exact end2 (RV.tmp rfl) (RV.tmp rfl) (Le.refl _))
  · have hge : ¬ val ds < 18446744073709551616 := by
      have := pow_le_of_len (n := val ds) (k := 2) (by omega); simp at this; omega
    rw [if_neg hge]
    repeat (refine A1 ⟨?_⟩; intros)
    ((first | refine endR ?_ | refine endN ?_); exact end2 (RV.tmp rfl) (RV.tmp rfl) (Le.refl _))
set_option maxHeartbeats 2000000 in
theorem len32_pu (x : Nat) (hx : x < 4294967296) : Pu Tryz.prog 274 [lit (.int .u32 x)] (lit (.int .i64 (blen x))) := by
  have fin : ∀ y, y < 256 → blen y ≤ 8 := fun y hy => blen_le.2 hy
  refine Pu.intro Tryz.func274 rfl (by kernel_rfl) fun C => ?_
  by_cases h16 : 65536 ≤ x
  · have e16 := blen_shift x 16 h16
    by_cases h8 : 256 ≤ x / 65536
    · have e8 := blen_shift (x / 65536) 8 h8
      have f := fin (x / 65536 / 256) (by omega)
      repeat (refine A1 ⟨?_⟩; intros)
      refine Wo (ov_tab 256 (x / 65536 / 256) blen rfl rfl (by omega) (by omega) (by decide +kernel)) ?_
      repeat (refine A1 ⟨?_⟩; intros)
      ((first | refine endR ?_ | refine endN ?_); refine end1 (RV.tmp rfl) (Le.int ?_))
      simp only [Nat.reducePow] at e16 e8; omega
    · have f := fin (x / 65536) (by omega)
      repeat (refine A1 ⟨?_⟩; intros)
      refine Wo (ov_tab 256 (x / 65536) blen rfl rfl (by omega) (by omega) (by decide +kernel)) ?_
      repeat (refine A1 ⟨?_⟩; intros)
      ((first | refine endR ?_ | refine endN ?_); refine end1 (RV.tmp rfl) (Le.int ?_))
      simp only [Nat.reducePow] at e16; omega
  · by_cases h8 : 256 ≤ x
    · have e8 := blen_shift x 8 h8
      have f := fin (x / 256) (by omega)
      repeat (refine A1 ⟨?_⟩; intros)
      refine Wo (ov_tab 256 (x / 256) blen rfl rfl (by omega) (by omega) (by decide +kernel)) ?_
      repeat (refine A1 ⟨?_⟩; intros)
      ((first | refine endR ?_ | refine endN ?_); refine end1 (RV.tmp rfl) (Le.int ?_))
      simp only [Nat.reducePow] at e8; omega
    · have f := fin x (by omega)
      repeat (refine A1 ⟨?_⟩; intros)
      refine Wo (ov_tab 256 x blen rfl rfl (by omega) (by omega) (by decide +kernel)) ?_
      repeat (refine A1 ⟨?_⟩; intros)
      ((first | refine endR ?_ | refine endN ?_); refine end1 (RV.tmp rfl) (Le.int ?_))
      omega
theorem lz32_pu (x : Nat) (hx : x < 4294967296) : Pu Tryz.prog 229 [lit (.int .u32 x)] (lit (.int .i64 (32 - blen x))) := by
  have f : blen x ≤ 32 := blen_le.2 hx
  refine Pu.intro Tryz.func229 rfl (by kernel_rfl) fun C => ?_
  repeat (refine A1 ⟨?_⟩; intros)
  refine Wc (len32_pu x hx) ?_
  repeat (refine A1 ⟨?_⟩; intros)
  ((first | refine endR ?_ | refine endN ?_); exact end1 (RV.tmp rfl) (Le.refl _))
theorem dgs_top {n : Nat} (h : n ≠ 0) : ∃ k, (dgs n).length = k + 1 ∧ (dgs n).getD k 0 ≠ 0 ∧ (dgs n).getD k 0 < 4294967296 ∧ val ((dgs n).take k) < 4294967296 ^ k ∧ n = val ((dgs n).take k) + 4294967296 ^ k * (dgs n).getD k 0 := by
  have hne : dgs n ≠ [] := fun e => h (dgs_nil e)
  obtain ⟨k, hk⟩ : ∃ k, (dgs n).length = k + 1 := ⟨(dgs n).length - 1, by have := List.length_pos_iff.2 hne; omega⟩
  refine ⟨k, hk, ?_, (D_dgs n).get k, ?_, ?_⟩
  · have hc := (dgs_can n).2
    rw [List.getLast?_eq_getElem?, hk] at hc
    intro h0
    apply hc
    have : k < (dgs n).length := by omega
    simp [List.getD, this] at h0 ⊢
    exact h0
  · have := val_lt ((D_dgs n).take k)
    rwa [List.length_take, Nat.min_eq_left (by omega)] at this
  · have := val_take_succ (dgs n) k (by omega)
    rw [← hk, List.take_length, val_dgs] at this
    exact this
set_option maxHeartbeats 1000000000 in
theorem bits_nat (ds : List Nat) (hl : ds.length ≤ 1000000000) (hD : D ds) : Pu Tryz.prog 169 [dg ds] (lit (.int .i64 (blen (val ds)))) := by
  have hll : (dgs (val ds)).length ≤ 1000000000 := by have := len_le (val_lt hD); omega
  refine Pu.intro Tryz.func169 rfl (by kernel_rfl) fun C => ?_
  repeat (refine A1 ⟨?_⟩; intros)
  refine Wc (trim_nat ds hl hD) ?_
  by_cases h0 : val ds = 0
  · have hn : (dgs (val ds)).length = 0 := by rw [h0, dgs_zero]; rfl
    repeat (refine A1 ⟨?_⟩; intros)
    ((first | refine endR ?_ | refine endN ?_); refine end1 (RV.tmp rfl) (Le.int ?_))
    rw [h0]; simp [blen]
  · obtain ⟨k, hk, ht, hd, hv, he⟩ := dgs_top h0
    have hb := blen_top _ _ k hv ht
    rw [← he] at hb
    have f : blen ((dgs (val ds)).getD k 0) ≤ 32 := blen_le.2 hd
    repeat (refine A1 ⟨?_⟩; intros)
    rw [show (dgs (val ds)).length - 1 = k from by omega]
    refine Wc (lz32_pu _ hd) ?_
    repeat (refine A1 ⟨?_⟩; intros)
    ((first | refine endR ?_ | refine endN ?_); refine end1 (RV.tmp rfl) (Le.int ?_))
    omega
def cmpN (a b : Nat) : Int := if a < b then -1 else if a = b then 0 else 1
theorem cmpN_lt {a b : Nat} (h : a < b) : cmpN a b = -1 := by unfold cmpN; rw [if_pos h]
theorem cmpN_gt {a b : Nat} (h : b < a) : cmpN a b = 1 := by unfold cmpN; rw [if_neg (by omega), if_neg (by omega)]
theorem cmpN_eq (a : Nat) : cmpN a a = 0 := by unfold cmpN; rw [if_neg (by omega), if_pos rfl]
theorem cmpN_bd (a b : Nat) : -1 ≤ cmpN a b ∧ cmpN a b ≤ 1 ∧ (cmpN a b < 0 ↔ a < b) := by
  unfold cmpN
  split
  · simp; omega
  · split <;> simp <;> omega
theorem val_at (ds : List Nat) (i : Nat) (h : i < ds.length) : val ds = val (ds.take i) + 4294967296 ^ i * (ds.getD i 0 + 4294967296 * val (ds.drop (i + 1))) := by
  rw [val_split ds i (by omega), drop_getD ds i h, val_cons]
theorem val_lt_at {xs ys : List Nat} (i : Nat) (ha : D xs) (hi : i < xs.length) (hj : i < ys.length) (hd : xs.drop (i + 1) = ys.drop (i + 1)) (hlt : xs.getD i 0 < ys.getD i 0) : val xs < val ys := by
  rw [val_at xs i hi, val_at ys i hj, hd]
  have h1 := val_lt (ha.take i)
  rw [List.length_take, Nat.min_eq_left (by omega)] at h1
  generalize 4294967296 ^ i = p at *
  have h2 : p * (xs.getD i 0 + 1 + 4294967296 * val (ys.drop (i + 1))) ≤ p * (ys.getD i 0 + 4294967296 * val (ys.drop (i + 1))) := Nat.mul_le_mul_left _ (by omega)
  rw [show xs.getD i 0 + 1 + 4294967296 * val (ys.drop (i + 1)) = (xs.getD i 0 + 4294967296 * val (ys.drop (i + 1))) + 1 from by omega, Nat.mul_add, Nat.mul_one] at h2
  omega
set_option maxHeartbeats 1000000000 in
theorem cmp_nat (xs ys : List Nat) (hla : xs.length ≤ 1000000000) (hlb : ys.length ≤ 1000000000) (hA : D xs) (hB : D ys) : Pu Tryz.prog 233 [dg xs, dg ys] (lit (.int .i64 (cmpN (val xs) (val ys)))) := by
  have h1 : (dgs (val xs)).length ≤ 1000000000 := by have := len_le (val_lt hA); omega
  have h2 : (dgs (val ys)).length ≤ 1000000000 := by have := len_le (val_lt hB); omega
  have hxa := val_dgs (val xs)
  have hxb := val_dgs (val ys)
  have hDa := D_dgs (val xs)
  have hDb := D_dgs (val ys)
  refine Pu.intro Tryz.func233 rfl (by kernel_rfl) fun C => ?_
  repeat (refine A1 ⟨?_⟩; intros)
  refine Wc (trim_nat xs hla hA) ?_
  repeat (refine A1 ⟨?_⟩; intros)
  refine Wc (trim_nat ys hlb hB) ?_
  generalize hav : val xs = a at *
  generalize hbv : val ys = b at *
  clear hav hbv hA hB hla hlb
  by_cases hlen : (dgs a).length = (dgs b).length
  · repeat (refine A1 ⟨?_⟩; intros)
    refine WP.loop (ι := Nat) (fun k => k ≤ (dgs a).length ∧ (dgs a).drop k = (dgs b).drop k) (fun k => k) (fun k => fm [(0, dg (dgs a)), (1, dg (dgs b)), (5, lit (.int .i64 ((k : Int) - 1)))]) (fun _ => []) (dgs a).length
      ⟨Nat.le_refl _, by rw [List.drop_length, hlen, List.drop_length]⟩ (LeF.cons (Le.refl _) (LeF.cons (Le.refl _) (LeF.cons (Le.refl _) (LeF.nil _)))) rfl ?_
    rintro k ⟨hk, hd⟩ K hK
    rcases k with _ | j
    · repeat (refine A1 ⟨?_⟩; intros)
      ((first | refine endR ?_ | refine endN ?_); refine end1 (RV.tmp rfl) (Le.int ?_))
      simp only [List.drop_zero] at hd
      rw [dgs_inj hd, cmpN_eq]
    · rw [show (((j + 1 : Nat) : Int) - 1) = (j : Int) from by omega]
      rcases Nat.lt_trichotomy ((dgs a).getD j 0) ((dgs b).getD j 0) with hlt | heq | hgt
      · have hlt' := val_lt_at j hDa (by omega) (by omega) hd hlt
        rw [hxa, hxb] at hlt'
        repeat (refine A1 ⟨?_⟩; intros)
        ((first | refine endR ?_ | refine endN ?_); refine end1 (RV.tmp rfl) (Le.int ?_))
        rw [cmpN_lt hlt']
      · repeat (refine A1 ⟨?_⟩; intros)
        refine hK _ _ j ⟨by omega, ?_⟩ (by omega) (LeF.cons (Le.refl _) (LeF.cons (Le.refl _) (LeF.cons (Le.refl _) (LeF.nil _)))) rfl
        rw [drop_getD _ j (by omega), drop_getD (dgs b) j (by omega), hd, heq]
      · have hlt' := val_lt_at j hDb (by omega) (by omega) hd.symm hgt
        rw [hxa, hxb] at hlt'
        repeat (refine A1 ⟨?_⟩; intros)
        ((first | refine endR ?_ | refine endN ?_); refine end1 (RV.tmp rfl) (Le.int ?_))
        rw [cmpN_gt hlt']
  · rcases Nat.lt_or_gt_of_ne hlen with hlt | hgt
    · have hab : a < b := by
        rcases Nat.lt_or_ge a b with h | h
        · exact h
        · have := len_mono h; omega
      repeat (refine A1 ⟨?_⟩; intros)
      ((first | refine endR ?_ | refine endN ?_); refine end1 (RV.tmp rfl) (Le.int ?_))
      rw [cmpN_lt hab]
    · have hab : b < a := by
        rcases Nat.lt_or_ge b a with h | h
        · exact h
        · have := len_mono h; omega
      repeat (refine A1 ⟨?_⟩; intros)
      ((first | refine endR ?_ | refine endN ?_); refine end1 (RV.tmp rfl) (Le.int ?_))
      rw [cmpN_gt hab]
theorem add_digit {vo va vb p c s x y : Nat} (h : vo + p * c = va + vb) (hs : s = c + x + y) : vo + p * (s % 4294967296) + p * 4294967296 * (s / 4294967296) = va + p * x + (vb + p * y) := by
  subst hs
  have e := Nat.div_add_mod (c + x + y) 4294967296
  rw [Nat.mul_assoc, Nat.add_assoc, ← Nat.mul_add, Nat.add_comm ((c + x + y) % 4294967296), e, Nat.mul_add, Nat.mul_add]
  omega
set_option maxHeartbeats 2000000 in
theorem add_nat (xs ys : List Nat) (hla : xs.length ≤ 100000000) (hlb : ys.length ≤ 100000000) (hA : D xs) (hB : D ys) : Pu Tryz.prog 244 [dg xs, dg ys] (nat (val xs + val ys)) := by
  refine Pu.intro Tryz.func244 rfl (by kernel_rfl) fun C => ?_
  repeat (refine A1 ⟨?_⟩; intros)
  refine WP.via (fun F' H' => ∃ p q : List Nat, q.length ≤ p.length ∧ p.length ≤ 100000000 ∧ D p ∧ D q ∧ val p + val q = val xs + val ys ∧ LeF F' (fm [(0, dg p), (1, dg q)]) ∧ H' = []) ?_ ?_
  · refine WPd (fun hlt => ?_) (fun hlt => ?_)
    · repeat (refine A1 ⟨?_⟩; intros)
      exact ⟨ys, xs, by omega, hlb, hB, hA, by omega, LeF.cons (Le.refl _) (LeF.cons (Le.refl _) (LeF.nil _)), rfl⟩
    · repeat (refine A1 ⟨?_⟩; intros)
      exact ⟨xs, ys, by omega, hla, hA, hB, rfl, LeF.cons (Le.refl _) (LeF.cons (Le.refl _) (LeF.nil _)), rfl⟩
  · rintro F' H' ⟨p, q, hqp, hpl, hP, hQ, hv, hF, rfl⟩
    refine WP.le hF ?_
    rw [← hv]
    clear hv hF hA hB hla hlb
    repeat (refine A1 ⟨?_⟩; intros)
    refine WmkD (p.length + 1) rfl rfl (by omega) (by omega) fun b => ?_
    repeat (refine A1 ⟨?_⟩; intros)
    refine WP.loop (ι := Nat × Nat × List Nat) (fun s => s.1 ≤ p.length ∧ s.2.1 ≤ 1 ∧ s.2.2.length = p.length + 1 ∧ D s.2.2 ∧ val (s.2.2.take s.1) + 4294967296 ^ s.1 * s.2.1 = val (p.take s.1) + val (q.take s.1)) (fun s => p.length - s.1)
      (fun s => fm [(0, dg p), (1, dg q), (5, lit (.slice (some ⟨b, 0, none⟩) (p.length + 1) (p.length + 1))), (6, lit (.int .u64 s.2.1)), (20, dg p), (21, lit (.int .i64 p.length)), (22, lit (.int .i64 s.1))])
      (fun s => [(b, 216, dcells s.2.2)]) (0, 0, List.replicate (p.length + 1) 0) ⟨Nat.zero_le _, Nat.zero_le _, by simp, D.rep _, by simp [val]⟩
      (by repeat (first | exact LeF.nil _ | refine LeF.cons (Le.refl _) ?_)) rfl ?_
    rintro ⟨k, c, os⟩ ⟨hk, hc, hol, hO, hval⟩ K hK
    simp only at hk hc hol hO hval ⊢
    have hp := hP.get k
    have hq := hQ.get k
    by_cases hkl : k < p.length
    · have fin : ∀ s, s = c + p.getD k 0 + q.getD k 0 → ∀ F' H', LeF F' (fm [(0, dg p), (1, dg q), (5, lit (.slice (some ⟨b, 0, none⟩) (p.length + 1) (p.length + 1))), (6, lit (.int .u64 ((s / 4294967296 : Nat) : Int))), (20, dg p), (21, lit (.int .i64 p.length)), (22, lit (.int .i64 ((k + 1 : Nat) : Int)))]) →
          H' = [(b, 216, dcells (os.set k (s % 4294967296)))] → K F' H' := fun s hs F' H' hF hH => by
        refine hK F' H' (k + 1, s / 4294967296, os.set k (s % 4294967296)) ⟨by simp only; omega, by simp only; omega, by simpa using hol, hO.set k (by omega), ?_⟩ (by simp only; omega) hF hH
        simp only
        rw [val_take_set os k _ (by omega), val_take_succ', val_take_succ', Nat.pow_succ]
        exact add_digit hval hs
      by_cases hkq : k < q.length
      · repeat (refine A1 ⟨?_⟩; intros)
        refine WstD ((c + p.getD k 0 + q.getD k 0) % 4294967296) rfl rfl (by omega) (HUpd.here _) (by omega) ?_
        repeat (refine A1 ⟨?_⟩; intros)
        exact fin _ rfl _ _ (by (repeat (first | exact LeF.nil _ | refine LeF.cons (Le.refl _) ?_ | refine LeF.cons (Le.int (by omega)) ?_))) rfl
      · have hq0 : q.getD k 0 = 0 := by simp [List.getD, List.getElem?_eq_none (Nat.not_lt.1 hkq)]
        repeat (refine A1 ⟨?_⟩; intros)
        refine WstD ((c + p.getD k 0 + q.getD k 0) % 4294967296) rfl rfl (by omega) (HUpd.here _) (by omega) ?_
        repeat (refine A1 ⟨?_⟩; intros)
        exact fin _ rfl _ _ (by (repeat (first | exact LeF.nil _ | refine LeF.cons (Le.refl _) ?_ | refine LeF.cons (Le.int (by omega)) ?_))) rfl
    · have hke : k = p.length := by omega
      subst hke
      repeat (refine A1 ⟨?_⟩; intros)
      refine WstD c rfl rfl (by omega) (HUpd.here _) (by omega) ?_
      repeat (refine A1 ⟨?_⟩; intros)
      refine WpubD (ds := os.set p.length c) 56 rfl (HDel.here _) (by simpa using hol) (by omega) (by omega) ?_
      refine Wc (trim_nat (os.set p.length c) (by simp; omega) (hO.set _ (by omega))) ?_
      have hfull : val (os.set p.length c) = val p + val q := by
        have h1 := val_take_set os p.length c (by omega)
        rw [List.take_of_length_le (by simp; omega)] at h1
        rw [h1, hval, List.take_length, List.take_of_length_le hqp]
      rw [hfull]
      repeat (refine A1 ⟨?_⟩; intros)
      ((first | refine endR ?_ | refine endN ?_); exact end1 (RV.tmp rfl) (Le.refl _))
theorem sub_digit {vo va vb p c c' x y d : Nat} (h : vo + vb = va + p * c) (hd : d + 4294967296 * c' = x + c + y) : vo + p * x + (vb + p * y) = va + p * d + p * 4294967296 * c' := by
  have := congrArg (fun t => p * t) hd
  simp only [Nat.mul_add, ← Nat.mul_assoc] at this
  omega
set_option maxHeartbeats 2000000 in
theorem less_nat (a b : Nat) (hab : b ≤ a) (hl : (dgs a).length ≤ 100000000) : Pu Tryz.prog 299 [nat a, nat b] (nat (a - b)) := by
  have hP := D_dgs a
  have hQ := D_dgs b
  have hqp := len_mono hab
  have hva := val_dgs a
  have hvb := val_dgs b
  show Pu _ _ [dg (dgs a), dg (dgs b)] _
  generalize dgs a = p at *
  generalize dgs b = q at *
  refine Pu.intro Tryz.func299 rfl (by kernel_rfl) fun C => ?_
  repeat (refine A1 ⟨?_⟩; intros)
  refine WmkD p.length rfl rfl (by omega) (by omega) fun bb => ?_
  repeat (refine A1 ⟨?_⟩; intros)
  refine WP.loop (ι := Nat × Nat × List Nat) (fun s => s.1 ≤ p.length ∧ s.2.1 ≤ 1 ∧ s.2.2.length = p.length ∧ D s.2.2 ∧ val (s.2.2.take s.1) + val (q.take s.1) = val (p.take s.1) + 4294967296 ^ s.1 * s.2.1) (fun s => p.length - s.1)
    (fun s => fm [(1, dg q), (5, lit (.slice (some ⟨bb, 0, none⟩) p.length p.length)), (6, lit (.int .u64 s.2.1)), (14, dg p), (15, lit (.int .i64 p.length)), (16, lit (.int .i64 s.1))])
    (fun s => [(bb, 216, dcells s.2.2)]) (0, 0, List.replicate p.length 0) ⟨Nat.zero_le _, Nat.zero_le _, by simp, D.rep _, by simp [val]⟩ (by (repeat (first | exact LeF.nil _ | refine LeF.cons (Le.refl _) ?_ | refine LeF.cons (Le.int (by omega)) ?_))) rfl ?_
  rintro ⟨k, c, os⟩ ⟨hk, hc, hol, hO, hval⟩ K hK
  simp only at hk hc hol hO hval ⊢
  have hp := hP.get k
  have hq := hQ.get k
  by_cases hkl : k < p.length
  · have fin : ∀ x c', c' ≤ 1 → x < 4294967296 → p.getD k 0 + 4294967296 * c' = x + c + q.getD k 0 → ∀ F' H', LeF F' (fm [(1, dg q), (5, lit (.slice (some ⟨bb, 0, none⟩) p.length p.length)), (6, lit (.int .u64 c')), (14, dg p), (15, lit (.int .i64 p.length)), (16, lit (.int .i64 ((k + 1 : Nat) : Int)))]) →
        H' = [(bb, 216, dcells (os.set k x))] → K F' H' := fun x c' hc' hx hd F' H' hF hH => by
      refine hK F' H' (k + 1, c', os.set k x) ⟨by simp only; omega, hc', by simpa using hol, hO.set k hx, ?_⟩ (by simp only; omega) hF hH
      simp only
      rw [val_take_set os k _ (by omega), val_take_succ', val_take_succ', Nat.pow_succ]
      exact sub_digit hval hd
    by_cases hkq : k < q.length
    · by_cases hb : p.getD k 0 < c + q.getD k 0
      · repeat (refine A1 ⟨?_⟩; intros)
        refine WstD (p.getD k 0 + 4294967296 - c - q.getD k 0) rfl rfl (by omega) (HUpd.here _) (by omega) ?_
        repeat (refine A1 ⟨?_⟩; intros)
        exact fin _ 1 (by omega) (by omega) (by omega) _ _ (by (repeat (first | exact LeF.nil _ | refine LeF.cons (Le.refl _) ?_ | refine LeF.cons (Le.int (by omega)) ?_))) rfl
      · repeat (refine A1 ⟨?_⟩; intros)
        refine WstD (p.getD k 0 - c - q.getD k 0) rfl rfl (by omega) (HUpd.here _) (by omega) ?_
        repeat (refine A1 ⟨?_⟩; intros)
        exact fin _ 0 (by omega) (by omega) (by omega) _ _ (by (repeat (first | exact LeF.nil _ | refine LeF.cons (Le.refl _) ?_ | refine LeF.cons (Le.int (by omega)) ?_))) rfl
    · have hq0 : q.getD k 0 = 0 := by simp [List.getD, List.getElem?_eq_none (Nat.not_lt.1 hkq)]
      by_cases hb : p.getD k 0 < c
      · repeat (refine A1 ⟨?_⟩; intros)
        refine WstD (p.getD k 0 + 4294967296 - c) rfl rfl (by omega) (HUpd.here _) (by omega) ?_
        repeat (refine A1 ⟨?_⟩; intros)
        exact fin _ 1 (by omega) (by omega) (by omega) _ _ (by (repeat (first | exact LeF.nil _ | refine LeF.cons (Le.refl _) ?_ | refine LeF.cons (Le.int (by omega)) ?_))) rfl
      · repeat (refine A1 ⟨?_⟩; intros)
        refine WstD (p.getD k 0 - c) rfl rfl (by omega) (HUpd.here _) (by omega) ?_
        repeat (refine A1 ⟨?_⟩; intros)
        exact fin _ 0 (by omega) (by omega) (by omega) _ _ (by (repeat (first | exact LeF.nil _ | refine LeF.cons (Le.refl _) ?_ | refine LeF.cons (Le.int (by omega)) ?_))) rfl
  · have hke : k = p.length := by omega
    subst hke
    repeat (refine A1 ⟨?_⟩; intros)
    refine WpubD (ds := os) 45 rfl (HDel.here _) hol (by omega) (by omega) ?_
    refine Wc (trim_nat os (by omega) hO) ?_
    have hfull : val os = a - b := by
      rw [List.take_length, List.take_of_length_le hqp, List.take_of_length_le (by omega), hva, hvb] at hval
      have h1 := val_lt hO
      rw [hol] at h1
      rcases Nat.lt_or_ge 0 c with h | h
      · have : c = 1 := by omega
        subst this; omega
      · have : c = 0 := by omega
        subst this; omega
    rw [hfull]
    repeat (refine A1 ⟨?_⟩; intros)
    ((first | refine endR ?_ | refine endN ?_); exact end1 (RV.tmp rfl) (Le.refl _))
set_option maxHeartbeats 1000000 in
theorem sub_nat (xs ys : List Nat) (hla : xs.length ≤ 100000000) (hlb : ys.length ≤ 100000000) (hA : D xs) (hB : D ys) : Pu Tryz.prog 245 [dg xs, dg ys]
    (if val xs < val ys then tup [dg [], lit (.bool false)] else tup [nat (val xs - val ys), lit (.bool true)]) := by
  have hc := cmpN_bd (val xs) (val ys)
  refine Pu.intro Tryz.func245 rfl (by kernel_rfl) fun C => ?_
  repeat (refine A1 ⟨?_⟩; intros)
  refine Wc (cmp_nat xs ys (by omega) (by omega) hA hB) ?_
  by_cases h : val xs < val ys
  · have h' := hc.2.2.2 h
    rw [if_pos h]
    repeat (refine A1 ⟨?_⟩; intros)
    refine endR (end2 (RV.tmp rfl) (RV.tmp rfl) ?_)
    intro m v hv
    unfold tup at hv ⊢
    obtain ⟨arr, rfl, hall⟩ := hv
    refine ⟨arr, rfl, ?_⟩
    rcases arr with ⟨l⟩
    match l, hall with
    | [x, y], hall => exact ⟨le_nil _ _ hall.1, hall.2⟩
  · have h' : ¬ cmpN (val xs) (val ys) < 0 := fun hh => h (hc.2.2.1 hh)
    rw [if_neg h]
    repeat (refine A1 ⟨?_⟩; intros)
    refine Wc (trim_nat xs (by omega) hA) ?_
    repeat (refine A1 ⟨?_⟩; intros)
    refine Wc (trim_nat ys (by omega) hB) ?_
    refine Wc (less_nat (val xs) (val ys) (by omega) (by have := len_le (val_lt hA); omega)) ?_
    repeat (refine A1 ⟨?_⟩; intros)
    ((first | refine endR ?_ | refine endN ?_); exact end2 (RV.tmp rfl) (RV.tmp rfl) (Le.refl _))
theorem val_set (ds : List Nat) (j x : Nat) (h : j < ds.length) : val (ds.set j x) + 4294967296 ^ j * ds.getD j 0 = val ds + 4294967296 ^ j * x := by
  have h1 := val_at ds j h
  have h2 := val_at (ds.set j x) j (by simpa using h)
  rw [List.take_set_of_le (Nat.le_refl _), show (ds.set j x).drop (j + 1) = ds.drop (j + 1) from by rw [List.drop_set]; simp,
    show (ds.set j x).getD j 0 = x from by simp [List.getD, h]] at h2
  rw [h1, h2, Nat.mul_add, Nat.mul_add]
  omega
theorem getD_set_ne' (ds : List Nat) (j k x : Nat) (h : j ≠ k) : (ds.set j x).getD k 0 = ds.getD k 0 := by simp [List.getD, List.getElem?_set_ne h]
theorem mul_inner {vo v p c x y o t : Nat} (vq : Nat) {B1 : Nat} (h : vo + B1 * p * c = v + B1 * x * vq) (ht : t = c + x * y + o) {vo' : Nat} (hs : vo' + B1 * p * o = vo + B1 * p * (t % 4294967296)) :
    vo' + B1 * (p * 4294967296) * (t / 4294967296) = v + B1 * x * (vq + p * y) := by
  have e := Nat.div_add_mod t 4294967296
  have e2 := congrArg (fun z => B1 * p * z) e
  rw [ht] at e2
  simp only [Nat.mul_add, ← Nat.mul_assoc] at e2 h ⊢
  rw [← ht] at e2
  have e3 : B1 * p * x * y = B1 * x * p * y := by rw [Nat.mul_right_comm B1 p x]
  omega
theorem prod_bd {x y : Nat} (hx : x < 4294967296) (hy : y < 4294967296) : (x : Int) * (y : Int) ≤ 18446744065119617025 ∧ 0 ≤ (x : Int) * (y : Int) := by
  have h : x * y ≤ 4294967295 * 4294967295 := Nat.mul_le_mul (by omega) (by omega)
  have h2 : ((x * y : Nat) : Int) ≤ 18446744065119617025 := by omega
  rw [Int.natCast_mul] at h2
  exact ⟨h2, Int.mul_nonneg (by omega) (by omega)⟩
theorem trimmed (xs : List Nat) {k : Nat} (hl : xs.length ≤ k) (hk : k ≤ 1000000000) (hA : D xs) : ∃ p, Pu Tryz.prog 186 [dg xs] (dg p) ∧ p.length ≤ k ∧ D p ∧ val p = val xs ∧ p = dgs (val xs) :=
  ⟨dgs (val xs), trim_nat xs (by omega) hA, by have := len_le (val_lt hA); omega, D_dgs _, val_dgs _, rfl⟩
set_option maxHeartbeats 4000000 in
theorem mul_nat (xs ys : List Nat) (hla : xs.length ≤ 100000000) (hlb : ys.length ≤ 100000000) (hA : D xs) (hB : D ys) : Pu Tryz.prog 130 [dg xs, dg ys] (nat (val xs * val ys)) := by
  obtain ⟨p, t1, h1, hP, hva, _⟩ := trimmed xs hla (by omega) hA
  obtain ⟨q, t2, h2, hQ, hvb, _⟩ := trimmed ys hlb (by omega) hB
  rw [← hva, ← hvb]
  refine Pu.intro Tryz.func130 rfl (by kernel_rfl) fun C => ?_
  repeat (refine A1 ⟨?_⟩; intros)
  refine Wc t1 ?_
  repeat (refine A1 ⟨?_⟩; intros)
  refine Wc t2 ?_
  repeat (refine A1 ⟨?_⟩; intros)
  refine WmkD (p.length + q.length) rfl rfl (by omega) (by omega) fun bb => ?_
  repeat (refine A1 ⟨?_⟩; intros)
  refine WP.loop (ι := Nat × List Nat) (fun s => s.1 ≤ p.length ∧ s.2.length = p.length + q.length ∧ D s.2 ∧ val s.2 = val (p.take s.1) * val q ∧ ∀ j, s.1 + q.length ≤ j → s.2.getD j 0 = 0) (fun s => p.length - s.1)
    (fun s => fm [(1, dg q), (5, lit (.slice (some ⟨bb, 0, none⟩) (p.length + q.length) (p.length + q.length))), (21, dg p), (22, lit (.int .i64 p.length)), (23, lit (.int .i64 s.1))])
    (fun s => [(bb, 216, dcells s.2)]) (0, List.replicate (p.length + q.length) 0) ⟨Nat.zero_le _, by simp, D.rep _, by simp [val, val_rep], fun j _ => by simp [List.getD, List.getElem?_replicate]; split <;> simp⟩ (by (repeat (first | exact LeF.nil _ | refine LeF.cons (Le.refl _) ?_ | refine LeF.cons (Le.int (by omega)) ?_))) rfl ?_
  rintro ⟨i, os⟩ ⟨hi, hol, hO, hval, hz⟩ K hK
  simp only at hi hol hO hval hz ⊢
  by_cases hil : i < p.length
  · have hx := hP.get i
    repeat (refine A1 ⟨?_⟩; intros)
    refine WP.loop (ι := Nat × Nat × List Nat) (fun s => s.1 ≤ q.length ∧ s.2.1 < 4294967296 ∧ s.2.2.length = p.length + q.length ∧ D s.2.2 ∧ val s.2.2 + 4294967296 ^ i * 4294967296 ^ s.1 * s.2.1 = val os + 4294967296 ^ i * p.getD i 0 * val (q.take s.1) ∧ ∀ j, i + q.length ≤ j → s.2.2.getD j 0 = 0) (fun s => q.length - s.1)
      (fun s => fm [(1, dg q), (5, lit (.slice (some ⟨bb, 0, none⟩) (p.length + q.length) (p.length + q.length))), (6, lit (.int .i64 i)), (7, lit (.int .u32 (p.getD i 0 : Nat))), (8, lit (.int .u64 s.2.1)), (21, dg p), (22, lit (.int .i64 p.length)), (23, lit (.int .i64 i)), (28, dg q), (29, lit (.int .i64 q.length)), (30, lit (.int .i64 s.1))])
      (fun s => [(bb, 216, dcells s.2.2)]) (0, 0, os) ⟨Nat.zero_le _, by simp, hol, hO, by simp [val], hz⟩ (by (repeat (first | exact LeF.nil _ | refine LeF.cons (Le.refl _) ?_ | refine LeF.cons (Le.int (by omega)) ?_))) rfl ?_
    rintro ⟨k, c, us⟩ ⟨hk, hc, hul, hU, hvu, hzu⟩ K2 hK2
    simp only at hk hc hul hU hvu hzu ⊢
    by_cases hkl : k < q.length
    · have hy := hQ.get k
      have ho := hU.get (i + k)
      have hb := prod_bd hx hy
      have hcast : ((p.getD i 0 * q.getD k 0 : Nat) : Int) = (p.getD i 0 : Int) * (q.getD k 0 : Int) := Int.natCast_mul _ _
      repeat (refine A1 ⟨?_⟩; intros)
      refine WstD ((c + (p.getD i 0 * q.getD k 0 + us.getD (i + k) 0)) % 4294967296) rfl rfl (by omega) (HUpd.here _) (by omega) ?_
      repeat (refine A1 ⟨?_⟩; intros)
      refine hK2 _ _ (k + 1, (c + (p.getD i 0 * q.getD k 0 + us.getD (i + k) 0)) / 4294967296, us.set (i + k) ((c + (p.getD i 0 * q.getD k 0 + us.getD (i + k) 0)) % 4294967296))
        ⟨by simp only; omega, by simp only; omega, by simpa using hul, hU.set _ (by omega), ?_, fun j hj => by rw [getD_set_ne' _ _ _ _ (by (try simp only at hj); omega)]; exact hzu j hj⟩ (by simp only; omega) (by (repeat (first | exact LeF.nil _ | refine LeF.cons (Le.refl _) ?_ | refine LeF.cons (Le.int (by omega)) ?_))) rfl
      simp only
      rw [val_take_succ', Nat.pow_succ]
      have hs := val_set us (i + k) ((c + (p.getD i 0 * q.getD k 0 + us.getD (i + k) 0)) % 4294967296) (by omega)
      rw [Nat.pow_add] at hs
      exact mul_inner _ hvu (by omega) hs
    · have hke : k = q.length := by omega
      subst hke
      have hz0 := hzu (i + q.length) (by omega)
      repeat (refine A1 ⟨?_⟩; intros)
      refine WstD c rfl rfl (by omega) (HUpd.here _) (by omega) ?_
      repeat (refine A1 ⟨?_⟩; intros)
      refine hK _ _ (i + 1, us.set (i + q.length) c) ⟨by simp only; omega, by simpa using hul, hU.set _ hc, ?_, fun j hj => by rw [getD_set_ne' _ _ _ _ (by (try simp only at hj); omega)]; exact hzu j (by (try simp only at hj); omega)⟩ (by simp only; omega) (by (repeat (first | exact LeF.nil _ | refine LeF.cons (Le.refl _) ?_ | refine LeF.cons (Le.int (by omega)) ?_))) rfl
      simp only
      have hs := val_set us (i + q.length) c (by omega)
      rw [hz0, Nat.mul_zero, Nat.add_zero, Nat.pow_add] at hs
      rw [hs, hvu, List.take_length, hval, val_take_succ', Nat.add_mul]
  · have hie : i = p.length := by omega
    subst hie
    rw [List.take_length] at hval
    repeat (refine A1 ⟨?_⟩; intros)
    refine WpubD (ds := os) 69 rfl (HDel.here _) hol (by omega) (by omega) ?_
    refine Wc (trim_nat os (by omega) hO) ?_
    rw [hval]
    repeat (refine A1 ⟨?_⟩; intros)
    ((first | refine endR ?_ | refine endN ?_); exact end1 (RV.tmp rfl) (Le.refl _))
end Go.Ab
