/- Texts laid one behind the other: Late, Rev, RefA, RefB, RefC, NatH, NatI, RefG, LongA, NatG, Int, IntB. -/
import Derived.Test.YtebghnhocigmlaaGreatDoorTy
import Derived.Test.YtebghnhocigmlaaGreatDoorB03
set_option linter.unusedSectionVars false
set_option linter.unusedVariables false
set_option linter.unusedSimpArgs false
namespace Go.Ab
open Go.Proofs
variable [Base]
section
variable {P : Program} {C : Ctx} {n : Nat} {F F' : Fr} {H : LH} {ops : Array Oper} {Q : Exit → Fr → LH → Prop}
def lateB (ops : Array Oper) (k q j : Nat) : Bool := (List.range q).any fun s => !edgeT ops (k + s) j
def dstAt (ops : Array Oper) (i : Nat) : Option Nat := match ops[i]? with
  | some o => o.dst
  | none => none
def looksAtB (ops : Array Oper) (i d : Nat) : Bool := match ops[i]? with
  | some o => (o.looksAt ops).contains d
  | none => false
def plainAt (ops : Array Oper) (i : Nat) : Bool := match ops[i]? with
  | some o => o.guard.isNone && o.dst.isSome
  | none => false
def latePair (ops : Array Oper) (j j' : Nat) : Bool := match dstAt ops j' with
  | some d => !looksAtB ops j d && (Nat.beq j j' || !(dstAt ops j == some d))
  | none => true
def lateOk (ops : Array Oper) (k q : Nat) : Bool :=
  Nat.ble (k + q) ops.size &&
  ((List.range ops.size).all fun i => backAt ops i) &&
  ((List.range k).all fun i => (List.range i).all fun j => edgeT ops i j || apartAt ops i j) &&
  ((List.range ops.size).all fun i => Nat.blt i k || (List.range i).all fun j => edgeT ops i j || (Nat.blt j k && Nat.blt i (k + q))) &&
  ((List.range k).all fun j => !lateB ops k q j || (plainAt ops j && ((List.range q).all fun s => apartAt ops j (k + s)) && ((List.range k).all fun j' => !lateB ops k q j' || (Nat.blt j' j && (edgeT ops j j' || !(looksAtB ops j ((dstAt ops j').getD 0))) && (!(dstAt ops j == dstAt ops j'))) || (Nat.ble j j' && latePair ops j j'))))
def dsts (r : List NO') (t : Nat) : Bool := r.any fun x => x.2.dst == some t
def hide (r : List NO') (F : Fr) : Fr := fun t => if dsts r t = true then top else F t
inductive LOk (P : Program) (ops : Array Oper) (k q n : Nat) (H : LH) (F : Fr) : List NO' → Prop
  | nil : LOk P ops k q n H F []
  | skip {i : Nat} {o : Oper} {r : List NO'} (hl : lateB ops k q i = false) (h : LOk P ops k q n H F r) : LOk P ops k q n H F ((i, o) :: r)
  | cons {i d : Nat} {o : Oper} {sv : SV} {r : List NO'} (hd : o.dst = some d) (hdn : Nat.blt d n = true) (hop : OpV P o.op o.type F H sv) (hsv : F d = sv) (h : LOk P ops k q n H F r) : LOk P ops k q n H F ((i, o) :: r)
theorem LOk.mem {k q : Nat} {r : List NO'} (h : LOk P ops k q n H F r) : ∀ x ∈ r, lateB ops k q x.1 = true → ∃ d, x.2.dst = some d ∧ Nat.blt d n = true ∧ OpV P x.2.op x.2.type F H (F d) := by
  induction h with
  | nil => intro x hx; cases hx
  | skip hl _ ih =>
    intro x hx hlx
    rcases List.mem_cons.1 hx with rfl | hx
    · rw [hl] at hlx; cases hlx
    · exact ih x hx hlx
  | cons hd hdn hop hsv _ ih =>
    intro x hx hlx
    rcases List.mem_cons.1 hx with rfl | hx
    · exact ⟨_, hd, hdn, hsv ▸ hop⟩
    · exact ih x hx hlx
def dstf (o : Oper) (F : Fr) (sv : SV) : Fr := match o.dst with
  | some d => upd F d sv
  | none => F
def TS (P : Program) (C : Ctx) (n : Nat) (ops : Array Oper) (i : Nat) (o : Oper) (Fe : Fr) (H : LH) (sv : SV) (H' : LH) : Prop :=
  ∀ F, (∀ t, t ∈ o.looksAt ops → Fe t = F t) → ∀ a w, St C n F H a w → ∀ (Q' : Exit → Act → World → Prop) (K' : Act → World → Prop), (∀ a' w', St C n (dstf o F sv) H' a' w' → K' a' w') → wpOp P ops Q' i K' a w
def TSR (P : Program) (C : Ctx) (n : Nat) (ops : Array Oper) (i : Nat) (o : Oper) (Fe : Fr) (H : LH) (Post : SV → LH → Prop) : Prop :=
  ∀ F, (∀ t, t ∈ o.looksAt ops → Fe t = F t) → ∀ a w, St C n F H a w → ∀ (Q' : Exit → Act → World → Prop) (K' : Act → World → Prop), (∀ sv H', Post sv H' → ∀ a' w', St C n (dstf o F sv) H' a' w' → K' a' w') → wpOp P ops Q' i K' a w
theorem TS.toR {i : Nat} {o : Oper} {Fe : Fr} {sv : SV} {H' : LH} (h : TS P C n ops i o Fe H sv H') : TSR P C n ops i o Fe H (fun s H2 => s = sv ∧ H2 = H') :=
  fun F hF a w hst Q' K' hK => h F hF a w hst Q' K' fun a' w' h' => hK sv H' ⟨rfl, rfl⟩ a' w' h'
def Stg (P : Program) (C : Ctx) (n : Nat) (ops : Array Oper) (k q : Nat) (late : List NO') (K : Fr → LH → Prop) : Nat → List Oper → Fr → LH → Prop
  | _, [], F, H => LOk P ops k q n H F late ∧ K F H
  | i, o :: r, F, H => LOk P ops k q n H F late ∧ ∃ Post : SV → LH → Prop, TSR P C n ops i o F H Post ∧ ∀ sv H', Post sv H' → Stg P C n ops k q late K (i + 1) r (dstf o F sv) H'
theorem hide_nil : hide [] F = F := by funext t; simp [hide, dsts]
theorem dsts_mem {r : List NO'} {t : Nat} : dsts r t = true ↔ ∃ x ∈ r, x.2.dst = some t := by simp [dsts]
theorem hide_upd {r : List NO'} {d : Nat} {sv : SV} (h : dsts r d = false) : upd (hide r F) d sv = hide r (upd F d sv) := by
  funext t
  by_cases ht : t = d
  · subst ht; rw [upd_eq]; unfold hide; rw [h]; simp [upd_eq]
  · rw [upd_ne ht]; unfold hide; rw [upd_ne ht]
theorem hide_take {l1 l2 : List NO'} {i d : Nat} {o : Oper} (hd : o.dst = some d) (h : dsts (l1 ++ l2) d = false) : upd (hide (l1 ++ (i, o) :: l2) F) d (F d) = hide (l1 ++ l2) F := by
  funext t
  by_cases ht : t = d
  · subst ht; rw [upd_eq]; unfold hide; rw [h]; rfl
  · rw [upd_ne ht]
    unfold hide
    have : dsts (l1 ++ (i, o) :: l2) t = dsts (l1 ++ l2) t := by
      unfold dsts
      rw [List.any_append, List.any_append, List.any_cons]
      have : (o.dst == some t) = false := by rw [hd]; simpa using fun e => ht e.symm
      simp only [this, Bool.false_or]
    rw [this]
theorem TS.val {i d : Nat} {o : Oper} {sv : SV} (ho : ops[i]? = some o) (hd : o.dst = some d) (hdn : Nat.blt d n = true) (h : DS P ops n H o F sv) : TS P C n ops i o F H sv H := by
  intro F1 hF a w hst Q' K' hK
  have h' := h.frame hF
  obtain ⟨hdef, hn, m, h1, h2, h3, h4, h5⟩ := hst
  refine h'.wp ho hd hn h1 h2 h5 fun v m' w' hv hm' hH' r => hK _ _ ?_
  unfold dstf
  rw [hd]
  exact St.put (Nat.blt_eq.mp hdn) hdef hn h2 h3 h4 h5 hv hm' hH' r
theorem ev_looks {o : Oper} {F1 : Fr} {x : Operand} (hx : x ∈ o.op.operands) (h : ∀ t, t ∈ o.looksAt ops → F t = F1 t) : ev F1 x = ev F x := by
  cases x with
  | tmp t => exact (h t (looks_op hx)).symm
  | const v => rfl
  | global g => rfl
  | func f => rfl
theorem TS.store {i : Nat} {T T' : TypeId} {sz by_ : Nat} {z : List SV} {g : Bool} [hT : TY P T sz by_ z g] {x v : Operand} {b o : Nat} {sv s0 : SV} {cs cs' ds : List SV} {H' : LH} {ty : TypeId} {pos : String} {aft : Array Edge}
    (ho : ops[i]? = some ⟨none, .store T x v, ty, pos, aft, none⟩) (hx : ev F x = lit (.pointer (some ⟨b, o, none⟩))) (hv : ev F v = sv) [hco : CO sv ds] (hlen : Nat.beq ds.length sz = true)
    (hu : HUpd b T' cs cs' H H') (hsp : spl cs o ds = cs') (hle : Nat.ble (o + sz) cs.length = true) : TS P C n ops i ⟨none, .store T x v, ty, pos, aft, none⟩ F H s0 H' := by
  intro F1 hF a w hst Q' K' hK
  rw [← ev_looks (o := ⟨none, .store T x v, ty, pos, aft, none⟩) (x := x) (by simp [Op.operands]) hF] at hx
  rw [← ev_looks (o := ⟨none, .store T x v, ty, pos, aft, none⟩) (x := v) (by simp [Op.operands]) hF] at hv
  obtain ⟨hdef, hn, m, h1, h2, h3, h4, h5⟩ := hst
  have hp : ∀ x, (ev F1 x).p m (a.eval x) := fun x => by
    cases x with
    | tmp t => exact h5 t
    | const v => unfold ev lit; rfl
    | global g => unfold ev lit; rfl
    | func f => unfold ev lit; rfl
  have e0 := hp x; rw [hx, lit_p] at e0
  have e1 := hp v; rw [hv] at e1
  have hds := hco.h m _ e1
  obtain ⟨_, arr, hb, hall⟩ := h2.2 _ hu.mem
  have hsz := Nat.eq_of_beq_eq_true hlen
  have hlv := hds.length
  have hle' := Nat.le_of_ble_eq_true hle
  have hla := hall.length
  simp only [Array.length_toList] at hlv hla
  obtain ⟨w', arr', hr, g1, g2, g3, g4, g5, g6, g7⟩ := run_storeCells_all (P := P) (b := b) (T := T') (o := o) (a.eval v).cells.toList 0 w arr hb (by simp only [Array.length_toList]; omega) hds.flat
  unfold wpOp
  rw [ho]
  simp only [Region.wanted, if_true]
  left
  unfold Oper.wp
  have hrun : (execOp a.eval (⟨none, .store T x v, ty, pos, aft, none⟩ : Oper)).run P w = .ok .skip w' := by
    simp only [execOp, Instr.storeAt, e0, Instr.sureAddr, Sem.run_bind, Sem.run_pure, Result.andThen_ok, storeVar, hT.run_size, hlv, hsz]
    simp [hr]
  rw [hrun]
  have hfin := g7 m cs ds hall hds
  rw [Nat.add_zero, hsp] at hfin
  obtain ⟨q1, q2, q3, q4⟩ := write_ok h1 h2 h3 h4 hu g1 g2 g3 g4 g5 g6 hfin
  exact hK _ _ ⟨hdef, hn, m, q1, q2, q3, q4, h5⟩
theorem lateOk_spec {k q : Nat} (h : lateOk ops k q = true) : k + q ≤ ops.size ∧ (∀ i, i < ops.size → backAt ops i = true) ∧ (∀ i, i < k → ∀ j, j < i → edgeT ops i j = true ∨ apartAt ops i j = true) ∧
    (∀ i, i < ops.size → k ≤ i → ∀ j, j < i → edgeT ops i j = true ∨ (j < k ∧ i < k + q)) ∧
    ∀ j, j < k → lateB ops k q j = true → plainAt ops j = true ∧ (∀ s, s < q → apartAt ops j (k + s) = true) ∧
      ∀ j', j' < k → lateB ops k q j' = true → (j' < j ∧ (edgeT ops j j' = true ∨ looksAtB ops j ((dstAt ops j').getD 0) = false) ∧ dstAt ops j ≠ dstAt ops j') ∨ (j ≤ j' ∧ latePair ops j j' = true) := by
  simp only [lateOk, Bool.and_eq_true, List.all_eq_true, List.mem_range, Bool.or_eq_true, Bool.not_eq_true', Nat.blt_eq] at h
  obtain ⟨⟨⟨⟨h1, hb⟩, h2⟩, h3⟩, h4⟩ := h
  refine ⟨Nat.le_of_ble_eq_true h1, hb, fun i hi j hj => h2 i hi j hj, fun i hi hk j hj => ?_, fun j hj hl => ?_⟩
  · rcases h3 i hi with h | h
    · omega
    · exact h j hj
  · rcases h4 j hj with h | h
    · rw [hl] at h; cases h
    · refine ⟨h.1.1, h.1.2, fun j' hj' hl' => ?_⟩
      rcases h.2 j' hj' with (h | ⟨⟨a, b⟩, c⟩) | ⟨a, b⟩
      · rw [hl'] at h; cases h
      · exact .inl ⟨a, b, by simpa using c⟩
      · exact .inr ⟨Nat.le_of_ble_eq_true a, b⟩
theorem tailRun {Q' : Exit → Act → World → Prop} {t0 : Nat} (hback : ∀ i, i < ops.size → backAt ops i = true) (htail : ∀ i, i < ops.size → t0 ≤ i → ∀ j, j < i → edgeT ops i j = true) :
    ∀ (fuel t : Nat) (listed : Array Bool) (a : Act) (w : World), t0 ≤ t → listed.size = ops.size → Closed ops listed → ops.size - t ≤ fuel → (∀ j, j < t → listed.getD j true = true) → (∀ j, t ≤ j → j < ops.size → listed.getD j true = false) →
      wpList P ops Q' (ops.toList.drop t) a w → wpAny P .any ops Q' fuel listed a w := by
  intro fuel
  induction fuel with
  | zero =>
    intro t listed a w hkt hs hcl hfu h1 h2 h
    have ht : ops.size ≤ t := by omega
    refine ⟨?_, ?_⟩
    · cases hr : Region.ready .any ops listed with
      | nil => rfl
      | cons x xs =>
        have hx : x ∈ Region.ready .any ops listed := by rw [hr]; simp
        obtain ⟨h0, o, ho, _⟩ := mem_ready.1 hx
        have := (Array.getElem?_eq_some_iff.1 ho).1
        rw [h1 x (by omega)] at h0; cases h0
    · rw [List.drop_eq_nil_of_le (by simpa using ht)] at h; exact h
  | succ fuel ih =>
    intro t listed a w hkt hs hcl hfu h1 h2 h
    have only : ∀ i ∈ Region.ready .any ops listed, i = t ∧ t < ops.size := fun i hi => by
      obtain ⟨h0, o, ho, _⟩ := mem_ready.1 hi
      have hlt := (Array.getElem?_eq_some_iff.1 ho).1
      have hge : t ≤ i := by
        rcases Nat.lt_or_ge i t with h | h
        · rw [h1 i h] at h0; cases h0
        · exact h
      rcases Nat.lt_or_ge t i with hlt' | hle
      · have := edgeT_listed hcl hi (htail i hlt (by omega) t hlt')
        have := listed_false hs (by omega : t < ops.size) this
        rw [h2 t (Nat.le_refl _) (by omega)] at this; cases this
      · exact ⟨by omega, by omega⟩
    refine ⟨fun hr => ?_, fun i hi => ?_⟩
    · rcases Nat.lt_or_ge t ops.size with hlt | hge
      · exfalso
        have hmem : t ∈ Region.ready .any ops listed := by
          rw [mem_ready]
          refine ⟨h2 t (Nat.le_refl _) hlt, ops[t], by simp [hlt], fun e he hb => ?_⟩
          have hlt' := back_spec (hback t hlt) (by simp [hlt] : ops[t]? = some ops[t]) e he hb
          have := h1 e.on hlt'
          have hsz : e.on < listed.size := by omega
          simp [hsz] at this ⊢; exact this
        rw [hr] at hmem; cases hmem
      · rw [List.drop_eq_nil_of_le (by simpa using hge)] at h; exact h
    · obtain ⟨rfl, hlt⟩ := only i hi
      have ho : ops[i]? = some ops[i] := by simp [hlt]
      have hd : ops.toList.drop i = ops[i] :: ops.toList.drop (i + 1) := by
        rw [List.drop_eq_getElem_cons (by simpa using hlt)]; simp
      rw [hd] at h
      have hstep : wpOp P ops Q' i (fun a w => wpList P ops Q' (ops.toList.drop (i + 1)) a w) a w := by
        unfold wpOp; rw [ho]; exact h
      refine wpOp_mono (fun a' w' h' => ih (i + 1) (listed.setIfInBounds i true) a' w' (by omega) (by simpa using hs) (hcl.step hi) (by omega) (fun j hj => ?_) (fun j hj hjs => ?_) h') hstep
      · by_cases hji : i = j
        · subst hji; simp [hs, hlt]
        · rw [getD_set_ne true hji]; exact h1 j (by omega)
      · rw [getD_set_ne true (by omega)]; exact h2 j (by omega) hjs
theorem left_ge {k i : Nat} {listed : Array Bool} (h : k ≤ i) : left ops k (listed.setIfInBounds i true) = left ops k listed := by
  unfold left
  refine List.filter_congr fun x hx => ?_
  have := (mem_all (o := x.2)).1 hx
  rw [getD_set_ne true (by omega)]
theorem Stg.lok {k q : Nat} {late : List NO'} {K : Fr → LH → Prop} {i : Nat} : ∀ {l : List Oper}, Stg P C n ops k q late K i l F H → LOk P ops k q n H F late
  | [], h => h.1
  | _ :: _, h => h.1
theorem lateRun {Q' : Exit → Act → World → Prop} {k q : Nat} {late : List NO'} {K : Fr → LH → Prop} (hchk : lateOk ops k q = true) (hlate : ∀ x : NO', x.1 < k → ops[x.1]? = some x.2 → lateB ops k q x.1 = true → x ∈ late)
    (fin : ∀ a w F H, K F H → St C n F H a w → wpList P ops Q' (ops.toList.drop (k + q)) a w) :
    ∀ (fuel s : Nat) (listed : Array Bool) (a : Act) (w : World) (Fe : Fr) (H : LH), s ≤ q → (left ops k listed).length + (ops.size - (k + s)) ≤ fuel → listed.size = ops.size → Closed ops listed →
      (∀ x ∈ left ops k listed, lateB ops k q x.1 = true) → (∀ j, k ≤ j → j < k + s → listed.getD j true = true) → (∀ j, k + s ≤ j → j < ops.size → listed.getD j true = false) →
      Stg P C n ops k q late K (k + s) ((ops.toList.drop (k + s)).take (q - s)) Fe H → St C n (hide (left ops k listed) Fe) H a w → wpAny P .any ops Q' fuel listed a w := by
  obtain ⟨hk, hback, hpre, htail, hl⟩ := lateOk_spec hchk
  have done : ∀ (fuel : Nat) (listed : Array Bool) (a : Act) (w : World) (Fe : Fr) (H : LH), ops.size - (k + q) ≤ fuel → listed.size = ops.size → Closed ops listed → left ops k listed = [] →
      (∀ j, k ≤ j → j < k + q → listed.getD j true = true) → (∀ j, k + q ≤ j → j < ops.size → listed.getD j true = false) →
      Stg P C n ops k q late K (k + q) ((ops.toList.drop (k + q)).take (q - q)) Fe H → St C n (hide (left ops k listed) Fe) H a w → wpAny P .any ops Q' fuel listed a w := by
    intro fuel listed a w Fe H hfu hs hcl hnil h1 h2 hst hw
    rw [Nat.sub_self, List.take_zero] at hst
    rw [hnil, hide_nil] at hw
    refine tailRun hback (t0 := k + q) (fun i hi hki j hj => ?_) fuel (k + q) listed a w (Nat.le_refl _) hs hcl hfu (fun j hj => ?_) h2 (fin a w Fe H hst.2 hw)
    · rcases htail i hi (by omega) j hj with h | h
      · exact h
      · omega
    · rcases Nat.lt_or_ge j k with hjk | hjk
      · cases hb : listed.getD j true with
        | true => rfl
        | false =>
          have : (j, ops[j]'(by omega)) ∈ left ops k listed := mem_left.2 ⟨hjk, by simp, hb⟩
          rw [hnil] at this; cases this
      · exact h1 j hjk hj
  intro fuel
  induction fuel with
  | zero =>
    intro s listed a w Fe H hsq hfu hs hcl hlt h1 h2 hst hw
    obtain rfl : s = q := by omega
    exact done 0 listed a w Fe H (by omega) hs hcl (List.eq_nil_of_length_eq_zero (by omega)) h1 h2 hst hw
  | succ fuel ih =>
    intro s listed a w Fe H hsq hfu hs hcl hlt h1 h2 hst hw
    by_cases hfin : left ops k listed = [] ∧ s = q
    · obtain ⟨hnil, rfl⟩ := hfin
      exact done (fuel + 1) listed a w Fe H (by rw [hnil] at hfu; simpa using hfu) hs hcl hnil h1 h2 hst hw
    have low : ∀ i (hi : i < ops.size), i ≤ k + s → (∀ j, j < i → j < k → listed.getD j true = true) → listed.getD i true = false → i ∈ Region.ready .any ops listed := fun i hi his hj hun => by
      rw [mem_ready]
      refine ⟨hun, ops[i], by simp [hi], fun e he hb => ?_⟩
      have hlt' := back_spec (hback i hi) (by simp [hi] : ops[i]? = some ops[i]) e he hb
      have : listed.getD e.on true = true := by
        rcases Nat.lt_or_ge e.on k with h | h
        · exact hj e.on hlt' h
        · exact h1 e.on h (by omega)
      have hsz : e.on < listed.size := by omega
      simp [hsz] at this ⊢; exact this
    refine ⟨fun hr => ?_, fun i hi => ?_⟩
    · exfalso
      by_cases hnil : left ops k listed = []
      · have hsq' : s < q := by
          rcases Nat.lt_or_ge s q with h | h
          · exact h
          · exact absurd ⟨hnil, by omega⟩ hfin
        have := low (k + s) (by omega) (Nat.le_refl _) (fun j _ hjk => by
          cases hb : listed.getD j true with
          | true => rfl
          | false =>
            have : (j, ops[j]'(by omega)) ∈ left ops k listed := mem_left.2 ⟨hjk, by simp, hb⟩
            rw [hnil] at this; cases this) (h2 _ (Nat.le_refl _) (by omega))
        rw [hr] at this; cases this
      · obtain ⟨⟨i, o⟩, l', hcons⟩ := List.exists_cons_of_ne_nil hnil
        obtain ⟨g1, g2, g3⟩ := mem_left.1 (by rw [hcons]; simp : (i, o) ∈ left ops k listed)
        simp only at g1 g2 g3
        have := low i (by omega) (by omega) (fun j hj hjk => by
          cases hb : listed.getD j true with
          | true => rfl
          | false =>
            have hm2 : (j, ops[j]'(by omega)) ∈ left ops k listed := mem_left.2 ⟨hjk, by simp, hb⟩
            have hsort := left_sorted (ops := ops) k listed
            rw [hcons] at hsort hm2
            rcases List.mem_cons.1 hm2 with h | h
            · simp only [Prod.mk.injEq] at h; omega
            · have := (List.pairwise_cons.1 hsort).1 _ h; simp at this; omega) g3
        rw [hr] at this; cases this
    · obtain ⟨hun, o, ho, _⟩ := mem_ready.1 hi
      have hio := (Array.getElem?_eq_some_iff.1 ho).1
      rcases Nat.lt_or_ge i k with hik | hki
      · have hmem : (i, o) ∈ left ops k listed := mem_left.2 ⟨hik, ho, hun⟩
        have hli := hlt _ hmem
        obtain ⟨hpl, hap, hpair⟩ := hl i hik hli
        obtain ⟨d, hd, hdn, hop⟩ := hst.lok.mem _ (hlate (i, o) hik ho hli) hli
        simp only at hd hop
        have hg : o.guard = none := by
          unfold plainAt at hpl
          rw [ho] at hpl
          simp only [Bool.and_eq_true, Option.isNone_iff_eq_none] at hpl
          exact hpl.1
        obtain ⟨l1, l2, hl12⟩ := List.append_of_mem hmem
        have hset := left_set hs hio hl12
        have hlen : (l1 ++ l2).length + 1 = (left ops k listed).length := by rw [hl12]; simp; omega
        have hsort := left_sorted (ops := ops) k listed
        have hlook : ∀ t ∈ o.looksAt ops, dsts (left ops k listed) t = false := fun t ht => by
          cases hb : dsts (left ops k listed) t with
          | false => rfl
          | true =>
            exfalso
            obtain ⟨x, hx, hxd⟩ := dsts_mem.1 hb
            obtain ⟨x1, x2, x3⟩ := mem_left.1 hx
            have hlk : looksAtB ops i t = true := by unfold looksAtB; rw [ho]; simpa using ht
            have hdx : dstAt ops x.1 = some t := by unfold dstAt; rw [x2]; exact hxd
            rcases hpair x.1 x1 (hlt x hx) with ⟨_, h | h, _⟩ | ⟨_, h⟩
            · have := listed_false hs (by omega) (edgeT_listed hcl hi h)
              rw [x3] at this; cases this
            · rw [hdx] at h; simp only [Option.getD_some] at h; rw [hlk] at h; cases h
            · unfold latePair at h
              rw [hdx] at h
              simp only [hlk, Bool.not_true, Bool.false_and] at h
              cases h
        have hdst : dsts (l1 ++ l2) d = false := by
          cases hb : dsts (l1 ++ l2) d with
          | false => rfl
          | true =>
            exfalso
            obtain ⟨x, hx, hxd⟩ := dsts_mem.1 hb
            have hx' : x ∈ left ops k listed := by rw [hl12]; rcases List.mem_append.1 hx with h | h <;> simp [h]
            obtain ⟨x1, x2, x3⟩ := mem_left.1 hx'
            have hne : x.1 ≠ i := fun e => by
              rw [hl12, List.pairwise_append] at hsort
              rcases List.mem_append.1 hx with h | h
              · have := hsort.2.2 x h (i, o) (by simp); simp at this; omega
              · have := (List.pairwise_cons.1 hsort.2.1).1 x h; simp at this; omega
            have hdx : dstAt ops x.1 = some d := by unfold dstAt; rw [x2]; exact hxd
            have hdi : dstAt ops i = some d := by unfold dstAt; rw [ho]; exact hd
            rcases hpair x.1 x1 (hlt x hx') with ⟨_, _, h⟩ | ⟨_, h⟩
            · exact h (by rw [hdx, hdi])
            · unfold latePair at h
              rw [hdx] at h
              simp only [hdi, Bool.and_eq_true, Bool.or_eq_true, beq_self_eq_true, Bool.not_true] at h
              rcases h.2 with h | h
              · exact hne (Nat.eq_of_beq_eq_true h).symm
              · cases h
        have hds : DS P ops n H o (hide (left ops k listed) Fe) (Fe d) := (DS.plain hg hop).frame fun t ht => by unfold hide; rw [hlook t ht]; rfl
        obtain ⟨hdef, hn, m, q1, q2, q3, q4, q5⟩ := hw
        refine hds.wp ho hd hn q1 q2 q5 fun v m' w' hv hm' hH' r => ?_
        refine ih s _ _ _ Fe H hsq (by rw [hset]; omega) (by simpa using hs) (hcl.step hi) (fun x hx => ?_) (fun j hj hjs => ?_) (fun j hj hjs => ?_) hst ?_
        · rw [hset] at hx
          exact hlt x (by rw [hl12]; rcases List.mem_append.1 hx with h | h <;> simp [h])
        · rw [getD_set_ne true (by omega)]; exact h1 j hj hjs
        · rw [getD_set_ne true (by omega)]; exact h2 j hj hjs
        · rw [hset, ← hide_take (F := Fe) hd hdst, ← hl12]
          exact St.put (Nat.blt_eq.mp hdn) hdef hn q2 q3 q4 q5 hv hm' hH' r
      · have hge : k + s ≤ i := by
          rcases Nat.lt_or_ge i (k + s) with h | h
          · rw [h1 i hki h] at hun; cases hun
          · exact h
        have hieq : i = k + s := by
          rcases Nat.lt_or_ge (k + s) i with h | h
          · exfalso
            rcases htail i hio hki (k + s) h with he | ⟨he, _⟩
            · have := listed_false hs (by omega) (edgeT_listed hcl hi he)
              rw [h2 (k + s) (Nat.le_refl _) (by omega)] at this; cases this
            · omega
          · omega
        subst hieq
        have hsq' : s < q := by
          rcases Nat.lt_or_ge s q with h | h
          · exact h
          · exfalso
            refine hfin ⟨?_, by omega⟩
            cases hlf : left ops k listed with
            | nil => rfl
            | cons x l' =>
              obtain ⟨x1, x2, x3⟩ := mem_left.1 (by rw [hlf]; simp : x ∈ left ops k listed)
              rcases htail (k + s) hio hki x.1 (by omega) with he | ⟨_, he⟩
              · have := listed_false hs (by omega) (edgeT_listed hcl hi he)
                rw [x3] at this; cases this
              · omega
        have hdrop : (ops.toList.drop (k + s)).take (q - s) = o :: (ops.toList.drop (k + (s + 1))).take (q - (s + 1)) := by
          rw [List.drop_eq_getElem_cons (by simpa using hio), show q - s = (q - (s + 1)) + 1 from by omega, List.take_succ_cons]
          congr 1
          have := (Array.getElem?_eq_some_iff.1 ho).2
          simpa using this
        rw [hdrop] at hst
        obtain ⟨_, Post, hts, hrest⟩ := hst
        have hfree : ∀ x ∈ left ops k listed, ∀ d, x.2.dst = some d → d ∉ o.looksAt ops ∧ o.dst ≠ some d := fun x hx d hxd => by
          obtain ⟨x1, x2, x3⟩ := mem_left.1 hx
          obtain ⟨_, hap, _⟩ := hl x.1 x1 (hlt x hx)
          obtain ⟨a1, a2, a3⟩ := Oper.apart_spec (apart_at x2 ho (hap s hsq'))
          exact ⟨a1 d hxd, a2 d hxd⟩
        refine hts (hide (left ops k listed) Fe) (fun t ht => ?_) a w hw Q' _ fun sv H' hP a' w' hst' => ?_
        · have : dsts (left ops k listed) t = false := by
            cases hb : dsts (left ops k listed) t with
            | false => rfl
            | true =>
              obtain ⟨x, hx, hxd⟩ := dsts_mem.1 hb
              exact absurd ht (hfree x hx t hxd).1
          unfold hide; rw [this]; rfl
        · refine ih (s + 1) _ _ _ (dstf o Fe sv) H' (by omega) (by rw [left_ge hki]; omega) (by simpa using hs) (hcl.step hi) (fun x hx => ?_) (fun j hj hjs => ?_) (fun j hj hjs => ?_) (hrest sv H' hP) ?_
          · rw [left_ge hki] at hx; exact hlt x hx
          · by_cases hji : k + s = j
            · subst hji; simp [hs, hio]
            · rw [getD_set_ne true hji]; exact h1 j hj (by omega)
          · rw [getD_set_ne true (by omega)]; exact h2 j (by omega) hjs
          · rw [left_ge hki]
            unfold dstf at hst' ⊢
            cases hod : o.dst with
            | none => rw [hod] at hst'; exact hst'
            | some d =>
              rw [hod] at hst'
              simp only at hst' ⊢
              rwa [hide_upd] at hst'
              cases hb : dsts (left ops k listed) d with
              | false => rfl
              | true =>
                obtain ⟨x, hx, hxd⟩ := dsts_mem.1 hb
                exact absurd hod (hfree x hx d hxd).2
theorem Dr.same {l : List NO'} {N : List NW} {F F' : Fr} (h : Dr P ops n H l N F F') : ∀ t, dsts l t = false → F' t = F t := by
  induction h with
  | nil => intro t _; rfl
  | val hd _ _ _ ih =>
    intro t ht
    unfold dsts at ht ih
    rw [List.any_cons] at ht
    simp only [Bool.or_eq_false_iff] at ht
    rw [ih t ht.2]
    exact upd_ne fun e => by have := ht.1; rw [hd, e] at this; simp at this
  | new hd _ _ _ _ _ ih =>
    intro t ht
    unfold dsts at ht ih
    rw [List.any_cons] at ht
    simp only [Bool.or_eq_false_iff] at ht
    exact ih t ht.2
theorem updN_at {E : List NW} {nm : Nat → Nat} {F F' : Fr} {t : Nat} (h : F t = F' t) : updN E nm F t = updN E nm F' t := by
  induction E with
  | nil => exact h
  | cons e E ih =>
    simp only [updN]
    by_cases ht : t = e.d
    · subst ht; rw [upd_eq, upd_eq]
    · rw [upd_ne ht, upd_ne ht]; exact ih
theorem drawL_any {Q' : Exit → Act → World → Prop} {k q : Nat} {late : List NO'} {K : Fr → LH → Prop} {N0 : List NW} (hchk : lateOk ops k q = true) (hlate : ∀ x : NO', x.1 < k → ops[x.1]? = some x.2 → lateB ops k q x.1 = true → x ∈ late)
    (fin : ∀ a w F H, K F H → St C n F H a w → wpList P ops Q' (ops.toList.drop (k + q)) a w)
    (hN : ∀ e ∈ N0, ∃ o, ops[e.idx]? = some o ∧ e.idx < k ∧ o.dst = some e.d ∧ lone ops k e.idx = true ∧ lateB ops k q e.idx = false)
    (hd0 : N0.Pairwise fun a b => a.d ≠ b.d) (hstg : ∀ nm, Stg P C n ops k q late K k ((ops.toList.drop k).take q) (updN N0 nm F') (entN N0 nm ++ H)) :
    ∀ (fuel : Nat) (listed : Array Bool) (a : Act) (w : World) (Nr E : List NW) (nm : Nat → Nat) (F : Fr), (left ops k listed).length + (ops.size - k) ≤ fuel → listed.size = ops.size → Closed ops listed →
      (∀ j, k ≤ j → j < ops.size → listed.getD j true = false) → Dr P ops n H (left ops k listed) Nr F F' → (E ++ Nr).Perm N0 → (∀ e ∈ E, listed.getD e.idx true = true) → St C n (updN E nm F) (entN E nm ++ H) a w →
      wpAny P .any ops Q' fuel listed a w := by
  obtain ⟨hk, hback, hpre, htail, hl0⟩ := lateOk_spec hchk
  have over : ∀ (fuel : Nat) (listed : Array Bool) (a : Act) (w : World) (Nr E : List NW) (nm : Nat → Nat) (F : Fr), (left ops k listed).length + (ops.size - k) ≤ fuel → listed.size = ops.size → Closed ops listed →
      (∀ j, k ≤ j → j < ops.size → listed.getD j true = false) → Dr P ops n H (left ops k listed) Nr F F' → (E ++ Nr).Perm N0 → St C n (updN E nm F) (entN E nm ++ H) a w → (∀ x ∈ left ops k listed, lateB ops k q x.1 = true) →
      wpAny P .any ops Q' fuel listed a w := by
    intro fuel listed a w Nr E nm F hfu hs hcl hl hdr hp hst hall
    have hNr : Nr = [] := by
      cases Nr with
      | nil => rfl
      | cons e Nr =>
        obtain ⟨o, h1, _⟩ := hdr.nw e (by simp)
        obtain ⟨_, _, _, _, _, h2⟩ := hN e (hp.mem_iff.1 (by simp))
        have := hall _ h1
        rw [h2] at this; cases this
    subst hNr
    rw [List.append_nil] at hp
    have hpw : E.Pairwise fun a b => a.d ≠ b.d := (hp.pairwise_iff (fun h => h.symm)).2 hd0
    refine lateRun hchk hlate fin fuel 0 listed a w (updN N0 nm F') (entN N0 nm ++ H) (Nat.zero_le _) hfu hs hcl hall (fun j h1 h2 => by omega) hl (hstg nm) ?_
    refine (hst.perm ((hp.map _).append_right _)).le fun t => ?_
    unfold hide
    cases hb : dsts (left ops k listed) t with
    | true => simp only [if_true]; intro m v _; unfold top; trivial
    | false =>
      simp only [Bool.false_eq_true, if_false]
      rw [← updN_perm hp hpw, updN_at (F := F') (F' := F) (hdr.same t hb)]
      exact Le.refl _
  intro fuel
  induction fuel with
  | zero =>
    intro listed a w Nr E nm F hfu hs hcl hl hdr hp hEl hst
    have hnil : left ops k listed = [] := List.eq_nil_of_length_eq_zero (by omega)
    exact over 0 listed a w Nr E nm F hfu hs hcl hl hdr hp hst (by rw [hnil]; intro x hx; cases hx)
  | succ fuel ih =>
    intro listed a w Nr E nm F hfu hs hcl hl hdr hp hEl hst
    by_cases hall : ∀ x ∈ left ops k listed, lateB ops k q x.1 = true
    · exact over (fuel + 1) listed a w Nr E nm F hfu hs hcl hl hdr hp hst hall
    have hnil : left ops k listed ≠ [] := fun h => hall (by rw [h]; intro x hx; cases hx)
    obtain ⟨x0, hx0, hx0l⟩ : ∃ x ∈ left ops k listed, lateB ops k q x.1 = false := by
      refine Classical.byContradiction fun hne => hall fun x hx => ?_
      cases hb : lateB ops k q x.1 with
      | true => rfl
      | false => exact absurd ⟨x, hx, hb⟩ hne
    have hEN : ∀ e ∈ E, e ∈ N0 := fun e he => hp.mem_iff.1 (by simp [he])
    refine ⟨fun hr => ?_, fun i hi => ?_⟩
    · exfalso
      obtain ⟨⟨i, o⟩, l', hcons⟩ := List.exists_cons_of_ne_nil hnil
      have hmem : (i, o) ∈ left ops k listed := by rw [hcons]; simp
      obtain ⟨h1, h2, h3⟩ := mem_left.1 hmem
      have hready : i ∈ Region.ready .any ops listed := by
        rw [mem_ready]
        refine ⟨h3, o, h2, fun e he hb => ?_⟩
        have hlt := back_spec (hback i (by simp only at h1; omega)) h2 e he hb
        cases hle : listed.getD e.on false with
        | true => rfl
        | false =>
          have hsz : e.on < listed.size := by simp only at h1; omega
          have h4 : listed.getD e.on true = false := by simp [hsz] at hle ⊢; exact hle
          have hm2 : (e.on, ops[e.on]'(by omega)) ∈ left ops k listed := mem_left.2 ⟨by simp only at h1 ⊢; omega, by simp, h4⟩
          have hsort := left_sorted (ops := ops) k listed
          rw [hcons] at hsort hm2
          rcases List.mem_cons.1 hm2 with h | h
          · simp only [Prod.mk.injEq] at h; omega
          · have := (List.pairwise_cons.1 hsort).1 _ h; simp at this; omega
      rw [hr] at hready; cases hready
    · obtain ⟨hun, o, ho, _⟩ := mem_ready.1 hi
      have hlt := (Array.getElem?_eq_some_iff.1 ho).1
      have hik : i < k := by
        rcases Nat.lt_or_ge i k with h | hki
        · exact h
        · exfalso
          obtain ⟨y1, y2, y3⟩ := mem_left.1 hx0
          have he : edgeT ops i x0.1 = true := by
            rcases Nat.lt_or_ge i (k + q) with h | h
            · cases hb : edgeT ops i x0.1 with
              | true => rfl
              | false =>
                have : lateB ops k q x0.1 = true := by
                  unfold lateB
                  rw [List.any_eq_true]
                  exact ⟨i - k, by rw [List.mem_range]; omega, by rw [show k + (i - k) = i from by omega, hb]; rfl⟩
                rw [hx0l] at this; cases this
            · rcases htail i hlt hki x0.1 (by omega) with he | ⟨_, he⟩
              · exact he
              · omega
          have := listed_false hs (by omega) (edgeT_listed hcl hi he)
          rw [y3] at this; cases this
      have hmem : (i, o) ∈ left ops k listed := mem_left.2 ⟨hik, ho, hun⟩
      obtain ⟨l1, l2, hl12⟩ := List.append_of_mem hmem
      have hset := left_set hs hlt hl12
      have hlen : (l1 ++ l2).length + 1 = (left ops k listed).length := by rw [hl12]; simp; omega
      have hsort := left_sorted (ops := ops) k listed
      rw [hl12] at hsort
      have hbefore : ∀ y ∈ l1, o.apart ops y.2 = true := fun y hy => by
        obtain ⟨y1, y2, y3⟩ := mem_left.1 (by rw [hl12]; simp [hy] : y ∈ left ops k listed)
        have hyi : y.1 < i := by
          rw [List.pairwise_append] at hsort
          exact hsort.2.2 y hy (i, o) (by simp)
        rcases hpre i hik y.1 hyi with h | h
        · have := listed_false hs (by omega) (edgeT_listed hcl hi h)
          rw [y3] at this; cases this
        · exact apart_at ho y2 h
      have hEi : ∀ e ∈ E, e.idx ≠ i := fun e he hei => by
        have := hEl e he
        rw [hei, hun] at this; cases this
      have apartE : ∀ e ∈ E, e.d ∉ o.looksAt ops ∧ o.dst ≠ some e.d := fun e he => by
        obtain ⟨oe, e1, e2, e3, e4, _⟩ := hN e (hEN e he)
        exact lone_spec e4 e1 e3 ho hik (fun h => hEi e he h.symm)
      have hEl' : ∀ e ∈ E, (listed.setIfInBounds i true).getD e.idx true = true := fun e he => by
        rw [getD_set_ne true (fun h => hEi e he h.symm)]; exact hEl e he
      rw [hl12] at hdr
      have hl' : ∀ j, k ≤ j → j < ops.size → (listed.setIfInBounds i true).getD j true = false := fun j hj hjs => by
        rw [getD_set_ne true (by omega)]; exact hl j hj hjs
      obtain ⟨d, hd⟩ := hdr.dst (i, o) (by simp)
      have hfr : ∀ t ∈ o.looksAt ops, F t = updN E nm F t := fun t ht => (updN_ne fun e he hed => (apartE e he).1 (hed ▸ ht)).symm
      have hdd : ∀ e ∈ E, e.d ≠ d := fun e he hed => (apartE e he).2 (by rw [hd, hed])
      rcases hdr.pick (x := (i, o)) hd hbefore with ⟨sv, hdn, hds, hdr'⟩ | ⟨N1, N2, e, hNr, hei, hed, hguard, hdn, hT, hdr'⟩
      · have hds' := hds.frame hfr
        obtain ⟨hdef, hn, m, h1, h2, h3, h4, h5⟩ := hst
        refine hds'.wp ho hd hn h1 h2.tail h5 fun v m' w' hv hm' hH' r => ?_
        refine ih _ _ _ Nr E nm (upd F d sv) (by rw [hset]; omega) (by simpa using hs) (hcl.step hi) hl' (by rw [hset]; exact hdr') hp hEl' ?_
        rw [updN_upd hdd]
        exact St.put (Nat.blt_eq.mp hdn) hdef hn h2 h3 h4 h5 hv hm' (h2.beside hH' r) (r.mono fun b hb => by unfold keys at *; rw [List.map_append]; exact List.mem_append_right _ hb)
      · have hw : Region.wanted o (yielded ops a.tmps) = true := by simp only [Region.wanted, (show o.guard = none from hguard)]
        unfold wpOp
        simp only [ho, hw, if_true]
        left
        subst hNr
        simp only at hei
        have hp' : (e :: E ++ (N1 ++ N2)).Perm N0 := by
          refine List.Perm.trans ?_ hp
          exact (List.perm_middle (a := e) (l₁ := E) (l₂ := N1 ++ N2)).symm.trans ((List.perm_middle (a := e) (l₁ := N1) (l₂ := N2)).symm.append_left E)
        have hT' := hT.congr fun t ht => hfr t (looks_op ht)
        have hfacts : ∃ m : Mem, ∀ t, .tmp t ∈ o.op.operands → (updN E nm F t).p m (a.eval (.tmp t)) := by
          obtain ⟨_, _, m, _, _, _, _, h5⟩ := hst
          exact ⟨m, fun t _ => h5 t⟩
        obtain ⟨arr, hrun, hall'⟩ := hT' w o a rfl hfacts
        unfold Oper.wp
        rw [hrun]
        show wpAny P .any ops Q' fuel (listed.setIfInBounds i true) (a.put o.dst _) _
        rw [hd, ← hed]
        have hpush := St.push (T := e.T) (arr := arr) (v := e.val w.heap.size) (Nat.blt_eq.mp (hed ▸ hdn)) hst fun m hm => hall' m fun t _ => hm (.tmp t)
        refine ih _ _ _ (N1 ++ N2) (e :: E) (fun x => if x = i then w.heap.size else nm x) F (by rw [hset]; omega) (by simpa using hs) (hcl.step hi) hl' (by rw [hset]; exact hdr') hp' (fun x hx => ?_) ?_
        · rcases List.mem_cons.1 hx with rfl | hx
          · rw [hei]; simp [hs, hlt]
          · exact hEl' x hx
        have hnm : ∀ x ∈ E, nm x.idx = (fun x => if x = i then w.heap.size else nm x) x.idx := fun x hx => by simp [hEi x hx]
        rw [show updN (e :: E) (fun x => if x = i then w.heap.size else nm x) F = upd (updN E nm F) e.d (lit (e.val w.heap.size)) from by
          simp only [updN, hei, if_true]; rw [← updN_nm hnm]]
        rw [show entN (e :: E) (fun x => if x = i then w.heap.size else nm x) = (w.heap.size, e.T, e.z) :: entN E nm from by
          have := entN_nm (N := E) (nm := nm) (nm' := fun x => if x = i then w.heap.size else nm x) hnm; unfold entN at this ⊢; rw [List.map_cons, ← this]; simp only [hei, if_true]]
        exact hpush
attribute [local semireducible] WP WPL Dk
theorem WP.drawL {id : Nat} {l : List Oper} (k q : Nat) {N : List NW} (hm : P.follows .mixedOrders = true) (hchk : lateOk l.toArray k q = true)
    (hdr : Dr P l.toArray n H (preK 0 k l) N F F') (hlone : ∀ e ∈ N, lone l.toArray k e.idx = true ∧ lateB l.toArray k q e.idx = false)
    (h : ∀ nm : Nat → Nat, Stg P C n l.toArray k q (preK 0 k l) (fun F H => WPL P C n l.toArray (l.drop (k + q)) (fun F H => Q .normal F H) F H) k ((l.drop k).take q) (updN N nm F') (entN N nm ++ H)) :
    WP P C n (.region id l.toArray true) Q F H := by
  rw [preK_eq] at hdr
  intro a w hs
  obtain ⟨hk, hback, hpre, _⟩ := lateOk_spec hchk
  have hmem : ∀ e ∈ N, ∃ o, l.toArray[e.idx]? = some o ∧ e.idx < k ∧ o.dst = some e.d ∧ lone l.toArray k e.idx = true ∧ lateB l.toArray k q e.idx = false := fun e he => by
    obtain ⟨o, h1, h2⟩ := hdr.nw e he
    have := (mem_all (ops := l.toArray)).1 (by simpa using h1)
    exact ⟨o, this.2, this.1, h2, hlone e he⟩
  have hsort : (((l.zipIdx.map fun p => (p.2, p.1)).take k).map (·.1)).Pairwise (· < ·) := by
    rw [List.pairwise_map]
    refine List.Pairwise.sublist (List.take_sublist _ _) ?_
    rw [List.pairwise_iff_getElem]
    intro i j hi hj hij
    simpa using hij
  have hidx : N.Pairwise fun a b => a.idx < b.idx := by
    have := List.Pairwise.sublist hdr.sub hsort
    rwa [List.pairwise_map] at this
  refine wp_mono (Q := liftQ C n (fun e F H => e = .normal ∧ Q .normal F H)) (wp_region_any hm ?_) (fun e a w h => h.imp (fun ⟨F, H, hs, he, hq⟩ => ⟨F, H, hs, he ▸ hq⟩) fun h => h)
  refine drawL_any (C := C) (n := n) (H := H) (F' := F') (N0 := N) (k := k) (q := q) (late := preK 0 k l) (K := fun F H => WPL P C n l.toArray (l.drop (k + q)) (fun F H => Q .normal F H) F H) hchk ?_ ?_ hmem ?_ h l.toArray.size (Array.replicate l.toArray.size false) a { w with drawn := w.drawn + 1 } N [] (fun _ => 0) F ?_ (by simp) (fun m j hm => by by_cases hlt : m < l.length <;> simp [hlt] at hm) ?_ ?_ (by simp) (fun e he => by cases he) ?_
  · intro x hx ho _
    rw [preK_eq]
    have := (mem_all (ops := l.toArray) (o := x.2) (i := x.1) (k := k)).2 ⟨hx, ho⟩
    simpa using this
  · intro a' w' F1 H1 hK hst
    exact hK a' w' hst _ ⟨fun a2 w2 F2 H2 hs2 hq => .mk hs2 ⟨rfl, hq⟩, fun ch _ _ hp => .inr ⟨ch, rfl, hp⟩⟩
  · refine List.Pairwise.imp_of_mem (R := fun a b => a.idx < b.idx) ?_ hidx
    intro x y hx hy hlt hxy
    obtain ⟨ox, x1, x2, x3, x4, _⟩ := hmem x hx
    obtain ⟨oy, y1, y2, y3, y4, _⟩ := hmem y hy
    exact (lone_spec y4 y1 y3 x1 x2 (by omega)).2 (by rw [x3, hxy])
  · have : (left l.toArray k (Array.replicate l.toArray.size false)).length ≤ k := by
      unfold left
      refine Nat.le_trans (List.length_filter_le _ _) ?_
      simp; omega
    omega
  · intro j _ hj
    have hj' : j < l.length := by simpa using hj
    simp [hj']
  · have : left l.toArray k (Array.replicate l.toArray.size false) = (l.zipIdx.map fun p => (p.2, p.1)).take k := by
      unfold left
      rw [List.filter_eq_self.2]
      intro x hx
      obtain ⟨h1, h2⟩ := (mem_all (ops := l.toArray)).1 hx
      have := (Array.getElem?_eq_some_iff.1 h2).1
      have hj' : x.1 < l.length := by simpa using this
      simp [hj']
    rw [this]; exact hdr
  · obtain ⟨hdef, hn, m, h1, h2, h3, h4, h5⟩ := hs
    exact ⟨hdef, hn, m, ⟨h1.at', h1.base⟩, ⟨h2.1, h2.2⟩, ⟨h3.le, h3.old, h3.os, h3.tape, h3.output, h3.size, h3.block⟩, h4, h5⟩
def dL (P : Program) (C : Ctx) (n k q : Nat) (l : List Oper) (Q : Exit → Fr → LH → Prop) (H : LH) : List NW → Fr → Prop := fun N F' =>
  (∀ e ∈ N, lone l.toArray k e.idx = true ∧ lateB l.toArray k q e.idx = false) ∧
  ∀ nm : Nat → Nat, Stg P C n l.toArray k q (preK 0 k l) (fun F H => WPL P C n l.toArray (l.drop (k + q)) (fun F H => Q .normal F H) F H) k ((l.drop k).take q) (updN N nm F') (entN N nm ++ H)
theorem WdL {id : Nat} {l : List Oper} (k q : Nat) (h : Dk P l.toArray n H (preK 0 k l) (dL P C n k q l Q H) F) (hm : P.follows .mixedOrders = true := by kernel_rfl) (hchk : lateOk l.toArray k q = true := by decide +kernel) : WP P C n (.region id l.toArray true) Q F H := by
  obtain ⟨N, F', h1, h2⟩ := h
  exact WP.drawL k q hm hchk h1 h2.1 h2.2
section
variable {k q : Nat} {l : List Oper} {e1 e2 : NW}
theorem dL0 (h : Stg P C n l.toArray k q (preK 0 k l) (fun F H => WPL P C n l.toArray (l.drop (k + q)) (fun F H => Q .normal F H) F H) k ((l.drop k).take q) F H) : dL P C n k q l Q H [] F := ⟨(fun e he => by cases he), fun _ => h⟩
theorem dL1 (h : ∀ b, Stg P C n l.toArray k q (preK 0 k l) (fun F H => WPL P C n l.toArray (l.drop (k + q)) (fun F H => Q .normal F H) F H) k ((l.drop k).take q) (upd F e1.d (lit (e1.val b))) ((b, e1.T, e1.z) :: H))
    (h1 : lone l.toArray k e1.idx = true := by kernel_rfl) (h2 : lateB l.toArray k q e1.idx = false := by kernel_rfl) : dL P C n k q l Q H [e1] F :=
  ⟨(fun e he => by obtain rfl := List.mem_singleton.1 he; exact ⟨h1, h2⟩), fun nm => h (nm e1.idx)⟩
theorem dL2 (h : ∀ b c, Stg P C n l.toArray k q (preK 0 k l) (fun F H => WPL P C n l.toArray (l.drop (k + q)) (fun F H => Q .normal F H) F H) k ((l.drop k).take q) (upd (upd F e2.d (lit (e2.val c))) e1.d (lit (e1.val b))) ((b, e1.T, e1.z) :: (c, e2.T, e2.z) :: H))
    (h1 : lone l.toArray k e1.idx = true := by kernel_rfl) (h2 : lateB l.toArray k q e1.idx = false := by kernel_rfl) (h3 : lone l.toArray k e2.idx = true := by kernel_rfl) (h4 : lateB l.toArray k q e2.idx = false := by kernel_rfl) : dL P C n k q l Q H [e1, e2] F :=
  ⟨(fun e he => by
    rcases List.mem_cons.1 he with rfl | he
    · exact ⟨h1, h2⟩
    · obtain rfl := List.mem_singleton.1 he; exact ⟨h3, h4⟩), fun nm => h (nm e1.idx) (nm e2.idx)⟩
variable {late : List NO'} {K : Fr → LH → Prop} {i d : Nat} {ty : TypeId} {pos : String} {aft : Array Edge}
theorem Lsk {o : Oper} {r : List NO'} (h : LOk P ops k q n H F r) (hl : lateB ops k q i = false := by decide +kernel) : LOk P ops k q n H F ((i, o) :: r) := .skip hl h
theorem Lcv {op : Op} {sv : SV} {r : List NO'} (h : LOk P ops k q n H F r) (hop : OpV P op ty F H sv := by exact Ov0) (hsv : F d = sv := by exact rfl) (hd : Nat.blt d n = true := by exact rfl) : LOk P ops k q n H F ((i, ⟨some d, op, ty, pos, aft, none⟩) :: r) := .cons rfl hd hop hsv h
theorem Gs {T T' : TypeId} {sz by_ : Nat} {z : List SV} {g : Bool} [hT : TY P T sz by_ z g] {x v : Operand} {b o : Nat} {sv : SV} {cs cs' ds : List SV} {H' : LH} {r : List Oper}
    (hx : ev F x = lit (.pointer (some ⟨b, o, none⟩))) (hv : ev F v = sv) [hco : CO sv ds] (hlen : Nat.beq ds.length sz = true) (hu : HUpd b T' cs cs' H H') (hsp : spl cs o ds = cs') (hle : Nat.ble (o + sz) cs.length = true)
    (hl : LOk P ops k q n H F late) (h : Stg P C n ops k q late K (i + 1) r F H') (ho : ops[i]? = some ⟨none, .store T x v, ty, pos, aft, none⟩ := by exact rfl) : Stg P C n ops k q late K i (⟨none, .store T x v, ty, pos, aft, none⟩ :: r) F H :=
  ⟨hl, _, (TS.store (s0 := lit undef) ho hx hv hlen hu hsp hle).toR, fun _ _ ⟨e1, e2⟩ => by subst e1; subst e2; exact h⟩
theorem Gn (hl : LOk P ops k q n H F late) (h : K F H) : Stg P C n ops k q late K i [] F H := ⟨hl, h⟩
end
end
def rvAt (l m : List UInt8) (i : Nat) : Prop := m.length = l.length ∧ ∀ p, p < l.length → m.getD p 0 = if p < i ∨ l.length - i ≤ p then l.getD (l.length - 1 - p) 0 else l.getD p 0
theorem rvAt_zero (l : List UInt8) : rvAt l l 0 := ⟨rfl, fun p hp => by rw [if_neg (by omega)]⟩
theorem rvAt_step {l m : List UInt8} {i : Nat} (h : rvAt l m i) (hi : i + 1 ≤ l.length - 1 - i) : rvAt l ((m.set i (m.getD (l.length - 1 - i) 0)).set (l.length - 1 - i) (m.getD i 0)) (i + 1) := by
  obtain ⟨h1, h2⟩ := h
  refine ⟨by rw [List.length_set, List.length_set, h1], fun p hp => ?_⟩
  have ei := h2 i (by omega)
  have ej := h2 (l.length - 1 - i) (by omega)
  rw [if_neg (by omega)] at ei ej
  have g : ∀ (x : List UInt8) (k : Nat) (v : UInt8) (q : Nat), k < x.length → (x.set k v).getD q 0 = if q = k then v else x.getD q 0 := fun x k v q hk => by
    simp only [List.getD, List.getElem?_set]
    by_cases e : k = q
    · subst e; simp [hk]
    · simp [e, Ne.symm e]
  rw [g _ _ _ _ (by rw [List.length_set]; omega), g _ _ _ _ (by omega), ei, ej]
  by_cases p1 : p = l.length - 1 - i
  · subst p1
    rw [if_pos rfl, if_pos (by omega)]
    congr 1; omega
  · rw [if_neg p1]
    by_cases p2 : p = i
    · subst p2
      rw [if_pos rfl, if_pos (by omega)]
    · rw [if_neg p2, h2 p hp]
      by_cases p3 : p < i ∨ l.length - i ≤ p
      · rw [if_pos p3, if_pos (by omega)]
      · rw [if_neg p3, if_neg (by omega)]
theorem rvAt_end {l m : List UInt8} {i : Nat} (h : rvAt l m i) (hi : l.length ≤ 2 * i + 1) (hi2 : 2 * i ≤ l.length + 1) : m = l.reverse := by
  obtain ⟨h1, h2⟩ := h
  apply List.ext_getElem?
  intro p
  by_cases hp : p < l.length
  · have h3 := h2 p hp
    have hm : p < m.length := by omega
    have e1 : m[p]? = some (m.getD p 0) := by simp [List.getD, hm]
    rw [e1, h3, List.getElem?_reverse hp]
    have hl : l.length - 1 - p < l.length := by omega
    by_cases p3 : p < i ∨ l.length - i ≤ p
    · rw [if_pos p3]; simp [List.getD, hl]
    · rw [if_neg p3]
      have : p = l.length - 1 - p := by omega
      rw [← this]; simp [List.getD, hp]
  · rw [List.getElem?_eq_none (by omega), List.getElem?_eq_none (by simp; omega)]
theorem bys_get {l : List UInt8} {rest : List SV} {i : Nat} (h : i < l.length) : (bys l ++ rest)[i]? = some (lit (.int .u8 ((l.getD i 0).toNat : Nat))) := by
  rw [List.getElem?_append_left (by rw [bys_len]; exact h)]
  simp [bys, List.getD, h]
theorem bys_set {l : List UInt8} {rest : List SV} {i : Nat} (h : i < l.length) (x : UInt8) : spl (bys l ++ rest) i [lit (.int .u8 (x.toNat : Nat))] = bys (l.set i x) ++ rest := by
  simp only [spl]
  rw [List.set_append_left _ _ (by rw [bys_len]; exact h)]
  unfold bys
  rw [List.map_set]
theorem ble_bys {l : List UInt8} {rest : List SV} {i : Nat} (h : i < l.length) : Nat.ble (i + 1) (bys l ++ rest).length = true := by
  apply Nat.ble_eq_true_of_le
  rw [List.length_append, bys_len]; omega
theorem reverse_pu (b c : Nat) (l : List UInt8) (rest : List SV) (hl : l.length ≤ 1000000000) :
    PuH Tryz.prog 327 [lit (.slice (some ⟨b, 0, none⟩) l.length c)] [(b, 5, bys l ++ rest)] (fun r H => r = Ab.tup [] ∧ H = [(b, 5, bys l.reverse ++ rest)]) noX := by
  refine PuH.intro Tryz.func327 rfl (by kernel_rfl) fun C hC => ?_
  repeat (refine A1 ⟨?_⟩; intros)
  refine WP.loopS (ι := Nat × List UInt8) (fun x => rvAt l x.2 x.1 ∧ 2 * x.1 ≤ l.length + 1) (fun x => l.length - x.1) (fun x => fm [(0, lit (.slice (some ⟨b, 0, none⟩) l.length c)), (2, lit (.int .i64 x.1)), (3, lit (.int .i64 ((l.length : Int) - 1 - x.1)))]) (fun x => [(b, 5, bys x.2 ++ rest)]) (0, l) ⟨rvAt_zero l, by omega⟩ ?_ (List.Sublist.refl _) ?_
  · exact LeF.cons (Le.refl _) (LeF.cons (Le.refl _) (LeF.cons (Le.int (by simp)) (LeF.nil _)))
  · rintro ⟨i, m⟩ ⟨hm, hi⟩ K hK
    simp only at hi hm ⊢
    have hml := hm.1
    by_cases hc : (i : Int) < (l.length : Int) - 1 - i
    · have ej : (l.length : Int) - 1 - i = ((l.length - 1 - i : Nat) : Int) := by omega
      rw [ej] at hc ⊢
      generalize hj : l.length - 1 - i = j at hc ⊢
      repeat (first | (refine AS ⟨?_⟩; intros) | (refine O1 ⟨?_⟩; intros))
      refine WdL 13 1 ?_
      repeat (refine A1 ⟨?_⟩; intros)
      refine Wdo (ov_loadL rfl (by repeat (first | exact List.mem_cons_self | apply List.mem_cons_of_mem)) (bys_get (by omega))) ?_
      repeat (refine A1 ⟨?_⟩; intros)
      refine Wdo (ov_loadL rfl (by repeat (first | exact List.mem_cons_self | apply List.mem_cons_of_mem)) (bys_get (by omega))) ?_
      repeat (refine A1 ⟨?_⟩; intros)
      refine dL0 ?_
      refine Gs (b := b) (o := i) (sv := lit (.int .u8 ((m.getD j 0).toNat : Nat))) (cs' := bys (m.set i (m.getD j 0)) ++ rest) rfl rfl rfl (.here _) (bys_set (by omega) _) (ble_bys (by omega)) ?_ ?_
      · (repeat (first | exact LOk.nil | refine Lsk ?_ | refine Lcv ?_))
      refine Gn ?_ ?_
      · (repeat (first | exact LOk.nil | refine Lsk ?_ | refine Lcv ?_))
      repeat (refine A1 ⟨?_⟩; intros)
      refine WPL.store (b := b) (o := j) (sv := lit (.int .u8 ((m.getD i 0).toNat : Nat))) (cs' := bys ((m.set i (m.getD j 0)).set j (m.getD i 0)) ++ rest) rfl rfl rfl (.here _) (bys_set (by rw [List.length_set]; omega) _) (ble_bys (by rw [List.length_set]; omega)) ?_
      repeat (refine A1 ⟨?_⟩; intros)
      subst hj
      refine hK _ _ (i + 1, _) ⟨rvAt_step hm (by omega), by omega⟩ (by simp only; omega) ?_ (List.Sublist.refl _)
      exact LeF.cons (Le.refl _) (LeF.cons (Le.int (by simp)) (LeF.cons (Le.int (by simp only; omega)) (LeF.nil _)))
    · repeat (refine A1 ⟨?_⟩; intros)
      refine endHN _ _ end0 (List.Sublist.refl _) ⟨rfl, ?_⟩
      rw [rvAt_end hm (by omega) (by omega)]
theorem dgs_one : dgs 1 = [1] := by rw [dgs]; simp [dgs_zero]
section
variable {P : Program} {F : Fr} {H : LH} {ty : TypeId}
end
theorem pow32 {s : Nat} (h : s < 32) : 2 ^ s ≤ 2147483648 ∧ 0 < 2 ^ s ∧ 2 ^ s * 2 ^ (32 - s) = 4294967296 := by
  refine ⟨?_, Nat.pow_pos (by omega), ?_⟩
  · have := Nat.pow_le_pow_right (n := 2) (by omega) (show s ≤ 31 by omega); simpa using this
  · rw [← Nat.pow_add, show s + (32 - s) = 32 by omega]
theorem shl_halves {d s : Nat} (hs : s < 32) (hd : d < 4294967296) : d * 2 ^ s ≤ 18446744073709551615 ∧ d * 2 ^ s / 4294967296 < 2 ^ s ∧ ∃ y, d * 2 ^ s % 4294967296 = 2 ^ s * y ∧ 2 ^ s * y + 2 ^ s ≤ 4294967296 := by
  obtain ⟨h1, h2, h3⟩ := pow32 hs
  have hm : d * 2 ^ s ≤ 4294967295 * 2 ^ s := Nat.mul_le_mul_right _ (by omega)
  refine ⟨by omega, ?_, d % 2 ^ (32 - s), ?_, ?_⟩
  · rw [Nat.div_lt_iff_lt_mul (by omega)]
    have : d * 2 ^ s < 4294967296 * 2 ^ s := Nat.mul_lt_mul_of_pos_right hd h2
    rw [Nat.mul_comm (2 ^ s)]; exact this
  · rw [← h3, Nat.mul_comm d, Nat.mul_mod_mul_left]
  · have : d % 2 ^ (32 - s) < 2 ^ (32 - s) := Nat.mod_lt _ (Nat.pow_pos (by omega))
    have h4 : 2 ^ s * (d % 2 ^ (32 - s) + 1) ≤ 2 ^ s * 2 ^ (32 - s) := Nat.mul_le_mul_left _ this
    rw [h3, Nat.mul_add, Nat.mul_one] at h4; exact h4
set_option maxHeartbeats 2000000 in
theorem shl_cap (xs : List Nat) (s : Nat) (hla : xs.length ≤ 100000000) (hA : D xs) (hs : s < 32) (h0 : val xs ≠ 0) : Pu Tryz.prog 385 [dg xs, lit (.int .u64 s)] (dgc (dgs (val xs * 2 ^ s)) ((dgs (val xs)).length + 1)) := by
  obtain ⟨p, t1, h1, hP, hva, hpd⟩ := trimmed xs hla (by omega) hA
  rw [← hva] at h0
  rw [← hpd, ← hva]
  obtain ⟨w1, w2, w3⟩ := pow32 hs
  refine Pu.intro Tryz.func385 rfl (by kernel_rfl) fun C => ?_
  repeat (refine A1 ⟨?_⟩; intros)
  refine Wc t1 ?_
  have hpos : 0 < p.length := List.length_pos_iff.2 fun e => h0 (by rw [e]; rfl)
  repeat (refine A1 ⟨?_⟩; intros)
  refine WmkD (p.length + 1) rfl rfl (by omega) (by omega) fun bb => ?_
  repeat (refine A1 ⟨?_⟩; intros)
  refine WP.loop (ι := Nat × List Nat) (fun st => st.1 ≤ p.length ∧ st.2.length = p.length + 1 ∧ D st.2 ∧ val st.2 = val (p.take st.1) * 2 ^ s ∧ st.2.getD st.1 0 < 2 ^ s ∧ ∀ j, st.1 < j → st.2.getD j 0 = 0) (fun st => p.length - st.1)
    (fun st => fm [(5, lit (.int .i64 0)), (6, lit (.int .u64 s)), (7, lit (.slice (some ⟨bb, 0, none⟩) (p.length + 1) (p.length + 1))), (29, dg p), (30, lit (.int .i64 p.length)), (31, lit (.int .i64 st.1))])
    (fun st => [(bb, 65, dcells st.2)]) (0, List.replicate (p.length + 1) 0) ⟨Nat.zero_le _, by simp, D.rep _, by simp [val, val_rep], by simp [List.getD]; omega, fun j _ => by simp [List.getD, List.getElem?_replicate]; split <;> simp⟩ (by (repeat (first | exact LeF.nil _ | refine LeF.cons (Le.refl _) ?_ | refine LeF.cons (Le.int (by omega)) ?_))) rfl ?_
  rintro ⟨k, os⟩ ⟨hk, hol, hO, hval, hlo, hz⟩ K hK
  simp only at hk hol hO hval hlo hz ⊢
  by_cases hkl : k < p.length
  · have hx := hP.get k
    obtain ⟨a1, a2, y, a3, a4⟩ := shl_halves (d := p.getD k 0) hs hx
    have hz1 := hz (k + 1) (by omega)
    repeat (refine A1 ⟨?_⟩; intros)
    rw [shlN (p.getD k 0) s (by omega) a1]
    repeat (refine A1 ⟨?_⟩; intros)
    refine Wo (ov_or rfl rfl (or32 (os.getD k 0) y s rfl (by rw [← a3, Int.natCast_emod]; rfl) hlo (by omega))) ?_
    repeat (refine A1 ⟨?_⟩; intros)
    refine WstD (2 ^ s * y + os.getD k 0) rfl rfl rfl (HUpd.here _) (by omega) ?_
    repeat (refine A1 ⟨?_⟩; intros)
    refine WstD (p.getD k 0 * 2 ^ s / 4294967296) rfl rfl (by omega) (HUpd.here _) (by simp; omega) ?_
    repeat (refine A1 ⟨?_⟩; intros)
    refine hK _ _ (k + 1, (os.set k (2 ^ s * y + os.getD k 0)).set (k + 1) (p.getD k 0 * 2 ^ s / 4294967296)) ⟨by simp only; omega, by simpa using hol, (hO.set _ (by omega)).set _ (by omega), ?_, ?_, ?_⟩ (by simp only; omega) (by (repeat (first | exact LeF.nil _ | refine LeF.cons (Le.refl _) ?_ | refine LeF.cons (Le.int (by omega)) ?_))) rfl
    · simp only
      have e1 := val_set os k (2 ^ s * y + os.getD k 0) (by omega)
      have e2 := val_set (os.set k (2 ^ s * y + os.getD k 0)) (k + 1) (p.getD k 0 * 2 ^ s / 4294967296) (by simp; omega)
      rw [getD_set_ne' _ _ _ _ (by omega), hz1, Nat.mul_zero, Nat.add_zero] at e2
      rw [e2, val_take_succ', Nat.add_mul, ← hval, Nat.mul_assoc (4294967296 ^ k)]
      have e3 := Nat.div_add_mod (p.getD k 0 * 2 ^ s) 4294967296
      have e4 : 4294967296 ^ k * (p.getD k 0 * 2 ^ s) = 4294967296 ^ (k + 1) * (p.getD k 0 * 2 ^ s / 4294967296) + 4294967296 ^ k * (2 ^ s * y) := by
        conv => lhs; rw [← e3]
        rw [Nat.mul_add, a3, Nat.pow_succ, Nat.mul_assoc]
      rw [e4]
      rw [Nat.mul_add] at e1
      omega
    · simp only
      rw [show ((os.set k (2 ^ s * y + os.getD k 0)).set (k + 1) (p.getD k 0 * 2 ^ s / 4294967296)).getD (k + 1) 0 = p.getD k 0 * 2 ^ s / 4294967296 from by
        have : k + 1 < os.length := by omega
        simp [List.getD, this]]
      exact a2
    · intro j hj
      simp only at hj ⊢
      rw [getD_set_ne' _ _ _ _ (by omega), getD_set_ne' _ _ _ _ (by omega)]
      exact hz j (by omega)
  · have hke : k = p.length := by omega
    subst hke
    rw [List.take_length] at hval
    repeat (refine A1 ⟨?_⟩; intros)
    refine WpubC (ds := os) 60 rfl (HDel.here _) hol (by omega) (by omega) ?_
    refine Wc (trim_cap os _ (by omega)) ?_
    rw [trimL_eq hO, hval]
    repeat (refine A1 ⟨?_⟩; intros)
    ((first | refine endR ?_ | refine endN ?_); exact end1 (RV.tmp rfl) (Le.refl _))
theorem shl_nat (xs : List Nat) (s : Nat) (hla : xs.length ≤ 100000000) (hA : D xs) (hs : s < 32) : Pu Tryz.prog 385 [dg xs, lit (.int .u64 s)] (nat (val xs * 2 ^ s)) := by
  by_cases h0 : val xs = 0
  · obtain ⟨p, t1, h1, hP, hva, hpd⟩ := trimmed xs hla (by omega) hA
    have hp : p = [] := by rw [hpd, h0, dgs_zero]
    subst hp
    rw [h0]
    refine Pu.intro Tryz.func385 rfl (by kernel_rfl) fun C => ?_
    repeat (refine A1 ⟨?_⟩; intros)
    refine Wc t1 ?_
    repeat (refine A1 ⟨?_⟩; intros)
    refine endR (end1 (RV.tmp rfl) ?_)
    simp only [Nat.zero_mul]
    rw [show nat 0 = dg [] from by show dg (dgs 0) = _; rw [dgs_zero]]
    exact le_nil
  · exact (shl_cap xs s hla hA hs h0).le (dgc_dg _ _)
theorem shr_digit {V p q r s : Nat} (k : Nat) (hs : s < 32) (h : V / 4294967296 ^ k = p + 4294967296 * (q + 4294967296 * r)) : V / 2 ^ s / 4294967296 ^ k % 4294967296 = (p + q * 4294967296) / 2 ^ s % 4294967296 := by
  obtain ⟨w1, w2, w3⟩ := pow32 hs
  rw [Nat.div_div_eq_div_mul, Nat.mul_comm, ← Nat.div_div_eq_div_mul, h]
  have e : p + 4294967296 * (q + 4294967296 * r) = (p + q * 4294967296) + 2 ^ s * (4294967296 * (2 ^ (32 - s) * r)) := by
    rw [← Nat.mul_assoc (2 ^ s), Nat.mul_comm (2 ^ s), Nat.mul_assoc, ← Nat.mul_assoc (2 ^ s), w3, Nat.mul_add, Nat.mul_comm q]; omega
  rw [e, Nat.add_mul_div_left _ _ w2, Nat.add_mul_mod_self_left]
theorem val_div_pow (ds : List Nat) (hD : D ds) (k : Nat) (hk : k ≤ ds.length) : val ds / 4294967296 ^ k = val (ds.drop k) := by
  rw [val_split ds k hk, Nat.add_mul_div_left _ _ (Nat.pow_pos (by omega)), Nat.div_eq_of_lt, Nat.zero_add]
  have h := val_lt (hD.take k)
  rw [List.length_take, Nat.min_eq_left hk] at h; exact h
theorem drop_two (ds : List Nat) (k : Nat) (hk : k < ds.length) : val (ds.drop k) = ds.getD k 0 + 4294967296 * (ds.getD (k + 1) 0 + 4294967296 * val (ds.drop (k + 2))) := by
  rw [drop_getD ds k hk, val_cons]
  by_cases h : k + 1 < ds.length
  · rw [drop_getD ds (k + 1) h, val_cons]
  · rw [List.drop_eq_nil_of_le (by omega), List.drop_eq_nil_of_le (by omega), show ds.getD (k + 1) 0 = 0 from by simp [List.getD, List.getElem?_eq_none (show ds.length ≤ k + 1 by omega)]]; simp [val]
set_option maxHeartbeats 2000000 in
theorem shr_nat (xs : List Nat) (s : Nat) (hla : xs.length ≤ 100000000) (hA : D xs) (hs : s < 32) : Pu Tryz.prog 386 [dg xs, lit (.int .u64 s)] (nat (val xs / 2 ^ s)) := by
  obtain ⟨p, t1, h1, hP, hva, hpd⟩ := trimmed xs hla (by omega) hA
  rw [← hva]
  obtain ⟨w1, w2, w3⟩ := pow32 hs
  refine Pu.intro Tryz.func386 rfl (by kernel_rfl) fun C => ?_
  repeat (refine A1 ⟨?_⟩; intros)
  refine Wc t1 ?_
  by_cases h0 : p = []
  · subst h0
    repeat (refine A1 ⟨?_⟩; intros)
    refine endR (end1 (RV.tmp rfl) ?_)
    simp only [val, Nat.zero_div]
    rw [show nat 0 = dg [] from by show dg (dgs 0) = _; rw [dgs_zero]]
    exact le_nil
  · have hpos := List.length_pos_iff.2 h0
    repeat (refine A1 ⟨?_⟩; intros)
    refine WmkD p.length rfl rfl (by omega) (by omega) fun bb => ?_
    repeat (refine A1 ⟨?_⟩; intros)
    refine WP.loop (ι := Nat × List Nat) (fun st => st.1 ≤ p.length ∧ st.2.length = p.length ∧ D st.2 ∧ val (st.2.take st.1) = val p / 2 ^ s % 4294967296 ^ st.1) (fun st => p.length - st.1)
      (fun st => fm [(0, dg p), (5, lit (.int .i64 0)), (6, lit (.int .u64 s)), (7, lit (.slice (some ⟨bb, 0, none⟩) p.length p.length)), (29, lit (.int .i64 p.length)), (30, lit (.int .i64 st.1))])
      (fun st => [(bb, 65, dcells st.2)]) (0, List.replicate p.length 0) ⟨Nat.zero_le _, by simp, D.rep _, by simp [val, Nat.mod_one]⟩ (by (repeat (first | exact LeF.nil _ | refine LeF.cons (Le.refl _) ?_ | refine LeF.cons (Le.int (by omega)) ?_))) rfl ?_
    rintro ⟨k, os⟩ ⟨hk, hol, hO, hval⟩ K hK
    simp only at hk hol hO hval ⊢
    by_cases hkl : k < p.length
    · have hx := hP.get k
      have hx1 := hP.get (k + 1)
      repeat (refine A1 ⟨?_⟩; intros)
      refine WP.via (fun F H => LeF F (fm [(0, dg p), (5, lit (.int .i64 0)), (6, lit (.int .u64 s)), (7, lit (.slice (some ⟨bb, 0, none⟩) p.length p.length)), (8, lit (.int .i64 k)), (9, lit (.int .u64 (p.getD k 0 + p.getD (k + 1) 0 * 4294967296 : Nat))), (29, lit (.int .i64 p.length)), (30, lit (.int .i64 k))]) ∧ H = [(bb, 65, dcells os)]) ?_ ?_
      · refine WPd (fun h => ?_) (fun h => ?_)
        · repeat (refine A1 ⟨?_⟩; intros)
          refine Wo (ov_or rfl rfl (or64' (p.getD (k + 1) 0) (p.getD k 0) rfl rfl hx1 hx)) ?_
          repeat (refine A1 ⟨?_⟩; intros)
          exact ⟨by (repeat (first | exact LeF.nil _ | refine LeF.cons (Le.refl _) ?_ | refine LeF.cons (Le.int (by omega)) ?_)), rfl⟩
        · have h0 : p.getD (k + 1) 0 = 0 := by simp [List.getD, List.getElem?_eq_none (show p.length ≤ k + 1 by omega)]
          repeat (refine A1 ⟨?_⟩; intros)
          exact ⟨by (repeat (first | exact LeF.nil _ | refine LeF.cons (Le.refl _) ?_ | refine LeF.cons (Le.int (by omega)) ?_)), rfl⟩
      · rintro F H ⟨hF, rfl⟩
        refine WP.le hF ?_
        repeat (refine A1 ⟨?_⟩; intros)
        rw [shrN _ s (by omega)]
        refine WstD ((p.getD k 0 + p.getD (k + 1) 0 * 4294967296) / 2 ^ s % 4294967296) rfl rfl (by rw [Int.natCast_emod]; rfl) (HUpd.here _) (by omega) ?_
        repeat (refine A1 ⟨?_⟩; intros)
        refine hK _ _ (k + 1, os.set k ((p.getD k 0 + p.getD (k + 1) 0 * 4294967296) / 2 ^ s % 4294967296)) ⟨by simp only; omega, by simpa using hol, hO.set _ (by omega), ?_⟩ (by simp only; omega) (by (repeat (first | exact LeF.nil _ | refine LeF.cons (Le.refl _) ?_ | refine LeF.cons (Le.int (by omega)) ?_))) rfl
        simp only
        rw [val_take_set _ _ _ (by omega), hval, Nat.mod_pow_succ, shr_digit k hs ((val_div_pow p hP k hk).trans (drop_two p k hkl))]
    · have hke : k = p.length := by omega
      subst hke
      rw [Nat.mod_eq_of_lt (Nat.lt_of_le_of_lt (Nat.div_le_self _ _) (val_lt hP)), List.take_of_length_le (by omega)] at hval
      repeat (refine A1 ⟨?_⟩; intros)
      refine WpubD (ds := os) 66 rfl (HDel.here _) hol (by omega) (by omega) ?_
      refine Wc (trim_nat os (by omega) hO) ?_
      rw [hval]
      repeat (refine A1 ⟨?_⟩; intros)
      ((first | refine endR ?_ | refine endN ?_); exact end1 (RV.tmp rfl) (Le.refl _))
section
variable {B top sec third first rest g V W P vl wl : Nat}
theorem guess_more (hV : V = (top * B + sec) * P + vl) (hW : W = (first * B + third) * P + wl) (hw : wl < P) (hg : g * top + rest = first) (h : rest * B + third < g * sec) : W < g * V := by
  have h1 : first * B + third + 1 ≤ g * (top * B + sec) := by
    rw [← hg, Nat.mul_add, Nat.add_mul, ← Nat.mul_assoc]; omega
  have h2 := Nat.mul_le_mul_right P h1
  rw [hW, hV, Nat.mul_add, ← Nat.mul_assoc]
  rw [Nat.add_mul, Nat.one_mul] at h2
  omega
theorem guess_first (hV : V = (top * B + sec) * P + vl) (hW : W = (first * B + third) * P + wl) (hw : wl < P) (ht : third < B) (hg : first < (g + 1) * top) : W < (g + 1) * V := by
  have h1 : (first + 1) * B ≤ (g + 1) * top * B := Nat.mul_le_mul_right B hg
  have h2 : first * B + third + 1 ≤ (g + 1) * (top * B + sec) := by
    rw [Nat.mul_add, ← Nat.mul_assoc]; rw [Nat.add_mul, Nat.one_mul] at h1; omega
  have h3 := Nat.mul_le_mul_right P h2
  rw [hW, hV, Nat.mul_add (g + 1), ← Nat.mul_assoc]
  rw [Nat.add_mul, Nat.one_mul] at h3
  omega
theorem guess_last (hV : V = (top * B + sec) * P + vl) (hW : W = (first * B + third) * P + wl) (hv : vl < P) (hg : g * top + rest = first) (h : g * sec ≤ rest * B + third) (hB : g < B) (ht : 1 ≤ top) : g * V ≤ W + V := by
  have h1 : g * (top * B + sec) ≤ first * B + third := by
    rw [← hg, Nat.mul_add, Nat.add_mul, ← Nat.mul_assoc]; omega
  have h2 := Nat.mul_le_mul_right P h1
  have h3 : g * vl ≤ B * P := Nat.mul_le_mul (by omega) (by omega)
  have h4 : B * P ≤ (top * B + sec) * P := Nat.mul_le_mul_right P (by have := Nat.mul_le_mul_right B ht; omega)
  rw [Nat.mul_assoc] at h2
  rw [hW, hV, Nat.mul_add]
  omega
theorem guess_small (hV : V = (top * B + sec) * P + vl) (hW : W = (first * B + third) * P + wl) (hv : vl < P) (hs : sec < B) (hWV : W < B * V) (hg : g * top ≤ first) (ht : B ≤ 2 * top) (h0 : 0 < B) : g ≤ B + 1 ∧ first < B * top + B := by
  have h1 : V < (top + 1) * B * P := by
    have := Nat.mul_le_mul_right P (show top * B + sec + 1 ≤ (top + 1) * B by rw [Nat.add_mul, Nat.one_mul]; omega)
    rw [Nat.add_mul _ 1, Nat.one_mul] at this
    omega
  have h2 : first * B * P ≤ W := by rw [hW, Nat.add_mul]; omega
  have h3 : first * B * P < B * ((top + 1) * B * P) := Nat.lt_of_le_of_lt h2 (Nat.lt_trans hWV (Nat.mul_lt_mul_of_pos_left h1 h0))
  have h4 : first * (B * P) < B * (top + 1) * (B * P) := by simpa only [Nat.mul_assoc] using h3
  have h5 := Nat.lt_of_mul_lt_mul_right h4
  rw [Nat.mul_add, Nat.mul_one] at h5
  refine ⟨?_, h5⟩
  rcases Nat.lt_or_ge (B + 1) g with h | h
  · exfalso
    have h6 := Nat.mul_le_mul_right top h
    simp only [Nat.succ_eq_add_one, Nat.add_mul, Nat.one_mul] at h6
    omega
  · exact h
end
theorem msub_digit {vo vs va c w d u t : Nat} {p B1 g : Nat} (h : vs + p * (g * va) = vo + p * (B1 * (c + w))) (ht : t = c + g * d) {x' w' : Nat} (hx : x' + t % 4294967296 + w = u + 4294967296 * w') {vs' : Nat} (hs : vs' + p * B1 * u = vs + p * B1 * x') :
    vs' + p * (g * (va + B1 * d)) = vo + p * (B1 * 4294967296 * (t / 4294967296 + w')) := by
  have e := Nat.div_add_mod t 4294967296
  have e1 := congrArg (fun z => p * B1 * z) e
  have e2 := congrArg (fun z => p * B1 * z) hx
  rw [ht] at e1
  simp only [Nat.mul_add, ← Nat.mul_assoc] at h e1 e2 hs ⊢
  rw [← ht] at e1
  rw [show p * g * B1 * d = p * B1 * g * d from by rw [Nat.mul_right_comm p g B1]]
  omega
theorem madd_digit {vo vs va c d u t : Nat} {p B1 : Nat} (h : vs + p * (B1 * c) = vo + p * va) (ht : t = c + (u + d)) {vs' : Nat} (hs : vs' + p * B1 * u = vs + p * B1 * (t % 4294967296)) :
    vs' + p * (B1 * 4294967296 * (t / 4294967296)) = vo + p * (va + B1 * d) := by
  have e := Nat.div_add_mod t 4294967296
  have e1 := congrArg (fun z => p * B1 * z) e
  rw [ht] at e1
  simp only [Nat.mul_add, ← Nat.mul_assoc] at h e1 hs ⊢
  rw [← ht] at e1
  omega
theorem val_drop_zero {us : List Nat} {n : Nat} (h : val us < 4294967296 ^ n) (hn : n ≤ us.length) : val us = val (us.take n) ∧ ∀ j, n ≤ j → us.getD j 0 = 0 := by
  have hs := val_split us n hn
  have h0 : val (us.drop n) = 0 := by
    rcases Nat.eq_zero_or_pos (val (us.drop n)) with h1 | h1
    · exact h1
    · have := Nat.mul_le_mul_left (4294967296 ^ n) h1
      rw [Nat.mul_one] at this; omega
  refine ⟨by rw [hs, h0, Nat.mul_zero, Nat.add_zero], fun j hj => ?_⟩
  have hz : ∀ l : List Nat, val l = 0 → ∀ i, l.getD i 0 = 0 := by
    intro l
    induction l with
    | nil => intro _ i; simp
    | cons d l ih =>
      intro hv i
      rw [val_cons] at hv
      cases i with
      | zero => simpa using (show d = 0 by omega)
      | succ i => simpa using ih (by omega) i
  have := hz (us.drop n) h0 (j - n)
  rw [List.getD, List.getElem?_drop, show n + (j - n) = j from by omega] at this
  exact this
theorem D_shift {us : List Nat} {j : Nat} (hD : D us) (hj : j ≤ us.length) : val us / 4294967296 ^ j = val (us.drop j) := by
  rw [val_split us j hj, Nat.add_mul_div_left _ _ (Nat.pow_pos (by omega)), Nat.div_eq_of_lt, Nat.zero_add]
  have h := val_lt (hD.take j)
  rw [List.length_take, Nat.min_eq_left hj] at h; exact h
theorem round_done {us us' : List Nat} {j g V W : Nat} (hD : D us) (hD' : D us') (hj : j ≤ us.length) (hj' : j ≤ us'.length) (hW : val (us.drop j) = W) (h : val us' + 4294967296 ^ j * (g * V) = val us) (hg : W < (g + 1) * V) :
    val (us'.drop j) < V := by
  rw [← D_shift hD' hj', Nat.div_lt_iff_lt_mul (Nat.pow_pos (by omega))]
  have hs := val_split us j hj
  have hl := val_lt (hD.take j)
  rw [List.length_take, Nat.min_eq_left hj] at hl
  rw [hW] at hs
  have h2 : 4294967296 ^ j * (W + 1) ≤ 4294967296 ^ j * ((g + 1) * V) := Nat.mul_le_mul_left _ hg
  rw [Nat.add_mul, Nat.one_mul, Nat.mul_add, Nat.mul_add] at h2
  rw [Nat.mul_comm V]
  omega
theorem val_three {us : List Nat} {j n : Nat} (hD : D us) (hn : 2 ≤ n) (hl : j + n < us.length) (hz : val (us.drop (j + 1)) < 4294967296 ^ n) :
    ∃ wl, wl < 4294967296 ^ (n - 2) ∧ val (us.drop j) = ((us.getD (j + n) 0 * 4294967296 + us.getD (j + n - 1) 0) * 4294967296 + us.getD (j + n - 2) 0) * 4294967296 ^ (n - 2) + wl := by
  have hD' := hD.drop j
  have hlen : (us.drop j).length = us.length - j := List.length_drop
  have hlt : val (us.drop j) < 4294967296 ^ (n + 1) := by
    rw [drop_getD us j (by omega), val_cons, Nat.pow_succ, Nat.mul_comm]
    have := hD.get j
    have := Nat.mul_le_mul_right 4294967296 hz
    omega
  have e := (val_drop_zero hlt (by omega)).1
  have g0 : ∀ i, (us.drop j).getD i 0 = us.getD (j + i) 0 := fun i => by rw [List.getD, List.getElem?_drop]; rfl
  have hw := val_lt (hD'.take (n - 2))
  rw [List.length_take, Nat.min_eq_left (by omega)] at hw
  refine ⟨_, hw, ?_⟩
  obtain ⟨k, rfl⟩ : ∃ k, n = k + 2 := ⟨n - 2, by omega⟩
  rw [e, val_take_succ', val_take_succ', val_take_succ', g0, g0, g0]
  rw [show j + (k + 2) - 1 = j + (k + 1) from by omega, show j + (k + 2) - 2 = j + k from by omega, show k + 2 - 2 = k from by omega]
  simp only [Nat.pow_succ, Nat.add_mul]
  rw [Nat.mul_comm (4294967296 ^ k) (us.getD (j + k) 0), Nat.mul_comm (4294967296 ^ k * 4294967296) _, Nat.mul_comm (4294967296 ^ k * 4294967296 * 4294967296) _, Nat.mul_comm (4294967296 ^ k) 4294967296]
  simp only [Nat.mul_assoc]
  rw [Nat.mul_comm (4294967296 ^ k) 4294967296]
  omega
theorem lead_two {v : List Nat} {n : Nat} (hD : D v) (hn : 2 ≤ n) (hl : v.length = n) : ∃ vl, vl < 4294967296 ^ (n - 2) ∧ val v = (v.getD (n - 1) 0 * 4294967296 + v.getD (n - 2) 0) * 4294967296 ^ (n - 2) + vl := by
  have hw := val_lt (hD.take (n - 2))
  rw [List.length_take, Nat.min_eq_left (by omega)] at hw
  refine ⟨_, hw, ?_⟩
  obtain ⟨k, rfl⟩ : ∃ k, n = k + 2 := ⟨n - 2, by omega⟩
  conv => lhs; rw [← List.take_of_length_le (Nat.le_of_eq hl)]
  rw [val_take_succ', val_take_succ', show k + 2 - 1 = k + 1 from rfl, show k + 2 - 2 = k from by omega]
  simp only [Nat.pow_succ, Nat.add_mul]
  rw [Nat.mul_comm (4294967296 ^ k) (v.getD k 0), Nat.mul_comm (4294967296 ^ k * 4294967296) _, Nat.mul_comm (4294967296 ^ k) 4294967296]
  simp only [Nat.mul_assoc]
  omega
theorem norm_shift {y k s : Nat} (hk : (dgs y).length = k + 1) (hs : s + blen ((dgs y).getD k 0) = 32) : s < 32 ∧ (dgs (y * 2 ^ s)).length = k + 1 ∧ 2147483648 ≤ (dgs (y * 2 ^ s)).getD k 0 ∧ 4294967296 ^ k ≤ y := by
  have hy0 : y ≠ 0 := fun e => by rw [e, dgs_zero] at hk; simp at hk
  obtain ⟨k', h1, h2, h3, h4, h5⟩ := dgs_top hy0
  obtain rfl : k' = k := by omega
  generalize (dgs y).getD k' 0 = t at *
  generalize val ((dgs y).take k') = low at *
  have hb : 1 ≤ blen t := by
    have := (blen_lt (n := t) (k := 0)).2 (by simp; omega); omega
  have q1 : 2 ^ (blen t - 1) ≤ t := blen_lt.1 (by omega)
  have q2 : t < 2 ^ blen t := blen_le.1 (Nat.le_refl _)
  have p1 : 2 ^ (blen t - 1) * 2 ^ s = 2147483648 := by rw [← Nat.pow_add, show blen t - 1 + s = 31 from by omega]
  have p2 : 2 ^ blen t * 2 ^ s = 4294967296 := by rw [← Nat.pow_add, show blen t + s = 32 from by omega]
  have pp : 0 < 4294967296 ^ k' := Nat.pow_pos (by omega)
  have hs0 : 0 < 2 ^ s := Nat.pow_pos (by omega)
  have lo : 2147483648 * 4294967296 ^ k' ≤ y * 2 ^ s := by
    have e1 := Nat.mul_le_mul_right (4294967296 ^ k') (Nat.mul_le_mul_right (2 ^ s) q1)
    rw [p1] at e1
    refine Nat.le_trans e1 ?_
    rw [Nat.mul_right_comm]
    refine Nat.mul_le_mul_right _ ?_
    rw [h5, Nat.mul_comm t]; omega
  have hi : y * 2 ^ s < 4294967296 ^ (k' + 1) := by
    have e0 : y < (t + 1) * 4294967296 ^ k' := by rw [h5, Nat.add_mul, Nat.mul_comm t]; omega
    have e1 := Nat.mul_lt_mul_of_pos_right e0 hs0
    refine Nat.lt_of_lt_of_le e1 ?_
    have e2 := Nat.mul_le_mul_right (4294967296 ^ k') (Nat.mul_le_mul_right (2 ^ s) (show t + 1 ≤ 2 ^ blen t by omega))
    rw [p2] at e2
    rw [Nat.mul_right_comm, Nat.pow_succ, Nat.mul_comm (4294967296 ^ k') 4294967296]; exact e2
  have hlen : (dgs (y * 2 ^ s)).length = k' + 1 := by
    have a1 := len_le hi
    rcases Nat.lt_or_ge k' (dgs (y * 2 ^ s)).length with h | h
    · omega
    · have := len_lt h; omega
  refine ⟨by omega, hlen, ?_, ?_⟩
  · have hd := D_shift (j := k') (D_dgs (y * 2 ^ s)) (by omega)
    rw [val_dgs, drop_getD _ k' (by omega), List.drop_eq_nil_of_le (by omega)] at hd
    simp only [val, Nat.mul_zero, Nat.add_zero] at hd
    rw [← hd, Nat.le_div_iff_mul_le pp]; exact lo
  · rw [h5]
    have := Nat.mul_le_mul_left (4294967296 ^ k') (Nat.one_le_iff_ne_zero.2 h2)
    omega
theorem val_zeros : ∀ l : List Nat, (∀ i, l.getD i 0 = 0) → val l = 0
  | [], _ => rfl
  | d :: l, h => by
    have h0 : d = 0 := by simpa using h 0
    have h1 := val_zeros l fun i => by simpa using h (i + 1)
    rw [val_cons, h0, h1]
theorem val_small {us : List Nat} {k : Nat} (hD : D us) (hk : k ≤ us.length) (h : ∀ p, k ≤ p → us.getD p 0 = 0) : val us < 4294967296 ^ k := by
  have h0 : val (us.drop k) = 0 := val_zeros _ fun i => by
    have := h (k + i) (by omega)
    rwa [List.getD, List.getElem?_drop]
  have h1 := val_lt (hD.take k)
  rw [List.length_take, Nat.min_eq_left hk] at h1
  rw [val_split us k hk, h0]; simpa using h1
theorem fin_right {vu v2 v3 p q c w u x gv : Nat} (h2 : v2 + p * gv = vu + p * (q * (c + w))) (h3 : v3 + p * q * u = v2 + p * q * x) (hx : x + c + w = u) : v3 + p * gv = vu := by
  have e := congrArg (fun z => p * q * z) hx
  simp only [Nat.mul_add, ← Nat.mul_assoc] at e h2 h3
  omega
theorem fin_over {vu v2 v3 p q c w u x gv : Nat} (h2 : v2 + p * gv = vu + p * (q * (c + w))) (h3 : v3 + p * q * u = v2 + p * q * x) (hx : x + c + w = u + 4294967296) : v3 + p * gv = vu + p * q * 4294967296 := by
  have e := congrArg (fun z => p * q * z) hx
  simp only [Nat.mul_add, ← Nat.mul_assoc] at e h2 h3
  omega
theorem over_lt {vu v3 p q gv low W : Nat} (h : v3 + p * gv = vu + p * q * 4294967296) (hl : v3 < p * q * 4294967296) (hu : vu = low + p * W) : W < gv := by
  have : p * W < p * gv := by omega
  exact Nat.lt_of_mul_lt_mul_left this
theorem fin_back {vu v3 v4 v5 p q c t gv V low W : Nat} (h3 : v3 + p * gv = vu + p * q * 4294967296) (h4 : v4 + p * (q * c) = v3 + p * V) (h5 : v5 + p * q * t = v4 + p * q * ((t + c) % 4294967296)) (hl : v5 < p * q * 4294967296)
    (hc : c ≤ 1) (ht : t < 4294967296) (hg : gv ≤ W + V) (hu : vu = low + p * W) : v5 + p * gv = vu + p * V := by
  have e := Nat.mul_le_mul_left p hg
  rcases Nat.lt_or_ge (t + c) 4294967296 with hlt | hge
  · exfalso
    rw [Nat.mod_eq_of_lt hlt] at h5
    simp only [Nat.mul_add, ← Nat.mul_assoc] at e h3 h4 h5 hl
    omega
  · have hm : (t + c) % 4294967296 + 4294967296 = t + c := by omega
    have e2 := congrArg (fun z => p * q * z) hm
    simp only [Nat.mul_add, ← Nat.mul_assoc] at e2 h3 h4 h5
    omega
theorem short_digit {vp vo d r x v q r' : Nat} (h : vp = vo * d + r) (hv : v = r * 4294967296 + x) (hq : q = v / d) (hr : r' = v % d) : x + 4294967296 * vp = (q + 4294967296 * vo) * d + r' := by
  subst hq; subst hr; subst h
  have e := Nat.div_add_mod v d
  rw [Nat.add_mul, Nat.mul_comm (v / d) d, Nat.mul_add, ← Nat.mul_assoc]
  omega
theorem drop_set_eq (ds : List Nat) (j x : Nat) (h : j < ds.length) : (ds.set j x).drop j = x :: ds.drop (j + 1) := by
  rw [drop_getD _ j (by simpa using h), show (ds.set j x).getD j 0 = x from by simp [List.getD, h]]
  congr 1
  rw [List.drop_set]; simp
set_option maxHeartbeats 2000000 in
theorem short_nat (xs : List Nat) (d : Nat) (hla : xs.length ≤ 100000000) (hP : D xs) (hd0 : d ≠ 0) (hd : d < 4294967296) : Pu Tryz.prog 326 [dg xs, lit (.int .u32 d)] (tup [nat (val xs / d), lit (.int .u32 (val xs % d : Nat))]) := by
  refine Pu.intro Tryz.func326 rfl (by kernel_rfl) fun C => ?_
  repeat (refine A1 ⟨?_⟩; intros)
  refine WmkD xs.length rfl rfl (by omega) (by omega) fun bb => ?_
  repeat (refine A1 ⟨?_⟩; intros)
  refine WP.loop (ι := Nat × Nat × List Nat) (fun s => s.1 ≤ xs.length ∧ s.2.1 < d ∧ s.2.2.length = xs.length ∧ D s.2.2 ∧ val (xs.drop s.1) = val (s.2.2.drop s.1) * d + s.2.1) (fun s => s.1)
    (fun s => fm [(0, dg xs), (1, lit (.int .u32 d)), (6, lit (.slice (some ⟨bb, 0, none⟩) xs.length xs.length)), (7, lit (.int .u64 s.2.1)), (8, lit (.int .i64 ((s.1 : Int) - 1)))])
    (fun s => [(bb, 65, dcells s.2.2)]) (xs.length, 0, List.replicate xs.length 0) ⟨Nat.le_refl _, by simp only; omega, by simp, D.rep _, by simp [val]⟩ (by (repeat (first | exact LeF.nil _ | refine LeF.cons (Le.refl _) ?_ | refine LeF.cons (Le.int (by omega)) ?_))) rfl ?_
  rintro ⟨k, r, os⟩ ⟨hk, hr, hol, hO, hval⟩ K hK
  simp only at hk hr hol hO hval ⊢
  rcases k with _ | j
  · repeat (refine A1 ⟨?_⟩; intros)
    refine WpubD (ds := os) 40 rfl (HDel.here _) hol (by omega) (by omega) ?_
    refine Wc (trim_nat os (by omega) hO) ?_
    simp only [List.drop_zero] at hval
    have hq : val os = val xs / d := by
      rw [hval, Nat.mul_comm, Nat.mul_add_div (by omega), Nat.div_eq_of_lt hr, Nat.add_zero]
    have hm : r = val xs % d := by
      rw [hval, Nat.mul_comm, Nat.mul_add_mod, Nat.mod_eq_of_lt hr]
    rw [hq]
    repeat (refine A1 ⟨?_⟩; intros)
    rw [hm]
    ((first | refine endR ?_ | refine endN ?_); exact end2 (RV.tmp rfl) (RV.tmp rfl) (Le.refl _))
  · rw [show (((j + 1 : Nat) : Int) - 1) = (j : Int) from by omega]
    have hx := hP.get j
    have hlt : (r * 4294967296 + xs.getD j 0) / d < 4294967296 := by
      rw [Nat.div_lt_iff_lt_mul (by omega)]
      have : (r + 1) * 4294967296 ≤ d * 4294967296 := Nat.mul_le_mul_right _ hr
      rw [Nat.mul_comm 4294967296]; omega
    have hrm : (r * 4294967296 + xs.getD j 0) % d < d := Nat.mod_lt _ (by omega)
    repeat (refine A1 ⟨?_⟩; intros)
    refine Wo (ov_or rfl rfl (or64 r (xs.getD j 0) rfl rfl (by omega) hx)) ?_
    generalize hv : r * 4294967296 + xs.getD j 0 = v at *
    have hvb : v ≤ 18446744073709551615 := by omega
    repeat (refine A1 ⟨?_⟩; intros)
    generalize hq : v / d = q at *
    refine WstD q rfl rfl (by omega) (HUpd.here _) (by omega) ?_
    repeat (refine A1 ⟨?_⟩; intros)
    refine hK _ _ (j, v % d, os.set j q) ⟨by simp only; omega, hrm, by simpa using hol, hO.set _ hlt, ?_⟩ (by simp only; omega) (by (repeat (first | exact LeF.nil _ | refine LeF.cons (Le.refl _) ?_ | refine LeF.cons (Le.int (by omega)) ?_))) rfl
    simp only
    rw [drop_getD xs j (by omega), drop_set_eq os j _ (by omega), val_cons, val_cons]
    exact short_digit hval hv.symm hq.symm rfl
def sv (s : Bool) (n : Nat) : Int := bif s then -(n : Int) else n
abbrev raw (s : Bool) (xs : List Nat) : SV := ag [lit (.bool s), dg xs]
abbrev int (z : Int) : SV := ag [lit (.bool (decide (z < 0))), nat z.natAbs]
theorem sv_abs (s : Bool) (n : Nat) : (sv s n).natAbs = n := by cases s <;> simp [sv]
theorem sv_neg (s : Bool) (n : Nat) : decide (sv s n < 0) = (s && decide (0 < n)) := by
  cases s
  · simp only [sv, cond_false, Bool.false_and]; exact decide_eq_false (by omega)
  · simp [sv]
theorem sv_int (z : Int) : sv (decide (z < 0)) z.natAbs = z := by
  by_cases h : z < 0 <;> simp [sv, h] <;> omega
theorem int_sv (s : Bool) (n : Nat) : int (sv s n) = ag [lit (.bool (s && decide (0 < n))), nat n] := by rw [int, sv_abs, sv_neg]
theorem dgs_len_pos {n : Nat} (h : n ≠ 0) : 0 < (dgs n).length := by
  rcases hd : dgs n with _ | ⟨d, l⟩
  · have := val_dgs n; rw [hd] at this; exact absurd this.symm h
  · simp
theorem blen_val {xs : List Nat} (h : D xs) : blen (val xs) ≤ 32 * xs.length := blen_le.2 (by rw [Nat.pow_mul]; exact val_lt h)
theorem signed_pu (s : Bool) (n : Nat) (h : (dgs n).length ≤ 1000000000) : Pu Tryz.prog 356 [lit (.bool s), nat n] (int (sv s n)) := by
  rw [int_sv]
  by_cases h0 : n = 0
  · subst h0
    have hl : (dgs 0).length = 0 := by rw [dgs_zero]; rfl
    cases s <;> simp only [Nat.lt_irrefl, decide_false, Bool.and_false]
    all_goals
      refine Pu.intro Tryz.func356 rfl (by kernel_rfl) fun C => ?_
      repeat (refine A1 ⟨?_⟩; intros)
      ((first | refine endR ?_ | refine endN ?_); refine end1 (RV.cellA rfl (by repeat (first | exact List.mem_cons_self | apply List.mem_cons_of_mem)) (by (try simp only [List.drop_succ_cons, List.drop_zero, List.drop_nil, List.take_succ_cons, List.take_zero, List.take_nil, Nat.zero_add, Nat.add_zero, Nat.reduceAdd]) <;> exact rfl) rfl) (Le.refl _))
  · have hl := dgs_len_pos h0
    cases s <;> simp only [Bool.false_and, Bool.true_and, decide_eq_true (Nat.pos_of_ne_zero h0)]
    all_goals
      refine Pu.intro Tryz.func356 rfl (by kernel_rfl) fun C => ?_
      repeat (refine A1 ⟨?_⟩; intros)
      ((first | refine endR ?_ | refine endN ?_); refine end1 (RV.cellA rfl (by repeat (first | exact List.mem_cons_self | apply List.mem_cons_of_mem)) (by (try simp only [List.drop_succ_cons, List.drop_zero, List.drop_nil, List.take_succ_cons, List.take_zero, List.take_nil, Nat.zero_add, Nat.add_zero, Nat.reduceAdd]) <;> exact rfl) rfl) (Le.refl _))
theorem norm_raw (s : Bool) (xs : List Nat) (h : xs.length ≤ 1000000000) (hD : D xs) : Pu Tryz.prog 369 [raw s xs] (int (sv s (val xs))) := by
  rw [int_sv]
  have hb : (dgs (val xs)).length ≤ 1000000000 := by have := len_le (val_lt hD); omega
  by_cases h0 : val xs = 0
  · have hl : (dgs (val xs)).length = 0 := by rw [h0, dgs_zero]; rfl
    rw [show (s && decide (0 < val xs)) = false from by rw [h0]; simp]
    cases s
    all_goals
      refine Pu.intro Tryz.func369 rfl (by kernel_rfl) fun C => ?_
      repeat (refine A1 ⟨?_⟩; intros)
      refine Wc (norm_nat xs h hD) ?_
      repeat (refine A1 ⟨?_⟩; intros)
      ((first | refine endR ?_ | refine endN ?_); refine end1 (RV.cellA rfl (by repeat (first | exact List.mem_cons_self | apply List.mem_cons_of_mem)) (by (try simp only [List.drop_succ_cons, List.drop_zero, List.drop_nil, List.take_succ_cons, List.take_zero, List.take_nil, Nat.zero_add, Nat.add_zero, Nat.reduceAdd]) <;> exact rfl) rfl) (Le.refl _))
  · have hl := dgs_len_pos h0
    rw [decide_eq_true (Nat.pos_of_ne_zero h0), Bool.and_true]
    cases s
    all_goals
      refine Pu.intro Tryz.func369 rfl (by kernel_rfl) fun C => ?_
      repeat (refine A1 ⟨?_⟩; intros)
      refine Wc (norm_nat xs h hD) ?_
      repeat (refine A1 ⟨?_⟩; intros)
      ((first | refine endR ?_ | refine endN ?_); refine end1 (RV.cellA rfl (by repeat (first | exact List.mem_cons_self | apply List.mem_cons_of_mem)) (by (try simp only [List.drop_succ_cons, List.drop_zero, List.drop_nil, List.take_succ_cons, List.take_zero, List.take_nil, Nat.zero_add, Nat.add_zero, Nat.reduceAdd]) <;> exact rfl) rfl) (Le.refl _))
theorem sign_raw (s : Bool) (xs : List Nat) (h : xs.length ≤ 1000000000) (hD : D xs) : Pu Tryz.prog 358 [raw s xs] (lit (.int .i64 (sv s (val xs)).sign)) := by
  by_cases h0 : val xs = 0
  · rw [show (sv s (val xs)).sign = 0 from by rw [h0]; cases s <;> rfl]
    refine Pu.intro Tryz.func358 rfl (by kernel_rfl) fun C => ?_
    repeat (refine A1 ⟨?_⟩; intros)
    refine Wc (bits_nat xs h hD) ?_
    rw [h0, show blen 0 = 0 from rfl]
    repeat (refine A1 ⟨?_⟩; intros)
    ((first | refine endR ?_ | refine endN ?_); exact end1 (RV.tmp rfl) (Le.refl _))
  · have hb : blen (val xs) ≠ 0 := fun e => h0 (by have := blen_le.1 (Nat.le_of_eq e); omega)
    have hbb := blen_val hD
    cases s
    · rw [show (sv false (val xs)).sign = 1 from Int.sign_eq_one_of_pos (by simp only [sv, cond_false]; omega)]
      refine Pu.intro Tryz.func358 rfl (by kernel_rfl) fun C => ?_
      repeat (refine A1 ⟨?_⟩; intros)
      refine Wc (bits_nat xs h hD) ?_
      repeat (refine A1 ⟨?_⟩; intros)
      ((first | refine endR ?_ | refine endN ?_); exact end1 (RV.tmp rfl) (Le.refl _))
    · rw [show (sv true (val xs)).sign = -1 from Int.sign_eq_neg_one_of_neg (by simp only [sv, cond_true]; omega)]
      refine Pu.intro Tryz.func358 rfl (by kernel_rfl) fun C => ?_
      repeat (refine A1 ⟨?_⟩; intros)
      refine Wc (bits_nat xs h hD) ?_
      repeat (refine A1 ⟨?_⟩; intros)
      ((first | refine endR ?_ | refine endN ?_); exact end1 (RV.tmp rfl) (Le.refl _))
theorem wi64_mod {x : Int} (h0 : -9223372036854775808 ≤ x) (h1 : x ≤ 9223372036854775807) : IntKind.i64.wrap (x % 18446744073709551616) = x := by
  simp only [IntKind.wrap, IntKind.bits, IntKind.signed]
  simp; omega
theorem fromInt_pu (z : Int) (h0 : -9223372036854775808 ≤ z) (h1 : z ≤ 9223372036854775807) : Pu Tryz.prog 370 [lit (.int .i64 z)] (int z) := by
  by_cases h : z < 0
  · rw [int, decide_eq_true h]
    refine Pu.intro Tryz.func370 rfl (by kernel_rfl) fun C => ?_
    repeat (refine A1 ⟨?_⟩; intros)
    rw [show -(z % 18446744073709551616) % 18446744073709551616 = (z.natAbs : Int) from by omega]
    refine Wc (fromUint_nat z.natAbs (by omega)) ?_
    repeat (refine A1 ⟨?_⟩; intros)
    ((first | refine endR ?_ | refine endN ?_); refine end1 (RV.cellA rfl (by repeat (first | exact List.mem_cons_self | apply List.mem_cons_of_mem)) (by (try simp only [List.drop_succ_cons, List.drop_zero, List.drop_nil, List.take_succ_cons, List.take_zero, List.take_nil, Nat.zero_add, Nat.add_zero, Nat.reduceAdd]) <;> exact rfl) rfl) (Le.refl _))
  · rw [int, decide_eq_false h]
    refine Pu.intro Tryz.func370 rfl (by kernel_rfl) fun C => ?_
    repeat (refine A1 ⟨?_⟩; intros)
    generalize hn : z.natAbs = n at *
    have hz : z = (n : Int) := by omega
    subst hz
    refine Wc (fromUint_nat n (by omega)) ?_
    repeat (refine A1 ⟨?_⟩; intros)
    ((first | refine endR ?_ | refine endN ?_); refine end1 (RV.cellA rfl (by repeat (first | exact List.mem_cons_self | apply List.mem_cons_of_mem)) (by (try simp only [List.drop_succ_cons, List.drop_zero, List.drop_nil, List.take_succ_cons, List.take_zero, List.take_nil, Nat.zero_add, Nat.add_zero, Nat.reduceAdd]) <;> exact rfl) rfl) (Le.refl _))
theorem int64_raw (s : Bool) (xs : List Nat) (hl : xs.length ≤ 1000000000) (hD : D xs) (hb : val xs < 4611686018427387904) : Pu Tryz.prog 368 [raw s xs] (tup [lit (.int .i64 (sv s (val xs))), lit (.bool true)]) := by
  have u := uint_nat xs hl hD
  rw [if_pos (by omega)] at u
  cases s
  · simp only [sv, cond_false]
    refine Pu.intro Tryz.func368 rfl (by kernel_rfl) fun C => ?_
    repeat (refine A1 ⟨?_⟩; intros)
    refine Wc u ?_
    repeat (refine A1 ⟨?_⟩; intros)
    ((first | refine endR ?_ | refine endN ?_); exact end2 (RV.tmp rfl) (RV.tmp rfl) (Le.refl _))
  · simp only [sv, cond_true]
    refine Pu.intro Tryz.func368 rfl (by kernel_rfl) fun C => ?_
    repeat (refine A1 ⟨?_⟩; intros)
    refine Wc u ?_
    repeat (refine A1 ⟨?_⟩; intros)
    refine endR (end2 (RV.tmp rfl) (RV.tmp rfl) (Le.tup2 (Le.int ?_) (Le.refl _)))
    exact wi64_mod (by omega) (by omega)
theorem dlen_val {xs : List Nat} (h : D xs) : (dgs (val xs)).length ≤ xs.length := len_le (val_lt h)
end Go.Ab
