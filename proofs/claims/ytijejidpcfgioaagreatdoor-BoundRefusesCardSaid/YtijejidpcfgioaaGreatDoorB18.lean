/- Texts laid one behind the other: Mix, RPoint, RRes, RNode. -/
import Derived.Test.YtijejidpcfgioaaGreatDoorB05
import Derived.Test.YtijejidpcfgioaaGreatDoorB03
import Derived.Test.YtijejidpcfgioaaGreatDoorB17
import Derived.Test.YtijejidpcfgioaaGreatDoorB14
import Derived.Test.YtijejidpcfgioaaGreatDoorB16
/- Drawn regions, the general rule: each slot is written once; the operations that change a block stand in a row; all others may come in whatever order the edges leave. -/
namespace Go.Ab
open Go.Proofs
set_option linter.unusedSectionVars false
set_option linter.unusedVariables false
set_option linter.unusedSimpArgs false
variable [Base]
section
variable {P : Program} {C : Ctx} {n : Nat} {F F' F0 Fe : Fr} {H : LH} {ops : Array Oper} {Q : Exit → Fr → LH → Prop} {rs : List Nat} {Hc : LH} {E : Nat → LH}
def befB (ops : Array Oper) (k t : Nat) : Bool := (List.range k).any fun j => dstAt ops j == some t
def lisB (ops : Array Oper) (listed : Array Bool) (t : Nat) : Bool := (List.range ops.size).any fun j => listed.getD j false && dstAt ops j == some t
def mixF (B : Nat → Bool) (Fe F0 : Fr) : Fr := fun t => bif B t then Fe t else F0 t
def mixOk (ops : Array Oper) (rs : List Nat) : Bool :=
  ((List.range ops.size).all fun i => backAt ops i) &&
  ((List.range ops.size).all fun i => (List.range i).all fun j => (dstAt ops j).isNone || !(dstAt ops i == dstAt ops j)) &&
  ((List.range ops.size).all fun i => (List.range ops.size).all fun j => match dstAt ops j with
    | some d => !looksAtB ops i d || (bif Nat.blt j i then edgeT ops i j else (Nat.beq i j || edgeT ops j i))
    | none => true) &&
  ((List.range rs.length).all fun t => Nat.blt (rs.getD t 0) ops.size && (List.range t).all fun u => edgeT ops (rs.getD t 0) (rs.getD u 0) && Nat.blt (rs.getD u 0) (rs.getD t 0))
/-- the operations in the text's order -/
inductive Mx (P : Program) (C : Ctx) (n : Nat) (ops : Array Oper) (rs : List Nat) (Hc : LH) (E : Nat → LH) : Nat → Nat → List Oper → Fr → Fr → Prop
  | nil {i s : Nat} (F : Fr) : Mx P C n ops rs Hc E i s [] F F
  | free {i s d : Nat} {o : Oper} {sv : SV} {r : List Oper} {F F' : Fr} (hr : rs.contains i = false) (hd : o.dst = some d) (hdn : Nat.blt d n = true) (hds : DS P ops n Hc o F sv) (h : Mx P C n ops rs Hc E (i + 1) s r (upd F d sv) F') : Mx P C n ops rs Hc E i s (o :: r) F F'
  | row {i s : Nat} {o : Oper} {sv : SV} {r : List Oper} {F F' : Fr} (hr : rs[s]? = some i) (hts : TS P C n ops i o F (E s ++ Hc) sv (E (s + 1) ++ Hc)) (h : Mx P C n ops rs Hc E (i + 1) (s + 1) r (dstf o F sv) F') : Mx P C n ops rs Hc E i s (o :: r) F F'
/-- what is known of number k -/
def Vld (P : Program) (C : Ctx) (n : Nat) (ops : Array Oper) (rs : List Nat) (Hc : LH) (E : Nat → LH) (F0 Fe : Fr) (k : Nat) : Prop := ∃ o, ops[k]? = some o ∧ ∃ Fk : Fr, (∀ t, Fk t = mixF (befB ops k) Fe F0 t) ∧
  ((rs.contains k = false ∧ ∃ d, o.dst = some d ∧ Nat.blt d n = true ∧ DS P ops n Hc o Fk (Fe d)) ∨
   ∃ s sv, rs[s]? = some k ∧ (∀ d, o.dst = some d → sv = Fe d) ∧ TS P C n ops k o Fk (E s ++ Hc) sv (E (s + 1) ++ Hc))
theorem Mx.keep {i s : Nat} {l : List Oper} (h : Mx P C n ops rs Hc E i s l F F') : ∀ t, (∀ o ∈ l, o.dst ≠ some t) → F' t = F t := by
  induction h with
  | nil => intro t _; rfl
  | free _ hd _ _ _ ih =>
    intro t ht
    rw [ih t fun o ho => ht o (by simp [ho])]
    exact upd_ne fun e => ht _ List.mem_cons_self (by rw [hd, e])
  | @row i s o sv r F F' _ _ _ ih =>
    intro t ht
    rw [ih t fun o ho => ht o (by simp [ho])]
    unfold dstf
    cases hd : o.dst with
    | none => rfl
    | some d => exact upd_ne fun e => ht o (by simp) (by rw [hd, e])
theorem befB_succ (k t : Nat) : befB ops (k + 1) t = (befB ops k t || dstAt ops k == some t) := by
  unfold befB; rw [List.range_succ, List.any_append]; simp
theorem mixOk_spec (h : mixOk ops rs = true) : (∀ i, i < ops.size → backAt ops i = true) ∧ (∀ i j d, i < ops.size → j < i → dstAt ops j = some d → dstAt ops i ≠ some d) ∧
    (∀ i j d, i < ops.size → j < ops.size → dstAt ops j = some d → looksAtB ops i d = true → (j < i → edgeT ops i j = true) ∧ (i < j → edgeT ops j i = true)) ∧
    ∀ (t k : Nat), rs[t]? = some k → k < ops.size ∧ ∀ (u : Nat) (k' : Nat), u < t → rs[u]? = some k' → edgeT ops k k' = true ∧ k' < k := by
  simp only [mixOk, Bool.and_eq_true, List.all_eq_true, List.mem_range, Bool.or_eq_true, Nat.blt_eq] at h
  obtain ⟨⟨⟨h1, h2⟩, h3⟩, h4⟩ := h
  refine ⟨h1, fun i j d hi hj hd he => ?_, fun i j d hi hj hd hl => ?_, fun t k hk => ?_⟩
  · rcases h2 i hi j hj with h | h
    · rw [hd] at h; cases h
    · rw [hd, he] at h; simp at h
  · have := h3 i hi j hj
    rw [hd] at this
    simp only [hl, Bool.not_true, Bool.false_or] at this
    refine ⟨fun hji => ?_, fun hij => ?_⟩
    · rw [show Nat.blt j i = true from by simpa using hji] at this
      exact this
    · rw [show Nat.blt j i = false from by
        cases hb : Nat.blt j i with
        | false => rfl
        | true => have := Nat.blt_eq.mp hb; omega] at this
      simp only [cond_false, Bool.or_eq_true] at this
      rcases this with h | h
      · have := Nat.eq_of_beq_eq_true h; omega
      · exact h
  · have ht := (List.getElem?_eq_some_iff.1 hk).1
    have gk : rs.getD t 0 = k := by simp [List.getD, hk]
    obtain ⟨g1, g2⟩ := h4 t ht
    rw [gk] at g1 g2
    refine ⟨g1, fun u k' hu hk' => ?_⟩
    have gk' : rs.getD u 0 = k' := by simp [List.getD, hk']
    have := g2 u hu
    rw [gk'] at this
    exact this
theorem dstAt_of {i : Nat} {o : Oper} (h : ops[i]? = some o) : dstAt ops i = o.dst := by unfold dstAt; rw [h]
theorem Mx.vld (hchk : mixOk ops rs = true) {i s : Nat} {l : List Oper} (h : Mx P C n ops rs Hc E i s l F Fe) : l = ops.toList.drop i → (∀ t, F t = mixF (befB ops i) Fe F0 t) → ∀ k, i ≤ k → k < ops.size → Vld P C n ops rs Hc E F0 Fe k := by
  obtain ⟨_, hdis, _, _⟩ := mixOk_spec hchk
  induction h with
  | nil =>
    intro hl _ k hik hk
    have := congrArg List.length hl
    simp at this
    omega
  | @free i s d o sv r F F' hr hd hdn hds h ih =>
    intro hl hF k hik hk
    have ho : ops[i]? = some o := by
      have := congrArg (·[0]?) hl
      simpa using this.symm
    have hr' : r = ops.toList.drop (i + 1) := by
      have := congrArg List.tail hl
      simpa using this
    have hsv : F' d = sv := by
      rw [h.keep d fun o' ho' => ?_]
      · exact upd_eq
      · rw [hr'] at ho'
        obtain ⟨j, hj, rfl⟩ := List.mem_iff_getElem.1 ho'
        simp only [List.length_drop, Array.length_toList] at hj
        simp only [List.getElem_drop, Array.getElem_toList]
        have := hdis (i + 1 + j) i d (by omega) (by omega) (by rw [dstAt_of ho, hd])
        rwa [dstAt_of (o := ops[i + 1 + j]) (by simp)] at this
    rcases Nat.lt_or_ge i k with hlt | hge
    · refine ih hr' (fun t => ?_) k (by omega) hk
      unfold mixF
      rw [befB_succ, dstAt_of ho, hd]
      by_cases ht : t = d
      · subst ht; rw [upd_eq, hsv]; simp
      · rw [upd_ne ht, hF t]
        unfold mixF
        have : (some d == some t) = false := by simpa using fun e => ht e.symm
        rw [this, Bool.or_false]
    · obtain rfl : k = i := by omega
      exact ⟨o, ho, F, hF, .inl ⟨hr, d, hd, hdn, hsv ▸ hds⟩⟩
  | @row i s o sv r F F' hr hts h ih =>
    intro hl hF k hik hk
    have ho : ops[i]? = some o := by
      have := congrArg (·[0]?) hl
      simpa using this.symm
    have hr' : r = ops.toList.drop (i + 1) := by
      have := congrArg List.tail hl
      simpa using this
    have hsv : ∀ d, o.dst = some d → F' d = sv := fun d hd => by
      rw [h.keep d fun o' ho' => ?_]
      · unfold dstf; rw [hd]; exact upd_eq
      · rw [hr'] at ho'
        obtain ⟨j, hj, rfl⟩ := List.mem_iff_getElem.1 ho'
        simp only [List.length_drop, Array.length_toList] at hj
        simp only [List.getElem_drop, Array.getElem_toList]
        have := hdis (i + 1 + j) i d (by omega) (by omega) (by rw [dstAt_of ho, hd])
        rwa [dstAt_of (o := ops[i + 1 + j]) (by simp)] at this
    rcases Nat.lt_or_ge i k with hlt | hge
    · refine ih hr' (fun t => ?_) k (by omega) hk
      unfold mixF dstf
      rw [befB_succ, dstAt_of ho]
      cases hd : o.dst with
      | none =>
        simp only
        rw [hF t]
        unfold mixF
        simp
      | some d =>
        by_cases ht : t = d
        · subst ht; simp only [upd_eq]; rw [hsv _ hd]; simp
        · simp only [upd_ne ht]
          rw [hF t]
          unfold mixF
          have : (some d == some t) = false := by simpa using fun e => ht e.symm
          rw [this, Bool.or_false]
    · obtain rfl : k = i := by omega
      exact ⟨o, ho, F, hF, .inr ⟨s, sv, hr, fun d hd => (hsv d hd).symm, hts⟩⟩
theorem lisB_set {listed : Array Bool} {i t : Nat} {o : Oper} (hs : listed.size = ops.size) (ho : ops[i]? = some o) : lisB ops (listed.setIfInBounds i true) t = (lisB ops listed t || o.dst == some t) := by
  have hio := (Array.getElem?_eq_some_iff.1 ho).1
  have key : ∀ j, j < ops.size → ((listed.setIfInBounds i true).getD j false = (listed.getD j false || Nat.beq j i)) := fun j hj => by
    by_cases hji : i = j
    · subst hji; simp [hs, hio]
    · rw [getD_set_ne false hji]
      have : Nat.beq j i = false := by
        cases hb : Nat.beq j i with
        | false => rfl
        | true => exact absurd (Nat.eq_of_beq_eq_true hb).symm hji
      rw [this, Bool.or_false]
  rw [Bool.eq_iff_iff]
  unfold lisB
  simp only [List.any_eq_true, List.mem_range, Bool.and_eq_true, Bool.or_eq_true]
  constructor
  · rintro ⟨j, hj, h1, h2⟩
    rw [key j hj, Bool.or_eq_true] at h1
    rcases h1 with h1 | h1
    · exact .inl ⟨j, hj, h1, h2⟩
    · have := Nat.eq_of_beq_eq_true h1
      subst this
      rw [dstAt_of ho] at h2
      exact .inr h2
  · rintro (⟨j, hj, h1, h2⟩ | h2)
    · exact ⟨j, hj, by rw [key j hj, h1]; rfl, h2⟩
    · exact ⟨i, hio, by rw [key i hio, Nat.beq_refl]; simp, by rw [dstAt_of ho]; exact h2⟩
theorem edgeT_on {i j : Nat} {listed : Array Bool} (hcl : Closed ops listed) (hi : listed.getD i false = true) (he : edgeT ops i j = true) : listed.getD j false = true := by
  have on : ∀ (k S : Nat), (∀ j, S.testBit j = true → listed.getD j false = true) → ∀ j, (clos ops k S).testBit j = true → listed.getD j false = true := by
    intro k
    induction k with
    | zero => intro S hS j h; exact hS j h
    | succ k ih =>
      intro S hS j h
      unfold clos at h
      refine ih _ (fun j h => ?_) j h
      cases hb : S.testBit k with
      | false => rw [hb] at h; exact hS j h
      | true =>
        rw [hb] at h
        simp only [cond_true, Nat.testBit_or, Bool.or_eq_true] at h
        rcases h with h | h
        · exact hS j h
        · exact hcl k j (hS k hb) (dmask_edge h)
  exact on i _ (fun j h => hcl i j hi (dmask_edge h)) j he
theorem mixRun {Q' : Exit → Act → World → Prop} (hchk : mixOk ops rs = true) (hv : ∀ k, k < ops.size → Vld P C n ops rs Hc E F0 Fe k) (hF0 : ∀ t, befB ops ops.size t = false → Fe t = F0 t)
    (fin : ∀ a w, St C n Fe (E rs.length ++ Hc) a w → Q' .normal a w) :
    ∀ (fuel s : Nat) (listed : Array Bool) (a : Act) (w : World), s ≤ rs.length → (left ops ops.size listed).length ≤ fuel → listed.size = ops.size → Closed ops listed →
      (∀ (u : Nat) (k : Nat), rs[u]? = some k → (listed.getD k true = true ↔ u < s)) → St C n (mixF (lisB ops listed) Fe F0) (E s ++ Hc) a w → wpAny P .any ops Q' fuel listed a w := by
  obtain ⟨hback, hdis, hlook, hrow⟩ := mixOk_spec hchk
  have done : ∀ (s : Nat) (listed : Array Bool) (a : Act) (w : World), s ≤ rs.length → left ops ops.size listed = [] → listed.size = ops.size →
      (∀ (u : Nat) (k : Nat), rs[u]? = some k → (listed.getD k true = true ↔ u < s)) → St C n (mixF (lisB ops listed) Fe F0) (E s ++ Hc) a w → Q' .normal a w := by
    intro s listed a w hsr hnil hs hr hst
    have all : ∀ j, j < ops.size → listed.getD j true = true := fun j hj => by
      cases hb : listed.getD j true with
      | true => rfl
      | false =>
        have : (j, ops[j]) ∈ left ops ops.size listed := mem_left.2 ⟨hj, by simp, hb⟩
        rw [hnil] at this; cases this
    have hs' : s = rs.length := by
      rcases Nat.lt_or_ge s rs.length with h | h
      · exfalso
        have h1 : rs[s]? = some rs[s] := by simp [h]
        have h2 := (hrow s _ h1).1
        have := (hr s _ h1).1 (all _ h2)
        omega
      · omega
    subst hs'
    refine fin a w (hst.le fun t => Le.of_eq ?_)
    unfold mixF
    have hb : lisB ops listed t = befB ops ops.size t := by
      rw [Bool.eq_iff_iff]
      unfold lisB befB
      simp only [List.any_eq_true, List.mem_range, Bool.and_eq_true]
      constructor
      · rintro ⟨j, h1, _, h3⟩; exact ⟨j, h1, h3⟩
      · rintro ⟨j, h1, h3⟩
        refine ⟨j, h1, ?_, h3⟩
        have := all j h1
        have hsz : j < listed.size := by omega
        simp [hsz] at this ⊢; exact this
    rw [hb]
    cases h : befB ops ops.size t with
    | true => rfl
    | false => exact (hF0 t h).symm
  have noready : ∀ (listed : Array Bool), listed.size = ops.size → Region.ready .any ops listed = [] → left ops ops.size listed = [] := fun listed hs hr => by
    cases hl : left ops ops.size listed with
    | nil => rfl
    | cons x l' =>
      exfalso
      obtain ⟨i, o⟩ := x
      have hmem : (i, o) ∈ left ops ops.size listed := by rw [hl]; simp
      obtain ⟨h1, h2, h3⟩ := mem_left.1 hmem
      simp only at h1 h2 h3
      have hready : i ∈ Region.ready .any ops listed := by
        rw [mem_ready]
        refine ⟨h3, o, h2, fun e he hb => ?_⟩
        have hlt := back_spec (hback i h1) h2 e he hb
        cases hle : listed.getD e.on false with
        | true => rfl
        | false =>
          have hsz : e.on < listed.size := by omega
          have h4 : listed.getD e.on true = false := by simp [hsz] at hle ⊢; exact hle
          have hm2 : (e.on, ops[e.on]'(by omega)) ∈ left ops ops.size listed := mem_left.2 ⟨by simp only; omega, by simp, h4⟩
          have hsort := left_sorted (ops := ops) ops.size listed
          rw [hl] at hsort hm2
          rcases List.mem_cons.1 hm2 with h | h
          · simp only [Prod.mk.injEq] at h; omega
          · have := (List.pairwise_cons.1 hsort).1 _ h; simp at this; omega
      rw [hr] at hready; cases hready
  intro fuel
  induction fuel with
  | zero =>
    intro s listed a w hsr hfu hs hcl hr hst
    have hnil := List.eq_nil_of_length_eq_zero (Nat.le_zero.1 hfu)
    refine ⟨?_, done s listed a w hsr hnil hs hr hst⟩
    cases hrd : Region.ready .any ops listed with
    | nil => rfl
    | cons i l =>
      exfalso
      have hi : i ∈ Region.ready .any ops listed := by rw [hrd]; simp
      obtain ⟨hun, o, ho, _⟩ := mem_ready.1 hi
      have : (i, o) ∈ left ops ops.size listed := mem_left.2 ⟨(Array.getElem?_eq_some_iff.1 ho).1, ho, hun⟩
      rw [hnil] at this; cases this
  | succ fuel ih =>
    intro s listed a w hsr hfu hs hcl hr hst
    refine ⟨fun hrd => done s listed a w hsr (noready listed hs hrd) hs hr hst, fun i hi => ?_⟩
    obtain ⟨hun, o, ho, _⟩ := mem_ready.1 hi
    have hio := (Array.getElem?_eq_some_iff.1 ho).1
    have hmem : (i, o) ∈ left ops ops.size listed := mem_left.2 ⟨hio, ho, hun⟩
    obtain ⟨l1, l2, hl12⟩ := List.append_of_mem hmem
    have hset := left_set hs hio hl12
    have hlen : (l1 ++ l2).length + 1 = (left ops ops.size listed).length := by rw [hl12]; simp; omega
    obtain ⟨o', ho', Fk, hFk, hcase⟩ := hv i hio
    rw [ho] at ho'
    obtain rfl := Option.some.inj ho'
    have hlooks : ∀ t ∈ o.looksAt ops, Fk t = mixF (lisB ops listed) Fe F0 t := fun t ht => by
      rw [hFk t]
      unfold mixF
      have hlk : looksAtB ops i t = true := by unfold looksAtB; rw [ho]; simpa using ht
      have : befB ops i t = lisB ops listed t := by
        rw [Bool.eq_iff_iff]
        unfold lisB befB
        simp only [List.any_eq_true, List.mem_range, Bool.and_eq_true]
        constructor
        · rintro ⟨j, h1, h2⟩
          have h2' : dstAt ops j = some t := by simpa using h2
          exact ⟨j, by omega, edgeT_listed hcl hi ((hlook i j t hio (by omega) h2' hlk).1 h1), h2⟩
        · rintro ⟨j, h1, h2, h3⟩
          have h3' : dstAt ops j = some t := by simpa using h3
          refine ⟨j, ?_, h3⟩
          rcases Nat.lt_trichotomy j i with h | h | h
          · exact h
          · exfalso; subst h; rw [listed_false hs h1 h2] at hun; cases hun
          · exfalso
            have he := (hlook i j t hio h1 h3' hlk).2 h
            have := listed_false hs hio (edgeT_on hcl h2 he)
            rw [this] at hun; cases hun
      rw [this]
    have hmix : ∀ d, o.dst = some d → upd (mixF (lisB ops listed) Fe F0) d (Fe d) = mixF (lisB ops (listed.setIfInBounds i true)) Fe F0 := fun d hd => by
      funext t
      unfold mixF
      rw [lisB_set hs ho, hd]
      by_cases ht : t = d
      · subst ht; rw [upd_eq]; simp
      · rw [upd_ne ht]
        have : (some d == some t) = false := by simpa using fun e => ht e.symm
        rw [this, Bool.or_false]
    have hmix0 : o.dst = none → mixF (lisB ops listed) Fe F0 = mixF (lisB ops (listed.setIfInBounds i true)) Fe F0 := fun hd => by
      funext t
      unfold mixF
      rw [lisB_set hs ho, hd]
      simp
    rcases hcase with ⟨hnr, d, hd, hdn, hds⟩ | ⟨u, sv, hu, hsv, hts⟩
    · have hds' := hds.frame hlooks
      obtain ⟨hdef, hn, m, h1, h2, h3, h4, h5⟩ := hst
      refine hds'.wp ho hd hn h1 h2.tail h5 fun v m' w' hv' hm' hH' r => ?_
      refine ih s _ _ _ hsr (by rw [hset]; omega) (by simpa using hs) (hcl.step hi) (fun u k hk => ?_) ?_
      · have hki : i ≠ k := fun e => by
          have : rs.contains i = true := by rw [e]; exact List.contains_iff_mem.2 (List.mem_of_getElem? hk)
          rw [hnr] at this; cases this
        rw [getD_set_ne true hki]
        exact hr u k hk
      · rw [← hmix d hd]
        exact St.put (Nat.blt_eq.mp hdn) hdef hn h2 h3 h4 h5 hv' hm' (h2.beside hH' r) (r.mono fun b hb => by unfold keys at *; rw [List.map_append]; exact List.mem_append_right _ hb)
    · have hus : u = s := by
        rcases Nat.lt_trichotomy u s with h | h | h
        · exfalso
          have := (hr u i hu).2 h
          rw [hun] at this; cases this
        · exact h
        · exfalso
          have hul := (List.getElem?_eq_some_iff.1 hu).1
          have h1 : rs[s]? = some (rs[s]'(by omega)) := by simp
          have h2 := ((hrow u i hu).2 s _ h h1).1
          have h3 := listed_false hs (hrow s _ h1).1 (edgeT_listed hcl hi h2)
          have := (hr s _ h1).1 h3
          omega
      subst hus
      have hul := (List.getElem?_eq_some_iff.1 hu).1
      refine hts _ hlooks a w hst Q' _ fun a' w' hst' => ?_
      refine ih (u + 1) _ _ _ hul (by rw [hset]; omega) (by simpa using hs) (hcl.step hi) (fun x k hk => ?_) ?_
      · by_cases hki : i = k
        · subst hki
          have hx : x = u := by
            rcases Nat.lt_trichotomy x u with h | h | h
            · have := ((hrow u i hu).2 x _ h hk).2; omega
            · exact h
            · have := ((hrow x i hk).2 u _ h hu).2; omega
          subst hx
          simp [hs, hio]
        · rw [getD_set_ne true hki, hr x k hk]
          constructor
          · intro h; omega
          · intro h
            rcases Nat.lt_or_ge x u with h' | h'
            · exact h'
            · exfalso
              have : x = u := by omega
              subst this
              rw [hu] at hk
              exact hki (Option.some.inj hk)
      · unfold dstf at hst'
        cases hd : o.dst with
        | none => rw [hd] at hst'; rw [← hmix0 hd]; exact hst'
        | some d =>
          rw [hd] at hst'
          simp only at hst'
          rw [hsv d hd] at hst'
          rw [← hmix d hd]; exact hst'
attribute [local semireducible] WP WPL Dk PuH
/-- what is left of a region's operations, from number i and row s on -/
def Mk (P : Program) (C : Ctx) (n : Nat) (ops : Array Oper) (rs : List Nat) (Hc : LH) (E : Nat → LH) (i s : Nat) (l : List Oper) (K : Fr → Prop) (F : Fr) : Prop := ∃ Fe, Mx P C n ops rs Hc E i s l F Fe ∧ K Fe
/-- a region that draws its order: the operations rs stand in a row -/
theorem WdM {id : Nat} {l : List Oper} (rs : List Nat) (Hc : LH) (E : Nat → LH) (h : Mk P C n l.toArray rs Hc E 0 0 l (fun Fe => Q .normal Fe (E rs.length ++ Hc)) F) (h0 : E 0 ++ Hc = H := by exact rfl) (hm : P.follows .mixedOrders = true := by kernel_rfl) (hchk : mixOk l.toArray rs = true := by decide +kernel) :
    WP P C n (.region id l.toArray true) Q F H := by
  obtain ⟨Fe, hx, hQ⟩ := h
  intro a w hs
  subst h0
  refine wp_region_any hm ?_
  refine mixRun (C := C) (n := n) (F0 := F) (Fe := Fe) (rs := rs) (Hc := Hc) (E := E) hchk (fun k hk => hx.vld hchk (by simp) (fun t => by simp [mixF, befB]) k (Nat.zero_le _) hk) (fun t ht => hx.keep t fun o ho e => ?_) (fun a' w' hst => .mk hst hQ) l.toArray.size 0 _ a _ (Nat.zero_le _) ?_ (by simp) (fun m j hm => by by_cases hlt : m < l.length <;> simp [hlt] at hm) (fun u k hk => ?_) ?_
  · obtain ⟨j, hj, rfl⟩ := List.mem_iff_getElem.1 ho
    have : befB l.toArray l.toArray.size t = true := by
      unfold befB
      rw [List.any_eq_true]
      exact ⟨j, by simpa using hj, by rw [dstAt_of (o := l[j]) (by simp [hj]), e]; simp⟩
    rw [ht] at this; cases this
  · unfold left
    refine Nat.le_trans (List.length_filter_le _ _) ?_
    simp
  · have hkl := ((mixOk_spec hchk).2.2.2 u k hk).1
    have hkl' : k < l.length := by simpa using hkl
    simp [hkl']
  · obtain ⟨hdef, hn, m, h1, h2, h3, h4, h5⟩ := hs
    refine ⟨hdef, hn, m, ⟨h1.at', h1.base⟩, ⟨h2.1, h2.2⟩, ⟨h3.le, h3.old, h3.os, h3.tape, h3.output, h3.size, h3.block⟩, h4, fun t => ?_⟩
    have : lisB l.toArray (Array.replicate l.toArray.size false) t = false := by
      unfold lisB
      rw [List.any_eq_false]
      intro j hj
      have hj' : j < l.length := by simpa using hj
      simp [hj']
    unfold mixF
    rw [this]
    exact h5 t
section
variable {l : List Oper} {K : Fr → Prop} {i s : Nat}
theorem MkN (h : K F) : Mk P C n ops rs Hc E i s [] K F := ⟨F, .nil F, h⟩
def freeB (rs : List Nat) (i k : Nat) : Bool := (List.range k).all fun j => !rs.contains (i + j)
/-- the next k operations are free; with what is to be shown then -/
def mkD (P : Program) (C : Ctx) (n : Nat) (ops : Array Oper) (rs : List Nat) (Hc : LH) (E : Nat → LH) (i s : Nat) (l : List Oper) (K : Fr → Prop) : List NW → Fr → Prop := fun N F => N = [] ∧ Mk P C n ops rs Hc E i s l K F
theorem mkD0 (h : Mk P C n ops rs Hc E i s l K F) : mkD P C n ops rs Hc E i s l K [] F := ⟨rfl, h⟩
theorem Dr.mx {s : Nat} {Fe : Fr} : ∀ (k : Nat) (l : List Oper) (i : Nat) (F F' : Fr), freeB rs i k = true → k ≤ l.length → Dr P ops n Hc (preK i k l) [] F F' → Mx P C n ops rs Hc E (i + k) s (l.drop k) F' Fe → Mx P C n ops rs Hc E i s l F Fe
  | 0, l, i, F, F', _, _, h, hx => by
    cases h
    simpa using hx
  | k + 1, [], i, F, F', _, hk, _, _ => by simp at hk
  | k + 1, o :: l, i, F, F', hf, hk, h, hx => by
    have hfi : rs.contains i = false ∧ freeB rs (i + 1) k = true := by
      unfold freeB at hf ⊢
      simp only [List.all_eq_true, List.mem_range, Bool.not_eq_true'] at hf ⊢
      refine ⟨by simpa using hf 0 (by omega), fun j hj => ?_⟩
      have := hf (j + 1) (by omega)
      rwa [show i + (j + 1) = i + 1 + j from by omega] at this
    unfold preK at h
    cases h with
    | val hd hds hdn h =>
      exact .free hfi.1 hd hdn hds (Dr.mx k l (i + 1) _ _ hfi.2 (by simpa using hk) h (by rw [show i + 1 + k = i + (k + 1) from by omega]; simpa using hx))
theorem MkD (k : Nat) (h : Dk P ops n Hc (preK i k l) (mkD P C n ops rs Hc E (i + k) s (l.drop k) K) F) (hf : freeB rs i k = true := by exact rfl) (hk : Nat.ble k l.length = true := by exact rfl) : Mk P C n ops rs Hc E i s l K F := by
  obtain ⟨N, F', h1, rfl, Fe, hx, hK⟩ := h
  exact ⟨Fe, Dr.mx k l i F F' hf (Nat.le_of_ble_eq_true hk) h1 hx, hK⟩
/-- the next operation is the next one of the row -/
theorem MkR {o : Oper} {sv : SV} (hts : TS P C n ops i o F (E s ++ Hc) sv (E (s + 1) ++ Hc)) (h : Mk P C n ops rs Hc E (i + 1) (s + 1) l K (dstf o F sv)) (hr : rs[s]? = some i := by exact rfl) : Mk P C n ops rs Hc E i s (o :: l) K F := by
  obtain ⟨Fe, hx, hK⟩ := h
  exact ⟨Fe, .row hr hts hx, hK⟩
theorem wp_agree {o : Oper} {a : Act} {w : World} {K' : Act → World → Prop} {Q1 Q2 : Exit → Act → World → Prop} (h : o.wp P a w K' Q1) (hp : ∀ ch a w, Q1 (.panic ch) a w → Q2 (.panic ch) a w) (ho : ∀ a w, Q1 .outgrown a w → Q2 .outgrown a w) : o.wp P a w K' Q2 := by
  unfold Oper.wp at *
  generalize (execOp a.eval o).run P w = r at *
  unfold Oper.upon at *
  split at h
  · exact h
  · exact h
  · exact h
  · refine Calls.mono h ?_
    intro e w'' he
    cases e with
    | returned v => exact he
    | panicked ch => exact hp _ _ _ he
    | outgrown => obtain ⟨a0, w0, h0⟩ := he; exact ⟨a0, w0, ho _ _ h0⟩
  · exact h
  · exact hp _ _ _ h
  · exact h.elim
theorem TS.call {i d : Nat} {f : FuncId} {la : List Operand} {tys : Array TypeId} {ty : TypeId} {pos : String} {aft : Array Edge} {svs : List SV} {Hin Hout Rs : LH} {res : SV} (hc : PuH P f svs Hin (fun r H => r = res ∧ H = Hout) noX) (ha : la.map (ev F) = svs) (hd : Nat.blt d n = true) (ho : ops[i]? = some ⟨some d, .call ⟨.value (.func f), la.toArray, tys⟩, ty, pos, aft, none⟩) :
    TS P C n ops i ⟨some d, .call ⟨.value (.func f), la.toArray, tys⟩, ty, pos, aft, none⟩ F (Hin ++ Rs) res (Hout ++ Rs) := by
  intro F1 hF a w hst Q' K' hK
  have ha' : la.map (ev F1) = svs := by
    rw [← ha]
    refine List.map_congr_left fun x hx => ?_
    exact ev_looks (o := ⟨some d, .call ⟨.value (.func f), la.toArray, tys⟩, ty, pos, aft, none⟩) (x := x) (by simp [Op.operands, Call.operands, hx]) hF
  have h := WPL.callHG (P := P) (C := { C with pan := noX }) (n := n) (F := F1) (H := Hin ++ Rs) (ops := ops) (rest := []) (d := d) (x := .func f) (s := lit (.func (.func f) #[] #[])) (f := f) (first := []) (caps := []) (l := la) (tys := tys) (ty := ty) (pos := pos) (aft := aft) (g := none)
    (K := fun F' H' => F' = upd F1 d res ∧ H' = Hout ++ Rs) rfl hc (Spl.app _ _) (by rw [List.nil_append, List.append_nil]; exact ha') hd (fun _ _ _ => rfl)
    (fun r H' ⟨hr, hH'⟩ => WPL.nil ⟨by rw [hr], by rw [hH']⟩) (fun _ _ h => h.elim)
  have h' := h a w hst (fun e a' w' => match e with | .normal => K' a' w' | e => False) ⟨fun a' w' F' H' hst' hKK => ?_, fun ch a' w' hp => ?_⟩
  · unfold wpOp
    rw [ho]
    unfold wpList at h'
    simp only [Region.wanted, if_true] at h' ⊢
    left
    rcases h' with h' | ⟨_, a0, w0, h0⟩
    · exact wp_agree h' (fun _ _ _ h => h.elim) (fun _ _ h => h.elim)
    · exact h0.elim
  · obtain ⟨rfl, rfl⟩ := hKK
    exact hK a' w' hst'
  · obtain ⟨_, _, _, _, _, _, _, _, _, _, _, hx⟩ := hp
    exact hx.elim
/-- a call in the row -/
theorem MkC {d : Nat} {f : FuncId} {la : List Operand} {tys : Array TypeId} {ty : TypeId} {pos : String} {aft : Array Edge} {svs : List SV} {res : SV} (hc : PuH P f svs (E s) (fun r H => r = res ∧ H = E (s + 1)) noX) (h : Mk P C n ops rs Hc E (i + 1) (s + 1) l K (upd F d res))
    (ha : la.map (ev F) = svs := by exact rfl) (ho : ops[i]? = some ⟨some d, .call ⟨.value (.func f), la.toArray, tys⟩, ty, pos, aft, none⟩ := by exact rfl) (hr : rs[s]? = some i := by exact rfl) (hd : Nat.blt d n = true := by exact rfl) :
    Mk P C n ops rs Hc E i s (⟨some d, .call ⟨.value (.func f), la.toArray, tys⟩, ty, pos, aft, none⟩ :: l) K F :=
  MkR (TS.call hc ha hd ho) h hr
end
end
end Go.Ab
/- The reference's printer: points. -/
namespace Go.Ab
open Go.Proofs
set_option linter.unusedSectionVars false
set_option linter.unusedVariables false
set_option linter.unusedSimpArgs false
variable [Base]
abbrev wT : TypeId := 89
/-- a point's text, as the reference writes it -/
def rpT (a b : RQ) : List UInt8 := [40] ++ numT a ++ [44] ++ numT b ++ [41]
theorem rpT_good {a b : RQ} (h : (nrmQ a && nrmQ b) = true) : rpT a b = ptxt a b := by
  rw [Bool.and_eq_true] at h
  unfold rpT ptxt
  rw [numT_t h.1, numT_t h.2]
theorem rpT_len {a b : RQ} {L : Nat} (ha : a.ok L) (hb : b.ok L) : (rpT a b).length ≤ 40 * L + 60 := by
  have h1 := numT_len ha
  have h2 := numT_len hb
  unfold rpT
  simp only [List.length_append, List.length_cons, List.length_nil]
  omega
theorem rpoint_pu (w : Nat) (a b : RQ) {L : Nat} (ha : a.ok L) (hb : b.ok L) (hL : L ≤ 100) (bad lg : Bool) :
    PuH Tryz.prog 92 [lit (.pointer (some ⟨w, 0, none⟩)), pr a b] [(w, wT, wC bad lg)] (fun r H => r = str (rpT a b) ∧ H = [(w, wT, wC (bad || !nrmQ a || !nrmQ b) lg)]) noX := by
  have c1 := rnumber_pu w a ha hL bad lg
  have c2 := rnumber_pu w b hb hL (bad || !nrmQ a) lg
  have h1 := numT_len ha
  have h2 := numT_len hb
  have k1 : ([40] : List UInt8).length = 1 := rfl
  have k2 : ([44] : List UInt8).length = 1 := rfl
  have k3 : ([41] : List UInt8).length = 1 := rfl
  rw [show rpT a b = [40] ++ numT a ++ [44] ++ numT b ++ [41] from rfl]
  have q1 : ([40] ++ numT a).length = 1 + (numT a).length := by simp; omega
  have q2 : ([40] ++ numT a ++ [44]).length = 2 + (numT a).length := by simp; omega
  have q3 : ([40] ++ numT a ++ [44] ++ numT b).length = 2 + (numT a).length + (numT b).length := by simp; omega
  refine PuH.intro Tryz.func92 rfl (by kernel_rfl) fun C hC => ?_
  repeat (first | (refine AS ⟨?_⟩; intros) | (refine O1 ⟨?_⟩; intros))
  rename_i b3
  refine WP.perm (List.Perm.swap _ _ _) ?_
  refine WdM [3, 9] [(b3, 33, [lit (.bool a.s), dg a.n, dg a.d, lit (.bool b.s), dg b.n, dg b.d])] (fun s => [(w, wT, wC ([bad, bad || !nrmQ a, bad || !nrmQ a || !nrmQ b].getD s false) lg)]) ?_
  refine MkD 3 ?_
  repeat (refine A1 ⟨?_⟩; intros)
  refine mkD0 ?_
  refine MkC c1 ?_
  refine MkD 5 ?_
  repeat (refine A1 ⟨?_⟩; intros)
  refine mkD0 ?_
  refine MkC c2 ?_
  refine MkD 3 ?_
  repeat (refine A1 ⟨?_⟩; intros)
  refine mkD0 ?_
  refine MkN ?_
  repeat (refine A1 ⟨?_⟩; intros)
  exact endHR _ _ (end1 (RV.tmp (s := str _) rfl) (Le.refl _)) (List.sublist_append_left _ _) ⟨rfl, rfl⟩
end Go.Ab
/- The reference's printer: brackets and the result. -/
namespace Go.Ab
open Go.Proofs
set_option linter.unusedSectionVars false
set_option linter.unusedVariables false
set_option linter.unusedSimpArgs false
variable [Base]
theorem wrap_pu (s : List UInt8) (dp : Int) (b : Bool) (hs : s.length ≤ 1000000) (h0 : 0 ≤ dp) (h1 : dp ≤ 1000000) : Pu Tryz.prog 93 [str s, lit (.int .i64 dp), lit (.bool b)] (Ab.tup [str (par b s), lit (.int .i64 (if b = true then dp + 1 else dp))]) := by
  have k1 : ([40] : List UInt8).length = 1 := rfl
  have k2 : ([41] : List UInt8).length = 1 := rfl
  have k3 : ([40] ++ s).length = s.length + 1 := by simp
  cases b with
  | true =>
    rw [show par true s = [40] ++ s ++ [41] from rfl, if_pos rfl]
    refine Pu.intro Tryz.func93 rfl (by kernel_rfl) fun C => ?_
    repeat (refine A1 ⟨?_⟩; intros)
    ((first | refine endR ?_ | refine endN ?_); exact end2 (RV.tmp rfl) (RV.tmp rfl) (Le.refl _))
  | false =>
    rw [show par false s = s from rfl, if_neg (by decide)]
    refine Pu.intro Tryz.func93 rfl (by kernel_rfl) fun C => ?_
    repeat (refine A1 ⟨?_⟩; intros)
    ((first | refine endR ?_ | refine endN ?_); exact end2 (RV.tmp rfl) (RV.tmp rfl) (Le.refl _))
/-- the result of a text: 1 where something was bad, 2 where it is too long -/
theorem result_pu (w : Nat) (s : List UInt8) (hs : s.length ≤ 65536) (bad : Bool) : PuH Tryz.prog 42 [lit (.pointer (some ⟨w, 0, none⟩)), str s] [(w, 89, wC bad false)]
    (fun r H => r = (if bad = true then Ab.tup [str [], lit (.int .i64 1)] else Ab.tup [str s, lit (.int .i64 0)])) noX := by
  cases bad with
  | true =>
    refine PuH.intro Tryz.func42 rfl (by kernel_rfl) fun C hC => ?_
    repeat (refine A1 ⟨?_⟩; intros)
    exact endHR _ _ (end2 (RV.tmp rfl) (RV.tmp rfl) (Le.refl _)) (List.nil_sublist _) (by rw [if_pos rfl]; rfl)
  | false =>
    refine PuH.intro Tryz.func42 rfl (by kernel_rfl) fun C hC => ?_
    repeat (refine A1 ⟨?_⟩; intros)
    exact endHR _ _ (end2 (RV.tmp rfl) (RV.tmp rfl) (Le.refl _)) (List.nil_sublist _) (by rw [if_neg (by decide)]; rfl)
end Go.Ab
/- Parts of an expression: the reference's check of one part. -/
namespace Go.Ab
open Go.Proofs
set_option linter.unusedSectionVars false
set_option linter.unusedVariables false
set_option linter.unusedSimpArgs false
variable [Base]
theorem rzero_pu (a b : RQ) {L : Nat} (ha : a.ok L) (hb : b.ok L) (hL : L ≤ 1000) : Pu Tryz.prog 90 [pr a b] (lit (.bool (zp a b))) := by
  obtain ⟨_, _, a1, a2⟩ := ha
  obtain ⟨_, _, b1, b2⟩ := hb
  show Pu _ _ [ag [lit (.bool a.s), dg a.n, dg a.d, lit (.bool b.s), dg b.n, dg b.d]] _
  unfold zp zq
  by_cases p1 : a.d.length = 0
  case neg =>
    rw [decide_eq_false p1, Bool.and_false, Bool.false_and]
    refine Pu.intro Tryz.func90 rfl (by kernel_rfl) fun C => ?_
    repeat (refine A1 ⟨?_⟩; intros)
    ((first | refine endR ?_ | refine endN ?_); exact end1 (RV.tmp rfl) (Le.refl _))
  rw [decide_eq_true p1, Bool.and_true]
  by_cases p2 : b.d.length = 0
  case neg =>
    rw [decide_eq_false p2, Bool.and_false, Bool.and_false]
    refine Pu.intro Tryz.func90 rfl (by kernel_rfl) fun C => ?_
    repeat (refine A1 ⟨?_⟩; intros)
    ((first | refine endR ?_ | refine endN ?_); exact end1 (RV.tmp rfl) (Le.refl _))
  rw [decide_eq_true p2, Bool.and_true]
  cases p3 : a.s with
  | true =>
    refine Pu.intro Tryz.func90 rfl (by kernel_rfl) fun C => ?_
    repeat (refine A1 ⟨?_⟩; intros)
    ((first | refine endR ?_ | refine endN ?_); exact end1 (RV.tmp rfl) (Le.refl _))
  | false =>
  cases p4 : b.s with
  | true =>
    rw [Bool.not_true, Bool.false_and, Bool.and_false]
    refine Pu.intro Tryz.func90 rfl (by kernel_rfl) fun C => ?_
    repeat (refine A1 ⟨?_⟩; intros)
    ((first | refine endR ?_ | refine endN ?_); exact end1 (RV.tmp rfl) (Le.refl _))
  | false =>
  rw [Bool.not_false, Bool.true_and, Bool.true_and]
  by_cases p5 : a.n.length = 0
  case neg =>
    rw [decide_eq_false p5, Bool.false_and]
    refine Pu.intro Tryz.func90 rfl (by kernel_rfl) fun C => ?_
    repeat (refine A1 ⟨?_⟩; intros)
    ((first | refine endR ?_ | refine endN ?_); exact end1 (RV.tmp rfl) (Le.refl _))
  rw [decide_eq_true p5, Bool.true_and]
  by_cases p6 : b.n.length = 0
  case neg =>
    rw [decide_eq_false p6]
    refine Pu.intro Tryz.func90 rfl (by kernel_rfl) fun C => ?_
    repeat (refine A1 ⟨?_⟩; intros)
    ((first | refine endR ?_ | refine endN ?_); exact end1 (RV.tmp rfl) (Le.refl _))
  rw [decide_eq_true p6]
  refine Pu.intro Tryz.func90 rfl (by kernel_rfl) fun C => ?_
  repeat (refine A1 ⟨?_⟩; intros)
  ((first | refine endR ?_ | refine endN ?_); exact end1 (RV.tmp rfl) (Le.refl _))
end Go.Ab
