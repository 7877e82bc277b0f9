/- Texts laid one behind the other: Zip, PubK, GPH, GPF, GPX2, GPE, GStS, GPO2. -/
import Derived.Test.YtebghnhocigmlaaGreatDoorB11
import Derived.Test.YtebghnhocigmlaaGreatDoorB12
import Derived.Test.YtebghnhocigmlaaGreatDoorB03
import Derived.Test.YtebghnhocigmlaaGreatDoorB13
set_option linter.unusedSectionVars false
set_option linter.unusedVariables false
set_option linter.unusedSimpArgs false
namespace Go.Ab
open Go.Proofs
variable [Base]
section
variable {P : Program} {C : Ctx} {n : Nat} {F F' F0 Fe : Fr} {H : LH} {ops : Array Oper} {Q : Exit → Fr → LH → Prop} {rs : List Nat} {Hc : LH} {K : Fr → LH → Prop}
def pk (l : List Oper) : List Nat → List NO'
  | [] => []
  | i :: r => match l[i]? with
    | some o => (i, o) :: pk l r
    | none => pk l r
def zTop (ops : Array Oper) (rs : List Nat) : List Nat → List Nat → Bool
  | _, [] => true
  | dn, i :: r => (r.all fun j => !edgeT ops i j && !(Nat.beq i j)) && (rs.contains i || rs.all fun k => !dn.contains k || edgeT ops i k) && zTop ops rs (i :: dn) r
def zOk (ops : Array Oper) (kk : Nat) (rs pi : List Nat) : Bool :=
  ((List.range ops.size).all fun i => backAt ops i) &&
  ((List.range kk).all fun i => (List.range i).all fun j => (dstAt ops j).isNone || !(dstAt ops i == dstAt ops j)) &&
  ((List.range kk).all fun i => (List.range kk).all fun j => match dstAt ops j with
    | some d => !looksAtB ops i d || edgeT ops i j || edgeT ops j i || Nat.beq i j
    | none => true) &&
  ((List.range kk).all fun i => pi.contains i) && (pi.all fun i => Nat.blt i kk) && zTop ops rs [] pi &&
  ((List.range rs.length).all fun t => Nat.blt (rs.getD t 0) kk && (List.range t).all fun u => edgeT ops (rs.getD t 0) (rs.getD u 0) && !(Nat.beq (rs.getD u 0) (rs.getD t 0))) &&
  Nat.ble kk ops.size && ((List.range ops.size).all fun i => Nat.blt i kk || (List.range i).all fun j => edgeT ops i j)
def TZ (P : Program) (C : Ctx) (n : Nat) (ops : Array Oper) (i : Nat) (o : Oper) (Fe : Fr) (H : LH) (Post : SV → LH → Prop) : Prop :=
  ∀ F, (∀ t, t ∈ o.looksAt ops → Fe t = F t) → ∀ a w, St C n F H a w → ∀ (Q' : Exit → Act → World → Prop) (K' : Act → World → Prop), (∀ ch a' w', Pan C ch a' w' → Q' (.panic ch) a' w') → (∀ sv H', Post sv H' → ∀ a' w', St C n (dstf o F sv) H' a' w' → K' a' w') → wpOp P ops Q' i K' a w
inductive Mz (P : Program) (C : Ctx) (n : Nat) (ops : Array Oper) (rs : List Nat) (Hc : LH) (K : Fr → LH → Prop) : Nat → List NO' → Fr → LH → Prop
  | nil {s : Nat} {F : Fr} {E : LH} (h : K F (E ++ Hc)) : Mz P C n ops rs Hc K s [] F E
  | free {s i d : Nat} {o : Oper} {sv : SV} {r : List NO'} {F : Fr} {E : LH} (hr : rs.contains i = false) (hd : o.dst = some d) (hdn : Nat.blt d n = true) (hds : DS P ops n Hc o F sv) (h : Mz P C n ops rs Hc K s r (upd F d sv) E) : Mz P C n ops rs Hc K s ((i, o) :: r) F E
  | late {s i d : Nat} {o : Oper} {sv : SV} {r : List NO'} {F : Fr} {E : LH} (hl : rs.length = s) (hr : rs.contains i = false) (hd : o.dst = some d) (hdn : Nat.blt d n = true) (hds : DS P ops n (E ++ Hc) o F sv) (h : Mz P C n ops rs Hc K s r (upd F d sv) E) : Mz P C n ops rs Hc K s ((i, o) :: r) F E
  | row {s i : Nat} {o : Oper} {r : List NO'} {F : Fr} {E : LH} {Post : SV → LH → Prop} (hr : rs[s]? = some i) (ht : TZ P C n ops i o F (E ++ Hc) (fun sv H' => ∃ E', H' = E' ++ Hc ∧ Post sv E')) (h : ∀ sv E', Post sv E' → Mz P C n ops rs Hc K (s + 1) r (dstf o F sv) E') : Mz P C n ops rs Hc K s ((i, o) :: r) F E
theorem dsts_cons {x : NO'} {r : List NO'} {t : Nat} : dsts (x :: r) t = (x.2.dst == some t || dsts r t) := rfl
theorem dsts_app {l r : List NO'} {t : Nat} : dsts (l ++ r) t = (dsts l t || dsts r t) := by unfold dsts; rw [List.any_append]
def ZEnd (P : Program) (C : Ctx) (n : Nat) (ops : Array Oper) (rs : List Nat) (Hc : LH) (K : Fr → LH → Prop) (s : Nat) (rest : List NO') (G : Fr) (E : LH) : Prop :=
  (rest = [] ∧ K G (E ++ Hc)) ∨ ∃ i o r, rest = (i, o) :: r ∧ rs[s]? = some i ∧ ∃ Post : SV → LH → Prop, TZ P C n ops i o G (E ++ Hc) (fun sv H' => ∃ E', H' = E' ++ Hc ∧ Post sv E') ∧ ∀ sv E', Post sv E' → Mz P C n ops rs Hc K (s + 1) r (dstf o G sv) E'
def ZV (P : Program) (n : Nat) (ops : Array Oper) (rs : List Nat) (s : Nat) (E Hc : LH) (F0 G : Fr) (l1 : List NO') (o : Oper) : Prop :=
  ∃ Hd d Fk, (Hd = Hc ∨ (rs.length = s ∧ Hd = E ++ Hc)) ∧ o.dst = some d ∧ Nat.blt d n = true ∧ (∀ t, Fk t = if dsts l1 t = true then G t else F0 t) ∧ DS P ops n Hd o Fk (G d)
def Dst1 (L : List NO') : Prop := ∀ l1 x l2 t, L = l1 ++ x :: l2 → x.2.dst = some t → dsts l1 t = false ∧ dsts l2 t = false
theorem Dst1.tail {x : NO'} {L : List NO'} (h : Dst1 (x :: L)) : Dst1 L := fun l1 y l2 t he hd => by
  have := h (x :: l1) y l2 t (by rw [he]; rfl) hd
  rw [dsts_cons, Bool.or_eq_false_iff] at this
  exact ⟨this.1.2, this.2⟩
theorem Mz.walk {s : Nat} {L : List NO'} {E : LH} (h : Mz P C n ops rs Hc K s L F E) : Dst1 L → ∃ pre rest G, L = pre ++ rest ∧ (∀ x ∈ pre, rs.contains x.1 = false) ∧ (∀ l1 i o l2, pre = l1 ++ (i, o) :: l2 → ZV P n ops rs s E Hc F G l1 o) ∧
    (∀ t, dsts pre t = false → G t = F t) ∧ ZEnd P C n ops rs Hc K s rest G E := by
  induction h with
  | @nil s F E h => exact fun _ => ⟨[], [], F, rfl, (fun x hx => by cases hx), (fun l1 i o l2 he => by cases l1 <;> cases he), fun _ _ => rfl, .inl ⟨rfl, h⟩⟩
  | @row s i o r F E Post hr ht h _ => exact fun _ => ⟨[], _, F, rfl, (fun x hx => by cases hx), (fun l1 i o l2 he => by cases l1 <;> cases he), fun _ _ => rfl, .inr ⟨i, o, r, rfl, hr, Post, ht, h⟩⟩
  | @free s i d o sv r F E hr hd hdn hds h ih =>
    intro h1
    obtain ⟨pre, rest, G, rfl, g1, g2, g3, g4⟩ := ih h1.tail
    have hpre : dsts pre d = false := by
      have := (h1 [] (i, o) (pre ++ rest) d rfl hd).2
      rw [dsts_app, Bool.or_eq_false_iff] at this
      exact this.1
    have hGd : G d = sv := by rw [g3 d hpre, upd_eq]
    refine ⟨(i, o) :: pre, rest, G, rfl, fun x hx => ?_, fun l1 i' o' l2 he => ?_, fun t ht => ?_, g4⟩
    · rcases List.mem_cons.1 hx with rfl | hx
      · exact hr
      · exact g1 x hx
    · cases l1 with
      | nil =>
        simp only [List.nil_append, List.cons.injEq, Prod.mk.injEq] at he
        obtain ⟨⟨rfl, rfl⟩, rfl⟩ := he
        exact ⟨Hc, d, F, .inl rfl, hd, hdn, fun t => by simp [dsts], hGd ▸ hds⟩
      | cons x l1 =>
        simp only [List.cons_append, List.cons.injEq] at he
        obtain ⟨rfl, rfl⟩ := he
        obtain ⟨Hd, d', Fk, k0, k1, k2, k3, k4⟩ := g2 l1 i' o' l2 rfl
        refine ⟨Hd, d', Fk, k0, k1, k2, fun t => ?_, k4⟩
        rw [k3 t, dsts_cons]
        by_cases ht : t = d
        · subst ht
          rw [dsts_app, Bool.or_eq_false_iff] at hpre
          rw [hpre.1]
          simp only [hd, beq_self_eq_true, Bool.true_or, if_true, Bool.false_eq_true, if_false, upd_eq, hGd]
        · have : (o.dst == some t) = false := by rw [hd]; simpa using fun e => ht e.symm
          simp only [this, Bool.false_or, upd_ne ht]
    · rw [dsts_cons, Bool.or_eq_false_iff] at ht
      rw [g3 t ht.2, upd_ne fun e => ?_]
      rw [hd, e] at ht
      simp at ht
  | @late s i d o sv r F E hl hr hd hdn hds h ih =>
    intro h1
    obtain ⟨pre, rest, G, rfl, g1, g2, g3, g4⟩ := ih h1.tail
    have hpre : dsts pre d = false := by
      have := (h1 [] (i, o) (pre ++ rest) d rfl hd).2
      rw [dsts_app, Bool.or_eq_false_iff] at this
      exact this.1
    have hGd : G d = sv := by rw [g3 d hpre, upd_eq]
    refine ⟨(i, o) :: pre, rest, G, rfl, fun x hx => ?_, fun l1 i' o' l2 he => ?_, fun t ht => ?_, g4⟩
    · rcases List.mem_cons.1 hx with rfl | hx
      · exact hr
      · exact g1 x hx
    · cases l1 with
      | nil =>
        simp only [List.nil_append, List.cons.injEq, Prod.mk.injEq] at he
        obtain ⟨⟨rfl, rfl⟩, rfl⟩ := he
        exact ⟨E ++ Hc, d, F, .inr ⟨hl, rfl⟩, hd, hdn, fun t => by simp [dsts], hGd ▸ hds⟩
      | cons x l1 =>
        simp only [List.cons_append, List.cons.injEq] at he
        obtain ⟨rfl, rfl⟩ := he
        obtain ⟨Hd, d', Fk, k0, k1, k2, k3, k4⟩ := g2 l1 i' o' l2 rfl
        refine ⟨Hd, d', Fk, k0, k1, k2, fun t => ?_, k4⟩
        rw [k3 t, dsts_cons]
        by_cases ht : t = d
        · subst ht
          rw [dsts_app, Bool.or_eq_false_iff] at hpre
          rw [hpre.1]
          simp only [hd, beq_self_eq_true, Bool.true_or, if_true, Bool.false_eq_true, if_false, upd_eq, hGd]
        · have : (o.dst == some t) = false := by rw [hd]; simpa using fun e => ht e.symm
          simp only [this, Bool.false_or, upd_ne ht]
    · rw [dsts_cons, Bool.or_eq_false_iff] at ht
      rw [g3 t ht.2, upd_ne fun e => ?_]
      rw [hd, e] at ht
      simp at ht
theorem pk_fst {l : List Oper} : ∀ {pi : List Nat}, (∀ i ∈ pi, i < l.length) → (pk l pi).map (·.1) = pi
  | [], _ => rfl
  | i :: r, h => by
    have hi := h i (by simp)
    have : l[i]? = some l[i] := by simp [hi]
    unfold pk
    rw [this]
    rw [List.map_cons, pk_fst fun j hj => h j (List.mem_cons_of_mem _ hj)]
theorem pk_mem {l : List Oper} {x : NO'} : ∀ {pi : List Nat}, x ∈ pk l pi → l[x.1]? = some x.2
  | [], h => by cases h
  | i :: r, h => by
    unfold pk at h
    cases ho : l[i]? with
    | none => rw [ho] at h; exact pk_mem h
    | some o =>
      rw [ho] at h
      rcases List.mem_cons.1 h with rfl | h
      · exact ho
      · exact pk_mem h
theorem zTop_spec : ∀ {pi dn : List Nat}, zTop ops rs dn pi = true → ∀ l1 i l2, pi = l1 ++ i :: l2 → (∀ j ∈ l2, edgeT ops i j = false ∧ i ≠ j) ∧ (rs.contains i = false → ∀ k ∈ rs, k ∈ l1 ∨ k ∈ dn → edgeT ops i k = true)
  | [], _, _, l1, i, l2, he => by cases l1 <;> cases he
  | j :: r, dn, h, l1, i, l2, he => by
    simp only [zTop, Bool.and_eq_true, List.all_eq_true, Bool.or_eq_true, Bool.not_eq_true'] at h
    obtain ⟨⟨h1, h2⟩, h3⟩ := h
    cases l1 with
    | nil =>
      simp only [List.nil_append, List.cons.injEq] at he
      obtain ⟨rfl, rfl⟩ := he
      refine ⟨fun k hk => ⟨(h1 k hk).1, fun e => ?_⟩, fun hr k hk hkd => ?_⟩
      · have := (h1 k hk).2
        rw [e, Nat.beq_refl] at this; cases this
      · rcases h2 with h2 | h2
        · rw [hr] at h2; cases h2
        · rcases hkd with hkd | hkd
          · cases hkd
          · rcases h2 k hk with h | h
            · rw [List.contains_iff_mem.2 hkd] at h; cases h
            · exact h
    | cons x l1 =>
      simp only [List.cons_append, List.cons.injEq] at he
      obtain ⟨rfl, rfl⟩ := he
      obtain ⟨g1, g2⟩ := zTop_spec h3 l1 i l2 rfl
      refine ⟨g1, fun hr k hk hkd => g2 hr k hk ?_⟩
      rcases hkd with hkd | hkd
      · rcases List.mem_cons.1 hkd with rfl | hkd
        · exact .inr (by simp)
        · exact .inl hkd
      · exact .inr (by simp [hkd])
structure ZChk (ops : Array Oper) (kk : Nat) (rs : List Nat) (PI : List NO') : Prop where
  back : ∀ i, i < ops.size → backAt ops i = true
  look : ∀ i j d, i < kk → j < kk → dstAt ops j = some d → looksAtB ops i d = true → edgeT ops i j = true ∨ edgeT ops j i = true ∨ i = j
  all : ∀ i o, i < kk → ops[i]? = some o → (i, o) ∈ PI
  get : ∀ x ∈ PI, ops[x.1]? = some x.2
  lt : ∀ x ∈ PI, x.1 < kk
  hk : kk ≤ ops.size
  tail : ∀ i, i < ops.size → kk ≤ i → ∀ j, j < i → edgeT ops i j = true
  top : ∀ l1 x l2, PI = l1 ++ x :: l2 → (∀ y ∈ l2, edgeT ops x.1 y.1 = false ∧ x.1 ≠ y.1) ∧ (rs.contains x.1 = false → ∀ y ∈ l1, rs.contains y.1 = true → edgeT ops x.1 y.1 = true)
  row : ∀ (t k : Nat), rs[t]? = some k → k < kk ∧ ∀ (u : Nat) (k' : Nat), u < t → rs[u]? = some k' → edgeT ops k k' = true ∧ k' ≠ k
  dst1 : Dst1 PI
theorem map_split {l : List NO'} {l1 l2 : List NO'} {x : NO'} (h : l = l1 ++ x :: l2) : l.map (·.1) = l1.map (·.1) ++ x.1 :: l2.map (·.1) := by subst h; simp
theorem zOk_spec {l : List Oper} {kk : Nat} {pi : List Nat} (h : zOk l.toArray kk rs pi = true) : ZChk l.toArray kk rs (pk l pi) := by
  simp only [zOk, Bool.and_eq_true, List.all_eq_true, List.mem_range] at h
  obtain ⟨⟨⟨⟨⟨⟨⟨⟨h1, h2⟩, h3⟩, h4⟩, h5⟩, h6⟩, h7⟩, h8⟩, h9⟩ := h
  have hkk : kk ≤ l.toArray.size := Nat.le_of_ble_eq_true h8
  have hkl : kk ≤ l.length := by simpa using hkk
  have hlt : ∀ i ∈ pi, i < l.length := fun i hi => Nat.lt_of_lt_of_le (Nat.blt_eq.mp (h5 i hi)) hkl
  have hfst := pk_fst hlt
  have hget : ∀ x ∈ pk l pi, l.toArray[x.1]? = some x.2 := fun x hx => by simpa using pk_mem hx
  have htop : ∀ l1 x l2, pk l pi = l1 ++ x :: l2 → (∀ y ∈ l2, edgeT l.toArray x.1 y.1 = false ∧ x.1 ≠ y.1) ∧ (rs.contains x.1 = false → ∀ y ∈ l1, rs.contains y.1 = true → edgeT l.toArray x.1 y.1 = true) := fun l1 x l2 he => by
    have := map_split he
    rw [hfst] at this
    obtain ⟨g1, g2⟩ := zTop_spec h6 _ _ _ this
    exact ⟨fun y hy => g1 y.1 (List.mem_map.2 ⟨y, hy, rfl⟩), fun hr y hy hyr => g2 hr y.1 (List.contains_iff_mem.1 hyr) (.inl (List.mem_map.2 ⟨y, hy, rfl⟩))⟩
  have hltk : ∀ x ∈ pk l pi, x.1 < kk := fun x hx => by
    have : x.1 ∈ (pk l pi).map (·.1) := List.mem_map.2 ⟨x, hx, rfl⟩
    rw [hfst] at this
    exact Nat.blt_eq.mp (h5 _ this)
  have hdis : ∀ i j d, i < kk → j < i → dstAt l.toArray j = some d → dstAt l.toArray i ≠ some d := fun i j d hi hj hd he => by
    have := h2 i hi j hj
    simp only [Bool.or_eq_true, Bool.not_eq_true'] at this
    rcases this with h | h
    · rw [hd] at h; cases h
    · rw [hd, he] at h; simp at h
  have hdne : ∀ x ∈ pk l pi, ∀ y ∈ pk l pi, x.1 ≠ y.1 → ∀ t, x.2.dst = some t → y.2.dst ≠ some t := fun x hx y hy hne t hxt hyt => by
    have gx := hget x hx
    have gy := hget y hy
    have sx := hltk x hx
    have sy := hltk y hy
    rcases Nat.lt_or_gt_of_ne hne with h | h
    · exact hdis y.1 x.1 t sy h (by rw [dstAt_of gx, hxt]) (by rw [dstAt_of gy, hyt])
    · exact hdis x.1 y.1 t sx h (by rw [dstAt_of gy, hyt]) (by rw [dstAt_of gx, hxt])
  refine ⟨fun i hi => h1 i hi, fun i j d hi hj hd hl => ?_, fun i o hi ho => ?_, hget, hltk, hkk, fun i hi hk j hj => ?_, htop, fun t k hk => ?_, fun l1 x l2 t he hd => ?_⟩
  · have := h3 i hi j hj
    rw [hd] at this
    simp only [hl, Bool.not_true, Bool.false_or, Bool.or_eq_true] at this
    rcases this with (h | h) | h
    · exact .inl h
    · exact .inr (.inl h)
    · exact .inr (.inr (Nat.eq_of_beq_eq_true h))
  · have hm : i ∈ pi := List.contains_iff_mem.1 (h4 i hi)
    rw [← hfst] at hm
    obtain ⟨x, hx, rfl⟩ := List.mem_map.1 hm
    have := hget x hx
    rw [ho] at this
    obtain rfl := Option.some.inj this
    exact hx
  · have := h9 i hi
    simp only [Bool.or_eq_true, Nat.blt_eq, List.all_eq_true, List.mem_range] at this
    rcases this with h | h
    · omega
    · exact h j hj
  · have ht := (List.getElem?_eq_some_iff.1 hk).1
    have gk : rs.getD t 0 = k := by simp [List.getD, hk]
    obtain ⟨g1, g2⟩ := h7 t ht
    rw [gk] at g1 g2
    refine ⟨Nat.blt_eq.mp g1, fun u k' hu hk' => ?_⟩
    have gk' : rs.getD u 0 = k' := by simp [List.getD, hk']
    have := g2 u hu
    rw [gk'] at this
    simp only [Bool.not_eq_true'] at this
    exact ⟨this.1, fun e => by rw [e, Nat.beq_refl] at this; cases this.2⟩
  · have hmx : x ∈ pk l pi := by rw [he]; simp
    have hne1 : ∀ y ∈ l1, y.1 ≠ x.1 := fun y hy => by
      obtain ⟨a, b, hab⟩ := List.append_of_mem hy
      exact ((htop a y (b ++ x :: l2) (by rw [he, hab]; simp)).1 x (by simp)).2
    have hne2 : ∀ y ∈ l2, y.1 ≠ x.1 := fun y hy => fun e => ((htop l1 x l2 he).1 y hy).2 e.symm
    constructor
    · cases hb : dsts l1 t with
      | false => rfl
      | true =>
        obtain ⟨y, hy, hyt⟩ := dsts_mem.1 hb
        exact absurd hyt (hdne x hmx y (by rw [he]; simp [hy]) (hne1 y hy).symm t hd)
    · cases hb : dsts l2 t with
      | false => rfl
      | true =>
        obtain ⟨y, hy, hyt⟩ := dsts_mem.1 hb
        exact absurd hyt (hdne x hmx y (by rw [he]; simp [hy]) (hne2 y hy).symm t hd)
def zF (ops : Array Oper) (listed : Array Bool) (G F0 : Fr) : Fr := fun t => if lisB ops listed t = true then G t else F0 t
theorem lisB_mem {listed : Array Bool} {t : Nat} : lisB ops listed t = true ↔ ∃ j o, ops[j]? = some o ∧ listed.getD j false = true ∧ o.dst = some t := by
  unfold lisB
  simp only [List.any_eq_true, List.mem_range, Bool.and_eq_true]
  constructor
  · rintro ⟨j, hj, h1, h2⟩
    exact ⟨j, ops[j], by simp [hj], h1, by rw [dstAt_of (o := ops[j]) (by simp [hj])] at h2; simpa using h2⟩
  · rintro ⟨j, o, ho, h1, h2⟩
    exact ⟨j, (Array.getElem?_eq_some_iff.1 ho).1, h1, by rw [dstAt_of ho, h2]; simp⟩
structure ZInv (P : Program) (C : Ctx) (n : Nat) (ops : Array Oper) (rs : List Nat) (Hc : LH) (K : Fr → LH → Prop) (PI : List NO') (F0 : Fr) (s : Nat) (listed : Array Bool) (dn rest : List NO') (G : Fr) (E : LH) : Prop where
  pi : PI = dn ++ rest
  v : ∀ l1 i o l2, dn = l1 ++ (i, o) :: l2 → rs.contains i = false → ZV P n ops rs s E Hc F0 G l1 o
  out : ∀ t, dsts dn t = false → G t = F0 t
  fin : ZEnd P C n ops rs Hc K s rest G E
  don : ∀ x ∈ dn, rs.contains x.1 = true → listed.getD x.1 false = true
  lst : ∀ j, listed.getD j false = true → ∃ o, (j, o) ∈ dn
  size : listed.size = ops.size
  closed : Closed ops listed
  cnt : ∀ (u k : Nat), rs[u]? = some k → (listed.getD k false = true ↔ u < s)
theorem getD_ff {listed : Array Bool} {j : Nat} (hs : listed.size = ops.size) (hj : j < ops.size) : listed.getD j true = listed.getD j false := by
  have hsz : j < listed.size := by omega
  simp [hsz]
theorem set_getD {listed : Array Bool} {i j : Nat} (hs : listed.size = ops.size) (hi : i < ops.size) : (listed.setIfInBounds i true).getD j false = true ↔ listed.getD j false = true ∨ j = i := by
  by_cases hji : i = j
  · subst hji; simp [hs, hi]
  · rw [getD_set_ne false hji]
    exact ⟨.inl, fun h => h.elim id fun e => absurd e.symm hji⟩
theorem zRun {Q' : Exit → Act → World → Prop} {kk : Nat} {PI : List NO'} (hc : ZChk ops kk rs PI) (hpan : ∀ ch a w, Pan C ch a w → Q' (.panic ch) a w) (fin : ∀ G E a w, K G (E ++ Hc) → St C n G (E ++ Hc) a w → wpList P ops Q' (ops.toList.drop kk) a w) :
    ∀ (fuel s : Nat) (listed : Array Bool) (a : Act) (w : World) (dn rest : List NO') (G : Fr) (E : LH), (left ops kk listed).length + (ops.size - kk) ≤ fuel → ZInv P C n ops rs Hc K PI F0 s listed dn rest G E → St C n (zF ops listed G F0) (E ++ Hc) a w → wpAny P .any ops Q' fuel listed a w := by
  have hkk := hc.hk
  have done : ∀ (fuel s : Nat) (listed : Array Bool) (a : Act) (w : World) (dn rest : List NO') (G : Fr) (E : LH), ops.size - kk ≤ fuel → left ops kk listed = [] → ZInv P C n ops rs Hc K PI F0 s listed dn rest G E → St C n (zF ops listed G F0) (E ++ Hc) a w → wpAny P .any ops Q' fuel listed a w := by
    intro fuel s listed a w dn rest G E hfu hnil hi hst
    have all : ∀ j, j < kk → listed.getD j false = true := fun j hj => by
      cases hb : listed.getD j false with
      | true => rfl
      | false =>
        have : (j, ops[j]) ∈ left ops kk listed := mem_left.2 ⟨hj, by simp, by simp only; rw [getD_ff hi.size (by omega)]; exact hb⟩
        rw [hnil] at this; cases this
    have hrest : rest = [] := by
      cases rest with
      | nil => rfl
      | cons x r =>
        exfalso
        have hx : x ∈ PI := by rw [hi.pi]; simp
        obtain ⟨o, ho⟩ := hi.lst x.1 (all _ (hc.lt x hx))
        obtain ⟨l1, l2, hl⟩ := List.append_of_mem ho
        exact ((hc.top l1 (x.1, o) (l2 ++ x :: r) (by rw [hi.pi, hl]; simp)).1 x (by simp)).2 rfl
    have hK : K G (E ++ Hc) := by
      rcases hi.fin with ⟨_, h⟩ | ⟨i, o, r, h, _⟩
      · exact h
      · rw [hrest] at h; cases h
    refine tailRun hc.back hc.tail fuel kk listed a w (Nat.le_refl _) hi.size hi.closed hfu (fun j hj => by rw [getD_ff hi.size (by omega)]; exact all j hj) (fun j hj hjs => ?_) (fin G E a w hK (hst.le fun t => Le.of_eq ?_))
    · rw [getD_ff hi.size hjs]
      cases hb : listed.getD j false with
      | false => rfl
      | true =>
        obtain ⟨o, ho⟩ := hi.lst j hb
        have := hc.lt (j, o) (by rw [hi.pi]; simp [ho])
        simp only at this
        omega
    unfold zF
    split
    · rfl
    · rename_i hb
      refine (hi.out t ?_).symm
      cases hd : dsts dn t with
      | false => rfl
      | true =>
        obtain ⟨x, hx, hxt⟩ := dsts_mem.1 hd
        have hx' : x ∈ PI := by rw [hi.pi]; simp [hx]
        have hg := hc.get x hx'
        exact absurd (lisB_mem.2 ⟨x.1, x.2, hg, all _ (hc.lt x hx'), hxt⟩) hb
  have noready : ∀ (listed : Array Bool), listed.size = ops.size → Region.ready .any ops listed = [] → left ops kk listed = [] := fun listed hs hr => by
    cases hl : left ops kk listed with
    | nil => rfl
    | cons x l' =>
      exfalso
      obtain ⟨i, o⟩ := x
      have hmem : (i, o) ∈ left ops kk listed := by rw [hl]; simp
      obtain ⟨h1, h2, h3⟩ := mem_left.1 hmem
      simp only at h1 h2 h3
      have hready : i ∈ Region.ready .any ops listed := by
        rw [mem_ready]
        refine ⟨h3, o, h2, fun e he hb => ?_⟩
        have hlt := back_spec (hc.back i (by omega)) h2 e he hb
        cases hle : listed.getD e.on false with
        | true => rfl
        | false =>
          have hm2 : (e.on, ops[e.on]'(by omega)) ∈ left ops kk listed := mem_left.2 ⟨by simp only; omega, by simp, by simp only; rw [getD_ff hs (by omega)]; exact hle⟩
          have hsort := left_sorted (ops := ops) kk listed
          rw [hl] at hsort hm2
          rcases List.mem_cons.1 hm2 with h | h
          · simp only [Prod.mk.injEq] at h; omega
          · have := (List.pairwise_cons.1 hsort).1 _ h; simp at this; omega
      rw [hr] at hready; cases hready
  intro fuel
  induction fuel with
  | zero =>
    intro s listed a w dn rest G E hfu hi hst
    exact done 0 s listed a w dn rest G E (by omega) (List.eq_nil_of_length_eq_zero (by omega)) hi hst
  | succ fuel ih =>
    intro s listed a w dn rest G E hfu hi hst
    by_cases hnil : left ops kk listed = []
    · exact done (fuel + 1) s listed a w dn rest G E (by omega) hnil hi hst
    refine ⟨fun hrd => absurd (noready listed hi.size hrd) hnil, fun i him => ?_⟩
    obtain ⟨hun, o, ho, _⟩ := mem_ready.1 him
    have hio := (Array.getElem?_eq_some_iff.1 ho).1
    have hik : i < kk := by
      rcases Nat.lt_or_ge i kk with h | h
      · exact h
      · exfalso
        obtain ⟨x, hx⟩ := List.exists_mem_of_ne_nil _ hnil
        obtain ⟨q1, q2, q3⟩ := mem_left.1 hx
        have := edgeT_listed hi.closed him (hc.tail i hio h x.1 (by omega))
        rw [getD_ff hi.size (by omega), this] at q3; cases q3
    rw [getD_ff hi.size hio] at hun
    have hmem : (i, o) ∈ left ops kk listed := mem_left.2 ⟨hik, ho, by simp only; rw [getD_ff hi.size hio]; exact hun⟩
    obtain ⟨l1, l2, hl12⟩ := List.append_of_mem hmem
    have hset := left_set hi.size hio hl12
    have hlen : (l1 ++ l2).length + 1 = (left ops kk listed).length := by rw [hl12]; simp; omega
    have hls : (listed.setIfInBounds i true).size = ops.size := by simpa using hi.size
    have hPI := hc.all i o hik ho
    have ahead : ∀ (x : NO') (t : Nat), x ∈ PI → x.2.dst = some t → t ∈ o.looksAt ops → (edgeT ops i x.1 = true ∨ edgeT ops x.1 i = true ∨ i = x.1) := fun x t hx hxt ht => by
      have hg := hc.get x hx
      exact hc.look i x.1 t hik (hc.lt x hx) (by rw [dstAt_of hg, hxt]) (by unfold looksAtB; rw [ho]; simpa using ht)
    rw [hi.pi] at hPI
    cases hir : rs.contains i with
    | false =>
      have hdn : (i, o) ∈ dn := by
        rcases List.mem_append.1 hPI with h | h
        · exact h
        · exfalso
          rcases hi.fin with ⟨hr, _⟩ | ⟨i', o', r, hr, hrs, _⟩
          · rw [hr] at h; cases h
          · rw [hr] at h
            rcases List.mem_cons.1 h with h | h
            · cases h
              rw [List.contains_iff_mem.2 (List.mem_of_getElem? hrs)] at hir; cases hir
            · obtain ⟨a1, a2, ha⟩ := List.append_of_mem h
              have htop := (hc.top (dn ++ (i', o') :: a1) (i, o) a2 (by rw [hi.pi, hr, ha]; simp)).2 hir (i', o') (by simp) (List.contains_iff_mem.2 (List.mem_of_getElem? hrs))
              have h1 := edgeT_listed hi.closed him htop
              have := (hi.cnt s i' hrs).1 h1
              omega
      obtain ⟨k1, k2, hk⟩ := List.append_of_mem hdn
      obtain ⟨Hd, d, Fk, hHd, hd, hdn', hFk, hds⟩ := hi.v k1 i o k2 hk hir
      have hPIk : PI = k1 ++ (i, o) :: (k2 ++ rest) := by rw [hi.pi, hk]; simp
      have hag : ∀ t, t ∈ o.looksAt ops → Fk t = zF ops listed G F0 t := fun t ht => by
        rw [hFk t]
        unfold zF
        have : dsts k1 t = lisB ops listed t := by
          rw [Bool.eq_iff_iff, dsts_mem, lisB_mem]
          constructor
          · rintro ⟨x, hx, hxt⟩
            have hxP : x ∈ PI := by rw [hPIk]; simp [hx]
            obtain ⟨b1, b2, hb⟩ := List.append_of_mem hx
            have htop := (hc.top b1 x (b2 ++ (i, o) :: (k2 ++ rest)) (by rw [hPIk, hb]; simp)).1 (i, o) (by simp)
            refine ⟨x.1, x.2, hc.get x hxP, ?_, hxt⟩
            rcases ahead x t hxP hxt ht with h | h | h
            · exact edgeT_listed hi.closed him h
            · rw [htop.1] at h; cases h
            · exact absurd h.symm htop.2
          · rintro ⟨j, o', hj, hjl, hjt⟩
            have hjP : (j, o') ∈ PI := by
              obtain ⟨o2, h2⟩ := hi.lst j hjl
              have h3 : (j, o2) ∈ PI := by rw [hi.pi]; simp [h2]
              have hg := hc.get _ h3
              simp only at hg
              rw [hj] at hg
              obtain rfl := Option.some.inj hg
              exact h3
            have hne : j ≠ i := fun e => by rw [e] at hjl; rw [hun] at hjl; cases hjl
            rcases ahead (j, o') t hjP hjt ht with h | h | h
            · rw [hPIk] at hjP
              rcases List.mem_append.1 hjP with h' | h'
              · exact ⟨_, h', hjt⟩
              · exfalso
                rcases List.mem_cons.1 h' with h' | h'
                · cases h'; exact hne rfl
                · have := ((hc.top k1 (i, o) (k2 ++ rest) hPIk).1 (j, o') h').1
                  simp only at this h
                  rw [this] at h; cases h
            · exfalso
              have := edgeT_on hi.closed hjl h
              rw [hun] at this; cases this
            · exact absurd h.symm hne
        rw [this]
      have hds' := hds.frame hag
      obtain ⟨hdef, hn, m, h1, h2, h3, h4, h5⟩ := hst
      have key : ∀ v m' w', (G d).p m' v → MemIn m' w' → HOk m' w' (E ++ Hc) → Rel (keys (E ++ Hc)) m w m' w' → wpAny P .any ops Q' fuel (listed.setIfInBounds i true) (a.put (some d) v) w' := by
       intro v m' w' hv' hm' hH' r
       refine ih s _ _ _ dn rest G E (by rw [hset]; omega) ⟨hi.pi, hi.v, hi.out, hi.fin, fun x hx hxr => (set_getD hi.size hio).2 (.inl (hi.don x hx hxr)), fun j hj => ?_, hls, hi.closed.step him, fun u k hk' => ?_⟩ ?_
       · rcases (set_getD hi.size hio).1 hj with h | rfl
         · exact hi.lst j h
         · exact ⟨o, hdn⟩
       · rw [set_getD hi.size hio, hi.cnt u k hk']
         refine ⟨fun h => h.elim id fun e => ?_, .inl⟩
         rw [← e, List.contains_iff_mem.2 (List.mem_of_getElem? hk')] at hir; cases hir
       · have hz : zF ops (listed.setIfInBounds i true) G F0 = upd (zF ops listed G F0) d (G d) := by
           funext t
           unfold zF
           rw [lisB_set hi.size ho, hd]
           by_cases ht : t = d
           · subst ht; rw [upd_eq]; simp
           · rw [upd_ne ht]
             have : (some d == some t) = false := by simpa using fun e => ht e.symm
             rw [this, Bool.or_false]
         rw [hz]
         exact St.put (Nat.blt_eq.mp hdn') hdef hn h2 h3 h4 h5 hv' hm' hH' r
      rcases hHd with rfl | ⟨-, rfl⟩
      · exact hds'.wp ho hd hn h1 h2.tail h5 fun v m' w' hv' hm' hH' r => key v m' w' hv' hm' (h2.beside hH' r) (r.mono fun b hb => by unfold keys at *; rw [List.map_append]; exact List.mem_append_right _ hb)
      · exact hds'.wp ho hd hn h1 h2 h5 key
    | true =>
      obtain ⟨u, hu⟩ := List.mem_iff_getElem?.1 (List.contains_iff_mem.1 hir)
      have hus : ¬ u < s := fun h => by have := (hi.cnt u i hu).2 h; rw [hun] at this; cases this
      have hndn : ∀ o', (i, o') ∉ dn := fun o' h => by have := hi.don _ h hir; simp only at this; rw [hun] at this; cases this
      have hrest : (i, o) ∈ rest := by
        rcases List.mem_append.1 hPI with h | h
        · exact absurd h (hndn o)
        · exact h
      rcases hi.fin with ⟨hr, _⟩ | ⟨i', o', r, hr, hrs, Post, hts, hnext⟩
      · rw [hr] at hrest; cases hrest
      have hii : i' = i := by
        have hsu : u = s := by
          rcases Nat.lt_trichotomy u s with h | h | h
          · exact absurd h hus
          · exact h
          · exfalso
            have h2 := ((hc.row u i hu).2 s i' h hrs).1
            have h3 := edgeT_listed hi.closed him h2
            have := (hi.cnt s i' hrs).1 h3
            omega
        subst hsu
        rw [hu] at hrs
        exact (Option.some.inj hrs).symm
      subst hii
      have hoo : o' = o := by
        have hg := hc.get (i', o') (by rw [hi.pi, hr]; simp)
        simp only at hg
        rw [ho] at hg
        exact (Option.some.inj hg).symm
      subst hoo
      have hPIk : PI = dn ++ (i', o') :: r := by rw [hi.pi, hr]
      have hag : ∀ t, t ∈ o'.looksAt ops → G t = zF ops listed G F0 t := fun t ht => by
        unfold zF
        split
        · rfl
        · rename_i hb
          refine hi.out t ?_
          cases hd : dsts dn t with
          | false => rfl
          | true =>
            exfalso
            obtain ⟨x, hx, hxt⟩ := dsts_mem.1 hd
            have hxP : x ∈ PI := by rw [hPIk]; simp [hx]
            obtain ⟨b1, b2, hb'⟩ := List.append_of_mem hx
            have htop := (hc.top b1 x (b2 ++ (i', o') :: r) (by rw [hPIk, hb']; simp)).1 (i', o') (by simp)
            rcases ahead x t hxP hxt ht with h | h | h
            · exact hb (lisB_mem.2 ⟨x.1, x.2, hc.get x hxP, edgeT_listed hi.closed him h, hxt⟩)
            · rw [htop.1] at h; cases h
            · exact absurd h.symm htop.2
      refine hts _ hag a w hst Q' _ hpan fun sv H' hP a' w' hst' => ?_
      obtain ⟨E', rfl, hP⟩ := hP
      have hd1 := hc.dst1
      have hdr : Dst1 r := fun l1 x l2 t he hd => by
        have := hd1 (dn ++ (i', o') :: l1) x l2 t (by rw [hPIk, he]; simp) hd
        rw [dsts_app, dsts_cons, Bool.or_eq_false_iff, Bool.or_eq_false_iff] at this
        exact ⟨this.1.2.2, this.2⟩
      obtain ⟨pre, rest', G', hpr, g1, g2, g3, g4⟩ := (hnext sv E' hP).walk hdr
      have hPI2 : PI = (dn ++ (i', o') :: pre) ++ rest' := by rw [hPIk, hpr]; simp
      have hGd : ∀ t, dsts dn t = true → G' t = G t := fun t ht => by
        obtain ⟨x, hx, hxt⟩ := dsts_mem.1 ht
        obtain ⟨b1, b2, hb'⟩ := List.append_of_mem hx
        have := (hd1 b1 x (b2 ++ (i', o') :: r) t (by rw [hPIk, hb']; simp) hxt).2
        rw [hpr, dsts_app, dsts_cons, dsts_app, Bool.or_eq_false_iff, Bool.or_eq_false_iff, Bool.or_eq_false_iff] at this
        obtain ⟨_, q1, q2, _⟩ := this
        rw [g3 t q2]
        unfold dstf
        cases hod : o'.dst with
        | none => rfl
        | some d => exact upd_ne fun e => by rw [hod, e] at q1; simp at q1
      have hGo : ∀ d, o'.dst = some d → G' d = sv := fun d hd => by
        have := (hd1 dn (i', o') r d hPIk hd).2
        rw [hpr, dsts_app, Bool.or_eq_false_iff] at this
        rw [g3 d this.1]
        unfold dstf
        rw [hd]
        exact upd_eq
      have hG0 : ∀ t, dsts dn t = false → o'.dst ≠ some t → dsts pre t = false → G' t = F0 t := fun t h1 h2 h3 => by
        rw [g3 t h3]
        unfold dstf
        cases hod : o'.dst with
        | none => exact hi.out t h1
        | some d =>
          simp only
          rw [upd_ne fun e => h2 (by rw [hod, e])]
          exact hi.out t h1
      refine ih (s + 1) _ _ _ (dn ++ (i', o') :: pre) rest' G' E' (by rw [hset]; omega) ⟨hPI2, fun l1' j oj l2' he hj => ?_, fun t ht => ?_, g4, fun x hx hxr => ?_, fun j hj => ?_, hls, hi.closed.step him, fun u' k hk' => ?_⟩ ?_
      · -- what is known of the free ones
        rcases List.append_eq_append_iff.1 he with ⟨c, hc1, hc2⟩ | ⟨c, hc1, hc2⟩
        · -- (i', o') :: pre = c ++ (j, oj) :: l2'
          cases c with
          | nil =>
            simp only [List.nil_append, List.cons.injEq, Prod.mk.injEq] at hc2
            obtain ⟨⟨rfl, _⟩, _⟩ := hc2
            rw [hir] at hj; cases hj
          | cons x c =>
            simp only [List.cons_append, List.cons.injEq] at hc2
            obtain ⟨rfl, hc2⟩ := hc2
            obtain ⟨Hd, d', Fk, k0, k1, k2, k3, k4⟩ := g2 c j oj l2' hc2
            refine ⟨Hd, d', Fk, k0, k1, k2, fun t => ?_, k4⟩
            rw [k3 t, hc1, dsts_app, dsts_cons]
            by_cases ht1 : dsts c t = true
            · rw [ht1]; simp
            · rw [Bool.not_eq_true] at ht1
              rw [ht1]
              simp only [Bool.false_eq_true, if_false, Bool.or_false]
              unfold dstf
              cases hod : o'.dst with
              | none =>
                simp only [Bool.or_eq_true]
                by_cases hdt : dsts dn t = true
                · rw [if_pos (.inl hdt), hGd t hdt]
                · rw [if_neg (by rintro (h | h); exact hdt h; simp at h)]
                  exact hi.out t (by simpa using hdt)
              | some d =>
                simp only [Bool.or_eq_true, beq_iff_eq, Option.some.injEq]
                by_cases htd : t = d
                · subst htd
                  rw [if_pos (.inr rfl), upd_eq, hGo _ hod]
                · rw [upd_ne htd]
                  by_cases hdt : dsts dn t = true
                  · rw [if_pos (.inl hdt), hGd t hdt]
                  · rw [if_neg (by rintro (h | h); exact hdt h; exact htd h.symm)]
                    exact hi.out t (by simpa using hdt)
        · cases c with
          | nil =>
            simp only [List.nil_append, List.cons.injEq, Prod.mk.injEq] at hc2
            obtain ⟨⟨rfl, _⟩, _⟩ := hc2
            rw [hir] at hj; cases hj
          | cons x c =>
            simp only [List.cons_append, List.cons.injEq] at hc2
            obtain ⟨rfl, _⟩ := hc2
            obtain ⟨Hd, d', Fk, k0, k1, k2, k3, k4⟩ := hi.v l1' j oj c hc1 hj
            have k0' : Hd = Hc := k0.resolve_right fun h => by have := (List.getElem?_eq_some_iff.1 hrs).1; omega
            have hG'd : G' d' = G d' := hGd d' (dsts_mem.2 ⟨(j, oj), by rw [hc1]; simp, k1⟩)
            refine ⟨Hd, d', Fk, .inl k0', k1, k2, fun t => ?_, hG'd ▸ k4⟩
            rw [k3 t]
            by_cases ht : dsts l1' t = true
            · rw [if_pos ht, if_pos ht, hGd t (by rw [hc1, dsts_app, ht]; rfl)]
            · rw [if_neg ht, if_neg ht]
      · rw [dsts_app, dsts_cons, Bool.or_eq_false_iff, Bool.or_eq_false_iff] at ht
        exact hG0 t ht.1 (fun e => by rw [e] at ht; simp at ht) ht.2.2
      · rcases List.mem_append.1 hx with h | h
        · exact (set_getD hi.size hio).2 (.inl (hi.don x h hxr))
        · rcases List.mem_cons.1 h with rfl | h
          · exact (set_getD hi.size hio).2 (.inr rfl)
          · rw [g1 x h] at hxr; cases hxr
      · rcases (set_getD hi.size hio).1 hj with h | rfl
        · obtain ⟨oj, h⟩ := hi.lst j h
          exact ⟨oj, by simp [h]⟩
        · exact ⟨o', by simp⟩
      · rw [set_getD hi.size hio, hi.cnt u' k hk']
        constructor
        · rintro (h | rfl)
          · omega
          · rcases Nat.lt_trichotomy u' s with h | h | h
            · omega
            · omega
            · exact absurd rfl (((hc.row u' k hk').2 s k h hrs).2)
        · intro h
          rcases Nat.lt_or_ge u' s with h' | h'
          · exact .inl h'
          · have : u' = s := by omega
            subst this
            rw [hrs] at hk'
            exact .inr (Option.some.inj hk').symm
      · refine hst'.le fun t => Le.of_eq ?_
        unfold dstf zF
        rw [lisB_set hi.size ho]
        have hlG : lisB ops listed t = true → G' t = G t := fun h => by
          obtain ⟨j, oj, hj, hjl, hjt⟩ := lisB_mem.1 h
          obtain ⟨oj', hoj'⟩ := hi.lst j hjl
          have hg := hc.get (j, oj') (by rw [hi.pi]; simp [hoj'])
          simp only at hg
          rw [hj] at hg
          obtain rfl := Option.some.inj hg
          exact hGd t (dsts_mem.2 ⟨_, hoj', hjt⟩)
        cases hod : o'.dst with
        | none =>
          simp only [Bool.or_eq_true]
          by_cases h : lisB ops listed t = true
          · rw [if_pos h, if_pos (.inl h), hlG h]
          · rw [if_neg h, if_neg (by rintro (h' | h'); exact h h'; simp at h')]
        | some d =>
          simp only [Bool.or_eq_true, beq_iff_eq, Option.some.injEq]
          by_cases htd : t = d
          · subst htd
            rw [if_pos (.inr rfl), upd_eq, hGo _ hod]
          · rw [upd_ne htd]
            by_cases h : lisB ops listed t = true
            · rw [if_pos h, if_pos (.inl h), hlG h]
            · rw [if_neg h, if_neg (by rintro (h' | h'); exact h h'; exact htd h'.symm)]
attribute [local semireducible] WP WPL Dk PuH
theorem WdZ {id : Nat} {l : List Oper} (kk : Nat) (pi rs : List Nat) (E Hc : LH) (h : Mz P C n l.toArray rs Hc (fun F H => WPL P C n l.toArray (l.drop kk) (fun F H => Q .normal F H) F H) 0 (pk l pi) F E) (h0 : H = E ++ Hc := by exact rfl) (hm : P.follows .mixedOrders = true := by kernel_rfl) (hchk : zOk l.toArray kk rs pi = true := by decide +kernel) :
    WP P C n (.region id l.toArray true) Q F H := by
  intro a w hs
  subst h0
  have hc := zOk_spec hchk
  obtain ⟨pre, rest, G, hpr, g1, g2, g3, g4⟩ := h.walk hc.dst1
  have hrep : ∀ j, (Array.replicate l.toArray.size false).getD j false = false := fun j => by
    by_cases hj : j < l.length <;> simp [hj]
  refine wp_mono (Q := liftQ C n (fun e F H => e = .normal ∧ Q .normal F H)) (wp_region_any hm ?_) (fun e a w h => h.imp (fun ⟨F, H, hs, he, hq⟩ => ⟨F, H, hs, he ▸ hq⟩) fun h => h)
  refine zRun (K := fun F H => WPL P C n l.toArray (l.drop kk) (fun F H => Q .normal F H) F H) (Hc := Hc) (E := E) (F0 := F) (s := 0) hc (fun ch _ _ hp => .inr ⟨ch, rfl, hp⟩) (fun G E a w hK hst => ?_) l.toArray.size _ a _ pre rest G ?_ ⟨hpr, fun l1 i o l2 he _ => g2 l1 i o l2 he, g3, g4, fun x hx hxr => ?_, fun j hj => ?_, by simp, fun m j hm => ?_, fun u k _ => ?_⟩ ?_
  · exact hK a w hst _ ⟨fun a2 w2 F2 H2 hs2 hq => .mk hs2 ⟨rfl, hq⟩, fun ch _ _ hp => .inr ⟨ch, rfl, hp⟩⟩
  · have hk := hc.hk
    have : (left l.toArray kk (Array.replicate l.toArray.size false)).length ≤ kk := by
      unfold left
      refine Nat.le_trans (List.length_filter_le _ _) ?_
      simp; omega
    omega
  · rw [g1 x hx] at hxr; cases hxr
  · rw [hrep j] at hj; cases hj
  · rw [hrep m] at hm; cases hm
  · rw [hrep k]
    exact ⟨fun h => (by cases h), fun h => (by omega)⟩
  · obtain ⟨hdef, hn, m, h1, h2, h3, h4, h5⟩ := hs
    refine ⟨hdef, hn, m, ⟨h1.at', h1.base⟩, ⟨h2.1, h2.2⟩, ⟨h3.le, h3.old, h3.os, h3.tape, h3.output, h3.size, h3.block⟩, h4, fun t => ?_⟩
    have : lisB l.toArray (Array.replicate l.toArray.size false) t = false := by
      cases hb : lisB l.toArray (Array.replicate l.toArray.size false) t with
      | false => rfl
      | true =>
        obtain ⟨j, _, _, hj, _⟩ := lisB_mem.1 hb
        rw [hrep j] at hj; cases hj
    unfold zF
    rw [this]
    exact h5 t
section
variable {s i d : Nat} {r : List NO'} {E : LH} {ty : TypeId} {pos : String} {aft : Array Edge}
theorem ZkN (h : K F (E ++ Hc)) : Mz P C n ops rs Hc K s [] F E := .nil h
def frB (rs : List Nat) : List NO' → Bool
  | [] => true
  | x :: r => !rs.contains x.1 && frB rs r
def mkZ (P : Program) (C : Ctx) (n : Nat) (ops : Array Oper) (rs : List Nat) (Hc : LH) (K : Fr → LH → Prop) (s : Nat) (r : List NO') (E : LH) : List NW → Fr → Prop := fun N F => N = [] ∧ Mz P C n ops rs Hc K s r F E
theorem mkZ0 (h : Mz P C n ops rs Hc K s r F E) : mkZ P C n ops rs Hc K s r E [] F := ⟨rfl, h⟩
theorem Dr.mz {r : List NO'} : ∀ {L : List NO'} {F F' : Fr}, frB rs L = true → Dr P ops n Hc L [] F F' → Mz P C n ops rs Hc K s r F' E → Mz P C n ops rs Hc K s (L ++ r) F E
  | [], _, _, _, h, hx => by cases h; exact hx
  | (i, o) :: L, F, F', hf, h, hx => by
    simp only [frB, Bool.and_eq_true, Bool.not_eq_true'] at hf
    cases h with
    | val hd hds hdn h => exact .free hf.1 hd hdn hds (Dr.mz hf.2 h hx)
theorem ZkD {L : List NO'} (k : Nat) (h : Dk P ops n Hc (L.take k) (mkZ P C n ops rs Hc K s (L.drop k) E) F) (hf : frB rs (L.take k) = true := by exact rfl) : Mz P C n ops rs Hc K s L F E := by
  obtain ⟨N, F', h1, rfl, hx⟩ := h
  have := Dr.mz hf h1 hx
  rwa [List.take_append_drop] at this
theorem TZ.of {o : Oper} {Fe : Fr} {Post : SV → LH → Prop} (ho : ops[i]? = some o) (hg : o.guard = none) (h : ∀ F : Fr, (∀ t, t ∈ o.looksAt ops → Fe t = F t) → WPL P C n ops [o] (fun F' H' => ∃ sv, Post sv H' ∧ F' = dstf o F sv) F H) : TZ P C n ops i o Fe H Post := by
  obtain ⟨od, oop, oty, opos, oaft, og⟩ := o
  simp only at hg
  subst hg
  intro F hF a w hst Q' K' hpan hK
  have h' := h F hF a w hst (fun e a' w' => match e with | .normal => K' a' w' | .panic ch => Q' (.panic ch) a' w' | _ => False) ⟨fun a' w' F' H' hst' hKK => ?_, fun ch a' w' hp => hpan ch a' w' hp⟩
  · unfold wpOp
    rw [ho]
    unfold wpList at h'
    simp only [Region.wanted, if_true] at h' ⊢
    left
    rcases h' with h' | ⟨_, a0, w0, h0⟩
    · exact wp_agree h' (fun _ _ _ h => h) (fun _ _ h => h.elim)
    · exact h0.elim
  · obtain ⟨sv, hP, rfl⟩ := hKK
    exact hK sv H' hP a' w' hst'
theorem ev_looksL {o : Oper} {F1 : Fr} {la : List Operand} {svs : List SV} (ha : la.map (ev F) = svs) (hin : ∀ x ∈ la, x ∈ o.op.operands) (hF : ∀ t, t ∈ o.looksAt ops → F t = F1 t) : la.map (ev F1) = svs := by
  rw [← ha]
  exact List.map_congr_left fun x hx => ev_looks (o := o) (hin x hx) hF
theorem PuH.leA {f : FuncId} {svs svs' : List SV} {Hin : LH} {R X : SV → LH → Prop} (h : PuH P f svs Hin R X) (hle : LeL svs' svs) : PuH P f svs' Hin R X :=
  ⟨h.1, fun m w vs h1 h2 h3 => h.2 m w vs h1 h2 (h3.le hle)⟩
theorem ZkCL {f : FuncId} {la : List Operand} {tys : Array TypeId} {svs : List SV} {Hin Er : LH} {R X : SV → LH → Prop} (hc : PuH P f svs Hin R X) (hs : Tk E Hin Er) (k : ∀ res H', R res H' → Mz P C n ops rs Hc K (s + 1) r (upd F d res) (H' ++ Er)) (kx : ∀ pv H', X pv H' → C.pan pv (H' ++ (Er ++ Hc)))
    (hle : LeL (la.map (ev F)) svs) (ho : ops[i]? = some ⟨some d, .call ⟨.value (.func f), la.toArray, tys⟩, ty, pos, aft, none⟩ := by exact rfl) (hr : rs[s]? = some i := by exact rfl) (hd : Nat.blt d n = true := by exact rfl) :
    Mz P C n ops rs Hc K s ((i, ⟨some d, .call ⟨.value (.func f), la.toArray, tys⟩, ty, pos, aft, none⟩) :: r) F E := by
  have hc' := hc.leA hle
  refine .row (Post := fun sv E' => ∃ H', R sv H' ∧ E' = H' ++ Er) hr (TZ.of ho rfl fun F1 hF1 => ?_) fun sv E' hP => ?_
  · have ha1 := ev_looksL (o := ⟨some d, .call ⟨.value (.func f), la.toArray, tys⟩, ty, pos, aft, none⟩) (la := la) rfl (fun x hx => by simp [Op.operands, Call.operands, hx]) hF1
    refine WPL.perm ((hs.perm.append_right Hc).trans (List.Perm.of_eq (List.append_assoc _ _ _))) ?_
    refine .callH (s := lit (.func (.func f) #[] #[])) (first := []) (caps := []) rfl hc' (Spl.app _ _) (by rw [List.nil_append, List.append_nil]; exact ha1) hd (fun res H' hR => WPL.nil ⟨res, ⟨H' ++ Er, (List.append_assoc _ _ _).symm, H', hR, rfl⟩, rfl⟩) kx
  · obtain ⟨H', hR, rfl⟩ := hP
    exact k sv H' hR
theorem ZkC {f : FuncId} {la : List Operand} {tys : Array TypeId} {svs : List SV} {Hin Er : LH} {R X : SV → LH → Prop} (hc : PuH P f svs Hin R X) (hs : Tk E Hin Er) (k : ∀ res H', R res H' → Mz P C n ops rs Hc K (s + 1) r (upd F d res) (H' ++ Er)) (kx : ∀ pv H', X pv H' → C.pan pv (H' ++ (Er ++ Hc)))
    (ha : la.map (ev F) = svs := by exact rfl) (ho : ops[i]? = some ⟨some d, .call ⟨.value (.func f), la.toArray, tys⟩, ty, pos, aft, none⟩ := by exact rfl) (hr : rs[s]? = some i := by exact rfl) (hd : Nat.blt d n = true := by exact rfl) :
    Mz P C n ops rs Hc K s ((i, ⟨some d, .call ⟨.value (.func f), la.toArray, tys⟩, ty, pos, aft, none⟩) :: r) F E := ZkCL hc hs k kx (ha ▸ LeL.refl _) ho hr hd
theorem ZkA {T e : TypeId} {sz by_ : Nat} {z : List SV} {g : Bool} [hS : TSl P T e] [hT : TY P e sz by_ z g] {x y : Operand} {n0 : Nat} {cs ds : List SV} {so : SV} {Hs Er : LH}
    (hown : Own e sz n0 cs so Hs) (hs : Tk E Hs Er) (hl : n0 ≤ 1000000000) (k : ∀ s' H', Own e sz (n0 + 1) (cs ++ ds) s' H' → Mz P C n ops rs Hc K (s + 1) r (upd F d s') (H' ++ Er))
    (hx : ev F x = so := by exact rfl) (hy : ev F y = sl ds 1 := by exact rfl) (hds : ds.length = sz := by exact rfl) (hpos : 0 < sz := by decide) (hby : by_ ≤ 10000 := by decide)
    (ho : ops[i]? = some ⟨some d, .call ⟨.builtin .append, #[x, y], #[T, T]⟩, ty, pos, aft, none⟩ := by exact rfl) (hr : rs[s]? = some i := by exact rfl) (hd : Nat.blt d n = true := by exact rfl) :
    Mz P C n ops rs Hc K s ((i, ⟨some d, .call ⟨.builtin .append, #[x, y], #[T, T]⟩, ty, pos, aft, none⟩) :: r) F E := by
  refine .row (Post := fun sv E' => ∃ H', Own e sz (n0 + 1) (cs ++ ds) sv H' ∧ E' = H' ++ Er) hr (TZ.of ho rfl fun F1 hF1 => ?_) fun sv E' hP => ?_
  · have hx1 : ev F1 x = so := by rw [← hx]; exact (ev_looks (by simp [Op.operands, Call.operands]) hF1)
    have hy1 : ev F1 y = sl ds 1 := by rw [← hy]; exact (ev_looks (by simp [Op.operands, Call.operands]) hF1)
    refine WPL.perm ((hs.perm.append_right Hc).trans (List.Perm.of_eq (List.append_assoc _ _ _))) ?_
    exact .appOwnS hown hx1 hy1 (Spl.app _ _) hds hpos hl hby (fun s' H' hO => WPL.nil ⟨s', ⟨H' ++ Er, (List.append_assoc _ _ _).symm, H', hO, rfl⟩, rfl⟩) hd
  · obtain ⟨H', hR, rfl⟩ := hP
    exact k sv H' hR
end
end
section
variable {P : Program} {C : Ctx} {n : Nat} {F : Fr} {H : LH} {ops : Array Oper} {K : Fr → LH → Prop} {Q : Exit → Fr → LH → Prop}
theorem All2.replK {m : Mem} {v : Value} {s' : SV} {c2 : List SV} (h : ∀ u, (lit v).p m u → s'.p m u) : ∀ {c1 : List SV} {l : List Value}, All2 m (c1 ++ lit v :: c2) l → All2 m (c1 ++ s' :: c2) l
  | [], [], k => k.elim
  | [], _ :: _, k => ⟨⟨h _ k.1.1, k.1.2⟩, k.2⟩
  | _ :: _, [], k => k.elim
  | _ :: _, _ :: _, k => ⟨k.1, All2.replK h k.2⟩
theorem St.pubK {H1 H' : LH} {a : Act} {w : World} {b o : Nat} {T To : TypeId} {cs c1 c2 : List SV} {v : Value} {s' : SV} (hs : St C n F H a w) (hdel : HDel b T cs H H1)
    (hu : HUpd o To (c1 ++ lit v :: c2) (c1 ++ s' :: c2) H1 H') (hsv : ∀ (m : Mem) (arr : Array Value), m b = some (.cells arr T (0, 0)) → All2 m cs arr.toList → s'.p m v) : St C n F H' a w := by
  obtain ⟨hdef, hn, m, h1, h2, h3, h4, h5⟩ := hs
  obtain ⟨hmb, arr, hb, hall⟩ := h2.2 _ hdel.mem
  have hle : m.le (fun x => if x = b then w.heap[b]? else m x) := fun x o hx => by
    show (if x = b then w.heap[b]? else m x) = some o
    rw [if_neg (fun e => by rw [e] at hx; rw [hmb] at hx; cases hx)]; exact hx
  have hk := hdel.keys h2.1
  have hval : s'.p (fun x => if x = b then w.heap[b]? else m x) v := hsv _ arr (by show (if b = b then w.heap[b]? else m b) = _; rw [if_pos rfl]; exact hb) (hall.mono hle)
  refine ⟨hdef, hn, (fun x => if x = b then w.heap[b]? else m x), ⟨fun x o hx => ?_, Mem.le_trans h1.base hle⟩, ⟨hu.keys ▸ hk.1, fun e he => ?_⟩, ⟨Mem.le_trans h3.le hle, fun x hx hnx => ?_, h3.os, h3.tape, h3.output, h3.size, h3.block⟩,
    fun e he => ?_, fun t => (F t).mono hle (h5 t)⟩
  · by_cases hxb : x = b
    · subst hxb; simp only [if_true] at hx; exact hx
    · simp only [if_neg hxb] at hx; exact h1 x o hx
  · rcases hu.mem' hk.1 e he with rfl | ⟨he', hne⟩
    · obtain ⟨q1, arr', q2, q3⟩ := h2.2 _ (hdel.sub _ hu.mem)
      refine ⟨?_, arr', q2, (q3.mono hle).replK fun u hu' => ?_⟩
      · show (if o = b then w.heap[b]? else m o) = none
        rw [if_neg (hk.2 _ hu.mem)]; exact q1
      · rw [lit_p] at hu'; subst hu'; exact hval
    · obtain ⟨q1, arr', q2, q3⟩ := h2.2 e (hdel.sub e he')
      exact ⟨by show (if e.1 = b then w.heap[b]? else m e.1) = none; rw [if_neg (hk.2 e he')]; exact q1, arr', q2, q3.mono hle⟩
  · have hxb : x ≠ b := fun e => by
      subst e
      rcases h4 _ hdel.mem with h | h
      · exact hnx h
      · exact absurd hx (Nat.not_lt.2 h)
    show (if x = b then w.heap[b]? else m x) = _
    rw [if_neg hxb]; exact h3.old x hx hnx
  · have : e.1 ∈ H'.map (·.1) := List.mem_map.2 ⟨e, he, rfl⟩
    rw [hu.keys] at this
    obtain ⟨e', he', hk'⟩ := List.mem_map.1 this
    exact hk' ▸ h4 e' (hdel.sub e' he')
theorem le_nilK : Le (lit (.slice none 0 0)) (sl [] 0) := fun m v hv => by
  rw [lit_p] at hv; subst hv
  exact sl_mk (Nat.le_refl _) (by decide) (.inl rfl)
theorem Own.nilE {T : TypeId} {sz k : Nat} {cs : List SV} {s : SV} {Hs : LH} (h : Own T sz k cs s Hs) (hk : k = 0) : cs = [] := by
  have := h.1
  rw [hk, Nat.zero_mul] at this
  exact List.eq_nil_of_length_eq_zero this
theorem St.pubOwnC {a : Act} {w : World} {o : Nat} {T To : TypeId} {sz k : Nat} {cs c1 c2 : List SV} {s : SV} {Hs Rs : LH} (hown : Own T sz k cs s Hs) (hp : H.Perm ((o, To, c1 ++ s :: c2) :: (Hs ++ Rs))) (hs : St C n F H a w) :
    St C n F ((o, To, c1 ++ sl cs k :: c2) :: Rs) a w := by
  have hs1 := hs.perm hp
  have hown' := hown
  obtain ⟨_, ⟨h0, rfl, rfl⟩ | ⟨b, c, hnc, hcm, rfl, rfl⟩⟩ := hown
  · have hcs := hown'.nilE h0
    subst hcs
    subst h0
    rw [List.nil_append] at hs1
    exact hs1.lowB (.here _) (LeL.app (LeL.refl _) (show LeL (lit (.slice none 0 0) :: c2) (sl [] 0 :: c2) from ⟨le_nilK, LeL.refl _⟩))
  · exact St.pubK (hs1.perm (List.Perm.swap _ _ _)) (.here _) (.here _) fun m arr h1 h2 => pub_ownL h1 h2 hnc hcm
theorem WP.pubOwnC {c : Code} {o : Nat} {T To : TypeId} {sz k : Nat} {cs c1 c2 : List SV} {s : SV} {Hs Rs : LH} (hown : Own T sz k cs s Hs) (hp : H.Perm ((o, To, c1 ++ s :: c2) :: (Hs ++ Rs)))
    (h : WP P C n c Q F ((o, To, c1 ++ sl cs k :: c2) :: Rs)) : WP P C n c Q F H := by
  unfold WP at *
  exact fun a w hs => h a w (hs.pubOwnC hown hp)
theorem WPL.pubOwnC {l : List Oper} {o : Nat} {T To : TypeId} {sz k : Nat} {cs c1 c2 : List SV} {s : SV} {Hs Rs : LH} (hown : Own T sz k cs s Hs) (hp : H.Perm ((o, To, c1 ++ s :: c2) :: (Hs ++ Rs)))
    (h : WPL P C n ops l K F ((o, To, c1 ++ sl cs k :: c2) :: Rs)) : WPL P C n ops l K F H := by
  unfold WPL at *
  exact fun a w hs => h a w (hs.pubOwnC hown hp)
theorem WPL.pubOwn {l : List Oper} {T : TypeId} {sz k d : Nat} {cs : List SV} {s : SV} {Hs Rs : LH} (hown : Own T sz k cs s Hs) (hp : H.Perm (Hs ++ Rs)) (hd : F d = s) (h : WPL P C n ops l K (upd F d (sl cs k)) Rs) : WPL P C n ops l K F H := by
  have hown' := hown
  obtain ⟨_, ⟨h0, rfl, rfl⟩ | ⟨b, c, hnc, hcm, rfl, rfl⟩⟩ := hown
  · have hcs := hown'.nilE h0
    subst hcs
    subst h0
    unfold WPL at *
    exact fun a w hs => h a w ((hs.perm hp).le (LeF.upd (hd ▸ le_nilK) (LeF.refl _)))
  · have h2 : WPL P C n ops l K F ([(b, T, cs ++ List.replicate (c * sz - k * sz) top)] ++ Rs) := WPL.pub (d := d) (s' := sl cs k) (HDel.here _) hd (fun m arr h1 h2 => pub_ownL h1 h2 hnc hcm) h
    unfold WPL at *
    exact fun a w hs => h2 a w (hs.perm hp)
end
theorem permA {α : Type} {a p c : α} {l : List α} : (a :: p :: c :: l).Perm ((p :: l) ++ [a, c]) := by
  refine (List.Perm.swap p a (c :: l)).trans ((List.Perm.trans ?_ (List.perm_append_comm (l₁ := [a, c]) (l₂ := l))).cons p)
  exact List.Perm.refl _
def ndH0 (p q : Rat × Rat) : Nd := ⟨4, [], RQ.of p.1, RQ.of p.2, RQ.of q.1, RQ.of q.2, 0, 0, 0, 0, 0⟩
set_option maxHeartbeats 8000000 in
theorem ghalf_pu [Sent 4] [Sent 3] [Sent 5] (p f d : Nat) (a : Tok) (r : List Tok) (ns : List Nd) (s : SV) (Hs : LH) (hown : Own exPT 19 ns.length (ns.map ndx).flatten s Hs) (hT : GOk (a :: r)) (hn : ns.length + r.length ≤ 100000)
    (t1 : gis (a :: r) [126] = false) (t2 : gis (a :: r) [40] = false) (t3 : gis (a :: r) wAll = false) (t4 : gis (a :: r) wNone = false) (t5 : gis (a :: r) wHalf = true) :
    PuH Tryz.prog 253 [ptrP p] ((p, psT, psC (a :: r) d s) :: Hs) (GvR p (f + 1) 3 d (a :: r) ns) (GvX (f + 1) 3 d (a :: r) ns) := by
  have hco := hown.co
  have c0 := pnext_pu s hco a r d (by omega)
  have c1 := gis_pu s hco a r d (by omega) [126]
  have c2 := gis_pu s hco a r d (by omega) [40]
  have c3 := gaccept_pu s hco p a r d (by omega) wAll
  have c4 := gaccept_pu s hco p a r d (by omega) wNone
  have c5 := gaccept_pu s hco p a r d (by omega) wHalf
  have hprs := gx_3 f d ns.length (a :: r)
  simp only [List.tail_cons, Ab.hd, List.headD_cons] at hprs
  unfold GvR GvX
  rw [t1] at c1
  rw [t2] at c2
  rw [t3, if_neg (by decide)] at c3
  rw [t4, if_neg (by decide)] at c4
  rw [t5, if_pos rfl] at c5
  rw [t1, if_neg (by decide), t2, if_neg (by decide), t3, if_neg (by decide), t4, if_neg (by decide), t5, if_pos rfl] at hprs
  have c6 := gpoint_pu s hco p r (hT.next t5) d (by omega)
  refine PuH.intro Tryz.func253 rfl (by kernel_rfl) fun C hC => ?_
  repeat (refine A1 ⟨?_⟩; intros)
  refine Wo (ov_callT c0 rfl (by repeat (first | exact List.mem_cons_self | apply List.mem_cons_of_mem))) ?_
  repeat (refine A1 ⟨?_⟩; intros)
  refine Wo (ov_callT c1 rfl (by repeat (first | exact List.mem_cons_self | apply List.mem_cons_of_mem))) ?_
  repeat (refine A1 ⟨?_⟩; intros)
  refine Wo (ov_callT c2 rfl (by repeat (first | exact List.mem_cons_self | apply List.mem_cons_of_mem))) ?_
  repeat (refine A1 ⟨?_⟩; intros)
  refine WfT c3 ?_ (hs := Tk.skip _ (Tk.cons (HDel.here _) (Tk.nil _)))
  rintro _ _ ⟨rfl, rfl⟩
  refine WPL.perm List.perm_append_comm ?_
  refine WPL.perm (List.Perm.swap _ _ _) ?_
  repeat (refine A1 ⟨?_⟩; intros)
  refine WfT c4 ?_ (hs := Tk.skip _ (Tk.cons (HDel.here _) (Tk.nil _)))
  rintro _ _ ⟨rfl, rfl⟩
  refine WPL.perm List.perm_append_comm ?_
  refine WPL.perm (List.Perm.swap _ _ _) ?_
  repeat (refine A1 ⟨?_⟩; intros)
  refine WfT c5 ?_ (hs := Tk.skip _ (Tk.cons (HDel.here _) (Tk.nil _)))
  rintro _ _ ⟨rfl, rfl⟩
  refine WPL.perm List.perm_append_comm ?_
  refine WPL.perm (List.Perm.swap _ _ _) ?_
  repeat (refine A1 ⟨?_⟩; intros)
  refine WfX c6 ?_ ?_ (hs := Tk.skip _ (Tk.cons (HDel.here _) (Tk.nil _)))
  · rintro _ _ ⟨q1, tq, e1, rfl, rfl⟩
    rw [e1] at hprs
    simp only at hprs
    have g1 := gpt_ok (hT.next t5) e1
    have c7 := gpoint_pu s hco p tq g1.1 d (by omega)
    cases e2 : gpt tq with
    | error e =>
      rw [e2] at hprs
      replace c7 := c7.mono (R' := fun _ _ => False) (X' := fun pv _ => pv = erSV e) (fun _ _ h => by obtain ⟨x, t, h, _⟩ := h; rw [e2] at h; cases h) (fun _ _ h => by obtain ⟨x, h, hx⟩ := h; rw [e2] at h; cases h; exact hx)
      refine WPL.perm List.perm_append_comm ?_
      simp only [List.cons_append, List.nil_append]
      clear c1 c2 c3 c4 c5 c6
      repeat (first | (refine AS ⟨?_⟩; intros) | (refine O1 ⟨?_⟩; intros))
      refine WP.perm permA ?_
      refine WdZ 6 [0, 1, 2, 5, 3, 4] [3] ((p, psT, psC tq d s) :: Hs) _ ?_
      refine ZkD 4 ?_
      repeat (refine A1 ⟨?_⟩; intros)
      refine mkZ0 ?_
      exact ZkC c7 (Tk.cons (HDel.here _) (Tk.nil _)) (fun _ _ h => h.elim) (fun _ _ hx => by rw [hC]; exact ⟨_, hprs, hx⟩)
    | ok q2 =>
      obtain ⟨q2, tr⟩ := q2
      rw [e2] at hprs
      have g2 := gpt_ok g1.1 e2
      have c8 := padd_pu p tr d ns s Hs hown (by omega) (ndH0 q1 q2) a
      rw [show (ndH0 q1 q2).at a = ndH q1 q2 a from rfl] at c8
      replace c7 := c7.mono (R' := fun v H => v = pq q2.1 q2.2 ∧ H = [(p, psT, psC tr d s)]) (X' := noX) (fun _ _ h => by obtain ⟨x, t, h, h2⟩ := h; rw [e2] at h; cases h; exact h2) (fun _ _ h => by obtain ⟨x, h, _⟩ := h; rw [e2] at h; cases h)
      refine WPL.perm List.perm_append_comm ?_
      simp only [List.cons_append, List.nil_append]
      clear c1 c2 c3 c4 c5 c6
      repeat (first | (refine AS ⟨?_⟩; intros) | (refine O1 ⟨?_⟩; intros))
      refine WP.perm permA ?_
      refine WdZ 6 [0, 1, 2, 5, 3, 4] [3] ((p, psT, psC tq d s) :: Hs) _ ?_
      refine ZkD 4 ?_
      repeat (refine A1 ⟨?_⟩; intros)
      refine mkZ0 ?_
      refine ZkC c7 (Tk.cons (HDel.here _) (Tk.nil _)) ?_ (fun _ _ h => h.elim)
      rintro _ _ ⟨rfl, rfl⟩
      refine ZkD 1 ?_
      repeat (refine A1 ⟨?_⟩; intros)
      refine mkZ0 ?_
      refine ZkN ?_
      simp only [List.cons_append, List.nil_append]
      refine WPL.low 54 rfl (Le.ag (b := ndx (ndH0 q1 q2)) (by repeat (first | exact trivial | refine ⟨?_, ?_⟩ | exact Le.refl _ | exact le_nil | exact Le.int (by omega)))) ?_
      refine WPL.perm (List.perm_append_comm (l₁ := (p, psT, psC tr d s) :: Hs)) ?_
      refine WfT c8 ?_ (hs := Tk.skip _ (Tk.skip _ (Tk.same _)))
      rintro _ _ ⟨rfl, s4, H4, hown4, rfl⟩
      simp only [List.cons_append, List.nil_append]
      repeat (refine A1 ⟨?_⟩; intros)
      exact endHR _ _ (end1 (RV.tmp (s := lit (.int .i64 ns.length)) rfl) (Le.refl _)) (List.Sublist.cons _ (List.sublist_cons_self _ _)) ⟨_, _, _, hprs, by rw [List.length_singleton]; exact congrArg (fun z => lit (.int .i64 z)) (by omega), s4, H4, hown4, rfl⟩
  · rintro _ _ ⟨e, e1, hx⟩
    rw [hC]
    exact ⟨e, by rw [hprs, e1], hx⟩
set_option maxHeartbeats 8000000 in
theorem gfactor_of [Sent 4] [Sent 3] [Sent 5] {p f : Nat} (hF : GLv 253 p f 3) (hS : GLv 144 p f 1) : GLv 253 p (f + 1) 3 := by
  intro ts d ns H hT hd hn hf hps
  obtain ⟨a, r, rfl, -⟩ := hT.cons
  have hlr : (a :: r).length = r.length + 1 := rfl
  obtain ⟨s, Hs, hown, rfl⟩ := hps
  have hco := hown.co
  have c0 := pnext_pu s hco a r d (by omega)
  have c1 := gis_pu s hco a r d (by omega) [126]
  have c2 := gis_pu s hco a r d (by omega) [40]
  have hprs := gx_3 f d ns.length (a :: r)
  simp only [List.tail_cons, Ab.hd, List.headD_cons] at hprs
  unfold GvR GvX
  cases t1 : gis (a :: r) [126] with
  | true =>
    rw [t1] at c1
    rw [t1, if_pos rfl] at hprs
    have c3 := gnested_pu 253 p f 3 a r d ns _ hd (by omega) ⟨s, Hs, hown, rfl⟩ (fun hd' H1 h1 => hF r (d + 1) ns H1 (hT.next t1) (by omega) (by omega) (by omega) h1)
    have hlen := fun A x ts' h => gx_len f 3 (d + 1) ns.length r none A x ts' (hT.next t1) h
    clear hF hS c2
    refine PuH.intro Tryz.func253 rfl (by kernel_rfl) fun C hC => ?_
    repeat (refine A1 ⟨?_⟩; intros)
    refine Wo (ov_callT c0 rfl (by repeat (first | exact List.mem_cons_self | apply List.mem_cons_of_mem))) ?_
    repeat (refine A1 ⟨?_⟩; intros)
    refine Wo (ov_callT c1 rfl (by repeat (first | exact List.mem_cons_self | apply List.mem_cons_of_mem))) ?_
    repeat (refine A1 ⟨?_⟩; intros)
    refine WfX c3 ?_ ?_ (hs := Tk.skip _ (Tk.same _))
    · rintro _ _ ⟨hd2, A, x, ts', hp, rfl, s1, H1, hown1, rfl⟩
      have hlA := hlen _ _ _ hp
      simp only [Nat.add_zero, Option.isNone_none, if_true] at hlA
      rw [if_neg (by omega), hp] at hprs
      simp only at hprs
      have e1 : (ns ++ A).length = ns.length + A.length := List.length_append
      have hco1 := hown1.co
      have c4 := padd_pu p ts' d (ns ++ A) s1 H1 hown1 (by omega) (ndU0 ((ns.length + A.length : Nat) - 1)) a
      rw [show (ndU0 ((ns.length + A.length : Nat) - 1)).at a = ndU ((ns.length + A.length : Nat) - 1) a from rfl] at c4
      simp only [List.cons_append, List.nil_append]
      clear hlen c3 hp
      repeat (refine A1 ⟨?_⟩; intros)
      refine WPL.low 18 rfl (Le.ag (b := ndx (ndU0 ((ns.length + A.length : Nat) - 1))) (by repeat (first | exact trivial | refine ⟨?_, ?_⟩ | exact Le.refl _ | exact le_nil | exact Le.int (by omega)))) ?_
      refine WfT c4 ?_ (hs := Tk.skip _ (Tk.same _))
      rintro _ _ ⟨rfl, s4, H4, hown4, rfl⟩
      simp only [List.cons_append, List.nil_append]
      repeat (refine A1 ⟨?_⟩; intros)
      exact endHR _ _ (end1 (RV.tmp (s := lit (.int .i64 (ns ++ A).length)) rfl) (Le.refl _)) (List.sublist_cons_self _ _) ⟨_, _, _, hprs, by rw [List.length_append, List.length_append, List.length_singleton]; exact congrArg (fun z => lit (.int .i64 z)) (by omega), s4, H4, by rw [← List.append_assoc]; exact hown4, rfl⟩
    · rintro _ _ (⟨hp, hx⟩ | ⟨hp, e, he, hx⟩)
      · rw [hC]
        exact ⟨_, by rw [hprs, if_pos hp], hx⟩
      · rw [hC]
        exact ⟨e, by rw [hprs, if_neg (by omega), he], hx⟩
  | false =>
    rw [t1] at c1
    rw [t1, if_neg (by decide)] at hprs
    cases t2 : gis (a :: r) [40] with
    | true =>
      rw [t2] at c2
      rw [t2, if_pos rfl] at hprs
      have c3 := gnested_pu 144 p f 1 a r d ns _ hd (by omega) ⟨s, Hs, hown, rfl⟩ (fun hd' H1 h1 => hS r (d + 1) ns H1 (hT.next t2) (by omega) (by omega) (by omega) h1)
      have hok := fun A x ts' h => gx_len f 1 (d + 1) ns.length r none A x ts' (hT.next t2) h
      clear hF hS
      refine PuH.intro Tryz.func253 rfl (by kernel_rfl) fun C hC => ?_
      repeat (refine A1 ⟨?_⟩; intros)
      refine Wo (ov_callT c0 rfl (by repeat (first | exact List.mem_cons_self | apply List.mem_cons_of_mem))) ?_
      repeat (refine A1 ⟨?_⟩; intros)
      refine Wo (ov_callT c1 rfl (by repeat (first | exact List.mem_cons_self | apply List.mem_cons_of_mem))) ?_
      repeat (refine A1 ⟨?_⟩; intros)
      refine Wo (ov_callT c2 rfl (by repeat (first | exact List.mem_cons_self | apply List.mem_cons_of_mem))) ?_
      repeat (refine A1 ⟨?_⟩; intros)
      refine WfX c3 ?_ ?_ (hs := Tk.skip _ (Tk.same _))
      · rintro _ _ ⟨hd2, A, x, ts', hp, rfl, s1, H1, hown1, rfl⟩
        obtain ⟨hT', hlA, hl'⟩ := hok _ _ _ hp
        simp only [Option.isNone_none, if_true, Nat.add_zero] at hl' hlA
        rw [if_neg (by omega), hp] at hprs
        simp only at hprs
        obtain ⟨a1, r1, rfl, -⟩ := hT'.cons
        have hlr1 : (a1 :: r1).length = r1.length + 1 := rfl
        have hco1 := hown1.co
        have c4 := gexpect_pu s1 hco1 p a1 r1 d (by omega) [41]
        clear hok c3 hp hT'
        simp only [List.cons_append, List.nil_append]
        repeat (refine A1 ⟨?_⟩; intros)
        refine WfX c4 ?_ ?_ (hs := Tk.skip _ (Tk.cons (HDel.here _) (Tk.nil _)))
        · rintro _ _ ⟨-, t3, rfl, rfl⟩
          rw [t3, if_pos rfl, List.tail_cons] at hprs
          refine WPL.perm List.perm_append_comm ?_
          simp only [List.cons_append, List.nil_append]
          repeat (refine A1 ⟨?_⟩; intros)
          exact endHR _ _ (end1 (RV.tmp rfl) (Le.refl _)) (List.Sublist.cons_cons _ (List.sublist_cons_self _ _)) ⟨_, _, _, hprs, rfl, s1, H1, hown1, rfl⟩
        · rintro _ _ ⟨t3, hx⟩
          rw [if_neg (fun h => by rw [gexpect, if_pos h] at t3; cases t3)] at hprs
          rw [hC]
          exact ⟨_, hprs, hx⟩
      · rintro _ _ (⟨hp, hx⟩ | ⟨hp, e, he, hx⟩)
        · rw [hC]
          exact ⟨_, by rw [hprs, if_pos hp], hx⟩
        · rw [hC]
          exact ⟨e, by rw [hprs, if_neg (by omega), he], hx⟩
    | false =>
      rw [t2] at c2
      rw [t2, if_neg (by decide)] at hprs
      clear hF hS
      have c3 := gaccept_pu s hco p a r d (by omega) wAll
      have c4 := gaccept_pu s hco p a r d (by omega) wNone
      have c5 := gaccept_pu s hco p a r d (by omega) wHalf
      cases t3 : gis (a :: r) wAll with
      | true =>
        rw [t3, if_pos rfl] at c3
        rw [t3, if_pos rfl] at hprs
        have c6 := padd_pu p r d ns s Hs hown (by omega) (ndA0 2) a
        rw [show (ndA0 2).at a = ndA 2 a from rfl] at c6
        clear c4 c5
        refine PuH.intro Tryz.func253 rfl (by kernel_rfl) fun C hC => ?_
        repeat (refine A1 ⟨?_⟩; intros)
        refine Wo (ov_callT c0 rfl (by repeat (first | exact List.mem_cons_self | apply List.mem_cons_of_mem))) ?_
        repeat (refine A1 ⟨?_⟩; intros)
        refine Wo (ov_callT c1 rfl (by repeat (first | exact List.mem_cons_self | apply List.mem_cons_of_mem))) ?_
        repeat (refine A1 ⟨?_⟩; intros)
        refine Wo (ov_callT c2 rfl (by repeat (first | exact List.mem_cons_self | apply List.mem_cons_of_mem))) ?_
        repeat (refine A1 ⟨?_⟩; intros)
        refine WfT c3 ?_ (hs := Tk.skip _ (Tk.cons (HDel.here _) (Tk.nil _)))
        rintro _ _ ⟨rfl, rfl⟩
        refine WPL.perm List.perm_append_comm ?_
        refine WPL.perm (List.Perm.swap _ _ _) ?_
        repeat (refine A1 ⟨?_⟩; intros)
        refine WPL.low 35 rfl (Le.ag (b := ndx (ndA0 2)) (by repeat (first | exact trivial | refine ⟨?_, ?_⟩ | exact Le.refl _ | exact le_nil | exact Le.int (by omega)))) ?_
        refine WfT c6 ?_ (hs := Tk.skip _ (Tk.same _))
        rintro _ _ ⟨rfl, s4, H4, hown4, rfl⟩
        simp only [List.cons_append, List.nil_append]
        repeat (refine A1 ⟨?_⟩; intros)
        exact endHR _ _ (end1 (RV.tmp (s := lit (.int .i64 ns.length)) rfl) (Le.refl _)) (List.sublist_cons_self _ _) ⟨_, _, _, hprs, by rw [List.length_singleton]; exact congrArg (fun z => lit (.int .i64 z)) (by omega), s4, H4, hown4, rfl⟩
      | false =>
        rw [t3, if_neg (by decide)] at c3
        rw [t3, if_neg (by decide)] at hprs
        cases t4 : gis (a :: r) wNone with
        | true =>
          rw [t4, if_pos rfl] at c4
          rw [t4, if_pos rfl] at hprs
          have c6 := padd_pu p r d ns s Hs hown (by omega) (ndA0 3) a
          rw [show (ndA0 3).at a = ndA 3 a from rfl] at c6
          clear c5
          refine PuH.intro Tryz.func253 rfl (by kernel_rfl) fun C hC => ?_
          repeat (refine A1 ⟨?_⟩; intros)
          refine Wo (ov_callT c0 rfl (by repeat (first | exact List.mem_cons_self | apply List.mem_cons_of_mem))) ?_
          repeat (refine A1 ⟨?_⟩; intros)
          refine Wo (ov_callT c1 rfl (by repeat (first | exact List.mem_cons_self | apply List.mem_cons_of_mem))) ?_
          repeat (refine A1 ⟨?_⟩; intros)
          refine Wo (ov_callT c2 rfl (by repeat (first | exact List.mem_cons_self | apply List.mem_cons_of_mem))) ?_
          repeat (refine A1 ⟨?_⟩; intros)
          refine WfT c3 ?_ (hs := Tk.skip _ (Tk.cons (HDel.here _) (Tk.nil _)))
          rintro _ _ ⟨rfl, rfl⟩
          refine WPL.perm List.perm_append_comm ?_
          refine WPL.perm (List.Perm.swap _ _ _) ?_
          repeat (refine A1 ⟨?_⟩; intros)
          refine WfT c4 ?_ (hs := Tk.skip _ (Tk.cons (HDel.here _) (Tk.nil _)))
          rintro _ _ ⟨rfl, rfl⟩
          refine WPL.perm List.perm_append_comm ?_
          refine WPL.perm (List.Perm.swap _ _ _) ?_
          repeat (refine A1 ⟨?_⟩; intros)
          refine WPL.low 42 rfl (Le.ag (b := ndx (ndA0 3)) (by repeat (first | exact trivial | refine ⟨?_, ?_⟩ | exact Le.refl _ | exact le_nil | exact Le.int (by omega)))) ?_
          refine WfT c6 ?_ (hs := Tk.skip _ (Tk.same _))
          rintro _ _ ⟨rfl, s4, H4, hown4, rfl⟩
          simp only [List.cons_append, List.nil_append]
          repeat (refine A1 ⟨?_⟩; intros)
          exact endHR _ _ (end1 (RV.tmp (s := lit (.int .i64 ns.length)) rfl) (Le.refl _)) (List.sublist_cons_self _ _) ⟨_, _, _, hprs, by rw [List.length_singleton]; exact congrArg (fun z => lit (.int .i64 z)) (by omega), s4, H4, hown4, rfl⟩
        | false =>
          rw [t4, if_neg (by decide)] at c4
          rw [t4, if_neg (by decide)] at hprs
          cases t5 : gis (a :: r) wHalf with
          | true =>
            exact ghalf_pu p f d a r ns s Hs hown hT (by omega) t1 t2 t3 t4 t5
          | false =>
            rw [t5, if_neg (by decide)] at c5
            rw [t5, if_neg (by decide)] at hprs
            have c6 := gname_pu s hco p a r d (by omega)
            by_cases hnm : a.k = 1 ∧ resv a.t = false
            case neg =>
              replace hprs : gx (f + 1) 3 d ns.length (a :: r) none = .error (ger 1 (a :: r)) := by rw [hprs]; exact if_neg hnm
              replace c6 := c6.mono (R' := fun _ _ => False) (X' := fun pv _ => pv = erSV (ger 1 (a :: r))) (fun _ _ h => hnm h.1) (fun _ _ h => h.2)
              clear hnm
              refine PuH.intro Tryz.func253 rfl (by kernel_rfl) fun C hC => ?_
              repeat (refine A1 ⟨?_⟩; intros)
              refine Wo (ov_callT c0 rfl (by repeat (first | exact List.mem_cons_self | apply List.mem_cons_of_mem))) ?_
              repeat (refine A1 ⟨?_⟩; intros)
              refine Wo (ov_callT c1 rfl (by repeat (first | exact List.mem_cons_self | apply List.mem_cons_of_mem))) ?_
              repeat (refine A1 ⟨?_⟩; intros)
              refine Wo (ov_callT c2 rfl (by repeat (first | exact List.mem_cons_self | apply List.mem_cons_of_mem))) ?_
              repeat (refine A1 ⟨?_⟩; intros)
              refine WfT c3 ?_ (hs := Tk.skip _ (Tk.cons (HDel.here _) (Tk.nil _)))
              rintro _ _ ⟨rfl, rfl⟩
              refine WPL.perm List.perm_append_comm ?_
              refine WPL.perm (List.Perm.swap _ _ _) ?_
              repeat (refine A1 ⟨?_⟩; intros)
              refine WfT c4 ?_ (hs := Tk.skip _ (Tk.cons (HDel.here _) (Tk.nil _)))
              rintro _ _ ⟨rfl, rfl⟩
              refine WPL.perm List.perm_append_comm ?_
              refine WPL.perm (List.Perm.swap _ _ _) ?_
              repeat (refine A1 ⟨?_⟩; intros)
              refine WfT c5 ?_ (hs := Tk.skip _ (Tk.cons (HDel.here _) (Tk.nil _)))
              rintro _ _ ⟨rfl, rfl⟩
              refine WPL.perm List.perm_append_comm ?_
              refine WPL.perm (List.Perm.swap _ _ _) ?_
              repeat (first | (refine AS ⟨?_⟩; intros) | (refine O1 ⟨?_⟩; intros))
              refine WP.perm (List.perm_append_comm (l₁ := [_])) ?_
              refine WdZ 5 [0, 1, 4, 2, 3] [2] ((p, psT, psC (a :: r) d s) :: Hs) _ ?_
              refine ZkD 3 ?_
              repeat (refine A1 ⟨?_⟩; intros)
              refine mkZ0 ?_
              exact ZkC c6 (Tk.cons (HDel.here _) (Tk.nil _)) (fun _ _ h => h.elim) (fun _ _ hx => by rw [hC]; exact ⟨_, hprs, hx⟩)
            replace hprs : gx (f + 1) 3 d ns.length (a :: r) none = .ok ([ndN a], .leaf (ndN a), r) := by rw [hprs]; exact if_pos hnm
            replace c6 := c6.mono (R' := fun v H => v = str a.t ∧ H = [(p, psT, psC r d s)]) (X' := noX) (fun _ _ h => h.2) (fun _ _ h => h.1 hnm)
            have c7 := padd_pu p r d ns s Hs hown (by omega) (ndN0 a.t) a
            rw [show (ndN0 a.t).at a = ndN a from rfl] at c7
            clear hnm
            refine PuH.intro Tryz.func253 rfl (by kernel_rfl) fun C hC => ?_
            repeat (refine A1 ⟨?_⟩; intros)
            refine Wo (ov_callT c0 rfl (by repeat (first | exact List.mem_cons_self | apply List.mem_cons_of_mem))) ?_
            repeat (refine A1 ⟨?_⟩; intros)
            refine Wo (ov_callT c1 rfl (by repeat (first | exact List.mem_cons_self | apply List.mem_cons_of_mem))) ?_
            repeat (refine A1 ⟨?_⟩; intros)
            refine Wo (ov_callT c2 rfl (by repeat (first | exact List.mem_cons_self | apply List.mem_cons_of_mem))) ?_
            repeat (refine A1 ⟨?_⟩; intros)
            refine WfT c3 ?_ (hs := Tk.skip _ (Tk.cons (HDel.here _) (Tk.nil _)))
            rintro _ _ ⟨rfl, rfl⟩
            refine WPL.perm List.perm_append_comm ?_
            refine WPL.perm (List.Perm.swap _ _ _) ?_
            repeat (refine A1 ⟨?_⟩; intros)
            refine WfT c4 ?_ (hs := Tk.skip _ (Tk.cons (HDel.here _) (Tk.nil _)))
            rintro _ _ ⟨rfl, rfl⟩
            refine WPL.perm List.perm_append_comm ?_
            refine WPL.perm (List.Perm.swap _ _ _) ?_
            repeat (refine A1 ⟨?_⟩; intros)
            refine WfT c5 ?_ (hs := Tk.skip _ (Tk.cons (HDel.here _) (Tk.nil _)))
            rintro _ _ ⟨rfl, rfl⟩
            refine WPL.perm List.perm_append_comm ?_
            refine WPL.perm (List.Perm.swap _ _ _) ?_
            repeat (first | (refine AS ⟨?_⟩; intros) | (refine O1 ⟨?_⟩; intros))
            refine WP.perm (List.perm_append_comm (l₁ := [_])) ?_
            refine WdZ 5 [0, 1, 4, 2, 3] [2] ((p, psT, psC (a :: r) d s) :: Hs) _ ?_
            refine ZkD 3 ?_
            repeat (refine A1 ⟨?_⟩; intros)
            refine mkZ0 ?_
            refine ZkC c6 (Tk.cons (HDel.here _) (Tk.nil _)) ?_ (fun _ _ h => h.elim)
            rintro _ _ ⟨rfl, rfl⟩
            refine ZkD 1 ?_
            repeat (refine A1 ⟨?_⟩; intros)
            refine mkZ0 ?_
            refine ZkN ?_
            simp only [List.cons_append, List.nil_append]
            refine WPL.low 60 rfl (Le.ag (b := ndx (ndN0 a.t)) (by repeat (first | exact trivial | refine ⟨?_, ?_⟩ | exact Le.refl _ | exact le_nil | exact Le.int (by omega)))) ?_
            refine WPL.perm (List.perm_append_comm (l₁ := (p, psT, psC r d s) :: Hs)) ?_
            refine WfT c7 ?_ (hs := Tk.skip _ (Tk.same _))
            rintro _ _ ⟨rfl, s4, H4, hown4, rfl⟩
            simp only [List.cons_append, List.nil_append]
            repeat (refine A1 ⟨?_⟩; intros)
            exact endHR _ _ (end1 (RV.tmp (s := lit (.int .i64 ns.length)) rfl) (Le.refl _)) (List.sublist_cons_self _ _) ⟨_, _, _, hprs, by rw [List.length_singleton]; exact congrArg (fun z => lit (.int .i64 z)) (by omega), s4, H4, hown4, rfl⟩
theorem gx_pos : ∀ (f lv d i : Nat) (ts : List Tok) (acc : Option (List Nd × Ex)) (A : List Nd) (x : Ex) (ts' : List Tok), (match acc with
      | some (A0, _) => 1 ≤ A0.length
      | none => True) → gx f lv d i ts acc = .ok (A, x, ts') → 1 ≤ A.length := by
  intro f
  induction f with
  | zero => intro lv d i ts acc A x ts' _ h; unfold gx at h; cases h
  | succ f ih =>
    intro lv d i ts acc A x ts' hacc h
    cases acc with
    | none =>
      by_cases l3 : lv = 3
      · subst l3
        rw [gx_3] at h
        have leafc : ∀ (n : Nd) (y : Ex) (t : List Tok), (A, x, ts') = ([n], y, t) → 1 ≤ A.length := fun n y t e => by
          simp only [Prod.mk.injEq] at e
          obtain ⟨rfl, _, _⟩ := e
          exact Nat.le_refl _
        split at h
        · split at h
          · cases h
          · split at h
            · simp only [Except.ok.injEq, Prod.mk.injEq] at h
              obtain ⟨rfl, _, _⟩ := h
              simp
            · cases h
        · split at h
          · split at h
            · cases h
            · split at h
              · next hp =>
                split at h
                · simp only [Except.ok.injEq, Prod.mk.injEq] at h
                  obtain ⟨rfl, _, _⟩ := h
                  exact ih 1 _ _ _ _ _ _ _ trivial hp
                · cases h
              · cases h
          · split at h
            · exact leafc _ _ _ (Except.ok.inj h).symm
            · split at h
              · exact leafc _ _ _ (Except.ok.inj h).symm
              · split at h
                · split at h
                  · cases h
                  · split at h
                    · cases h
                    · exact leafc _ _ _ (Except.ok.inj h).symm
                · split at h
                  · exact leafc _ _ _ (Except.ok.inj h).symm
                  · cases h
      · rw [gx_lv l3] at h
        cases hp : gx f (lv + 1) d i ts none with
        | error e => rw [hp] at h; cases h
        | ok q =>
          obtain ⟨A1, x1, t1⟩ := q
          rw [hp] at h
          exact ih lv _ _ _ _ _ _ _ (show 1 ≤ A1.length from ih (lv + 1) _ _ _ _ _ _ _ trivial hp) h
    | some q =>
      obtain ⟨A0, x0⟩ := q
      rw [gx_some] at h
      by_cases ho : gop lv ts = 0
      · rw [if_pos ho] at h
        simp only [Except.ok.injEq, Prod.mk.injEq] at h
        obtain ⟨rfl, _, _⟩ := h
        exact hacc
      · rw [if_neg ho] at h
        cases hp : gx f (lv + 1) d (i + A0.length) ts.tail none with
        | error e => rw [hp] at h; cases h
        | ok q =>
          obtain ⟨B, y, t1⟩ := q
          rw [hp] at h
          exact ih lv _ _ _ _ _ _ _ (show 1 ≤ (A0 ++ B ++ [_]).length by simp only [List.length_append, List.length_singleton]; omega) h
theorem glevels [Sent 4] [Sent 3] [Sent 5] (p : Nat) : ∀ f, GLv 144 p f 1 ∧ GLv 199 p f 2 ∧ GLv 253 p f 3 := by
  intro f
  induction f using Nat.strongRecOn with
  | _ f ih =>
    cases f with
    | zero =>
      refine ⟨fun ts d ns H hT _ _ hf _ => ?_, fun ts d ns H hT _ _ hf _ => ?_, fun ts d ns H hT _ _ hf _ => ?_⟩ <;>
      · have := hT.pos
        omega
    | succ f => exact ⟨gsum_of fun f' h => (ih f' (by omega)).2.1, gprod_of fun f' h => (ih f' (by omega)).2.2, gfactor_of (ih f (by omega)).2.2 (ih f (by omega)).1⟩
theorem gexpression_pu [Sent 4] [Sent 3] [Sent 5] (p : Nat) (ts : List Tok) (hT : GOk ts) (hl : ts.length ≤ 100000) (s0 : SV) (hs : CO s0 [s0]) :
    PuH Tryz.prog 90 [ptrP p] [(p, psT, psC ts 0 s0)]
      (fun v H' => ∃ A x ts' Hs, (gexp ts = .ok (A, x, ts') ∧ 1 ≤ A.length ∧ GOk ts' ∧ A.length + ts'.length ≤ ts.length ∧ ts'.length + 1 ≤ ts.length) ∧ Own exPT 19 A.length (A.map ndx).flatten v Hs ∧ H' = (p, psT, psC ts' 0 v) :: Hs)
      (fun pv _ => ∃ e, gexp ts = .error e ∧ pv = erSV e) := by
  have c := (glevels p gF).1 ts 0 [] _ hT (by omega) (by simp; omega) (by have := gF_eq; omega) ⟨_, _, Own.nil exPT 19, rfl⟩
  unfold GvR GvX at c
  simp only [List.length_nil, List.nil_append] at c
  unfold gexp
  refine PuH.intro Tryz.func90 rfl (by kernel_rfl) fun C hC => ?_
  repeat (refine A1 ⟨?_⟩; intros)
  refine WfX c ?_ ?_
  · rintro _ _ ⟨A, x, ts', hp, rfl, s, Hs, hown, rfl⟩
    have hco := hown.co
    simp only [List.cons_append, List.nil_append, List.append_nil]
    repeat (refine A1 ⟨?_⟩; intros)
    exact endHR _ _ (end1 (RV.tmp rfl) (Le.refl _)) (List.Sublist.refl _) ⟨A, x, ts', Hs, ⟨hp, gx_pos _ _ _ _ _ _ _ _ _ trivial hp, by have := gx_len _ _ _ _ _ _ _ _ _ hT hp; simpa using this⟩, hown, rfl⟩
  · rintro _ _ hx
    rw [hC]
    exact hx
structure Chn where
  a : Rat × Rat
  b : Rat × Rat
  m : List (Rat × Rat)
structure Otl where
  far : Bool
  rs : List (List (Rat × Rat))
  cs : List Chn
structure Stm where
  k : Nat
  l : Nat
  c : Nat
  nm : List UInt8
  bd : Nat
  ps : List (Rat × Rat)
  fl : Nat
  nms : List (List UInt8)
  ol : Otl
  e1 : List Nd
  e2 : List Nd
  px : RQ
  py : RQ
def gkQ (t : List UInt8) : Nat :=
  if t = [97, 114, 101, 97] then 6 else if t = [99, 101, 110, 116, 114, 111, 105, 100] then 7 else if t = [101, 109, 112, 116, 121] then 9
  else if t = [99, 101, 108, 108, 115] then 12 else if t = [110, 111, 100, 101, 115] then 13 else if t = [112, 97, 114, 116, 115] then 14
  else if t = [101, 120, 112, 111, 114, 116] then 15 else if t = [99, 108, 97, 115, 115, 105, 102, 121] then 8 else if t = [101, 113, 117, 97, 108] then 10
  else if t = [115, 117, 98, 115, 101, 116] then 11 else 0
def gkD (t : List UInt8) : Nat :=
  if t = [98, 117, 100, 103, 101, 116] then 1 else if t = [114, 105, 110, 103] then 2 else if t = [114, 101, 103, 105, 111, 110] then 3
  else if t = [111, 117, 116, 108, 105, 110, 101] then 4 else if t = [108, 101, 116] then 5 else 0
def gfill (ts : List Tok) : Except Er (Nat × List Tok) :=
  if gis ts [101, 118, 101, 110, 111, 100, 100] = true then .ok (1, ts.tail) else match gexpect [110, 111, 110, 122, 101, 114, 111] ts with
    | .error e => .error e
    | .ok t1 => .ok (2, t1)
def gbudget (ts : List Tok) : Except Er (Nat × List Tok) := match gnum ts with
  | .error e => .error e
  | .ok (n, t1) => if 65536 < dcv n then .error (ger 2 ts) else .ok (dcv n, t1)
def gnamesF : Nat → List Tok → List (List UInt8) × List Tok
  | 0, ts => ([], ts)
  | f + 1, ts => if (hd ts).k = 1 ∧ resv (hd ts).t = false then ((hd ts).t :: (gnamesF f ts.tail).1, (gnamesF f ts.tail).2) else ([], ts)
def golF : Nat → List Tok → Otl → Except Er (Otl × List Tok)
  | 0, ts, _ => .error (ger 0 ts)
  | f + 1, ts, o =>
    if gis ts [125] = true then .ok (o, ts.tail)
    else if gis ts [114, 105, 110, 103] = true then (match gpts ts.tail with
      | .error e => .error e
      | .ok (ps, t1) => match gexpect [59] t1 with
        | .error e => .error e
        | .ok t2 => golF f t2 { o with rs := o.rs ++ [ps] })
    else if gis ts [99, 104, 97, 105, 110] = true then (match gpt ts.tail with
      | .error e => .error e
      | .ok (a, t1) => match gpts t1 with
        | .error e => .error e
        | .ok (ps, t2) => if ps.length < 2 then .error (ger 1 t2) else match gexpect [59] t2 with
          | .error e => .error e
          | .ok t3 => golF f t3 { o with cs := o.cs ++ [⟨a, ps.getLast?.getD (0, 0), ps.dropLast⟩] })
    else .error (ger 1 ts)
def goutl (ts : List Tok) : Except Er (Otl × List Tok) := match gexpect [123] ts with
  | .error e => .error e
  | .ok t1 => if gis t1 [102, 97, 114] = true then golF gF t1.tail ⟨true, [], []⟩ else golF gF t1 ⟨false, [], []⟩
def gquery (s : Stm) (ts : List Tok) : Except Er (Stm × List Tok) := match gexp ts with
  | .error e => .error e
  | .ok (A, _, t1) =>
    if s.k = 8 then (match gpt t1 with
      | .error e => .error e
      | .ok (p, t2) => .ok ({ s with e1 := A, px := RQ.of p.1, py := RQ.of p.2 }, t2))
    else if s.k = 10 ∨ s.k = 11 then (match gexpect [44] t1 with
      | .error e => .error e
      | .ok t2 => match gexp t2 with
        | .error e => .error e
        | .ok (B, _, t3) => .ok ({ s with e1 := A, e2 := B }, t3))
    else .ok ({ s with e1 := A }, t1)
def gdefn (s : Stm) (ts : List Tok) : Except Er (Stm × List Tok) := match gname ts with
  | .error e => .error e
  | .ok (nm, t1) => match gexpect [61] t1 with
    | .error e => .error e
    | .ok t2 =>
      if s.k = 2 then (match gpts t2 with
        | .error e => .error e
        | .ok (ps, t3) => .ok ({ s with nm := nm, ps := ps }, t3))
      else if s.k = 3 then (match gfill t2 with
        | .error e => .error e
        | .ok (fl, t3) => match gname t3 with
          | .error e => .error e
          | .ok (n1, t4) => .ok ({ s with nm := nm, fl := fl, nms := n1 :: (gnamesF gF t4).1 }, (gnamesF gF t4).2))
      else if s.k = 4 then (match goutl t2 with
        | .error e => .error e
        | .ok (o, t3) => .ok ({ s with nm := nm, ol := o }, t3))
      else (match gexp t2 with
        | .error e => .error e
        | .ok (A, _, t3) => .ok ({ s with nm := nm, e1 := A }, t3))
def stm0 (k : Nat) (a : Tok) : Stm := ⟨k, a.l, a.c, [], 0, [], 0, [], ⟨false, [], []⟩, [], [], zz, zz⟩
def gkind (t : List UInt8) : Nat := if gkQ t = 0 then gkD t else gkQ t
def gstm (n : Nat) (ts : List Tok) : Except Er (Stm × List Tok) :=
  if gkind (hd ts).t = 0 ∨ (hd ts).k ≠ 1 then .error (ger 1 ts)
  else if 1000 ≤ n then .error (ger 2 ts)
  else match (if gkQ (hd ts).t ≠ 0 then gquery (stm0 (gkind (hd ts).t) (hd ts)) ts.tail
      else if gkind (hd ts).t = 1 then (match gbudget ts.tail with
        | .error e => .error e
        | .ok (b, t1) => .ok ({ stm0 1 (hd ts) with bd := b }, t1))
      else gdefn (stm0 (gkind (hd ts).t) (hd ts)) ts.tail) with
    | .error e => .error e
    | .ok (s, t1) => match gexpect [59] t1 with
      | .error e => .error e
      | .ok t2 => .ok (s, t2)
def gstmsF : Nat → Nat → List Tok → Except Er (List Stm)
  | 0, _, ts => .error (ger 0 ts)
  | f + 1, n, ts => if (hd ts).k = 0 then .ok [] else match gstm n ts with
    | .error e => .error e
    | .ok (s, t1) => match gstmsF f (n + 1) t1 with
      | .error e => .error e
      | .ok ss => .ok (s :: ss)
def gscript (l : List UInt8) : Except Er (List Stm) := match glex l with
  | .error e => .error e
  | .ok ts => gstmsF gF 0 ts
abbrev ptx (x : Rat × Rat) : List SV := [lit (.bool (decide (x.1.num < 0))), nat x.1.num.natAbs, nat x.1.den, lit (.bool (decide (x.2.num < 0))), nat x.2.num.natAbs, nat x.2.den]
abbrev ptsS (ps : List (Rat × Rat)) : SV := sl (ps.map ptx).flatten ps.length
def gptsR (f : Nat) (ts : List Tok) : Except Er (List (Rat × Rat) × List Tok) := if gis ts [40] = true then gptsF f ts else .ok ([], ts)
theorem gptsF_R (f : Nat) (ts : List Tok) : gptsF (f + 1) ts = (match gpt ts with
    | .error e => .error e
    | .ok (p, t1) => match gptsR f t1 with
      | .error e => .error e
      | .ok (ps, t2) => .ok (p :: ps, t2)) := by
  rw [gptsF]
  cases gpt ts with
  | error e => rfl
  | ok q =>
    obtain ⟨p, t1⟩ := q
    simp only
    unfold gptsR
    split <;> rfl
theorem pts_snoc (l : List (Rat × Rat)) (x : Rat × Rat) : ((l ++ [x]).map ptx).flatten = (l.map ptx).flatten ++ ptx x := by
  rw [List.map_append, List.flatten_append]; simp only [List.map_cons, List.map_nil, List.flatten_cons, List.flatten_nil, List.append_nil]
structure PtSt where
  f : Nat
  ts : List Tok
  A : List (Rat × Rat)
  s : SV
  Hs : LH
set_option maxHeartbeats 4000000 in
theorem gpoints_pu [Sent 4] [Sent 5] (s : SV) (hco : CO s [s]) (p : Nat) (ts : List Tok) (hG : GOk ts) (d : Nat) (hr : ts.length ≤ 1000000) :
    PuH Tryz.prog 150 [lit (.pointer (some ⟨p, 0, none⟩))] [(p, psT, psC ts d s)] (fun v H => ∃ x ts', gpts ts = .ok (x, ts') ∧ v = ptsS x ∧ H = [(p, psT, psC ts' d s)]) (fun pv _ => ∃ e, gpts ts = .error e ∧ pv = erSV e) := by
  have c0 := gpoint_pu s hco p ts hG d hr
  obtain ⟨f, hf⟩ : ∃ f, gF = f + 1 := ⟨999999, gF_eq⟩
  have hf1 : f + 1 = 1000000 := hf.symm.trans gF_eq
  have hgp : gpts ts = gptsF (f + 1) ts := by rw [gpts, hf]
  rw [gptsF_R] at hgp
  refine PuH.intro Tryz.func150 rfl (by kernel_rfl) fun C hC => ?_
  repeat (refine A1 ⟨?_⟩; intros)
  refine WfX c0 ?_ ?_
  · rintro _ _ ⟨x, t1, e1, rfl, rfl⟩
    have g1 := gpt_ok hG e1
    clear c0 hG
    rw [e1] at hgp
    simp only [List.cons_append, List.nil_append]
    repeat (refine A1 ⟨?_⟩; intros)
    rename_i b6
    refine WP.perm (List.Perm.swap _ _ _) ?_
    refine WP.loopS (ι := PtSt) (fun y => GOk y.ts ∧ y.ts.length ≤ y.f ∧ 1 ≤ y.A.length ∧ y.A.length + y.ts.length ≤ 1000000 ∧ Own 60 6 y.A.length (y.A.map ptx).flatten y.s y.Hs ∧ gpts ts = (match gptsR y.f y.ts with
        | .error e => (.error e : Except Er (List (Rat × Rat) × List Tok))
        | .ok (ps, t2) => .ok (y.A ++ ps, t2))) (fun y => y.ts.length)
      (fun y => fm [(0, lit (.pointer (some ⟨p, 0, none⟩))), (3, y.s)]) (fun y => (p, psT, psC y.ts d s) :: y.Hs) ⟨f, t1, [x], lit (.slice (some ⟨b6, 0, none⟩) 1 1), [(b6, 60, ptx x)]⟩
      ⟨g1.1, by simp only; omega, Nat.le_refl _, by simp only [List.length_singleton]; omega, ⟨rfl, .inr ⟨b6, 1, Nat.le_refl _, by decide, rfl, rfl⟩⟩, hgp⟩ (by (repeat (first | exact LeF.nil _ | refine LeF.cons (Le.refl _) ?_ | refine LeF.cons (Le.int (by omega)) ?_))) (List.Sublist.refl _) ?_
    rintro ⟨f', ts', A, s', Hs⟩ ⟨hG', hf', hA, hl', hown, heq⟩ K hK
    simp only at hG' hf' hA hl' hown heq ⊢
    obtain ⟨a, r, rfl, -⟩ := hG'.cons
    simp only [List.length_cons] at hf' hl'
    have hco2 := hown.co
    have c1 := gis_pu s hco a r d (by omega) [40]
    obtain ⟨f', rfl⟩ : ∃ g, f' = g + 1 := ⟨f' - 1, by omega⟩
    cases h40 : gis (a :: r) [40] with
    | false =>
      rw [h40] at c1
      clear hK
      have hR : gptsR (f' + 1) (a :: r) = .ok ([], a :: r) := by unfold gptsR; rw [h40]; rfl
      rw [hR] at heq
      obtain ⟨hcl, ⟨h0', _⟩ | ⟨b2, c2, hnc, hcm, rfl, rfl⟩⟩ := hown
      · omega
      refine WP.pub (d := 3) (s' := ptsS A) (HDel.there _ (HDel.here _)) rfl (fun m arr h1 h2 => pub_ownL h1 h2 hnc hcm) ?_
      repeat (refine A1 ⟨?_⟩; intros)
      refine Wo (ov_callT c1 rfl (by repeat (first | exact List.mem_cons_self | apply List.mem_cons_of_mem))) ?_
      repeat (refine A1 ⟨?_⟩; intros)
      exact endHR _ _ (end1 (RV.tmp rfl) (Le.refl _)) (List.Sublist.refl _) ⟨A, a :: r, by rw [heq]; simp only [List.append_nil], rfl, rfl⟩
    | true =>
      rw [h40] at c1
      have hR : gptsR (f' + 1) (a :: r) = gptsF (f' + 1) (a :: r) := by unfold gptsR; rw [h40]; rfl
      rw [hR, gptsF_R] at heq
      have c2 := gpoint_pu s hco p (a :: r) hG' d (by simp only [List.length_cons]; omega)
      repeat (refine A1 ⟨?_⟩; intros)
      refine Wo (ov_callT c1 rfl (by repeat (first | exact List.mem_cons_self | apply List.mem_cons_of_mem))) ?_
      repeat (refine A1 ⟨?_⟩; intros)
      refine WfX c2 ?_ ?_
      · rintro _ _ ⟨y, t2, e2, rfl, rfl⟩
        have g2 := gpt_ok hG' e2
        clear c2 hG'
        rw [e2] at heq
        simp only at heq
        refine WPL.perm List.perm_append_comm ?_
        simp only [List.cons_append, List.nil_append]
        repeat (refine A1 ⟨?_⟩; intros)
        refine Wown hown (by omega) (fun s2 H2 hown' => ?_)
        have hown2 : Own 60 6 (A ++ [y]).length ((A ++ [y]).map ptx).flatten s2 H2 := by
          rw [pts_snoc, List.length_append, List.length_singleton]; exact hown'
        have hco3 := hown2.co
        have hgo := fun F' H'' => hK F' H'' ⟨f', t2, A ++ [y], s2, H2⟩ ⟨g2.1, by have := g2.2; simp only [List.length_cons] at this ⊢; omega, by simp only [List.length_append, List.length_singleton]; omega, by have := g2.2; simp only [List.length_append, List.length_nil, List.length_cons] at this ⊢; omega, hown2, by
          simp only
          rw [heq]
          cases gptsR f' t2 with
          | error e => rfl
          | ok q => simp⟩ (by have := g2.2; simp only [List.length_cons] at this ⊢; omega)
        clear hK heq hown hown'
        simp only [List.cons_append, List.nil_append]
        repeat (refine A1 ⟨?_⟩; intros)
        exact hgo _ _ (by (repeat (first | exact LeF.nil _ | refine LeF.cons (Le.refl _) ?_ | refine LeF.cons (Le.int (by omega)) ?_))) (by repeat (first | exact List.Sublist.refl _ | refine List.Sublist.cons _ ?_))
      · rintro _ _ ⟨e, e2, hx⟩
        rw [hC]
        exact ⟨_, by rw [heq, e2], hx⟩
  · rintro _ _ ⟨e, e1, hx⟩
    rw [hC]
    exact ⟨_, by rw [hgp, e1], hx⟩
end Go.Ab
