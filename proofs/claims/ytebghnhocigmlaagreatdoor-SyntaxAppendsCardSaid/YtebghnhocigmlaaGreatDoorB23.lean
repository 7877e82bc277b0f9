/- Texts laid one behind the other: Def, Read, GLexY, GLexG, ReadS, Same. -/
import Derived.Test.YtebghnhocigmlaaGreatDoorB22
import Derived.Test.YtebghnhocigmlaaGreatDoorB11
import Derived.Defers
import Derived.Recover
import Derived.Test.YtebghnhocigmlaaGreatDoorB16
import Derived.Test.YtebghnhocigmlaaGreatDoorB13
import Derived.Test.YtebghnhocigmlaaGreatDoorB15
import Derived.Test.YtebghnhocigmlaaGreatDoorB04
namespace Go.Ab
open Go.Proofs
set_option linter.unusedSectionVars false
set_option linter.unusedVariables false
set_option linter.unusedSimpArgs false
variable [Base]
section
variable {P : Program} {C : Ctx} {n : Nat} {F : Fr} {H : LH} {Post : Exit → Act → World → Prop} {ops : Array Oper} {rest : List Oper}
def WPT (P : Program) (C : Ctx) (n : Nat) (c : Code) (Post : Exit → Act → World → Prop) (F : Fr) (H : LH) : Prop := ∀ a w, St C n F H a w → c.wp P Post a w
def WTL (P : Program) (C : Ctx) (n : Nat) (ops : Array Oper) (l : List Oper) (Post : Exit → Act → World → Prop) (F : Fr) (H : LH) : Prop := ∀ a w, St C n F H a w → wpList P ops Post l a w
def onN (K : Fr → LH → Prop) : Exit → Fr → LH → Prop
  | .normal, F, H => K F H
  | _, _, _ => False
theorem onN.i {K : Fr → LH → Prop} (h : K F H) : onN K .normal F H := h
theorem WPT.seq {x y : Code} (hpan : ∀ pv H, ¬ C.pan pv H) (h : WP P C n x (onN fun F H => WPT P C n y Post F H) F H) : WPT P C n (.seq x y) Post F H := by
  intro a w hs
  unfold WP at h
  refine wp_seq (wp_mono (h a w hs) ?_)
  rintro e a' w' (⟨F', H', hs', hq⟩ | ⟨ch, rfl, _, m, v, pv, H', _, _, _, _, _, _, hx⟩)
  · cases e with
    | normal => exact hq a' w' hs'
    | _ => exact hq.elim
  · exact absurd hx (hpan _ _)
theorem WPT.fin {c : Code} {Q : Exit → Fr → LH → Prop} (h : WP P C n c Q F H) (k : ∀ e a w, liftQ C n Q e a w → Post e a w) : WPT P C n c Post F H := by
  unfold WP at h
  exact fun a w hs => wp_mono (h a w hs) k
theorem WPT.reg {id : Nat} {l : List Oper} {y : Code} (h : WTL P C n l.toArray l (Exit.then (y.wp P Post) Post) F H) : WPT P C n (.seq (.region id l.toArray false) y) Post F H :=
  fun a w hs => wp_seq (wp_region_lit (h a w hs))
theorem WTL.nil {y : Code} (h : WPT P C n y Post F H) : WTL P C n ops [] (Exit.then (y.wp P Post) Post) F H := fun a w hs => wpList_nil (h a w hs)
theorem WTL.val {d : Nat} {op : Op} {ty : TypeId} {pos : String} {aft : Array Edge} {sv : SV} (hop : OpV P op ty F H sv) (k : WTL P C n ops rest Post (upd F d sv) H) (hd : Nat.blt d n = true) : WTL P C n ops (⟨some d, op, ty, pos, aft, none⟩ :: rest) Post F H := by
  intro a w hs
  obtain ⟨hdef, hn, m, h1, h2, h3, h4, h5⟩ := hs
  refine wpList_plain rfl fun K' hK' => ?_
  unfold OpV at hop
  refine hop m w _ a rfl rfl h1 h2 (fun t _ => h5 t) K' Post fun v m' w' hv hm' hH' r => hK' _ _ ?_
  exact k _ _ (St.put (Nat.blt_eq.mp hd) hdef hn h2 h3 h4 h5 hv hm' hH' r)
theorem ArgsOk.lits {m : Mem} : ∀ {cv vs : List Value}, ArgsOk m (cv.map lit) vs → vs = cv
  | [], [], _ => rfl
  | _ :: _, _ :: _, h => by rw [lit_p.1 h.1, h.2.lits]
  | [], _ :: _, h => h.elim
  | _ :: _, [], h => h.elim
theorem WPT.defer {id d : Nat} {f : FuncId} {l2 : List Operand} {tys : Array TypeId} {ty ty2 : TypeId} {pos pos2 : String} {aft aft2 : Array Edge} {y : Code} {cv : List Value} {X1 : SV → LH → Prop} (hcap : l2.map (ev F) = cv.map lit) (hd : Nat.blt d n = true)
    (k : ∀ C1 : Ctx, C1 = { C with pan := X1, dfs := ⟨.fn (.func f) cv.toArray, #[]⟩ :: C.dfs } → WPT P C1 n y Post (upd F d (fnv f [] (cv.map lit))) H) :
    WPT P C n (.seq (.region id [⟨some d, .makeFunc (.func f) #[] l2.toArray, ty, pos, aft, none⟩, ⟨none, .defer ⟨.value (.tmp d), #[], tys⟩, ty2, pos2, aft2, none⟩].toArray false) y) Post F H := by
  intro a w hs
  refine wp_seq (wp_region_lit ?_)
  obtain ⟨hdef, hn, m, h1, h2, h3, h4, h5⟩ := hs
  refine wpList_plain rfl fun K1 hK1 => ?_
  have hop : OpV P (.makeFunc (.func f) ([] : List Operand).toArray l2.toArray) ty F H (fnv f [] (cv.map lit)) := ov_makeFunc rfl hcap
  unfold OpV at hop
  refine hop m w _ a rfl rfl h1 h2 (fun t _ => h5 t) K1 _ fun v m' w' hv hm' hH' r => hK1 _ _ ?_
  have hst := St.put (Nat.blt_eq.mp hd) hdef hn h2 h3 h4 h5 hv hm' hH' r
  unfold fnv at hv
  obtain ⟨x, yv, rfl, hx, hy⟩ := hv
  have hx' : x = #[] := by
    cases x with
    | mk l => cases l with
      | nil => rfl
      | cons _ _ => exact hx.elim
  have hy' := hy.lits
  have hyv : yv = cv.toArray := by rw [← hy']
  subst hx' hyv
  refine wpList_plain rfl fun K2 hK2 => ?_
  unfold Oper.wp
  have hev : (a.put (some d) (.func (.func f) #[] cv.toArray)).eval (.tmp d) = .func (.func f) #[] cv.toArray := by
    show (a.put (some d) _).tmps.getD d undef = _
    rw [getD_put (Nat.lt_of_lt_of_le (Nat.blt_eq.mp hd) hn), if_pos rfl]
  have hrun : (execOp (a.put (some d) (.func (.func f) #[] cv.toArray)).eval (⟨none, .defer ⟨.value (.tmp d), #[], tys⟩, ty2, pos2, aft2, none⟩ : Oper)).run P w' = .ok (.defer ⟨.fn (.func f) cv.toArray, #[]⟩) w' := by
    simp [execOp, resolve, hev, Deferred.ofValue]
  rw [hrun]
  refine hK2 _ _ (wpList_nil ?_)
  refine k _ rfl _ _ ?_
  obtain ⟨gdef, gn, gm, g1, g2, g3, g4, g5⟩ := hst
  exact ⟨by show _ :: _ = _ :: _; rw [gdef], gn, gm, g1, g2, g3, g4, g5⟩
theorem WTL.call {d : Nat} {x : Operand} {s : SV} {f : FuncId} {first caps : List SV} {l : List Operand} {tys : Array TypeId} {ty : TypeId} {pos : String} {aft : Array Edge} {svs : List SV} {Hin Rs : LH} {R X : SV → LH → Prop} (hx : ev F x = s) [hfv : FV s f first caps] (hc : PuH P f svs Hin R X)
    (hs : H.Perm (Hin ++ Rs)) (ha : first ++ l.map (ev F) ++ caps = svs) (hd : Nat.blt d n = true)
    (k : ∀ res H', R res H' → WTL P C n ops rest Post (upd F d res) (H' ++ Rs))
    (kx : ∀ v pv H' m' (a : Act) w', X pv H' → a.defers = C.dfs → MemIn m' w' → HOk m' w' (H' ++ Rs) → Rel C.ks C.m C.w m' w' → (∀ e ∈ H' ++ Rs, e.1 ∈ C.ks ∨ C.w.heap.size ≤ e.1) → pv.p m' v → (∀ t, (F t).p m' (a.tmps.getD t undef)) → Post (.panic [{ v := v, recovered := false }]) a w') :
    WTL P C n ops (⟨some d, .call ⟨.value x, l.toArray, tys⟩, ty, pos, aft, none⟩ :: rest) Post F H := by
  intro a w hst
  obtain ⟨hdef, hn, m, h1, h2, h3, h4, h5⟩ := hst
  have hp : ∀ x, (ev F x).p m (a.eval x) := fun x => by
    cases x with
    | tmp t => exact h5 t
    | const v => unfold ev lit; rfl
    | global g => unfold ev lit; rfl
    | func f => unfold ev lit; rfl
  have hargs := evs_ok (m := m) (a := a) l fun x _ => hp x
  have e0 := hp x; rw [hx] at e0
  obtain ⟨fa, ca, hv, hfa, hca⟩ := hfv.h _ _ e0
  have hall : ArgsOk m svs (fa.toList ++ l.map a.eval ++ ca.toList) := ha ▸ (hfa.append hargs).append hca
  have h2' := h2.perm hs
  have hHin : HOk m w Hin := ⟨by have := h2'.1; rw [List.map_append] at this; exact (List.nodup_append.1 this).1, fun e he => h2'.2 e (by simp [he])⟩
  unfold PuH at hc
  have hcall := hc.2 m w _ h1 hHin hall
  refine wpList_plain rfl fun K' hK' => ?_
  unfold Oper.wp
  rw [run_callV hc.1 hv]
  refine Calls.mono hcall ?_
  rintro _ w' ⟨m', H', hm', hH', hr, hnew, hres⟩
  have hnk : ∀ e ∈ Rs, e.1 ∉ keys Hin := fun e he hk => by
    obtain ⟨e', he', hke⟩ := List.mem_map.1 hk
    have := h2'.1
    rw [List.map_append] at this
    exact (List.nodup_append.1 this).2.2 _ (List.mem_map.2 ⟨e', he', rfl⟩) _ (List.mem_map.2 ⟨e, he, rfl⟩) hke
  have hRs : ∀ e ∈ Rs, m' e.1 = none ∧ CellsOk m' w' e.1 e.2.1 e.2.2 := fun e he => by
    obtain ⟨g1, g2⟩ := h2'.2 e (by simp [he])
    have hlt := g2.lt
    obtain ⟨arr, g3, g4⟩ := g2
    exact ⟨(hr.old _ hlt (hnk e he)).trans g1, arr, (hr.block _ hlt (hnk e he)).trans g3, g4.mono hr.le⟩
  have hHn : HOk m' w' (H' ++ Rs) := by
    refine ⟨?_, fun e he => ?_⟩
    · rw [List.map_append, List.nodup_append]
      refine ⟨hH'.1, by have := h2'.1; rw [List.map_append] at this; exact (List.nodup_append.1 this).2.1, fun x hx y hy hxy => ?_⟩
      obtain ⟨e1, he1, rfl⟩ := List.mem_map.1 hx
      obtain ⟨e2, he2, rfl⟩ := List.mem_map.1 hy
      rcases hnew e1 he1 with h | h
      · exact hnk e2 he2 (hxy ▸ h)
      · have := (h2'.2 e2 (by simp [he2])).2.lt
        omega
    · rcases List.mem_append.1 he with h | h
      · exact hH'.2 e h
      · exact hRs e h
  have hrel : Rel C.ks C.m C.w m' w' := h3.trans hr fun b hb hk => by
    obtain ⟨e', he', rfl⟩ := List.mem_map.1 hk
    rcases h4 e' (hs.mem_iff.2 (by simp [he'])) with h | h
    · exact h
    · exact absurd hb (Nat.not_lt.2 h)
  have hown : ∀ e ∈ H' ++ Rs, e.1 ∈ C.ks ∨ C.w.heap.size ≤ e.1 := fun e he => by
    rcases List.mem_append.1 he with h | h
    · rcases hnew e h with h | h
      · obtain ⟨e', he', hke⟩ := List.mem_map.1 h
        have := h4 e' (hs.mem_iff.2 (by simp [he']))
        rw [hke] at this; exact this
      · exact .inr (Nat.le_trans h3.size h)
    · exact h4 e (hs.mem_iff.2 (by simp [h]))
  rcases hres with ⟨v, res, rfl, hv', hR⟩ | ⟨v, pv, rfl, hv', hX⟩
  · refine hK' _ _ (k res H' hR _ _ ?_)
    refine ⟨hdef, by simpa [Act.put] using hn, m', hm', hHn, hrel, hown, fun t => ?_⟩
    rw [getD_put (Nat.lt_of_lt_of_le (Nat.blt_eq.mp hd) hn)]
    unfold Ab.upd
    by_cases ht : t = d
    · subst ht; rw [if_pos rfl, Nat.beq_refl]; exact hv'
    · rw [if_neg ht]
      have : Nat.beq t d = false := by
        cases hb : Nat.beq t d with
        | false => rfl
        | true => exact absurd (Nat.eq_of_beq_eq_true hb) ht
      rw [this]
      exact (F t).mono hr.le (h5 t)
  · exact kx v pv H' m' a w' hX hdef hm' hHn hrel hown hv' fun t => (F t).mono hr.le (h5 t)
def dRes (C : Ctx) (R : SV → LH → Prop) : Ending → World → Prop := fun e w' => ∃ m' H', MemIn m' w' ∧ HOk m' w' H' ∧ Rel C.ks C.m C.w m' w' ∧ (∀ e ∈ H', e.1 ∈ C.ks ∨ C.w.heap.size ≤ e.1) ∧ ∃ v res, e = .returned v ∧ res.p m' v ∧ R res H'
theorem PuH.introD {f : FuncId} {fn : Func} {c : Code} {args : List SV} {Hin : LH} {R : SV → LH → Prop} (hf : P.funcs[f]? = some fn) (hb : fn.body = some c) (hbod : bodied P f = true)
    (h : ∀ C : Ctx, (∀ pv H, ¬ C.pan pv H) → C.dfs = [] → WPT P C fn.ntmps c (bodyPostD P fn (dRes C R)) (ini args) Hin) : PuH P f args Hin R noX := by
  unfold PuH
  refine ⟨hbod, fun m w vs hm hH ha => ?_⟩
  refine Calls.mono (calls_of_wp_defers hf hb ?_) (R := dRes ⟨keys Hin, m, w, noX, []⟩ R) ?_
  · refine h ⟨keys Hin, m, w, noX, []⟩ (fun _ _ h => h) rfl _ w ?_
    refine ⟨rfl, by simp only [Array.size_append, Array.size_replicate]; omega, m, hm, hH, Rel.refl _ _ _, fun e he => .inl (mem_keys he), fun t => ?_⟩
    have := ini_ok (us := List.replicate (fn.ntmps - vs.toArray.size) undef) ha t
    rw [show vs.toArray ++ Array.replicate (fn.ntmps - vs.toArray.size) undef = (vs ++ List.replicate (fn.ntmps - vs.toArray.size) undef).toArray from by simp]
    exact this
  · rintro e w' ⟨m', H', a1, a2, a3, a4, v, res, a5, a6, a7⟩
    exact ⟨m', H', a1, a2, a3, a4, .inl ⟨v, res, a5, a6, a7⟩⟩
theorem dfin {fn : Func} {C1 C : Ctx} {g : FuncId} {cv : Array Value} {R : SV → LH → Prop} (hC : ∃ X, C1 = { C with pan := X, dfs := [⟨.fn (.func g) cv, #[]⟩] }) (hb : bodied P g = true) (hpan : ∀ pv H, ¬ C1.pan pv H)
    (hidle : ∀ w, CallsD P g cv .returning w fun e u' w' => (∃ v, e = .returned v) ∧ u' = .returning ∧ w' = w) : ∀ e a w, liftQ C1 n (endH P fn.results R) e a w → bodyPostD P fn (dRes C R) e a w := by
  obtain ⟨X, rfl⟩ := hC
  rintro e a w (⟨F', H', ⟨hdef, _, m', hm', hH', hr', h4', hp'⟩, hq⟩ | ⟨ch, rfl, _, m', v, pv, H', _, _, _, _, _, _, hx⟩)
  · have fin : (∃ res H2, Ends P fn.results.toList res F' H' ∧ H2.Sublist H' ∧ R res H2) → Leaves P fn a.tmps (dRes C R) a.defers .returning w := by
      rintro ⟨res, H2, he, hsub, hR⟩
      obtain ⟨v, hv, hpv⟩ := run_end rfl he hm' hH' hp'
      rw [hdef]
      refine leaves_cons (f := g) (args := cv) (by simp) (by simp only [invoke, run_callFunc hb, Array.empty_append]) ?_
      refine (hidle w).mono ?_
      rintro e u' w' ⟨⟨v0, rfl⟩, rfl, rfl⟩
      exact ⟨v, hv, m', H2, hm', hH'.sub' hsub, hr', fun e he => h4' e (hsub.subset he), v, res, rfl, hpv, hR⟩
    unfold endH at hq
    cases e with
    | normal => exact fin hq
    | ret => exact fin hq
    | exit id => exact hq.elim
    | goto l => exact hq.elim
    | panic ch => exact hq.elim
    | outgrown => exact hq.elim
  · exact absurd hx (hpan _ _)
theorem dpan {fn : Func} {C : Ctx} {g : FuncId} {cv : Array Value} {R : SV → LH → Prop} {a : Act} {w : World} {v : Value} (hb : bodied P g = true) (hdef : a.defers = [⟨.fn (.func g) cv, #[]⟩])
    (h : CallsD P g cv (.panicking [{ v := v, recovered := false }]) w fun e u' w' => (∃ v', e = .returned v') ∧ u' = .panicking [{ v := v, recovered := true }] ∧ ∃ v2, (results fn a.tmps).run P w' = .ok v2 w' ∧ dRes C R (.returned v2) w') :
    bodyPostD P fn (dRes C R) (.panic [{ v := v, recovered := false }]) a w := by
  show Leaves P fn a.tmps (dRes C R) a.defers _ w
  rw [hdef]
  refine leaves_cons (f := g) (args := cv) (by simp) (by simp only [invoke, run_callFunc hb, Array.empty_append]) ?_
  refine h.mono ?_
  rintro e u' w' ⟨⟨v0, rfl⟩, rfl, v2, h1, h2⟩
  exact ⟨v2, h1, h2⟩
theorem fm_ok {m : Mem} {tmps : Array Value} : ∀ (l : List (Nat × SV)), (∀ e ∈ l, e.2.p m (tmps.getD e.1 undef)) → ∀ t, (fm l t).p m (tmps.getD t undef)
  | [], _, t => by show (Ab.top).p m _; unfold Ab.top; trivial
  | (d, s) :: r, h, t => by
    show (upd (fm r) d s t).p m _
    by_cases ht : t = d
    · subst ht; rw [upd_eq]; exact h (t, s) (by simp)
    · rw [upd_ne ht]; exact fm_ok r (fun e he => h e (by simp [he])) t
theorem wpS_eng {c : Code} {Q : Exit → Fr → LH → Prop} {Q' : Exit → Act → List Frame → World → Prop} {a : Act} {w : World} {cs : List Frame} (h : WP P C n c Q F H) (hst : St C n F H a w) (k : ∀ e a' w', liftQ C n Q e a' w' → Q' e a' cs w') : c.wpS P Q' a cs w :=
  wpS_of_wp (wp_mono (by unfold WP at h; exact h a w hst) k)
end
section
variable {P : Program} {C : Ctx} {n : Nat} {F : Fr} {H : LH} {Post : Exit → Act → World → Prop}
def onR (C : Ctx) (n : Nat) (Post : Exit → Act → World → Prop) (K : Fr → LH → Prop) : Exit → Fr → LH → Prop
  | .normal, F, H => K F H
  | .ret, F, H => ∀ a w, St C n F H a w → Post .ret a w
  | _, _, _ => False
theorem onR.i {K : Fr → LH → Prop} (h : K F H) : onR C n Post K .normal F H := h
theorem onR.r {K : Fr → LH → Prop} (h : ∀ a w, St C n F H a w → Post .ret a w) : onR C n Post K .ret F H := h
theorem WPT.seqR {x y : Code} (hpan : ∀ pv H, ¬ C.pan pv H) (h : WP P C n x (onR C n Post fun F H => WPT P C n y Post F H) F H) : WPT P C n (.seq x y) Post F H := by
  intro a w hs
  unfold WP at h
  refine wp_seq (wp_mono (h a w hs) ?_)
  rintro e a' w' (⟨F', H', hs', hq⟩ | ⟨ch, rfl, _, m, v, pv, H', _, _, _, _, _, _, hx⟩)
  · cases e with
    | normal => exact hq a' w' hs'
    | ret => exact hq a' w' hs'
    | _ => exact hq.elim
  · exact absurd hx (hpan _ _)
theorem WPT.into {x z : Code} (h : WPT P C n x (Exit.then (z.wp P Post) Post) F H) : WPT P C n (.seq x z) Post F H := fun a w hs => wp_seq (h a w hs)
theorem WPT.region {id : Nat} {l : List Oper} (h : WTL P C n l.toArray l Post F H) : WPT P C n (.region id l.toArray false) Post F H := fun a w hs => wp_region_lit (h a w hs)
theorem WTL.wpl {ops : Array Oper} {l : List Oper} {y : Code} (hpan : ∀ pv H, ¬ C.pan pv H) (h : WPL P C n ops l (fun F H => WPT P C n y Post F H) F H) : WTL P C n ops l (Exit.then (y.wp P Post) Post) F H := by
  unfold WPL at h
  intro a w hs
  refine h a w hs _ ⟨fun a' w' F' H' hs' hk => hk a' w' hs', fun ch a' w' hp => ?_⟩
  obtain ⟨_, _, _, _, _, _, _, _, _, _, _, hx⟩ := hp
  exact absurd hx (hpan _ _)
theorem WPT.cond {c : Operand} {x y : Code} {t : Bool} (hc : ev F c = lit (.bool t)) (h : WPT P C n (if t then x else y) Post F H) : WPT P C n (.cond c x y) Post F H := by
  intro a w hs
  obtain ⟨m, _, hp⟩ := hs.evp
  have e := hp c
  rw [hc, lit_p] at e
  exact wp_cond e (h a w hs)
theorem dret {fn : Func} {R : SV → LH → Prop} (hC : C.dfs = []) {res : SV} {H2 : LH} (he : Ends P fn.results.toList res F H) (hsub : H2.Sublist H) (hR : R res H2) : ∀ a w, St C n F H a w → bodyPostD P fn (dRes C R) .ret a w := by
  rintro a w ⟨hdef, _, m', hm', hH', hr', h4', hp'⟩
  obtain ⟨v, hv, hpv⟩ := run_end rfl he hm' hH' hp'
  show Leaves P fn a.tmps (dRes C R) a.defers .returning w
  rw [hdef, hC]
  exact ⟨v, hv, m', H2, hm', hH'.sub' hsub, hr', fun e he => h4' e (hsub.subset he), v, res, rfl, hpv, hR⟩
end
abbrev readF : FuncId := 89
abbrev readC : FuncId := 143
theorem rcatch_idle (p q : Addr) (w : World) : CallsD Tryz.prog readC #[.pointer (some p), .pointer (some q)] .returning w fun e u' w' => (∃ v, e = .returned v) ∧ u' = .returning ∧ w' = w := by
  refine callsD_of_wpS Tryz.func143 rfl fun c₀ cs hu => ?_
  apply wpS_seq
  apply wpS_region
  simp [wpOpsS, go_sem, recoverD, hu, Exit.thenS]
  apply wpS_seq
  apply wpS_region
  simp [wpOpsS, go_sem, Exit.thenS]
  refine wpS_cond (t := false) (by simp [Act.eval, Array.replicate]) ?_
  simp only [Bool.false_eq_true, if_false]
  refine wpS_of_wp (wp_skip ?_)
  cases c₀
  simp_all [bodyPostS, results, Exit.thenS]
theorem ov_assertE {F : Fr} {H : LH} {ty : TypeId} {x : Operand} {b : Nat} (hx : ev F x = lit (.iface 32 (.pointer (some ⟨b, 0, none⟩)))) : OpV Tryz.prog (.typeAssert x 20 32 true) ty F H (Ab.tup [lit (.pointer (some ⟨b, 0, none⟩)), lit (.bool true)]) :=
  OpV.pure fun m w o a ho _ _ _ h => by
    have h0 := h x (by simp [Op.operands]); rw [hx, lit_p] at h0
    have hrun : (Instr.typeAssert (.iface 32 (.pointer (some ⟨b, 0, none⟩))) 20 32 true).run Tryz.prog w = .ok (.tuple #[.pointer (some ⟨b, 0, none⟩), .bool true]) w := by kernel_rfl
    refine ⟨.tuple #[.pointer (some ⟨b, 0, none⟩), .bool true], by simp [execOp, ho, h0, hrun], ?_⟩
    unfold Ab.tup
    exact ⟨_, rfl, lit_p.2 rfl, lit_p.2 rfl, trivial⟩
theorem rcatch_rec {b2 b3 be : Nat} {w : World} {m : Mem} {s0 e0 : SV} {v : Value} (hm : MemIn m w) (hv : (lit (.iface 32 (.pointer (some ⟨be, 0, none⟩)))).p m v) (hH : HOk m w [(b3, 25, [e0]), (b2, 52, [s0])]) :
    CallsD Tryz.prog readC #[.pointer (some ⟨b2, 0, none⟩), .pointer (some ⟨b3, 0, none⟩)] (.panicking [{ v := v, recovered := false }]) w fun e u' w' => (∃ v', e = .returned v') ∧ u' = .panicking [{ v := v, recovered := true }] ∧
      ∃ m', MemIn m' w' ∧ HOk m' w' [(b3, 25, [lit (.iface 32 (.pointer (some ⟨be, 0, none⟩)))]), (b2, 52, [lit (.slice none 0 0)])] ∧ Rel [b3, b2] m w m' w' := by
  have hv' := lit_p.1 hv
  subst hv'
  refine callsD_of_wpS Tryz.func143 rfl fun c₀ cs hu => ?_
  apply wpS_seq
  apply wpS_region
  simp [wpOpsS, go_sem, recoverD, hu, Exit.thenS]
  refine wpS_eng (C := ⟨[b3, b2], m, w, noX, []⟩) (n := 20) (F := fm [(0, lit (.pointer (some ⟨b2, 0, none⟩))), (1, lit (.pointer (some ⟨b3, 0, none⟩))), (2, lit (.iface 32 (.pointer (some ⟨be, 0, none⟩))))]) (H := [(b3, 25, [e0]), (b2, 52, [s0])])
    (Q := fun e _ H' => e = .normal ∧ [(b3, 25, [lit (.iface 32 (.pointer (some ⟨be, 0, none⟩)))]), (b2, 52, [lit (.slice none 0 0)])].Sublist H') ?_ ⟨rfl, by simp, m, hm, hH, Rel.refl _ _ _, fun e he => .inl (by simp at he ⊢; rcases he with rfl | rfl <;> simp), fm_ok _ ?_⟩ ?_
  · repeat (refine A1 ⟨?_⟩; intros)
    refine Wo (ov_assertE rfl) ?_
    repeat (refine A1 ⟨?_⟩; intros)
    exact ⟨rfl, by repeat (first | exact List.Sublist.refl _ | refine List.Sublist.cons _ ?_)⟩
  · intro e he
    simp only [List.mem_cons, List.not_mem_nil, or_false] at he
    rcases he with rfl | rfl | rfl
    · rw [lit_p]; simp
    · rw [lit_p]; simp
    · rw [lit_p]; simp
  · rintro e a' w' (⟨F', H', ⟨hdef, _, m', hm', hH', hr', h4', hp'⟩, rfl, hsub⟩ | ⟨ch, rfl, _, _, _, _, _, _, _, _, _, _, _, hx⟩)
    · refine ⟨hdef, _, rfl, .tuple #[], ?_, ⟨_, rfl⟩, rfl, m', hm', hH'.sub' hsub, hr'⟩
      simp [results]
    · exact hx.elim
theorem lexF_len : ∀ (f : Nat) (l : List UInt8) (c : Nat) (ts : List Tok), lexF f l c = some ts → ts.length ≤ f := by
  intro f
  induction f with
  | zero => intro l c ts h; unfold lexF at h; cases h
  | succ f ih =>
    intro l c ts h
    unfold lexF at h
    split at h
    · obtain rfl := Option.some.inj h
      simp
    · split at h
      · split at h
        · cases h
        · split at h
          · rename_i e
            obtain rfl := Option.some.inj h
            have := ih _ _ _ e
            simp only [List.length_cons]; omega
          · cases h
      · split at h
        · rename_i e
          obtain rfl := Option.some.inj h
          have := ih _ _ _ e
          simp only [List.length_cons]; omega
        · cases h
theorem read_pan {C : Ctx} {b4 b5 : Nat} {a' : Act} {w' : World} {m' : Mem} {F : Fr} {Hx : LH} {s0 e0 pv : SV} {v : Value} {R : SV → LH → Prop} (hdef : a'.defers = [⟨.fn (.func readC) #[.pointer (some ⟨b4, 0, none⟩), .pointer (some ⟨b5, 0, none⟩)], #[]⟩]) (hm' : MemIn m' w')
    (hH : HOk m' w' Hx) (hs : [(b5, 25, [e0]), (b4, 52, [s0])].Sublist Hx) (hrel : Rel C.ks C.m C.w m' w') (hown : ∀ e ∈ Hx, e.1 ∈ C.ks ∨ C.w.heap.size ≤ e.1) (hE : isE pv) (hpv : pv.p m' v) (hF : ∀ t, (F t).p m' (a'.tmps.getD t undef))
    (h4 : F 4 = lit (.pointer (some ⟨b4, 0, none⟩))) (h5 : F 5 = lit (.pointer (some ⟨b5, 0, none⟩))) (hR : R (Ab.tup [lit (.slice none 0 0), errE]) []) : bodyPostD Tryz.prog Tryz.f89 (dRes C R) (.panic [{ v := v, recovered := false }]) a' w' := by
  obtain ⟨be, rfl⟩ := hE
  refine dpan (g := readC) (cv := #[.pointer (some ⟨b4, 0, none⟩), .pointer (some ⟨b5, 0, none⟩)]) (by kernel_rfl) hdef ?_
  refine (rcatch_rec hm' hpv (hH.sub' hs)).mono ?_
  rintro e u' w2 ⟨he, hu, m2, g1, g2, g3⟩
  refine ⟨he, hu, ?_⟩
  have hFt : ∀ t, (F t).p m2 (a'.tmps.getD t undef) := fun x => SV.mono _ g3.le (hF x)
  obtain ⟨v2, hv2, hp2⟩ := run_end (fn := Tryz.f89) (tmps := a'.tmps) (P := Tryz.prog) rfl (end2 (RV.cell1 (b := b4) h4 (List.mem_cons_of_mem _ List.mem_cons_self) rfl) (RV.cell1 (b := b5) h5 List.mem_cons_self rfl) (Le.refl _)) g1 g2 hFt
  refine ⟨v2, hv2, m2, [], g1, ⟨by simp, fun e he => by cases he⟩, hrel.trans g3 fun x hx hk => ?_, (fun e he => by cases he), v2, _, rfl, Le.tup2 (Le.refl _) Le.ifcL _ _ hp2, hR⟩
  have : x ∈ C.ks ∨ C.w.heap.size ≤ x := by
    simp only [List.mem_cons, List.not_mem_nil, or_false] at hk
    rcases hk with rfl | rfl
    · exact hown _ (hs.subset List.mem_cons_self)
    · exact hown _ (hs.subset (List.mem_cons_of_mem _ List.mem_cons_self))
  rcases this with h | h
  · exact h
  · exact absurd hx (Nat.not_lt.2 h)
def prR (l : List UInt8) : SV → LH → Prop := fun r H' => match lexT l with
  | none => r = Ab.tup [lit (.slice none 0 0), errE]
  | some ts => match prsAll ts with
    | some (A, x) => ∃ s, r = Ab.tup [s, lit .nilIface] ∧ Own exPT 19 A.length (A.map ndx).flatten s H'
    | none => r = Ab.tup [lit (.slice none 0 0), errE]
set_option maxHeartbeats 4000000 in
theorem read_pu [Sent 4] [Sent 3] (l : List UInt8) (hok : ∀ b ∈ l, okC b = true) (hl : l.length ≤ 65536) :
    PuH Tryz.prog readF [str l, lit (.func (.func 90) #[] #[])] [] (prR l) noX := by
  have c0 := tokens_pu l hok hl
  unfold prR
  cases hlx : lexT l with
  | none =>
    rw [hlx] at c0
    change Pu _ _ _ (Ab.tup [lit (.slice none 0 0), errE]) at c0
    refine PuH.introD Tryz.func89 rfl (by kernel_rfl) fun C hC0 hC1 => ?_
    refine WPT.seqR hC0 ?_
    repeat (refine A1 ⟨?_⟩; intros)
    rename_i b4 b5
    refine onR.i ?_
    refine WPT.seqR hC0 ?_
    repeat (first | (refine A1 ⟨?_⟩; intros) | (refine Wcx (c0) ?_) | (refine Wdcx (c0) ?_) | (refine Wcgx (c0) ?_) | (refine Wdcgx (c0) ?_))
    refine Ss ?_
    refine Ws (sv := errE) ?_
    repeat (refine A1 ⟨?_⟩; intros)
    refine onR.i ?_
    refine WPT.seqR hC0 ?_
    repeat (refine A1 ⟨?_⟩; intros)
    refine Wo (ov_ineF (s := Ab.top) (by kernel_rfl) rfl) ?_
    repeat (first | (refine AS ⟨?_⟩; intros) | (refine O1 ⟨?_⟩; intros))
    refine WdA ?_
    repeat' (first | (refine A1 ⟨?_⟩; intros) | exact WPI.nil | refine And.intro ?_ ?_ | (refine Ss ?_; refine Ws (sv := errE) ?_))
    all_goals
      refine onR.r ?_
      exact dret hC1 (end2 (RV.cell1 (b := b4) rfl (List.mem_cons_of_mem _ List.mem_cons_self) rfl) (RV.cell1 (b := b5) rfl List.mem_cons_self rfl) (Le.refl _)) (List.nil_sublist _) rfl
  | some ts =>
    rw [hlx] at c0
    change Pu _ _ _ (Ab.tup [toks ts, lit .nilIface]) at c0
    refine PuH.introD Tryz.func89 rfl (by kernel_rfl) fun C hC0 hC1 => ?_
    refine WPT.seqR hC0 ?_
    repeat (refine A1 ⟨?_⟩; intros)
    rename_i b4 b5
    refine onR.i ?_
    refine WPT.seqR hC0 ?_
    repeat (first | (refine A1 ⟨?_⟩; intros) | (refine Wcx (c0) ?_) | (refine Wdcx (c0) ?_) | (refine Wcgx (c0) ?_) | (refine Wdcgx (c0) ?_))
    refine onR.i ?_
    refine WPT.seqR hC0 ?_
    repeat (refine A1 ⟨?_⟩; intros)
    refine onR.i ?_
    refine WPT.defer (cv := [.pointer (some ⟨b4, 0, none⟩), .pointer (some ⟨b5, 0, none⟩)]) (X1 := noX) rfl rfl fun C1 hC => ?_
    rw [hC1] at hC
    have hC2 : ∀ pv H, ¬ C1.pan pv H := fun pv H h => by rw [hC] at h; exact h
    refine WPT.seq hC2 ?_
    repeat (refine A1 ⟨?_⟩; intros)
    rename_i p
    refine onN.i ?_
    refine WPT.reg ?_
    refine WTL.val (op := .move _) Ov0 ?_ rfl
    refine WTL.val (op := .move _) Ov0 ?_ rfl
    have hT : TOk ts := (lexF_ok _ _ _ _ hlx).1
    have ce := pexpression_pu p ts hT (by have := lexF_len _ _ _ _ hlx; omega)
    refine WTL.call (s := lit (.func (.func 90) #[] #[])) (l := [.tmp 22]) rfl ce (Tk.perm (Tk.cons (HDel.here _) (Tk.nil _))) rfl rfl ?_ ?_
    · rintro v H' ⟨A, x, ts', Hs, hp, hown, rfl⟩
      have hco := hown.co
      obtain ⟨hr, hT', hl'⟩ := prs_ok _ _ _ _ _ _ _ _ _ (by omega) (fun h => by omega) hT trivial hp
      obtain ⟨a, r, rfl, ha⟩ := hT'.cons
      have hlen := lexF_len _ _ _ _ hlx
      simp only [List.length_cons] at hl'
      have c1 := pnext_pu v hco a r 0 (by omega)
      refine WTL.wpl hC2 ?_
      refine WPL.perm (H' := (p, psT, psC (a :: r) 0 v) :: (b5, 25, [lit Value.nilIface]) :: (b4, 52, [lit (Value.slice none 0 0)]) :: Hs) (List.Perm.cons _ List.perm_append_comm) ?_
      refine Ss ?_
      refine Ws (sv := v) ?_
      repeat (refine A1 ⟨?_⟩; intros)
      by_cases hk : a.k = 0
      · refine WPT.fin (Q := endH Tryz.prog Tryz.f89.results _) ?_ (dfin ⟨_, hC⟩ (by kernel_rfl) hC2 fun w => rcatch_idle _ _ w)
        repeat (refine A1 ⟨?_⟩; intros)
        refine Wo (ov_callT c1 rfl (by repeat (first | exact List.mem_cons_self | apply List.mem_cons_of_mem))) ?_
        repeat (refine A1 ⟨?_⟩; intros)
        refine Ss ?_
        refine Ws (sv := v) ?_
        repeat (refine A1 ⟨?_⟩; intros)
        refine endHR _ Hs (end2 (RV.cell1 (b := b4) rfl (List.mem_cons_of_mem _ (List.mem_cons_of_mem _ List.mem_cons_self)) rfl) (RV.cell1 (b := b5) rfl (List.mem_cons_of_mem _ List.mem_cons_self) rfl) (Le.refl _)) (by repeat (first | exact List.Sublist.refl _ | refine List.Sublist.cons _ ?_)) ?_
        have hpa : prsAll ts = some (A, x) := by
          unfold prsAll
          rw [hp]
          exact if_pos hk
        simp only [hpa]
        exact ⟨v, rfl, hown⟩
      · refine WPT.into ?_
        refine WPT.seq hC2 ?_
        repeat (refine A1 ⟨?_⟩; intros)
        refine Wo (ov_callT c1 rfl (by repeat (first | exact List.mem_cons_self | apply List.mem_cons_of_mem))) ?_
        repeat (refine A1 ⟨?_⟩; intros)
        refine onN.i ?_
        refine WPT.cond (t := true) rfl ?_
        refine WPT.region ?_
        refine WTL.val (op := .move _) Ov0 ?_ rfl
        refine WTL.val (op := .load _ _) Ov0 ?_ rfl
        refine WTL.call (s := lit (.func (.func 93) #[] #[])) (l := [.tmp 28, .tmp 29]) rfl (pfail_pu v hco p a r 0 (by omega) _) (Tk.perm (Tk.cons (HDel.here _) (Tk.nil _))) rfl rfl ?_ ?_
        · rintro _ _ ⟨⟩
        · subst hC
          rintro v1 pv H' m' a' w' hE hdef hm' hH' hrel hown hpv hF
          simp only [Exit.then]
          refine read_pan (b4 := b4) (b5 := b5) (s0 := v) (e0 := lit .nilIface) hdef hm' hH' (List.Sublist.trans ?_ (List.sublist_append_right _ _)) hrel hown hE hpv hF rfl rfl ?_
          · exact List.Sublist.cons_cons _ (List.Sublist.cons_cons _ (List.nil_sublist _))
          · have hpa : prsAll ts = none := by
              unfold prsAll
              rw [hp]
              exact if_neg hk
            simp only [hpa]
    · subst hC
      rintro v pv H' m' a' w' ⟨hn, hE⟩ hdef hm' hH' hrel hown hpv hF
      refine read_pan (b4 := b4) (b5 := b5) (s0 := lit (.slice none 0 0)) (e0 := lit .nilIface) hdef hm' hH' (List.Sublist.trans ?_ (List.sublist_append_right _ _)) hrel hown hE hpv hF rfl rfl ?_
      · exact List.Sublist.cons_cons _ (List.Sublist.cons_cons _ (List.nil_sublist _))
      · have hpa : prsAll ts = none := by
          unfold prsAll
          rw [hn]
        simp only [hpa]
theorem prR_two {l : List UInt8} {r : SV} {H : LH} (h : prR l r H) : r = Ab.tup [lit (.slice none 0 0), errE] ∨ ∃ s, r = Ab.tup [s, lit .nilIface] ∧ CO s [s] := by
  unfold prR at h
  split at h
  · exact .inl h
  · split at h
    · obtain ⟨s, rfl, hown⟩ := h
      exact .inr ⟨s, rfl, hown.co⟩
    · exact .inl h
theorem gexpr_pu [Sent 4] [Sent 3] (l : List UInt8) (hok : ∀ b ∈ l, okC b = true) (hl : l.length ≤ 65536) : PuH Tryz.prog 48 [str l] [] (prR l) noX := by
  have c := read_pu l hok hl
  refine PuH.intro Tryz.func48 rfl (by kernel_rfl) fun C hC => ?_
  repeat (refine A1 ⟨?_⟩; intros)
  refine WfT c ?_
  rintro r H' hr
  rcases prR_two hr with rfl | ⟨s, rfl, hco⟩
  · repeat (refine A1 ⟨?_⟩; intros)
    exact endHR _ H' (end2 (RV.tmp rfl) (RV.tmp rfl) (Le.refl _)) (List.Sublist.refl _) hr
  · repeat (refine A1 ⟨?_⟩; intros)
    exact endHR _ H' (end2 (RV.tmp rfl) (RV.tmp rfl) (Le.refl _)) (List.Sublist.refl _) hr
theorem gnx_bd {l : List UInt8} {ln cl : Nat} {t : Tok} {n : Nat} (h : gnx l ln cl = .ok (t, n)) : n ≤ l.length ∧ (t.k ≠ 0 → 0 < n) ∧ ((gsk false l ln cl).1 + t.t.length = n ∧ t.l = (gsk false l ln cl).2.1 ∧ t.c = (gsk false l ln cl).2.2) := by
  have hle := gsk_le false l ln cl
  unfold gnx at h
  generalize gsk false l ln cl = q at *
  obtain ⟨q, lq, cq⟩ := q
  simp only at h hle ⊢
  cases hr : l.drop q with
  | nil =>
    rw [hr] at h
    simp only [Except.ok.injEq, Prod.mk.injEq] at h
    obtain ⟨rfl, rfl⟩ := h
    exact ⟨hle, fun h => absurd rfl h, rfl, rfl, rfl⟩
  | cons b r =>
    rw [hr] at h
    simp only at h
    have hlen : l.length - q = r.length + 1 := by rw [← List.length_drop, hr]; rfl
    have key : ∀ p, p (clsN b.toNat) = true → 1 ≤ grun p (b :: r) ∧ grun p (b :: r) ≤ r.length + 1 ∧ ((b :: r).take (grun p (b :: r))).length = grun p (b :: r) := fun p hp => by
      have h1 := grun_t hp r
      have h2 := grun_le p (b :: r)
      simp only [List.length_cons] at h2
      exact ⟨by omega, h2, by rw [List.length_take, List.length_cons]; omega⟩
    by_cases h3 : clsN b.toNat = 3
    · rw [if_pos h3] at h
      obtain ⟨g1, g2, g3⟩ := key isLD (by rw [h3]; rfl)
      split at h
      · cases h
      · simp only [Except.ok.injEq, Prod.mk.injEq] at h
        obtain ⟨rfl, rfl⟩ := h
        exact ⟨by omega, fun _ => by omega, by simp only; omega, rfl, rfl⟩
    rw [if_neg h3] at h
    by_cases h4 : clsN b.toNat = 4
    · rw [if_pos h4] at h
      obtain ⟨g1, g2, g3⟩ := key isD (by rw [h4]; rfl)
      split at h
      · cases h
      · simp only [Except.ok.injEq, Prod.mk.injEq] at h
        obtain ⟨rfl, rfl⟩ := h
        exact ⟨by omega, fun _ => by omega, by simp only; omega, rfl, rfl⟩
    rw [if_neg h4] at h
    split at h
    · simp only [Except.ok.injEq, Prod.mk.injEq] at h
      obtain ⟨rfl, rfl⟩ := h
      exact ⟨by omega, fun _ => by omega, by simp, rfl, rfl⟩
    · cases h
def gttsR (o : Except Er (List Tok)) : SV := match o with
  | .ok ts => Ab.tup [toks ts, lit .nilIface]
  | .error e => Ab.tup [lit (.slice none 0 0), erSV e]
structure LxSt where
  f : Nat
  k : Nat
  ln : Nat
  cl : Nat
  A : List Tok
  s : SV
  Hs : LH
set_option maxHeartbeats 4000000 in
theorem gtokens_pu [Sent 3] [Sent 4] (l : List UInt8) (hl : l.length ≤ 65536) : Pu Tryz.prog 91 [str l] (gttsR (glex l)) := by
  refine Pu.intro Tryz.func91 rfl (by kernel_rfl) fun C => ?_
  repeat (refine A1 ⟨?_⟩; intros)
  rename_i r
  refine WP.loopS (ι := LxSt) (fun x => x.k ≤ l.length ∧ l.length + 1 ≤ x.f + x.k ∧ x.A.length ≤ x.k ∧ (x.ln ≤ x.k + 1 ∧ x.cl ≤ x.k + 1) ∧ Own tkT 4 x.A.length (x.A.map tkx).flatten x.s x.Hs ∧ glex l = (match glexF x.f (l.drop x.k) x.ln x.cl with
      | .ok ts => .ok (x.A ++ ts)
      | .error e => .error e)) (fun x => l.length - x.k)
    (fun x => fm [(4, lit (.pointer (some ⟨r, 0, none⟩))), (5, x.s)]) (fun x => (r, rdT, rdG l x.k x.ln x.cl) :: x.Hs) ⟨l.length + 1, 0, 1, 1, [], lit (.slice none 0 0), []⟩
    ⟨Nat.zero_le _, by simp, Nat.le_refl _, ⟨Nat.le_refl _, Nat.le_refl _⟩, Own.nil _ _, by simp only [List.drop_zero, List.nil_append]; unfold glex; split <;> (rename_i h; exact h)⟩ (by (repeat (first | exact LeF.nil _ | refine LeF.cons (Le.refl _) ?_ | refine LeF.cons (Le.int (by omega)) ?_))) (List.Sublist.refl _) ?_
  rintro ⟨f, k, ln, cl, A, s, Hs⟩ ⟨hk, hf, hA, ⟨hln, hcl⟩, hown, hlex⟩ K hK
  simp only at hk hf hA hln hcl hown hlex ⊢
  obtain ⟨f, rfl⟩ : ∃ f', f = f' + 1 := ⟨f - 1, by omega⟩
  rw [glexF_succ] at hlex
  have hco := hown.co
  have c := gnext_pu r l k ln cl hk (by omega) hln hcl
  cases hn : gnx (l.drop k) ln cl with
  | error e =>
    rw [hn] at c hlex
    simp only at c hlex
    rw [hlex]
    clear hK
    repeat (refine A1 ⟨?_⟩; intros)
    refine WfT c ?_
    rintro _ H' rfl
    repeat (refine A1 ⟨?_⟩; intros)
    refine Wo (ov_ineF (s := pt _) (by kernel_rfl) rfl) ?_
    repeat (refine A1 ⟨?_⟩; intros)
    refine endR (end2 (RV.tmp rfl) (RV.tmp rfl) (Le.of_eq rfl))
  | ok q =>
    obtain ⟨t, n⟩ := q
    rw [hn] at c hlex
    simp only at c hlex
    obtain ⟨g1, g2, g3, g4, g5⟩ := gnx_bd hn
    rw [List.length_drop] at g1
    have hbd := gsk_bd false (l.drop k) ln cl k hln hcl
    rw [← g4, ← g5] at hbd
    repeat (refine A1 ⟨?_⟩; intros)
    refine WfT c ?_
    rintro _ _ ⟨rfl, rfl⟩
    refine WPL.perm List.perm_append_comm ?_
    simp only [List.cons_append, List.nil_append]
    repeat (refine A1 ⟨?_⟩; intros)
    refine Wown hown (by omega) (fun s' H' hown' => ?_)
    simp only [List.cons_append, List.nil_append]
    have hown'' : Own tkT 4 (A ++ [t]).length ((A ++ [t]).map tkx).flatten s' H' := by
      rw [toks_snoc, List.length_append, List.length_singleton]; exact hown'
    by_cases h0 : t.k = 0
    · rw [if_pos h0] at hlex
      simp only at hlex
      rw [hlex]
      clear hK hown'
      obtain ⟨hcl, ⟨h0', _⟩ | ⟨b2, c2, hnc, hcm, rfl, rfl⟩⟩ := hown''
      · simp at h0'
      refine WPL.pub (d := 29) (s' := toks (A ++ [t])) (HDel.there _ (HDel.there _ (HDel.there _ (HDel.here _)))) rfl (fun m arr h1 h2 => pub_ownL h1 h2 hnc hcm) ?_
      repeat (refine A1 ⟨?_⟩; intros)
      refine endR (end2 (RV.tmp rfl) (RV.tmp rfl) (Le.of_eq rfl))
    · rw [if_neg h0] at hlex
      have hn0 := g2 h0
      have hgo := fun F' H'' => hK F' H'' ⟨f, k + n, t.l, t.c + t.t.length, A ++ [t], s', H'⟩ ⟨by simp only; omega, by simp only; omega, by simp only [List.length_append, List.length_singleton]; omega, ⟨by simp only; omega, by simp only; omega⟩, hown'', by
        simp only
        rw [hlex, List.drop_drop]
        cases glexF f (l.drop (k + n)) t.l (t.c + t.t.length) with
        | error e => rfl
        | ok ts => simp⟩ (by simp only; omega)
      have hco' := hown''.co
      clear hK hlex hown hown'
      repeat (refine A1 ⟨?_⟩; intros)
      exact hgo _ _ (by (repeat (first | exact LeF.nil _ | refine LeF.cons (Le.refl _) ?_ | refine LeF.cons (Le.int (by omega)) ?_))) (List.Sublist.cons _ (List.Sublist.cons _ (List.Sublist.refl _)))
theorem cls4 {b : Nat} (h : clsN b = 4) : 48 ≤ b ∧ b ≤ 57 := by
  unfold clsN at h
  split at h
  · exact absurd h (by decide)
  · split at h
    · exact absurd h (by decide)
    · split at h
      · assumption
      · split at h
        · exact absurd h (by decide)
        · split at h <;> exact absurd h (by decide)
theorem grun_D : ∀ (l : List UInt8), allD (l.take (grun isD l))
  | [] => by intro b hb; cases hb
  | a :: l => by
    cases h : isD (clsN a.toNat) with
    | false => rw [grun_f h]; intro b hb; cases hb
    | true =>
      rw [grun_t h]
      intro b hb
      rw [List.take_succ_cons] at hb
      rcases List.mem_cons.1 hb with rfl | hb
      · exact cls4 (of_decide_eq_true h)
      · exact grun_D l b hb
theorem gnx_gok {l : List UInt8} {ln cl : Nat} {t : Tok} {n : Nat} (h : gnx l ln cl = .ok (t, n)) : t.gok ∧ (t.k = 0 → t.t = []) := by
  unfold gnx at h
  generalize gsk false l ln cl = q at *
  obtain ⟨q, lq, cq⟩ := q
  simp only at h
  cases hr : l.drop q with
  | nil =>
    rw [hr] at h
    simp only [Except.ok.injEq, Prod.mk.injEq] at h
    obtain ⟨rfl, rfl⟩ := h
    exact ⟨.inl ⟨rfl, rfl⟩, fun _ => rfl⟩
  | cons b r =>
    rw [hr] at h
    simp only at h
    by_cases h3 : clsN b.toNat = 3
    · rw [if_pos h3] at h
      split at h
      · cases h
      · simp only [Except.ok.injEq, Prod.mk.injEq] at h
        obtain ⟨rfl, rfl⟩ := h
        exact ⟨.inr (.inl rfl), fun h => by cases h⟩
    rw [if_neg h3] at h
    by_cases h4 : clsN b.toNat = 4
    · rw [if_pos h4] at h
      split at h
      · cases h
      · next hle =>
        simp only [Except.ok.injEq, Prod.mk.injEq] at h
        obtain ⟨rfl, rfl⟩ := h
        refine ⟨.inr (.inr (.inl ⟨rfl, grun_D _, ?_, ?_⟩)), fun h => by cases h⟩
        · simp only
          rw [grun_t (show isD (clsN b.toNat) = true by rw [h4]; rfl), List.take_succ_cons]
          exact List.cons_ne_nil _ _
        · simp only [List.length_take]
          omega
    rw [if_neg h4] at h
    split at h
    · simp only [Except.ok.injEq, Prod.mk.injEq] at h
      obtain ⟨rfl, rfl⟩ := h
      exact ⟨.inr (.inr (.inr rfl)), fun h => by cases h⟩
    · cases h
theorem GOk.mk {t : Tok} {ts : List Tok} (h0 : t.k ≠ 0) (hg : t.gok) (h : GOk ts) : GOk (t :: ts) := by
  cases ts with
  | nil => exact h.elim
  | cons a r => exact ⟨⟨h0, hg⟩, h⟩
theorem glexF_ok : ∀ (f : Nat) (l : List UInt8) (ln cl : Nat) (ts : List Tok), glexF f l ln cl = .ok ts → GOk ts ∧ ts.length ≤ l.length + 1 := by
  intro f
  induction f with
  | zero => intro l ln cl ts h; cases h
  | succ f ih =>
    intro l ln cl ts h
    rw [glexF_succ] at h
    cases hn : gnx l ln cl with
    | error e => rw [hn] at h; cases h
    | ok q =>
      obtain ⟨t, n⟩ := q
      rw [hn] at h
      simp only at h
      have hg := gnx_gok hn
      have hb := gnx_bd hn
      split at h
      · next h0 =>
        cases h
        exact ⟨⟨h0, hg.2 h0⟩, by simp⟩
      · next h0 =>
        split at h
        · cases h
        · next ts2 hr =>
          cases h
          have := ih _ _ _ _ hr
          rw [List.length_drop] at this
          have := hb.2.1 h0
          exact ⟨GOk.mk h0 hg.1 (ih _ _ _ _ hr).1, by simp only [List.length_cons]; omega⟩
theorem glex_ok {l : List UInt8} {ts : List Tok} (h : glex l = .ok ts) : GOk ts ∧ ts.length ≤ l.length + 1 := glexF_ok _ _ _ _ _ h
abbrev readSF : FuncId := 49
abbrev readSC : FuncId := 92
theorem scatch_idle (p q : Addr) (w : World) : CallsD Tryz.prog readSC #[.pointer (some p), .pointer (some q)] .returning w fun e u' w' => (∃ v, e = .returned v) ∧ u' = .returning ∧ w' = w := by
  refine callsD_of_wpS Tryz.func92 rfl fun c₀ cs hu => ?_
  apply wpS_seq
  apply wpS_region
  simp [wpOpsS, go_sem, recoverD, hu, Exit.thenS]
  apply wpS_seq
  apply wpS_region
  simp [wpOpsS, go_sem, Exit.thenS]
  refine wpS_cond (t := false) (by simp [Act.eval, Array.replicate]) ?_
  simp only [Bool.false_eq_true, if_false]
  refine wpS_of_wp (wp_skip ?_)
  cases c₀
  simp_all [bodyPostS, results, Exit.thenS]
theorem ov_assertS {F : Fr} {H : LH} {ty : TypeId} {x : Operand} {ad : Addr} (hx : ev F x = lit (.iface 32 (.pointer (some ad)))) : OpV Tryz.prog (.typeAssert x 20 32 true) ty F H (Ab.tup [lit (.pointer (some ad)), lit (.bool true)]) :=
  OpV.pure fun m w o a ho _ _ _ h => by
    have h0 := h x (by simp [Op.operands]); rw [hx, lit_p] at h0
    have hrun : (Instr.typeAssert (.iface 32 (.pointer (some ad))) 20 32 true).run Tryz.prog w = .ok (.tuple #[.pointer (some ad), .bool true]) w := by kernel_rfl
    refine ⟨.tuple #[.pointer (some ad), .bool true], by simp [execOp, ho, h0, hrun], ?_⟩
    unfold Ab.tup
    exact ⟨_, rfl, lit_p.2 rfl, lit_p.2 rfl, trivial⟩
theorem scatch_rec {b2 b3 : Nat} {ad : Addr} {w : World} {m : Mem} {s0 e0 : SV} {v : Value} (hm : MemIn m w) (hv : (lit (.iface 32 (.pointer (some ad)))).p m v) (hH : HOk m w [(b3, 25, [e0]), (b2, 23, [s0])]) :
    CallsD Tryz.prog readSC #[.pointer (some ⟨b2, 0, none⟩), .pointer (some ⟨b3, 0, none⟩)] (.panicking [{ v := v, recovered := false }]) w fun e u' w' => (∃ v', e = .returned v') ∧ u' = .panicking [{ v := v, recovered := true }] ∧
      ∃ m', MemIn m' w' ∧ HOk m' w' [(b3, 25, [lit (.iface 32 (.pointer (some ad)))]), (b2, 23, [lit (.slice none 0 0)])] ∧ Rel [b3, b2] m w m' w' := by
  have hv' := lit_p.1 hv
  subst hv'
  refine callsD_of_wpS Tryz.func92 rfl fun c₀ cs hu => ?_
  apply wpS_seq
  apply wpS_region
  simp [wpOpsS, go_sem, recoverD, hu, Exit.thenS]
  refine wpS_eng (C := ⟨[b3, b2], m, w, noX, []⟩) (n := 20) (F := fm [(0, lit (.pointer (some ⟨b2, 0, none⟩))), (1, lit (.pointer (some ⟨b3, 0, none⟩))), (2, lit (.iface 32 (.pointer (some ad))))]) (H := [(b3, 25, [e0]), (b2, 23, [s0])])
    (Q := fun e _ H' => e = .normal ∧ [(b3, 25, [lit (.iface 32 (.pointer (some ad)))]), (b2, 23, [lit (.slice none 0 0)])].Sublist H') ?_ ⟨rfl, by simp, m, hm, hH, Rel.refl _ _ _, fun e he => .inl (by simp at he ⊢; rcases he with rfl | rfl <;> simp), fm_ok _ ?_⟩ ?_
  · repeat (refine A1 ⟨?_⟩; intros)
    refine Wo (ov_assertS rfl) ?_
    repeat (refine A1 ⟨?_⟩; intros)
    exact ⟨rfl, by repeat (first | exact List.Sublist.refl _ | refine List.Sublist.cons _ ?_)⟩
  · intro e he
    simp only [List.mem_cons, List.not_mem_nil, or_false] at he
    rcases he with rfl | rfl | rfl
    · rw [lit_p]; simp
    · rw [lit_p]; simp
    · rw [lit_p]; simp
  · rintro e a' w' (⟨F', H', ⟨hdef, _, m', hm', hH', hr', h4', hp'⟩, rfl, hsub⟩ | ⟨ch, rfl, _, _, _, _, _, _, _, _, _, _, _, hx⟩)
    · refine ⟨hdef, _, rfl, .tuple #[], ?_, ⟨_, rfl⟩, rfl, m', hm', hH'.sub' hsub, hr'⟩
      simp [results]
    · exact hx.elim
theorem tup2_lit {m : Mem} {a b : SV} {u v : Value} (h : (Ab.tup [a, lit u]).p m v) (hu : b.p m u) : (Ab.tup [a, b]).p m v := by
  unfold Ab.tup at *
  obtain ⟨arr, rfl, hall⟩ := h
  refine ⟨arr, rfl, ?_⟩
  revert hall
  generalize arr.toList = l
  intro hall
  match l, hall with
  | [x, y], hall =>
    have h2 := lit_p.1 hall.2.1
    subst h2
    exact ⟨hall.1, hu, trivial⟩
theorem sread_pan {C : Ctx} {b4 b5 : Nat} {a' : Act} {w' : World} {m' : Mem} {F : Fr} {Hx : LH} {s0 e0 pv : SV} {v : Value} {R : SV → LH → Prop} (hdef : a'.defers = [⟨.fn (.func readSC) #[.pointer (some ⟨b4, 0, none⟩), .pointer (some ⟨b5, 0, none⟩)], #[]⟩]) (hm' : MemIn m' w')
    (hH : HOk m' w' Hx) (hs : [(b5, 25, [e0]), (b4, 23, [s0])].Sublist Hx) (hrel : Rel C.ks C.m C.w m' w') (hown : ∀ e ∈ Hx, e.1 ∈ C.ks ∨ C.w.heap.size ≤ e.1) {er : Er} (hE : pv = erSV er) (hpv : pv.p m' v) (hF : ∀ t, (F t).p m' (a'.tmps.getD t undef))
    (h4 : F 4 = lit (.pointer (some ⟨b4, 0, none⟩))) (h5 : F 5 = lit (.pointer (some ⟨b5, 0, none⟩))) (hR : R (Ab.tup [lit (.slice none 0 0), erSV er]) []) : bodyPostD Tryz.prog Tryz.f49 (dRes C R) (.panic [{ v := v, recovered := false }]) a' w' := by
  subst hE
  have hpv0 := hpv
  unfold erSV ifc pt at hpv0
  obtain ⟨u, rfl, bb, off, rfl, _⟩ := hpv0
  refine dpan (g := readSC) (cv := #[.pointer (some ⟨b4, 0, none⟩), .pointer (some ⟨b5, 0, none⟩)]) (by kernel_rfl) hdef ?_
  refine (scatch_rec (ad := ⟨bb, off, none⟩) hm' (lit_p.2 rfl) (hH.sub' hs)).mono ?_
  rintro e u' w2 ⟨he, hu, m2, g1, g2, g3⟩
  refine ⟨he, hu, ?_⟩
  have hFt : ∀ t, (F t).p m2 (a'.tmps.getD t undef) := fun x => SV.mono _ g3.le (hF x)
  obtain ⟨v2, hv2, hp2⟩ := run_end (fn := Tryz.f49) (tmps := a'.tmps) (P := Tryz.prog) rfl (end2 (RV.cell1 (b := b4) h4 (List.mem_cons_of_mem _ List.mem_cons_self) rfl) (RV.cell1 (b := b5) h5 List.mem_cons_self rfl) (Le.refl _)) g1 g2 hFt
  refine ⟨v2, hv2, m2, [], g1, ⟨by simp, fun e he => by cases he⟩, hrel.trans g3 fun x hx hk => ?_, (fun e he => by cases he), v2, _, rfl, tup2_lit hp2 ((erSV er).mono g3.le hpv), hR⟩
  have : x ∈ C.ks ∨ C.w.heap.size ≤ x := by
    simp only [List.mem_cons, List.not_mem_nil, or_false] at hk
    rcases hk with rfl | rfl
    · exact hown _ (hs.subset List.mem_cons_self)
    · exact hown _ (hs.subset (List.mem_cons_of_mem _ List.mem_cons_self))
  rcases this with h | h
  · exact h
  · exact absurd hx (Nat.not_lt.2 h)
def gpR (l : List UInt8) : SV → LH → Prop := fun r H' => match gscript l with
  | .ok ss => ∃ s, r = Ab.tup [s, lit .nilIface] ∧ Own stT 19 ss.length (ss.map stx).flatten s H'
  | .error e => r = Ab.tup [lit (.slice none 0 0), erSV e]
set_option maxHeartbeats 4000000 in
theorem sread_pu [Sent 4] [Sent 3] [Sent 5] [Sent 7] (l : List UInt8) (hl : l.length ≤ 65536) :
    PuH Tryz.prog readSF [str l, lit (.func (.func 50) #[] #[])] [] (gpR l) noX := by
  have c0 := gtokens_pu l hl
  unfold gpR gscript
  cases hlx : glex l with
  | error e =>
    rw [hlx] at c0
    change Pu _ _ _ (Ab.tup [lit (.slice none 0 0), erSV e]) at c0
    refine PuH.introD Tryz.func49 rfl (by kernel_rfl) fun C hC0 hC1 => ?_
    refine WPT.seqR hC0 ?_
    repeat (refine A1 ⟨?_⟩; intros)
    rename_i b4 b5
    refine onR.i ?_
    refine WPT.seqR hC0 ?_
    repeat (first | (refine A1 ⟨?_⟩; intros) | (refine Wcx (c0) ?_) | (refine Wdcx (c0) ?_) | (refine Wcgx (c0) ?_) | (refine Wdcgx (c0) ?_))
    refine Ss ?_
    refine Ws (sv := erSV e) ?_
    repeat (refine A1 ⟨?_⟩; intros)
    refine onR.i ?_
    refine WPT.seqR hC0 ?_
    repeat (refine A1 ⟨?_⟩; intros)
    refine Wo (ov_ineF (s := pt _) (by kernel_rfl) rfl) ?_
    repeat (first | (refine AS ⟨?_⟩; intros) | (refine O1 ⟨?_⟩; intros))
    refine WdA ?_
    repeat' (first | (refine A1 ⟨?_⟩; intros) | exact WPI.nil | refine And.intro ?_ ?_ | (refine Ss ?_; refine Ws (sv := erSV e) ?_))
    all_goals
      refine onR.r ?_
      exact dret hC1 (end2 (RV.cell1 (b := b4) rfl (List.mem_cons_of_mem _ List.mem_cons_self) rfl) (RV.cell1 (b := b5) rfl List.mem_cons_self rfl) (Le.refl _)) (List.nil_sublist _) rfl
  | ok ts =>
    rw [hlx] at c0
    change Pu _ _ _ (Ab.tup [toks ts, lit .nilIface]) at c0
    refine PuH.introD Tryz.func49 rfl (by kernel_rfl) fun C hC0 hC1 => ?_
    refine WPT.seqR hC0 ?_
    repeat (refine A1 ⟨?_⟩; intros)
    rename_i b4 b5
    refine onR.i ?_
    refine WPT.seqR hC0 ?_
    repeat (first | (refine A1 ⟨?_⟩; intros) | (refine Wcx (c0) ?_) | (refine Wdcx (c0) ?_) | (refine Wcgx (c0) ?_) | (refine Wdcgx (c0) ?_))
    refine onR.i ?_
    refine WPT.seqR hC0 ?_
    repeat (refine A1 ⟨?_⟩; intros)
    refine onR.i ?_
    refine WPT.defer (cv := [.pointer (some ⟨b4, 0, none⟩), .pointer (some ⟨b5, 0, none⟩)]) (X1 := noX) rfl rfl fun C1 hC => ?_
    rw [hC1] at hC
    have hC2 : ∀ pv H, ¬ C1.pan pv H := fun pv H h => by rw [hC] at h; exact h
    refine WPT.seq hC2 ?_
    repeat (refine A1 ⟨?_⟩; intros)
    rename_i p
    refine onN.i ?_
    refine WPT.reg ?_
    refine WTL.val (op := .move _) Ov0 ?_ rfl
    refine WTL.val (op := .move _) Ov0 ?_ rfl
    have hT := glex_ok hlx
    have ce := gscript1_pu p ts hT.1 (by omega) (lit (.slice none 0 0)) inferInstance
    refine WTL.call (s := lit (.func (.func 50) #[] #[])) (l := [.tmp 22]) rfl ce (Tk.perm (Tk.cons (HDel.here _) (Tk.nil _))) rfl rfl ?_ ?_
    · rintro v H' ⟨ss, e, s1, Hs, hp, hss, he0, hco1, hown, rfl⟩
      have hco := hown.co
      have c1 := pnext_pu s1 hco1 e [] 0 (by simp)
      refine WTL.wpl hC2 ?_
      refine WPL.perm (H' := (p, psT, psC [e] 0 s1) :: (b5, 25, [lit Value.nilIface]) :: (b4, 23, [lit (Value.slice none 0 0)]) :: Hs) (List.Perm.cons _ List.perm_append_comm) ?_
      refine Ss ?_
      refine Ws (sv := v) ?_
      repeat (refine A1 ⟨?_⟩; intros)
      refine WPT.fin (Q := endH Tryz.prog Tryz.f49.results _) ?_ (dfin ⟨_, hC⟩ (by kernel_rfl) hC2 fun w => scatch_idle _ _ w)
      repeat (refine A1 ⟨?_⟩; intros)
      refine Wo (ov_callT c1 rfl (by repeat (first | exact List.mem_cons_self | apply List.mem_cons_of_mem))) ?_
      repeat (refine A1 ⟨?_⟩; intros)
      refine Ss ?_
      refine Ws (sv := v) ?_
      repeat (refine A1 ⟨?_⟩; intros)
      refine endHR _ Hs (end2 (RV.cell1 (b := b4) rfl (List.mem_cons_of_mem _ (List.mem_cons_of_mem _ List.mem_cons_self)) rfl) (RV.cell1 (b := b5) rfl (List.mem_cons_of_mem _ List.mem_cons_self) rfl) (Le.refl _)) (by repeat (first | exact List.Sublist.refl _ | refine List.Sublist.cons _ ?_)) ?_
      simp only [hp]
      exact ⟨v, rfl, hown⟩
    · subst hC
      rintro v pv H' m' a' w' ⟨e, hn, hE⟩ hdef hm' hH' hrel hown hpv hF
      refine sread_pan (b4 := b4) (b5 := b5) (s0 := lit (.slice none 0 0)) (e0 := lit .nilIface) hdef hm' hH' (List.Sublist.trans ?_ (List.sublist_append_right _ _)) hrel hown hE hpv hF rfl rfl ?_
      · exact List.Sublist.cons_cons _ (List.Sublist.cons_cons _ (List.nil_sublist _))
      · simp only [hn]
abbrev stsS (ss : List Stm) : SV := sl (ss.map stx).flatten ss.length
def gpS (l : List UInt8) : SV := match gscript l with
  | .ok ss => Ab.tup [stsS ss, lit .nilIface]
  | .error e => Ab.tup [lit (.slice none 0 0), erSV e]
theorem gscript_pu [Sent 4] [Sent 3] [Sent 5] [Sent 7] (l : List UInt8) (hl : l.length ≤ 65536) : Pu Tryz.prog 25 [str l] (gpS l) := by
  have c := sread_pu l hl
  unfold gpS
  refine PuH.toPu ?_
  cases hp : gscript l with
  | error e =>
    replace c := c.mono (R' := fun r _ => r = Ab.tup [lit (.slice none 0 0), erSV e]) (X' := noX) (fun r H h => by unfold gpR at h; rw [hp] at h; exact h) (fun _ _ h => h)
    refine PuH.intro Tryz.func25 rfl (by kernel_rfl) fun C hC => ?_
    repeat (refine A1 ⟨?_⟩; intros)
    refine WfT c ?_
    rintro _ H' rfl
    repeat (refine A1 ⟨?_⟩; intros)
    exact endHR _ _ (end2 (RV.tmp rfl) (RV.tmp rfl) (Le.refl _)) (List.nil_sublist _) rfl
  | ok ss =>
    replace c := c.mono (R' := fun r H' => ∃ s, r = Ab.tup [s, lit .nilIface] ∧ Own stT 19 ss.length (ss.map stx).flatten s H') (X' := noX) (fun r H h => by unfold gpR at h; rw [hp] at h; exact h) (fun _ _ h => h)
    refine PuH.intro Tryz.func25 rfl (by kernel_rfl) fun C hC => ?_
    repeat (refine A1 ⟨?_⟩; intros)
    refine WfT c ?_
    rintro _ H' ⟨s, rfl, hown⟩
    simp only [List.nil_append]
    (refine O1 ⟨?_⟩; intros)
    refine WPL.pubOwn (d := 6) (Rs := []) hown (by rw [List.append_nil]) rfl ?_
    repeat (refine A1 ⟨?_⟩; intros)
    exact endHR _ _ (end2 (RV.tmp rfl) (RV.tmp rfl) (Le.refl _)) (List.nil_sublist _) rfl
theorem parseT_pu [Sent 4] [Sent 3] [Sent 5] [Sent 7] (l : List UInt8) (hl : l.length ≤ 65536) : Pu Tryz.prog 9 [str l] (gpS l) := by
  have c := gscript_pu l hl
  unfold gpS at *
  cases hp : gscript l with
  | error e =>
    rw [hp] at c
    simp only at c ⊢
    refine Pu.intro Tryz.func9 rfl (by kernel_rfl) fun C => ?_
    repeat (first | (refine A1 ⟨?_⟩; intros) | (refine Wcx (c) ?_) | (refine Wdcx (c) ?_) | (refine Wcgx (c) ?_) | (refine Wdcgx (c) ?_))
    exact endR (end2 (RV.tmp rfl) (RV.tmp rfl) (Le.refl _))
  | ok ss =>
    rw [hp] at c
    simp only at c ⊢
    refine Pu.intro Tryz.func9 rfl (by kernel_rfl) fun C => ?_
    repeat (first | (refine A1 ⟨?_⟩; intros) | (refine Wcx (c) ?_) | (refine Wdcx (c) ?_) | (refine Wcgx (c) ?_) | (refine Wdcgx (c) ?_))
    exact endR (end2 (RV.tmp rfl) (RV.tmp rfl) (Le.refl _))
abbrev RQ.sh (r : RQ) : Prop := r.n.length ≤ 1000000 ∧ r.d.length ≤ 1000000
abbrev Nd.sh (n : Nd) : Prop := n.a.sh ∧ n.b.sh ∧ n.c.sh ∧ n.e.sh
end Go.Ab
