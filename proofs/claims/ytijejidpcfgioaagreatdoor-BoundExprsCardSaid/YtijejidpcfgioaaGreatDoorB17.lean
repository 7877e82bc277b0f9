/- Texts laid one behind the other: Def, RName, RNum, Mix, RPoint, RRes, RNode, Shape, RPart. -/
import Derived.Test.YtijejidpcfgioaaGreatDoorB16
import Derived.Test.YtijejidpcfgioaaGreatDoorB14
import Derived.Defers
import Derived.Recover
import Derived.Test.YtijejidpcfgioaaGreatDoorB15
import Derived.Test.YtijejidpcfgioaaGreatDoorB04
import Derived.Test.YtijejidpcfgioaaGreatDoorB05
import Derived.Test.YtijejidpcfgioaaGreatDoorB03
/- Functions with a deferred closure: grammar.write. -/
namespace Go.Ab
open Go.Proofs
set_option linter.unusedSectionVars false
set_option linter.unusedVariables false
set_option linter.unusedSimpArgs false
variable [Base]
section
variable {P : Program} {C : Ctx} {n : Nat} {F : Fr} {H : LH} {Post : Exit → Act → World → Prop} {ops : Array Oper} {rest : List Oper}
/-- a walk to an end that is told in memory's own words -/
def WPT (P : Program) (C : Ctx) (n : Nat) (c : Code) (Post : Exit → Act → World → Prop) (F : Fr) (H : LH) : Prop := ∀ a w, St C n F H a w → c.wp P Post a w
def WTL (P : Program) (C : Ctx) (n : Nat) (ops : Array Oper) (l : List Oper) (Post : Exit → Act → World → Prop) (F : Fr) (H : LH) : Prop := ∀ a w, St C n F H a w → wpList P ops Post l a w
def onN (K : Fr → LH → Prop) : Exit → Fr → LH → Prop
  | .normal, F, H => K F H
  | _, _, _ => False
theorem onN.i {K : Fr → LH → Prop} (h : K F H) : onN K .normal F H := h
theorem WPT.seq {x y : Code} (hpan : ∀ pv H, ¬ C.pan pv H) (h : WP P C n x (onN fun F H => WPT P C n y Post F H) F H) : WPT P C n (.seq x y) Post F H := by
  intro a w hs
  unfold WP at h
  refine wp_seq (wp_mono (h a w hs) ?_)
  rintro e a' w' (⟨F', H', hs', hq⟩ | ⟨ch, rfl, _, m, v, pv, H', _, _, _, _, _, _, hx⟩)
  · cases e with
    | normal => exact hq a' w' hs'
    | _ => exact hq.elim
  · exact absurd hx (hpan _ _)
theorem WPT.fin {c : Code} {Q : Exit → Fr → LH → Prop} (h : WP P C n c Q F H) (k : ∀ e a w, liftQ C n Q e a w → Post e a w) : WPT P C n c Post F H := by
  unfold WP at h
  exact fun a w hs => wp_mono (h a w hs) k
theorem WPT.reg {id : Nat} {l : List Oper} {y : Code} (h : WTL P C n l.toArray l (Exit.then (y.wp P Post) Post) F H) : WPT P C n (.seq (.region id l.toArray false) y) Post F H :=
  fun a w hs => wp_seq (wp_region_lit (h a w hs))
theorem WTL.nil {y : Code} (h : WPT P C n y Post F H) : WTL P C n ops [] (Exit.then (y.wp P Post) Post) F H := fun a w hs => wpList_nil (h a w hs)
theorem WTL.val {d : Nat} {op : Op} {ty : TypeId} {pos : String} {aft : Array Edge} {sv : SV} (hop : OpV P op ty F H sv) (k : WTL P C n ops rest Post (upd F d sv) H) (hd : Nat.blt d n = true) : WTL P C n ops (⟨some d, op, ty, pos, aft, none⟩ :: rest) Post F H := by
  intro a w hs
  obtain ⟨hdef, hn, m, h1, h2, h3, h4, h5⟩ := hs
  refine wpList_plain rfl fun K' hK' => ?_
  unfold OpV at hop
  refine hop m w _ a rfl rfl h1 h2 (fun t _ => h5 t) K' Post fun v m' w' hv hm' hH' r => hK' _ _ ?_
  exact k _ _ (St.put (Nat.blt_eq.mp hd) hdef hn h2 h3 h4 h5 hv hm' hH' r)
theorem ArgsOk.lits {m : Mem} : ∀ {cv vs : List Value}, ArgsOk m (cv.map lit) vs → vs = cv
  | [], [], _ => rfl
  | _ :: _, _ :: _, h => by rw [lit_p.1 h.1, h.2.lits]
  | [], _ :: _, h => h.elim
  | _ :: _, [], h => h.elim
/-- a closure made and deferred -/
theorem WPT.defer {id d : Nat} {f : FuncId} {l2 : List Operand} {tys : Array TypeId} {ty ty2 : TypeId} {pos pos2 : String} {aft aft2 : Array Edge} {y : Code} {cv : List Value} {X1 : SV → LH → Prop} (hcap : l2.map (ev F) = cv.map lit) (hd : Nat.blt d n = true)
    (k : ∀ C1 : Ctx, C1 = { C with pan := X1, dfs := ⟨.fn (.func f) cv.toArray, #[]⟩ :: C.dfs } → WPT P C1 n y Post (upd F d (fnv f [] (cv.map lit))) H) :
    WPT P C n (.seq (.region id [⟨some d, .makeFunc (.func f) #[] l2.toArray, ty, pos, aft, none⟩, ⟨none, .defer ⟨.value (.tmp d), #[], tys⟩, ty2, pos2, aft2, none⟩].toArray false) y) Post F H := by
  intro a w hs
  refine wp_seq (wp_region_lit ?_)
  obtain ⟨hdef, hn, m, h1, h2, h3, h4, h5⟩ := hs
  refine wpList_plain rfl fun K1 hK1 => ?_
  have hop : OpV P (.makeFunc (.func f) ([] : List Operand).toArray l2.toArray) ty F H (fnv f [] (cv.map lit)) := ov_makeFunc rfl hcap
  unfold OpV at hop
  refine hop m w _ a rfl rfl h1 h2 (fun t _ => h5 t) K1 _ fun v m' w' hv hm' hH' r => hK1 _ _ ?_
  have hst := St.put (Nat.blt_eq.mp hd) hdef hn h2 h3 h4 h5 hv hm' hH' r
  unfold fnv at hv
  obtain ⟨x, yv, rfl, hx, hy⟩ := hv
  have hx' : x = #[] := by
    cases x with
    | mk l => cases l with
      | nil => rfl
      | cons _ _ => exact hx.elim
  have hy' := hy.lits
  have hyv : yv = cv.toArray := by rw [← hy']
  subst hx' hyv
  refine wpList_plain rfl fun K2 hK2 => ?_
  unfold Oper.wp
  have hev : (a.put (some d) (.func (.func f) #[] cv.toArray)).eval (.tmp d) = .func (.func f) #[] cv.toArray := by
    show (a.put (some d) _).tmps.getD d undef = _
    rw [getD_put (Nat.lt_of_lt_of_le (Nat.blt_eq.mp hd) hn), if_pos rfl]
  have hrun : (execOp (a.put (some d) (.func (.func f) #[] cv.toArray)).eval (⟨none, .defer ⟨.value (.tmp d), #[], tys⟩, ty2, pos2, aft2, none⟩ : Oper)).run P w' = .ok (.defer ⟨.fn (.func f) cv.toArray, #[]⟩) w' := by
    simp [execOp, resolve, hev, Deferred.ofValue]
  rw [hrun]
  refine hK2 _ _ (wpList_nil ?_)
  refine k _ rfl _ _ ?_
  obtain ⟨gdef, gn, gm, g1, g2, g3, g4, g5⟩ := hst
  exact ⟨by show _ :: _ = _ :: _; rw [gdef], gn, gm, g1, g2, g3, g4, g5⟩
/-- a call that may panic: at a panic the frame is known -/
theorem WTL.call {d : Nat} {x : Operand} {s : SV} {f : FuncId} {first caps : List SV} {l : List Operand} {tys : Array TypeId} {ty : TypeId} {pos : String} {aft : Array Edge} {svs : List SV} {Hin Rs : LH} {R X : SV → LH → Prop} (hx : ev F x = s) [hfv : FV s f first caps] (hc : PuH P f svs Hin R X)
    (hs : H.Perm (Hin ++ Rs)) (ha : first ++ l.map (ev F) ++ caps = svs) (hd : Nat.blt d n = true)
    (k : ∀ res H', R res H' → WTL P C n ops rest Post (upd F d res) (H' ++ Rs))
    (kx : ∀ v pv H' m' (a : Act) w', X pv H' → a.defers = C.dfs → MemIn m' w' → HOk m' w' (H' ++ Rs) → Rel C.ks C.m C.w m' w' → (∀ e ∈ H' ++ Rs, e.1 ∈ C.ks ∨ C.w.heap.size ≤ e.1) → pv.p m' v → (∀ t, (F t).p m' (a.tmps.getD t undef)) → Post (.panic [{ v := v, recovered := false }]) a w') :
    WTL P C n ops (⟨some d, .call ⟨.value x, l.toArray, tys⟩, ty, pos, aft, none⟩ :: rest) Post F H := by
  intro a w hst
  obtain ⟨hdef, hn, m, h1, h2, h3, h4, h5⟩ := hst
  have hp : ∀ x, (ev F x).p m (a.eval x) := fun x => by
    cases x with
    | tmp t => exact h5 t
    | const v => unfold ev lit; rfl
    | global g => unfold ev lit; rfl
    | func f => unfold ev lit; rfl
  have hargs := evs_ok (m := m) (a := a) l fun x _ => hp x
  have e0 := hp x; rw [hx] at e0
  obtain ⟨fa, ca, hv, hfa, hca⟩ := hfv.h _ _ e0
  have hall : ArgsOk m svs (fa.toList ++ l.map a.eval ++ ca.toList) := ha ▸ (hfa.append hargs).append hca
  have h2' := h2.perm hs
  have hHin : HOk m w Hin := ⟨by have := h2'.1; rw [List.map_append] at this; exact (List.nodup_append.1 this).1, fun e he => h2'.2 e (by simp [he])⟩
  unfold PuH at hc
  have hcall := hc.2 m w _ h1 hHin hall
  refine wpList_plain rfl fun K' hK' => ?_
  unfold Oper.wp
  rw [run_callV hc.1 hv]
  refine Calls.mono hcall ?_
  rintro _ w' ⟨m', H', hm', hH', hr, hnew, hres⟩
  have hnk : ∀ e ∈ Rs, e.1 ∉ keys Hin := fun e he hk => by
    obtain ⟨e', he', hke⟩ := List.mem_map.1 hk
    have := h2'.1
    rw [List.map_append] at this
    exact (List.nodup_append.1 this).2.2 _ (List.mem_map.2 ⟨e', he', rfl⟩) _ (List.mem_map.2 ⟨e, he, rfl⟩) hke
  have hRs : ∀ e ∈ Rs, m' e.1 = none ∧ CellsOk m' w' e.1 e.2.1 e.2.2 := fun e he => by
    obtain ⟨g1, g2⟩ := h2'.2 e (by simp [he])
    have hlt := g2.lt
    obtain ⟨arr, g3, g4⟩ := g2
    exact ⟨(hr.old _ hlt (hnk e he)).trans g1, arr, (hr.block _ hlt (hnk e he)).trans g3, g4.mono hr.le⟩
  have hHn : HOk m' w' (H' ++ Rs) := by
    refine ⟨?_, fun e he => ?_⟩
    · rw [List.map_append, List.nodup_append]
      refine ⟨hH'.1, by have := h2'.1; rw [List.map_append] at this; exact (List.nodup_append.1 this).2.1, fun x hx y hy hxy => ?_⟩
      obtain ⟨e1, he1, rfl⟩ := List.mem_map.1 hx
      obtain ⟨e2, he2, rfl⟩ := List.mem_map.1 hy
      rcases hnew e1 he1 with h | h
      · exact hnk e2 he2 (hxy ▸ h)
      · have := (h2'.2 e2 (by simp [he2])).2.lt
        omega
    · rcases List.mem_append.1 he with h | h
      · exact hH'.2 e h
      · exact hRs e h
  have hrel : Rel C.ks C.m C.w m' w' := h3.trans hr fun b hb hk => by
    obtain ⟨e', he', rfl⟩ := List.mem_map.1 hk
    rcases h4 e' (hs.mem_iff.2 (by simp [he'])) with h | h
    · exact h
    · exact absurd hb (Nat.not_lt.2 h)
  have hown : ∀ e ∈ H' ++ Rs, e.1 ∈ C.ks ∨ C.w.heap.size ≤ e.1 := fun e he => by
    rcases List.mem_append.1 he with h | h
    · rcases hnew e h with h | h
      · obtain ⟨e', he', hke⟩ := List.mem_map.1 h
        have := h4 e' (hs.mem_iff.2 (by simp [he']))
        rw [hke] at this; exact this
      · exact .inr (Nat.le_trans h3.size h)
    · exact h4 e (hs.mem_iff.2 (by simp [h]))
  rcases hres with ⟨v, res, rfl, hv', hR⟩ | ⟨v, pv, rfl, hv', hX⟩
  · refine hK' _ _ (k res H' hR _ _ ?_)
    refine ⟨hdef, by simpa [Act.put] using hn, m', hm', hHn, hrel, hown, fun t => ?_⟩
    rw [getD_put (Nat.lt_of_lt_of_le (Nat.blt_eq.mp hd) hn)]
    unfold Ab.upd
    by_cases ht : t = d
    · subst ht; rw [if_pos rfl, Nat.beq_refl]; exact hv'
    · rw [if_neg ht]
      have : Nat.beq t d = false := by
        cases hb : Nat.beq t d with
        | false => rfl
        | true => exact absurd (Nat.eq_of_beq_eq_true hb) ht
      rw [this]
      exact (F t).mono hr.le (h5 t)
  · exact kx v pv H' m' a w' hX hdef hm' hHn hrel hown hv' fun t => (F t).mono hr.le (h5 t)
/-- what a function with blocks leaves -/
def dRes (C : Ctx) (R : SV → LH → Prop) : Ending → World → Prop := fun e w' => ∃ m' H', MemIn m' w' ∧ HOk m' w' H' ∧ Rel C.ks C.m C.w m' w' ∧ (∀ e ∈ H', e.1 ∈ C.ks ∨ C.w.heap.size ≤ e.1) ∧ ∃ v res, e = .returned v ∧ res.p m' v ∧ R res H'
/-- a function with deferred calls -/
theorem PuH.introD {f : FuncId} {fn : Func} {c : Code} {args : List SV} {Hin : LH} {R : SV → LH → Prop} (hf : P.funcs[f]? = some fn) (hb : fn.body = some c) (hbod : bodied P f = true)
    (h : ∀ C : Ctx, (∀ pv H, ¬ C.pan pv H) → C.dfs = [] → WPT P C fn.ntmps c (bodyPostD P fn (dRes C R)) (ini args) Hin) : PuH P f args Hin R noX := by
  unfold PuH
  refine ⟨hbod, fun m w vs hm hH ha => ?_⟩
  refine Calls.mono (calls_of_wp_defers hf hb ?_) (R := dRes ⟨keys Hin, m, w, noX, []⟩ R) ?_
  · refine h ⟨keys Hin, m, w, noX, []⟩ (fun _ _ h => h) rfl _ w ?_
    refine ⟨rfl, by simp only [Array.size_append, Array.size_replicate]; omega, m, hm, hH, Rel.refl _ _ _, fun e he => .inl (mem_keys he), fun t => ?_⟩
    have := ini_ok (us := List.replicate (fn.ntmps - vs.toArray.size) undef) ha t
    rw [show vs.toArray ++ Array.replicate (fn.ntmps - vs.toArray.size) undef = (vs ++ List.replicate (fn.ntmps - vs.toArray.size) undef).toArray from by simp]
    exact this
  · rintro e w' ⟨m', H', a1, a2, a3, a4, v, res, a5, a6, a7⟩
    exact ⟨m', H', a1, a2, a3, a4, .inl ⟨v, res, a5, a6, a7⟩⟩
/-- at the end of a walk without a panic: the deferred call finds nothing -/
theorem dfin {fn : Func} {C1 C : Ctx} {g : FuncId} {cv : Array Value} {R : SV → LH → Prop} (hC : ∃ X, C1 = { C with pan := X, dfs := [⟨.fn (.func g) cv, #[]⟩] }) (hb : bodied P g = true) (hpan : ∀ pv H, ¬ C1.pan pv H)
    (hidle : ∀ w, CallsD P g cv .returning w fun e u' w' => (∃ v, e = .returned v) ∧ u' = .returning ∧ w' = w) : ∀ e a w, liftQ C1 n (endH P fn.results R) e a w → bodyPostD P fn (dRes C R) e a w := by
  obtain ⟨X, rfl⟩ := hC
  rintro e a w (⟨F', H', ⟨hdef, _, m', hm', hH', hr', h4', hp'⟩, hq⟩ | ⟨ch, rfl, _, m', v, pv, H', _, _, _, _, _, _, hx⟩)
  · have fin : (∃ res H2, Ends P fn.results.toList res F' H' ∧ H2.Sublist H' ∧ R res H2) → Leaves P fn a.tmps (dRes C R) a.defers .returning w := by
      rintro ⟨res, H2, he, hsub, hR⟩
      obtain ⟨v, hv, hpv⟩ := run_end rfl he hm' hH' hp'
      rw [hdef]
      refine leaves_cons (f := g) (args := cv) (by simp) (by simp only [invoke, run_callFunc hb, Array.empty_append]) ?_
      refine (hidle w).mono ?_
      rintro e u' w' ⟨⟨v0, rfl⟩, rfl, rfl⟩
      exact ⟨v, hv, m', H2, hm', hH'.sub' hsub, hr', fun e he => h4' e (hsub.subset he), v, res, rfl, hpv, hR⟩
    unfold endH at hq
    cases e with
    | normal => exact fin hq
    | ret => exact fin hq
    | exit id => exact hq.elim
    | goto l => exact hq.elim
    | panic ch => exact hq.elim
    | outgrown => exact hq.elim
  · exact absurd hx (hpan _ _)
/-- .. with a panic that the deferred call recovers -/
theorem dpan {fn : Func} {C : Ctx} {g : FuncId} {cv : Array Value} {R : SV → LH → Prop} {a : Act} {w : World} {v : Value} (hb : bodied P g = true) (hdef : a.defers = [⟨.fn (.func g) cv, #[]⟩])
    (h : CallsD P g cv (.panicking [{ v := v, recovered := false }]) w fun e u' w' => (∃ v', e = .returned v') ∧ u' = .panicking [{ v := v, recovered := true }] ∧ ∃ v2, (results fn a.tmps).run P w' = .ok v2 w' ∧ dRes C R (.returned v2) w') :
    bodyPostD P fn (dRes C R) (.panic [{ v := v, recovered := false }]) a w := by
  show Leaves P fn a.tmps (dRes C R) a.defers _ w
  rw [hdef]
  refine leaves_cons (f := g) (args := cv) (by simp) (by simp only [invoke, run_callFunc hb, Array.empty_append]) ?_
  refine h.mono ?_
  rintro e u' w' ⟨⟨v0, rfl⟩, rfl, v2, h1, h2⟩
  exact ⟨v2, h1, h2⟩
theorem fm_ok {m : Mem} {tmps : Array Value} : ∀ (l : List (Nat × SV)), (∀ e ∈ l, e.2.p m (tmps.getD e.1 undef)) → ∀ t, (fm l t).p m (tmps.getD t undef)
  | [], _, t => by show (Ab.top).p m _; unfold Ab.top; trivial
  | (d, s) :: r, h, t => by
    show (upd (fm r) d s t).p m _
    by_cases ht : t = d
    · subst ht; rw [upd_eq]; exact h (t, s) (by simp)
    · rw [upd_ne ht]; exact fm_ok r (fun e he => h e (by simp [he])) t
theorem wpS_eng {c : Code} {Q : Exit → Fr → LH → Prop} {Q' : Exit → Act → List Frame → World → Prop} {a : Act} {w : World} {cs : List Frame} (h : WP P C n c Q F H) (hst : St C n F H a w) (k : ∀ e a' w', liftQ C n Q e a' w' → Q' e a' cs w') : c.wpS P Q' a cs w :=
  wpS_of_wp (wp_mono (by unfold WP at h; exact h a w hst) k)
end
/-- entered as a deferred call of a frame that returns: recover finds nothing -/
theorem catch_idle (p q : Addr) (w : World) : CallsD Tryz.prog 102 #[.pointer (some p), .pointer (some q)] .returning w fun e u' w' => (∃ v, e = .returned v) ∧ u' = .returning ∧ w' = w := by
  refine callsD_of_wpS Tryz.func102 rfl fun c₀ cs hu => ?_
  apply wpS_seq
  apply wpS_region
  simp [wpOpsS, go_sem, recoverD, hu, Exit.thenS]
  apply wpS_seq
  apply wpS_region
  simp [wpOpsS, go_sem, Exit.thenS]
  refine wpS_cond (t := false) (by simp [Act.eval, Array.replicate]) ?_
  simp only [Bool.false_eq_true, if_false]
  refine wpS_of_wp (wp_skip ?_)
  cases c₀
  simp_all [bodyPostS, results, Exit.thenS]
theorem ov_assertInv {F : Fr} {H : LH} {ty : TypeId} {x : Operand} (hx : ev F x = inval) : OpV Tryz.prog (.typeAssert x 20 183 true) ty F H (Ab.tup [ag [], lit (.bool true)]) :=
  OpV.pure fun m w o a ho _ _ _ h => by
    have h0 := h x (by simp [Op.operands]); rw [hx, lit_p] at h0
    have hrun : (Instr.typeAssert (.iface 183 (.agg #[])) 20 183 true).run Tryz.prog w = .ok (.tuple #[.agg #[], .bool true]) w := by kernel_rfl
    refine ⟨.tuple #[.agg #[], .bool true], by simp [execOp, ho, h0, hrun], ?_⟩
    unfold Ab.tup
    exact ⟨_, rfl, by unfold ag; exact ⟨#[], rfl, trivial⟩, lit_p.2 rfl, trivial⟩
/-- entered as a deferred call of a frame that panics with the writer's own panic: it is recovered, the results are stored -/
theorem catch_rec [Sent 0] {b2 b3 : Nat} {w : World} {m : Mem} {s0 e0 : SV} {v : Value} (hm : MemIn m w) (hv : inval.p m v) (hH : HOk m w [(b3, 38, [e0]), (b2, 9, [s0])]) :
    CallsD Tryz.prog 102 #[.pointer (some ⟨b2, 0, none⟩), .pointer (some ⟨b3, 0, none⟩)] (.panicking [{ v := v, recovered := false }]) w fun e u' w' => (∃ v', e = .returned v') ∧ u' = .panicking [{ v := v, recovered := true }] ∧
      ∃ m', MemIn m' w' ∧ HOk m' w' [(b3, 38, [lit (sent 0)]), (b2, 9, [str []])] ∧ Rel [b3, b2] m w m' w' := by
  have hv' := lit_p.1 hv
  subst hv'
  refine callsD_of_wpS Tryz.func102 rfl fun c₀ cs hu => ?_
  apply wpS_seq
  apply wpS_region
  simp [wpOpsS, go_sem, recoverD, hu, Exit.thenS]
  refine wpS_eng (C := ⟨[b3, b2], m, w, noX, []⟩) (n := 17) (F := fm [(0, lit (.pointer (some ⟨b2, 0, none⟩))), (1, lit (.pointer (some ⟨b3, 0, none⟩))), (2, inval)]) (H := [(b3, 38, [e0]), (b2, 9, [s0])])
    (Q := fun e _ H' => e = .normal ∧ [(b3, 38, [lit (sent 0)]), (b2, 9, [str []])].Sublist H') ?_ ⟨rfl, by simp, m, hm, hH, Rel.refl _ _ _, fun e he => .inl (by simp at he ⊢; rcases he with rfl | rfl <;> simp), fm_ok _ ?_⟩ ?_
  · repeat (refine A1 ⟨?_⟩; intros)
    refine Wo (ov_assertInv rfl) ?_
    repeat (refine A1 ⟨?_⟩; intros)
    exact ⟨rfl, by repeat (first | exact List.Sublist.refl _ | refine List.Sublist.cons _ ?_)⟩
  · intro e he
    simp only [List.mem_cons, List.not_mem_nil, or_false] at he
    rcases he with rfl | rfl | rfl
    · rw [lit_p]; simp
    · rw [lit_p]; simp
    · rw [lit_p]; simp
  · rintro e a' w' (⟨F', H', ⟨hdef, _, m', hm', hH', hr', h4', hp'⟩, rfl, hsub⟩ | ⟨ch, rfl, _, _, _, _, _, _, _, _, _, _, _, hx⟩)
    · refine ⟨hdef, _, rfl, .tuple #[], ?_, ⟨_, rfl⟩, rfl, m', hm', hH'.sub' hsub, hr'⟩
      simp [results]
    · exact hx.elim
/-- write with a closure that writes t, or panics -/
theorem write_pu [Sent 0] {b : Nat} {T : TypeId} {cs : List SV} {g : FuncId} {good : Bool} {t : List UInt8} (hne : good = true → t ≠ []) (hlen : t.length ≤ 65536)
    (hc : ∀ w, PuH Tryz.prog g [lit (.pointer (some ⟨w, 0, none⟩)), lit (.pointer (some ⟨b, 0, none⟩))] [(b, T, cs), (w, 190, wrC fresh (lit (.slice none 0 0)) 0 false)] (fun r H' => good = true ∧ r = Ab.tup [] ∧ Wtr w t 0 H') (fun pv _ => good = false ∧ pv = inval)) :
    PuH Tryz.prog 71 [fnv g [] [lit (.pointer (some ⟨b, 0, none⟩))]] [(b, T, cs)] (fun r _ => r = (if good = true then Ab.tup [str t, lit .nilIface] else Ab.tup [str [], lit (sent 0)])) noX := by
  refine PuH.introD Tryz.func71 rfl (by kernel_rfl) fun C hC0 hC1 => ?_
  refine WPT.seq hC0 ?_
  repeat (refine A1 ⟨?_⟩; intros)
  rename_i b2 b3
  refine onN.i ?_
  refine WPT.defer (cv := [.pointer (some ⟨b2, 0, none⟩), .pointer (some ⟨b3, 0, none⟩)]) (X1 := noX) rfl rfl fun C1 hC => ?_
  rw [hC1] at hC
  have hC2 : ∀ pv H, ¬ C1.pan pv H := fun pv H h => by rw [hC] at h; exact h
  refine WPT.seq hC2 ?_
  repeat (refine A1 ⟨?_⟩; intros)
  rename_i w
  refine onN.i ?_
  refine WPT.reg ?_
  refine WTL.val (op := .move _) Ov0 ?_ rfl
  refine WTL.val (op := .move _) Ov0 ?_ rfl
  refine WTL.call (s := fnv g [] [lit (.pointer (some ⟨b, 0, none⟩))]) (l := [.tmp 9]) rfl (hc w) (Tk.perm (Tk.cons (HDel.there _ (HDel.there _ (HDel.there _ (HDel.here _)))) (Tk.cons (HDel.here _) (Tk.nil _)))) rfl rfl ?_ ?_
  · rintro _ H' ⟨hg, rfl, a, s, Hb, ha, hb, rfl⟩
    refine WTL.nil ?_
    refine WPT.fin (Q := endH Tryz.prog Tryz.f71.results fun r _ => r = (if good = true then Ab.tup [str t, lit .nilIface] else Ab.tup [str [], lit (sent 0)])) ?_ (dfin ⟨_, hC⟩ (by kernel_rfl) hC2 fun w => catch_idle _ _ w)
    have hl0 := hne hg
    refine WP.perm List.perm_append_comm ?_
    simp only [List.cons_append, List.nil_append]
    repeat (refine A1 ⟨?_⟩; intros)
    refine WgE ?_
    refine WfH (len_pu ⟨a, s, Hb, ha, hb, rfl⟩) ?_
    rintro _ _ ⟨rfl, rfl⟩
    refine WPL.perm List.perm_append_comm ?_
    simp only [List.cons_append, List.nil_append]
    repeat (refine A1 ⟨?_⟩; intros)
    refine WfH (bstring_pu ⟨a, s, Hb, ha, hb, rfl⟩ hl0 (by omega)) ?_
    rintro _ H2 rfl
    refine WPL.perm List.perm_append_comm ?_
    simp only [List.cons_append, List.nil_append]
    repeat (refine A1 ⟨?_⟩; intros)
    exact endHR _ _ (end2 (RV.cell1 (b := b2) rfl (List.mem_cons_of_mem _ List.mem_cons_self) rfl) (RV.cell1 (b := b3) rfl List.mem_cons_self rfl) (Le.refl _)) (List.nil_sublist _) (by rw [if_pos hg])
  · subst hC
    rintro v pv H' m' a' w' ⟨hg, rfl⟩ hdef hm' hH' hrel hown hpv hF
    refine dpan (g := 102) (cv := #[.pointer (some ⟨b2, 0, none⟩), .pointer (some ⟨b3, 0, none⟩)]) (by kernel_rfl) hdef ?_
    have hsub : ∀ e ∈ [(b3, 38, [lit (sent 0)]), (b2, 9, [str []])], e.1 ∈ C.ks ∨ C.w.heap.size ≤ e.1 := fun e he => by
      simp only [List.mem_cons, List.not_mem_nil, or_false] at he
      rcases he with rfl | rfl
      · exact hown (b3, 38, [lit .nilIface]) (List.mem_append_right _ (List.mem_cons_self))
      · exact hown (b2, 9, [lit (.string ⟨#[]⟩)]) (List.mem_append_right _ (List.mem_cons_of_mem _ (List.mem_cons_self)))
    refine (catch_rec hm' hpv hH'.tail).mono ?_
    rintro e u' w2 ⟨he, hu, m2, g1, g2, g3⟩
    refine ⟨he, hu, ?_⟩
    obtain ⟨v2, hv2, hp2⟩ := run_end (fn := Tryz.f71) (tmps := a'.tmps) (P := Tryz.prog) rfl (end2 (RV.cell1 (b := b2) rfl (List.mem_cons_of_mem _ List.mem_cons_self) rfl) (RV.cell1 (b := b3) rfl List.mem_cons_self rfl) (Le.refl _)) g1 g2 fun x => SV.mono _ g3.le (hF x)
    refine ⟨v2, hv2, m2, _, g1, g2, hrel.trans g3 fun x hx hk => ?_, hsub, v2, _, rfl, hp2, by rw [hg]; rfl⟩
    have : x ∈ C.ks ∨ C.w.heap.size ≤ x := by
      simp only [keys, List.map_cons, List.map_nil, List.mem_cons, List.not_mem_nil, or_false] at hk
      rcases hk with rfl | rfl
      · exact hsub _ List.mem_cons_self
      · exact hsub _ (List.mem_cons_of_mem _ List.mem_cons_self)
    rcases this with h | h
    · exact h
    · exact absurd hx (Nat.not_lt.2 h)
end Go.Ab
/- Names, as the reference takes them. -/
namespace Go.Ab
open Go.Proofs
set_option linter.unusedSectionVars false
set_option linter.unusedVariables false
set_option linter.unusedSimpArgs false
variable [Base]
end Go.Ab
/- Numbers and points of the reference's printer. -/
namespace Go.Ab
open Go.Proofs
set_option linter.unusedSectionVars false
set_option linter.unusedVariables false
set_option linter.unusedSimpArgs false
variable [Base]
/-- a number's text, nothing where it is not in normal form -/
def numT (r : RQ) : List UInt8 := if nrmQ r = true then fmt r.v else []
theorem numT_t {r : RQ} (h : nrmQ r = true) : numT r = fmt r.v := by unfold numT; rw [if_pos h]
theorem numT_len {r : RQ} {L : Nat} (h : r.ok L) : (numT r).length ≤ 20 * L + 24 := by
  unfold numT
  split
  · have := fmt_len (ht_v h); omega
  · simp
end Go.Ab
/- Drawn regions, the general rule: each slot is written once; the operations that change a block stand in a row; all others may come in whatever order the edges leave. -/
namespace Go.Ab
open Go.Proofs
set_option linter.unusedSectionVars false
set_option linter.unusedVariables false
set_option linter.unusedSimpArgs false
variable [Base]
section
variable {P : Program} {C : Ctx} {n : Nat} {F F' F0 Fe : Fr} {H : LH} {ops : Array Oper} {Q : Exit → Fr → LH → Prop} {rs : List Nat} {Hc : LH} {E : Nat → LH}
def befB (ops : Array Oper) (k t : Nat) : Bool := (List.range k).any fun j => dstAt ops j == some t
def lisB (ops : Array Oper) (listed : Array Bool) (t : Nat) : Bool := (List.range ops.size).any fun j => listed.getD j false && dstAt ops j == some t
def mixF (B : Nat → Bool) (Fe F0 : Fr) : Fr := fun t => bif B t then Fe t else F0 t
def mixOk (ops : Array Oper) (rs : List Nat) : Bool :=
  ((List.range ops.size).all fun i => backAt ops i) &&
  ((List.range ops.size).all fun i => (List.range i).all fun j => (dstAt ops j).isNone || !(dstAt ops i == dstAt ops j)) &&
  ((List.range ops.size).all fun i => (List.range ops.size).all fun j => match dstAt ops j with
    | some d => !looksAtB ops i d || (bif Nat.blt j i then edgeT ops i j else (Nat.beq i j || edgeT ops j i))
    | none => true) &&
  ((List.range rs.length).all fun t => Nat.blt (rs.getD t 0) ops.size && (List.range t).all fun u => edgeT ops (rs.getD t 0) (rs.getD u 0) && Nat.blt (rs.getD u 0) (rs.getD t 0))
/-- the operations in the text's order -/
inductive Mx (P : Program) (C : Ctx) (n : Nat) (ops : Array Oper) (rs : List Nat) (Hc : LH) (E : Nat → LH) : Nat → Nat → List Oper → Fr → Fr → Prop
  | nil {i s : Nat} (F : Fr) : Mx P C n ops rs Hc E i s [] F F
  | free {i s d : Nat} {o : Oper} {sv : SV} {r : List Oper} {F F' : Fr} (hr : rs.contains i = false) (hd : o.dst = some d) (hdn : Nat.blt d n = true) (hds : DS P ops n Hc o F sv) (h : Mx P C n ops rs Hc E (i + 1) s r (upd F d sv) F') : Mx P C n ops rs Hc E i s (o :: r) F F'
  | row {i s : Nat} {o : Oper} {sv : SV} {r : List Oper} {F F' : Fr} (hr : rs[s]? = some i) (hts : TS P C n ops i o F (E s ++ Hc) sv (E (s + 1) ++ Hc)) (h : Mx P C n ops rs Hc E (i + 1) (s + 1) r (dstf o F sv) F') : Mx P C n ops rs Hc E i s (o :: r) F F'
/-- what is known of number k -/
def Vld (P : Program) (C : Ctx) (n : Nat) (ops : Array Oper) (rs : List Nat) (Hc : LH) (E : Nat → LH) (F0 Fe : Fr) (k : Nat) : Prop := ∃ o, ops[k]? = some o ∧ ∃ Fk : Fr, (∀ t, Fk t = mixF (befB ops k) Fe F0 t) ∧
  ((rs.contains k = false ∧ ∃ d, o.dst = some d ∧ Nat.blt d n = true ∧ DS P ops n Hc o Fk (Fe d)) ∨
   ∃ s sv, rs[s]? = some k ∧ (∀ d, o.dst = some d → sv = Fe d) ∧ TS P C n ops k o Fk (E s ++ Hc) sv (E (s + 1) ++ Hc))
theorem Mx.keep {i s : Nat} {l : List Oper} (h : Mx P C n ops rs Hc E i s l F F') : ∀ t, (∀ o ∈ l, o.dst ≠ some t) → F' t = F t := by
  induction h with
  | nil => intro t _; rfl
  | free _ hd _ _ _ ih =>
    intro t ht
    rw [ih t fun o ho => ht o (by simp [ho])]
    exact upd_ne fun e => ht _ List.mem_cons_self (by rw [hd, e])
  | @row i s o sv r F F' _ _ _ ih =>
    intro t ht
    rw [ih t fun o ho => ht o (by simp [ho])]
    unfold dstf
    cases hd : o.dst with
    | none => rfl
    | some d => exact upd_ne fun e => ht o (by simp) (by rw [hd, e])
theorem befB_succ (k t : Nat) : befB ops (k + 1) t = (befB ops k t || dstAt ops k == some t) := by
  unfold befB; rw [List.range_succ, List.any_append]; simp
theorem mixOk_spec (h : mixOk ops rs = true) : (∀ i, i < ops.size → backAt ops i = true) ∧ (∀ i j d, i < ops.size → j < i → dstAt ops j = some d → dstAt ops i ≠ some d) ∧
    (∀ i j d, i < ops.size → j < ops.size → dstAt ops j = some d → looksAtB ops i d = true → (j < i → edgeT ops i j = true) ∧ (i < j → edgeT ops j i = true)) ∧
    ∀ (t k : Nat), rs[t]? = some k → k < ops.size ∧ ∀ (u : Nat) (k' : Nat), u < t → rs[u]? = some k' → edgeT ops k k' = true ∧ k' < k := by
  simp only [mixOk, Bool.and_eq_true, List.all_eq_true, List.mem_range, Bool.or_eq_true, Nat.blt_eq] at h
  obtain ⟨⟨⟨h1, h2⟩, h3⟩, h4⟩ := h
  refine ⟨h1, fun i j d hi hj hd he => ?_, fun i j d hi hj hd hl => ?_, fun t k hk => ?_⟩
  · rcases h2 i hi j hj with h | h
    · rw [hd] at h; cases h
    · rw [hd, he] at h; simp at h
  · have := h3 i hi j hj
    rw [hd] at this
    simp only [hl, Bool.not_true, Bool.false_or] at this
    refine ⟨fun hji => ?_, fun hij => ?_⟩
    · rw [show Nat.blt j i = true from by simpa using hji] at this
      exact this
    · rw [show Nat.blt j i = false from by
        cases hb : Nat.blt j i with
        | false => rfl
        | true => have := Nat.blt_eq.mp hb; omega] at this
      simp only [cond_false, Bool.or_eq_true] at this
      rcases this with h | h
      · have := Nat.eq_of_beq_eq_true h; omega
      · exact h
  · have ht := (List.getElem?_eq_some_iff.1 hk).1
    have gk : rs.getD t 0 = k := by simp [List.getD, hk]
    obtain ⟨g1, g2⟩ := h4 t ht
    rw [gk] at g1 g2
    refine ⟨g1, fun u k' hu hk' => ?_⟩
    have gk' : rs.getD u 0 = k' := by simp [List.getD, hk']
    have := g2 u hu
    rw [gk'] at this
    exact this
theorem dstAt_of {i : Nat} {o : Oper} (h : ops[i]? = some o) : dstAt ops i = o.dst := by unfold dstAt; rw [h]
theorem Mx.vld (hchk : mixOk ops rs = true) {i s : Nat} {l : List Oper} (h : Mx P C n ops rs Hc E i s l F Fe) : l = ops.toList.drop i → (∀ t, F t = mixF (befB ops i) Fe F0 t) → ∀ k, i ≤ k → k < ops.size → Vld P C n ops rs Hc E F0 Fe k := by
  obtain ⟨_, hdis, _, _⟩ := mixOk_spec hchk
  induction h with
  | nil =>
    intro hl _ k hik hk
    have := congrArg List.length hl
    simp at this
    omega
  | @free i s d o sv r F F' hr hd hdn hds h ih =>
    intro hl hF k hik hk
    have ho : ops[i]? = some o := by
      have := congrArg (·[0]?) hl
      simpa using this.symm
    have hr' : r = ops.toList.drop (i + 1) := by
      have := congrArg List.tail hl
      simpa using this
    have hsv : F' d = sv := by
      rw [h.keep d fun o' ho' => ?_]
      · exact upd_eq
      · rw [hr'] at ho'
        obtain ⟨j, hj, rfl⟩ := List.mem_iff_getElem.1 ho'
        simp only [List.length_drop, Array.length_toList] at hj
        simp only [List.getElem_drop, Array.getElem_toList]
        have := hdis (i + 1 + j) i d (by omega) (by omega) (by rw [dstAt_of ho, hd])
        rwa [dstAt_of (o := ops[i + 1 + j]) (by simp)] at this
    rcases Nat.lt_or_ge i k with hlt | hge
    · refine ih hr' (fun t => ?_) k (by omega) hk
      unfold mixF
      rw [befB_succ, dstAt_of ho, hd]
      by_cases ht : t = d
      · subst ht; rw [upd_eq, hsv]; simp
      · rw [upd_ne ht, hF t]
        unfold mixF
        have : (some d == some t) = false := by simpa using fun e => ht e.symm
        rw [this, Bool.or_false]
    · obtain rfl : k = i := by omega
      exact ⟨o, ho, F, hF, .inl ⟨hr, d, hd, hdn, hsv ▸ hds⟩⟩
  | @row i s o sv r F F' hr hts h ih =>
    intro hl hF k hik hk
    have ho : ops[i]? = some o := by
      have := congrArg (·[0]?) hl
      simpa using this.symm
    have hr' : r = ops.toList.drop (i + 1) := by
      have := congrArg List.tail hl
      simpa using this
    have hsv : ∀ d, o.dst = some d → F' d = sv := fun d hd => by
      rw [h.keep d fun o' ho' => ?_]
      · unfold dstf; rw [hd]; exact upd_eq
      · rw [hr'] at ho'
        obtain ⟨j, hj, rfl⟩ := List.mem_iff_getElem.1 ho'
        simp only [List.length_drop, Array.length_toList] at hj
        simp only [List.getElem_drop, Array.getElem_toList]
        have := hdis (i + 1 + j) i d (by omega) (by omega) (by rw [dstAt_of ho, hd])
        rwa [dstAt_of (o := ops[i + 1 + j]) (by simp)] at this
    rcases Nat.lt_or_ge i k with hlt | hge
    · refine ih hr' (fun t => ?_) k (by omega) hk
      unfold mixF dstf
      rw [befB_succ, dstAt_of ho]
      cases hd : o.dst with
      | none =>
        simp only
        rw [hF t]
        unfold mixF
        simp
      | some d =>
        by_cases ht : t = d
        · subst ht; simp only [upd_eq]; rw [hsv _ hd]; simp
        · simp only [upd_ne ht]
          rw [hF t]
          unfold mixF
          have : (some d == some t) = false := by simpa using fun e => ht e.symm
          rw [this, Bool.or_false]
    · obtain rfl : k = i := by omega
      exact ⟨o, ho, F, hF, .inr ⟨s, sv, hr, fun d hd => (hsv d hd).symm, hts⟩⟩
theorem lisB_set {listed : Array Bool} {i t : Nat} {o : Oper} (hs : listed.size = ops.size) (ho : ops[i]? = some o) : lisB ops (listed.setIfInBounds i true) t = (lisB ops listed t || o.dst == some t) := by
  have hio := (Array.getElem?_eq_some_iff.1 ho).1
  have key : ∀ j, j < ops.size → ((listed.setIfInBounds i true).getD j false = (listed.getD j false || Nat.beq j i)) := fun j hj => by
    by_cases hji : i = j
    · subst hji; simp [hs, hio]
    · rw [getD_set_ne false hji]
      have : Nat.beq j i = false := by
        cases hb : Nat.beq j i with
        | false => rfl
        | true => exact absurd (Nat.eq_of_beq_eq_true hb).symm hji
      rw [this, Bool.or_false]
  rw [Bool.eq_iff_iff]
  unfold lisB
  simp only [List.any_eq_true, List.mem_range, Bool.and_eq_true, Bool.or_eq_true]
  constructor
  · rintro ⟨j, hj, h1, h2⟩
    rw [key j hj, Bool.or_eq_true] at h1
    rcases h1 with h1 | h1
    · exact .inl ⟨j, hj, h1, h2⟩
    · have := Nat.eq_of_beq_eq_true h1
      subst this
      rw [dstAt_of ho] at h2
      exact .inr h2
  · rintro (⟨j, hj, h1, h2⟩ | h2)
    · exact ⟨j, hj, by rw [key j hj, h1]; rfl, h2⟩
    · exact ⟨i, hio, by rw [key i hio, Nat.beq_refl]; simp, by rw [dstAt_of ho]; exact h2⟩
theorem edgeT_on {i j : Nat} {listed : Array Bool} (hcl : Closed ops listed) (hi : listed.getD i false = true) (he : edgeT ops i j = true) : listed.getD j false = true := by
  have on : ∀ (k S : Nat), (∀ j, S.testBit j = true → listed.getD j false = true) → ∀ j, (clos ops k S).testBit j = true → listed.getD j false = true := by
    intro k
    induction k with
    | zero => intro S hS j h; exact hS j h
    | succ k ih =>
      intro S hS j h
      unfold clos at h
      refine ih _ (fun j h => ?_) j h
      cases hb : S.testBit k with
      | false => rw [hb] at h; exact hS j h
      | true =>
        rw [hb] at h
        simp only [cond_true, Nat.testBit_or, Bool.or_eq_true] at h
        rcases h with h | h
        · exact hS j h
        · exact hcl k j (hS k hb) (dmask_edge h)
  exact on i _ (fun j h => hcl i j hi (dmask_edge h)) j he
theorem mixRun {Q' : Exit → Act → World → Prop} (hchk : mixOk ops rs = true) (hv : ∀ k, k < ops.size → Vld P C n ops rs Hc E F0 Fe k) (hF0 : ∀ t, befB ops ops.size t = false → Fe t = F0 t)
    (fin : ∀ a w, St C n Fe (E rs.length ++ Hc) a w → Q' .normal a w) :
    ∀ (fuel s : Nat) (listed : Array Bool) (a : Act) (w : World), s ≤ rs.length → (left ops ops.size listed).length ≤ fuel → listed.size = ops.size → Closed ops listed →
      (∀ (u : Nat) (k : Nat), rs[u]? = some k → (listed.getD k true = true ↔ u < s)) → St C n (mixF (lisB ops listed) Fe F0) (E s ++ Hc) a w → wpAny P .any ops Q' fuel listed a w := by
  obtain ⟨hback, hdis, hlook, hrow⟩ := mixOk_spec hchk
  have done : ∀ (s : Nat) (listed : Array Bool) (a : Act) (w : World), s ≤ rs.length → left ops ops.size listed = [] → listed.size = ops.size →
      (∀ (u : Nat) (k : Nat), rs[u]? = some k → (listed.getD k true = true ↔ u < s)) → St C n (mixF (lisB ops listed) Fe F0) (E s ++ Hc) a w → Q' .normal a w := by
    intro s listed a w hsr hnil hs hr hst
    have all : ∀ j, j < ops.size → listed.getD j true = true := fun j hj => by
      cases hb : listed.getD j true with
      | true => rfl
      | false =>
        have : (j, ops[j]) ∈ left ops ops.size listed := mem_left.2 ⟨hj, by simp, hb⟩
        rw [hnil] at this; cases this
    have hs' : s = rs.length := by
      rcases Nat.lt_or_ge s rs.length with h | h
      · exfalso
        have h1 : rs[s]? = some rs[s] := by simp [h]
        have h2 := (hrow s _ h1).1
        have := (hr s _ h1).1 (all _ h2)
        omega
      · omega
    subst hs'
    refine fin a w (hst.le fun t => Le.of_eq ?_)
    unfold mixF
    have hb : lisB ops listed t = befB ops ops.size t := by
      rw [Bool.eq_iff_iff]
      unfold lisB befB
      simp only [List.any_eq_true, List.mem_range, Bool.and_eq_true]
      constructor
      · rintro ⟨j, h1, _, h3⟩; exact ⟨j, h1, h3⟩
      · rintro ⟨j, h1, h3⟩
        refine ⟨j, h1, ?_, h3⟩
        have := all j h1
        have hsz : j < listed.size := by omega
        simp [hsz] at this ⊢; exact this
    rw [hb]
    cases h : befB ops ops.size t with
    | true => rfl
    | false => exact (hF0 t h).symm
  have noready : ∀ (listed : Array Bool), listed.size = ops.size → Region.ready .any ops listed = [] → left ops ops.size listed = [] := fun listed hs hr => by
    cases hl : left ops ops.size listed with
    | nil => rfl
    | cons x l' =>
      exfalso
      obtain ⟨i, o⟩ := x
      have hmem : (i, o) ∈ left ops ops.size listed := by rw [hl]; simp
      obtain ⟨h1, h2, h3⟩ := mem_left.1 hmem
      simp only at h1 h2 h3
      have hready : i ∈ Region.ready .any ops listed := by
        rw [mem_ready]
        refine ⟨h3, o, h2, fun e he hb => ?_⟩
        have hlt := back_spec (hback i h1) h2 e he hb
        cases hle : listed.getD e.on false with
        | true => rfl
        | false =>
          have hsz : e.on < listed.size := by omega
          have h4 : listed.getD e.on true = false := by simp [hsz] at hle ⊢; exact hle
          have hm2 : (e.on, ops[e.on]'(by omega)) ∈ left ops ops.size listed := mem_left.2 ⟨by simp only; omega, by simp, h4⟩
          have hsort := left_sorted (ops := ops) ops.size listed
          rw [hl] at hsort hm2
          rcases List.mem_cons.1 hm2 with h | h
          · simp only [Prod.mk.injEq] at h; omega
          · have := (List.pairwise_cons.1 hsort).1 _ h; simp at this; omega
      rw [hr] at hready; cases hready
  intro fuel
  induction fuel with
  | zero =>
    intro s listed a w hsr hfu hs hcl hr hst
    have hnil := List.eq_nil_of_length_eq_zero (Nat.le_zero.1 hfu)
    refine ⟨?_, done s listed a w hsr hnil hs hr hst⟩
    cases hrd : Region.ready .any ops listed with
    | nil => rfl
    | cons i l =>
      exfalso
      have hi : i ∈ Region.ready .any ops listed := by rw [hrd]; simp
      obtain ⟨hun, o, ho, _⟩ := mem_ready.1 hi
      have : (i, o) ∈ left ops ops.size listed := mem_left.2 ⟨(Array.getElem?_eq_some_iff.1 ho).1, ho, hun⟩
      rw [hnil] at this; cases this
  | succ fuel ih =>
    intro s listed a w hsr hfu hs hcl hr hst
    refine ⟨fun hrd => done s listed a w hsr (noready listed hs hrd) hs hr hst, fun i hi => ?_⟩
    obtain ⟨hun, o, ho, _⟩ := mem_ready.1 hi
    have hio := (Array.getElem?_eq_some_iff.1 ho).1
    have hmem : (i, o) ∈ left ops ops.size listed := mem_left.2 ⟨hio, ho, hun⟩
    obtain ⟨l1, l2, hl12⟩ := List.append_of_mem hmem
    have hset := left_set hs hio hl12
    have hlen : (l1 ++ l2).length + 1 = (left ops ops.size listed).length := by rw [hl12]; simp; omega
    obtain ⟨o', ho', Fk, hFk, hcase⟩ := hv i hio
    rw [ho] at ho'
    obtain rfl := Option.some.inj ho'
    have hlooks : ∀ t ∈ o.looksAt ops, Fk t = mixF (lisB ops listed) Fe F0 t := fun t ht => by
      rw [hFk t]
      unfold mixF
      have hlk : looksAtB ops i t = true := by unfold looksAtB; rw [ho]; simpa using ht
      have : befB ops i t = lisB ops listed t := by
        rw [Bool.eq_iff_iff]
        unfold lisB befB
        simp only [List.any_eq_true, List.mem_range, Bool.and_eq_true]
        constructor
        · rintro ⟨j, h1, h2⟩
          have h2' : dstAt ops j = some t := by simpa using h2
          exact ⟨j, by omega, edgeT_listed hcl hi ((hlook i j t hio (by omega) h2' hlk).1 h1), h2⟩
        · rintro ⟨j, h1, h2, h3⟩
          have h3' : dstAt ops j = some t := by simpa using h3
          refine ⟨j, ?_, h3⟩
          rcases Nat.lt_trichotomy j i with h | h | h
          · exact h
          · exfalso; subst h; rw [listed_false hs h1 h2] at hun; cases hun
          · exfalso
            have he := (hlook i j t hio h1 h3' hlk).2 h
            have := listed_false hs hio (edgeT_on hcl h2 he)
            rw [this] at hun; cases hun
      rw [this]
    have hmix : ∀ d, o.dst = some d → upd (mixF (lisB ops listed) Fe F0) d (Fe d) = mixF (lisB ops (listed.setIfInBounds i true)) Fe F0 := fun d hd => by
      funext t
      unfold mixF
      rw [lisB_set hs ho, hd]
      by_cases ht : t = d
      · subst ht; rw [upd_eq]; simp
      · rw [upd_ne ht]
        have : (some d == some t) = false := by simpa using fun e => ht e.symm
        rw [this, Bool.or_false]
    have hmix0 : o.dst = none → mixF (lisB ops listed) Fe F0 = mixF (lisB ops (listed.setIfInBounds i true)) Fe F0 := fun hd => by
      funext t
      unfold mixF
      rw [lisB_set hs ho, hd]
      simp
    rcases hcase with ⟨hnr, d, hd, hdn, hds⟩ | ⟨u, sv, hu, hsv, hts⟩
    · have hds' := hds.frame hlooks
      obtain ⟨hdef, hn, m, h1, h2, h3, h4, h5⟩ := hst
      refine hds'.wp ho hd hn h1 h2.tail h5 fun v m' w' hv' hm' hH' r => ?_
      refine ih s _ _ _ hsr (by rw [hset]; omega) (by simpa using hs) (hcl.step hi) (fun u k hk => ?_) ?_
      · have hki : i ≠ k := fun e => by
          have : rs.contains i = true := by rw [e]; exact List.contains_iff_mem.2 (List.mem_of_getElem? hk)
          rw [hnr] at this; cases this
        rw [getD_set_ne true hki]
        exact hr u k hk
      · rw [← hmix d hd]
        exact St.put (Nat.blt_eq.mp hdn) hdef hn h2 h3 h4 h5 hv' hm' (h2.beside hH' r) (r.mono fun b hb => by unfold keys at *; rw [List.map_append]; exact List.mem_append_right _ hb)
    · have hus : u = s := by
        rcases Nat.lt_trichotomy u s with h | h | h
        · exfalso
          have := (hr u i hu).2 h
          rw [hun] at this; cases this
        · exact h
        · exfalso
          have hul := (List.getElem?_eq_some_iff.1 hu).1
          have h1 : rs[s]? = some (rs[s]'(by omega)) := by simp
          have h2 := ((hrow u i hu).2 s _ h h1).1
          have h3 := listed_false hs (hrow s _ h1).1 (edgeT_listed hcl hi h2)
          have := (hr s _ h1).1 h3
          omega
      subst hus
      have hul := (List.getElem?_eq_some_iff.1 hu).1
      refine hts _ hlooks a w hst Q' _ fun a' w' hst' => ?_
      refine ih (u + 1) _ _ _ hul (by rw [hset]; omega) (by simpa using hs) (hcl.step hi) (fun x k hk => ?_) ?_
      · by_cases hki : i = k
        · subst hki
          have hx : x = u := by
            rcases Nat.lt_trichotomy x u with h | h | h
            · have := ((hrow u i hu).2 x _ h hk).2; omega
            · exact h
            · have := ((hrow x i hk).2 u _ h hu).2; omega
          subst hx
          simp [hs, hio]
        · rw [getD_set_ne true hki, hr x k hk]
          constructor
          · intro h; omega
          · intro h
            rcases Nat.lt_or_ge x u with h' | h'
            · exact h'
            · exfalso
              have : x = u := by omega
              subst this
              rw [hu] at hk
              exact hki (Option.some.inj hk)
      · unfold dstf at hst'
        cases hd : o.dst with
        | none => rw [hd] at hst'; rw [← hmix0 hd]; exact hst'
        | some d =>
          rw [hd] at hst'
          simp only at hst'
          rw [hsv d hd] at hst'
          rw [← hmix d hd]; exact hst'
attribute [local semireducible] WP WPL Dk PuH
/-- what is left of a region's operations, from number i and row s on -/
def Mk (P : Program) (C : Ctx) (n : Nat) (ops : Array Oper) (rs : List Nat) (Hc : LH) (E : Nat → LH) (i s : Nat) (l : List Oper) (K : Fr → Prop) (F : Fr) : Prop := ∃ Fe, Mx P C n ops rs Hc E i s l F Fe ∧ K Fe
/-- a region that draws its order: the operations rs stand in a row -/
theorem WdM {id : Nat} {l : List Oper} (rs : List Nat) (Hc : LH) (E : Nat → LH) (h : Mk P C n l.toArray rs Hc E 0 0 l (fun Fe => Q .normal Fe (E rs.length ++ Hc)) F) (h0 : E 0 ++ Hc = H := by exact rfl) (hm : P.follows .mixedOrders = true := by kernel_rfl) (hchk : mixOk l.toArray rs = true := by decide +kernel) :
    WP P C n (.region id l.toArray true) Q F H := by
  obtain ⟨Fe, hx, hQ⟩ := h
  intro a w hs
  subst h0
  refine wp_region_any hm ?_
  refine mixRun (C := C) (n := n) (F0 := F) (Fe := Fe) (rs := rs) (Hc := Hc) (E := E) hchk (fun k hk => hx.vld hchk (by simp) (fun t => by simp [mixF, befB]) k (Nat.zero_le _) hk) (fun t ht => hx.keep t fun o ho e => ?_) (fun a' w' hst => .mk hst hQ) l.toArray.size 0 _ a _ (Nat.zero_le _) ?_ (by simp) (fun m j hm => by by_cases hlt : m < l.length <;> simp [hlt] at hm) (fun u k hk => ?_) ?_
  · obtain ⟨j, hj, rfl⟩ := List.mem_iff_getElem.1 ho
    have : befB l.toArray l.toArray.size t = true := by
      unfold befB
      rw [List.any_eq_true]
      exact ⟨j, by simpa using hj, by rw [dstAt_of (o := l[j]) (by simp [hj]), e]; simp⟩
    rw [ht] at this; cases this
  · unfold left
    refine Nat.le_trans (List.length_filter_le _ _) ?_
    simp
  · have hkl := ((mixOk_spec hchk).2.2.2 u k hk).1
    have hkl' : k < l.length := by simpa using hkl
    simp [hkl']
  · obtain ⟨hdef, hn, m, h1, h2, h3, h4, h5⟩ := hs
    refine ⟨hdef, hn, m, ⟨h1.at', h1.base⟩, ⟨h2.1, h2.2⟩, ⟨h3.le, h3.old, h3.os, h3.tape, h3.output, h3.size, h3.block⟩, h4, fun t => ?_⟩
    have : lisB l.toArray (Array.replicate l.toArray.size false) t = false := by
      unfold lisB
      rw [List.any_eq_false]
      intro j hj
      have hj' : j < l.length := by simpa using hj
      simp [hj']
    unfold mixF
    rw [this]
    exact h5 t
section
variable {l : List Oper} {K : Fr → Prop} {i s : Nat}
theorem MkN (h : K F) : Mk P C n ops rs Hc E i s [] K F := ⟨F, .nil F, h⟩
def freeB (rs : List Nat) (i k : Nat) : Bool := (List.range k).all fun j => !rs.contains (i + j)
/-- the next k operations are free; with what is to be shown then -/
def mkD (P : Program) (C : Ctx) (n : Nat) (ops : Array Oper) (rs : List Nat) (Hc : LH) (E : Nat → LH) (i s : Nat) (l : List Oper) (K : Fr → Prop) : List NW → Fr → Prop := fun N F => N = [] ∧ Mk P C n ops rs Hc E i s l K F
theorem mkD0 (h : Mk P C n ops rs Hc E i s l K F) : mkD P C n ops rs Hc E i s l K [] F := ⟨rfl, h⟩
theorem Dr.mx {s : Nat} {Fe : Fr} : ∀ (k : Nat) (l : List Oper) (i : Nat) (F F' : Fr), freeB rs i k = true → k ≤ l.length → Dr P ops n Hc (preK i k l) [] F F' → Mx P C n ops rs Hc E (i + k) s (l.drop k) F' Fe → Mx P C n ops rs Hc E i s l F Fe
  | 0, l, i, F, F', _, _, h, hx => by
    cases h
    simpa using hx
  | k + 1, [], i, F, F', _, hk, _, _ => by simp at hk
  | k + 1, o :: l, i, F, F', hf, hk, h, hx => by
    have hfi : rs.contains i = false ∧ freeB rs (i + 1) k = true := by
      unfold freeB at hf ⊢
      simp only [List.all_eq_true, List.mem_range, Bool.not_eq_true'] at hf ⊢
      refine ⟨by simpa using hf 0 (by omega), fun j hj => ?_⟩
      have := hf (j + 1) (by omega)
      rwa [show i + (j + 1) = i + 1 + j from by omega] at this
    unfold preK at h
    cases h with
    | val hd hds hdn h =>
      exact .free hfi.1 hd hdn hds (Dr.mx k l (i + 1) _ _ hfi.2 (by simpa using hk) h (by rw [show i + 1 + k = i + (k + 1) from by omega]; simpa using hx))
theorem MkD (k : Nat) (h : Dk P ops n Hc (preK i k l) (mkD P C n ops rs Hc E (i + k) s (l.drop k) K) F) (hf : freeB rs i k = true := by exact rfl) (hk : Nat.ble k l.length = true := by exact rfl) : Mk P C n ops rs Hc E i s l K F := by
  obtain ⟨N, F', h1, rfl, Fe, hx, hK⟩ := h
  exact ⟨Fe, Dr.mx k l i F F' hf (Nat.le_of_ble_eq_true hk) h1 hx, hK⟩
/-- the next operation is the next one of the row -/
theorem MkR {o : Oper} {sv : SV} (hts : TS P C n ops i o F (E s ++ Hc) sv (E (s + 1) ++ Hc)) (h : Mk P C n ops rs Hc E (i + 1) (s + 1) l K (dstf o F sv)) (hr : rs[s]? = some i := by exact rfl) : Mk P C n ops rs Hc E i s (o :: l) K F := by
  obtain ⟨Fe, hx, hK⟩ := h
  exact ⟨Fe, .row hr hts hx, hK⟩
theorem wp_agree {o : Oper} {a : Act} {w : World} {K' : Act → World → Prop} {Q1 Q2 : Exit → Act → World → Prop} (h : o.wp P a w K' Q1) (hp : ∀ ch a w, Q1 (.panic ch) a w → Q2 (.panic ch) a w) (ho : ∀ a w, Q1 .outgrown a w → Q2 .outgrown a w) : o.wp P a w K' Q2 := by
  unfold Oper.wp at *
  generalize (execOp a.eval o).run P w = r at *
  unfold Oper.upon at *
  split at h
  · exact h
  · exact h
  · exact h
  · refine Calls.mono h ?_
    intro e w'' he
    cases e with
    | returned v => exact he
    | panicked ch => exact hp _ _ _ he
    | outgrown => obtain ⟨a0, w0, h0⟩ := he; exact ⟨a0, w0, ho _ _ h0⟩
  · exact h
  · exact hp _ _ _ h
  · exact h.elim
theorem TS.call {i d : Nat} {f : FuncId} {la : List Operand} {tys : Array TypeId} {ty : TypeId} {pos : String} {aft : Array Edge} {svs : List SV} {Hin Hout Rs : LH} {res : SV} (hc : PuH P f svs Hin (fun r H => r = res ∧ H = Hout) noX) (ha : la.map (ev F) = svs) (hd : Nat.blt d n = true) (ho : ops[i]? = some ⟨some d, .call ⟨.value (.func f), la.toArray, tys⟩, ty, pos, aft, none⟩) :
    TS P C n ops i ⟨some d, .call ⟨.value (.func f), la.toArray, tys⟩, ty, pos, aft, none⟩ F (Hin ++ Rs) res (Hout ++ Rs) := by
  intro F1 hF a w hst Q' K' hK
  have ha' : la.map (ev F1) = svs := by
    rw [← ha]
    refine List.map_congr_left fun x hx => ?_
    exact ev_looks (o := ⟨some d, .call ⟨.value (.func f), la.toArray, tys⟩, ty, pos, aft, none⟩) (x := x) (by simp [Op.operands, Call.operands, hx]) hF
  have h := WPL.callHG (P := P) (C := { C with pan := noX }) (n := n) (F := F1) (H := Hin ++ Rs) (ops := ops) (rest := []) (d := d) (x := .func f) (s := lit (.func (.func f) #[] #[])) (f := f) (first := []) (caps := []) (l := la) (tys := tys) (ty := ty) (pos := pos) (aft := aft) (g := none)
    (K := fun F' H' => F' = upd F1 d res ∧ H' = Hout ++ Rs) rfl hc (Spl.app _ _) (by rw [List.nil_append, List.append_nil]; exact ha') hd (fun _ _ _ => rfl)
    (fun r H' ⟨hr, hH'⟩ => WPL.nil ⟨by rw [hr], by rw [hH']⟩) (fun _ _ h => h.elim)
  have h' := h a w hst (fun e a' w' => match e with | .normal => K' a' w' | e => False) ⟨fun a' w' F' H' hst' hKK => ?_, fun ch a' w' hp => ?_⟩
  · unfold wpOp
    rw [ho]
    unfold wpList at h'
    simp only [Region.wanted, if_true] at h' ⊢
    left
    rcases h' with h' | ⟨_, a0, w0, h0⟩
    · exact wp_agree h' (fun _ _ _ h => h.elim) (fun _ _ h => h.elim)
    · exact h0.elim
  · obtain ⟨rfl, rfl⟩ := hKK
    exact hK a' w' hst'
  · obtain ⟨_, _, _, _, _, _, _, _, _, _, _, hx⟩ := hp
    exact hx.elim
end
end
end Go.Ab
/- The reference's printer: points. -/
namespace Go.Ab
open Go.Proofs
set_option linter.unusedSectionVars false
set_option linter.unusedVariables false
set_option linter.unusedSimpArgs false
variable [Base]
/-- a point's text, as the reference writes it -/
def rpT (a b : RQ) : List UInt8 := [40] ++ numT a ++ [44] ++ numT b ++ [41]
theorem rpT_good {a b : RQ} (h : (nrmQ a && nrmQ b) = true) : rpT a b = ptxt a b := by
  rw [Bool.and_eq_true] at h
  unfold rpT ptxt
  rw [numT_t h.1, numT_t h.2]
theorem rpT_len {a b : RQ} {L : Nat} (ha : a.ok L) (hb : b.ok L) : (rpT a b).length ≤ 40 * L + 60 := by
  have h1 := numT_len ha
  have h2 := numT_len hb
  unfold rpT
  simp only [List.length_append, List.length_cons, List.length_nil]
  omega
end Go.Ab
/- The reference's printer: brackets and the result. -/
namespace Go.Ab
open Go.Proofs
set_option linter.unusedSectionVars false
set_option linter.unusedVariables false
set_option linter.unusedSimpArgs false
variable [Base]
end Go.Ab
/- Parts of an expression: the reference's check of one part. -/
namespace Go.Ab
open Go.Proofs
set_option linter.unusedSectionVars false
set_option linter.unusedVariables false
set_option linter.unusedSimpArgs false
variable [Base]
end Go.Ab
/- Parts of an expression: the reference's check of one part. -/
namespace Go.Ab
open Go.Proofs
set_option linter.unusedSectionVars false
set_option linter.unusedVariables false
set_option linter.unusedSimpArgs false
variable [Base]
end Go.Ab
/- The reference's printer: parts. -/
namespace Go.Ab
open Go.Proofs
set_option linter.unusedSectionVars false
set_option linter.unusedVariables false
set_option linter.unusedSimpArgs false
variable [Base]
/-- the text of a tree, as the reference writes it -/
def Ex.rtxt : Ex → List UInt8
  | .leaf n => if n.k = 1 then n.nm else if n.k = 2 then [97, 108, 108] else if n.k = 3 then [110, 111, 110, 101] else [104, 97, 108, 102, 32] ++ rpT n.a n.b ++ [32] ++ rpT n.c n.e
  | .un _ x => [126] ++ par (decide (rk x.top < 3)) x.rtxt
  | .bi n l r => par (decide (rk l.top < rk n)) l.rtxt ++ sgn n.op ++ par (decide (rk r.top < rk n + 1)) r.rtxt
theorem Ex.size_pos : ∀ t : Ex, 1 ≤ t.size
  | .leaf _ => Nat.le_refl _
  | .un _ x => by simp only [Ex.size]; omega
  | .bi _ l r => by simp only [Ex.size]; omega
theorem Ex.rtxt_good : ∀ {t : Ex}, t.good = true → (∀ (ns : List Nd) (i : Nat), t.At ns i → t.rtxt = t.txt)
  | .leaf n, h, ns, i, hat => by
    obtain ⟨_, h1, h4⟩ := hat
    unfold Ex.rtxt Ex.txt
    unfold Ex.good at h
    by_cases k1 : n.k = 1
    · rw [if_pos k1, if_pos k1]
    rw [if_neg k1] at h ⊢
    rw [if_neg k1]
    by_cases k2 : n.k = 2
    · rw [if_pos k2, if_pos k2]
    rw [if_neg k2, if_neg k2]
    by_cases k3 : n.k = 3
    · rw [if_pos k3, if_pos k3]
    rw [if_neg k3, if_neg k3]
    rw [if_pos (by omega : n.k = 4)] at h
    rw [Bool.and_eq_true] at h
    rw [rpT_good h.1, rpT_good h.2]
    unfold ptxt2
    simp only [List.append_assoc, List.cons_append, List.nil_append]
  | .un n x, h, ns, i, hat => by
    obtain ⟨_, _, j, _, hx⟩ := hat
    unfold Ex.rtxt Ex.txt
    rw [Ex.rtxt_good (t := x) h ns j hx]
  | .bi n l r, h, ns, i, hat => by
    obtain ⟨_, _, _, j, k, _, _, hl, hr⟩ := hat
    have h' : (l.good && r.good) = true := h
    rw [Bool.and_eq_true] at h'
    unfold Ex.rtxt Ex.txt
    rw [Ex.rtxt_good h'.1 ns j hl, Ex.rtxt_good h'.2 ns k hr]
theorem Ex.rtxt_len {L : Nat} (hL : L ≤ 20) {ns : List Nd} (hok : ∀ n ∈ ns, n.ok L) : ∀ {t : Ex} {i : Nat}, t.At ns i → t.rtxt.length ≤ 2000 * t.size
  | .leaf n, i, hat => by
    have hm := hok n (List.mem_of_getElem? hat.1)
    have h1 := rpT_len hm.a hm.b
    have h2 := rpT_len hm.c hm.e
    have h3 := hm.nm
    simp only [Ex.rtxt, Ex.size]
    split
    · omega
    split
    · simp
    split
    · simp
    · simp only [List.length_append, List.length_cons, List.length_nil]; omega
  | .un n x, i, hat => by
    obtain ⟨_, _, j, _, hx⟩ := hat
    have h1 := Ex.rtxt_len hL hok hx
    have h2 := par_len (decide (rk x.top < 3)) x.rtxt
    simp only [Ex.rtxt, Ex.size, List.length_append, List.length_cons, List.length_nil]
    omega
  | .bi n l r, i, hat => by
    obtain ⟨_, _, _, j, k, _, _, hl, hr⟩ := hat
    have h1 := Ex.rtxt_len hL hok hl
    have h2 := Ex.rtxt_len hL hok hr
    have h3 := par_len (decide (rk l.top < rk n)) l.rtxt
    have h4 := par_len (decide (rk r.top < rk n + 1)) r.rtxt
    have h5 := sgn_len n.op
    simp only [Ex.rtxt, Ex.size, List.length_append]
    omega
end Go.Ab
