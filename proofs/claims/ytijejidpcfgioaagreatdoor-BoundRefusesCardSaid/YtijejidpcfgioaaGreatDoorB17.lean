/- Texts laid one behind the other: Def, RName, RNum. -/
import Derived.Test.YtijejidpcfgioaaGreatDoorB16
import Derived.Test.YtijejidpcfgioaaGreatDoorB13
import Derived.Defers
import Derived.Recover
import Derived.Test.YtijejidpcfgioaaGreatDoorB14
import Derived.Test.YtijejidpcfgioaaGreatDoorB04
/- Functions with a deferred closure: grammar.write. -/
namespace Go.Ab
open Go.Proofs
set_option linter.unusedSectionVars false
set_option linter.unusedVariables false
set_option linter.unusedSimpArgs false
variable [Base]
section
variable {P : Program} {C : Ctx} {n : Nat} {F : Fr} {H : LH} {Post : Exit → Act → World → Prop} {ops : Array Oper} {rest : List Oper}
/-- a walk to an end that is told in memory's own words -/
def WPT (P : Program) (C : Ctx) (n : Nat) (c : Code) (Post : Exit → Act → World → Prop) (F : Fr) (H : LH) : Prop := ∀ a w, St C n F H a w → c.wp P Post a w
def WTL (P : Program) (C : Ctx) (n : Nat) (ops : Array Oper) (l : List Oper) (Post : Exit → Act → World → Prop) (F : Fr) (H : LH) : Prop := ∀ a w, St C n F H a w → wpList P ops Post l a w
def onN (K : Fr → LH → Prop) : Exit → Fr → LH → Prop
  | .normal, F, H => K F H
  | _, _, _ => False
theorem onN.i {K : Fr → LH → Prop} (h : K F H) : onN K .normal F H := h
theorem WPT.seq {x y : Code} (hpan : ∀ pv H, ¬ C.pan pv H) (h : WP P C n x (onN fun F H => WPT P C n y Post F H) F H) : WPT P C n (.seq x y) Post F H := by
  intro a w hs
  unfold WP at h
  refine wp_seq (wp_mono (h a w hs) ?_)
  rintro e a' w' (⟨F', H', hs', hq⟩ | ⟨ch, rfl, _, m, v, pv, H', _, _, _, _, _, _, hx⟩)
  · cases e with
    | normal => exact hq a' w' hs'
    | _ => exact hq.elim
  · exact absurd hx (hpan _ _)
theorem WPT.fin {c : Code} {Q : Exit → Fr → LH → Prop} (h : WP P C n c Q F H) (k : ∀ e a w, liftQ C n Q e a w → Post e a w) : WPT P C n c Post F H := by
  unfold WP at h
  exact fun a w hs => wp_mono (h a w hs) k
theorem WPT.reg {id : Nat} {l : List Oper} {y : Code} (h : WTL P C n l.toArray l (Exit.then (y.wp P Post) Post) F H) : WPT P C n (.seq (.region id l.toArray false) y) Post F H :=
  fun a w hs => wp_seq (wp_region_lit (h a w hs))
theorem WTL.nil {y : Code} (h : WPT P C n y Post F H) : WTL P C n ops [] (Exit.then (y.wp P Post) Post) F H := fun a w hs => wpList_nil (h a w hs)
theorem WTL.val {d : Nat} {op : Op} {ty : TypeId} {pos : String} {aft : Array Edge} {sv : SV} (hop : OpV P op ty F H sv) (k : WTL P C n ops rest Post (upd F d sv) H) (hd : Nat.blt d n = true) : WTL P C n ops (⟨some d, op, ty, pos, aft, none⟩ :: rest) Post F H := by
  intro a w hs
  obtain ⟨hdef, hn, m, h1, h2, h3, h4, h5⟩ := hs
  refine wpList_plain rfl fun K' hK' => ?_
  unfold OpV at hop
  refine hop m w _ a rfl rfl h1 h2 (fun t _ => h5 t) K' Post fun v m' w' hv hm' hH' r => hK' _ _ ?_
  exact k _ _ (St.put (Nat.blt_eq.mp hd) hdef hn h2 h3 h4 h5 hv hm' hH' r)
theorem ArgsOk.lits {m : Mem} : ∀ {cv vs : List Value}, ArgsOk m (cv.map lit) vs → vs = cv
  | [], [], _ => rfl
  | _ :: _, _ :: _, h => by rw [lit_p.1 h.1, h.2.lits]
  | [], _ :: _, h => h.elim
  | _ :: _, [], h => h.elim
/-- a closure made and deferred -/
theorem WPT.defer {id d : Nat} {f : FuncId} {l2 : List Operand} {tys : Array TypeId} {ty ty2 : TypeId} {pos pos2 : String} {aft aft2 : Array Edge} {y : Code} {cv : List Value} {X1 : SV → LH → Prop} (hcap : l2.map (ev F) = cv.map lit) (hd : Nat.blt d n = true)
    (k : ∀ C1 : Ctx, C1 = { C with pan := X1, dfs := ⟨.fn (.func f) cv.toArray, #[]⟩ :: C.dfs } → WPT P C1 n y Post (upd F d (fnv f [] (cv.map lit))) H) :
    WPT P C n (.seq (.region id [⟨some d, .makeFunc (.func f) #[] l2.toArray, ty, pos, aft, none⟩, ⟨none, .defer ⟨.value (.tmp d), #[], tys⟩, ty2, pos2, aft2, none⟩].toArray false) y) Post F H := by
  intro a w hs
  refine wp_seq (wp_region_lit ?_)
  obtain ⟨hdef, hn, m, h1, h2, h3, h4, h5⟩ := hs
  refine wpList_plain rfl fun K1 hK1 => ?_
  have hop : OpV P (.makeFunc (.func f) ([] : List Operand).toArray l2.toArray) ty F H (fnv f [] (cv.map lit)) := ov_makeFunc rfl hcap
  unfold OpV at hop
  refine hop m w _ a rfl rfl h1 h2 (fun t _ => h5 t) K1 _ fun v m' w' hv hm' hH' r => hK1 _ _ ?_
  have hst := St.put (Nat.blt_eq.mp hd) hdef hn h2 h3 h4 h5 hv hm' hH' r
  unfold fnv at hv
  obtain ⟨x, yv, rfl, hx, hy⟩ := hv
  have hx' : x = #[] := by
    cases x with
    | mk l => cases l with
      | nil => rfl
      | cons _ _ => exact hx.elim
  have hy' := hy.lits
  have hyv : yv = cv.toArray := by rw [← hy']
  subst hx' hyv
  refine wpList_plain rfl fun K2 hK2 => ?_
  unfold Oper.wp
  have hev : (a.put (some d) (.func (.func f) #[] cv.toArray)).eval (.tmp d) = .func (.func f) #[] cv.toArray := by
    show (a.put (some d) _).tmps.getD d undef = _
    rw [getD_put (Nat.lt_of_lt_of_le (Nat.blt_eq.mp hd) hn), if_pos rfl]
  have hrun : (execOp (a.put (some d) (.func (.func f) #[] cv.toArray)).eval (⟨none, .defer ⟨.value (.tmp d), #[], tys⟩, ty2, pos2, aft2, none⟩ : Oper)).run P w' = .ok (.defer ⟨.fn (.func f) cv.toArray, #[]⟩) w' := by
    simp [execOp, resolve, hev, Deferred.ofValue]
  rw [hrun]
  refine hK2 _ _ (wpList_nil ?_)
  refine k _ rfl _ _ ?_
  obtain ⟨gdef, gn, gm, g1, g2, g3, g4, g5⟩ := hst
  exact ⟨by show _ :: _ = _ :: _; rw [gdef], gn, gm, g1, g2, g3, g4, g5⟩
/-- a call that may panic: at a panic the frame is known -/
theorem WTL.call {d : Nat} {x : Operand} {s : SV} {f : FuncId} {first caps : List SV} {l : List Operand} {tys : Array TypeId} {ty : TypeId} {pos : String} {aft : Array Edge} {svs : List SV} {Hin Rs : LH} {R X : SV → LH → Prop} (hx : ev F x = s) [hfv : FV s f first caps] (hc : PuH P f svs Hin R X)
    (hs : H.Perm (Hin ++ Rs)) (ha : first ++ l.map (ev F) ++ caps = svs) (hd : Nat.blt d n = true)
    (k : ∀ res H', R res H' → WTL P C n ops rest Post (upd F d res) (H' ++ Rs))
    (kx : ∀ v pv H' m' (a : Act) w', X pv H' → a.defers = C.dfs → MemIn m' w' → HOk m' w' (H' ++ Rs) → Rel C.ks C.m C.w m' w' → (∀ e ∈ H' ++ Rs, e.1 ∈ C.ks ∨ C.w.heap.size ≤ e.1) → pv.p m' v → (∀ t, (F t).p m' (a.tmps.getD t undef)) → Post (.panic [{ v := v, recovered := false }]) a w') :
    WTL P C n ops (⟨some d, .call ⟨.value x, l.toArray, tys⟩, ty, pos, aft, none⟩ :: rest) Post F H := by
  intro a w hst
  obtain ⟨hdef, hn, m, h1, h2, h3, h4, h5⟩ := hst
  have hp : ∀ x, (ev F x).p m (a.eval x) := fun x => by
    cases x with
    | tmp t => exact h5 t
    | const v => unfold ev lit; rfl
    | global g => unfold ev lit; rfl
    | func f => unfold ev lit; rfl
  have hargs := evs_ok (m := m) (a := a) l fun x _ => hp x
  have e0 := hp x; rw [hx] at e0
  obtain ⟨fa, ca, hv, hfa, hca⟩ := hfv.h _ _ e0
  have hall : ArgsOk m svs (fa.toList ++ l.map a.eval ++ ca.toList) := ha ▸ (hfa.append hargs).append hca
  have h2' := h2.perm hs
  have hHin : HOk m w Hin := ⟨by have := h2'.1; rw [List.map_append] at this; exact (List.nodup_append.1 this).1, fun e he => h2'.2 e (by simp [he])⟩
  unfold PuH at hc
  have hcall := hc.2 m w _ h1 hHin hall
  refine wpList_plain rfl fun K' hK' => ?_
  unfold Oper.wp
  rw [run_callV hc.1 hv]
  refine Calls.mono hcall ?_
  rintro _ w' ⟨m', H', hm', hH', hr, hnew, hres⟩
  have hnk : ∀ e ∈ Rs, e.1 ∉ keys Hin := fun e he hk => by
    obtain ⟨e', he', hke⟩ := List.mem_map.1 hk
    have := h2'.1
    rw [List.map_append] at this
    exact (List.nodup_append.1 this).2.2 _ (List.mem_map.2 ⟨e', he', rfl⟩) _ (List.mem_map.2 ⟨e, he, rfl⟩) hke
  have hRs : ∀ e ∈ Rs, m' e.1 = none ∧ CellsOk m' w' e.1 e.2.1 e.2.2 := fun e he => by
    obtain ⟨g1, g2⟩ := h2'.2 e (by simp [he])
    have hlt := g2.lt
    obtain ⟨arr, g3, g4⟩ := g2
    exact ⟨(hr.old _ hlt (hnk e he)).trans g1, arr, (hr.block _ hlt (hnk e he)).trans g3, g4.mono hr.le⟩
  have hHn : HOk m' w' (H' ++ Rs) := by
    refine ⟨?_, fun e he => ?_⟩
    · rw [List.map_append, List.nodup_append]
      refine ⟨hH'.1, by have := h2'.1; rw [List.map_append] at this; exact (List.nodup_append.1 this).2.1, fun x hx y hy hxy => ?_⟩
      obtain ⟨e1, he1, rfl⟩ := List.mem_map.1 hx
      obtain ⟨e2, he2, rfl⟩ := List.mem_map.1 hy
      rcases hnew e1 he1 with h | h
      · exact hnk e2 he2 (hxy ▸ h)
      · have := (h2'.2 e2 (by simp [he2])).2.lt
        omega
    · rcases List.mem_append.1 he with h | h
      · exact hH'.2 e h
      · exact hRs e h
  have hrel : Rel C.ks C.m C.w m' w' := h3.trans hr fun b hb hk => by
    obtain ⟨e', he', rfl⟩ := List.mem_map.1 hk
    rcases h4 e' (hs.mem_iff.2 (by simp [he'])) with h | h
    · exact h
    · exact absurd hb (Nat.not_lt.2 h)
  have hown : ∀ e ∈ H' ++ Rs, e.1 ∈ C.ks ∨ C.w.heap.size ≤ e.1 := fun e he => by
    rcases List.mem_append.1 he with h | h
    · rcases hnew e h with h | h
      · obtain ⟨e', he', hke⟩ := List.mem_map.1 h
        have := h4 e' (hs.mem_iff.2 (by simp [he']))
        rw [hke] at this; exact this
      · exact .inr (Nat.le_trans h3.size h)
    · exact h4 e (hs.mem_iff.2 (by simp [h]))
  rcases hres with ⟨v, res, rfl, hv', hR⟩ | ⟨v, pv, rfl, hv', hX⟩
  · refine hK' _ _ (k res H' hR _ _ ?_)
    refine ⟨hdef, by simpa [Act.put] using hn, m', hm', hHn, hrel, hown, fun t => ?_⟩
    rw [getD_put (Nat.lt_of_lt_of_le (Nat.blt_eq.mp hd) hn)]
    unfold Ab.upd
    by_cases ht : t = d
    · subst ht; rw [if_pos rfl, Nat.beq_refl]; exact hv'
    · rw [if_neg ht]
      have : Nat.beq t d = false := by
        cases hb : Nat.beq t d with
        | false => rfl
        | true => exact absurd (Nat.eq_of_beq_eq_true hb) ht
      rw [this]
      exact (F t).mono hr.le (h5 t)
  · exact kx v pv H' m' a w' hX hdef hm' hHn hrel hown hv' fun t => (F t).mono hr.le (h5 t)
/-- what a function with blocks leaves -/
def dRes (C : Ctx) (R : SV → LH → Prop) : Ending → World → Prop := fun e w' => ∃ m' H', MemIn m' w' ∧ HOk m' w' H' ∧ Rel C.ks C.m C.w m' w' ∧ (∀ e ∈ H', e.1 ∈ C.ks ∨ C.w.heap.size ≤ e.1) ∧ ∃ v res, e = .returned v ∧ res.p m' v ∧ R res H'
/-- a function with deferred calls -/
theorem PuH.introD {f : FuncId} {fn : Func} {c : Code} {args : List SV} {Hin : LH} {R : SV → LH → Prop} (hf : P.funcs[f]? = some fn) (hb : fn.body = some c) (hbod : bodied P f = true)
    (h : ∀ C : Ctx, (∀ pv H, ¬ C.pan pv H) → C.dfs = [] → WPT P C fn.ntmps c (bodyPostD P fn (dRes C R)) (ini args) Hin) : PuH P f args Hin R noX := by
  unfold PuH
  refine ⟨hbod, fun m w vs hm hH ha => ?_⟩
  refine Calls.mono (calls_of_wp_defers hf hb ?_) (R := dRes ⟨keys Hin, m, w, noX, []⟩ R) ?_
  · refine h ⟨keys Hin, m, w, noX, []⟩ (fun _ _ h => h) rfl _ w ?_
    refine ⟨rfl, by simp only [Array.size_append, Array.size_replicate]; omega, m, hm, hH, Rel.refl _ _ _, fun e he => .inl (mem_keys he), fun t => ?_⟩
    have := ini_ok (us := List.replicate (fn.ntmps - vs.toArray.size) undef) ha t
    rw [show vs.toArray ++ Array.replicate (fn.ntmps - vs.toArray.size) undef = (vs ++ List.replicate (fn.ntmps - vs.toArray.size) undef).toArray from by simp]
    exact this
  · rintro e w' ⟨m', H', a1, a2, a3, a4, v, res, a5, a6, a7⟩
    exact ⟨m', H', a1, a2, a3, a4, .inl ⟨v, res, a5, a6, a7⟩⟩
/-- at the end of a walk without a panic: the deferred call finds nothing -/
theorem dfin {fn : Func} {C1 C : Ctx} {g : FuncId} {cv : Array Value} {R : SV → LH → Prop} (hC : ∃ X, C1 = { C with pan := X, dfs := [⟨.fn (.func g) cv, #[]⟩] }) (hb : bodied P g = true) (hpan : ∀ pv H, ¬ C1.pan pv H)
    (hidle : ∀ w, CallsD P g cv .returning w fun e u' w' => (∃ v, e = .returned v) ∧ u' = .returning ∧ w' = w) : ∀ e a w, liftQ C1 n (endH P fn.results R) e a w → bodyPostD P fn (dRes C R) e a w := by
  obtain ⟨X, rfl⟩ := hC
  rintro e a w (⟨F', H', ⟨hdef, _, m', hm', hH', hr', h4', hp'⟩, hq⟩ | ⟨ch, rfl, _, m', v, pv, H', _, _, _, _, _, _, hx⟩)
  · have fin : (∃ res H2, Ends P fn.results.toList res F' H' ∧ H2.Sublist H' ∧ R res H2) → Leaves P fn a.tmps (dRes C R) a.defers .returning w := by
      rintro ⟨res, H2, he, hsub, hR⟩
      obtain ⟨v, hv, hpv⟩ := run_end rfl he hm' hH' hp'
      rw [hdef]
      refine leaves_cons (f := g) (args := cv) (by simp) (by simp only [invoke, run_callFunc hb, Array.empty_append]) ?_
      refine (hidle w).mono ?_
      rintro e u' w' ⟨⟨v0, rfl⟩, rfl, rfl⟩
      exact ⟨v, hv, m', H2, hm', hH'.sub' hsub, hr', fun e he => h4' e (hsub.subset he), v, res, rfl, hpv, hR⟩
    unfold endH at hq
    cases e with
    | normal => exact fin hq
    | ret => exact fin hq
    | exit id => exact hq.elim
    | goto l => exact hq.elim
    | panic ch => exact hq.elim
    | outgrown => exact hq.elim
  · exact absurd hx (hpan _ _)
/-- .. with a panic that the deferred call recovers -/
theorem dpan {fn : Func} {C : Ctx} {g : FuncId} {cv : Array Value} {R : SV → LH → Prop} {a : Act} {w : World} {v : Value} (hb : bodied P g = true) (hdef : a.defers = [⟨.fn (.func g) cv, #[]⟩])
    (h : CallsD P g cv (.panicking [{ v := v, recovered := false }]) w fun e u' w' => (∃ v', e = .returned v') ∧ u' = .panicking [{ v := v, recovered := true }] ∧ ∃ v2, (results fn a.tmps).run P w' = .ok v2 w' ∧ dRes C R (.returned v2) w') :
    bodyPostD P fn (dRes C R) (.panic [{ v := v, recovered := false }]) a w := by
  show Leaves P fn a.tmps (dRes C R) a.defers _ w
  rw [hdef]
  refine leaves_cons (f := g) (args := cv) (by simp) (by simp only [invoke, run_callFunc hb, Array.empty_append]) ?_
  refine h.mono ?_
  rintro e u' w' ⟨⟨v0, rfl⟩, rfl, v2, h1, h2⟩
  exact ⟨v2, h1, h2⟩
theorem fm_ok {m : Mem} {tmps : Array Value} : ∀ (l : List (Nat × SV)), (∀ e ∈ l, e.2.p m (tmps.getD e.1 undef)) → ∀ t, (fm l t).p m (tmps.getD t undef)
  | [], _, t => by show (Ab.top).p m _; unfold Ab.top; trivial
  | (d, s) :: r, h, t => by
    show (upd (fm r) d s t).p m _
    by_cases ht : t = d
    · subst ht; rw [upd_eq]; exact h (t, s) (by simp)
    · rw [upd_ne ht]; exact fm_ok r (fun e he => h e (by simp [he])) t
theorem wpS_eng {c : Code} {Q : Exit → Fr → LH → Prop} {Q' : Exit → Act → List Frame → World → Prop} {a : Act} {w : World} {cs : List Frame} (h : WP P C n c Q F H) (hst : St C n F H a w) (k : ∀ e a' w', liftQ C n Q e a' w' → Q' e a' cs w') : c.wpS P Q' a cs w :=
  wpS_of_wp (wp_mono (by unfold WP at h; exact h a w hst) k)
end
/-- entered as a deferred call of a frame that returns: recover finds nothing -/
theorem catch_idle (p q : Addr) (w : World) : CallsD Tryz.prog 102 #[.pointer (some p), .pointer (some q)] .returning w fun e u' w' => (∃ v, e = .returned v) ∧ u' = .returning ∧ w' = w := by
  refine callsD_of_wpS Tryz.func102 rfl fun c₀ cs hu => ?_
  apply wpS_seq
  apply wpS_region
  simp [wpOpsS, go_sem, recoverD, hu, Exit.thenS]
  apply wpS_seq
  apply wpS_region
  simp [wpOpsS, go_sem, Exit.thenS]
  refine wpS_cond (t := false) (by simp [Act.eval, Array.replicate]) ?_
  simp only [Bool.false_eq_true, if_false]
  refine wpS_of_wp (wp_skip ?_)
  cases c₀
  simp_all [bodyPostS, results, Exit.thenS]
theorem ov_assertInv {F : Fr} {H : LH} {ty : TypeId} {x : Operand} (hx : ev F x = inval) : OpV Tryz.prog (.typeAssert x 20 183 true) ty F H (Ab.tup [ag [], lit (.bool true)]) :=
  OpV.pure fun m w o a ho _ _ _ h => by
    have h0 := h x (by simp [Op.operands]); rw [hx, lit_p] at h0
    have hrun : (Instr.typeAssert (.iface 183 (.agg #[])) 20 183 true).run Tryz.prog w = .ok (.tuple #[.agg #[], .bool true]) w := by kernel_rfl
    refine ⟨.tuple #[.agg #[], .bool true], by simp [execOp, ho, h0, hrun], ?_⟩
    unfold Ab.tup
    exact ⟨_, rfl, by unfold ag; exact ⟨#[], rfl, trivial⟩, lit_p.2 rfl, trivial⟩
/-- entered as a deferred call of a frame that panics with the writer's own panic: it is recovered, the results are stored -/
theorem catch_rec [Sent 0] {b2 b3 : Nat} {w : World} {m : Mem} {s0 e0 : SV} {v : Value} (hm : MemIn m w) (hv : inval.p m v) (hH : HOk m w [(b3, 38, [e0]), (b2, 9, [s0])]) :
    CallsD Tryz.prog 102 #[.pointer (some ⟨b2, 0, none⟩), .pointer (some ⟨b3, 0, none⟩)] (.panicking [{ v := v, recovered := false }]) w fun e u' w' => (∃ v', e = .returned v') ∧ u' = .panicking [{ v := v, recovered := true }] ∧
      ∃ m', MemIn m' w' ∧ HOk m' w' [(b3, 38, [lit (sent 0)]), (b2, 9, [str []])] ∧ Rel [b3, b2] m w m' w' := by
  have hv' := lit_p.1 hv
  subst hv'
  refine callsD_of_wpS Tryz.func102 rfl fun c₀ cs hu => ?_
  apply wpS_seq
  apply wpS_region
  simp [wpOpsS, go_sem, recoverD, hu, Exit.thenS]
  refine wpS_eng (C := ⟨[b3, b2], m, w, noX, []⟩) (n := 17) (F := fm [(0, lit (.pointer (some ⟨b2, 0, none⟩))), (1, lit (.pointer (some ⟨b3, 0, none⟩))), (2, inval)]) (H := [(b3, 38, [e0]), (b2, 9, [s0])])
    (Q := fun e _ H' => e = .normal ∧ [(b3, 38, [lit (sent 0)]), (b2, 9, [str []])].Sublist H') ?_ ⟨rfl, by simp, m, hm, hH, Rel.refl _ _ _, fun e he => .inl (by simp at he ⊢; rcases he with rfl | rfl <;> simp), fm_ok _ ?_⟩ ?_
  · repeat (refine A1 ⟨?_⟩; intros)
    refine Wo (ov_assertInv rfl) ?_
    repeat (refine A1 ⟨?_⟩; intros)
    exact ⟨rfl, by repeat (first | exact List.Sublist.refl _ | refine List.Sublist.cons _ ?_)⟩
  · intro e he
    simp only [List.mem_cons, List.not_mem_nil, or_false] at he
    rcases he with rfl | rfl | rfl
    · rw [lit_p]; simp
    · rw [lit_p]; simp
    · rw [lit_p]; simp
  · rintro e a' w' (⟨F', H', ⟨hdef, _, m', hm', hH', hr', h4', hp'⟩, rfl, hsub⟩ | ⟨ch, rfl, _, _, _, _, _, _, _, _, _, _, _, hx⟩)
    · refine ⟨hdef, _, rfl, .tuple #[], ?_, ⟨_, rfl⟩, rfl, m', hm', hH'.sub' hsub, hr'⟩
      simp [results]
    · exact hx.elim
/-- write with a closure that writes t, or panics -/
theorem write_pu [Sent 0] {b : Nat} {T : TypeId} {cs : List SV} {g : FuncId} {good : Bool} {t : List UInt8} (hne : good = true → t ≠ []) (hlen : t.length ≤ 65536)
    (hc : ∀ w, PuH Tryz.prog g [lit (.pointer (some ⟨w, 0, none⟩)), lit (.pointer (some ⟨b, 0, none⟩))] [(b, T, cs), (w, 190, wrC fresh (lit (.slice none 0 0)) 0 false)] (fun r H' => good = true ∧ r = Ab.tup [] ∧ Wtr w t 0 H') (fun pv _ => good = false ∧ pv = inval)) :
    PuH Tryz.prog 71 [fnv g [] [lit (.pointer (some ⟨b, 0, none⟩))]] [(b, T, cs)] (fun r _ => r = (if good = true then Ab.tup [str t, lit .nilIface] else Ab.tup [str [], lit (sent 0)])) noX := by
  refine PuH.introD Tryz.func71 rfl (by kernel_rfl) fun C hC0 hC1 => ?_
  refine WPT.seq hC0 ?_
  repeat (refine A1 ⟨?_⟩; intros)
  rename_i b2 b3
  refine onN.i ?_
  refine WPT.defer (cv := [.pointer (some ⟨b2, 0, none⟩), .pointer (some ⟨b3, 0, none⟩)]) (X1 := noX) rfl rfl fun C1 hC => ?_
  rw [hC1] at hC
  have hC2 : ∀ pv H, ¬ C1.pan pv H := fun pv H h => by rw [hC] at h; exact h
  refine WPT.seq hC2 ?_
  repeat (refine A1 ⟨?_⟩; intros)
  rename_i w
  refine onN.i ?_
  refine WPT.reg ?_
  refine WTL.val (op := .move _) Ov0 ?_ rfl
  refine WTL.val (op := .move _) Ov0 ?_ rfl
  refine WTL.call (s := fnv g [] [lit (.pointer (some ⟨b, 0, none⟩))]) (l := [.tmp 9]) rfl (hc w) (Tk.perm (Tk.cons (HDel.there _ (HDel.there _ (HDel.there _ (HDel.here _)))) (Tk.cons (HDel.here _) (Tk.nil _)))) rfl rfl ?_ ?_
  · rintro _ H' ⟨hg, rfl, a, s, Hb, ha, hb, rfl⟩
    refine WTL.nil ?_
    refine WPT.fin (Q := endH Tryz.prog Tryz.f71.results fun r _ => r = (if good = true then Ab.tup [str t, lit .nilIface] else Ab.tup [str [], lit (sent 0)])) ?_ (dfin ⟨_, hC⟩ (by kernel_rfl) hC2 fun w => catch_idle _ _ w)
    have hl0 := hne hg
    refine WP.perm List.perm_append_comm ?_
    simp only [List.cons_append, List.nil_append]
    repeat (refine A1 ⟨?_⟩; intros)
    refine WgE ?_
    refine WfH (len_pu ⟨a, s, Hb, ha, hb, rfl⟩) ?_
    rintro _ _ ⟨rfl, rfl⟩
    refine WPL.perm List.perm_append_comm ?_
    simp only [List.cons_append, List.nil_append]
    repeat (refine A1 ⟨?_⟩; intros)
    refine WfH (bstring_pu ⟨a, s, Hb, ha, hb, rfl⟩ hl0 (by omega)) ?_
    rintro _ H2 rfl
    refine WPL.perm List.perm_append_comm ?_
    simp only [List.cons_append, List.nil_append]
    repeat (refine A1 ⟨?_⟩; intros)
    exact endHR _ _ (end2 (RV.cell1 (b := b2) rfl (List.mem_cons_of_mem _ List.mem_cons_self) rfl) (RV.cell1 (b := b3) rfl List.mem_cons_self rfl) (Le.refl _)) (List.nil_sublist _) (by rw [if_pos hg])
  · subst hC
    rintro v pv H' m' a' w' ⟨hg, rfl⟩ hdef hm' hH' hrel hown hpv hF
    refine dpan (g := 102) (cv := #[.pointer (some ⟨b2, 0, none⟩), .pointer (some ⟨b3, 0, none⟩)]) (by kernel_rfl) hdef ?_
    have hsub : ∀ e ∈ [(b3, 38, [lit (sent 0)]), (b2, 9, [str []])], e.1 ∈ C.ks ∨ C.w.heap.size ≤ e.1 := fun e he => by
      simp only [List.mem_cons, List.not_mem_nil, or_false] at he
      rcases he with rfl | rfl
      · exact hown (b3, 38, [lit .nilIface]) (List.mem_append_right _ (List.mem_cons_self))
      · exact hown (b2, 9, [lit (.string ⟨#[]⟩)]) (List.mem_append_right _ (List.mem_cons_of_mem _ (List.mem_cons_self)))
    refine (catch_rec hm' hpv hH'.tail).mono ?_
    rintro e u' w2 ⟨he, hu, m2, g1, g2, g3⟩
    refine ⟨he, hu, ?_⟩
    obtain ⟨v2, hv2, hp2⟩ := run_end (fn := Tryz.f71) (tmps := a'.tmps) (P := Tryz.prog) rfl (end2 (RV.cell1 (b := b2) rfl (List.mem_cons_of_mem _ List.mem_cons_self) rfl) (RV.cell1 (b := b3) rfl List.mem_cons_self rfl) (Le.refl _)) g1 g2 fun x => SV.mono _ g3.le (hF x)
    refine ⟨v2, hv2, m2, _, g1, g2, hrel.trans g3 fun x hx hk => ?_, hsub, v2, _, rfl, hp2, by rw [hg]; rfl⟩
    have : x ∈ C.ks ∨ C.w.heap.size ≤ x := by
      simp only [keys, List.map_cons, List.map_nil, List.mem_cons, List.not_mem_nil, or_false] at hk
      rcases hk with rfl | rfl
      · exact hsub _ List.mem_cons_self
      · exact hsub _ (List.mem_cons_of_mem _ List.mem_cons_self)
    rcases this with h | h
    · exact h
    · exact absurd hx (Nat.not_lt.2 h)
end Go.Ab
/- Names, as the reference takes them. -/
namespace Go.Ab
open Go.Proofs
set_option linter.unusedSectionVars false
set_option linter.unusedVariables false
set_option linter.unusedSimpArgs false
variable [Base]
/-- the reference's writer: bad, long -/
abbrev wC (bad lg : Bool) : List SV := [str [], lit (.bool bad), lit (.bool lg)]
def nmPre (s : List UInt8) : Bool := decide (1 ≤ s.length) && decide (s.length ≤ 24) && letterN (s.getD 0 0).toNat && !resv s
theorem nmOk_pre (s : List UInt8) : nmOk s = (nmPre s && (s.take s.length).all okB) := by unfold nmOk nmPre; rw [List.take_length]
theorem all_next {s : List UInt8} {p : UInt8 → Bool} {k : Nat} (hk : k < s.length) (q : Bool) : (q && (s.take (k + 1)).all p) = (q && (s.take k).all p && p (s.getD k 0)) := by
  rw [take_get hk, List.all_append, Bool.and_assoc]
  simp
theorem rname_pu (w : Nat) (s : List UInt8) (hs : s.length ≤ 1000) (bad lg : Bool) :
    PuH Tryz.prog 91 [lit (.pointer (some ⟨w, 0, none⟩)), str s] [(w, 89, wC bad lg)]
      (fun r H => r = str s ∧ H = [(w, 89, wC (bad || !nmOk s) lg)]) noX := by
  have hE := nmOk_pre s
  have c1 := rletter_pu (u8_lt (s.getD 0 0))
  have c2 := rreserved_pu s
  refine PuH.intro Tryz.func91 rfl (by kernel_rfl) fun C hC => ?_
  refine WP.seq' ?_
  refine WP.reg ?_
  (refine O1 ⟨?_⟩; intros)
  refine WPL.nil ?_
  refine thenN ?_
  refine WP.seq' ?_
  refine WP.via (fun F H => LeF F (fm [(0, lit (.pointer (some ⟨w, 0, none⟩))), (1, str s), (5, lit (.bool (nmPre s)))]) ∧ H = [(w, 89, wC bad lg)]) ?_ ?_
  · by_cases h1 : s = []
    · subst h1
      repeat (refine A1 ⟨?_⟩; intros)
      exact ⟨by (repeat (first | exact LeF.nil _ | refine LeF.cons (Le.refl _) ?_ | refine LeF.cons (Le.int (by omega)) ?_)), rfl⟩
    · have hl : 1 ≤ s.length := List.length_pos_iff.2 h1
      have e1 : nmPre s = (decide (s.length ≤ 24) && letterN (s.getD 0 0).toNat && !resv s) := by unfold nmPre; rw [decide_eq_true hl, Bool.true_and]
      rw [e1]
      by_cases h2 : s.length ≤ 24
      · rw [decide_eq_true h2, Bool.true_and]
        generalize letterN (s.getD 0 0).toNat = lt at *
        generalize resv s = rs at *
        clear hE e1
        cases lt with
        | false =>
          repeat (refine A1 ⟨?_⟩; intros)
          refine WgE ?_
          refine Wo (ov_sidx (i := 0) rfl rfl (by omega)) ?_
          repeat (first | (refine A1 ⟨?_⟩; intros) | (refine Wcx (c1) ?_) | (refine Wdcx (c1) ?_) | (refine Wcgx (c1) ?_) | (refine Wdcgx (c1) ?_) | (refine Wcx (c2) ?_) | (refine Wdcx (c2) ?_) | (refine Wcgx (c2) ?_) | (refine Wdcgx (c2) ?_))
          exact ⟨by (repeat (first | exact LeF.nil _ | refine LeF.cons (Le.refl _) ?_ | refine LeF.cons (Le.int (by omega)) ?_)), rfl⟩
        | true =>
          cases rs with
          | false =>
            repeat (refine A1 ⟨?_⟩; intros)
            refine WgE ?_
            refine Wo (ov_sidx (i := 0) rfl rfl (by omega)) ?_
            repeat (first | (refine A1 ⟨?_⟩; intros) | (refine Wcx (c1) ?_) | (refine Wdcx (c1) ?_) | (refine Wcgx (c1) ?_) | (refine Wdcgx (c1) ?_) | (refine Wcx (c2) ?_) | (refine Wdcx (c2) ?_) | (refine Wcgx (c2) ?_) | (refine Wdcgx (c2) ?_))
            exact ⟨by (repeat (first | exact LeF.nil _ | refine LeF.cons (Le.refl _) ?_ | refine LeF.cons (Le.int (by omega)) ?_)), rfl⟩
          | true =>
            repeat (refine A1 ⟨?_⟩; intros)
            refine WgE ?_
            refine Wo (ov_sidx (i := 0) rfl rfl (by omega)) ?_
            repeat (first | (refine A1 ⟨?_⟩; intros) | (refine Wcx (c1) ?_) | (refine Wdcx (c1) ?_) | (refine Wcgx (c1) ?_) | (refine Wdcgx (c1) ?_) | (refine Wcx (c2) ?_) | (refine Wdcx (c2) ?_) | (refine Wcgx (c2) ?_) | (refine Wdcgx (c2) ?_))
            exact ⟨by (repeat (first | exact LeF.nil _ | refine LeF.cons (Le.refl _) ?_ | refine LeF.cons (Le.int (by omega)) ?_)), rfl⟩
      · rw [decide_eq_false h2, Bool.false_and, Bool.false_and]
        clear hE e1
        repeat (refine A1 ⟨?_⟩; intros)
        exact ⟨by (repeat (first | exact LeF.nil _ | refine LeF.cons (Le.refl _) ?_ | refine LeF.cons (Le.int (by omega)) ?_)), rfl⟩
  · rintro F H ⟨hF, rfl⟩
    refine WP.le hF ?_
    clear hF c1 c2
    generalize nmPre s = pre at *
    repeat (refine A1 ⟨?_⟩; intros)
    refine WP.loopS (ι := Nat) (fun k => k ≤ s.length) (fun k => s.length - k) (fun k => fm [(0, lit (.pointer (some ⟨w, 0, none⟩))), (1, str s), (5, lit (.bool (pre && (s.take k).all okB))), (6, lit (.int .i64 k))]) (fun _ => [(w, 89, wC bad lg)]) 0
      (Nat.zero_le _) (by rw [List.take_zero, List.all_nil, Bool.and_true]; (repeat (first | exact LeF.nil _ | refine LeF.cons (Le.refl _) ?_ | refine LeF.cons (Le.int (by omega)) ?_))) (List.Sublist.refl _) ?_
    rintro k hk K hK
    by_cases hkl : k < s.length
    · have ck := rletter_pu (u8_lt (s.getD k 0))
      have hlt := u8_lt (s.getD k 0)
      have hok : okB (s.getD k 0) = (letterN (s.getD k 0).toNat || decide (48 ≤ (s.getD k 0).toNat ∧ (s.getD k 0).toNat ≤ 57)) := rfl
      have hnx := all_next (p := okB) hkl pre
      generalize letterN (s.getD k 0).toNat = lt at *
      generalize okB (s.getD k 0) = ok at *
      have hK' : ∀ F' H', LeF F' (fm [(0, lit (.pointer (some ⟨w, 0, none⟩))), (1, str s), (5, lit (.bool (pre && (s.take k).all okB && ok))), (6, lit (.int .i64 ((k + 1 : Nat) : Int)))]) → [(w, 89, wC bad lg)].Sublist H' → K F' H' := fun F' H' h1 h2 => hK F' H' (k + 1) (by omega) (by omega) (by rw [hnx]; exact h1) h2
      clear hK hnx hE
      generalize (pre && (s.take k).all okB) = q at *
      cases q with
      | false =>
        repeat (refine A1 ⟨?_⟩; intros)
        exact hK' _ _ (by (repeat (first | exact LeF.nil _ | refine LeF.cons (Le.refl _) ?_ | refine LeF.cons (Le.int (by omega)) ?_))) (List.Sublist.refl _)
      | true =>
        rw [Bool.true_and] at hK'
        subst hok
        cases lt with
        | true =>
          repeat (first | (refine A1 ⟨?_⟩; intros) | (refine Wcx (ck) ?_) | (refine Wdcx (ck) ?_) | (refine Wcgx (ck) ?_) | (refine Wdcgx (ck) ?_))
          exact hK' _ _ (by (repeat (first | exact LeF.nil _ | refine LeF.cons (Le.refl _) ?_ | refine LeF.cons (Le.int (by omega)) ?_))) (List.Sublist.refl _)
        | false =>
          rw [Bool.false_or] at hK'
          by_cases h3 : 48 ≤ (s.getD k 0).toNat
          · by_cases h4 : (s.getD k 0).toNat ≤ 57
            · rw [decide_eq_true ⟨h3, h4⟩] at hK'
              repeat (first | (refine A1 ⟨?_⟩; intros) | (refine Wcx (ck) ?_) | (refine Wdcx (ck) ?_) | (refine Wcgx (ck) ?_) | (refine Wdcgx (ck) ?_))
              exact hK' _ _ (by (repeat (first | exact LeF.nil _ | refine LeF.cons (Le.refl _) ?_ | refine LeF.cons (Le.int (by omega)) ?_))) (List.Sublist.refl _)
            · rw [decide_eq_false (fun h => h4 h.2)] at hK'
              repeat (first | (refine A1 ⟨?_⟩; intros) | (refine Wcx (ck) ?_) | (refine Wdcx (ck) ?_) | (refine Wcgx (ck) ?_) | (refine Wdcgx (ck) ?_))
              exact hK' _ _ (by (repeat (first | exact LeF.nil _ | refine LeF.cons (Le.refl _) ?_ | refine LeF.cons (Le.int (by omega)) ?_))) (List.Sublist.refl _)
          · rw [decide_eq_false (fun h => h3 h.1)] at hK'
            repeat (first | (refine A1 ⟨?_⟩; intros) | (refine Wcx (ck) ?_) | (refine Wdcx (ck) ?_) | (refine Wcgx (ck) ?_) | (refine Wdcgx (ck) ?_))
            exact hK' _ _ (by (repeat (first | exact LeF.nil _ | refine LeF.cons (Le.refl _) ?_ | refine LeF.cons (Le.int (by omega)) ?_))) (List.Sublist.refl _)
    · have hke : k = s.length := by omega
      subst hke
      rw [← hE]
      clear hE
      generalize nmOk s = ok
      cases bad <;> cases ok
      all_goals
        repeat (refine A1 ⟨?_⟩; intros)
        exact endHR _ _ (end1 (RV.tmp rfl) (Le.refl _)) (List.Sublist.refl _) ⟨rfl, rfl⟩
end Go.Ab
/- Numbers and points of the reference's printer. -/
namespace Go.Ab
open Go.Proofs
set_option linter.unusedSectionVars false
set_option linter.unusedVariables false
set_option linter.unusedSimpArgs false
variable [Base]
/-- a number's text, nothing where it is not in normal form -/
def numT (r : RQ) : List UInt8 := if nrmQ r = true then fmt r.v else []
theorem numT_t {r : RQ} (h : nrmQ r = true) : numT r = fmt r.v := by unfold numT; rw [if_pos h]
theorem numT_f {r : RQ} (h : nrmQ r = false) : numT r = [] := by unfold numT; rw [h]; rfl
theorem numT_len {r : RQ} {L : Nat} (h : r.ok L) : (numT r).length ≤ 20 * L + 24 := by
  unfold numT
  split
  · have := fmt_len (ht_v h); omega
  · simp
theorem rnumber_pu (w : Nat) (r : RQ) {L : Nat} (h : r.ok L) (hL : L ≤ 100) (bad lg : Bool) :
    PuH Tryz.prog 135 [lit (.pointer (some ⟨w, 0, none⟩)), qr r] [(w, 89, wC bad lg)]
      (fun r' H => r' = str (numT r) ∧ H = [(w, 89, wC (bad || !nrmQ r) lg)]) noX := by
  have c1 := rnormalQ_pu h (by omega)
  have hht := ht_v h
  cases hn : nrmQ r with
  | false =>
    rw [hn] at c1
    refine PuH.intro Tryz.func135 rfl (by kernel_rfl) fun C hC => ?_
    repeat (first | (refine A1 ⟨?_⟩; intros) | (refine Wcx (c1) ?_) | (refine Wdcx (c1) ?_) | (refine Wcgx (c1) ?_) | (refine Wdcgx (c1) ?_))
    exact endHR _ _ (end1 (RV.tmp (s := str []) rfl) (Le.refl _)) (List.sublist_cons_self _ _) ⟨by rw [numT_f hn], by rw [Bool.not_false, Bool.or_true]⟩
  | true =>
    rw [hn] at c1
    rw [numT_t hn]
    rw [nrmQ_q hn] at c1 ⊢
    have c2 := q_of r.v (by omega)
    have c3 := rtextP_pu r.v hht (by omega)
    have hf := fmt_len hht
    generalize hx : fmt r.v = s at *
    have hlen : ([40] ++ s ++ [44] ++ [48] ++ [41]).length = s.length + 4 := by simp
    generalize hS : [40] ++ s ++ [44] ++ [48] ++ [41] = S at *
    have hcut : (S.take (s.length + 1)).drop 1 = s := by rw [← hS]; simp
    generalize r.v = x at *
    refine PuH.intro Tryz.func135 rfl (by kernel_rfl) fun C hC => ?_
    repeat (first | (refine A1 ⟨?_⟩; intros) | (refine Wcx (c1) ?_) | (refine Wdcx (c1) ?_) | (refine Wcgx (c1) ?_) | (refine Wdcgx (c1) ?_) | (refine Wcx (c2) ?_) | (refine Wdcx (c2) ?_) | (refine Wcgx (c2) ?_) | (refine Wdcgx (c2) ?_) | (refine Wcx (c3) ?_) | (refine Wdcx (c3) ?_) | (refine Wcgx (c3) ?_) | (refine Wdcgx (c3) ?_))
    refine WP.loopS (ι := Nat × Nat) (fun y => y.1 ≤ S.length ∧ y.2 ≤ y.1) (fun y => S.length - y.1) (fun y => fm [(0, lit (.pointer (some ⟨w, 0, none⟩))), (5, str S), (6, lit (.int .i64 y.2)), (7, lit (.int .i64 y.1))]) (fun _ => [(w, 89, wC bad lg)]) (0, 0)
      ⟨Nat.zero_le _, Nat.le_refl _⟩ (by (repeat (first | exact LeF.nil _ | refine LeF.cons (Le.refl _) ?_ | refine LeF.cons (Le.int (by omega)) ?_))) (by repeat (first | exact List.Sublist.refl _ | refine List.Sublist.cons _ ?_)) ?_
    clear c1 c2 c3
    rintro ⟨k, m⟩ ⟨hk, hm⟩ K hK
    simp only at hk hm ⊢
    by_cases hkl : k < S.length
    · have hgo : ∀ F' H' m', m' ≤ k + 1 → LeF F' (fm [(0, lit (.pointer (some ⟨w, 0, none⟩))), (5, str S), (6, lit (.int .i64 (m' : Nat))), (7, lit (.int .i64 (k + 1 : Nat)))]) → [(w, 89, wC bad lg)].Sublist H' → K F' H' := fun F' H' m' h0 h1 h2 => hK F' H' (k + 1, m') ⟨by simp only; omega, h0⟩ (by simp only; omega) h1 h2
      clear hK hcut hn
      by_cases b1 : (S.getD k 0).toNat < 48
      · repeat (refine A1 ⟨?_⟩; intros)
        exact hgo _ _ 0 (by omega) (by (repeat (first | exact LeF.nil _ | refine LeF.cons (Le.refl _) ?_ | refine LeF.cons (Le.int (by omega)) ?_))) (List.Sublist.refl _)
      · by_cases b2 : 57 < (S.getD k 0).toNat
        · repeat (refine A1 ⟨?_⟩; intros)
          exact hgo _ _ 0 (by omega) (by (repeat (first | exact LeF.nil _ | refine LeF.cons (Le.refl _) ?_ | refine LeF.cons (Le.int (by omega)) ?_))) (List.Sublist.refl _)
        · repeat (refine A1 ⟨?_⟩; intros)
          exact hgo _ _ (m + 1) (by omega) (by (repeat (first | exact LeF.nil _ | refine LeF.cons (Le.refl _) ?_ | refine LeF.cons (Le.int (by omega)) ?_))) (List.Sublist.refl _)
    · clear hK
      repeat (refine A1 ⟨?_⟩; intros)
      refine Wo (ov_ssl (a := S) (i := 1) (j := s.length + 1) rfl (fun y hy => by cases hy; exact ⟨.i64, 1, rfl, rfl⟩) (fun h => by cases h) (fun y hy => by cases hy; exact ⟨.i64, (S.length : Int) - 3, rfl, by omega⟩) (fun h => by cases h) (by omega) (by omega)) ?_
      rw [hcut]
      repeat (refine A1 ⟨?_⟩; intros)
      exact endHR _ _ (end1 (RV.tmp rfl) (Le.refl _)) (List.Sublist.refl _) ⟨rfl, by rw [Bool.not_true, Bool.or_false]⟩
end Go.Ab
