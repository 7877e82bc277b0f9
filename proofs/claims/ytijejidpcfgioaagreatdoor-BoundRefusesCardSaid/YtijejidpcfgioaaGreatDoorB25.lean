/- Texts laid one behind the other: Read, BndA, PLaw, BndK. -/
import Derived.Test.YtijejidpcfgioaaGreatDoorB24
import Derived.Test.YtijejidpcfgioaaGreatDoorB17
import Derived.Test.YtijejidpcfgioaaGreatDoorB20
import Derived.Test.YtijejidpcfgioaaGreatDoorB21
import Derived.LaidEql
import Derived.Test.YtijejidpcfgioaaGreatDoorB13
/- grammar.read for expressions, with its deferred closure; ParseExpr. -/
namespace Go.Ab
open Go.Proofs
set_option linter.unusedSectionVars false
set_option linter.unusedVariables false
set_option linter.unusedSimpArgs false
variable [Base]
section
variable {P : Program} {C : Ctx} {n : Nat} {F : Fr} {H : LH} {Post : Exit → Act → World → Prop}
def onR (C : Ctx) (n : Nat) (Post : Exit → Act → World → Prop) (K : Fr → LH → Prop) : Exit → Fr → LH → Prop
  | .normal, F, H => K F H
  | .ret, F, H => ∀ a w, St C n F H a w → Post .ret a w
  | _, _, _ => False
theorem onR.i {K : Fr → LH → Prop} (h : K F H) : onR C n Post K .normal F H := h
theorem onR.r {K : Fr → LH → Prop} (h : ∀ a w, St C n F H a w → Post .ret a w) : onR C n Post K .ret F H := h
/-- as WPT.seq; the first part may return -/
theorem WPT.seqR {x y : Code} (hpan : ∀ pv H, ¬ C.pan pv H) (h : WP P C n x (onR C n Post fun F H => WPT P C n y Post F H) F H) : WPT P C n (.seq x y) Post F H := by
  intro a w hs
  unfold WP at h
  refine wp_seq (wp_mono (h a w hs) ?_)
  rintro e a' w' (⟨F', H', hs', hq⟩ | ⟨ch, rfl, _, m, v, pv, H', _, _, _, _, _, _, hx⟩)
  · cases e with
    | normal => exact hq a' w' hs'
    | ret => exact hq a' w' hs'
    | _ => exact hq.elim
  · exact absurd hx (hpan _ _)
theorem WPT.into {x z : Code} (h : WPT P C n x (Exit.then (z.wp P Post) Post) F H) : WPT P C n (.seq x z) Post F H := fun a w hs => wp_seq (h a w hs)
theorem WPT.region {id : Nat} {l : List Oper} (h : WTL P C n l.toArray l Post F H) : WPT P C n (.region id l.toArray false) Post F H := fun a w hs => wp_region_lit (h a w hs)
theorem WTL.wpl {ops : Array Oper} {l : List Oper} {y : Code} (hpan : ∀ pv H, ¬ C.pan pv H) (h : WPL P C n ops l (fun F H => WPT P C n y Post F H) F H) : WTL P C n ops l (Exit.then (y.wp P Post) Post) F H := by
  unfold WPL at h
  intro a w hs
  refine h a w hs _ ⟨fun a' w' F' H' hs' hk => hk a' w' hs', fun ch a' w' hp => ?_⟩
  obtain ⟨_, _, _, _, _, _, _, _, _, _, _, hx⟩ := hp
  exact absurd hx (hpan _ _)
theorem WPT.cond {c : Operand} {x y : Code} {t : Bool} (hc : ev F c = lit (.bool t)) (h : WPT P C n (if t then x else y) Post F H) : WPT P C n (.cond c x y) Post F H := by
  intro a w hs
  obtain ⟨m, _, hp⟩ := hs.evp
  have e := hp c
  rw [hc, lit_p] at e
  exact wp_cond e (h a w hs)
/-- a return with nothing deferred -/
theorem dret {fn : Func} {R : SV → LH → Prop} (hC : C.dfs = []) {res : SV} {H2 : LH} (he : Ends P fn.results.toList res F H) (hsub : H2.Sublist H) (hR : R res H2) : ∀ a w, St C n F H a w → bodyPostD P fn (dRes C R) .ret a w := by
  rintro a w ⟨hdef, _, m', hm', hH', hr', h4', hp'⟩
  obtain ⟨v, hv, hpv⟩ := run_end rfl he hm' hH' hp'
  show Leaves P fn a.tmps (dRes C R) a.defers .returning w
  rw [hdef, hC]
  exact ⟨v, hv, m', H2, hm', hH'.sub' hsub, hr', fun e he => h4' e (hsub.subset he), v, res, rfl, hpv, hR⟩
end
abbrev readF : FuncId := 75
abbrev readC : FuncId := 112
theorem rcatch_idle (p q : Addr) (w : World) : CallsD Tryz.prog readC #[.pointer (some p), .pointer (some q)] .returning w fun e u' w' => (∃ v, e = .returned v) ∧ u' = .returning ∧ w' = w := by
  refine callsD_of_wpS Tryz.func112 rfl fun c₀ cs hu => ?_
  apply wpS_seq
  apply wpS_region
  simp [wpOpsS, go_sem, recoverD, hu, Exit.thenS]
  apply wpS_seq
  apply wpS_region
  simp [wpOpsS, go_sem, Exit.thenS]
  refine wpS_cond (t := false) (by simp [Act.eval, Array.replicate]) ?_
  simp only [Bool.false_eq_true, if_false]
  refine wpS_of_wp (wp_skip ?_)
  cases c₀
  simp_all [bodyPostS, results, Exit.thenS]
theorem ov_assertE {F : Fr} {H : LH} {ty : TypeId} {x : Operand} {b : Nat} (hx : ev F x = lit (.iface 70 (.pointer (some ⟨b, 0, none⟩)))) : OpV Tryz.prog (.typeAssert x 20 70 true) ty F H (Ab.tup [lit (.pointer (some ⟨b, 0, none⟩)), lit (.bool true)]) :=
  OpV.pure fun m w o a ho _ _ _ h => by
    have h0 := h x (by simp [Op.operands]); rw [hx, lit_p] at h0
    have hrun : (Instr.typeAssert (.iface 70 (.pointer (some ⟨b, 0, none⟩))) 20 70 true).run Tryz.prog w = .ok (.tuple #[.pointer (some ⟨b, 0, none⟩), .bool true]) w := by kernel_rfl
    refine ⟨.tuple #[.pointer (some ⟨b, 0, none⟩), .bool true], by simp [execOp, ho, h0, hrun], ?_⟩
    unfold Ab.tup
    exact ⟨_, rfl, lit_p.2 rfl, lit_p.2 rfl, trivial⟩
theorem rcatch_rec {b2 b3 be : Nat} {w : World} {m : Mem} {s0 e0 : SV} {v : Value} (hm : MemIn m w) (hv : (lit (.iface 70 (.pointer (some ⟨be, 0, none⟩)))).p m v) (hH : HOk m w [(b3, 38, [e0]), (b2, 36, [s0])]) :
    CallsD Tryz.prog readC #[.pointer (some ⟨b2, 0, none⟩), .pointer (some ⟨b3, 0, none⟩)] (.panicking [{ v := v, recovered := false }]) w fun e u' w' => (∃ v', e = .returned v') ∧ u' = .panicking [{ v := v, recovered := true }] ∧
      ∃ m', MemIn m' w' ∧ HOk m' w' [(b3, 38, [lit (.iface 70 (.pointer (some ⟨be, 0, none⟩)))]), (b2, 36, [lit (.slice none 0 0)])] ∧ Rel [b3, b2] m w m' w' := by
  have hv' := lit_p.1 hv
  subst hv'
  refine callsD_of_wpS Tryz.func112 rfl fun c₀ cs hu => ?_
  apply wpS_seq
  apply wpS_region
  simp [wpOpsS, go_sem, recoverD, hu, Exit.thenS]
  refine wpS_eng (C := ⟨[b3, b2], m, w, noX, []⟩) (n := 20) (F := fm [(0, lit (.pointer (some ⟨b2, 0, none⟩))), (1, lit (.pointer (some ⟨b3, 0, none⟩))), (2, lit (.iface 70 (.pointer (some ⟨be, 0, none⟩))))]) (H := [(b3, 38, [e0]), (b2, 36, [s0])])
    (Q := fun e _ H' => e = .normal ∧ [(b3, 38, [lit (.iface 70 (.pointer (some ⟨be, 0, none⟩)))]), (b2, 36, [lit (.slice none 0 0)])].Sublist H') ?_ ⟨rfl, by simp, m, hm, hH, Rel.refl _ _ _, fun e he => .inl (by simp at he ⊢; rcases he with rfl | rfl <;> simp), fm_ok _ ?_⟩ ?_
  · repeat (refine A1 ⟨?_⟩; intros)
    refine Wo (ov_assertE rfl) ?_
    repeat (refine A1 ⟨?_⟩; intros)
    exact ⟨rfl, by repeat (first | exact List.Sublist.refl _ | refine List.Sublist.cons _ ?_)⟩
  · intro e he
    simp only [List.mem_cons, List.not_mem_nil, or_false] at he
    rcases he with rfl | rfl | rfl
    · rw [lit_p]; simp
    · rw [lit_p]; simp
    · rw [lit_p]; simp
  · rintro e a' w' (⟨F', H', ⟨hdef, _, m', hm', hH', hr', h4', hp'⟩, rfl, hsub⟩ | ⟨ch, rfl, _, _, _, _, _, _, _, _, _, _, _, hx⟩)
    · refine ⟨hdef, _, rfl, .tuple #[], ?_, ⟨_, rfl⟩, rfl, m', hm', hH'.sub' hsub, hr'⟩
      simp [results]
    · exact hx.elim
theorem lexF_len : ∀ (f : Nat) (l : List UInt8) (c : Nat) (ts : List Tok), lexF f l c = some ts → ts.length ≤ f := by
  intro f
  induction f with
  | zero => intro l c ts h; unfold lexF at h; cases h
  | succ f ih =>
    intro l c ts h
    unfold lexF at h
    split at h
    · obtain rfl := Option.some.inj h
      simp
    · split at h
      · split at h
        · cases h
        · split at h
          · rename_i e
            obtain rfl := Option.some.inj h
            have := ih _ _ _ e
            simp only [List.length_cons]; omega
          · cases h
      · split at h
        · rename_i e
          obtain rfl := Option.some.inj h
          have := ih _ _ _ e
          simp only [List.length_cons]; omega
        · cases h
/-- a panic of the parser: the closure hands it back as the error -/
theorem read_pan {C : Ctx} {b4 b5 : Nat} {a' : Act} {w' : World} {m' : Mem} {F : Fr} {Hx : LH} {s0 e0 pv : SV} {v : Value} {R : SV → LH → Prop} (hdef : a'.defers = [⟨.fn (.func readC) #[.pointer (some ⟨b4, 0, none⟩), .pointer (some ⟨b5, 0, none⟩)], #[]⟩]) (hm' : MemIn m' w')
    (hH : HOk m' w' Hx) (hs : [(b5, 38, [e0]), (b4, 36, [s0])].Sublist Hx) (hrel : Rel C.ks C.m C.w m' w') (hown : ∀ e ∈ Hx, e.1 ∈ C.ks ∨ C.w.heap.size ≤ e.1) (hE : isE pv) (hpv : pv.p m' v) (hF : ∀ t, (F t).p m' (a'.tmps.getD t undef))
    (h4 : F 4 = lit (.pointer (some ⟨b4, 0, none⟩))) (h5 : F 5 = lit (.pointer (some ⟨b5, 0, none⟩))) (hR : R (Ab.tup [lit (.slice none 0 0), errE]) []) : bodyPostD Tryz.prog Tryz.f75 (dRes C R) (.panic [{ v := v, recovered := false }]) a' w' := by
  obtain ⟨be, rfl⟩ := hE
  refine dpan (g := readC) (cv := #[.pointer (some ⟨b4, 0, none⟩), .pointer (some ⟨b5, 0, none⟩)]) (by kernel_rfl) hdef ?_
  refine (rcatch_rec hm' hpv (hH.sub' hs)).mono ?_
  rintro e u' w2 ⟨he, hu, m2, g1, g2, g3⟩
  refine ⟨he, hu, ?_⟩
  have hFt : ∀ t, (F t).p m2 (a'.tmps.getD t undef) := fun x => SV.mono _ g3.le (hF x)
  obtain ⟨v2, hv2, hp2⟩ := run_end (fn := Tryz.f75) (tmps := a'.tmps) (P := Tryz.prog) rfl (end2 (RV.cell1 (b := b4) h4 (List.mem_cons_of_mem _ List.mem_cons_self) rfl) (RV.cell1 (b := b5) h5 List.mem_cons_self rfl) (Le.refl _)) g1 g2 hFt
  refine ⟨v2, hv2, m2, [], g1, ⟨by simp, fun e he => by cases he⟩, hrel.trans g3 fun x hx hk => ?_, (fun e he => by cases he), v2, _, rfl, Le.tup2 (Le.refl _) Le.ifcL _ _ hp2, hR⟩
  have : x ∈ C.ks ∨ C.w.heap.size ≤ x := by
    simp only [List.mem_cons, List.not_mem_nil, or_false] at hk
    rcases hk with rfl | rfl
    · exact hown _ (hs.subset List.mem_cons_self)
    · exact hown _ (hs.subset (List.mem_cons_of_mem _ List.mem_cons_self))
  rcases this with h | h
  · exact h
  · exact absurd hx (Nat.not_lt.2 h)
def prR (l : List UInt8) : SV → LH → Prop := fun r H' => match lexT l with
  | none => r = Ab.tup [lit (.slice none 0 0), errE]
  | some ts => match prsAll ts with
    | some (A, x) => ∃ s, r = Ab.tup [s, lit .nilIface] ∧ Own exPT 19 A.length (A.map ndx).flatten s H'
    | none => r = Ab.tup [lit (.slice none 0 0), errE]
set_option maxHeartbeats 4000000 in
theorem read_pu [Sent 5] [Sent 4] (l : List UInt8) (hok : ∀ b ∈ l, okC b = true) (hl : l.length ≤ 65536) :
    PuH Tryz.prog readF [str l, lit (.func (.func 76) #[] #[])] [] (prR l) noX := by
  have c0 := tokens_pu l hok hl
  unfold prR
  cases hlx : lexT l with
  | none =>
    rw [hlx] at c0
    change Pu _ _ _ (Ab.tup [lit (.slice none 0 0), errE]) at c0
    refine PuH.introD Tryz.func75 rfl (by kernel_rfl) fun C hC0 hC1 => ?_
    refine WPT.seqR hC0 ?_
    repeat (refine A1 ⟨?_⟩; intros)
    rename_i b4 b5
    refine onR.i ?_
    refine WPT.seqR hC0 ?_
    repeat (first | (refine A1 ⟨?_⟩; intros) | (refine Wcx (c0) ?_) | (refine Wdcx (c0) ?_) | (refine Wcgx (c0) ?_) | (refine Wdcgx (c0) ?_))
    refine Ss ?_
    refine Ws (sv := errE) ?_
    repeat (refine A1 ⟨?_⟩; intros)
    refine onR.i ?_
    refine WPT.seqR hC0 ?_
    repeat (refine A1 ⟨?_⟩; intros)
    refine Wo (ov_ineF (s := Ab.top) (by kernel_rfl) rfl) ?_
    repeat (first | (refine AS ⟨?_⟩; intros) | (refine O1 ⟨?_⟩; intros))
    refine WdA ?_
    repeat' (first | (refine A1 ⟨?_⟩; intros) | exact WPI.nil | refine And.intro ?_ ?_ | (refine Ss ?_; refine Ws (sv := errE) ?_))
    all_goals
      refine onR.r ?_
      exact dret hC1 (end2 (RV.cell1 (b := b4) rfl (List.mem_cons_of_mem _ List.mem_cons_self) rfl) (RV.cell1 (b := b5) rfl List.mem_cons_self rfl) (Le.refl _)) (List.nil_sublist _) rfl
  | some ts =>
    rw [hlx] at c0
    change Pu _ _ _ (Ab.tup [toks ts, lit .nilIface]) at c0
    refine PuH.introD Tryz.func75 rfl (by kernel_rfl) fun C hC0 hC1 => ?_
    refine WPT.seqR hC0 ?_
    repeat (refine A1 ⟨?_⟩; intros)
    rename_i b4 b5
    refine onR.i ?_
    refine WPT.seqR hC0 ?_
    repeat (first | (refine A1 ⟨?_⟩; intros) | (refine Wcx (c0) ?_) | (refine Wdcx (c0) ?_) | (refine Wcgx (c0) ?_) | (refine Wdcgx (c0) ?_))
    refine onR.i ?_
    refine WPT.seqR hC0 ?_
    repeat (refine A1 ⟨?_⟩; intros)
    refine onR.i ?_
    refine WPT.defer (cv := [.pointer (some ⟨b4, 0, none⟩), .pointer (some ⟨b5, 0, none⟩)]) (X1 := noX) rfl rfl fun C1 hC => ?_
    rw [hC1] at hC
    have hC2 : ∀ pv H, ¬ C1.pan pv H := fun pv H h => by rw [hC] at h; exact h
    refine WPT.seq hC2 ?_
    repeat (refine A1 ⟨?_⟩; intros)
    rename_i p
    refine onN.i ?_
    refine WPT.reg ?_
    refine WTL.val (op := .move _) Ov0 ?_ rfl
    refine WTL.val (op := .move _) Ov0 ?_ rfl
    have hT : TOk ts := (lexF_ok _ _ _ _ hlx).1
    have ce := pexpression_pu p ts hT (by have := lexF_len _ _ _ _ hlx; omega)
    refine WTL.call (s := lit (.func (.func 76) #[] #[])) (l := [.tmp 22]) rfl ce (Tk.perm (Tk.cons (HDel.here _) (Tk.nil _))) rfl rfl ?_ ?_
    · rintro v H' ⟨A, x, ts', Hs, hp, hown, rfl⟩
      have hco := hown.co
      obtain ⟨hr, hT', hl'⟩ := prs_ok _ _ _ _ _ _ _ _ _ (by omega) (fun h => by omega) hT trivial hp
      obtain ⟨a, r, rfl, ha⟩ := hT'.cons
      have hlen := lexF_len _ _ _ _ hlx
      simp only [List.length_cons] at hl'
      have c1 := pnext_pu v hco a r 0 (by omega)
      refine WTL.wpl hC2 ?_
      refine WPL.perm (H' := (p, psT, psC (a :: r) 0 v) :: (b5, 38, [lit Value.nilIface]) :: (b4, 36, [lit (Value.slice none 0 0)]) :: Hs) (List.Perm.cons _ List.perm_append_comm) ?_
      refine Ss ?_
      refine Ws (sv := v) ?_
      repeat (refine A1 ⟨?_⟩; intros)
      by_cases hk : a.k = 0
      · refine WPT.fin (Q := endH Tryz.prog Tryz.f75.results _) ?_ (dfin ⟨_, hC⟩ (by kernel_rfl) hC2 fun w => rcatch_idle _ _ w)
        repeat (refine A1 ⟨?_⟩; intros)
        refine Wo (ov_callT c1 rfl (by (first | exact List.mem_cons_self | exact (List.mem_cons_of_mem _ List.mem_cons_self) | exact (List.mem_cons_of_mem _ (List.mem_cons_of_mem _ List.mem_cons_self)) | exact (List.mem_cons_of_mem _ (List.mem_cons_of_mem _ (List.mem_cons_of_mem _ List.mem_cons_self))) | exact (List.mem_cons_of_mem _ (List.mem_cons_of_mem _ (List.mem_cons_of_mem _ (List.mem_cons_of_mem _ List.mem_cons_self)))) | exact (List.mem_cons_of_mem _ (List.mem_cons_of_mem _ (List.mem_cons_of_mem _ (List.mem_cons_of_mem _ (List.mem_cons_of_mem _ List.mem_cons_self))))) | exact (List.mem_cons_of_mem _ (List.mem_cons_of_mem _ (List.mem_cons_of_mem _ (List.mem_cons_of_mem _ (List.mem_cons_of_mem _ (List.mem_cons_of_mem _ List.mem_cons_self)))))) | exact (List.mem_cons_of_mem _ (List.mem_cons_of_mem _ (List.mem_cons_of_mem _ (List.mem_cons_of_mem _ (List.mem_cons_of_mem _ (List.mem_cons_of_mem _ (List.mem_cons_of_mem _ List.mem_cons_self)))))))))) ?_
        repeat (refine A1 ⟨?_⟩; intros)
        refine Ss ?_
        refine Ws (sv := v) ?_
        repeat (refine A1 ⟨?_⟩; intros)
        refine endHR _ Hs (end2 (RV.cell1 (b := b4) rfl (List.mem_cons_of_mem _ (List.mem_cons_of_mem _ List.mem_cons_self)) rfl) (RV.cell1 (b := b5) rfl (List.mem_cons_of_mem _ List.mem_cons_self) rfl) (Le.refl _)) (by repeat (first | exact List.Sublist.refl _ | refine List.Sublist.cons _ ?_)) ?_
        have hpa : prsAll ts = some (A, x) := by
          unfold prsAll
          rw [hp]
          exact if_pos hk
        simp only [hpa]
        exact ⟨v, rfl, hown⟩
      · refine WPT.into ?_
        refine WPT.seq hC2 ?_
        repeat (refine A1 ⟨?_⟩; intros)
        refine Wo (ov_callT c1 rfl (by (first | exact List.mem_cons_self | exact (List.mem_cons_of_mem _ List.mem_cons_self) | exact (List.mem_cons_of_mem _ (List.mem_cons_of_mem _ List.mem_cons_self)) | exact (List.mem_cons_of_mem _ (List.mem_cons_of_mem _ (List.mem_cons_of_mem _ List.mem_cons_self))) | exact (List.mem_cons_of_mem _ (List.mem_cons_of_mem _ (List.mem_cons_of_mem _ (List.mem_cons_of_mem _ List.mem_cons_self)))) | exact (List.mem_cons_of_mem _ (List.mem_cons_of_mem _ (List.mem_cons_of_mem _ (List.mem_cons_of_mem _ (List.mem_cons_of_mem _ List.mem_cons_self))))) | exact (List.mem_cons_of_mem _ (List.mem_cons_of_mem _ (List.mem_cons_of_mem _ (List.mem_cons_of_mem _ (List.mem_cons_of_mem _ (List.mem_cons_of_mem _ List.mem_cons_self)))))) | exact (List.mem_cons_of_mem _ (List.mem_cons_of_mem _ (List.mem_cons_of_mem _ (List.mem_cons_of_mem _ (List.mem_cons_of_mem _ (List.mem_cons_of_mem _ (List.mem_cons_of_mem _ List.mem_cons_self)))))))))) ?_
        repeat (refine A1 ⟨?_⟩; intros)
        refine onN.i ?_
        refine WPT.cond (t := true) rfl ?_
        refine WPT.region ?_
        refine WTL.val (op := .move _) Ov0 ?_ rfl
        refine WTL.val (op := .load _ _) Ov0 ?_ rfl
        refine WTL.call (s := lit (.func (.func 113) #[] #[])) (l := [.tmp 28, .tmp 29]) rfl (pfail_pu v hco p a r 0 (by omega) _) (Tk.perm (Tk.cons (HDel.here _) (Tk.nil _))) rfl rfl ?_ ?_
        · rintro _ _ ⟨⟩
        · subst hC
          rintro v1 pv H' m' a' w' hE hdef hm' hH' hrel hown hpv hF
          simp only [Exit.then]
          refine read_pan (b4 := b4) (b5 := b5) (s0 := v) (e0 := lit .nilIface) hdef hm' hH' (List.Sublist.trans ?_ (List.sublist_append_right _ _)) hrel hown hE hpv hF rfl rfl ?_
          · exact List.Sublist.cons_cons _ (List.Sublist.cons_cons _ (List.nil_sublist _))
          · have hpa : prsAll ts = none := by
              unfold prsAll
              rw [hp]
              exact if_neg hk
            simp only [hpa]
    · subst hC
      rintro v pv H' m' a' w' ⟨hn, hE⟩ hdef hm' hH' hrel hown hpv hF
      refine read_pan (b4 := b4) (b5 := b5) (s0 := lit (.slice none 0 0)) (e0 := lit .nilIface) hdef hm' hH' (List.Sublist.trans ?_ (List.sublist_append_right _ _)) hrel hown hE hpv hF rfl rfl ?_
      · exact List.Sublist.cons_cons _ (List.Sublist.cons_cons _ (List.nil_sublist _))
      · have hpa : prsAll ts = none := by
          unfold prsAll
          rw [hn]
        simp only [hpa]
theorem prR_two {l : List UInt8} {r : SV} {H : LH} (h : prR l r H) : r = Ab.tup [lit (.slice none 0 0), errE] ∨ ∃ s, r = Ab.tup [s, lit .nilIface] ∧ CO s [s] := by
  unfold prR at h
  split at h
  · exact .inl h
  · split at h
    · obtain ⟨s, rfl, hown⟩ := h
      exact .inr ⟨s, rfl, hown.co⟩
    · exact .inl h
theorem gexpr_pu [Sent 5] [Sent 4] (l : List UInt8) (hok : ∀ b ∈ l, okC b = true) (hl : l.length ≤ 65536) : PuH Tryz.prog 53 [str l] [] (prR l) noX := by
  have c := read_pu l hok hl
  refine PuH.intro Tryz.func53 rfl (by kernel_rfl) fun C hC => ?_
  repeat (refine A1 ⟨?_⟩; intros)
  refine WfT c ?_
  rintro r H' hr
  rcases prR_two hr with rfl | ⟨s, rfl, hco⟩
  · repeat (refine A1 ⟨?_⟩; intros)
    exact endHR _ H' (end2 (RV.tmp rfl) (RV.tmp rfl) (Le.refl _)) (List.Sublist.refl _) hr
  · repeat (refine A1 ⟨?_⟩; intros)
    exact endHR _ H' (end2 (RV.tmp rfl) (RV.tmp rfl) (Le.refl _)) (List.Sublist.refl _) hr
theorem parseExpr_pu [Sent 5] [Sent 4] (l : List UInt8) (hok : ∀ b ∈ l, okC b = true) (hl : l.length ≤ 65536) : PuH Tryz.prog 29 [str l] [] (prR l) noX := by
  have c := gexpr_pu l hok hl
  refine PuH.intro Tryz.func29 rfl (by kernel_rfl) fun C hC => ?_
  repeat (refine A1 ⟨?_⟩; intros)
  refine WfT c ?_
  rintro r H' hr
  rcases prR_two hr with rfl | ⟨s, rfl, hco⟩
  · repeat (refine A1 ⟨?_⟩; intros)
    exact endHR _ H' (end2 (RV.tmp rfl) (RV.tmp rfl) (Le.refl _)) (List.Sublist.refl _) hr
  · repeat (refine A1 ⟨?_⟩; intros)
    exact endHR _ H' (end2 (RV.tmp rfl) (RV.tmp rfl) (Le.refl _)) (List.Sublist.refl _) hr
end Go.Ab
/- bound.all, walked: the bounds of all parts. -/
namespace Go.Ab
open Go.Proofs
set_option linter.unusedSectionVars false
set_option linter.unusedVariables false
set_option linter.unusedSimpArgs false
variable [Base]
theorem ov_ieqNL {F : Fr} {H : LH} {ty T' : TypeId} {x y : Operand} {u : TypeId} {v : Value} (hx : ev F x = lit .nilIface) (hy : ev F y = lit (.iface u v)) : OpV Tryz.prog (.binOp .eql 38 x y T') ty F H (lit (.bool false)) :=
  ov_bin hx hy (fun w => run_eql_iface_nil_left w u v Tryz.underlying38) (fun w => by simp [Go.eqGuard])
theorem isNil_pu (g : Nat) : Pu Tryz.prog 22 [lit .nilIface, lit (sent g)] (lit (.bool false)) := by
  refine Pu.intro Tryz.func22 rfl (by kernel_rfl) fun C => ?_
  repeat (refine A1 ⟨?_⟩; intros)
  refine Wo (ov_ieqNL rfl rfl) ?_
  repeat (refine A1 ⟨?_⟩; intros)
  ((first | refine endR ?_ | refine endN ?_); exact end1 (RV.tmp rfl) (Le.refl _))
def envOf (names : List (List UInt8)) (zs : List Int) (s : List UInt8) : Option Nat := if fpos names s < 0 then none else some ((zs.getD (fpos names s).toNat 0).toNat)
/-- what all answers -/
def allB (ns : List Nd) (names : List (List UInt8)) (zs : List Int) : Option (Option (List Nat)) :=
  if otx ns = none ∨ names.length ≠ zs.length then none else some (brun (envOf names zs) ns [] [])
abbrev itT : TypeId := 3
def ints (l : List Nat) : List SV := l.map fun n : Nat => lit (.int .i64 (n : Int))
theorem ints_len (l : List Nat) : (ints l).length = l.length := List.length_map ..
def allR (gi gn : Nat) (o : Option (Option (List Nat))) : SV → LH → Prop := fun r H' => match o with
  | none => r = Ab.tup [lit (.slice none 0 0), lit (sent gi)] ∧ H' = []
  | some none => r = Ab.tup [lit (.slice none 0 0), lit (sent gn)] ∧ H' = []
  | some (some out) => ∃ s, r = Ab.tup [s, lit .nilIface] ∧ Own itT 1 out.length (ints out) s H'
theorem perm3 (A X Y : LH) : (A ++ (X ++ Y)).Perm (X ++ (A ++ Y)) := by
  rw [← List.append_assoc, ← List.append_assoc]
  exact List.perm_append_comm.append_right Y
theorem perm4 (c : Nat × TypeId × List SV) (A X Y : LH) : (c :: (X ++ (A ++ Y))).Perm (Y ++ (c :: (X ++ A))) := by
  rw [← List.append_assoc, ← List.cons_append]
  exact List.perm_append_comm
theorem perm5 (c : Nat × TypeId × List SV) (A X Y : LH) : (Y ++ (c :: (X ++ A))).Perm ((X ++ Y) ++ (c :: A)) := by
  refine (perm3 Y [c] (X ++ A)).trans ?_
  refine List.Perm.trans ?_ (perm3 [c] (X ++ Y) A)
  refine List.Perm.cons c ?_
  rw [List.append_assoc]
  exact perm3 Y X A
structure BSt where
  k : Nat
  vs : List Nat
  out : List Nat
  s1 : SV
  H1 : LH
  s2 : SV
  H2 : LH
def BSt.ok (ns : List Nd) (env : List UInt8 → Option Nat) (x : BSt) : Prop :=
  x.k ≤ ns.length ∧ x.out.length = x.k ∧ (∃ st, BS x.out st x.vs ∧ (stk (ns.drop x.k) x.k st).isSome = true) ∧ brun env (ns.drop x.k) x.vs x.out = brun env ns [] [] ∧
    Own itT 1 x.vs.length (ints x.vs.reverse) x.s1 x.H1 ∧ Own itT 1 x.out.length (ints x.out) x.s2 x.H2 ∧ (∀ v ∈ x.vs, v ≤ 9223372036854775807) ∧ (∀ v ∈ x.out, v ≤ 9223372036854775807) ∧ x.vs.length ≤ x.k
set_option maxHeartbeats 4000000 in
theorem all_pu [Sent 0] [Sent 1] (ns : List Nd) {L : Nat} (hok : ∀ n ∈ ns, n.ok L) (hL : L ≤ 20) (hns : ns.length ≤ 30) (names : List (List UInt8)) (hnl : names.length ≤ 1000000) (zs : List Int) (hzl : zs.length ≤ 1000000) (hz : ∀ z ∈ zs, i64R z) :
    PuH Tryz.prog 38 [sl (ns.map ndx).flatten ns.length, sl (names.map str) names.length, nsl .i64 zs] [] (allR 0 1 (allB ns names zs)) noX := by
  have c := pexpr_pu ns hok hL hns
  have ci := is_pu 0
  have cn := isNil_pu 0
  cases ho : otx ns with
  | none =>
    rw [ho] at c
    have he : allB ns names zs = none := if_pos (.inl ho)
    rw [he]
    unfold pans at c
    simp only at c
    refine PuH.intro Tryz.func38 rfl (by kernel_rfl) fun C hC => ?_
    repeat (first | (refine A1 ⟨?_⟩; intros) | (refine Wcx (c) ?_) | (refine Wdcx (c) ?_) | (refine Wcgx (c) ?_) | (refine Wdcgx (c) ?_) | (refine Wcx (ci) ?_) | (refine Wdcx (ci) ?_) | (refine Wcgx (ci) ?_) | (refine Wdcgx (ci) ?_))
    exact endHR _ [] (end2 (RV.tmp rfl) (RV.tmp rfl) (Le.refl _)) (List.Sublist.refl _) ⟨rfl, rfl⟩
  | some t =>
    rw [ho] at c
    unfold pans at c
    simp only at c
    by_cases hl : names.length = zs.length
    case neg =>
      have he : allB ns names zs = none := if_pos (.inr hl)
      rw [he]
      refine PuH.intro Tryz.func38 rfl (by kernel_rfl) fun C hC => ?_
      repeat (first | (refine A1 ⟨?_⟩; intros) | (refine Wcx (c) ?_) | (refine Wdcx (c) ?_) | (refine Wcgx (c) ?_) | (refine Wdcgx (c) ?_) | (refine Wcx (cn) ?_) | (refine Wdcx (cn) ?_) | (refine Wcgx (cn) ?_) | (refine Wdcgx (cn) ?_))
      exact endHR _ [] (end2 (RV.tmp rfl) (RV.tmp rfl) (Le.refl _)) (List.Sublist.refl _) ⟨rfl, rfl⟩
    have he : allB ns names zs = some (brun (envOf names zs) ns [] []) := if_neg (by rw [ho]; simp [hl])
    rw [he]
    generalize hB : brun (envOf names zs) ns [] [] = B
    refine PuH.intro Tryz.func38 rfl (by kernel_rfl) fun C hC => ?_
    repeat (first | (refine A1 ⟨?_⟩; intros) | (refine Wcx (c) ?_) | (refine Wdcx (c) ?_) | (refine Wcgx (c) ?_) | (refine Wdcgx (c) ?_) | (refine Wcx (cn) ?_) | (refine Wdcx (cn) ?_) | (refine Wcgx (cn) ?_) | (refine Wdcgx (cn) ?_))
    refine WP.loopS (ι := BSt) (BSt.ok ns (envOf names zs)) (fun x => ns.length - x.k)
      (fun x => fm [(0, sl (ns.map ndx).flatten ns.length), (1, sl (names.map str) names.length), (2, nsl .i64 zs), (10, x.s1), (11, x.s2), (32, sl (ns.map ndx).flatten ns.length), (33, lit (.int .i64 ns.length)), (34, lit (.int .i64 x.k))])
      (fun x => x.H1 ++ x.H2) ⟨0, [], [], lit (.slice none 0 0), [], lit (.slice none 0 0), []⟩ ?_ (by (repeat (first | exact LeF.nil _ | refine LeF.cons (Le.refl _) ?_ | refine LeF.cons (Le.int (by omega)) ?_))) (List.nil_sublist _) ?_
    · refine ⟨Nat.zero_le _, rfl, ⟨[], .nil, ?_⟩, by rw [List.drop_zero], Own.nil _ _, Own.nil _ _, (fun v h => by cases h), (fun v h => by cases h), Nat.le_refl _⟩
      rw [List.drop_zero]
      unfold otx at ho
      cases hs : stk ns 0 [] with
      | none => rw [hs] at ho; cases ho
      | some st => rfl
    rintro ⟨k, vs, out, s1, H1, s2, H2⟩ ⟨hk, hol, ⟨st, hbs, hst⟩, hrun, hown1, hown2, hv1, hv2, hvk⟩ K hK
    simp only at hk hol hbs hst hrun hown1 hown2 hv1 hv2 hvk
    simp only
    by_cases hkl : k < ns.length
    · have hget := List.getElem?_eq_getElem hkl
      have hdrop := List.drop_eq_getElem_cons hkl
      generalize ns[k] = nd at hget hdrop
      have hat := flat_at (f := ndx) (n := 19) ndx_len hget
      have hne : (ns.map ndx).flatten ≠ [] := flat_ne ndx_len (by omega) (fun e => by rw [e] at hkl; simp at hkl)
      rw [hdrop] at hst hrun
      rw [stk_cons] at hst
      cases hs : stp k nd st with
      | none => rw [hs] at hst; cases hst
      | some st' =>
      rw [hs] at hst
      simp only at hst
      have hstep := bstep_stk (env := envOf names zs) hs hbs hol
      rw [brun_cons] at hrun
      have hcont : ∀ v r s1' H1' s2' H2' F' H', bstep (envOf names zs) nd vs = some (v, r) → v ≤ 9223372036854775807 → (∀ u ∈ r, u ≤ 9223372036854775807) → r.length ≤ vs.length → Own itT 1 (r.length + 1) (ints r.reverse ++ [lit (.int .i64 (v : Int))]) s1' H1' → Own itT 1 (out.length + 1) (ints out ++ [lit (.int .i64 (v : Int))]) s2' H2' →
          LeF F' (fm [(0, sl (ns.map ndx).flatten ns.length), (1, sl (names.map str) names.length), (2, nsl .i64 zs), (10, s1'), (11, s2'), (32, sl (ns.map ndx).flatten ns.length), (33, lit (.int .i64 ns.length)), (34, lit (.int .i64 (k + 1 : Nat)))]) → (H1' ++ H2').Sublist H' → K F' H' := by
        intro v r s1' H1' s2' H2' F' H' hb hv hr hrl h1 h2 hF hH
        rw [hb] at hstep hrun
        simp only at hstep hrun
        refine hK F' H' ⟨k + 1, v :: r, out ++ [v], s1', H1', s2', H2'⟩ ⟨by simp only; omega, by simp only [List.length_append, List.length_singleton]; omega, ⟨st', hstep, hst⟩, hrun, ?_, ?_, ?_, ?_, ?_⟩ (by simp only; omega) hF hH
        · simp only [List.length_cons, List.reverse_cons, ints, List.map_append, List.map_cons, List.map_nil]; exact h1
        · simp only [List.length_append, List.length_singleton, ints, List.map_append, List.map_cons, List.map_nil]; exact h2
        · intro u hu
          rcases List.mem_cons.1 hu with rfl | hu
          · exact hv
          · exact hr u hu
        · intro u hu
          rcases List.mem_append.1 hu with hu | hu
          · exact hv2 u hu
          · rw [List.mem_singleton.1 hu]; exact hv
        · simp only [List.length_cons]; omega
      clear hK
      have hbe : ∀ o, bstep (envOf names zs) nd vs = o → (∃ v r, o = some (v, r)) ∨ o = none := fun o _ => by cases o with
        | none => exact .inr rfl
        | some q => exact .inl ⟨q.1, q.2, rfl⟩
      have hkr : 1 ≤ nd.k ∧ nd.k ≤ 6 := by
        unfold stp at hs
        split at hs
        · rename_i e; exact (okN_k e).1
        · cases hs
      obtain ⟨hk1, hk6⟩ := hkr
      have hvl : vs.length ≤ 30 := by omega
      have hco1 := hown1.co
      have hco2 := hown2.co
      by_cases k1 : nd.k = 1
      · have hnl1 : nd.nm.length ≤ 100 := (hok nd (List.mem_of_getElem? hget)).nm
        have cx := index_pu names nd.nm (by omega)
        rcases fpos_lt names nd.nm with ⟨hf, hf'⟩ | ⟨i, hf, hi⟩
        · have hbs' : bstep (envOf names zs) nd vs = none := by unfold bstep envOf; rw [if_pos k1, if_pos hf]
          rw [hbs'] at hrun
          simp only at hrun
          have hB' : B = none := by rw [← hB, ← hrun]
          subst hB'
          rw [hf'] at cx
          clear hstep hrun hv1 hv2 hbe hs hst hbs' hbs hdrop hget hcont hB
          repeat (refine A1 ⟨?_⟩; intros)
          refine Wo (ov_idxS (cs' := ndx nd) rfl rfl (by omega) (by omega) hat hne) ?_
          repeat (first | (refine A1 ⟨?_⟩; intros) | (refine Wcx (cx) ?_) | (refine Wdcx (cx) ?_) | (refine Wcgx (cx) ?_) | (refine Wdcgx (cx) ?_))
          exact endHR _ [] (end2 (RV.tmp rfl) (RV.tmp rfl) (Le.refl _)) (List.nil_sublist _) ⟨rfl, rfl⟩
        · have hz1 := hz (zs.getD i 0) (by rw [List.getD, List.getElem?_eq_getElem (by omega)]; exact List.getElem_mem (by omega))
          have hbs' : bstep (envOf names zs) nd vs = some ((zs.getD i 0).toNat, vs) := by unfold bstep envOf; rw [if_pos k1, hf, if_neg (by omega)]; rfl
          obtain ⟨z1, z2⟩ := hz1
          have cx2 : i < zs.length := by omega
          rw [hf] at cx
          replace hcont := fun s1' H1' s2' H2' F' H' => hcont _ vs s1' H1' s2' H2' F' H' hbs' (by omega) hv1 (by omega)
          clear hstep hrun hv1 hv2 hbe hs hst hbs' hbs hdrop hget hf
          obtain ⟨z, hzz⟩ : ∃ z, zs.getD i 0 = z := ⟨_, rfl⟩
          rw [hzz] at z1 z2 hcont
          repeat (refine A1 ⟨?_⟩; intros)
          refine Wo (ov_idxS (cs' := ndx nd) rfl rfl (by omega) (by omega) hat hne) ?_
          repeat (first | (refine A1 ⟨?_⟩; intros) | (refine Wcx (cx) ?_) | (refine Wdcx (cx) ?_) | (refine Wcgx (cx) ?_) | (refine Wdcgx (cx) ?_))
          rw [hzz]
          refine Wo (ov_max rfl rfl (r := ((z.toNat : Nat) : Int)) (by rw [if_max]; omega)) ?_
          repeat (refine A1 ⟨?_⟩; intros)
          rename_i bE b9
          refine WownP hown1 (perm3 [(b9, _, _), (bE, _, _)] H1 H2) (by omega) (fun s1' H1' hown1' => ?_) (List.mem_append_left _ List.mem_cons_self)
          have hco1' := hown1'.co
          repeat (refine A1 ⟨?_⟩; intros)
          rename_i b10
          refine WownP hown2 (perm4 _ _ H1' H2) (by omega) (fun s2' H2' hown2' => ?_) List.mem_cons_self
          have hco2' := hown2'.co
          refine WPL.perm (perm5 _ _ H1' H2') ?_
          repeat (refine A1 ⟨?_⟩; intros)
          exact hcont s1' H1' s2' H2' _ _ hown1' hown2' (by (repeat (first | exact LeF.nil _ | refine LeF.cons (Le.refl _) ?_ | refine LeF.cons (Le.int (by omega)) ?_))) (List.sublist_append_left _ _)
      by_cases k4 : nd.k = 4
      · have hbs' : bstep (envOf names zs) nd vs = some (1, vs) := by unfold bstep; rw [if_neg k1, if_pos k4]
        replace hcont := fun s1' H1' s2' H2' F' H' => hcont 1 vs s1' H1' s2' H2' F' H' hbs' (by omega) hv1 (by omega)
        clear hstep hrun hv1 hv2 hbe hs hst hbs' hbs hdrop hget
        repeat (refine A1 ⟨?_⟩; intros)
        refine Wo (ov_idxS (cs' := ndx nd) rfl rfl (by omega) (by omega) hat hne) ?_
        repeat (first | (refine A1 ⟨?_⟩; intros) | (refine Wcx (half_pu) ?_) | (refine Wdcx (half_pu) ?_) | (refine Wcgx (half_pu) ?_) | (refine Wdcgx (half_pu) ?_))
        rename_i bE b9
        refine WownP hown1 (perm3 [(b9, _, _), (bE, _, _)] H1 H2) (by omega) (fun s1' H1' hown1' => ?_) (List.mem_append_left _ List.mem_cons_self)
        have hco1' := hown1'.co
        repeat (refine A1 ⟨?_⟩; intros)
        rename_i b10
        refine WownP hown2 (perm4 _ _ H1' H2) (by omega) (fun s2' H2' hown2' => ?_) List.mem_cons_self
        have hco2' := hown2'.co
        refine WPL.perm (perm5 _ _ H1' H2') ?_
        repeat (refine A1 ⟨?_⟩; intros)
        exact hcont s1' H1' s2' H2' _ _ hown1' hown2' (by (repeat (first | exact LeF.nil _ | refine LeF.cons (Le.refl _) ?_ | refine LeF.cons (Le.int (by omega)) ?_))) (List.sublist_append_left _ _)
      by_cases k5 : nd.k = 5
      · cases vs with
        | nil =>
          have : bstep (envOf names zs) nd [] = none := by unfold bstep; rw [if_neg k1, if_neg k4, if_pos k5]
          rw [this] at hstep
          exact absurd hstep.1 k1
        | cons v r =>
        have hbs' : bstep (envOf names zs) nd (v :: r) = some (v, r) := by unfold bstep; rw [if_neg k1, if_neg k4, if_pos k5]
        have hvm := hv1 v (by simp)
        replace hcont := fun s1' H1' s2' H2' F' H' => hcont v r s1' H1' s2' H2' F' H' hbs' hvm (fun u hu => hv1 u (by simp [hu])) (by simp)
        have hlr : (v :: r).length = r.length + 1 := rfl
        obtain ⟨b1, c1, hnc, hcm, rfl, rfl⟩ := hown1.blk (by simp)
        have hil : (ints (v :: r).reverse).length = (v :: r).length * 1 := by rw [ints_len]; simp
        obtain ⟨hownr, hle⟩ := Own.cut (T := itT) (j := r.length) (b := b1) hil hnc hcm (by simp)
        have htk : (ints (v :: r).reverse).take (r.length * 1) = ints r.reverse := by
          rw [List.reverse_cons, Nat.mul_one]
          unfold ints
          rw [List.map_append, List.take_left' (by simp)]
        have hgt : (ints (v :: r).reverse ++ List.replicate (c1 * 1 - (v :: r).length * 1) top)[(v :: r).length - 1]? = some (lit (.int .i64 (v : Int))) := by
          rw [List.getElem?_append_left (by rw [hil]; simp), List.reverse_cons]
          unfold ints
          rw [List.map_append, List.getElem?_append_right (by simp)]
          simp
        rw [htk] at hownr hle
        clear hstep hrun hv1 hv2 hbe hs hst hbs' hbs hdrop hget hown1 htk hil
        simp only [List.cons_append, List.nil_append]
        repeat (refine A1 ⟨?_⟩; intros)
        refine Wo (ov_idxS (cs' := ndx nd) rfl rfl (by omega) (by omega) hat hne) ?_
        repeat (refine A1 ⟨?_⟩; intros)
        refine Wo (ov_loadL rfl (by (first | exact List.mem_cons_self | exact (List.mem_cons_of_mem _ List.mem_cons_self) | exact (List.mem_cons_of_mem _ (List.mem_cons_of_mem _ List.mem_cons_self)) | exact (List.mem_cons_of_mem _ (List.mem_cons_of_mem _ (List.mem_cons_of_mem _ List.mem_cons_self))) | exact (List.mem_cons_of_mem _ (List.mem_cons_of_mem _ (List.mem_cons_of_mem _ (List.mem_cons_of_mem _ List.mem_cons_self)))) | exact (List.mem_cons_of_mem _ (List.mem_cons_of_mem _ (List.mem_cons_of_mem _ (List.mem_cons_of_mem _ (List.mem_cons_of_mem _ List.mem_cons_self))))) | exact (List.mem_cons_of_mem _ (List.mem_cons_of_mem _ (List.mem_cons_of_mem _ (List.mem_cons_of_mem _ (List.mem_cons_of_mem _ (List.mem_cons_of_mem _ List.mem_cons_self)))))) | exact (List.mem_cons_of_mem _ (List.mem_cons_of_mem _ (List.mem_cons_of_mem _ (List.mem_cons_of_mem _ (List.mem_cons_of_mem _ (List.mem_cons_of_mem _ (List.mem_cons_of_mem _ List.mem_cons_self))))))))) hgt) ?_
        have cc := comp_pu v hvm
        repeat (first | (refine A1 ⟨?_⟩; intros) | (refine Wcx (cc) ?_) | (refine Wdcx (cc) ?_) | (refine Wcgx (cc) ?_) | (refine Wdcgx (cc) ?_))
        refine Wo (ov_slTL r.length rfl rfl (by omega) (by omega)) ?_
        refine WPL.lowB (.there _ (.here _)) hle ?_
        repeat (refine A1 ⟨?_⟩; intros)
        rename_i bE b9
        refine WownP hownr (perm3 [(b9, _, _), (bE, _, _)] [(b1, _, _)] H2) (by omega) (fun s1' H1' hown1' => ?_) (List.mem_append_left _ List.mem_cons_self)
        have hco1' := hown1'.co
        repeat (refine A1 ⟨?_⟩; intros)
        rename_i b10
        refine WownP hown2 (perm4 _ _ H1' H2) (by omega) (fun s2' H2' hown2' => ?_) List.mem_cons_self
        have hco2' := hown2'.co
        refine WPL.perm (perm5 _ _ H1' H2') ?_
        repeat (refine A1 ⟨?_⟩; intros)
        exact hcont s1' H1' s2' H2' _ _ hown1' hown2' (by (repeat (first | exact LeF.nil _ | refine LeF.cons (Le.refl _) ?_ | refine LeF.cons (Le.int (by omega)) ?_))) (List.sublist_append_left _ _)
      by_cases k6 : nd.k = 6
      · cases vs with
        | nil =>
          have : bstep (envOf names zs) nd [] = none := by unfold bstep; rw [if_neg k1, if_neg k4, if_neg k5, if_pos k6]
          rw [this] at hstep
          exact absurd hstep.1 k1
        | cons v vs1 =>
        cases vs1 with
        | nil =>
          have : bstep (envOf names zs) nd [v] = none := by unfold bstep; rw [if_neg k1, if_neg k4, if_neg k5, if_pos k6]
          rw [this] at hstep
          exact absurd hstep.1 k1
        | cons u r =>
        have hbs' : bstep (envOf names zs) nd (v :: u :: r) = some (bnd u v, r) := by unfold bstep; rw [if_neg k1, if_neg k4, if_neg k5, if_pos k6]
        have hvm := hv1 v (by simp)
        have hum := hv1 u (by simp)
        have hbm : bnd u v ≤ 9223372036854775807 := bnd_le u v
        replace hcont := fun s1' H1' s2' H2' F' H' => hcont (bnd u v) r s1' H1' s2' H2' F' H' hbs' hbm (fun x hx => hv1 x (by simp [hx])) (by simp; omega)
        have cm := mbound_pu u v ⟨by omega, by omega⟩ ⟨by omega, by omega⟩
        rw [Int.toNat_natCast, Int.toNat_natCast] at cm
        generalize bnd u v = q at *
        have hlr : (v :: u :: r).length = r.length + 2 := rfl
        obtain ⟨b1, c1, hnc, hcm, rfl, rfl⟩ := hown1.blk (by simp)
        have hil : (ints (v :: u :: r).reverse).length = (v :: u :: r).length * 1 := by rw [ints_len]; simp
        obtain ⟨hownr, hle⟩ := Own.cut (T := itT) (j := r.length) (b := b1) hil hnc hcm (by simp; omega)
        have hrev : ints (v :: u :: r).reverse = ints r.reverse ++ [lit (.int .i64 (u : Int)), lit (.int .i64 (v : Int))] := by
          rw [List.reverse_cons, List.reverse_cons, List.append_assoc]
          unfold ints
          rw [List.map_append]
          rfl
        have hrl : (ints r.reverse).length = r.length := by rw [ints_len, List.length_reverse]
        have htk : (ints (v :: u :: r).reverse).take (r.length * 1) = ints r.reverse := by
          rw [hrev, Nat.mul_one, List.take_left' hrl]
        have hgt : (ints (v :: u :: r).reverse ++ List.replicate (c1 * 1 - (v :: u :: r).length * 1) top)[(v :: u :: r).length - 1]? = some (lit (.int .i64 (v : Int))) := by
          rw [List.getElem?_append_left (by rw [hil, hlr]; omega), hrev, List.getElem?_append_right (by rw [hrl, hlr]; omega), hrl, show (v :: u :: r).length - 1 - r.length = 1 by rw [hlr]; omega]
          rfl
        have hgt2 : (ints (v :: u :: r).reverse ++ List.replicate (c1 * 1 - (v :: u :: r).length * 1) top)[(v :: u :: r).length - 2]? = some (lit (.int .i64 (u : Int))) := by
          rw [List.getElem?_append_left (by rw [hil, hlr]; omega), hrev, List.getElem?_append_right (by rw [hrl, hlr]; omega), hrl, show (v :: u :: r).length - 2 - r.length = 0 by rw [hlr]; omega]
          rfl
        rw [htk] at hownr hle
        clear hstep hrun hv1 hv2 hbe hs hst hbs' hbs hdrop hget hown1 htk hil hrev hrl
        simp only [List.cons_append, List.nil_append]
        repeat (refine A1 ⟨?_⟩; intros)
        refine Wo (ov_idxS (cs' := ndx nd) rfl rfl (by omega) (by omega) hat hne) ?_
        repeat (first | (refine A1 ⟨?_⟩; intros) | (refine Wcx (cm) ?_) | (refine Wdcx (cm) ?_) | (refine Wcgx (cm) ?_) | (refine Wdcgx (cm) ?_))
        refine Wdo (ov_loadL rfl (by (first | exact List.mem_cons_self | exact (List.mem_cons_of_mem _ List.mem_cons_self) | exact (List.mem_cons_of_mem _ (List.mem_cons_of_mem _ List.mem_cons_self)) | exact (List.mem_cons_of_mem _ (List.mem_cons_of_mem _ (List.mem_cons_of_mem _ List.mem_cons_self))) | exact (List.mem_cons_of_mem _ (List.mem_cons_of_mem _ (List.mem_cons_of_mem _ (List.mem_cons_of_mem _ List.mem_cons_self)))) | exact (List.mem_cons_of_mem _ (List.mem_cons_of_mem _ (List.mem_cons_of_mem _ (List.mem_cons_of_mem _ (List.mem_cons_of_mem _ List.mem_cons_self))))) | exact (List.mem_cons_of_mem _ (List.mem_cons_of_mem _ (List.mem_cons_of_mem _ (List.mem_cons_of_mem _ (List.mem_cons_of_mem _ (List.mem_cons_of_mem _ List.mem_cons_self)))))) | exact (List.mem_cons_of_mem _ (List.mem_cons_of_mem _ (List.mem_cons_of_mem _ (List.mem_cons_of_mem _ (List.mem_cons_of_mem _ (List.mem_cons_of_mem _ (List.mem_cons_of_mem _ List.mem_cons_self))))))))) hgt2) ?_
        repeat (first | (refine A1 ⟨?_⟩; intros) | (refine Wcx (cm) ?_) | (refine Wdcx (cm) ?_) | (refine Wcgx (cm) ?_) | (refine Wdcgx (cm) ?_))
        refine Wdo (ov_loadL rfl (by (first | exact List.mem_cons_self | exact (List.mem_cons_of_mem _ List.mem_cons_self) | exact (List.mem_cons_of_mem _ (List.mem_cons_of_mem _ List.mem_cons_self)) | exact (List.mem_cons_of_mem _ (List.mem_cons_of_mem _ (List.mem_cons_of_mem _ List.mem_cons_self))) | exact (List.mem_cons_of_mem _ (List.mem_cons_of_mem _ (List.mem_cons_of_mem _ (List.mem_cons_of_mem _ List.mem_cons_self)))) | exact (List.mem_cons_of_mem _ (List.mem_cons_of_mem _ (List.mem_cons_of_mem _ (List.mem_cons_of_mem _ (List.mem_cons_of_mem _ List.mem_cons_self))))) | exact (List.mem_cons_of_mem _ (List.mem_cons_of_mem _ (List.mem_cons_of_mem _ (List.mem_cons_of_mem _ (List.mem_cons_of_mem _ (List.mem_cons_of_mem _ List.mem_cons_self)))))) | exact (List.mem_cons_of_mem _ (List.mem_cons_of_mem _ (List.mem_cons_of_mem _ (List.mem_cons_of_mem _ (List.mem_cons_of_mem _ (List.mem_cons_of_mem _ (List.mem_cons_of_mem _ List.mem_cons_self))))))))) hgt) ?_
        repeat (first | (refine A1 ⟨?_⟩; intros) | (refine Wcx (cm) ?_) | (refine Wdcx (cm) ?_) | (refine Wcgx (cm) ?_) | (refine Wdcgx (cm) ?_))
        refine Wo (ov_slTL r.length rfl rfl (by omega) (by omega)) ?_
        refine WPL.lowB (.there _ (.here _)) hle ?_
        repeat (refine A1 ⟨?_⟩; intros)
        rename_i bE b9
        refine WownP hownr (perm3 [(b9, _, _), (bE, _, _)] [(b1, _, _)] H2) (by omega) (fun s1' H1' hown1' => ?_) (List.mem_append_left _ List.mem_cons_self)
        have hco1' := hown1'.co
        repeat (refine A1 ⟨?_⟩; intros)
        rename_i b10
        refine WownP hown2 (perm4 _ _ H1' H2) (by omega) (fun s2' H2' hown2' => ?_) List.mem_cons_self
        have hco2' := hown2'.co
        refine WPL.perm (perm5 _ _ H1' H2') ?_
        repeat (refine A1 ⟨?_⟩; intros)
        exact hcont s1' H1' s2' H2' _ _ hown1' hown2' (by (repeat (first | exact LeF.nil _ | refine LeF.cons (Le.refl _) ?_ | refine LeF.cons (Le.int (by omega)) ?_))) (List.sublist_append_left _ _)
      have hbs' : bstep (envOf names zs) nd vs = some (0, vs) := by unfold bstep; rw [if_neg k1, if_neg k4, if_neg k5, if_neg k6]
      replace hcont := fun s1' H1' s2' H2' F' H' => hcont 0 vs s1' H1' s2' H2' F' H' hbs' (by omega) hv1 (by omega)
      clear hstep hrun hv1 hv2 hbe hs hst hbs' hbs hdrop hget
      repeat (refine A1 ⟨?_⟩; intros)
      refine Wo (ov_idxS (cs' := ndx nd) rfl rfl (by omega) (by omega) hat hne) ?_
      repeat (refine A1 ⟨?_⟩; intros)
      rename_i bE b9
      refine WownP hown1 (perm3 [(b9, _, _), (bE, _, _)] H1 H2) (by omega) (fun s1' H1' hown1' => ?_) (List.mem_append_left _ List.mem_cons_self)
      have hco1' := hown1'.co
      repeat (refine A1 ⟨?_⟩; intros)
      rename_i b10
      refine WownP hown2 (perm4 _ _ H1' H2) (by omega) (fun s2' H2' hown2' => ?_) List.mem_cons_self
      have hco2' := hown2'.co
      refine WPL.perm (perm5 _ _ H1' H2') ?_
      repeat (refine A1 ⟨?_⟩; intros)
      exact hcont s1' H1' s2' H2' _ _ hown1' hown2' (by (repeat (first | exact LeF.nil _ | refine LeF.cons (Le.refl _) ?_ | refine LeF.cons (Le.int (by omega)) ?_))) (List.sublist_append_left _ _)
    · obtain rfl : k = ns.length := by omega
      rw [List.drop_length] at hrun
      have hB' : B = some out := by rw [← hB, ← hrun]; rfl
      have hco2 := hown2.co
      clear hK hrun hB
      subst hB'
      repeat (refine A1 ⟨?_⟩; intros)
      exact endHR _ H2 (end2 (RV.tmp rfl) (RV.tmp rfl) (Le.refl _)) (List.sublist_append_right _ _) ⟨s2, rfl, hown2⟩
theorem brun_le {env : List UInt8 → Option Nat} (hE : ∀ s v, env s = some v → v ≤ maxI) : ∀ {ns : List Nd} {st out o : List Nat}, (∀ x ∈ st, x ≤ maxI) → (∀ x ∈ out, x ≤ maxI) → brun env ns st out = some o → ∀ x ∈ o, x ≤ maxI
  | [], st, out, o, _, h2, h => by obtain rfl := Option.some.inj h; exact h2
  | n :: ns, st, out, o, h1, h2, h => by
    rw [brun_cons] at h
    cases hb : bstep env n st with
    | none => rw [hb] at h; cases h
    | some q =>
      obtain ⟨v, r⟩ := q
      rw [hb] at h
      obtain ⟨g1, g2⟩ := bstep_le hE h1 hb
      refine brun_le (st := v :: r) hE ?_ ?_ h
      · intro x hx
        rcases List.mem_cons.1 hx with rfl | hx
        · exact g1
        · exact g2 x hx
      · intro x hx
        rcases List.mem_append.1 hx with hx | hx
        · exact h2 x hx
        · rw [List.mem_singleton.1 hx]; exact g1
theorem envOf_le {names : List (List UInt8)} {zs : List Int} (hz : ∀ z ∈ zs, i64R z) : ∀ s v, envOf names zs s = some v → v ≤ maxI := by
  intro s v h
  unfold envOf at h
  split at h
  · cases h
  · obtain rfl := Option.some.inj h
    by_cases hk : (fpos names s).toNat < zs.length
    · rw [List.getD, List.getElem?_eq_getElem hk]
      obtain ⟨_, h2⟩ := hz _ (List.getElem_mem hk)
      show (_ : Int).toNat ≤ maxI
      unfold maxI
      simp only [Option.getD_some]
      omega
    · rw [List.getD, List.getElem?_eq_none (by omega)]; decide
theorem ints_pub {l : List Nat} {m : Mem} {b c : Nat} {arr : Array Value} {T : TypeId} (hb : m b = some (.cells arr T (0, 0))) (h : All2 m (ints l ++ List.replicate (c * 1 - l.length * 1) top) arr.toList) (h1 : l.length ≤ c) (h2 : c ≤ maxLen) : (nsl .i64 (l.map Int.ofNat)).p m (.slice (some ⟨b, 0, none⟩) l.length c) := by
  have := pub_ownL (cs := ints l) (n := l.length) hb h h1 h2
  have e : nsl .i64 (l.map Int.ofNat) = sl (ints l) l.length := by
    unfold nsl ints
    rw [List.map_map, List.length_map]
    rfl
  rw [e]
  exact this
theorem allB_some {ns : List Nd} {names : List (List UInt8)} {zs : List Int} {o : Option (List Nat)} (h : allB ns names zs = some o) : (∃ t, otx ns = some t) ∧ names.length = zs.length ∧ o = brun (envOf names zs) ns [] [] ∧ ns ≠ [] := by
  unfold allB at h
  split at h
  · cases h
  · rename_i hn
    have ho : ¬ otx ns = none := fun e => hn (.inl e)
    refine ⟨?_, Decidable.not_not.1 fun e => hn (.inr e), (Option.some.inj h).symm, ?_⟩
    · cases he : otx ns with
      | none => exact absurd he ho
      | some t => exact ⟨t, rfl⟩
    · rintro rfl
      exact ho rfl
theorem allB_out {ns : List Nd} {names : List (List UInt8)} {zs : List Int} (hz : ∀ z ∈ zs, i64R z) {out : List Nat} (h : allB ns names zs = some (some out)) : out.length = ns.length ∧ 0 < out.length ∧ ∀ x ∈ out, x ≤ 9223372036854775807 := by
  obtain ⟨_, _, h2, h3⟩ := allB_some h
  have h4 := brun_len h2.symm
  simp only [List.length_nil, Nat.zero_add] at h4
  exact ⟨h4, by rw [h4]; exact List.length_pos_iff.2 h3, brun_le (envOf_le hz) (fun x hx => by cases hx) (fun x hx => by cases hx) h2.symm⟩
/-- what Expr answers -/
def exR (gi gn : Nat) : Option (Option (List Nat)) → SV
  | none => Ab.tup [lit (.int .i64 0), lit (sent gi)]
  | some none => Ab.tup [lit (.int .i64 0), lit (sent gn)]
  | some (some out) => Ab.tup [lit (.int .i64 (out.getD (out.length - 1) 0 : Nat)), lit .nilIface]
def pkR (gi gn : Nat) : Option (Option (List Nat)) → SV
  | none => Ab.tup [lit (.int .i64 0), lit (sent gi)]
  | some none => Ab.tup [lit (.int .i64 0), lit (sent gn)]
  | some (some out) => Ab.tup [lit (.int .i64 (lmax out : Nat)), lit .nilIface]
theorem bexpr_pu [Sent 0] [Sent 1] (ns : List Nd) {L : Nat} (hok : ∀ n ∈ ns, n.ok L) (hL : L ≤ 20) (hns : ns.length ≤ 30) (names : List (List UInt8)) (hnl : names.length ≤ 1000000) (zs : List Int) (hzl : zs.length ≤ 1000000) (hz : ∀ z ∈ zs, i64R z) :
    Pu Tryz.prog 17 [sl (ns.map ndx).flatten ns.length, sl (names.map str) names.length, nsl .i64 zs] (exR 0 1 (allB ns names zs)) := by
  have c := all_pu ns hok hL hns names hnl zs hzl hz
  match ho : allB ns names zs, c with
  | none, c =>
    unfold exR
    refine Pu.intro Tryz.func17 rfl (by kernel_rfl) fun C => ?_
    repeat (refine A1 ⟨?_⟩; intros)
    refine WfT c ?_
    rintro _ _ ⟨rfl, rfl⟩
    repeat (refine A1 ⟨?_⟩; intros)
    ((first | refine endR ?_ | refine endN ?_); exact end2 (RV.tmp rfl) (RV.tmp rfl) (Le.refl _))
  | some none, c =>
    unfold exR
    refine Pu.intro Tryz.func17 rfl (by kernel_rfl) fun C => ?_
    repeat (refine A1 ⟨?_⟩; intros)
    refine WfT c ?_
    rintro _ _ ⟨rfl, rfl⟩
    repeat (refine A1 ⟨?_⟩; intros)
    ((first | refine endR ?_ | refine endN ?_); exact end2 (RV.tmp rfl) (RV.tmp rfl) (Le.refl _))
  | some (some out), c =>
    unfold exR
    refine Pu.intro Tryz.func17 rfl (by kernel_rfl) fun C => ?_
    repeat (refine A1 ⟨?_⟩; intros)
    refine WfT c ?_
    rintro _ H' ⟨s, rfl, hown⟩
    obtain ⟨o1, o2, o3⟩ := allB_out hz ho
    obtain ⟨b, c1, hnc, hcm, rfl, rfl⟩ := hown.blk o2
    have hgt : (ints out ++ List.replicate (c1 * 1 - out.length * 1) top)[out.length - 1]? = some (lit (.int .i64 ((out.getD (out.length - 1) 0 : Nat) : Int))) := by
      rw [List.getElem?_append_left (by rw [ints_len]; omega)]
      unfold ints
      rw [List.getElem?_map, List.getD, List.getElem?_eq_getElem (show out.length - 1 < out.length by omega)]
      rfl
    clear hown
    simp only [List.nil_append]
    repeat (refine A1 ⟨?_⟩; intros)
    refine Wo (ov_loadL rfl (by (first | exact List.mem_cons_self | exact (List.mem_cons_of_mem _ List.mem_cons_self) | exact (List.mem_cons_of_mem _ (List.mem_cons_of_mem _ List.mem_cons_self)) | exact (List.mem_cons_of_mem _ (List.mem_cons_of_mem _ (List.mem_cons_of_mem _ List.mem_cons_self))) | exact (List.mem_cons_of_mem _ (List.mem_cons_of_mem _ (List.mem_cons_of_mem _ (List.mem_cons_of_mem _ List.mem_cons_self)))) | exact (List.mem_cons_of_mem _ (List.mem_cons_of_mem _ (List.mem_cons_of_mem _ (List.mem_cons_of_mem _ (List.mem_cons_of_mem _ List.mem_cons_self))))) | exact (List.mem_cons_of_mem _ (List.mem_cons_of_mem _ (List.mem_cons_of_mem _ (List.mem_cons_of_mem _ (List.mem_cons_of_mem _ (List.mem_cons_of_mem _ List.mem_cons_self)))))) | exact (List.mem_cons_of_mem _ (List.mem_cons_of_mem _ (List.mem_cons_of_mem _ (List.mem_cons_of_mem _ (List.mem_cons_of_mem _ (List.mem_cons_of_mem _ (List.mem_cons_of_mem _ List.mem_cons_self))))))))) hgt) ?_
    repeat (refine A1 ⟨?_⟩; intros)
    ((first | refine endR ?_ | refine endN ?_); exact end2 (RV.tmp rfl) (RV.tmp rfl) (Le.refl _))
theorem bpeak_pu [Sent 0] [Sent 1] (ns : List Nd) {L : Nat} (hok : ∀ n ∈ ns, n.ok L) (hL : L ≤ 20) (hns : ns.length ≤ 30) (names : List (List UInt8)) (hnl : names.length ≤ 1000000) (zs : List Int) (hzl : zs.length ≤ 1000000) (hz : ∀ z ∈ zs, i64R z) :
    Pu Tryz.prog 20 [sl (ns.map ndx).flatten ns.length, sl (names.map str) names.length, nsl .i64 zs] (pkR 0 1 (allB ns names zs)) := by
  have c := all_pu ns hok hL hns names hnl zs hzl hz
  match ho : allB ns names zs, c with
  | none, c =>
    unfold pkR
    refine Pu.intro Tryz.func20 rfl (by kernel_rfl) fun C => ?_
    repeat (refine A1 ⟨?_⟩; intros)
    refine WfT c ?_
    rintro _ _ ⟨rfl, rfl⟩
    repeat (refine A1 ⟨?_⟩; intros)
    ((first | refine endR ?_ | refine endN ?_); exact end2 (RV.tmp rfl) (RV.tmp rfl) (Le.refl _))
  | some none, c =>
    unfold pkR
    refine Pu.intro Tryz.func20 rfl (by kernel_rfl) fun C => ?_
    repeat (refine A1 ⟨?_⟩; intros)
    refine WfT c ?_
    rintro _ _ ⟨rfl, rfl⟩
    repeat (refine A1 ⟨?_⟩; intros)
    ((first | refine endR ?_ | refine endN ?_); exact end2 (RV.tmp rfl) (RV.tmp rfl) (Le.refl _))
  | some (some out), c =>
    unfold pkR
    refine Pu.intro Tryz.func20 rfl (by kernel_rfl) fun C => ?_
    repeat (refine A1 ⟨?_⟩; intros)
    refine WfT c ?_
    rintro _ H' ⟨s, rfl, hown⟩
    obtain ⟨o1, o2, o3⟩ := allB_out hz ho
    obtain ⟨b, c1, hnc, hcm, rfl, rfl⟩ := hown.blk o2
    have cm := max_pu out (List.length_pos_iff.1 o2) (by omega) o3
    clear hown
    simp only [List.nil_append]
    repeat (refine A1 ⟨?_⟩; intros)
    refine WPL.pub (d := 20) (s' := nsl .i64 (out.map Int.ofNat)) (HDel.here _) rfl (fun m arr h1 h2 => ints_pub h1 h2 hnc hcm) ?_
    repeat (first | (refine A1 ⟨?_⟩; intros) | (refine Wcx (cm) ?_) | (refine Wdcx (cm) ?_) | (refine Wcgx (cm) ?_) | (refine Wdcgx (cm) ?_))
    ((first | refine endR ?_ | refine endN ?_); exact end2 (RV.tmp rfl) (RV.tmp rfl) (Le.refl _))
end Go.Ab
/- The law PrinterRefuses, walked: it returns true. -/
namespace Go.Ab
open Go.Proofs
set_option linter.unusedSectionVars false
set_option linter.unusedVariables false
set_option linter.unusedSimpArgs false
variable [Base]
theorem zr_ok {L : Nat} : (⟨false, [], []⟩ : RQ).ok L := ⟨D.nil, D.nil, Nat.zero_le _, Nat.zero_le _⟩
end Go.Ab
/- The bounds' sanity check; BoundNumbers and BoundMerges, walked. -/
namespace Go.Ab
open Go.Proofs
set_option linter.unusedSectionVars false
set_option linter.unusedVariables false
set_option linter.unusedSimpArgs false
variable [Base]
def kText : List UInt8 := [97, 32, 42, 32, 98]
def kToks : List Tok := [⟨1, [97], 1, 1⟩, ⟨3, [42], 1, 3⟩, ⟨1, [98], 1, 5⟩, ⟨0, [], 1, 6⟩]
def kNs : List Nd := [ndN ⟨1, [97], 1, 1⟩, ndN ⟨1, [98], 1, 5⟩, ndB 2 0 1 ⟨3, [42], 1, 3⟩]
theorem kLex : lexT kText = some kToks := by kernel_rfl
theorem kPrs : prsAll kToks = some (kNs, .bi (ndB 2 0 1 ⟨3, [42], 1, 3⟩) (.leaf (ndN ⟨1, [97], 1, 1⟩)) (.leaf (ndN ⟨1, [98], 1, 5⟩))) := by kernel_rfl
theorem kNs_ok : ∀ n ∈ kNs, n.ok 4 := by
  intro n hn
  simp only [kNs, List.mem_cons, List.not_mem_nil, or_false] at hn
  rcases hn with rfl | rfl | rfl <;> exact ⟨zr_ok, zr_ok, zr_ok, zr_ok, by decide⟩
theorem kAll : allB kNs [[97], [98]] [4, 3] = some (some [4, 3, 19]) := by decide +kernel
theorem i64_43 : ∀ z ∈ [(4 : Int), 3], i64R z := by
  intro z hz
  simp only [List.mem_cons, List.not_mem_nil, or_false] at hz
  unfold i64R
  omega
theorem known31 [Sent 0] [Sent 1] [Sent 5] [Sent 4] : Pu Tryz.prog 12 [] (lit (.bool true)) := by
  have c := parseExpr_pu kText (by decide) (by decide)
  have ce := bexpr_pu kNs kNs_ok (by omega) (by decide) [[97], [98]] (by decide) [4, 3] (by decide) i64_43
  have cb := build_pu 3 (by unfold i64R; omega)
  rw [show tri (3 : Int).toNat = 6 from by decide] at cb
  rw [kAll] at ce
  unfold exR at ce
  simp only at ce
  refine Pu.intro Tryz.func12 rfl (by kernel_rfl) fun C => ?_
  repeat (refine A1 ⟨?_⟩; intros)
  refine WfT c ?_
  rintro r H' hr
  unfold prR at hr
  rw [kLex] at hr
  simp only [kPrs] at hr
  obtain ⟨s, rfl, hown⟩ := hr
  obtain ⟨b1, c1, hnc, hcm, rfl, rfl⟩ := hown.blk (by decide)
  repeat (refine A1 ⟨?_⟩; intros)
  simp only [List.nil_append]
  refine WpubS 11 rfl (HDel.there _ (HDel.here _)) (by omega) (by omega) ?_
  refine WpubS 12 rfl (HDel.here _) (by omega) (by omega) ?_
  refine WPL.low 12 rfl (s' := nsl .i64 [4, 3]) (Le.of_eq (by unfold nsl; rfl)) ?_
  refine WPL.pub (d := 10) (s' := sl (kNs.map ndx).flatten kNs.length) (HDel.here _) rfl (fun m arr h1 h2 => pub_ownL h1 h2 hnc hcm) ?_
  repeat (first | (refine A1 ⟨?_⟩; intros) | (refine Wcx (ce) ?_) | (refine Wdcx (ce) ?_) | (refine Wcgx (ce) ?_) | (refine Wdcgx (ce) ?_) | (refine Wcx (cb) ?_) | (refine Wdcx (cb) ?_) | (refine Wcgx (cb) ?_) | (refine Wdcgx (cb) ?_))
  ((first | refine endR ?_ | refine endN ?_); exact end1 (RV.tmp rfl) (Le.refl _))
end Go.Ab
