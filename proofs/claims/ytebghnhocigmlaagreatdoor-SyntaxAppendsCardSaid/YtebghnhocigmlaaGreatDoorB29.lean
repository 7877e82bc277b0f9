/- Texts laid one behind the other: GLexG, ReadS, Same, SameE, Bal. -/
import Derived.Test.YtebghnhocigmlaaGreatDoorB20
import Derived.Test.YtebghnhocigmlaaGreatDoorB28
import Derived.Test.YtebghnhocigmlaaGreatDoorB12
import Derived.Test.YtebghnhocigmlaaGreatDoorB13
import Derived.Test.YtebghnhocigmlaaGreatDoorB04
import Derived.Test.YtebghnhocigmlaaGreatDoorB26
import Derived.Test.YtebghnhocigmlaaGreatDoorB15
/- What the lexer gives are tokens as the parser wants them. -/
namespace Go.Ab
open Go.Proofs
set_option linter.unusedSectionVars false
set_option linter.unusedVariables false
set_option linter.unusedSimpArgs false
variable [Base]
theorem cls4 {b : Nat} (h : clsN b = 4) : 48 ≤ b ∧ b ≤ 57 := by
  unfold clsN at h
  split at h
  · exact absurd h (by decide)
  · split at h
    · exact absurd h (by decide)
    · split at h
      · assumption
      · split at h
        · exact absurd h (by decide)
        · split at h <;> exact absurd h (by decide)
theorem grun_D : ∀ (l : List UInt8), allD (l.take (grun isD l))
  | [] => by intro b hb; cases hb
  | a :: l => by
    cases h : isD (clsN a.toNat) with
    | false => rw [grun_f h]; intro b hb; cases hb
    | true =>
      rw [grun_t h]
      intro b hb
      rw [List.take_succ_cons] at hb
      rcases List.mem_cons.1 hb with rfl | hb
      · exact cls4 (of_decide_eq_true h)
      · exact grun_D l b hb
theorem gnx_gok {l : List UInt8} {ln cl : Nat} {t : Tok} {n : Nat} (h : gnx l ln cl = .ok (t, n)) : t.gok ∧ (t.k = 0 → t.t = []) := by
  unfold gnx at h
  generalize gsk false l ln cl = q at *
  obtain ⟨q, lq, cq⟩ := q
  simp only at h
  cases hr : l.drop q with
  | nil =>
    rw [hr] at h
    simp only [Except.ok.injEq, Prod.mk.injEq] at h
    obtain ⟨rfl, rfl⟩ := h
    exact ⟨.inl ⟨rfl, rfl⟩, fun _ => rfl⟩
  | cons b r =>
    rw [hr] at h
    simp only at h
    by_cases h3 : clsN b.toNat = 3
    · rw [if_pos h3] at h
      split at h
      · cases h
      · simp only [Except.ok.injEq, Prod.mk.injEq] at h
        obtain ⟨rfl, rfl⟩ := h
        exact ⟨.inr (.inl rfl), fun h => by cases h⟩
    rw [if_neg h3] at h
    by_cases h4 : clsN b.toNat = 4
    · rw [if_pos h4] at h
      split at h
      · cases h
      · next hle =>
        simp only [Except.ok.injEq, Prod.mk.injEq] at h
        obtain ⟨rfl, rfl⟩ := h
        refine ⟨.inr (.inr (.inl ⟨rfl, grun_D _, ?_, ?_⟩)), fun h => by cases h⟩
        · simp only
          rw [grun_t (show isD (clsN b.toNat) = true by rw [h4]; rfl), List.take_succ_cons]
          exact List.cons_ne_nil _ _
        · simp only [List.length_take]
          omega
    rw [if_neg h4] at h
    split at h
    · simp only [Except.ok.injEq, Prod.mk.injEq] at h
      obtain ⟨rfl, rfl⟩ := h
      exact ⟨.inr (.inr (.inr rfl)), fun h => by cases h⟩
    · cases h
theorem GOk.mk {t : Tok} {ts : List Tok} (h0 : t.k ≠ 0) (hg : t.gok) (h : GOk ts) : GOk (t :: ts) := by
  cases ts with
  | nil => exact h.elim
  | cons a r => exact ⟨⟨h0, hg⟩, h⟩
theorem glexF_ok : ∀ (f : Nat) (l : List UInt8) (ln cl : Nat) (ts : List Tok), glexF f l ln cl = .ok ts → GOk ts ∧ ts.length ≤ l.length + 1 := by
  intro f
  induction f with
  | zero => intro l ln cl ts h; cases h
  | succ f ih =>
    intro l ln cl ts h
    rw [glexF_succ] at h
    cases hn : gnx l ln cl with
    | error e => rw [hn] at h; cases h
    | ok q =>
      obtain ⟨t, n⟩ := q
      rw [hn] at h
      simp only at h
      have hg := gnx_gok hn
      have hb := gnx_bd hn
      split at h
      · next h0 =>
        cases h
        exact ⟨⟨h0, hg.2 h0⟩, by simp⟩
      · next h0 =>
        split at h
        · cases h
        · next ts2 hr =>
          cases h
          have := ih _ _ _ _ hr
          rw [List.length_drop] at this
          have := hb.2.1 h0
          exact ⟨GOk.mk h0 hg.1 (ih _ _ _ _ hr).1, by simp only [List.length_cons]; omega⟩
theorem glex_ok {l : List UInt8} {ts : List Tok} (h : glex l = .ok ts) : GOk ts ∧ ts.length ≤ l.length + 1 := glexF_ok _ _ _ _ _ h
end Go.Ab
/- grammar.read for scripts, with its deferred closure; syntax.Parse. -/
namespace Go.Ab
open Go.Proofs
set_option linter.unusedSectionVars false
set_option linter.unusedVariables false
set_option linter.unusedSimpArgs false
variable [Base]
abbrev readSF : FuncId := 49
abbrev readSC : FuncId := 92
theorem scatch_idle (p q : Addr) (w : World) : CallsD Tryz.prog readSC #[.pointer (some p), .pointer (some q)] .returning w fun e u' w' => (∃ v, e = .returned v) ∧ u' = .returning ∧ w' = w := by
  refine callsD_of_wpS Tryz.func92 rfl fun c₀ cs hu => ?_
  apply wpS_seq
  apply wpS_region
  simp [wpOpsS, go_sem, recoverD, hu, Exit.thenS]
  apply wpS_seq
  apply wpS_region
  simp [wpOpsS, go_sem, Exit.thenS]
  refine wpS_cond (t := false) (by simp [Act.eval, Array.replicate]) ?_
  simp only [Bool.false_eq_true, if_false]
  refine wpS_of_wp (wp_skip ?_)
  cases c₀
  simp_all [bodyPostS, results, Exit.thenS]
theorem ov_assertS {F : Fr} {H : LH} {ty : TypeId} {x : Operand} {ad : Addr} (hx : ev F x = lit (.iface 32 (.pointer (some ad)))) : OpV Tryz.prog (.typeAssert x 20 32 true) ty F H (Ab.tup [lit (.pointer (some ad)), lit (.bool true)]) :=
  OpV.pure fun m w o a ho _ _ _ h => by
    have h0 := h x (by simp [Op.operands]); rw [hx, lit_p] at h0
    have hrun : (Instr.typeAssert (.iface 32 (.pointer (some ad))) 20 32 true).run Tryz.prog w = .ok (.tuple #[.pointer (some ad), .bool true]) w := by kernel_rfl
    refine ⟨.tuple #[.pointer (some ad), .bool true], by simp [execOp, ho, h0, hrun], ?_⟩
    unfold Ab.tup
    exact ⟨_, rfl, lit_p.2 rfl, lit_p.2 rfl, trivial⟩
theorem scatch_rec {b2 b3 : Nat} {ad : Addr} {w : World} {m : Mem} {s0 e0 : SV} {v : Value} (hm : MemIn m w) (hv : (lit (.iface 32 (.pointer (some ad)))).p m v) (hH : HOk m w [(b3, 25, [e0]), (b2, 23, [s0])]) :
    CallsD Tryz.prog readSC #[.pointer (some ⟨b2, 0, none⟩), .pointer (some ⟨b3, 0, none⟩)] (.panicking [{ v := v, recovered := false }]) w fun e u' w' => (∃ v', e = .returned v') ∧ u' = .panicking [{ v := v, recovered := true }] ∧
      ∃ m', MemIn m' w' ∧ HOk m' w' [(b3, 25, [lit (.iface 32 (.pointer (some ad)))]), (b2, 23, [lit (.slice none 0 0)])] ∧ Rel [b3, b2] m w m' w' := by
  have hv' := lit_p.1 hv
  subst hv'
  refine callsD_of_wpS Tryz.func92 rfl fun c₀ cs hu => ?_
  apply wpS_seq
  apply wpS_region
  simp [wpOpsS, go_sem, recoverD, hu, Exit.thenS]
  refine wpS_eng (C := ⟨[b3, b2], m, w, noX, []⟩) (n := 20) (F := fm [(0, lit (.pointer (some ⟨b2, 0, none⟩))), (1, lit (.pointer (some ⟨b3, 0, none⟩))), (2, lit (.iface 32 (.pointer (some ad))))]) (H := [(b3, 25, [e0]), (b2, 23, [s0])])
    (Q := fun e _ H' => e = .normal ∧ [(b3, 25, [lit (.iface 32 (.pointer (some ad)))]), (b2, 23, [lit (.slice none 0 0)])].Sublist H') ?_ ⟨rfl, by simp, m, hm, hH, Rel.refl _ _ _, fun e he => .inl (by simp at he ⊢; rcases he with rfl | rfl <;> simp), fm_ok _ ?_⟩ ?_
  · repeat (refine A1 ⟨?_⟩; intros)
    refine Wo (ov_assertS rfl) ?_
    repeat (refine A1 ⟨?_⟩; intros)
    exact ⟨rfl, by repeat (first | exact List.Sublist.refl _ | refine List.Sublist.cons _ ?_)⟩
  · intro e he
    simp only [List.mem_cons, List.not_mem_nil, or_false] at he
    rcases he with rfl | rfl | rfl
    · rw [lit_p]; simp
    · rw [lit_p]; simp
    · rw [lit_p]; simp
  · rintro e a' w' (⟨F', H', ⟨hdef, _, m', hm', hH', hr', h4', hp'⟩, rfl, hsub⟩ | ⟨ch, rfl, _, _, _, _, _, _, _, _, _, _, _, hx⟩)
    · refine ⟨hdef, _, rfl, .tuple #[], ?_, ⟨_, rfl⟩, rfl, m', hm', hH'.sub' hsub, hr'⟩
      simp [results]
    · exact hx.elim
theorem tup2_lit {m : Mem} {a b : SV} {u v : Value} (h : (Ab.tup [a, lit u]).p m v) (hu : b.p m u) : (Ab.tup [a, b]).p m v := by
  unfold Ab.tup at *
  obtain ⟨arr, rfl, hall⟩ := h
  refine ⟨arr, rfl, ?_⟩
  revert hall
  generalize arr.toList = l
  intro hall
  match l, hall with
  | [x, y], hall =>
    have h2 := lit_p.1 hall.2.1
    subst h2
    exact ⟨hall.1, hu, trivial⟩
/-- a panic of the parser: the closure hands it back as the error -/
theorem sread_pan {C : Ctx} {b4 b5 : Nat} {a' : Act} {w' : World} {m' : Mem} {F : Fr} {Hx : LH} {s0 e0 pv : SV} {v : Value} {R : SV → LH → Prop} (hdef : a'.defers = [⟨.fn (.func readSC) #[.pointer (some ⟨b4, 0, none⟩), .pointer (some ⟨b5, 0, none⟩)], #[]⟩]) (hm' : MemIn m' w')
    (hH : HOk m' w' Hx) (hs : [(b5, 25, [e0]), (b4, 23, [s0])].Sublist Hx) (hrel : Rel C.ks C.m C.w m' w') (hown : ∀ e ∈ Hx, e.1 ∈ C.ks ∨ C.w.heap.size ≤ e.1) {er : Er} (hE : pv = erSV er) (hpv : pv.p m' v) (hF : ∀ t, (F t).p m' (a'.tmps.getD t undef))
    (h4 : F 4 = lit (.pointer (some ⟨b4, 0, none⟩))) (h5 : F 5 = lit (.pointer (some ⟨b5, 0, none⟩))) (hR : R (Ab.tup [lit (.slice none 0 0), erSV er]) []) : bodyPostD Tryz.prog Tryz.f49 (dRes C R) (.panic [{ v := v, recovered := false }]) a' w' := by
  subst hE
  have hpv0 := hpv
  unfold erSV ifc pt at hpv0
  obtain ⟨u, rfl, bb, off, rfl, _⟩ := hpv0
  refine dpan (g := readSC) (cv := #[.pointer (some ⟨b4, 0, none⟩), .pointer (some ⟨b5, 0, none⟩)]) (by kernel_rfl) hdef ?_
  refine (scatch_rec (ad := ⟨bb, off, none⟩) hm' (lit_p.2 rfl) (hH.sub' hs)).mono ?_
  rintro e u' w2 ⟨he, hu, m2, g1, g2, g3⟩
  refine ⟨he, hu, ?_⟩
  have hFt : ∀ t, (F t).p m2 (a'.tmps.getD t undef) := fun x => SV.mono _ g3.le (hF x)
  obtain ⟨v2, hv2, hp2⟩ := run_end (fn := Tryz.f49) (tmps := a'.tmps) (P := Tryz.prog) rfl (end2 (RV.cell1 (b := b4) h4 (List.mem_cons_of_mem _ List.mem_cons_self) rfl) (RV.cell1 (b := b5) h5 List.mem_cons_self rfl) (Le.refl _)) g1 g2 hFt
  refine ⟨v2, hv2, m2, [], g1, ⟨by simp, fun e he => by cases he⟩, hrel.trans g3 fun x hx hk => ?_, (fun e he => by cases he), v2, _, rfl, tup2_lit hp2 ((erSV er).mono g3.le hpv), hR⟩
  have : x ∈ C.ks ∨ C.w.heap.size ≤ x := by
    simp only [List.mem_cons, List.not_mem_nil, or_false] at hk
    rcases hk with rfl | rfl
    · exact hown _ (hs.subset List.mem_cons_self)
    · exact hown _ (hs.subset (List.mem_cons_of_mem _ List.mem_cons_self))
  rcases this with h | h
  · exact h
  · exact absurd hx (Nat.not_lt.2 h)
def gpR (l : List UInt8) : SV → LH → Prop := fun r H' => match gscript l with
  | .ok ss => ∃ s, r = Ab.tup [s, lit .nilIface] ∧ Own stT 19 ss.length (ss.map stx).flatten s H'
  | .error e => r = Ab.tup [lit (.slice none 0 0), erSV e]
set_option maxHeartbeats 4000000 in
theorem sread_pu [Sent 4] [Sent 3] [Sent 5] [Sent 7] (l : List UInt8) (hl : l.length ≤ 65536) :
    PuH Tryz.prog readSF [str l, lit (.func (.func 50) #[] #[])] [] (gpR l) noX := by
  have c0 := gtokens_pu l hl
  unfold gpR gscript
  cases hlx : glex l with
  | error e =>
    rw [hlx] at c0
    change Pu _ _ _ (Ab.tup [lit (.slice none 0 0), erSV e]) at c0
    refine PuH.introD Tryz.func49 rfl (by kernel_rfl) fun C hC0 hC1 => ?_
    refine WPT.seqR hC0 ?_
    repeat (refine A1 ⟨?_⟩; intros)
    rename_i b4 b5
    refine onR.i ?_
    refine WPT.seqR hC0 ?_
    repeat (first | (refine A1 ⟨?_⟩; intros) | (refine Wcx (c0) ?_) | (refine Wdcx (c0) ?_) | (refine Wcgx (c0) ?_) | (refine Wdcgx (c0) ?_))
    refine Ss ?_
    refine Ws (sv := erSV e) ?_
    repeat (refine A1 ⟨?_⟩; intros)
    refine onR.i ?_
    refine WPT.seqR hC0 ?_
    repeat (refine A1 ⟨?_⟩; intros)
    refine Wo (ov_ineF (s := pt _) (by kernel_rfl) rfl) ?_
    repeat (first | (refine AS ⟨?_⟩; intros) | (refine O1 ⟨?_⟩; intros))
    refine WdA ?_
    repeat' (first | (refine A1 ⟨?_⟩; intros) | exact WPI.nil | refine And.intro ?_ ?_ | (refine Ss ?_; refine Ws (sv := erSV e) ?_))
    all_goals
      refine onR.r ?_
      exact dret hC1 (end2 (RV.cell1 (b := b4) rfl (List.mem_cons_of_mem _ List.mem_cons_self) rfl) (RV.cell1 (b := b5) rfl List.mem_cons_self rfl) (Le.refl _)) (List.nil_sublist _) rfl
  | ok ts =>
    rw [hlx] at c0
    change Pu _ _ _ (Ab.tup [toks ts, lit .nilIface]) at c0
    refine PuH.introD Tryz.func49 rfl (by kernel_rfl) fun C hC0 hC1 => ?_
    refine WPT.seqR hC0 ?_
    repeat (refine A1 ⟨?_⟩; intros)
    rename_i b4 b5
    refine onR.i ?_
    refine WPT.seqR hC0 ?_
    repeat (first | (refine A1 ⟨?_⟩; intros) | (refine Wcx (c0) ?_) | (refine Wdcx (c0) ?_) | (refine Wcgx (c0) ?_) | (refine Wdcgx (c0) ?_))
    refine onR.i ?_
    refine WPT.seqR hC0 ?_
    repeat (refine A1 ⟨?_⟩; intros)
    refine onR.i ?_
    refine WPT.defer (cv := [.pointer (some ⟨b4, 0, none⟩), .pointer (some ⟨b5, 0, none⟩)]) (X1 := noX) rfl rfl fun C1 hC => ?_
    rw [hC1] at hC
    have hC2 : ∀ pv H, ¬ C1.pan pv H := fun pv H h => by rw [hC] at h; exact h
    refine WPT.seq hC2 ?_
    repeat (refine A1 ⟨?_⟩; intros)
    rename_i p
    refine onN.i ?_
    refine WPT.reg ?_
    refine WTL.val (op := .move _) Ov0 ?_ rfl
    refine WTL.val (op := .move _) Ov0 ?_ rfl
    have hT := glex_ok hlx
    have ce := gscript1_pu p ts hT.1 (by omega) (lit (.slice none 0 0)) inferInstance
    refine WTL.call (s := lit (.func (.func 50) #[] #[])) (l := [.tmp 22]) rfl ce (Tk.perm (Tk.cons (HDel.here _) (Tk.nil _))) rfl rfl ?_ ?_
    · rintro v H' ⟨ss, e, s1, Hs, hp, hss, he0, hco1, hown, rfl⟩
      have hco := hown.co
      have c1 := pnext_pu s1 hco1 e [] 0 (by simp)
      refine WTL.wpl hC2 ?_
      refine WPL.perm (H' := (p, psT, psC [e] 0 s1) :: (b5, 25, [lit Value.nilIface]) :: (b4, 23, [lit (Value.slice none 0 0)]) :: Hs) (List.Perm.cons _ List.perm_append_comm) ?_
      refine Ss ?_
      refine Ws (sv := v) ?_
      repeat (refine A1 ⟨?_⟩; intros)
      refine WPT.fin (Q := endH Tryz.prog Tryz.f49.results _) ?_ (dfin ⟨_, hC⟩ (by kernel_rfl) hC2 fun w => scatch_idle _ _ w)
      repeat (refine A1 ⟨?_⟩; intros)
      refine Wo (ov_callT c1 rfl (by (first | exact List.mem_cons_self | exact (List.mem_cons_of_mem _ List.mem_cons_self) | exact (List.mem_cons_of_mem _ (List.mem_cons_of_mem _ List.mem_cons_self)) | exact (List.mem_cons_of_mem _ (List.mem_cons_of_mem _ (List.mem_cons_of_mem _ List.mem_cons_self))) | exact (List.mem_cons_of_mem _ (List.mem_cons_of_mem _ (List.mem_cons_of_mem _ (List.mem_cons_of_mem _ List.mem_cons_self)))) | exact (List.mem_cons_of_mem _ (List.mem_cons_of_mem _ (List.mem_cons_of_mem _ (List.mem_cons_of_mem _ (List.mem_cons_of_mem _ List.mem_cons_self))))) | exact (List.mem_cons_of_mem _ (List.mem_cons_of_mem _ (List.mem_cons_of_mem _ (List.mem_cons_of_mem _ (List.mem_cons_of_mem _ (List.mem_cons_of_mem _ List.mem_cons_self)))))) | exact (List.mem_cons_of_mem _ (List.mem_cons_of_mem _ (List.mem_cons_of_mem _ (List.mem_cons_of_mem _ (List.mem_cons_of_mem _ (List.mem_cons_of_mem _ (List.mem_cons_of_mem _ List.mem_cons_self)))))))))) ?_
      repeat (refine A1 ⟨?_⟩; intros)
      refine Ss ?_
      refine Ws (sv := v) ?_
      repeat (refine A1 ⟨?_⟩; intros)
      refine endHR _ Hs (end2 (RV.cell1 (b := b4) rfl (List.mem_cons_of_mem _ (List.mem_cons_of_mem _ List.mem_cons_self)) rfl) (RV.cell1 (b := b5) rfl (List.mem_cons_of_mem _ List.mem_cons_self) rfl) (Le.refl _)) (by repeat (first | exact List.Sublist.refl _ | refine List.Sublist.cons _ ?_)) ?_
      simp only [hp]
      exact ⟨v, rfl, hown⟩
    · subst hC
      rintro v pv H' m' a' w' ⟨e, hn, hE⟩ hdef hm' hH' hrel hown hpv hF
      refine sread_pan (b4 := b4) (b5 := b5) (s0 := lit (.slice none 0 0)) (e0 := lit .nilIface) hdef hm' hH' (List.Sublist.trans ?_ (List.sublist_append_right _ _)) hrel hown hE hpv hF rfl rfl ?_
      · exact List.Sublist.cons_cons _ (List.Sublist.cons_cons _ (List.nil_sublist _))
      · simp only [hn]
/-- what Parse gives, its list finished -/
abbrev stsS (ss : List Stm) : SV := sl (ss.map stx).flatten ss.length
def gpS (l : List UInt8) : SV := match gscript l with
  | .ok ss => Ab.tup [stsS ss, lit .nilIface]
  | .error e => Ab.tup [lit (.slice none 0 0), erSV e]
theorem gscript_pu [Sent 4] [Sent 3] [Sent 5] [Sent 7] (l : List UInt8) (hl : l.length ≤ 65536) : Pu Tryz.prog 25 [str l] (gpS l) := by
  have c := sread_pu l hl
  unfold gpS
  refine PuH.toPu ?_
  cases hp : gscript l with
  | error e =>
    replace c := c.mono (R' := fun r _ => r = Ab.tup [lit (.slice none 0 0), erSV e]) (X' := noX) (fun r H h => by unfold gpR at h; rw [hp] at h; exact h) (fun _ _ h => h)
    refine PuH.intro Tryz.func25 rfl (by kernel_rfl) fun C hC => ?_
    repeat (refine A1 ⟨?_⟩; intros)
    refine WfT c ?_
    rintro _ H' rfl
    repeat (refine A1 ⟨?_⟩; intros)
    exact endHR _ _ (end2 (RV.tmp rfl) (RV.tmp rfl) (Le.refl _)) (List.nil_sublist _) rfl
  | ok ss =>
    replace c := c.mono (R' := fun r H' => ∃ s, r = Ab.tup [s, lit .nilIface] ∧ Own stT 19 ss.length (ss.map stx).flatten s H') (X' := noX) (fun r H h => by unfold gpR at h; rw [hp] at h; exact h) (fun _ _ h => h)
    refine PuH.intro Tryz.func25 rfl (by kernel_rfl) fun C hC => ?_
    repeat (refine A1 ⟨?_⟩; intros)
    refine WfT c ?_
    rintro _ H' ⟨s, rfl, hown⟩
    simp only [List.nil_append]
    (refine O1 ⟨?_⟩; intros)
    refine WPL.pubOwn (d := 6) (Rs := []) hown (by rw [List.append_nil]) rfl ?_
    repeat (refine A1 ⟨?_⟩; intros)
    exact endHR _ _ (end2 (RV.tmp rfl) (RV.tmp rfl) (Le.refl _)) (List.nil_sublist _) rfl
theorem parseT_pu [Sent 4] [Sent 3] [Sent 5] [Sent 7] (l : List UInt8) (hl : l.length ≤ 65536) : Pu Tryz.prog 9 [str l] (gpS l) := by
  have c := gscript_pu l hl
  unfold gpS at *
  cases hp : gscript l with
  | error e =>
    rw [hp] at c
    simp only at c ⊢
    refine Pu.intro Tryz.func9 rfl (by kernel_rfl) fun C => ?_
    repeat (first | (refine A1 ⟨?_⟩; intros) | (refine Wcx (c) ?_) | (refine Wdcx (c) ?_) | (refine Wcgx (c) ?_) | (refine Wdcgx (c) ?_))
    exact endR (end2 (RV.tmp rfl) (RV.tmp rfl) (Le.refl _))
  | ok ss =>
    rw [hp] at c
    simp only at c ⊢
    refine Pu.intro Tryz.func9 rfl (by kernel_rfl) fun C => ?_
    repeat (first | (refine A1 ⟨?_⟩; intros) | (refine Wcx (c) ?_) | (refine Wdcx (c) ?_) | (refine Wcgx (c) ?_) | (refine Wdcgx (c) ?_))
    exact endR (end2 (RV.tmp rfl) (RV.tmp rfl) (Le.refl _))
end Go.Ab
/- The reference's equality of expressions, walked (positions do not count). -/
namespace Go.Ab
open Go.Proofs
set_option linter.unusedSectionVars false
set_option linter.unusedVariables false
set_option linter.unusedSimpArgs false
variable [Base]
abbrev RQ.sh (r : RQ) : Prop := r.n.length ≤ 1000000 ∧ r.d.length ≤ 1000000
abbrev Nd.sh (n : Nd) : Prop := n.a.sh ∧ n.b.sh ∧ n.c.sh ∧ n.e.sh
end Go.Ab
/- The reference's equality of scripts: equal ones are found equal (positions do not count). -/
namespace Go.Ab
open Go.Proofs
set_option linter.unusedSectionVars false
set_option linter.unusedVariables false
set_option linter.unusedSimpArgs false
variable [Base]
section
variable {P : Program}
attribute [local semireducible] Pu in
theorem Pu.ofLenS {f : FuncId} {cs : List SV} {n : Nat} {rest : List SV} {res : SV} (hb : bodied P f = true) (k : n ≤ 9223372036854775807 → Pu P f (sl cs n :: rest) res) : Pu P f (sl cs n :: rest) res :=
  ⟨hb, fun m w vs h1 h2 => by
    have hn : n ≤ 9223372036854775807 := by
      match vs, h2 with
      | v :: vs, h2 =>
        have h := h2.1
        unfold sl at h
        obtain ⟨a, cap, _, g1, g2, _⟩ := h
        have : maxLen = 9223372036854775807 := by decide
        omega
    exact (k hn).2 m w vs h1 h2⟩
theorem Pu.ofLen {f : FuncId} {ds : List Nat} {rest : List SV} {res : SV} (hb : bodied P f = true) (k : ds.length ≤ 9223372036854775807 → Pu P f (dg ds :: rest) res) : Pu P f (dg ds :: rest) res := by
  rw [dg_sl]
  refine Pu.ofLenS hb fun h => ?_
  rw [← dg_sl]
  exact k h
end
section
variable {P : Program} {C : Ctx} {n : Nat} {F : Fr} {H : LH} {Q : Exit → Fr → LH → Prop}
/-- a slice is no longer than a number of type int -/
theorem WP.lenS {c : Code} {d k : Nat} {cs : List SV} (hd : F d = sl cs k) (h : k ≤ 9223372036854775807 → WP P C n c Q F H) : WP P C n c Q F H := by
  unfold WP at *
  intro a w hs
  refine h ?_ a w hs
  obtain ⟨_, _, m, _, _, _, _, h5⟩ := hs
  have h0 := h5 d
  rw [hd] at h0
  unfold sl at h0
  obtain ⟨_, cap, _, g1, g2, _⟩ := h0
  have : maxLen = 9223372036854775807 := by decide
  omega
end
theorem sameN_e (xs : List Nat) : Pu Tryz.prog 158 [dg xs, dg xs] (lit (.bool true)) := by
  refine Pu.ofLen (by kernel_rfl) fun hx => ?_
  refine Pu.intro Tryz.func158 rfl (by kernel_rfl) fun C => ?_
  repeat (refine A1 ⟨?_⟩; intros)
  refine WP.loop (ι := Nat) (fun k => k ≤ xs.length) (fun k => xs.length - k) (fun k => fm [(0, dg xs), (1, dg xs), (11, dg xs), (12, lit (.int .i64 xs.length)), (13, lit (.int .i64 k))]) (fun _ => []) 0
    (Nat.zero_le _) (by (repeat (first | exact LeF.nil _ | refine LeF.cons (Le.refl _) ?_ | refine LeF.cons (Le.int (by omega)) ?_))) rfl ?_
  rintro k hk K hK
  by_cases hkl : k < xs.length
  · repeat (refine A1 ⟨?_⟩; intros)
    exact hK _ _ (k + 1) (by omega) (by omega) (by (repeat (first | exact LeF.nil _ | refine LeF.cons (Le.refl _) ?_ | refine LeF.cons (Le.int (by omega)) ?_))) rfl
  · have hke : k = xs.length := by omega
    subst hke
    repeat (refine A1 ⟨?_⟩; intros)
    exact endR (end1 (RV.tmp rfl) (Le.refl _))
theorem sameI_e (s : Bool) (xs : List Nat) : Pu Tryz.prog 157 [raw s xs, raw s xs] (lit (.bool true)) := by
  cases s <;>
  · refine Pu.intro Tryz.func157 rfl (by kernel_rfl) fun C => ?_
    repeat (first | (refine A1 ⟨?_⟩; intros) | (refine Wcx (sameN_e _) ?_) | (refine Wdcx (sameN_e _) ?_) | (refine Wcgx (sameN_e _) ?_) | (refine Wdcgx (sameN_e _) ?_))
    ((first | refine endR ?_ | refine endN ?_); exact end1 (RV.tmp rfl) (Le.refl _))
theorem sameQ_e (s : Bool) (xs ys : List Nat) : Pu Tryz.prog 105 [qraw s xs ys, qraw s xs ys] (lit (.bool true)) := by
  have c1 := sameI_e s xs
  have c2 := sameN_e ys
  refine Pu.intro Tryz.func105 rfl (by kernel_rfl) fun C => ?_
  repeat (first | (refine A1 ⟨?_⟩; intros) | (refine Wcx (c1) ?_) | (refine Wdcx (c1) ?_) | (refine Wcgx (c1) ?_) | (refine Wdcgx (c1) ?_) | (refine Wcx (c2) ?_) | (refine Wdcx (c2) ?_) | (refine Wcgx (c2) ?_) | (refine Wdcgx (c2) ?_))
  ((first | refine endR ?_ | refine endN ?_); exact end1 (RV.tmp rfl) (Le.refl _))
theorem sameP_e (a b : RQ) : Pu Tryz.prog 57 [pr a b, pr a b] (lit (.bool true)) := by
  have c1 := sameQ_e a.s a.n a.d
  have c2 := sameQ_e b.s b.n b.d
  refine Pu.intro Tryz.func57 rfl (by kernel_rfl) fun C => ?_
  repeat (first | (refine A1 ⟨?_⟩; intros) | (refine Wcx (c1) ?_) | (refine Wdcx (c1) ?_) | (refine Wcgx (c1) ?_) | (refine Wdcgx (c1) ?_) | (refine Wcx (c2) ?_) | (refine Wdcx (c2) ?_) | (refine Wcgx (c2) ?_) | (refine Wdcgx (c2) ?_))
  ((first | refine endR ?_ | refine endN ?_); exact end1 (RV.tmp rfl) (Le.refl _))
theorem ptx_len (x : Rat × Rat) : (ptx x).length = 6 := rfl
theorem samePs_e (ps : List (Rat × Rat)) : Pu Tryz.prog 54 [ptsS ps, ptsS ps] (lit (.bool true)) := by
  refine Pu.ofLenS (by kernel_rfl) fun hl => ?_
  refine Pu.intro Tryz.func54 rfl (by kernel_rfl) fun C => ?_
  repeat (refine A1 ⟨?_⟩; intros)
  refine WP.loopS (ι := Nat) (fun k => k ≤ ps.length) (fun k => ps.length - k)
    (fun k => (fm [(0, ptsS ps), (1, ptsS ps), (12, lit (.int .i64 ps.length)), (13, lit (.int .i64 k))])) (fun _ => []) 0 (Nat.zero_le _) (by (repeat (first | exact LeF.nil _ | refine LeF.cons (Le.refl _) ?_ | refine LeF.cons (Le.int (by omega)) ?_))) (List.nil_sublist _) ?_
  rintro k hk K hK
  by_cases hkl : k < ps.length
  · have hget := List.getElem?_eq_getElem hkl
    generalize ps[k] = x at hget
    have hat := flat_at (f := ptx) (n := 6) ptx_len hget
    have hne : (ps.map ptx).flatten ≠ [] := flat_ne ptx_len (by omega) (fun e => by rw [e] at hkl; simp at hkl)
    have c : Pu Tryz.prog 57 [ag (ptx x), ag (ptx x)] (lit (.bool true)) := sameP_e (RQ.of x.1) (RQ.of x.2)
    have hgo := fun F' H' => hK F' H' (k + 1) (by omega) (by omega)
    clear hK hget
    repeat (first | (refine AS ⟨?_⟩; intros) | (refine O1 ⟨?_⟩; intros))
    refine WdN 10 ?_
    repeat (refine A1 ⟨?_⟩; intros)
    refine Wdo (ov_idxS (cs' := ptx x) rfl rfl (by omega) (by omega) hat hne) ?_
    repeat (refine A1 ⟨?_⟩; intros)
    refine Wdo (ov_idxS (cs' := ptx x) rfl rfl (by omega) (by omega) hat hne) ?_
    repeat (first | (refine A1 ⟨?_⟩; intros) | (refine Wcx (c) ?_) | (refine Wdcx (c) ?_) | (refine Wcgx (c) ?_) | (refine Wdcgx (c) ?_))
    exact hgo _ _ (by (repeat (first | exact LeF.nil _ | refine LeF.cons (Le.refl _) ?_ | refine LeF.cons (Le.int (by omega)) ?_))) (List.nil_sublist _)
  · obtain rfl : k = ps.length := by omega
    clear hK
    repeat (refine A1 ⟨?_⟩; intros)
    ((first | refine endR ?_ | refine endN ?_); exact end1 (RV.tmp rfl) (Le.refl _))
theorem chx_len (c : Chn) : (chx c).length = 13 := rfl
theorem rgx_len (r : List (Rat × Rat)) : (rgx r).length = 1 := rfl
set_option maxHeartbeats 8000000 in
theorem sameOl_e (far : Bool) (rs : List (List (Rat × Rat))) (cs : List Chn) :
    Pu Tryz.prog 55 [ag [lit (.bool far), rgsS rs, chsS cs], ag [lit (.bool far), rgsS rs, chsS cs]] (lit (.bool true)) := by
  have hfar : (far != far) = false := by cases far <;> rfl
  refine Pu.intro Tryz.func55 rfl (by kernel_rfl) fun C => ?_
  repeat (refine A1 ⟨?_⟩; intros)
  rename_i b2 b3
  rw [hfar]
  repeat (refine A1 ⟨?_⟩; intros)
  refine WP.lenS (d := 33) rfl fun hr => ?_
  refine WP.loopS (ι := Nat) (fun k => k ≤ rs.length) (fun k => rs.length - k)
    (fun k => (fm [(2, lit (.pointer (some ⟨b2, 0, none⟩))), (3, lit (.pointer (some ⟨b3, 0, none⟩))), (34, lit (.int .i64 rs.length)), (35, lit (.int .i64 k))])) (fun _ => [(b3, olT, [lit (.bool far), rgsS rs, chsS cs]), (b2, olT, [lit (.bool far), rgsS rs, chsS cs])]) 0 (Nat.zero_le _) (by (repeat (first | exact LeF.nil _ | refine LeF.cons (Le.refl _) ?_ | refine LeF.cons (Le.int (by omega)) ?_))) (List.Sublist.refl _) ?_
  rintro k hk K hK
  by_cases hkl : k < rs.length
  · have hget := List.getElem?_eq_getElem hkl
    generalize rs[k] = x at hget
    have hat := flat_at (f := rgx) (n := 1) rgx_len hget
    have hne : (rs.map rgx).flatten ≠ [] := flat_ne rgx_len (by omega) (fun e => by rw [e] at hkl; simp at hkl)
    have c := samePs_e x
    have hgo := fun F' H' => hK F' H' (k + 1) (by omega) (by omega)
    clear hK hget
    repeat (first | (refine AS ⟨?_⟩; intros) | (refine O1 ⟨?_⟩; intros))
    refine WdN 12 ?_
    repeat (refine A1 ⟨?_⟩; intros)
    refine Wdo (ov_idxS (cs' := rgx x) rfl rfl (by omega) (by omega) hat hne) ?_
    repeat (refine A1 ⟨?_⟩; intros)
    refine Wdo (ov_idxS (cs' := rgx x) rfl rfl (by omega) (by omega) hat hne) ?_
    repeat (first | (refine A1 ⟨?_⟩; intros) | (refine Wcx (c) ?_) | (refine Wdcx (c) ?_) | (refine Wcgx (c) ?_) | (refine Wdcgx (c) ?_))
    exact hgo _ _ (by (repeat (first | exact LeF.nil _ | refine LeF.cons (Le.refl _) ?_ | refine LeF.cons (Le.int (by omega)) ?_))) (List.Sublist.refl _)
  obtain rfl : k = rs.length := by omega
  clear hK hkl
  repeat (refine A1 ⟨?_⟩; intros)
  refine WP.lenS (d := 52) rfl fun hc => ?_
  refine WP.loopS (ι := Nat) (fun k => k ≤ cs.length) (fun k => cs.length - k)
    (fun k => (fm [(2, lit (.pointer (some ⟨b2, 0, none⟩))), (3, lit (.pointer (some ⟨b3, 0, none⟩))), (53, lit (.int .i64 cs.length)), (54, lit (.int .i64 k))])) (fun _ => [(b3, olT, [lit (.bool far), rgsS rs, chsS cs]), (b2, olT, [lit (.bool far), rgsS rs, chsS cs])]) 0 (Nat.zero_le _) (by (repeat (first | exact LeF.nil _ | refine LeF.cons (Le.refl _) ?_ | refine LeF.cons (Le.int (by omega)) ?_))) (List.Sublist.refl _) ?_
  rintro k hk K hK
  by_cases hkl : k < cs.length
  · have hget := List.getElem?_eq_getElem hkl
    generalize cs[k] = x at hget
    have hat := flat_at (f := chx) (n := 13) chx_len hget
    have hne : (cs.map chx).flatten ≠ [] := flat_ne chx_len (by omega) (fun e => by rw [e] at hkl; simp at hkl)
    have c := samePs_e x.m
    have c1 : Pu Tryz.prog 57 [ag (ptx x.a), ag (ptx x.a)] (lit (.bool true)) := sameP_e (RQ.of x.a.1) (RQ.of x.a.2)
    have c2 : Pu Tryz.prog 57 [ag (ptx x.b), ag (ptx x.b)] (lit (.bool true)) := sameP_e (RQ.of x.b.1) (RQ.of x.b.2)
    have hgo := fun F' H' => hK F' H' (k + 1) (by omega) (by omega)
    clear hK hget
    repeat (first | (refine AS ⟨?_⟩; intros) | (refine O1 ⟨?_⟩; intros))
    refine WdL 12 1 ?_
    repeat (refine A1 ⟨?_⟩; intros)
    refine Wdo (ov_idxS (cs' := chx x) rfl rfl (by omega) (by omega) hat hne) ?_
    repeat (refine A1 ⟨?_⟩; intros)
    refine Wdo (ov_idxS (cs' := chx x) rfl rfl (by omega) (by omega) hat hne) ?_
    repeat (refine A1 ⟨?_⟩; intros)
    refine dL2 fun b7 b8 => ?_
    refine Gs (sv := ag (chx x)) (cs' := chx x) rfl rfl rfl (by first | exact .here _ | exact .there _ (.here _)) rfl rfl ?_ ?_
    · (repeat (first | exact LOk.nil | refine Lsk ?_ | refine Lcv ?_ | refine Lcv ?_ (hop := ov_idxS (cs' := chx x) rfl rfl (by omega) (by omega) hat hne)))
    refine Gn ?_ ?_
    · (repeat (first | exact LOk.nil | refine Lsk ?_ | refine Lcv ?_ | refine Lcv ?_ (hop := ov_idxS (cs' := chx x) rfl rfl (by omega) (by omega) hat hne)))
    repeat (first | (refine A1 ⟨?_⟩; intros) | (refine Wcx (c) ?_) | (refine Wdcx (c) ?_) | (refine Wcgx (c) ?_) | (refine Wdcgx (c) ?_) | (refine Wcx (c1) ?_) | (refine Wdcx (c1) ?_) | (refine Wcgx (c1) ?_) | (refine Wdcgx (c1) ?_) | (refine Wcx (c2) ?_) | (refine Wdcx (c2) ?_) | (refine Wcgx (c2) ?_) | (refine Wdcgx (c2) ?_))
    exact hgo _ _ (by (repeat (first | exact LeF.nil _ | refine LeF.cons (Le.refl _) ?_ | refine LeF.cons (Le.int (by omega)) ?_))) (by repeat (first | exact List.Sublist.refl _ | refine List.Sublist.cons _ ?_))
  obtain rfl : k = cs.length := by omega
  clear hK hkl
  repeat (refine A1 ⟨?_⟩; intros)
  ((first | refine endR ?_ | refine endN ?_); exact end1 (RV.tmp rfl) (Le.refl _))
theorem clr_eq {n m : Nd} (h : n.clr = m.clr) : m = { n with ln := m.ln, cl := m.cl } := by
  cases n; cases m
  simp only [Nd.clr, Nd.mk.injEq] at h ⊢
  simp only [h, and_self]
set_option maxHeartbeats 4000000 in
theorem sameEx_e (ns ms : List Nd) (h : clrL ns = clrL ms) : Pu Tryz.prog 56 [exS ns, exS ms, lit (.bool false)] (lit (.bool true)) := by
  have hl := clrL_len h
  refine Pu.ofLenS (by kernel_rfl) fun hl2 => ?_
  refine Pu.intro Tryz.func56 rfl (by kernel_rfl) fun C => ?_
  repeat (refine A1 ⟨?_⟩; intros)
  refine WP.loopS (ι := Nat) (fun k => k ≤ ns.length) (fun k => ns.length - k)
    (fun k => (fm [(1, exS ms), (2, lit (.bool false)), (15, exS ns), (16, lit (.int .i64 ns.length)), (17, lit (.int .i64 k))])) (fun _ => []) 0 (Nat.zero_le _) (by (repeat (first | exact LeF.nil _ | refine LeF.cons (Le.refl _) ?_ | refine LeF.cons (Le.int (by omega)) ?_))) (List.nil_sublist _) ?_
  rintro k hk K hK
  by_cases hkl : k < ns.length
  · have hget1 := List.getElem?_eq_getElem hkl
    have hget2 := List.getElem?_eq_getElem (l := ms) (i := k) (by omega)
    have hclr : (ns[k]).clr = (ms[k]'(by omega)).clr := by
      have h1 : (clrL ns)[k]? = (clrL ms)[k]? := by rw [h]
      simp only [clrL, List.getElem?_map, hget1, hget2, Option.map_some, Option.some.injEq] at h1
      exact h1
    generalize ns[k] = n at hget1 hclr
    generalize ms[k] = m at hget2 hclr
    have hm := clr_eq hclr
    have hat1 := flat_at (f := ndx) (n := 19) ndx_len hget1
    have hne1 : (ns.map ndx).flatten ≠ [] := flat_ne ndx_len (by omega) (fun e => by rw [e] at hkl; simp at hkl)
    have hat2 := flat_at (f := ndx) (n := 19) ndx_len hget2
    have hne2 : (ms.map ndx).flatten ≠ [] := flat_ne ndx_len (by omega) (fun e => by rw [e] at hget2; simp at hget2)
    have p1 := sameP_e n.a n.b
    have p2 := sameP_e n.c n.e
    have hgo := fun F' H' => hK F' H' (k + 1) (by omega) (by omega)
    generalize m.ln = ml at hm
    generalize m.cl = mc at hm
    subst hm
    clear hK hget1 hget2 hclr h
    dsimp only [ndx] at hat2
    repeat (refine A1 ⟨?_⟩; intros)
    refine Wo (ov_idxS (cs' := ndx n) rfl rfl (by omega) (by omega) hat1 hne1) ?_
    repeat (refine A1 ⟨?_⟩; intros)
    refine Wo (ov_idxS rfl rfl (by omega) (by omega) hat2 hne2) ?_
    have q2 : n.nm = n.nm := rfl
    repeat (first | (refine A1 ⟨?_⟩; intros) | (refine Wcx (p1) ?_) | (refine Wdcx (p1) ?_) | (refine Wcgx (p1) ?_) | (refine Wdcgx (p1) ?_) | (refine Wcx (p2) ?_) | (refine Wdcx (p2) ?_) | (refine Wcgx (p2) ?_) | (refine Wdcgx (p2) ?_))
    exact hgo _ _ (by (repeat (first | exact LeF.nil _ | refine LeF.cons (Le.refl _) ?_ | refine LeF.cons (Le.int (by omega)) ?_))) (List.nil_sublist _)
  · obtain rfl : k = ns.length := by omega
    clear hK
    repeat (refine A1 ⟨?_⟩; intros)
    ((first | refine endR ?_ | refine endN ?_); exact end1 (RV.tmp rfl) (Le.refl _))
theorem nmx_len (r : List UInt8) : (nmx r).length = 1 := rfl
set_option maxHeartbeats 8000000 in
theorem sameSt_e (s t : Stm) (h : SS s t) : Pu Tryz.prog 29 [ag (stx s), ag (stx t), lit (.bool false)] (lit (.bool true)) := by
  have h' : s.clr = t.clr := h
  have he1 : clrL s.e1 = clrL t.e1 := congrArg Stm.e1 h'
  have he2 : clrL s.e2 = clrL t.e2 := congrArg Stm.e2 h'
  obtain ⟨sk, sl', sc, nm, bd, ps, fl, nms, ⟨far, rs, cs⟩, e1, e2, px, py⟩ := s
  obtain ⟨tk, tl, tc, nm', bd', ps', fl', nms', ⟨far', rs', cs'⟩, f1, f2, px', py'⟩ := t
  simp only [Stm.clr, Stm.mk.injEq, Otl.mk.injEq] at h'
  obtain ⟨rfl, -, -, rfl, rfl, rfl, rfl, rfl, ⟨rfl, rfl, rfl⟩, -, -, rfl, rfl⟩ := h'
  simp only at he1 he2
  have q2 : nm = nm := rfl
  have c1 := samePs_e ps
  have c2 := sameOl_e far rs cs
  have c3 := sameEx_e e1 f1 he1
  have c4 := sameEx_e e2 f2 he2
  have c5 := sameP_e px py
  clear h he1 he2
  show Pu _ _ [ag [lit (.int .i64 (sk : Nat)), lit (.int .i64 (sl' : Nat)), lit (.int .i64 (sc : Nat)), str nm, lit (.int .i64 (bd : Nat)), ptsS ps, lit (.int .i64 (fl : Nat)), nmsS nms, lit (.bool far), rgsS rs, chsS cs, exS e1, exS e2, lit (.bool px.s), dg px.n, dg px.d, lit (.bool py.s), dg py.n, dg py.d],
    ag [lit (.int .i64 (sk : Nat)), lit (.int .i64 (tl : Nat)), lit (.int .i64 (tc : Nat)), str nm, lit (.int .i64 (bd : Nat)), ptsS ps, lit (.int .i64 (fl : Nat)), nmsS nms, lit (.bool far), rgsS rs, chsS cs, exS f1, exS f2, lit (.bool px.s), dg px.n, dg px.d, lit (.bool py.s), dg py.n, dg py.d], lit (.bool false)] _
  refine Pu.intro Tryz.func29 rfl (by kernel_rfl) fun C => ?_
  repeat (refine A1 ⟨?_⟩; intros)
  rename_i b3 b4
  refine WP.lenS (d := 61) rfl fun hn => ?_
  refine WP.loopS (ι := Nat) (fun k => k ≤ nms.length) (fun k => nms.length - k)
    (fun k => (fm [(2, lit (.bool false)), (3, lit (.pointer (some ⟨b3, 0, none⟩))), (4, lit (.pointer (some ⟨b4, 0, none⟩))), (62, lit (.int .i64 nms.length)), (63, lit (.int .i64 k))]))
    (fun _ => [(b4, stT, [lit (.int .i64 (sk : Nat)), lit (.int .i64 (tl : Nat)), lit (.int .i64 (tc : Nat)), str nm, lit (.int .i64 (bd : Nat)), ptsS ps, lit (.int .i64 (fl : Nat)), nmsS nms, lit (.bool far), rgsS rs, chsS cs, exS f1, exS f2, lit (.bool px.s), dg px.n, dg px.d, lit (.bool py.s), dg py.n, dg py.d]),
      (b3, stT, [lit (.int .i64 (sk : Nat)), lit (.int .i64 (sl' : Nat)), lit (.int .i64 (sc : Nat)), str nm, lit (.int .i64 (bd : Nat)), ptsS ps, lit (.int .i64 (fl : Nat)), nmsS nms, lit (.bool far), rgsS rs, chsS cs, exS e1, exS e2, lit (.bool px.s), dg px.n, dg px.d, lit (.bool py.s), dg py.n, dg py.d])]) 0 (Nat.zero_le _) (by (repeat (first | exact LeF.nil _ | refine LeF.cons (Le.refl _) ?_ | refine LeF.cons (Le.int (by omega)) ?_))) (List.Sublist.refl _) ?_
  rintro k hk K hK
  by_cases hkl : k < nms.length
  · have hget := List.getElem?_eq_getElem hkl
    generalize nms[k] = x at hget
    have hat := flat_at (f := nmx) (n := 1) nmx_len hget
    have hne : (nms.map nmx).flatten ≠ [] := flat_ne nmx_len (by omega) (fun e => by rw [e] at hkl; simp at hkl)
    have q3 : x = x := rfl
    have hgo := fun F' H' => hK F' H' (k + 1) (by omega) (by omega)
    clear hK hget c1 c2 c3 c4 c5
    repeat (first | (refine AS ⟨?_⟩; intros) | (refine O1 ⟨?_⟩; intros))
    refine WdN 11 ?_
    repeat (refine A1 ⟨?_⟩; intros)
    refine Wdo (ov_idxS (cs' := nmx x) rfl rfl (by omega) (by omega) hat hne) ?_
    repeat (refine A1 ⟨?_⟩; intros)
    refine Wdo (ov_idxS (cs' := nmx x) rfl rfl (by omega) (by omega) hat hne) ?_
    repeat (refine A1 ⟨?_⟩; intros)
    exact hgo _ _ (by (repeat (first | exact LeF.nil _ | refine LeF.cons (Le.refl _) ?_ | refine LeF.cons (Le.int (by omega)) ?_))) (List.Sublist.refl _)
  obtain rfl : k = nms.length := by omega
  clear hK hkl
  repeat (first | (refine A1 ⟨?_⟩; intros) | (refine Wcx (c1) ?_) | (refine Wdcx (c1) ?_) | (refine Wcgx (c1) ?_) | (refine Wdcgx (c1) ?_) | (refine Wcx (c2) ?_) | (refine Wdcx (c2) ?_) | (refine Wcgx (c2) ?_) | (refine Wdcgx (c2) ?_) | (refine Wcx (c3) ?_) | (refine Wdcx (c3) ?_) | (refine Wcgx (c3) ?_) | (refine Wdcgx (c3) ?_) | (refine Wcx (c4) ?_) | (refine Wdcx (c4) ?_) | (refine Wcgx (c4) ?_) | (refine Wdcgx (c4) ?_) | (refine Wcx (c5) ?_) | (refine Wdcx (c5) ?_) | (refine Wcgx (c5) ?_) | (refine Wdcgx (c5) ?_))
  ((first | refine endR ?_ | refine endN ?_); exact end1 (RV.tmp rfl) (Le.refl _))
set_option maxHeartbeats 4000000 in
theorem sameSts_e (a b : List Stm) (h : a.map Stm.clr = b.map Stm.clr) : Pu Tryz.prog 12 [stsS a, stsS b, lit (.bool false)] (lit (.bool true)) := by
  have hl : a.length = b.length := by
    have := congrArg List.length h
    simpa using this
  refine Pu.ofLenS (by kernel_rfl) fun hl2 => ?_
  refine Pu.intro Tryz.func12 rfl (by kernel_rfl) fun C => ?_
  repeat (refine A1 ⟨?_⟩; intros)
  refine WP.loopS (ι := Nat) (fun k => k ≤ a.length) (fun k => a.length - k)
    (fun k => (fm [(0, stsS a), (1, stsS b), (2, lit (.bool false)), (14, lit (.int .i64 a.length)), (15, lit (.int .i64 k))])) (fun _ => []) 0 (Nat.zero_le _) (by (repeat (first | exact LeF.nil _ | refine LeF.cons (Le.refl _) ?_ | refine LeF.cons (Le.int (by omega)) ?_))) (List.nil_sublist _) ?_
  rintro k hk K hK
  by_cases hkl : k < a.length
  · have hget1 := List.getElem?_eq_getElem hkl
    have hget2 := List.getElem?_eq_getElem (l := b) (i := k) (by omega)
    have hclr : SS (a[k]) (b[k]'(by omega)) := by
      have h1 : (a.map Stm.clr)[k]? = (b.map Stm.clr)[k]? := by rw [h]
      simp only [List.getElem?_map, hget1, hget2, Option.map_some, Option.some.injEq] at h1
      exact h1
    generalize a[k] = n at hget1 hclr
    generalize b[k] = m at hget2 hclr
    have hat1 := flat_at (f := stx) (n := 19) stx_len hget1
    have hne1 : (a.map stx).flatten ≠ [] := flat_ne stx_len (by omega) (fun e => by rw [e] at hkl; simp at hkl)
    have hat2 := flat_at (f := stx) (n := 19) stx_len hget2
    have hne2 : (b.map stx).flatten ≠ [] := flat_ne stx_len (by omega) (fun e => by rw [e] at hget2; simp at hget2)
    have c := sameSt_e n m hclr
    have hgo := fun F' H' => hK F' H' (k + 1) (by omega) (by omega)
    clear hK hget1 hget2 hclr h
    repeat (first | (refine AS ⟨?_⟩; intros) | (refine O1 ⟨?_⟩; intros))
    refine WdN 11 ?_
    repeat (refine A1 ⟨?_⟩; intros)
    refine Wdo (ov_idxS (cs' := stx n) rfl rfl (by omega) (by omega) hat1 hne1) ?_
    repeat (refine A1 ⟨?_⟩; intros)
    refine Wdo (ov_idxS (cs' := stx m) rfl rfl (by omega) (by omega) hat2 hne2) ?_
    repeat (first | (refine A1 ⟨?_⟩; intros) | (refine Wcx (c) ?_) | (refine Wdcx (c) ?_) | (refine Wcgx (c) ?_) | (refine Wdcgx (c) ?_))
    exact hgo _ _ (by (repeat (first | exact LeF.nil _ | refine LeF.cons (Le.refl _) ?_ | refine LeF.cons (Le.int (by omega)) ?_))) (List.nil_sublist _)
  · obtain rfl : k = a.length := by omega
    clear hK
    repeat (refine A1 ⟨?_⟩; intros)
    ((first | refine endR ?_ | refine endN ?_); exact end1 (RV.tmp rfl) (Le.refl _))
end Go.Ab
/- Balanced texts; what the printer writes is balanced. -/
namespace Go.Ab
open Go.Proofs
set_option linter.unusedSectionVars false
set_option linter.unusedVariables false
set_option linter.unusedSimpArgs false
variable [Base]
def bcnt (b : UInt8) (l : List UInt8) : Nat := (l.filter fun x => decide (x = b)).length
theorem bcnt_append (b : UInt8) (l r : List UInt8) : bcnt b (l ++ r) = bcnt b l + bcnt b r := by unfold bcnt; rw [List.filter_append, List.length_append]
theorem bcnt_cons (b a : UInt8) (l : List UInt8) : bcnt b (a :: l) = (if a = b then 1 else 0) + bcnt b l := by
  unfold bcnt
  rw [List.filter_cons]
  by_cases h : a = b
  · rw [if_pos h, if_pos (by simpa using h)]; simp; omega
  · rw [if_neg h, if_neg (by simpa using h)]; omega
theorem bcnt_none {b : UInt8} {l : List UInt8} (h : ∀ x ∈ l, x ≠ b) : bcnt b l = 0 := by
  unfold bcnt
  rw [List.filter_eq_nil_iff.2 fun x hx => by simpa using h x hx]; rfl
theorem bcnt_take_drop (b : UInt8) (l : List UInt8) (k : Nat) : bcnt b (l.take k) + bcnt b (l.drop k) = bcnt b l := by
  rw [← bcnt_append, List.take_append_drop]
/-- opening brackets less closing ones -/
def lev (l : List UInt8) : Int := (bcnt 40 l : Int) - bcnt 41 l
theorem lev_append (l r : List UInt8) : lev (l ++ r) = lev l + lev r := by unfold lev; rw [bcnt_append, bcnt_append]; omega
structure Bal (l : List UInt8) : Prop where
  zero : lev l = 0
  pos : ∀ k, 0 ≤ lev (l.take k)
theorem Bal.append {l r : List UInt8} (h : Bal l) (k : Bal r) : Bal (l ++ r) := by
  refine ⟨by rw [lev_append, h.zero, k.zero]; rfl, fun n => ?_⟩
  rw [List.take_append, lev_append]
  have := h.pos n
  have := k.pos (n - l.length)
  omega
theorem Bal.plain {l : List UInt8} (h : ∀ x ∈ l, x ≠ 40 ∧ x ≠ 41) : Bal l := by
  have g : ∀ r : List UInt8, (∀ x ∈ r, x ∈ l) → lev r = 0 := fun r hr => by
    unfold lev
    rw [bcnt_none fun x hx => (h x (hr x hx)).1, bcnt_none fun x hx => (h x (hr x hx)).2]; rfl
  exact ⟨g l fun _ hx => hx, fun k => by rw [g _ fun x hx => List.mem_of_mem_take hx]; exact Int.le_refl _⟩
theorem Bal.wrap {l : List UInt8} (h : Bal l) : Bal ([40] ++ l ++ [41]) := by
  have h1 : lev [40] = 1 := by decide
  have h2 : lev [41] = -1 := by decide
  refine ⟨by rw [lev_append, lev_append, h.zero, h1, h2]; rfl, fun n => ?_⟩
  cases n with
  | zero => exact Int.le_refl _
  | succ n =>
    rw [List.append_assoc, List.singleton_append, List.take_succ_cons, show ∀ r : List UInt8, (40 : UInt8) :: r = [40] ++ r from fun _ => rfl, lev_append, h1, List.take_append, lev_append]
    have := h.pos n
    have h3 : -1 ≤ lev (([41] : List UInt8).take (n - l.length)) := by
      cases n - l.length with
      | zero => decide
      | succ m => rw [List.take_succ_cons, List.take_nil, h2]; exact Int.le_refl _
    omega
theorem Bal.par {l : List UInt8} (h : Bal l) (b : Bool) : Bal (par b l) := by
  unfold Ab.par
  split
  · exact h.wrap
  · exact h
/-- no half-plane, names of letters alone -/
def Ex.let : Ex → Bool
  | .leaf n => decide (n.k ≠ 4) && n.nm.all fun b => decide (clsN b.toNat = 3)
  | .un _ x => x.let
  | .bi _ l r => l.let && r.let
end Go.Ab
