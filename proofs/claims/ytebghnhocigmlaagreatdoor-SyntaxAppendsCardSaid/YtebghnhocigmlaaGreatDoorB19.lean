/- Texts laid one behind the other: GPH, GPF, GPX2, GPE, GStS, GPO2. -/
import Derived.Test.YtebghnhocigmlaaGreatDoorB17
import Derived.Test.YtebghnhocigmlaaGreatDoorB18
import Derived.Test.YtebghnhocigmlaaGreatDoorB16
import Derived.Test.YtebghnhocigmlaaGreatDoorB04
import Derived.Test.YtebghnhocigmlaaGreatDoorB13
namespace Go.Ab
open Go.Proofs
set_option linter.unusedSectionVars false
set_option linter.unusedVariables false
set_option linter.unusedSimpArgs false
variable [Base]
def ndH0 (p q : Rat × Rat) : Nd := ⟨4, [], RQ.of p.1, RQ.of p.2, RQ.of q.1, RQ.of q.2, 0, 0, 0, 0, 0⟩
set_option maxHeartbeats 8000000 in
theorem ghalf_pu [Sent 4] [Sent 3] [Sent 5] (p f d : Nat) (a : Tok) (r : List Tok) (ns : List Nd) (s : SV) (Hs : LH) (hown : Own exPT 19 ns.length (ns.map ndx).flatten s Hs) (hT : GOk (a :: r)) (hn : ns.length + r.length ≤ 100000)
    (t1 : gis (a :: r) [126] = false) (t2 : gis (a :: r) [40] = false) (t3 : gis (a :: r) wAll = false) (t4 : gis (a :: r) wNone = false) (t5 : gis (a :: r) wHalf = true) :
    PuH Tryz.prog 253 [ptrP p] ((p, psT, psC (a :: r) d s) :: Hs) (GvR p (f + 1) 3 d (a :: r) ns) (GvX (f + 1) 3 d (a :: r) ns) := by
  have hco := hown.co
  have c0 := pnext_pu s hco a r d (by omega)
  have c1 := gis_pu s hco a r d (by omega) [126]
  have c2 := gis_pu s hco a r d (by omega) [40]
  have c3 := gaccept_pu s hco p a r d (by omega) wAll
  have c4 := gaccept_pu s hco p a r d (by omega) wNone
  have c5 := gaccept_pu s hco p a r d (by omega) wHalf
  have hprs := gx_3 f d ns.length (a :: r)
  simp only [List.tail_cons, Ab.hd, List.headD_cons] at hprs
  unfold GvR GvX
  rw [t1] at c1
  rw [t2] at c2
  rw [t3, if_neg (by decide)] at c3
  rw [t4, if_neg (by decide)] at c4
  rw [t5, if_pos rfl] at c5
  rw [t1, if_neg (by decide), t2, if_neg (by decide), t3, if_neg (by decide), t4, if_neg (by decide), t5, if_pos rfl] at hprs
  have c6 := gpoint_pu s hco p r (hT.next t5) d (by omega)
  refine PuH.intro Tryz.func253 rfl (by kernel_rfl) fun C hC => ?_
  repeat (refine A1 ⟨?_⟩; intros)
  refine Wo (ov_callT c0 rfl (by repeat (first | exact List.mem_cons_self | apply List.mem_cons_of_mem))) ?_
  repeat (refine A1 ⟨?_⟩; intros)
  refine Wo (ov_callT c1 rfl (by repeat (first | exact List.mem_cons_self | apply List.mem_cons_of_mem))) ?_
  repeat (refine A1 ⟨?_⟩; intros)
  refine Wo (ov_callT c2 rfl (by repeat (first | exact List.mem_cons_self | apply List.mem_cons_of_mem))) ?_
  repeat (refine A1 ⟨?_⟩; intros)
  refine WfT c3 ?_ (hs := Tk.skip _ (Tk.cons (HDel.here _) (Tk.nil _)))
  rintro _ _ ⟨rfl, rfl⟩
  refine WPL.perm List.perm_append_comm ?_
  refine WPL.perm (List.Perm.swap _ _ _) ?_
  repeat (refine A1 ⟨?_⟩; intros)
  refine WfT c4 ?_ (hs := Tk.skip _ (Tk.cons (HDel.here _) (Tk.nil _)))
  rintro _ _ ⟨rfl, rfl⟩
  refine WPL.perm List.perm_append_comm ?_
  refine WPL.perm (List.Perm.swap _ _ _) ?_
  repeat (refine A1 ⟨?_⟩; intros)
  refine WfT c5 ?_ (hs := Tk.skip _ (Tk.cons (HDel.here _) (Tk.nil _)))
  rintro _ _ ⟨rfl, rfl⟩
  refine WPL.perm List.perm_append_comm ?_
  refine WPL.perm (List.Perm.swap _ _ _) ?_
  repeat (refine A1 ⟨?_⟩; intros)
  refine WfX c6 ?_ ?_ (hs := Tk.skip _ (Tk.cons (HDel.here _) (Tk.nil _)))
  · rintro _ _ ⟨q1, tq, e1, rfl, rfl⟩
    rw [e1] at hprs
    simp only at hprs
    have g1 := gpt_ok (hT.next t5) e1
    have c7 := gpoint_pu s hco p tq g1.1 d (by omega)
    cases e2 : gpt tq with
    | error e =>
      rw [e2] at hprs
      replace c7 := c7.mono (R' := fun _ _ => False) (X' := fun pv _ => pv = erSV e) (fun _ _ h => by obtain ⟨x, t, h, _⟩ := h; rw [e2] at h; cases h) (fun _ _ h => by obtain ⟨x, h, hx⟩ := h; rw [e2] at h; cases h; exact hx)
      refine WPL.perm List.perm_append_comm ?_
      simp only [List.cons_append, List.nil_append]
      clear c1 c2 c3 c4 c5 c6
      repeat (first | (refine AS ⟨?_⟩; intros) | (refine O1 ⟨?_⟩; intros))
      refine WP.perm permA ?_
      refine WdZ 6 [0, 1, 2, 5, 3, 4] [3] ((p, psT, psC tq d s) :: Hs) _ ?_
      refine ZkD 4 ?_
      repeat (refine A1 ⟨?_⟩; intros)
      refine mkZ0 ?_
      exact ZkC c7 (Tk.cons (HDel.here _) (Tk.nil _)) (fun _ _ h => h.elim) (fun _ _ hx => by rw [hC]; exact ⟨_, hprs, hx⟩)
    | ok q2 =>
      obtain ⟨q2, tr⟩ := q2
      rw [e2] at hprs
      have g2 := gpt_ok g1.1 e2
      have c8 := padd_pu p tr d ns s Hs hown (by omega) (ndH0 q1 q2) a
      rw [show (ndH0 q1 q2).at a = ndH q1 q2 a from rfl] at c8
      replace c7 := c7.mono (R' := fun v H => v = pq q2.1 q2.2 ∧ H = [(p, psT, psC tr d s)]) (X' := noX) (fun _ _ h => by obtain ⟨x, t, h, h2⟩ := h; rw [e2] at h; cases h; exact h2) (fun _ _ h => by obtain ⟨x, h, _⟩ := h; rw [e2] at h; cases h)
      refine WPL.perm List.perm_append_comm ?_
      simp only [List.cons_append, List.nil_append]
      clear c1 c2 c3 c4 c5 c6
      repeat (first | (refine AS ⟨?_⟩; intros) | (refine O1 ⟨?_⟩; intros))
      refine WP.perm permA ?_
      refine WdZ 6 [0, 1, 2, 5, 3, 4] [3] ((p, psT, psC tq d s) :: Hs) _ ?_
      refine ZkD 4 ?_
      repeat (refine A1 ⟨?_⟩; intros)
      refine mkZ0 ?_
      refine ZkC c7 (Tk.cons (HDel.here _) (Tk.nil _)) ?_ (fun _ _ h => h.elim)
      rintro _ _ ⟨rfl, rfl⟩
      refine ZkD 1 ?_
      repeat (refine A1 ⟨?_⟩; intros)
      refine mkZ0 ?_
      refine ZkN ?_
      simp only [List.cons_append, List.nil_append]
      refine WPL.low 54 rfl (Le.ag (b := ndx (ndH0 q1 q2)) (by repeat (first | exact trivial | refine ⟨?_, ?_⟩ | exact Le.refl _ | exact le_nil | exact Le.int (by omega)))) ?_
      refine WPL.perm (List.perm_append_comm (l₁ := (p, psT, psC tr d s) :: Hs)) ?_
      refine WfT c8 ?_ (hs := Tk.skip _ (Tk.skip _ (Tk.same _)))
      rintro _ _ ⟨rfl, s4, H4, hown4, rfl⟩
      simp only [List.cons_append, List.nil_append]
      repeat (refine A1 ⟨?_⟩; intros)
      exact endHR _ _ (end1 (RV.tmp (s := lit (.int .i64 ns.length)) rfl) (Le.refl _)) (List.Sublist.cons _ (List.sublist_cons_self _ _)) ⟨_, _, _, hprs, by rw [List.length_singleton]; exact congrArg (fun z => lit (.int .i64 z)) (by omega), s4, H4, hown4, rfl⟩
  · rintro _ _ ⟨e, e1, hx⟩
    rw [hC]
    exact ⟨e, by rw [hprs, e1], hx⟩
set_option maxHeartbeats 8000000 in
theorem gfactor_of [Sent 4] [Sent 3] [Sent 5] {p f : Nat} (hF : GLv 253 p f 3) (hS : GLv 144 p f 1) : GLv 253 p (f + 1) 3 := by
  intro ts d ns H hT hd hn hf hps
  obtain ⟨a, r, rfl, -⟩ := hT.cons
  have hlr : (a :: r).length = r.length + 1 := rfl
  obtain ⟨s, Hs, hown, rfl⟩ := hps
  have hco := hown.co
  have c0 := pnext_pu s hco a r d (by omega)
  have c1 := gis_pu s hco a r d (by omega) [126]
  have c2 := gis_pu s hco a r d (by omega) [40]
  have hprs := gx_3 f d ns.length (a :: r)
  simp only [List.tail_cons, Ab.hd, List.headD_cons] at hprs
  unfold GvR GvX
  cases t1 : gis (a :: r) [126] with
  | true =>
    rw [t1] at c1
    rw [t1, if_pos rfl] at hprs
    have c3 := gnested_pu 253 p f 3 a r d ns _ hd (by omega) ⟨s, Hs, hown, rfl⟩ (fun hd' H1 h1 => hF r (d + 1) ns H1 (hT.next t1) (by omega) (by omega) (by omega) h1)
    have hlen := fun A x ts' h => gx_len f 3 (d + 1) ns.length r none A x ts' (hT.next t1) h
    clear hF hS c2
    refine PuH.intro Tryz.func253 rfl (by kernel_rfl) fun C hC => ?_
    repeat (refine A1 ⟨?_⟩; intros)
    refine Wo (ov_callT c0 rfl (by repeat (first | exact List.mem_cons_self | apply List.mem_cons_of_mem))) ?_
    repeat (refine A1 ⟨?_⟩; intros)
    refine Wo (ov_callT c1 rfl (by repeat (first | exact List.mem_cons_self | apply List.mem_cons_of_mem))) ?_
    repeat (refine A1 ⟨?_⟩; intros)
    refine WfX c3 ?_ ?_ (hs := Tk.skip _ (Tk.same _))
    · rintro _ _ ⟨hd2, A, x, ts', hp, rfl, s1, H1, hown1, rfl⟩
      have hlA := hlen _ _ _ hp
      simp only [Nat.add_zero, Option.isNone_none, if_true] at hlA
      rw [if_neg (by omega), hp] at hprs
      simp only at hprs
      have e1 : (ns ++ A).length = ns.length + A.length := List.length_append
      have hco1 := hown1.co
      have c4 := padd_pu p ts' d (ns ++ A) s1 H1 hown1 (by omega) (ndU0 ((ns.length + A.length : Nat) - 1)) a
      rw [show (ndU0 ((ns.length + A.length : Nat) - 1)).at a = ndU ((ns.length + A.length : Nat) - 1) a from rfl] at c4
      simp only [List.cons_append, List.nil_append]
      clear hlen c3 hp
      repeat (refine A1 ⟨?_⟩; intros)
      refine WPL.low 18 rfl (Le.ag (b := ndx (ndU0 ((ns.length + A.length : Nat) - 1))) (by repeat (first | exact trivial | refine ⟨?_, ?_⟩ | exact Le.refl _ | exact le_nil | exact Le.int (by omega)))) ?_
      refine WfT c4 ?_ (hs := Tk.skip _ (Tk.same _))
      rintro _ _ ⟨rfl, s4, H4, hown4, rfl⟩
      simp only [List.cons_append, List.nil_append]
      repeat (refine A1 ⟨?_⟩; intros)
      exact endHR _ _ (end1 (RV.tmp (s := lit (.int .i64 (ns ++ A).length)) rfl) (Le.refl _)) (List.sublist_cons_self _ _) ⟨_, _, _, hprs, by rw [List.length_append, List.length_append, List.length_singleton]; exact congrArg (fun z => lit (.int .i64 z)) (by omega), s4, H4, by rw [← List.append_assoc]; exact hown4, rfl⟩
    · rintro _ _ (⟨hp, hx⟩ | ⟨hp, e, he, hx⟩)
      · rw [hC]
        exact ⟨_, by rw [hprs, if_pos hp], hx⟩
      · rw [hC]
        exact ⟨e, by rw [hprs, if_neg (by omega), he], hx⟩
  | false =>
    rw [t1] at c1
    rw [t1, if_neg (by decide)] at hprs
    cases t2 : gis (a :: r) [40] with
    | true =>
      rw [t2] at c2
      rw [t2, if_pos rfl] at hprs
      have c3 := gnested_pu 144 p f 1 a r d ns _ hd (by omega) ⟨s, Hs, hown, rfl⟩ (fun hd' H1 h1 => hS r (d + 1) ns H1 (hT.next t2) (by omega) (by omega) (by omega) h1)
      have hok := fun A x ts' h => gx_len f 1 (d + 1) ns.length r none A x ts' (hT.next t2) h
      clear hF hS
      refine PuH.intro Tryz.func253 rfl (by kernel_rfl) fun C hC => ?_
      repeat (refine A1 ⟨?_⟩; intros)
      refine Wo (ov_callT c0 rfl (by repeat (first | exact List.mem_cons_self | apply List.mem_cons_of_mem))) ?_
      repeat (refine A1 ⟨?_⟩; intros)
      refine Wo (ov_callT c1 rfl (by repeat (first | exact List.mem_cons_self | apply List.mem_cons_of_mem))) ?_
      repeat (refine A1 ⟨?_⟩; intros)
      refine Wo (ov_callT c2 rfl (by repeat (first | exact List.mem_cons_self | apply List.mem_cons_of_mem))) ?_
      repeat (refine A1 ⟨?_⟩; intros)
      refine WfX c3 ?_ ?_ (hs := Tk.skip _ (Tk.same _))
      · rintro _ _ ⟨hd2, A, x, ts', hp, rfl, s1, H1, hown1, rfl⟩
        obtain ⟨hT', hlA, hl'⟩ := hok _ _ _ hp
        simp only [Option.isNone_none, if_true, Nat.add_zero] at hl' hlA
        rw [if_neg (by omega), hp] at hprs
        simp only at hprs
        obtain ⟨a1, r1, rfl, -⟩ := hT'.cons
        have hlr1 : (a1 :: r1).length = r1.length + 1 := rfl
        have hco1 := hown1.co
        have c4 := gexpect_pu s1 hco1 p a1 r1 d (by omega) [41]
        clear hok c3 hp hT'
        simp only [List.cons_append, List.nil_append]
        repeat (refine A1 ⟨?_⟩; intros)
        refine WfX c4 ?_ ?_ (hs := Tk.skip _ (Tk.cons (HDel.here _) (Tk.nil _)))
        · rintro _ _ ⟨-, t3, rfl, rfl⟩
          rw [t3, if_pos rfl, List.tail_cons] at hprs
          refine WPL.perm List.perm_append_comm ?_
          simp only [List.cons_append, List.nil_append]
          repeat (refine A1 ⟨?_⟩; intros)
          exact endHR _ _ (end1 (RV.tmp rfl) (Le.refl _)) (List.Sublist.cons_cons _ (List.sublist_cons_self _ _)) ⟨_, _, _, hprs, rfl, s1, H1, hown1, rfl⟩
        · rintro _ _ ⟨t3, hx⟩
          rw [if_neg (fun h => by rw [gexpect, if_pos h] at t3; cases t3)] at hprs
          rw [hC]
          exact ⟨_, hprs, hx⟩
      · rintro _ _ (⟨hp, hx⟩ | ⟨hp, e, he, hx⟩)
        · rw [hC]
          exact ⟨_, by rw [hprs, if_pos hp], hx⟩
        · rw [hC]
          exact ⟨e, by rw [hprs, if_neg (by omega), he], hx⟩
    | false =>
      rw [t2] at c2
      rw [t2, if_neg (by decide)] at hprs
      clear hF hS
      have c3 := gaccept_pu s hco p a r d (by omega) wAll
      have c4 := gaccept_pu s hco p a r d (by omega) wNone
      have c5 := gaccept_pu s hco p a r d (by omega) wHalf
      cases t3 : gis (a :: r) wAll with
      | true =>
        rw [t3, if_pos rfl] at c3
        rw [t3, if_pos rfl] at hprs
        have c6 := padd_pu p r d ns s Hs hown (by omega) (ndA0 2) a
        rw [show (ndA0 2).at a = ndA 2 a from rfl] at c6
        clear c4 c5
        refine PuH.intro Tryz.func253 rfl (by kernel_rfl) fun C hC => ?_
        repeat (refine A1 ⟨?_⟩; intros)
        refine Wo (ov_callT c0 rfl (by repeat (first | exact List.mem_cons_self | apply List.mem_cons_of_mem))) ?_
        repeat (refine A1 ⟨?_⟩; intros)
        refine Wo (ov_callT c1 rfl (by repeat (first | exact List.mem_cons_self | apply List.mem_cons_of_mem))) ?_
        repeat (refine A1 ⟨?_⟩; intros)
        refine Wo (ov_callT c2 rfl (by repeat (first | exact List.mem_cons_self | apply List.mem_cons_of_mem))) ?_
        repeat (refine A1 ⟨?_⟩; intros)
        refine WfT c3 ?_ (hs := Tk.skip _ (Tk.cons (HDel.here _) (Tk.nil _)))
        rintro _ _ ⟨rfl, rfl⟩
        refine WPL.perm List.perm_append_comm ?_
        refine WPL.perm (List.Perm.swap _ _ _) ?_
        repeat (refine A1 ⟨?_⟩; intros)
        refine WPL.low 35 rfl (Le.ag (b := ndx (ndA0 2)) (by repeat (first | exact trivial | refine ⟨?_, ?_⟩ | exact Le.refl _ | exact le_nil | exact Le.int (by omega)))) ?_
        refine WfT c6 ?_ (hs := Tk.skip _ (Tk.same _))
        rintro _ _ ⟨rfl, s4, H4, hown4, rfl⟩
        simp only [List.cons_append, List.nil_append]
        repeat (refine A1 ⟨?_⟩; intros)
        exact endHR _ _ (end1 (RV.tmp (s := lit (.int .i64 ns.length)) rfl) (Le.refl _)) (List.sublist_cons_self _ _) ⟨_, _, _, hprs, by rw [List.length_singleton]; exact congrArg (fun z => lit (.int .i64 z)) (by omega), s4, H4, hown4, rfl⟩
      | false =>
        rw [t3, if_neg (by decide)] at c3
        rw [t3, if_neg (by decide)] at hprs
        cases t4 : gis (a :: r) wNone with
        | true =>
          rw [t4, if_pos rfl] at c4
          rw [t4, if_pos rfl] at hprs
          have c6 := padd_pu p r d ns s Hs hown (by omega) (ndA0 3) a
          rw [show (ndA0 3).at a = ndA 3 a from rfl] at c6
          clear c5
          refine PuH.intro Tryz.func253 rfl (by kernel_rfl) fun C hC => ?_
          repeat (refine A1 ⟨?_⟩; intros)
          refine Wo (ov_callT c0 rfl (by repeat (first | exact List.mem_cons_self | apply List.mem_cons_of_mem))) ?_
          repeat (refine A1 ⟨?_⟩; intros)
          refine Wo (ov_callT c1 rfl (by repeat (first | exact List.mem_cons_self | apply List.mem_cons_of_mem))) ?_
          repeat (refine A1 ⟨?_⟩; intros)
          refine Wo (ov_callT c2 rfl (by repeat (first | exact List.mem_cons_self | apply List.mem_cons_of_mem))) ?_
          repeat (refine A1 ⟨?_⟩; intros)
          refine WfT c3 ?_ (hs := Tk.skip _ (Tk.cons (HDel.here _) (Tk.nil _)))
          rintro _ _ ⟨rfl, rfl⟩
          refine WPL.perm List.perm_append_comm ?_
          refine WPL.perm (List.Perm.swap _ _ _) ?_
          repeat (refine A1 ⟨?_⟩; intros)
          refine WfT c4 ?_ (hs := Tk.skip _ (Tk.cons (HDel.here _) (Tk.nil _)))
          rintro _ _ ⟨rfl, rfl⟩
          refine WPL.perm List.perm_append_comm ?_
          refine WPL.perm (List.Perm.swap _ _ _) ?_
          repeat (refine A1 ⟨?_⟩; intros)
          refine WPL.low 42 rfl (Le.ag (b := ndx (ndA0 3)) (by repeat (first | exact trivial | refine ⟨?_, ?_⟩ | exact Le.refl _ | exact le_nil | exact Le.int (by omega)))) ?_
          refine WfT c6 ?_ (hs := Tk.skip _ (Tk.same _))
          rintro _ _ ⟨rfl, s4, H4, hown4, rfl⟩
          simp only [List.cons_append, List.nil_append]
          repeat (refine A1 ⟨?_⟩; intros)
          exact endHR _ _ (end1 (RV.tmp (s := lit (.int .i64 ns.length)) rfl) (Le.refl _)) (List.sublist_cons_self _ _) ⟨_, _, _, hprs, by rw [List.length_singleton]; exact congrArg (fun z => lit (.int .i64 z)) (by omega), s4, H4, hown4, rfl⟩
        | false =>
          rw [t4, if_neg (by decide)] at c4
          rw [t4, if_neg (by decide)] at hprs
          cases t5 : gis (a :: r) wHalf with
          | true =>
            exact ghalf_pu p f d a r ns s Hs hown hT (by omega) t1 t2 t3 t4 t5
          | false =>
            rw [t5, if_neg (by decide)] at c5
            rw [t5, if_neg (by decide)] at hprs
            have c6 := gname_pu s hco p a r d (by omega)
            by_cases hnm : a.k = 1 ∧ resv a.t = false
            case neg =>
              replace hprs : gx (f + 1) 3 d ns.length (a :: r) none = .error (ger 1 (a :: r)) := by rw [hprs]; exact if_neg hnm
              replace c6 := c6.mono (R' := fun _ _ => False) (X' := fun pv _ => pv = erSV (ger 1 (a :: r))) (fun _ _ h => hnm h.1) (fun _ _ h => h.2)
              clear hnm
              refine PuH.intro Tryz.func253 rfl (by kernel_rfl) fun C hC => ?_
              repeat (refine A1 ⟨?_⟩; intros)
              refine Wo (ov_callT c0 rfl (by repeat (first | exact List.mem_cons_self | apply List.mem_cons_of_mem))) ?_
              repeat (refine A1 ⟨?_⟩; intros)
              refine Wo (ov_callT c1 rfl (by repeat (first | exact List.mem_cons_self | apply List.mem_cons_of_mem))) ?_
              repeat (refine A1 ⟨?_⟩; intros)
              refine Wo (ov_callT c2 rfl (by repeat (first | exact List.mem_cons_self | apply List.mem_cons_of_mem))) ?_
              repeat (refine A1 ⟨?_⟩; intros)
              refine WfT c3 ?_ (hs := Tk.skip _ (Tk.cons (HDel.here _) (Tk.nil _)))
              rintro _ _ ⟨rfl, rfl⟩
              refine WPL.perm List.perm_append_comm ?_
              refine WPL.perm (List.Perm.swap _ _ _) ?_
              repeat (refine A1 ⟨?_⟩; intros)
              refine WfT c4 ?_ (hs := Tk.skip _ (Tk.cons (HDel.here _) (Tk.nil _)))
              rintro _ _ ⟨rfl, rfl⟩
              refine WPL.perm List.perm_append_comm ?_
              refine WPL.perm (List.Perm.swap _ _ _) ?_
              repeat (refine A1 ⟨?_⟩; intros)
              refine WfT c5 ?_ (hs := Tk.skip _ (Tk.cons (HDel.here _) (Tk.nil _)))
              rintro _ _ ⟨rfl, rfl⟩
              refine WPL.perm List.perm_append_comm ?_
              refine WPL.perm (List.Perm.swap _ _ _) ?_
              repeat (first | (refine AS ⟨?_⟩; intros) | (refine O1 ⟨?_⟩; intros))
              refine WP.perm (List.perm_append_comm (l₁ := [_])) ?_
              refine WdZ 5 [0, 1, 4, 2, 3] [2] ((p, psT, psC (a :: r) d s) :: Hs) _ ?_
              refine ZkD 3 ?_
              repeat (refine A1 ⟨?_⟩; intros)
              refine mkZ0 ?_
              exact ZkC c6 (Tk.cons (HDel.here _) (Tk.nil _)) (fun _ _ h => h.elim) (fun _ _ hx => by rw [hC]; exact ⟨_, hprs, hx⟩)
            replace hprs : gx (f + 1) 3 d ns.length (a :: r) none = .ok ([ndN a], .leaf (ndN a), r) := by rw [hprs]; exact if_pos hnm
            replace c6 := c6.mono (R' := fun v H => v = str a.t ∧ H = [(p, psT, psC r d s)]) (X' := noX) (fun _ _ h => h.2) (fun _ _ h => h.1 hnm)
            have c7 := padd_pu p r d ns s Hs hown (by omega) (ndN0 a.t) a
            rw [show (ndN0 a.t).at a = ndN a from rfl] at c7
            clear hnm
            refine PuH.intro Tryz.func253 rfl (by kernel_rfl) fun C hC => ?_
            repeat (refine A1 ⟨?_⟩; intros)
            refine Wo (ov_callT c0 rfl (by repeat (first | exact List.mem_cons_self | apply List.mem_cons_of_mem))) ?_
            repeat (refine A1 ⟨?_⟩; intros)
            refine Wo (ov_callT c1 rfl (by repeat (first | exact List.mem_cons_self | apply List.mem_cons_of_mem))) ?_
            repeat (refine A1 ⟨?_⟩; intros)
            refine Wo (ov_callT c2 rfl (by repeat (first | exact List.mem_cons_self | apply List.mem_cons_of_mem))) ?_
            repeat (refine A1 ⟨?_⟩; intros)
            refine WfT c3 ?_ (hs := Tk.skip _ (Tk.cons (HDel.here _) (Tk.nil _)))
            rintro _ _ ⟨rfl, rfl⟩
            refine WPL.perm List.perm_append_comm ?_
            refine WPL.perm (List.Perm.swap _ _ _) ?_
            repeat (refine A1 ⟨?_⟩; intros)
            refine WfT c4 ?_ (hs := Tk.skip _ (Tk.cons (HDel.here _) (Tk.nil _)))
            rintro _ _ ⟨rfl, rfl⟩
            refine WPL.perm List.perm_append_comm ?_
            refine WPL.perm (List.Perm.swap _ _ _) ?_
            repeat (refine A1 ⟨?_⟩; intros)
            refine WfT c5 ?_ (hs := Tk.skip _ (Tk.cons (HDel.here _) (Tk.nil _)))
            rintro _ _ ⟨rfl, rfl⟩
            refine WPL.perm List.perm_append_comm ?_
            refine WPL.perm (List.Perm.swap _ _ _) ?_
            repeat (first | (refine AS ⟨?_⟩; intros) | (refine O1 ⟨?_⟩; intros))
            refine WP.perm (List.perm_append_comm (l₁ := [_])) ?_
            refine WdZ 5 [0, 1, 4, 2, 3] [2] ((p, psT, psC (a :: r) d s) :: Hs) _ ?_
            refine ZkD 3 ?_
            repeat (refine A1 ⟨?_⟩; intros)
            refine mkZ0 ?_
            refine ZkC c6 (Tk.cons (HDel.here _) (Tk.nil _)) ?_ (fun _ _ h => h.elim)
            rintro _ _ ⟨rfl, rfl⟩
            refine ZkD 1 ?_
            repeat (refine A1 ⟨?_⟩; intros)
            refine mkZ0 ?_
            refine ZkN ?_
            simp only [List.cons_append, List.nil_append]
            refine WPL.low 60 rfl (Le.ag (b := ndx (ndN0 a.t)) (by repeat (first | exact trivial | refine ⟨?_, ?_⟩ | exact Le.refl _ | exact le_nil | exact Le.int (by omega)))) ?_
            refine WPL.perm (List.perm_append_comm (l₁ := (p, psT, psC r d s) :: Hs)) ?_
            refine WfT c7 ?_ (hs := Tk.skip _ (Tk.same _))
            rintro _ _ ⟨rfl, s4, H4, hown4, rfl⟩
            simp only [List.cons_append, List.nil_append]
            repeat (refine A1 ⟨?_⟩; intros)
            exact endHR _ _ (end1 (RV.tmp (s := lit (.int .i64 ns.length)) rfl) (Le.refl _)) (List.sublist_cons_self _ _) ⟨_, _, _, hprs, by rw [List.length_singleton]; exact congrArg (fun z => lit (.int .i64 z)) (by omega), s4, H4, hown4, rfl⟩
theorem gx_pos : ∀ (f lv d i : Nat) (ts : List Tok) (acc : Option (List Nd × Ex)) (A : List Nd) (x : Ex) (ts' : List Tok), (match acc with
      | some (A0, _) => 1 ≤ A0.length
      | none => True) → gx f lv d i ts acc = .ok (A, x, ts') → 1 ≤ A.length := by
  intro f
  induction f with
  | zero => intro lv d i ts acc A x ts' _ h; unfold gx at h; cases h
  | succ f ih =>
    intro lv d i ts acc A x ts' hacc h
    cases acc with
    | none =>
      by_cases l3 : lv = 3
      · subst l3
        rw [gx_3] at h
        have leafc : ∀ (n : Nd) (y : Ex) (t : List Tok), (A, x, ts') = ([n], y, t) → 1 ≤ A.length := fun n y t e => by
          simp only [Prod.mk.injEq] at e
          obtain ⟨rfl, _, _⟩ := e
          exact Nat.le_refl _
        split at h
        · split at h
          · cases h
          · split at h
            · simp only [Except.ok.injEq, Prod.mk.injEq] at h
              obtain ⟨rfl, _, _⟩ := h
              simp
            · cases h
        · split at h
          · split at h
            · cases h
            · split at h
              · next hp =>
                split at h
                · simp only [Except.ok.injEq, Prod.mk.injEq] at h
                  obtain ⟨rfl, _, _⟩ := h
                  exact ih 1 _ _ _ _ _ _ _ trivial hp
                · cases h
              · cases h
          · split at h
            · exact leafc _ _ _ (Except.ok.inj h).symm
            · split at h
              · exact leafc _ _ _ (Except.ok.inj h).symm
              · split at h
                · split at h
                  · cases h
                  · split at h
                    · cases h
                    · exact leafc _ _ _ (Except.ok.inj h).symm
                · split at h
                  · exact leafc _ _ _ (Except.ok.inj h).symm
                  · cases h
      · rw [gx_lv l3] at h
        cases hp : gx f (lv + 1) d i ts none with
        | error e => rw [hp] at h; cases h
        | ok q =>
          obtain ⟨A1, x1, t1⟩ := q
          rw [hp] at h
          exact ih lv _ _ _ _ _ _ _ (show 1 ≤ A1.length from ih (lv + 1) _ _ _ _ _ _ _ trivial hp) h
    | some q =>
      obtain ⟨A0, x0⟩ := q
      rw [gx_some] at h
      by_cases ho : gop lv ts = 0
      · rw [if_pos ho] at h
        simp only [Except.ok.injEq, Prod.mk.injEq] at h
        obtain ⟨rfl, _, _⟩ := h
        exact hacc
      · rw [if_neg ho] at h
        cases hp : gx f (lv + 1) d (i + A0.length) ts.tail none with
        | error e => rw [hp] at h; cases h
        | ok q =>
          obtain ⟨B, y, t1⟩ := q
          rw [hp] at h
          exact ih lv _ _ _ _ _ _ _ (show 1 ≤ (A0 ++ B ++ [_]).length by simp only [List.length_append, List.length_singleton]; omega) h
theorem glevels [Sent 4] [Sent 3] [Sent 5] (p : Nat) : ∀ f, GLv 144 p f 1 ∧ GLv 199 p f 2 ∧ GLv 253 p f 3 := by
  intro f
  induction f using Nat.strongRecOn with
  | _ f ih =>
    cases f with
    | zero =>
      refine ⟨fun ts d ns H hT _ _ hf _ => ?_, fun ts d ns H hT _ _ hf _ => ?_, fun ts d ns H hT _ _ hf _ => ?_⟩ <;>
      · have := hT.pos
        omega
    | succ f => exact ⟨gsum_of fun f' h => (ih f' (by omega)).2.1, gprod_of fun f' h => (ih f' (by omega)).2.2, gfactor_of (ih f (by omega)).2.2 (ih f (by omega)).1⟩
theorem gexpression_pu [Sent 4] [Sent 3] [Sent 5] (p : Nat) (ts : List Tok) (hT : GOk ts) (hl : ts.length ≤ 100000) (s0 : SV) (hs : CO s0 [s0]) :
    PuH Tryz.prog 90 [ptrP p] [(p, psT, psC ts 0 s0)]
      (fun v H' => ∃ A x ts' Hs, (gexp ts = .ok (A, x, ts') ∧ 1 ≤ A.length ∧ GOk ts' ∧ A.length + ts'.length ≤ ts.length ∧ ts'.length + 1 ≤ ts.length) ∧ Own exPT 19 A.length (A.map ndx).flatten v Hs ∧ H' = (p, psT, psC ts' 0 v) :: Hs)
      (fun pv _ => ∃ e, gexp ts = .error e ∧ pv = erSV e) := by
  have c := (glevels p gF).1 ts 0 [] _ hT (by omega) (by simp; omega) (by have := gF_eq; omega) ⟨_, _, Own.nil exPT 19, rfl⟩
  unfold GvR GvX at c
  simp only [List.length_nil, List.nil_append] at c
  unfold gexp
  refine PuH.intro Tryz.func90 rfl (by kernel_rfl) fun C hC => ?_
  repeat (refine A1 ⟨?_⟩; intros)
  refine WfX c ?_ ?_
  · rintro _ _ ⟨A, x, ts', hp, rfl, s, Hs, hown, rfl⟩
    have hco := hown.co
    simp only [List.cons_append, List.nil_append, List.append_nil]
    repeat (refine A1 ⟨?_⟩; intros)
    exact endHR _ _ (end1 (RV.tmp rfl) (Le.refl _)) (List.Sublist.refl _) ⟨A, x, ts', Hs, ⟨hp, gx_pos _ _ _ _ _ _ _ _ _ trivial hp, by have := gx_len _ _ _ _ _ _ _ _ _ hT hp; simpa using this⟩, hown, rfl⟩
  · rintro _ _ hx
    rw [hC]
    exact hx
structure Chn where
  a : Rat × Rat
  b : Rat × Rat
  m : List (Rat × Rat)
structure Otl where
  far : Bool
  rs : List (List (Rat × Rat))
  cs : List Chn
structure Stm where
  k : Nat
  l : Nat
  c : Nat
  nm : List UInt8
  bd : Nat
  ps : List (Rat × Rat)
  fl : Nat
  nms : List (List UInt8)
  ol : Otl
  e1 : List Nd
  e2 : List Nd
  px : RQ
  py : RQ
def gkQ (t : List UInt8) : Nat :=
  if t = [97, 114, 101, 97] then 6 else if t = [99, 101, 110, 116, 114, 111, 105, 100] then 7 else if t = [101, 109, 112, 116, 121] then 9
  else if t = [99, 101, 108, 108, 115] then 12 else if t = [110, 111, 100, 101, 115] then 13 else if t = [112, 97, 114, 116, 115] then 14
  else if t = [101, 120, 112, 111, 114, 116] then 15 else if t = [99, 108, 97, 115, 115, 105, 102, 121] then 8 else if t = [101, 113, 117, 97, 108] then 10
  else if t = [115, 117, 98, 115, 101, 116] then 11 else 0
def gkD (t : List UInt8) : Nat :=
  if t = [98, 117, 100, 103, 101, 116] then 1 else if t = [114, 105, 110, 103] then 2 else if t = [114, 101, 103, 105, 111, 110] then 3
  else if t = [111, 117, 116, 108, 105, 110, 101] then 4 else if t = [108, 101, 116] then 5 else 0
def gfill (ts : List Tok) : Except Er (Nat × List Tok) :=
  if gis ts [101, 118, 101, 110, 111, 100, 100] = true then .ok (1, ts.tail) else match gexpect [110, 111, 110, 122, 101, 114, 111] ts with
    | .error e => .error e
    | .ok t1 => .ok (2, t1)
def gbudget (ts : List Tok) : Except Er (Nat × List Tok) := match gnum ts with
  | .error e => .error e
  | .ok (n, t1) => if 65536 < dcv n then .error (ger 2 ts) else .ok (dcv n, t1)
def gnamesF : Nat → List Tok → List (List UInt8) × List Tok
  | 0, ts => ([], ts)
  | f + 1, ts => if (hd ts).k = 1 ∧ resv (hd ts).t = false then ((hd ts).t :: (gnamesF f ts.tail).1, (gnamesF f ts.tail).2) else ([], ts)
def golF : Nat → List Tok → Otl → Except Er (Otl × List Tok)
  | 0, ts, _ => .error (ger 0 ts)
  | f + 1, ts, o =>
    if gis ts [125] = true then .ok (o, ts.tail)
    else if gis ts [114, 105, 110, 103] = true then (match gpts ts.tail with
      | .error e => .error e
      | .ok (ps, t1) => match gexpect [59] t1 with
        | .error e => .error e
        | .ok t2 => golF f t2 { o with rs := o.rs ++ [ps] })
    else if gis ts [99, 104, 97, 105, 110] = true then (match gpt ts.tail with
      | .error e => .error e
      | .ok (a, t1) => match gpts t1 with
        | .error e => .error e
        | .ok (ps, t2) => if ps.length < 2 then .error (ger 1 t2) else match gexpect [59] t2 with
          | .error e => .error e
          | .ok t3 => golF f t3 { o with cs := o.cs ++ [⟨a, ps.getLast?.getD (0, 0), ps.dropLast⟩] })
    else .error (ger 1 ts)
def goutl (ts : List Tok) : Except Er (Otl × List Tok) := match gexpect [123] ts with
  | .error e => .error e
  | .ok t1 => if gis t1 [102, 97, 114] = true then golF gF t1.tail ⟨true, [], []⟩ else golF gF t1 ⟨false, [], []⟩
def gquery (s : Stm) (ts : List Tok) : Except Er (Stm × List Tok) := match gexp ts with
  | .error e => .error e
  | .ok (A, _, t1) =>
    if s.k = 8 then (match gpt t1 with
      | .error e => .error e
      | .ok (p, t2) => .ok ({ s with e1 := A, px := RQ.of p.1, py := RQ.of p.2 }, t2))
    else if s.k = 10 ∨ s.k = 11 then (match gexpect [44] t1 with
      | .error e => .error e
      | .ok t2 => match gexp t2 with
        | .error e => .error e
        | .ok (B, _, t3) => .ok ({ s with e1 := A, e2 := B }, t3))
    else .ok ({ s with e1 := A }, t1)
def gdefn (s : Stm) (ts : List Tok) : Except Er (Stm × List Tok) := match gname ts with
  | .error e => .error e
  | .ok (nm, t1) => match gexpect [61] t1 with
    | .error e => .error e
    | .ok t2 =>
      if s.k = 2 then (match gpts t2 with
        | .error e => .error e
        | .ok (ps, t3) => .ok ({ s with nm := nm, ps := ps }, t3))
      else if s.k = 3 then (match gfill t2 with
        | .error e => .error e
        | .ok (fl, t3) => match gname t3 with
          | .error e => .error e
          | .ok (n1, t4) => .ok ({ s with nm := nm, fl := fl, nms := n1 :: (gnamesF gF t4).1 }, (gnamesF gF t4).2))
      else if s.k = 4 then (match goutl t2 with
        | .error e => .error e
        | .ok (o, t3) => .ok ({ s with nm := nm, ol := o }, t3))
      else (match gexp t2 with
        | .error e => .error e
        | .ok (A, _, t3) => .ok ({ s with nm := nm, e1 := A }, t3))
def stm0 (k : Nat) (a : Tok) : Stm := ⟨k, a.l, a.c, [], 0, [], 0, [], ⟨false, [], []⟩, [], [], zz, zz⟩
def gkind (t : List UInt8) : Nat := if gkQ t = 0 then gkD t else gkQ t
def gstm (n : Nat) (ts : List Tok) : Except Er (Stm × List Tok) :=
  if gkind (hd ts).t = 0 ∨ (hd ts).k ≠ 1 then .error (ger 1 ts)
  else if 1000 ≤ n then .error (ger 2 ts)
  else match (if gkQ (hd ts).t ≠ 0 then gquery (stm0 (gkind (hd ts).t) (hd ts)) ts.tail
      else if gkind (hd ts).t = 1 then (match gbudget ts.tail with
        | .error e => .error e
        | .ok (b, t1) => .ok ({ stm0 1 (hd ts) with bd := b }, t1))
      else gdefn (stm0 (gkind (hd ts).t) (hd ts)) ts.tail) with
    | .error e => .error e
    | .ok (s, t1) => match gexpect [59] t1 with
      | .error e => .error e
      | .ok t2 => .ok (s, t2)
def gstmsF : Nat → Nat → List Tok → Except Er (List Stm)
  | 0, _, ts => .error (ger 0 ts)
  | f + 1, n, ts => if (hd ts).k = 0 then .ok [] else match gstm n ts with
    | .error e => .error e
    | .ok (s, t1) => match gstmsF f (n + 1) t1 with
      | .error e => .error e
      | .ok ss => .ok (s :: ss)
def gscript (l : List UInt8) : Except Er (List Stm) := match glex l with
  | .error e => .error e
  | .ok ts => gstmsF gF 0 ts
abbrev ptx (x : Rat × Rat) : List SV := [lit (.bool (decide (x.1.num < 0))), nat x.1.num.natAbs, nat x.1.den, lit (.bool (decide (x.2.num < 0))), nat x.2.num.natAbs, nat x.2.den]
abbrev ptsS (ps : List (Rat × Rat)) : SV := sl (ps.map ptx).flatten ps.length
def gptsR (f : Nat) (ts : List Tok) : Except Er (List (Rat × Rat) × List Tok) := if gis ts [40] = true then gptsF f ts else .ok ([], ts)
theorem gptsF_R (f : Nat) (ts : List Tok) : gptsF (f + 1) ts = (match gpt ts with
    | .error e => .error e
    | .ok (p, t1) => match gptsR f t1 with
      | .error e => .error e
      | .ok (ps, t2) => .ok (p :: ps, t2)) := by
  rw [gptsF]
  cases gpt ts with
  | error e => rfl
  | ok q =>
    obtain ⟨p, t1⟩ := q
    simp only
    unfold gptsR
    split <;> rfl
theorem pts_snoc (l : List (Rat × Rat)) (x : Rat × Rat) : ((l ++ [x]).map ptx).flatten = (l.map ptx).flatten ++ ptx x := by
  rw [List.map_append, List.flatten_append]; simp only [List.map_cons, List.map_nil, List.flatten_cons, List.flatten_nil, List.append_nil]
structure PtSt where
  f : Nat
  ts : List Tok
  A : List (Rat × Rat)
  s : SV
  Hs : LH
set_option maxHeartbeats 4000000 in
theorem gpoints_pu [Sent 4] [Sent 5] (s : SV) (hco : CO s [s]) (p : Nat) (ts : List Tok) (hG : GOk ts) (d : Nat) (hr : ts.length ≤ 1000000) :
    PuH Tryz.prog 150 [lit (.pointer (some ⟨p, 0, none⟩))] [(p, psT, psC ts d s)] (fun v H => ∃ x ts', gpts ts = .ok (x, ts') ∧ v = ptsS x ∧ H = [(p, psT, psC ts' d s)]) (fun pv _ => ∃ e, gpts ts = .error e ∧ pv = erSV e) := by
  have c0 := gpoint_pu s hco p ts hG d hr
  obtain ⟨f, hf⟩ : ∃ f, gF = f + 1 := ⟨999999, gF_eq⟩
  have hf1 : f + 1 = 1000000 := hf.symm.trans gF_eq
  have hgp : gpts ts = gptsF (f + 1) ts := by rw [gpts, hf]
  rw [gptsF_R] at hgp
  refine PuH.intro Tryz.func150 rfl (by kernel_rfl) fun C hC => ?_
  repeat (refine A1 ⟨?_⟩; intros)
  refine WfX c0 ?_ ?_
  · rintro _ _ ⟨x, t1, e1, rfl, rfl⟩
    have g1 := gpt_ok hG e1
    clear c0 hG
    rw [e1] at hgp
    simp only [List.cons_append, List.nil_append]
    repeat (refine A1 ⟨?_⟩; intros)
    rename_i b6
    refine WP.perm (List.Perm.swap _ _ _) ?_
    refine WP.loopS (ι := PtSt) (fun y => GOk y.ts ∧ y.ts.length ≤ y.f ∧ 1 ≤ y.A.length ∧ y.A.length + y.ts.length ≤ 1000000 ∧ Own 60 6 y.A.length (y.A.map ptx).flatten y.s y.Hs ∧ gpts ts = (match gptsR y.f y.ts with
        | .error e => (.error e : Except Er (List (Rat × Rat) × List Tok))
        | .ok (ps, t2) => .ok (y.A ++ ps, t2))) (fun y => y.ts.length)
      (fun y => fm [(0, lit (.pointer (some ⟨p, 0, none⟩))), (3, y.s)]) (fun y => (p, psT, psC y.ts d s) :: y.Hs) ⟨f, t1, [x], lit (.slice (some ⟨b6, 0, none⟩) 1 1), [(b6, 60, ptx x)]⟩
      ⟨g1.1, by simp only; omega, Nat.le_refl _, by simp only [List.length_singleton]; omega, ⟨rfl, .inr ⟨b6, 1, Nat.le_refl _, by decide, rfl, rfl⟩⟩, hgp⟩ (by (repeat (first | exact LeF.nil _ | refine LeF.cons (Le.refl _) ?_ | refine LeF.cons (Le.int (by omega)) ?_))) (List.Sublist.refl _) ?_
    rintro ⟨f', ts', A, s', Hs⟩ ⟨hG', hf', hA, hl', hown, heq⟩ K hK
    simp only at hG' hf' hA hl' hown heq ⊢
    obtain ⟨a, r, rfl, -⟩ := hG'.cons
    simp only [List.length_cons] at hf' hl'
    have hco2 := hown.co
    have c1 := gis_pu s hco a r d (by omega) [40]
    obtain ⟨f', rfl⟩ : ∃ g, f' = g + 1 := ⟨f' - 1, by omega⟩
    cases h40 : gis (a :: r) [40] with
    | false =>
      rw [h40] at c1
      clear hK
      have hR : gptsR (f' + 1) (a :: r) = .ok ([], a :: r) := by unfold gptsR; rw [h40]; rfl
      rw [hR] at heq
      obtain ⟨hcl, ⟨h0', _⟩ | ⟨b2, c2, hnc, hcm, rfl, rfl⟩⟩ := hown
      · omega
      refine WP.pub (d := 3) (s' := ptsS A) (HDel.there _ (HDel.here _)) rfl (fun m arr h1 h2 => pub_ownL h1 h2 hnc hcm) ?_
      repeat (refine A1 ⟨?_⟩; intros)
      refine Wo (ov_callT c1 rfl (by repeat (first | exact List.mem_cons_self | apply List.mem_cons_of_mem))) ?_
      repeat (refine A1 ⟨?_⟩; intros)
      exact endHR _ _ (end1 (RV.tmp rfl) (Le.refl _)) (List.Sublist.refl _) ⟨A, a :: r, by rw [heq]; simp only [List.append_nil], rfl, rfl⟩
    | true =>
      rw [h40] at c1
      have hR : gptsR (f' + 1) (a :: r) = gptsF (f' + 1) (a :: r) := by unfold gptsR; rw [h40]; rfl
      rw [hR, gptsF_R] at heq
      have c2 := gpoint_pu s hco p (a :: r) hG' d (by simp only [List.length_cons]; omega)
      repeat (refine A1 ⟨?_⟩; intros)
      refine Wo (ov_callT c1 rfl (by repeat (first | exact List.mem_cons_self | apply List.mem_cons_of_mem))) ?_
      repeat (refine A1 ⟨?_⟩; intros)
      refine WfX c2 ?_ ?_
      · rintro _ _ ⟨y, t2, e2, rfl, rfl⟩
        have g2 := gpt_ok hG' e2
        clear c2 hG'
        rw [e2] at heq
        simp only at heq
        refine WPL.perm List.perm_append_comm ?_
        simp only [List.cons_append, List.nil_append]
        repeat (refine A1 ⟨?_⟩; intros)
        refine Wown hown (by omega) (fun s2 H2 hown' => ?_)
        have hown2 : Own 60 6 (A ++ [y]).length ((A ++ [y]).map ptx).flatten s2 H2 := by
          rw [pts_snoc, List.length_append, List.length_singleton]; exact hown'
        have hco3 := hown2.co
        have hgo := fun F' H'' => hK F' H'' ⟨f', t2, A ++ [y], s2, H2⟩ ⟨g2.1, by have := g2.2; simp only [List.length_cons] at this ⊢; omega, by simp only [List.length_append, List.length_singleton]; omega, by have := g2.2; simp only [List.length_append, List.length_nil, List.length_cons] at this ⊢; omega, hown2, by
          simp only
          rw [heq]
          cases gptsR f' t2 with
          | error e => rfl
          | ok q => simp⟩ (by have := g2.2; simp only [List.length_cons] at this ⊢; omega)
        clear hK heq hown hown'
        simp only [List.cons_append, List.nil_append]
        repeat (refine A1 ⟨?_⟩; intros)
        exact hgo _ _ (by (repeat (first | exact LeF.nil _ | refine LeF.cons (Le.refl _) ?_ | refine LeF.cons (Le.int (by omega)) ?_))) (by repeat (first | exact List.Sublist.refl _ | refine List.Sublist.cons _ ?_))
      · rintro _ _ ⟨e, e2, hx⟩
        rw [hC]
        exact ⟨_, by rw [heq, e2], hx⟩
  · rintro _ _ ⟨e, e1, hx⟩
    rw [hC]
    exact ⟨_, by rw [hgp, e1], hx⟩
end Go.Ab
