/- Texts laid one behind the other: GPX, GPY, GPZ. -/
import Derived.Test.YtebghnhocigmlaaGreatDoorB16
import Derived.Test.YtebghnhocigmlaaGreatDoorB13
import Derived.Test.YtebghnhocigmlaaGreatDoorB11
import Derived.Test.YtebghnhocigmlaaGreatDoorB14
namespace Go.Ab
open Go.Proofs
set_option linter.unusedSectionVars false
set_option linter.unusedVariables false
set_option linter.unusedSimpArgs false
variable [Base]
theorem gx_3 (f d i : Nat) (ts : List Tok) : gx (f + 1) 3 d i ts none = if gis ts [126] = true then
        (if 200 ≤ d then .error (ger 2 ts) else match gx f 3 (d + 1) i ts.tail none with
          | .ok (A, x, ts') => .ok (A ++ [ndU ((i + A.length : Nat) - 1) (hd ts)], .un (ndU ((i + A.length : Nat) - 1) (hd ts)) x, ts')
          | .error e => .error e)
      else if gis ts [40] = true then
        (if 200 ≤ d then .error (ger 2 ts) else match gx f 1 (d + 1) i ts.tail none with
          | .ok (A, x, ts') => if gis ts' [41] = true then .ok (A, x, ts'.tail) else .error (ger 1 ts')
          | .error e => .error e)
      else if gis ts wAll = true then .ok ([ndA 2 (hd ts)], .leaf (ndA 2 (hd ts)), ts.tail)
      else if gis ts wNone = true then .ok ([ndA 3 (hd ts)], .leaf (ndA 3 (hd ts)), ts.tail)
      else if gis ts wHalf = true then (match gpt ts.tail with
        | .error e => .error e
        | .ok (p, t1) => match gpt t1 with
          | .error e => .error e
          | .ok (q, t2) => .ok ([ndH p q (hd ts)], .leaf (ndH p q (hd ts)), t2))
      else if (hd ts).k = 1 ∧ resv (hd ts).t = false then .ok ([ndN (hd ts)], .leaf (ndN (hd ts)), ts.tail)
      else .error (ger 1 ts) := rfl
theorem gx_lv {f lv d i : Nat} {ts : List Tok} (h : lv ≠ 3) : gx (f + 1) lv d i ts none = match gx f (lv + 1) d i ts none with
      | .ok (A, x, ts') => gx f lv d i ts' (some (A, x))
      | .error e => .error e := by
  conv => lhs; unfold gx
  rw [if_neg h]
  rfl
theorem gx_some (f lv d i : Nat) (ts : List Tok) (A : List Nd) (x : Ex) : gx (f + 1) lv d i ts (some (A, x)) = if gop lv ts = 0 then .ok (A, x, ts)
    else match gx f (lv + 1) d (i + A.length) ts.tail none with
      | .ok (B, y, ts') => gx f lv d i ts' (some (A ++ B ++ [ndB (gop lv ts) ((i + A.length : Nat) - 1) ((i + A.length + B.length : Nat) - 1) (hd ts)], .bi (ndB (gop lv ts) ((i + A.length : Nat) - 1) ((i + A.length + B.length : Nat) - 1) (hd ts)) x y))
      | .error e => .error e := rfl
theorem gx_len : ∀ (f lv d i : Nat) (ts : List Tok) (acc : Option (List Nd × Ex)) (A : List Nd) (x : Ex) (ts' : List Tok), GOk ts → gx f lv d i ts acc = .ok (A, x, ts') → GOk ts' ∧ A.length + ts'.length ≤ ts.length + (match acc with
      | some (A0, _) => A0.length
      | none => 0) ∧ ts'.length + (if acc.isNone then 1 else 0) ≤ ts.length := by
  intro f
  induction f with
  | zero => intro lv d i ts acc A x ts' _ h; unfold gx at h; cases h
  | succ f ih =>
    intro lv d i ts acc A x ts' hG h
    cases acc with
    | none =>
      simp only [Option.isNone_none, if_true]
      by_cases l3 : lv = 3
      · subst l3
        rw [gx_3] at h
        have leafc : ∀ n : Nd, GOk ts.tail → ts.tail.length + 1 = ts.length → (A, x, ts') = ([n], Ex.leaf n, ts.tail) → GOk ts' ∧ A.length + ts'.length ≤ ts.length + 0 ∧ ts'.length + 1 ≤ ts.length := fun n hg hn e => by
          simp only [Prod.mk.injEq] at e
          obtain ⟨rfl, rfl, rfl⟩ := e
          simp only [List.length_cons, List.length_nil]
          exact ⟨hg, by omega, by omega⟩
        by_cases c1 : gis ts [126] = true
        · rw [if_pos c1] at h
          have tl := gis_tl hG c1
          split at h
          · cases h
          · cases hp : gx f 3 (d + 1) i ts.tail none with
            | error e => rw [hp] at h; cases h
            | ok q =>
              obtain ⟨A1, x1, t1⟩ := q
              rw [hp] at h
              simp only [Except.ok.injEq, Prod.mk.injEq] at h
              obtain ⟨rfl, rfl, rfl⟩ := h
              have := ih 3 _ _ _ _ _ _ _ tl.1 hp
              simp only [Option.isNone_none, if_true, List.length_append, List.length_singleton] at this ⊢
              exact ⟨this.1, by omega, by omega⟩
        rw [if_neg c1] at h
        by_cases c2 : gis ts [40] = true
        · rw [if_pos c2] at h
          have tl := gis_tl hG c2
          split at h
          · cases h
          · cases hp : gx f 1 (d + 1) i ts.tail none with
            | error e => rw [hp] at h; cases h
            | ok q =>
              obtain ⟨A1, x1, t1⟩ := q
              rw [hp] at h
              simp only at h
              have := ih 1 _ _ _ _ _ _ _ tl.1 hp
              simp only [Option.isNone_none, if_true] at this
              by_cases c3 : gis t1 [41] = true
              · rw [if_pos c3] at h
                have tl2 := gis_tl this.1 c3
                simp only [Except.ok.injEq, Prod.mk.injEq] at h
                obtain ⟨rfl, rfl, rfl⟩ := h
                exact ⟨tl2.1, by omega, by omega⟩
              · rw [if_neg c3] at h; cases h
        rw [if_neg c2] at h
        by_cases c3 : gis ts wAll = true
        · rw [if_pos c3] at h; exact leafc _ (gis_tl hG c3).1 (gis_tl hG c3).2 (Except.ok.inj h).symm
        rw [if_neg c3] at h
        by_cases c4 : gis ts wNone = true
        · rw [if_pos c4] at h; exact leafc _ (gis_tl hG c4).1 (gis_tl hG c4).2 (Except.ok.inj h).symm
        rw [if_neg c4] at h
        by_cases c5 : gis ts wHalf = true
        · rw [if_pos c5] at h
          have tl := gis_tl hG c5
          cases e1 : gpt ts.tail with
          | error e => rw [e1] at h; cases h
          | ok q =>
            obtain ⟨p, t1⟩ := q
            rw [e1] at h
            simp only at h
            have g1 := gpt_ok tl.1 e1
            cases e2 : gpt t1 with
            | error e => rw [e2] at h; cases h
            | ok q =>
              obtain ⟨p2, t2⟩ := q
              rw [e2] at h
              have g2 := gpt_ok g1.1 e2
              simp only [Except.ok.injEq, Prod.mk.injEq] at h
              obtain ⟨rfl, rfl, rfl⟩ := h
              exact ⟨g2.1, by simp only [List.length_singleton]; omega, by omega⟩
        rw [if_neg c5] at h
        by_cases c6 : (hd ts).k = 1 ∧ resv (hd ts).t = false
        · rw [if_pos c6] at h
          obtain ⟨a, r, rfl, -⟩ := hG.cons
          exact leafc _ (hG.tail (by have : a.k = 1 := c6.1; omega)) rfl (Except.ok.inj h).symm
        rw [if_neg c6] at h; cases h
      · rw [gx_lv l3] at h
        cases hp : gx f (lv + 1) d i ts none with
        | error e => rw [hp] at h; cases h
        | ok q =>
          obtain ⟨A1, x1, t1⟩ := q
          rw [hp] at h
          simp only at h
          have h4 := ih (lv + 1) _ _ _ _ _ _ _ hG hp
          have h5 := ih lv _ _ _ _ _ _ _ h4.1 h
          simp only [Option.isNone_none, if_true, Option.isNone_some] at h4 h5
          exact ⟨h5.1, by omega, by omega⟩
    | some q =>
      obtain ⟨A0, x0⟩ := q
      rw [gx_some] at h
      simp only [Option.isNone_some]
      by_cases ho : gop lv ts = 0
      · rw [if_pos ho] at h
        simp only [Except.ok.injEq, Prod.mk.injEq] at h
        obtain ⟨rfl, rfl, rfl⟩ := h
        exact ⟨hG, by omega, by simp⟩
      · rw [if_neg ho] at h
        obtain ⟨a, r, rfl, -⟩ := hG.cons
        have hG' := hG.tail (gop_ne ho).1
        simp only [List.tail_cons] at h
        cases hp : gx f (lv + 1) d (i + A0.length) r none with
        | error e => rw [hp] at h; cases h
        | ok q =>
          obtain ⟨B, y, t1⟩ := q
          rw [hp] at h
          simp only at h
          have h4 := ih (lv + 1) _ _ _ _ _ _ _ hG' hp
          have h5 := ih lv _ _ _ _ _ _ _ h4.1 h
          simp only [Option.isNone_none, if_true, Option.isNone_some, List.length_append, List.length_nil, List.length_cons] at h4 h5 ⊢
          exact ⟨h5.1, by omega, by have := h5.2.2; simp at this ⊢; omega⟩
def GvR (p f lv d : Nat) (ts : List Tok) (ns : List Nd) : SV → LH → Prop := fun v H' => ∃ A x ts', gx f lv d ns.length ts none = .ok (A, x, ts') ∧ v = lit (.int .i64 ((ns.length + A.length : Nat) - 1)) ∧ Ps p ts' d (ns ++ A) H'
def GvX (f lv d : Nat) (ts : List Tok) (ns : List Nd) : SV → LH → Prop := fun pv _ => ∃ e, gx f lv d ns.length ts none = .error e ∧ pv = erSV e
def GLv (fn : FuncId) (p f lv : Nat) : Prop := ∀ (ts : List Tok) (d : Nat) (ns : List Nd) (H : LH), GOk ts → d ≤ 200 → ns.length + ts.length ≤ 100000 → 8 * ts.length + 7 ≤ f + 2 * lv → Ps p ts d ns H → PuH Tryz.prog fn [ptrP p] H (GvR p f lv d ts ns) (GvX f lv d ts ns)
theorem gnested_pu [Sent 3] (fn : FuncId) (p f lv : Nat) (a : Tok) (r : List Tok) (d : Nat) (ns : List Nd) (H : LH) (hd : d ≤ 200) (hr : ns.length + r.length ≤ 100000) (h : Ps p (a :: r) d ns H)
    (hin : d < 200 → ∀ H1, Ps p r (d + 1) ns H1 → PuH Tryz.prog fn [ptrP p] H1 (GvR p f lv (d + 1) r ns) (GvX f lv (d + 1) r ns)) :
    PuH Tryz.prog 307 [ptrP p, fnv fn [ptrP p] []] H (fun v H' => d < 200 ∧ ∃ A x ts', gx f lv (d + 1) ns.length r none = .ok (A, x, ts') ∧ v = lit (.int .i64 ((ns.length + A.length : Nat) - 1)) ∧ Ps p ts' d (ns ++ A) H')
      (fun pv _ => (200 ≤ d ∧ pv = erSV (ger 2 (a :: r))) ∨ (d < 200 ∧ ∃ e, gx f lv (d + 1) ns.length r none = .error e ∧ pv = erSV e)) := by
  obtain ⟨s, Hs, hown, rfl⟩ := h
  have hco := hown.co
  by_cases h200 : 200 ≤ d
  · clear hin
    refine PuH.intro Tryz.func307 rfl (by kernel_rfl) fun C hC => ?_
    repeat (refine A1 ⟨?_⟩; intros)
    refine WfX (gfail_pu s hco p a r d (by omega) 2) ?_ ?_
    · rintro _ _ ⟨⟩
    · rintro _ _ hx
      rw [hC]
      exact .inl ⟨h200, hx⟩
  · replace hin := hin (by omega)
    refine PuH.intro Tryz.func307 rfl (by kernel_rfl) fun C hC => ?_
    repeat (refine A1 ⟨?_⟩; intros)
    refine WfT (ptake_pu s hco p a r d (by omega)) ?_
    rintro _ _ ⟨rfl, rfl⟩
    refine WPL.perm List.perm_append_comm ?_
    simp only [List.cons_append, List.nil_append]
    repeat (refine A1 ⟨?_⟩; intros)
    refine WvX (hin _ ⟨s, Hs, hown, rfl⟩) ?_ ?_ (Tk.same _)
    · rintro _ _ ⟨A, x, ts', hp, rfl, s1, H1, hown1, rfl⟩
      have hco1 := hown1.co
      simp only [List.cons_append, List.nil_append]
      clear hin
      repeat (refine A1 ⟨?_⟩; intros)
      exact endHR _ _ (end1 (RV.tmp rfl) (Le.refl _)) (List.Sublist.refl _) ⟨by omega, A, x, ts', hp, rfl, s1, H1, hown1, by rw [show ((d + 1 : Nat) : Int) - 1 = (d : Int) by omega]⟩
    · rintro _ _ ⟨e, hp, hx⟩
      rw [hC]
      exact .inr ⟨by omega, e, hp, hx⟩
theorem gsum1_pu (p b : Nat) (a : Tok) (r : List Tok) (d : Nat) (s : SV) (hco : CO s [s]) (Hs : LH) (hr : r.length ≤ 1000000) :
    PuH Tryz.prog 200 [ptrP b] ((b, bxT, [ptrP p]) :: (p, psT, psC (a :: r) d s) :: Hs) (fun v H => v = lit (.int .i64 (gop 1 (a :: r))) ∧ H = (b, bxT, [ptrP p]) :: (p, psT, psC (a :: r) d s) :: Hs) noX := by
  have c1 := gis_pu s hco a r d hr [43]
  have c2 := gis_pu s hco a r d hr [45]
  have c3 := gis_pu s hco a r d hr [94]
  unfold gop
  rw [if_pos rfl]
  cases h1 : gis (a :: r) [43] with
  | true =>
    rw [h1] at c1
    refine PuH.intro Tryz.func200 rfl (by kernel_rfl) fun C hC => ?_
    repeat (refine A1 ⟨?_⟩; intros)
    refine Wo (ov_callT c1 rfl (by repeat (first | exact List.mem_cons_self | apply List.mem_cons_of_mem))) ?_
    repeat (refine A1 ⟨?_⟩; intros)
    exact endHR _ _ (end1 (RV.tmp rfl) (Le.refl _)) (List.Sublist.refl _) ⟨rfl, rfl⟩
  | false =>
    rw [h1] at c1
    cases h2 : gis (a :: r) [45] with
    | true =>
      rw [h2] at c2
      refine PuH.intro Tryz.func200 rfl (by kernel_rfl) fun C hC => ?_
      repeat (refine A1 ⟨?_⟩; intros)
      refine Wo (ov_callT c1 rfl (by repeat (first | exact List.mem_cons_self | apply List.mem_cons_of_mem))) ?_
      repeat (refine A1 ⟨?_⟩; intros)
      refine Wo (ov_callT c2 rfl (by repeat (first | exact List.mem_cons_self | apply List.mem_cons_of_mem))) ?_
      repeat (refine A1 ⟨?_⟩; intros)
      exact endHR _ _ (end1 (RV.tmp rfl) (Le.refl _)) (List.Sublist.refl _) ⟨rfl, rfl⟩
    | false =>
      rw [h2] at c2
      cases h3 : gis (a :: r) [94] with
      | true =>
        rw [h3] at c3
        refine PuH.intro Tryz.func200 rfl (by kernel_rfl) fun C hC => ?_
        repeat (refine A1 ⟨?_⟩; intros)
        refine Wo (ov_callT c1 rfl (by repeat (first | exact List.mem_cons_self | apply List.mem_cons_of_mem))) ?_
        repeat (refine A1 ⟨?_⟩; intros)
        refine Wo (ov_callT c2 rfl (by repeat (first | exact List.mem_cons_self | apply List.mem_cons_of_mem))) ?_
        repeat (refine A1 ⟨?_⟩; intros)
        refine Wo (ov_callT c3 rfl (by repeat (first | exact List.mem_cons_self | apply List.mem_cons_of_mem))) ?_
        repeat (refine A1 ⟨?_⟩; intros)
        exact endHR _ _ (end1 (RV.tmp rfl) (Le.refl _)) (List.Sublist.refl _) ⟨rfl, rfl⟩
      | false =>
        rw [h3] at c3
        refine PuH.intro Tryz.func200 rfl (by kernel_rfl) fun C hC => ?_
        repeat (refine A1 ⟨?_⟩; intros)
        refine Wo (ov_callT c1 rfl (by repeat (first | exact List.mem_cons_self | apply List.mem_cons_of_mem))) ?_
        repeat (refine A1 ⟨?_⟩; intros)
        refine Wo (ov_callT c2 rfl (by repeat (first | exact List.mem_cons_self | apply List.mem_cons_of_mem))) ?_
        repeat (refine A1 ⟨?_⟩; intros)
        refine Wo (ov_callT c3 rfl (by repeat (first | exact List.mem_cons_self | apply List.mem_cons_of_mem))) ?_
        repeat (refine A1 ⟨?_⟩; intros)
        exact endHR _ _ (end1 (RV.tmp rfl) (Le.refl _)) (List.Sublist.refl _) ⟨rfl, rfl⟩
theorem gprod1_pu (p b : Nat) (a : Tok) (r : List Tok) (d : Nat) (s : SV) (hco : CO s [s]) (Hs : LH) (hr : r.length ≤ 1000000) :
    PuH Tryz.prog 254 [ptrP b] ((b, bxT, [ptrP p]) :: (p, psT, psC (a :: r) d s) :: Hs) (fun v H => v = lit (.int .i64 (gop 2 (a :: r))) ∧ H = (b, bxT, [ptrP p]) :: (p, psT, psC (a :: r) d s) :: Hs) noX := by
  have c1 := gis_pu s hco a r d hr [42]
  unfold gop
  rw [if_neg (by decide)]
  cases h1 : gis (a :: r) [42] with
  | true =>
    rw [h1] at c1
    refine PuH.intro Tryz.func254 rfl (by kernel_rfl) fun C hC => ?_
    repeat (refine A1 ⟨?_⟩; intros)
    refine Wo (ov_callT c1 rfl (by repeat (first | exact List.mem_cons_self | apply List.mem_cons_of_mem))) ?_
    repeat (refine A1 ⟨?_⟩; intros)
    exact endHR _ _ (end1 (RV.tmp rfl) (Le.refl _)) (List.Sublist.refl _) ⟨rfl, rfl⟩
  | false =>
    rw [h1] at c1
    refine PuH.intro Tryz.func254 rfl (by kernel_rfl) fun C hC => ?_
    repeat (refine A1 ⟨?_⟩; intros)
    refine Wo (ov_callT c1 rfl (by repeat (first | exact List.mem_cons_self | apply List.mem_cons_of_mem))) ?_
    repeat (refine A1 ⟨?_⟩; intros)
    exact endHR _ _ (end1 (RV.tmp rfl) (Le.refl _)) (List.Sublist.refl _) ⟨rfl, rfl⟩
set_option maxHeartbeats 4000000 in
theorem gbinary_pu (fo fops : FuncId) (p b f lv : Nat) (hlv : lv = 1 ∨ lv = 2)
    (hops : ∀ (a : Tok) (r : List Tok) (d : Nat) (s : SV) (Hs : LH), CO s [s] → r.length ≤ 1000000 → PuH Tryz.prog fops [ptrP b] ((b, bxT, [ptrP p]) :: (p, psT, psC (a :: r) d s) :: Hs) (fun v H => v = lit (.int .i64 (gop lv (a :: r))) ∧ H = (b, bxT, [ptrP p]) :: (p, psT, psC (a :: r) d s) :: Hs) noX)
    (hopd : ∀ f', f' ≤ f → GLv fo p f' (lv + 1)) (ts : List Tok) (d : Nat) (ns : List Nd) (H : LH) (hT : GOk ts) (hd : d ≤ 200) (hn : ns.length + ts.length ≤ 100000) (hf : 8 * ts.length + 7 ≤ f + 1 + 2 * lv) (h : Ps p ts d ns H) :
    PuH Tryz.prog 198 [ptrP p, fnv fo [ptrP p] [], fnv fops [] [ptrP b]] ((b, bxT, [ptrP p]) :: H) (fun v H' => ∃ H2, H' = (b, bxT, [ptrP p]) :: H2 ∧ GvR p (f + 1) lv d ts ns v H2) (GvX (f + 1) lv d ts ns) := by
  have hl3 : lv ≠ 3 := by omega
  have c0 := hopd f (Nat.le_refl _) ts d ns H hT hd hn (by omega) h
  unfold GvR GvX at *
  rw [gx_lv hl3]
  refine PuH.intro Tryz.func198 rfl (by kernel_rfl) fun C hC => ?_
  repeat (refine A1 ⟨?_⟩; intros)
  refine WvX c0 ?_ ?_ (Tk.skip _ (Tk.same _))
  case refine_2 =>
    rintro _ _ ⟨e, hp, hx⟩
    rw [hC, hp]
    exact ⟨e, rfl, hx⟩
  rintro _ _ ⟨A, x, ts1, hp, rfl, s1, H1, hown1, rfl⟩
  rw [hp] at hC ⊢
  simp only [List.cons_append, List.nil_append] at hC ⊢
  obtain ⟨g2, g4, g3⟩ := gx_len _ _ _ _ _ _ _ _ _ hT hp
  simp only [Option.isNone_none, if_true, Nat.add_zero] at g3 g4
  obtain ⟨a1, r1, rfl, -⟩ := g2.cons
  have hco1 := hown1.co
  have hlr : (a1 :: r1).length = r1.length + 1 := rfl
  repeat (refine A1 ⟨?_⟩; intros)
  refine WvT (hops a1 r1 d s1 H1 hco1 (by omega)) ?_
  rintro _ _ ⟨rfl, rfl⟩
  simp only [List.nil_append]
  repeat (refine A1 ⟨?_⟩; intros)
  refine WP.loopS (ι := Nat × List Nd × Ex × List Tok × SV × LH) (fun z => Own exPT 19 (ns ++ z.2.1).length ((ns ++ z.2.1).map ndx).flatten z.2.2.2.2.1 z.2.2.2.2.2 ∧ GOk z.2.2.2.1 ∧ z.2.1.length + z.2.2.2.1.length ≤ ts.length ∧ 8 * z.2.2.2.1.length + 1 ≤ z.1 ∧ z.1 ≤ f ∧
      gx f lv d ns.length (a1 :: r1) (some (A, x)) = gx z.1 lv d ns.length z.2.2.2.1 (some (z.2.1, z.2.2.1))) (fun z => z.2.2.2.1.length)
    (fun z => fm [(0, ptrP p), (1, fnv fo [ptrP p] []), (2, fnv fops [] [ptrP b]), (7, lit (.int .i64 ((ns.length + z.2.1.length : Nat) - 1))), (8, lit (.int .i64 (gop lv z.2.2.2.1)))])
    (fun z => (b, bxT, [ptrP p]) :: (p, psT, psC z.2.2.2.1 d z.2.2.2.2.1) :: z.2.2.2.2.2) (f, A, x, a1 :: r1, s1, H1) ⟨hown1, g2, g4, by simp only; omega, Nat.le_refl _, rfl⟩ (by (repeat (first | exact LeF.nil _ | refine LeF.cons (Le.refl _) ?_ | refine LeF.cons (Le.int (by omega)) ?_))) (List.Sublist.refl _) ?_
  clear hown1 g2 g3 g4 hp hlr c0 h
  rintro ⟨f1, Aa, x1, ts2, s2, H2⟩ ⟨hown, hT2, hlen, hf1, hff, hpe⟩ K hK
  simp only at hown hT2 hlen hf1 hff hpe ⊢
  obtain ⟨a, r, rfl, -⟩ := hT2.cons
  obtain ⟨f1, rfl⟩ : ∃ f', f1 = f' + 1 := ⟨f1 - 1, by omega⟩
  have hlr : (a :: r).length = r.length + 1 := rfl
  have e1 : (ns ++ Aa).length = ns.length + Aa.length := List.length_append
  have hco2 := hown.co
  rw [gx_some] at hpe
  by_cases ho : gop lv (a :: r) = 0
  · rw [if_pos ho] at hpe
    clear hK hops hopd
    repeat (refine A1 ⟨?_⟩; intros)
    exact endHR _ _ (end1 (RV.tmp rfl) (Le.refl _)) (List.Sublist.refl _) ⟨_, rfl, Aa, x1, a :: r, hpe, rfl, s2, H2, hown, rfl⟩
  · rw [if_neg ho, List.tail_cons, ← e1] at hpe
    obtain ⟨hak, o1, o2⟩ := gop_ne ho
    have hTr := hT2.tail hak
    have hop : 1 ≤ gop lv (a :: r) ∧ gop lv (a :: r) ≤ 4 := by
      rcases hlv with h1 | h1
      · rcases o1 h1 with e | e | e <;> rw [e] <;> decide
      · rw [o2 (by omega)]; decide
    have c1 := hopd f1 (by omega) r d (ns ++ Aa) _ hTr hd (by omega) (by omega) ⟨s2, H2, hown, rfl⟩
    unfold GvR GvX at c1
    have hl1 : 1 ≤ lv := by omega
    have hl2 : lv ≤ 2 := by omega
    clear o1 o2 hlv
    repeat (refine A1 ⟨?_⟩; intros)
    refine WfT (ptake_pu s2 hco2 p a r d (by omega)) ?_ (hs := Tk.skip _ (Tk.cons (HDel.here _) (Tk.nil _)))
    rintro _ _ ⟨rfl, rfl⟩
    refine WPL.perm List.perm_append_comm ?_
    refine WPL.perm (List.Perm.swap _ _ _) ?_
    repeat (refine A1 ⟨?_⟩; intros)
    refine WvX c1 ?_ ?_ (Tk.skip _ (Tk.skip _ (Tk.same _)))
    case refine_2 =>
      rintro _ _ ⟨e, hp2, hx⟩
      rw [hC, hpe, hp2]
      exact ⟨e, rfl, hx⟩
    rintro _ _ ⟨B, y, ts3, hp2, rfl, s3, H3, hown3, rfl⟩
    rw [hp2] at hpe
    simp only at hpe
    simp only [List.cons_append, List.nil_append]
    obtain ⟨g2, g4, g3⟩ := gx_len _ _ _ _ _ _ _ _ _ hTr hp2
    simp only [Option.isNone_none, if_true, Nat.add_zero] at g3 g4
    obtain ⟨a3, r3, rfl, -⟩ := g2.cons
    have hlr3 : (a3 :: r3).length = r3.length + 1 := rfl
    have e2 : (ns ++ Aa ++ B).length = ns.length + Aa.length + B.length := by rw [List.length_append, e1]
    rw [e1] at hpe
    have hco3 := hown3.co
    have hgo := fun s' H' hw F' H'' => hK F' H'' (f1, Aa ++ B ++ [ndB (gop lv (a :: r)) ((ns.length + Aa.length : Nat) - 1) ((ns.length + Aa.length + B.length : Nat) - 1) a], .bi (ndB (gop lv (a :: r)) ((ns.length + Aa.length : Nat) - 1) ((ns.length + Aa.length + B.length : Nat) - 1) a) x1 y, a3 :: r3, s', H')
      ⟨hw, g2, by simp only [List.length_append, List.length_singleton]; omega, by simp only; omega, by simp only; omega, hpe⟩ (by simp only; omega)
    simp only at hgo
    have c2 := padd_pu p (a3 :: r3) d (ns ++ Aa ++ B) s3 H3 hown3 (by omega) (ndB0 (gop lv (a :: r)) ((ns.length + Aa.length : Nat) - 1) ((ns.length + Aa.length + B.length : Nat) - 1)) a
    rw [ndB0_at] at c2
    clear hK hpe c1 hopd
    repeat (refine A1 ⟨?_⟩; intros)
    refine WPL.low 27 rfl (Le.ag (b := ndx (ndB0 (gop lv (a :: r)) ((ns.length + Aa.length : Nat) - 1) ((ns.length + Aa.length + B.length : Nat) - 1))) ?_) ?_
    · simp only [ndB0]
      repeat (first | exact trivial | refine ⟨?_, ?_⟩ | exact Le.refl _ | exact le_nil | exact Le.int (show _ = ((ns.length + Aa.length + B.length : Nat) : Int) - 1 by rw [e1]))
    refine WfT c2 ?_ (hs := Tk.skip _ (Tk.skip _ (Tk.same _)))
    rintro _ _ ⟨rfl, s4, H4, hown4, rfl⟩
    simp only [List.cons_append, List.nil_append]
    have hco4 := hown4.co
    repeat (refine A1 ⟨?_⟩; intros)
    refine WvT (hops a3 r3 d s4 H4 hco4 (by omega)) ?_ (hs := Tk.skip _ (Tk.same _))
    rintro _ _ ⟨rfl, rfl⟩
    simp only [List.cons_append, List.nil_append]
    repeat (refine A1 ⟨?_⟩; intros)
    exact hgo s4 H4 (by rw [← List.append_assoc, ← List.append_assoc]; exact hown4) _ _ (LeF.cons (Le.refl _) (LeF.cons (Le.refl _) (LeF.cons (Le.refl _) (LeF.cons (Le.int (by simp only [List.length_append, List.length_singleton]; omega)) (LeF.cons (Le.refl _) (LeF.nil _)))))) (List.sublist_cons_self _ _)
theorem gsum_of [Sent 4] [Sent 3] {p f : Nat} (h : ∀ f', f' ≤ f → GLv 199 p f' 2) : GLv 144 p (f + 1) 1 := by
  intro ts d ns H hT hd hn hf hps
  have c := fun b => gbinary_pu 199 200 p b f 1 (.inl rfl) (fun a r d s Hs hco hr => gsum1_pu p b a r d s hco Hs hr) h ts d ns H hT hd hn hf hps
  clear h hT hf
  refine PuH.intro Tryz.func144 rfl (by kernel_rfl) fun C hC => ?_
  repeat (refine A1 ⟨?_⟩; intros)
  refine WfX (c _) ?_ ?_
  · rintro _ _ ⟨H2, rfl, A, x, ts', hp, rfl, hps'⟩
    simp only [List.cons_append, List.nil_append, List.append_nil]
    repeat (refine A1 ⟨?_⟩; intros)
    exact endHR _ _ (end1 (RV.tmp rfl) (Le.refl _)) (List.sublist_cons_self _ _) ⟨A, x, ts', hp, rfl, hps'⟩
  · rintro _ _ hx
    rw [hC]
    exact hx
theorem gprod_of [Sent 4] [Sent 3] {p f : Nat} (h : ∀ f', f' ≤ f → GLv 253 p f' 3) : GLv 199 p (f + 1) 2 := by
  intro ts d ns H hT hd hn hf hps
  have c := fun b => gbinary_pu 253 254 p b f 2 (.inr rfl) (fun a r d s Hs hco hr => gprod1_pu p b a r d s hco Hs hr) h ts d ns H hT hd hn hf hps
  clear h hT hf
  refine PuH.intro Tryz.func199 rfl (by kernel_rfl) fun C hC => ?_
  repeat (refine A1 ⟨?_⟩; intros)
  refine WfX (c _) ?_ ?_
  · rintro _ _ ⟨H2, rfl, A, x, ts', hp, rfl, hps'⟩
    simp only [List.cons_append, List.nil_append, List.append_nil]
    repeat (refine A1 ⟨?_⟩; intros)
    exact endHR _ _ (end1 (RV.tmp rfl) (Le.refl _)) (List.sublist_cons_self _ _) ⟨A, x, ts', hp, rfl, hps'⟩
  · rintro _ _ hx
    rw [hC]
    exact hx
end Go.Ab
