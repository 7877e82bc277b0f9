/- Texts laid one behind the other: ParseZ, GLexS, PNumS, RowC. -/
import Derived.Test.YtebghnhocigmlaaGreatDoorB13
import Derived.Test.YtebghnhocigmlaaGreatDoorB11
import Derived.Test.YtebghnhocigmlaaGreatDoorB05
import Derived.Test.YtebghnhocigmlaaGreatDoorB12
namespace Go.Ab
open Go.Proofs
set_option linter.unusedSectionVars false
set_option linter.unusedVariables false
set_option linter.unusedSimpArgs false
variable [Base]
theorem prs_len : ∀ (f lv d i : Nat) (ts : List Tok) (acc : Option (List Nd × Ex)) (A : List Nd) (x : Ex) (ts' : List Tok), (1 ≤ lv ∧ lv ≤ 3) → (lv = 3 → acc = none) → TOk ts → (match acc with
      | some (A0, x0) => Rn A0 i x0
      | none => True) → prs f lv d i ts acc = some (A, x, ts') → A.length + ts'.length ≤ ts.length + (match acc with
      | some (A0, _) => A0.length
      | none => 0) := by
  intro f
  induction f with
  | zero => intro lv d i ts acc A x ts' _ _ _ _ h; unfold prs at h; cases h
  | succ f ih =>
    intro lv d i ts acc A x ts' hlv h3 hT hacc h
    cases acc with
    | none =>
      simp only [Nat.add_zero]
      unfold prs at h
      by_cases l3 : lv = 3
      · subst l3
        rw [if_pos rfl] at h
        have tl : ∀ s, tis ts s = true → TOk ts.tail ∧ ts.tail.length + 1 = ts.length := fun s hs => by
          obtain ⟨a, r, rfl, ha, _⟩ := tis_ne hs
          exact ⟨(hT.tail ha).1, by simp⟩
        by_cases c1 : tis ts [126] = true
        · rw [if_pos c1] at h
          obtain ⟨hT', hl'⟩ := tl _ c1
          by_cases hd' : 200 ≤ d
          · rw [if_pos hd'] at h; cases h
          · rw [if_neg hd'] at h
            cases hp : prs f 3 (d + 1) i ts.tail none with
            | none => rw [hp] at h; cases h
            | some q =>
              obtain ⟨A1, x1, t1⟩ := q
              rw [hp] at h
              simp only [Option.some.injEq, Prod.mk.injEq] at h
              obtain ⟨rfl, rfl, rfl⟩ := h
              have := ih 3 _ _ _ _ _ _ _ (by omega) (fun _ => rfl) hT' trivial hp
              simp at this ⊢
              omega
        · rw [if_neg c1] at h
          by_cases c2 : tis ts [40] = true
          · rw [if_pos c2] at h
            obtain ⟨hT', hl'⟩ := tl _ c2
            by_cases hd' : 200 ≤ d
            · rw [if_pos hd'] at h; cases h
            · rw [if_neg hd'] at h
              cases hp : prs f 1 (d + 1) i ts.tail none with
              | none => rw [hp] at h; cases h
              | some q =>
                obtain ⟨A1, x1, t1⟩ := q
                rw [hp] at h
                simp only at h
                have := ih 1 _ _ _ _ _ _ _ (by omega) (fun h => by omega) hT' trivial hp
                by_cases c3 : tis t1 [41] = true
                · rw [if_pos c3] at h
                  simp only [Option.some.injEq, Prod.mk.injEq] at h
                  obtain ⟨rfl, rfl, rfl⟩ := h
                  simp at this ⊢
                  omega
                · rw [if_neg c3] at h; cases h
          · rw [if_neg c2] at h
            have leafc : ∀ n : Nd, ts.tail.length + 1 = ts.length → (A, x, ts') = ([n], Ex.leaf n, ts.tail) → A.length + ts'.length ≤ ts.length := fun n hn e => by
              simp only [Prod.mk.injEq] at e
              obtain ⟨rfl, rfl, rfl⟩ := e
              simp only [List.length_cons, List.length_nil]
              omega
            by_cases c3 : tis ts wAll = true
            · rw [if_pos c3] at h; exact leafc _ (tl _ c3).2 (Option.some.inj h).symm
            rw [if_neg c3] at h
            by_cases c4 : tis ts wNone = true
            · rw [if_pos c4] at h; exact leafc _ (tl _ c4).2 (Option.some.inj h).symm
            rw [if_neg c4] at h
            by_cases c5 : tis ts wHalf = true
            · rw [if_pos c5] at h; cases h
            rw [if_neg c5] at h
            by_cases c6 : (hd ts).k = 1 ∧ resv (hd ts).t = false
            · rw [if_pos c6] at h
              cases ts with
              | nil => exact hT.elim
              | cons a r => exact leafc _ rfl (Option.some.inj h).symm
            rw [if_neg c6] at h; cases h
      · rw [if_neg l3] at h
        cases hp : prs f (lv + 1) d i ts none with
        | none => rw [hp] at h; cases h
        | some q =>
          obtain ⟨A1, x1, t1⟩ := q
          rw [hp] at h
          simp only at h
          obtain ⟨g1, g2, _⟩ := prs_ok _ _ _ _ _ _ _ _ _ (by omega) (fun _ => rfl) hT trivial hp
          have h4 := ih (lv + 1) _ _ _ _ _ _ _ (by omega) (fun _ => rfl) hT trivial hp
          have h5 := ih lv _ _ _ _ _ _ _ hlv (fun e => absurd e l3) g2 (by exact g1) h
          simp only at h4 h5
          omega
    | some q =>
      obtain ⟨A0, x0⟩ := q
      simp only at hacc ⊢
      have l3 : lv ≠ 3 := fun e => by have := h3 e; cases this
      unfold prs at h
      by_cases ho : opAt lv ts = 0
      · rw [if_pos ho] at h
        simp only [Option.some.injEq, Prod.mk.injEq] at h
        obtain ⟨rfl, rfl, rfl⟩ := h
        omega
      · rw [if_neg ho] at h
        obtain ⟨⟨a, r, rfl, ha⟩, o1, o2⟩ := opAt_ne ho
        have hop : 1 ≤ opAt lv (a :: r) ∧ opAt lv (a :: r) ≤ 4 := by
          by_cases h1 : lv = 1
          · rcases o1 h1 with e | e | e <;> rw [e] <;> decide
          · rw [o2 h1]; decide
        cases hp : prs f (lv + 1) d (i + A0.length) r none with
        | none => simp only [List.tail_cons] at h; rw [hp] at h; cases h
        | some q =>
          obtain ⟨B, y, t1⟩ := q
          simp only [List.tail_cons] at h
          rw [hp] at h
          simp only at h
          obtain ⟨g1, g2, _⟩ := prs_ok _ _ _ _ _ _ _ _ _ (by omega) (fun _ => rfl) (hT.tail ha).1 trivial hp
          have h4 := ih (lv + 1) _ _ _ _ _ _ _ (by omega) (fun _ => rfl) (hT.tail ha).1 trivial hp
          have h5 := ih lv _ _ _ _ _ _ _ hlv (fun e => absurd e l3) g2 (hacc.bi g1 (okNB hop.1 hop.2) rfl rfl rfl) h
          simp at h4 h5 ⊢
          omega
theorem prs_some (f lv d i : Nat) (ts : List Tok) (A : List Nd) (x : Ex) : prs (f + 1) lv d i ts (some (A, x)) = if opAt lv ts = 0 then some (A, x, ts)
    else match prs f (lv + 1) d (i + A.length) ts.tail none with
      | some (B, y, ts') => prs f lv d i ts' (some (A ++ B ++ [ndB (opAt lv ts) ((i + A.length : Nat) - 1) ((i + A.length + B.length : Nat) - 1) (hd ts)], .bi (ndB (opAt lv ts) ((i + A.length : Nat) - 1) ((i + A.length + B.length : Nat) - 1) (hd ts)) x y))
      | none => none := rfl
theorem prs_lv {f lv d i : Nat} {ts : List Tok} (h : lv ≠ 3) : prs (f + 1) lv d i ts none = match prs f (lv + 1) d i ts none with
      | some (A, x, ts') => prs f lv d i ts' (some (A, x))
      | none => none := by
  conv => lhs; unfold prs
  rw [if_neg h]
  rfl
def ndB0 (op x y : Int) : Nd := ⟨6, [], zz, zz, zz, zz, op, x, y, 0, 0⟩
theorem ndB0_at (op x y : Int) (a : Tok) : (ndB0 op x y).at a = ndB op x y a := rfl
set_option maxHeartbeats 4000000 in
theorem pbinary_pu (fo fops : FuncId) (p b f lv : Nat) (hlv : lv = 1 ∨ lv = 2)
    (hops : ∀ (a : Tok) (r : List Tok) (d : Nat) (s : SV) (Hs : LH), CO s [s] → r.length ≤ 1000000 → a.ok → PuH Tryz.prog fops [ptrP b] ((b, bxT, [ptrP p]) :: (p, psT, psC (a :: r) d s) :: Hs) (fun v H => v = lit (.int .i64 (opAt lv (a :: r))) ∧ H = (b, bxT, [ptrP p]) :: (p, psT, psC (a :: r) d s) :: Hs) noX)
    (hopd : ∀ f', f' ≤ f → Lv fo p f' (lv + 1)) (ts : List Tok) (d : Nat) (ns : List Nd) (H : LH) (hT : TOk ts) (hd : d ≤ 200) (hn : ns.length + ts.length ≤ 100000) (hf : 8 * ts.length + 7 ≤ f + 1 + 2 * lv) (h : Ps p ts d ns H) :
    PuH Tryz.prog 198 [ptrP p, fnv fo [ptrP p] [], fnv fops [] [ptrP b]] ((b, bxT, [ptrP p]) :: H) (fun v H' => ∃ H2, H' = (b, bxT, [ptrP p]) :: H2 ∧ LvR p (f + 1) lv d ts ns v H2) (LvX (f + 1) lv d ts ns) := by
  have hl3 : lv ≠ 3 := by omega
  have c0 := hopd f (Nat.le_refl _) ts d ns H hT hd hn (by omega) h
  unfold LvR LvX at *
  rw [prs_lv hl3]
  refine PuH.intro Tryz.func198 rfl (by kernel_rfl) fun C hC => ?_
  repeat (refine A1 ⟨?_⟩; intros)
  refine WvX c0 ?_ ?_ (Tk.skip _ (Tk.same _))
  case refine_2 =>
    rintro _ _ ⟨hp, hx⟩
    rw [hC, hp]
    exact ⟨rfl, hx⟩
  rintro _ _ ⟨A, x, ts1, hp, rfl, s1, H1, hown1, rfl⟩
  rw [hp] at hC ⊢
  simp only [List.cons_append, List.nil_append] at hC ⊢
  obtain ⟨g1, g2, g3⟩ := prs_ok _ _ _ _ _ _ _ _ _ (by omega) (fun _ => rfl) hT trivial hp
  have g4 := prs_len _ _ _ _ _ _ _ _ _ (by omega) (fun _ => rfl) hT trivial hp
  simp only [Option.isNone_none, if_true, Nat.add_zero] at g3 g4
  obtain ⟨a1, r1, rfl, ha1⟩ := g2.cons
  have hco1 := hown1.co
  have hlr : (a1 :: r1).length = r1.length + 1 := rfl
  repeat (refine A1 ⟨?_⟩; intros)
  refine WvT (hops a1 r1 d s1 H1 hco1 (by omega) ha1) ?_
  rintro _ _ ⟨rfl, rfl⟩
  simp only [List.nil_append]
  repeat (refine A1 ⟨?_⟩; intros)
  refine WP.loopS (ι := Nat × List Nd × Ex × List Tok × SV × LH) (fun z => Own exPT 19 (ns ++ z.2.1).length ((ns ++ z.2.1).map ndx).flatten z.2.2.2.2.1 z.2.2.2.2.2 ∧ TOk z.2.2.2.1 ∧ Rn z.2.1 ns.length z.2.2.1 ∧ z.2.1.length + z.2.2.2.1.length ≤ ts.length ∧ 8 * z.2.2.2.1.length + 1 ≤ z.1 ∧ z.1 ≤ f ∧
      prs f lv d ns.length (a1 :: r1) (some (A, x)) = prs z.1 lv d ns.length z.2.2.2.1 (some (z.2.1, z.2.2.1))) (fun z => z.2.2.2.1.length)
    (fun z => fm [(0, ptrP p), (1, fnv fo [ptrP p] []), (2, fnv fops [] [ptrP b]), (7, lit (.int .i64 ((ns.length + z.2.1.length : Nat) - 1))), (8, lit (.int .i64 (opAt lv z.2.2.2.1)))])
    (fun z => (b, bxT, [ptrP p]) :: (p, psT, psC z.2.2.2.1 d z.2.2.2.2.1) :: z.2.2.2.2.2) (f, A, x, a1 :: r1, s1, H1) ⟨hown1, g2, g1, g4, by simp only; omega, Nat.le_refl _, rfl⟩ (by (repeat (first | exact LeF.nil _ | refine LeF.cons (Le.refl _) ?_ | refine LeF.cons (Le.int (by omega)) ?_))) (List.Sublist.refl _) ?_
  clear hown1 g1 g2 g3 g4 hp hlr c0 h ha1
  rintro ⟨f1, Aa, x1, ts2, s2, H2⟩ ⟨hown, hT2, hR, hlen, hf1, hff, hpe⟩ K hK
  simp only at hown hT2 hR hlen hf1 hff hpe ⊢
  obtain ⟨a, r, rfl, ha⟩ := hT2.cons
  obtain ⟨f1, rfl⟩ : ∃ f', f1 = f' + 1 := ⟨f1 - 1, by omega⟩
  have hlr : (a :: r).length = r.length + 1 := rfl
  have e1 : (ns ++ Aa).length = ns.length + Aa.length := List.length_append
  have hco2 := hown.co
  rw [prs_some] at hpe
  by_cases ho : opAt lv (a :: r) = 0
  · rw [if_pos ho] at hpe
    clear hK hops hopd
    repeat (refine A1 ⟨?_⟩; intros)
    exact endHR _ _ (end1 (RV.tmp rfl) (Le.refl _)) (List.Sublist.refl _) ⟨_, rfl, Aa, x1, a :: r, hpe, rfl, s2, H2, hown, rfl⟩
  · rw [if_neg ho, List.tail_cons, ← e1] at hpe
    obtain ⟨⟨_, _, he, hak⟩, o1, o2⟩ := opAt_ne ho
    obtain ⟨rfl, rfl⟩ := List.cons.inj he
    have hTr := (hT2.tail hak).1
    have hop : 1 ≤ opAt lv (a :: r) ∧ opAt lv (a :: r) ≤ 4 := by
      rcases hlv with h1 | h1
      · rcases o1 h1 with e | e | e <;> rw [e] <;> decide
      · rw [o2 (by omega)]; decide
    have c1 := hopd f1 (by omega) r d (ns ++ Aa) _ hTr hd (by omega) (by omega) ⟨s2, H2, hown, rfl⟩
    unfold LvR LvX at c1
    have hl1 : 1 ≤ lv := by omega
    have hl2 : lv ≤ 2 := by omega
    clear o1 o2 he hlv
    repeat (refine A1 ⟨?_⟩; intros)
    refine WfT (ptake_pu s2 hco2 p a r d (by omega)) ?_ (hs := Tk.skip _ (Tk.cons (HDel.here _) (Tk.nil _)))
    rintro _ _ ⟨rfl, rfl⟩
    refine WPL.perm List.perm_append_comm ?_
    refine WPL.perm (List.Perm.swap _ _ _) ?_
    repeat (refine A1 ⟨?_⟩; intros)
    refine WvX c1 ?_ ?_ (Tk.skip _ (Tk.skip _ (Tk.same _)))
    case refine_2 =>
      rintro _ _ ⟨hp2, hx⟩
      rw [hC, hpe, hp2]
      exact ⟨rfl, hx⟩
    rintro _ _ ⟨B, y, ts3, hp2, rfl, s3, H3, hown3, rfl⟩
    rw [hp2] at hpe
    simp only at hpe
    simp only [List.cons_append, List.nil_append]
    obtain ⟨g1, g2, g3⟩ := prs_ok _ _ _ _ _ _ _ _ _ (by omega) (fun _ => rfl) hTr trivial hp2
    have g4 := prs_len _ _ _ _ _ _ _ _ _ (by omega) (fun _ => rfl) hTr trivial hp2
    simp only [Option.isNone_none, if_true, Nat.add_zero] at g3 g4
    obtain ⟨a3, r3, rfl, ha3⟩ := g2.cons
    have hlr3 : (a3 :: r3).length = r3.length + 1 := rfl
    have e2 : (ns ++ Aa ++ B).length = ns.length + Aa.length + B.length := by rw [List.length_append, e1]
    rw [e1] at hpe g1
    have hco3 := hown3.co
    have hR2 := hR.bi g1 (okNB (x := ((ns.length + Aa.length : Nat) : Int) - 1) (y := ((ns.length + Aa.length + B.length : Nat) : Int) - 1) (a := a) hop.1 hop.2) rfl rfl rfl
    have hgo := fun s' H' hw F' H'' => hK F' H'' (f1, Aa ++ B ++ [ndB (opAt lv (a :: r)) ((ns.length + Aa.length : Nat) - 1) ((ns.length + Aa.length + B.length : Nat) - 1) a], .bi (ndB (opAt lv (a :: r)) ((ns.length + Aa.length : Nat) - 1) ((ns.length + Aa.length + B.length : Nat) - 1) a) x1 y, a3 :: r3, s', H')
      ⟨hw, g2, hR2, by simp only [List.length_append, List.length_singleton]; omega, by simp only; omega, by simp only; omega, hpe⟩ (by simp only; omega)
    simp only at hgo
    have c2 := padd_pu p (a3 :: r3) d (ns ++ Aa ++ B) s3 H3 hown3 (by omega) (ndB0 (opAt lv (a :: r)) ((ns.length + Aa.length : Nat) - 1) ((ns.length + Aa.length + B.length : Nat) - 1)) a
    rw [ndB0_at] at c2
    clear hK hpe c1 hR2 hopd
    repeat (refine A1 ⟨?_⟩; intros)
    refine WPL.low 27 rfl (Le.ag (b := ndx (ndB0 (opAt lv (a :: r)) ((ns.length + Aa.length : Nat) - 1) ((ns.length + Aa.length + B.length : Nat) - 1))) ?_) ?_
    · simp only [ndB0]
      repeat (first | exact trivial | refine ⟨?_, ?_⟩ | exact Le.refl _ | exact le_nil | exact Le.int (show _ = ((ns.length + Aa.length + B.length : Nat) : Int) - 1 by rw [e1]))
    refine WfT c2 ?_ (hs := Tk.skip _ (Tk.skip _ (Tk.same _)))
    rintro _ _ ⟨rfl, s4, H4, hown4, rfl⟩
    simp only [List.cons_append, List.nil_append]
    have hco4 := hown4.co
    repeat (refine A1 ⟨?_⟩; intros)
    refine WvT (hops a3 r3 d s4 H4 hco4 (by omega) ha3) ?_ (hs := Tk.skip _ (Tk.same _))
    rintro _ _ ⟨rfl, rfl⟩
    simp only [List.cons_append, List.nil_append]
    repeat (refine A1 ⟨?_⟩; intros)
    exact hgo s4 H4 (by rw [← List.append_assoc, ← List.append_assoc]; exact hown4) _ _ (LeF.cons (Le.refl _) (LeF.cons (Le.refl _) (LeF.cons (Le.refl _) (LeF.cons (Le.int (by simp only [List.length_append, List.length_singleton]; omega)) (LeF.cons (Le.refl _) (LeF.nil _)))))) (List.sublist_cons_self _ _)
theorem psum_of [Sent 4] [Sent 3] {p f : Nat} (h : ∀ f', f' ≤ f → Lv 199 p f' 2) : Lv 144 p (f + 1) 1 := by
  intro ts d ns H hT hd hn hf hps
  have c := fun b => pbinary_pu 199 200 p b f 1 (.inl rfl) (fun a r d s Hs hco hr ha => psum1_pu p b a r d s hco Hs hr ha) h ts d ns H hT hd hn hf hps
  clear h hT hf
  refine PuH.intro Tryz.func144 rfl (by kernel_rfl) fun C hC => ?_
  repeat (refine A1 ⟨?_⟩; intros)
  refine WfX (c _) ?_ ?_
  · rintro _ _ ⟨H2, rfl, A, x, ts', hp, rfl, hps'⟩
    simp only [List.cons_append, List.nil_append, List.append_nil]
    repeat (refine A1 ⟨?_⟩; intros)
    exact endHR _ _ (end1 (RV.tmp rfl) (Le.refl _)) (List.sublist_cons_self _ _) ⟨A, x, ts', hp, rfl, hps'⟩
  · rintro _ _ hx
    rw [hC]
    exact hx
theorem pprod_of [Sent 4] [Sent 3] {p f : Nat} (h : ∀ f', f' ≤ f → Lv 253 p f' 3) : Lv 199 p (f + 1) 2 := by
  intro ts d ns H hT hd hn hf hps
  have c := fun b => pbinary_pu 253 254 p b f 2 (.inr rfl) (fun a r d s Hs hco hr ha => pprod1_pu p b a r d s hco Hs hr ha) h ts d ns H hT hd hn hf hps
  clear h hT hf
  refine PuH.intro Tryz.func199 rfl (by kernel_rfl) fun C hC => ?_
  repeat (refine A1 ⟨?_⟩; intros)
  refine WfX (c _) ?_ ?_
  · rintro _ _ ⟨H2, rfl, A, x, ts', hp, rfl, hps'⟩
    simp only [List.cons_append, List.nil_append, List.append_nil]
    repeat (refine A1 ⟨?_⟩; intros)
    exact endHR _ _ (end1 (RV.tmp rfl) (Le.refl _)) (List.sublist_cons_self _ _) ⟨A, x, ts', hp, rfl, hps'⟩
  · rintro _ _ hx
    rw [hC]
    exact hx
theorem prs_3 (f d i : Nat) (ts : List Tok) : prs (f + 1) 3 d i ts none = if tis ts [126] = true then
        (if 200 ≤ d then none else match prs f 3 (d + 1) i ts.tail none with
          | some (A, x, ts') => some (A ++ [ndU ((i + A.length : Nat) - 1) (hd ts)], .un (ndU ((i + A.length : Nat) - 1) (hd ts)) x, ts')
          | none => none)
      else if tis ts [40] = true then
        (if 200 ≤ d then none else match prs f 1 (d + 1) i ts.tail none with
          | some (A, x, ts') => if tis ts' [41] = true then some (A, x, ts'.tail) else none
          | none => none)
      else if tis ts wAll = true then some ([ndA 2 (hd ts)], .leaf (ndA 2 (hd ts)), ts.tail)
      else if tis ts wNone = true then some ([ndA 3 (hd ts)], .leaf (ndA 3 (hd ts)), ts.tail)
      else if tis ts wHalf = true then none
      else if (hd ts).k = 1 ∧ resv (hd ts).t = false then some ([ndN (hd ts)], .leaf (ndN (hd ts)), ts.tail)
      else none := by
  conv => lhs; unfold prs
  rfl
section
variable {P : Program} {C : Ctx} {n : Nat} {F : Fr} {H : LH} {ops : Array Oper} {K : Fr → LH → Prop} {rest : List Oper} {ty : TypeId} {pos : String} {aft : Array Edge}
theorem WfE {f : FuncId} {d : Nat} {l : List Operand} {tys : Array TypeId} {svs : List SV} {Hin Rs Hout H2 : LH} {res : SV} (hc : PuH P f svs Hin (fun v H' => v = res ∧ H' = Hout) noX) (hs : Tk H Hin Rs) (hp : (Rs ++ Hout).Perm H2) (k : WPL P C n ops rest K (upd F d res) H2)
    (ha : l.map (ev F) = svs := by exact rfl) (hd : Nat.blt d n = true := by exact rfl) : WPL P C n ops (⟨some d, .call ⟨.value (.func f), l.toArray, tys⟩, ty, pos, aft, none⟩ :: rest) K F H :=
  WfT hc (fun _ _ ⟨e1, e2⟩ => by subst e1; subst e2; exact WPL.perm hp k) ha hs hd
end
def ndU0 (x : Int) : Nd := ⟨5, [], zz, zz, zz, zz, 0, x, 0, 0, 0⟩
def ndA0 (k : Int) : Nd := ⟨k, [], zz, zz, zz, zz, 0, 0, 0, 0, 0⟩
def ndN0 (t : List UInt8) : Nd := ⟨1, t, zz, zz, zz, zz, 0, 0, 0, 0, 0⟩
set_option maxHeartbeats 4000000 in
theorem pfactor_of [Sent 4] [Sent 3] {p f : Nat} (hF : Lv 253 p f 3) (hS : Lv 144 p f 1) : Lv 253 p (f + 1) 3 := by
  intro ts d ns H hT hd hn hf hps
  obtain ⟨a, r, rfl, ha⟩ := hT.cons
  have hlr : (a :: r).length = r.length + 1 := rfl
  obtain ⟨s, Hs, hown, rfl⟩ := hps
  have hco := hown.co
  have c0 := pnext_pu s hco a r d (by omega)
  have c1 := pis_pu s hco a r d (by omega) ha [126] (by decide)
  have c2 := pis_pu s hco a r d (by omega) ha [40] (by decide)
  have hprs := prs_3 f d ns.length (a :: r)
  simp only [List.tail_cons, Ab.hd, List.headD_cons] at hprs
  unfold LvR LvX
  cases t1 : tis (a :: r) [126] with
  | true =>
    rw [t1] at c1
    rw [t1, if_pos rfl] at hprs
    have c3 := pnested_pu 253 p f 3 a r d ns _ hd (by omega) ⟨s, Hs, hown, rfl⟩ (fun hd' H1 h1 => hF r (d + 1) ns H1 (hT.next t1) (by omega) (by omega) (by omega) h1)
    have hlen := fun A x ts' h => prs_len f 3 (d + 1) ns.length r none A x ts' (by omega) (fun _ => rfl) (hT.next t1) trivial h
    clear hF hS c2 ha
    refine PuH.intro Tryz.func253 rfl (by kernel_rfl) fun C hC => ?_
    repeat (refine A1 ⟨?_⟩; intros)
    refine Wo (ov_callT c0 rfl (by repeat (first | exact List.mem_cons_self | apply List.mem_cons_of_mem))) ?_
    repeat (refine A1 ⟨?_⟩; intros)
    refine Wo (ov_callT c1 rfl (by repeat (first | exact List.mem_cons_self | apply List.mem_cons_of_mem))) ?_
    repeat (refine A1 ⟨?_⟩; intros)
    refine WfX c3 ?_ ?_ (hs := Tk.skip _ (Tk.same _))
    · rintro _ _ ⟨hd2, A, x, ts', hp, rfl, s1, H1, hown1, rfl⟩
      have hlA := hlen _ _ _ hp
      simp only [Nat.add_zero] at hlA
      rw [if_neg (by omega), hp] at hprs
      simp only at hprs
      have e1 : (ns ++ A).length = ns.length + A.length := List.length_append
      have hco1 := hown1.co
      have c4 := padd_pu p ts' d (ns ++ A) s1 H1 hown1 (by omega) (ndU0 ((ns.length + A.length : Nat) - 1)) a
      rw [show (ndU0 ((ns.length + A.length : Nat) - 1)).at a = ndU ((ns.length + A.length : Nat) - 1) a from rfl] at c4
      simp only [List.cons_append, List.nil_append]
      clear hlen c3 hp
      repeat (refine A1 ⟨?_⟩; intros)
      refine WPL.low 18 rfl (Le.ag (b := ndx (ndU0 ((ns.length + A.length : Nat) - 1))) (by repeat (first | exact trivial | refine ⟨?_, ?_⟩ | exact Le.refl _ | exact le_nil | exact Le.int (by omega)))) ?_
      refine WfT c4 ?_ (hs := Tk.skip _ (Tk.same _))
      rintro _ _ ⟨rfl, s4, H4, hown4, rfl⟩
      simp only [List.cons_append, List.nil_append]
      repeat (refine A1 ⟨?_⟩; intros)
      exact endHR _ _ (end1 (RV.tmp (s := lit (.int .i64 (ns ++ A).length)) rfl) (Le.refl _)) (List.sublist_cons_self _ _) ⟨_, _, _, hprs, by rw [List.length_append, List.length_append, List.length_singleton]; exact congrArg (fun z => lit (.int .i64 z)) (by omega), s4, H4, by rw [← List.append_assoc]; exact hown4, rfl⟩
    · rintro _ _ ⟨hp, hx⟩
      rw [hC]
      refine ⟨?_, hx⟩
      rw [hprs]
      rcases hp with hp | hp
      · rw [if_pos hp]
      · rw [hp]; split <;> rfl
  | false =>
    rw [t1] at c1
    rw [t1, if_neg (by decide)] at hprs
    cases t2 : tis (a :: r) [40] with
    | true =>
      rw [t2] at c2
      rw [t2, if_pos rfl] at hprs
      have c3 := pnested_pu 144 p f 1 a r d ns _ hd (by omega) ⟨s, Hs, hown, rfl⟩ (fun hd' H1 h1 => hS r (d + 1) ns H1 (hT.next t2) (by omega) (by omega) (by omega) h1)
      have hok := fun A x ts' h => prs_ok f 1 (d + 1) ns.length r none A x ts' (by omega) (fun h => by omega) (hT.next t2) trivial h
      clear hF hS ha
      refine PuH.intro Tryz.func253 rfl (by kernel_rfl) fun C hC => ?_
      repeat (refine A1 ⟨?_⟩; intros)
      refine Wo (ov_callT c0 rfl (by repeat (first | exact List.mem_cons_self | apply List.mem_cons_of_mem))) ?_
      repeat (refine A1 ⟨?_⟩; intros)
      refine Wo (ov_callT c1 rfl (by repeat (first | exact List.mem_cons_self | apply List.mem_cons_of_mem))) ?_
      repeat (refine A1 ⟨?_⟩; intros)
      refine Wo (ov_callT c2 rfl (by repeat (first | exact List.mem_cons_self | apply List.mem_cons_of_mem))) ?_
      repeat (refine A1 ⟨?_⟩; intros)
      refine WfX c3 ?_ ?_ (hs := Tk.skip _ (Tk.same _))
      · rintro _ _ ⟨hd2, A, x, ts', hp, rfl, s1, H1, hown1, rfl⟩
        obtain ⟨_, hT', hl'⟩ := hok _ _ _ hp
        simp only [Option.isNone_none, if_true] at hl'
        rw [if_neg (by omega), hp] at hprs
        simp only at hprs
        obtain ⟨a1, r1, rfl, ha1⟩ := hT'.cons
        have hlr1 : (a1 :: r1).length = r1.length + 1 := rfl
        have hco1 := hown1.co
        have c4 := pexpect_pu s1 hco1 p a1 r1 d (by omega) ha1 [41] (by decide)
        clear hok c3 hp hT' ha1
        simp only [List.cons_append, List.nil_append]
        repeat (refine A1 ⟨?_⟩; intros)
        refine WfX c4 ?_ ?_ (hs := Tk.skip _ (Tk.cons (HDel.here _) (Tk.nil _)))
        · rintro _ _ ⟨t3, rfl, rfl⟩
          rw [t3, if_pos rfl, List.tail_cons] at hprs
          refine WPL.perm List.perm_append_comm ?_
          simp only [List.cons_append, List.nil_append]
          repeat (refine A1 ⟨?_⟩; intros)
          exact endHR _ _ (end1 (RV.tmp rfl) (Le.refl _)) (List.Sublist.cons_cons _ (List.sublist_cons_self _ _)) ⟨_, _, _, hprs, rfl, s1, H1, hown1, rfl⟩
        · rintro _ _ ⟨t3, hx⟩
          rw [t3, if_neg (by decide)] at hprs
          rw [hC]
          exact ⟨hprs, hx⟩
      · rintro _ _ ⟨hp, hx⟩
        rw [hC]
        refine ⟨?_, hx⟩
        rw [hprs]
        rcases hp with hp | hp
        · rw [if_pos hp]
        · rw [hp]; split <;> rfl
    | false =>
      rw [t2] at c2
      rw [t2, if_neg (by decide)] at hprs
      clear hF hS
      have c3 := paccept_pu s hco p a r d (by omega) ha wAll (by decide)
      have c4 := paccept_pu s hco p a r d (by omega) ha wNone (by decide)
      have c5 := paccept_pu s hco p a r d (by omega) ha wHalf (by decide)
      cases t3 : tis (a :: r) wAll with
      | true =>
        rw [t3, if_pos rfl] at c3
        rw [t3, if_pos rfl] at hprs
        have c6 := padd_pu p r d ns s Hs hown (by omega) (ndA0 2) a
        rw [show (ndA0 2).at a = ndA 2 a from rfl] at c6
        clear ha c4 c5
        refine PuH.intro Tryz.func253 rfl (by kernel_rfl) fun C hC => ?_
        repeat (refine A1 ⟨?_⟩; intros)
        refine Wo (ov_callT c0 rfl (by repeat (first | exact List.mem_cons_self | apply List.mem_cons_of_mem))) ?_
        repeat (refine A1 ⟨?_⟩; intros)
        refine Wo (ov_callT c1 rfl (by repeat (first | exact List.mem_cons_self | apply List.mem_cons_of_mem))) ?_
        repeat (refine A1 ⟨?_⟩; intros)
        refine Wo (ov_callT c2 rfl (by repeat (first | exact List.mem_cons_self | apply List.mem_cons_of_mem))) ?_
        repeat (refine A1 ⟨?_⟩; intros)
        refine WfT c3 ?_ (hs := Tk.skip _ (Tk.cons (HDel.here _) (Tk.nil _)))
        rintro _ _ ⟨rfl, rfl⟩
        refine WPL.perm List.perm_append_comm ?_
        refine WPL.perm (List.Perm.swap _ _ _) ?_
        repeat (refine A1 ⟨?_⟩; intros)
        refine WPL.low 35 rfl (Le.ag (b := ndx (ndA0 2)) (by repeat (first | exact trivial | refine ⟨?_, ?_⟩ | exact Le.refl _ | exact le_nil | exact Le.int (by omega)))) ?_
        refine WfT c6 ?_ (hs := Tk.skip _ (Tk.same _))
        rintro _ _ ⟨rfl, s4, H4, hown4, rfl⟩
        simp only [List.cons_append, List.nil_append]
        repeat (refine A1 ⟨?_⟩; intros)
        exact endHR _ _ (end1 (RV.tmp (s := lit (.int .i64 ns.length)) rfl) (Le.refl _)) (List.sublist_cons_self _ _) ⟨_, _, _, hprs, by rw [List.length_singleton]; exact congrArg (fun z => lit (.int .i64 z)) (by omega), s4, H4, hown4, rfl⟩
      | false =>
        rw [t3, if_neg (by decide)] at c3
        rw [t3, if_neg (by decide)] at hprs
        cases t4 : tis (a :: r) wNone with
        | true =>
          rw [t4, if_pos rfl] at c4
          rw [t4, if_pos rfl] at hprs
          have c6 := padd_pu p r d ns s Hs hown (by omega) (ndA0 3) a
          rw [show (ndA0 3).at a = ndA 3 a from rfl] at c6
          clear ha c5
          refine PuH.intro Tryz.func253 rfl (by kernel_rfl) fun C hC => ?_
          repeat (refine A1 ⟨?_⟩; intros)
          refine Wo (ov_callT c0 rfl (by repeat (first | exact List.mem_cons_self | apply List.mem_cons_of_mem))) ?_
          repeat (refine A1 ⟨?_⟩; intros)
          refine Wo (ov_callT c1 rfl (by repeat (first | exact List.mem_cons_self | apply List.mem_cons_of_mem))) ?_
          repeat (refine A1 ⟨?_⟩; intros)
          refine Wo (ov_callT c2 rfl (by repeat (first | exact List.mem_cons_self | apply List.mem_cons_of_mem))) ?_
          repeat (refine A1 ⟨?_⟩; intros)
          refine WfT c3 ?_ (hs := Tk.skip _ (Tk.cons (HDel.here _) (Tk.nil _)))
          rintro _ _ ⟨rfl, rfl⟩
          refine WPL.perm List.perm_append_comm ?_
          refine WPL.perm (List.Perm.swap _ _ _) ?_
          repeat (refine A1 ⟨?_⟩; intros)
          refine WfT c4 ?_ (hs := Tk.skip _ (Tk.cons (HDel.here _) (Tk.nil _)))
          rintro _ _ ⟨rfl, rfl⟩
          refine WPL.perm List.perm_append_comm ?_
          refine WPL.perm (List.Perm.swap _ _ _) ?_
          repeat (refine A1 ⟨?_⟩; intros)
          refine WPL.low 42 rfl (Le.ag (b := ndx (ndA0 3)) (by repeat (first | exact trivial | refine ⟨?_, ?_⟩ | exact Le.refl _ | exact le_nil | exact Le.int (by omega)))) ?_
          refine WfT c6 ?_ (hs := Tk.skip _ (Tk.same _))
          rintro _ _ ⟨rfl, s4, H4, hown4, rfl⟩
          simp only [List.cons_append, List.nil_append]
          repeat (refine A1 ⟨?_⟩; intros)
          exact endHR _ _ (end1 (RV.tmp (s := lit (.int .i64 ns.length)) rfl) (Le.refl _)) (List.sublist_cons_self _ _) ⟨_, _, _, hprs, by rw [List.length_singleton]; exact congrArg (fun z => lit (.int .i64 z)) (by omega), s4, H4, hown4, rfl⟩
        | false =>
          rw [t4, if_neg (by decide)] at c4
          rw [t4, if_neg (by decide)] at hprs
          cases t5 : tis (a :: r) wHalf with
          | true =>
            rw [t5, if_pos rfl] at c5
            rw [t5, if_pos rfl] at hprs
            have c6 := ppoint_pu s hco p r (hT.next t5) d (by omega)
            clear ha
            refine PuH.intro Tryz.func253 rfl (by kernel_rfl) fun C hC => ?_
            repeat (refine A1 ⟨?_⟩; intros)
            refine Wo (ov_callT c0 rfl (by repeat (first | exact List.mem_cons_self | apply List.mem_cons_of_mem))) ?_
            repeat (refine A1 ⟨?_⟩; intros)
            refine Wo (ov_callT c1 rfl (by repeat (first | exact List.mem_cons_self | apply List.mem_cons_of_mem))) ?_
            repeat (refine A1 ⟨?_⟩; intros)
            refine Wo (ov_callT c2 rfl (by repeat (first | exact List.mem_cons_self | apply List.mem_cons_of_mem))) ?_
            repeat (refine A1 ⟨?_⟩; intros)
            refine WfT c3 ?_ (hs := Tk.skip _ (Tk.cons (HDel.here _) (Tk.nil _)))
            rintro _ _ ⟨rfl, rfl⟩
            refine WPL.perm List.perm_append_comm ?_
            refine WPL.perm (List.Perm.swap _ _ _) ?_
            repeat (refine A1 ⟨?_⟩; intros)
            refine WfT c4 ?_ (hs := Tk.skip _ (Tk.cons (HDel.here _) (Tk.nil _)))
            rintro _ _ ⟨rfl, rfl⟩
            refine WPL.perm List.perm_append_comm ?_
            refine WPL.perm (List.Perm.swap _ _ _) ?_
            repeat (refine A1 ⟨?_⟩; intros)
            refine WfT c5 ?_ (hs := Tk.skip _ (Tk.cons (HDel.here _) (Tk.nil _)))
            rintro _ _ ⟨rfl, rfl⟩
            refine WPL.perm List.perm_append_comm ?_
            refine WPL.perm (List.Perm.swap _ _ _) ?_
            repeat (refine A1 ⟨?_⟩; intros)
            refine WfX c6 ?_ ?_ (hs := Tk.skip _ (Tk.cons (HDel.here _) (Tk.nil _)))
            · rintro _ _ ⟨⟩
            · rintro _ _ hx
              rw [hC]
              exact ⟨hprs, hx⟩
          | false =>
            rw [t5, if_neg (by decide)] at c5
            rw [t5, if_neg (by decide)] at hprs
            clear ha
            have c6 := pname_pu s hco p a r d (by omega)
            by_cases hnm : a.k = 1 ∧ resv a.t = false
            case neg =>
              replace hprs : prs (f + 1) 3 d ns.length (a :: r) none = none := by rw [hprs]; exact if_neg hnm
              replace c6 := c6.mono (R' := fun _ _ => False) (X' := fun pv _ => isE pv) (fun _ _ h => hnm h.1) (fun _ _ h => h.2)
              clear hnm
              refine PuH.intro Tryz.func253 rfl (by kernel_rfl) fun C hC => ?_
              repeat (refine A1 ⟨?_⟩; intros)
              refine Wo (ov_callT c0 rfl (by repeat (first | exact List.mem_cons_self | apply List.mem_cons_of_mem))) ?_
              repeat (refine A1 ⟨?_⟩; intros)
              refine Wo (ov_callT c1 rfl (by repeat (first | exact List.mem_cons_self | apply List.mem_cons_of_mem))) ?_
              repeat (refine A1 ⟨?_⟩; intros)
              refine Wo (ov_callT c2 rfl (by repeat (first | exact List.mem_cons_self | apply List.mem_cons_of_mem))) ?_
              repeat (refine A1 ⟨?_⟩; intros)
              refine WfT c3 ?_ (hs := Tk.skip _ (Tk.cons (HDel.here _) (Tk.nil _)))
              rintro _ _ ⟨rfl, rfl⟩
              refine WPL.perm List.perm_append_comm ?_
              refine WPL.perm (List.Perm.swap _ _ _) ?_
              repeat (refine A1 ⟨?_⟩; intros)
              refine WfT c4 ?_ (hs := Tk.skip _ (Tk.cons (HDel.here _) (Tk.nil _)))
              rintro _ _ ⟨rfl, rfl⟩
              refine WPL.perm List.perm_append_comm ?_
              refine WPL.perm (List.Perm.swap _ _ _) ?_
              repeat (refine A1 ⟨?_⟩; intros)
              refine WfT c5 ?_ (hs := Tk.skip _ (Tk.cons (HDel.here _) (Tk.nil _)))
              rintro _ _ ⟨rfl, rfl⟩
              refine WPL.perm List.perm_append_comm ?_
              refine WPL.perm (List.Perm.swap _ _ _) ?_
              repeat (first | (refine AS ⟨?_⟩; intros) | (refine O1 ⟨?_⟩; intros))
              refine WdA ?_
              repeat' (first | (refine A1 ⟨?_⟩; intros) | exact WPI.nil | refine And.intro ?_ ?_ | refine WfX c6 (fun _ _ h => h.elim) (fun _ _ hx => by rw [hC]; exact ⟨hprs, hx⟩) (hs := Tk.skip _ (Tk.cons (HDel.here _) (Tk.nil _))))
            replace hprs : prs (f + 1) 3 d ns.length (a :: r) none = some ([ndN a], .leaf (ndN a), r) := by rw [hprs]; exact if_pos hnm
            replace c6 := c6.mono (R' := fun v H => v = str a.t ∧ H = [(p, psT, psC r d s)]) (X' := noX) (fun _ _ h => h.2) (fun _ _ h => h.1 hnm)
            have c7 := padd_pu p r d ns s Hs hown (by omega) (ndN0 a.t) a
            rw [show (ndN0 a.t).at a = ndN a from rfl] at c7
            clear hnm
            refine PuH.intro Tryz.func253 rfl (by kernel_rfl) fun C hC => ?_
            repeat (refine A1 ⟨?_⟩; intros)
            refine Wo (ov_callT c0 rfl (by repeat (first | exact List.mem_cons_self | apply List.mem_cons_of_mem))) ?_
            repeat (refine A1 ⟨?_⟩; intros)
            refine Wo (ov_callT c1 rfl (by repeat (first | exact List.mem_cons_self | apply List.mem_cons_of_mem))) ?_
            repeat (refine A1 ⟨?_⟩; intros)
            refine Wo (ov_callT c2 rfl (by repeat (first | exact List.mem_cons_self | apply List.mem_cons_of_mem))) ?_
            repeat (refine A1 ⟨?_⟩; intros)
            refine WfT c3 ?_ (hs := Tk.skip _ (Tk.cons (HDel.here _) (Tk.nil _)))
            rintro _ _ ⟨rfl, rfl⟩
            refine WPL.perm List.perm_append_comm ?_
            refine WPL.perm (List.Perm.swap _ _ _) ?_
            repeat (refine A1 ⟨?_⟩; intros)
            refine WfT c4 ?_ (hs := Tk.skip _ (Tk.cons (HDel.here _) (Tk.nil _)))
            rintro _ _ ⟨rfl, rfl⟩
            refine WPL.perm List.perm_append_comm ?_
            refine WPL.perm (List.Perm.swap _ _ _) ?_
            repeat (refine A1 ⟨?_⟩; intros)
            refine WfT c5 ?_ (hs := Tk.skip _ (Tk.cons (HDel.here _) (Tk.nil _)))
            rintro _ _ ⟨rfl, rfl⟩
            refine WPL.perm List.perm_append_comm ?_
            refine WPL.perm (List.Perm.swap _ _ _) ?_
            repeat (first | (refine AS ⟨?_⟩; intros) | (refine O1 ⟨?_⟩; intros))
            refine WdA ?_
            repeat' (first | (refine A1 ⟨?_⟩; intros) | exact WPI.nil | refine And.intro ?_ ?_ | refine WfE c6 (Tk.skip _ (Tk.cons (HDel.here _) (Tk.nil _))) (List.perm_append_comm.trans (List.Perm.swap _ _ _)) ?_)
            all_goals
              refine WPL.low 60 rfl (Le.ag (b := ndx (ndN0 a.t)) (by repeat (first | exact trivial | refine ⟨?_, ?_⟩ | exact Le.refl _ | exact le_nil | exact Le.int (by omega)))) ?_
              refine WfT c7 ?_ (hs := Tk.skip _ (Tk.same _))
              rintro _ _ ⟨rfl, s4, H4, hown4, rfl⟩
              simp only [List.cons_append, List.nil_append]
              repeat' (first | (refine A1 ⟨?_⟩; intros) | exact WPI.nil | refine And.intro ?_ ?_)
              exact endHR _ _ (end1 (RV.tmp (s := lit (.int .i64 ns.length)) rfl) (Le.refl _)) (List.sublist_cons_self _ _) ⟨_, _, _, hprs, by rw [List.length_singleton]; exact congrArg (fun z => lit (.int .i64 z)) (by omega), s4, H4, hown4, rfl⟩
structure Er where
  k : Nat
  t : List UInt8
  l : Nat
  c : Nat
def gsk : Bool → List UInt8 → Nat → Nat → Nat × Nat × Nat
  | _, [], ln, cl => (0, ln, cl)
  | cm, b :: r, ln, cl =>
    if b.toNat = 10 then ((gsk false r (ln + 1) 1).1 + 1, (gsk false r (ln + 1) 1).2)
    else if cm = true ∨ clsN b.toNat = 2 then ((gsk true r ln (cl + 1)).1 + 1, (gsk true r ln (cl + 1)).2)
    else if clsN b.toNat = 1 then ((gsk false r ln (cl + 1)).1 + 1, (gsk false r ln (cl + 1)).2)
    else (0, ln, cl)
theorem gsk_le : ∀ (cm : Bool) (l : List UInt8) (ln cl : Nat), (gsk cm l ln cl).1 ≤ l.length
  | _, [], _, _ => Nat.le_refl _
  | cm, b :: r, ln, cl => by
    unfold gsk
    have h1 := gsk_le false r (ln + 1) 1
    have h2 := gsk_le true r ln (cl + 1)
    have h3 := gsk_le false r ln (cl + 1)
    simp only [List.length_cons]
    split
    · simp only; omega
    · split
      · simp only; omega
      · split
        · simp only; omega
        · simp
theorem gsk_run : ∀ (m : Nat) (l : List UInt8) (ln cl : Nat), m ≤ l.length → (∀ i, i < m → l.getD i 0 ≠ 10) → gsk true l ln cl = ((gsk true (l.drop m) ln (cl + m)).1 + m, (gsk true (l.drop m) ln (cl + m)).2)
  | 0, l, ln, cl, _, _ => rfl
  | m + 1, [], ln, cl, h, _ => by simp at h
  | m + 1, b :: r, ln, cl, h, hn => by
    have h0 : b.toNat ≠ 10 := fun e => hn 0 (by omega) (UInt8.toNat_inj.1 e)
    have ih := gsk_run m r ln (cl + 1) (by simpa using h) fun i hi => by simpa using hn (i + 1) (by omega)
    rw [show gsk true (b :: r) ln cl = ((gsk true r ln (cl + 1)).1 + 1, (gsk true r ln (cl + 1)).2) from by rw [gsk, if_neg h0, if_pos (.inl rfl)], ih, List.drop_succ_cons, show cl + 1 + m = cl + (m + 1) by omega]
    rfl
theorem gsk_cm {m : Nat} {l : List UInt8} (ln cl : Nat) (hm : m ≤ l.length) (hn : ∀ i, i < m → l.getD i 0 ≠ 10) (he : m = l.length ∨ l.getD m 0 = 10) :
    gsk true l ln cl = ((gsk false (l.drop m) ln (cl + m)).1 + m, (gsk false (l.drop m) ln (cl + m)).2) := by
  rw [gsk_run m l ln cl hm hn]
  have : gsk true (l.drop m) ln (cl + m) = gsk false (l.drop m) ln (cl + m) := by
    by_cases hl : m = l.length
    · rw [List.drop_eq_nil_of_le (by omega)]; rfl
    · have h10 := he.resolve_left hl
      rw [List.drop_eq_getElem_cons (show m < l.length by omega)]
      rw [List.getD, List.getElem?_eq_getElem (show m < l.length by omega)] at h10
      have h11 : (l[m]'(by omega)).toNat = 10 := by
        simp only [Option.getD_some] at h10
        rw [h10]; rfl
      rw [gsk, gsk, if_pos h11, if_pos h11]
  rw [this]
theorem gsk_hash {b : UInt8} {r : List UInt8} (h : clsN b.toNat = 2) (h0 : b.toNat ≠ 10) (ln cl : Nat) : gsk false (b :: r) ln cl = gsk true (b :: r) ln cl := by
  rw [gsk, gsk, if_neg h0, if_neg h0, if_pos (.inr h), if_pos (.inl rfl)]
theorem gsk_nl {b : UInt8} {r : List UInt8} (h : b.toNat = 10) (ln cl : Nat) : gsk false (b :: r) ln cl = ((gsk false r (ln + 1) 1).1 + 1, (gsk false r (ln + 1) 1).2) := by
  rw [gsk, if_pos h]
theorem gsk_sp {b : UInt8} {r : List UInt8} (h : b.toNat ≠ 10) (h1 : clsN b.toNat = 1) (ln cl : Nat) : gsk false (b :: r) ln cl = ((gsk false r ln (cl + 1)).1 + 1, (gsk false r ln (cl + 1)).2) := by
  rw [gsk, if_neg h, if_neg (by rw [h1]; simp), if_pos h1]
theorem gsk_stop {b : UInt8} {r : List UInt8} (h1 : clsN b.toNat ≠ 1) (h2 : clsN b.toNat ≠ 2) (h : b.toNat ≠ 10) (ln cl : Nat) : gsk false (b :: r) ln cl = (0, ln, cl) := by
  rw [gsk, if_neg h, if_neg (by simp [h2]), if_neg h1]
theorem gsk_head : ∀ (cm : Bool) (l : List UInt8) (ln cl : Nat) (b : UInt8) (r : List UInt8), l.drop (gsk cm l ln cl).1 = b :: r → clsN b.toNat ≠ 1 ∧ clsN b.toNat ≠ 2
  | _, [], _, _, b, r, h => by simp at h
  | cm, c :: l, ln, cl, b, r, h => by
    rw [gsk] at h
    split at h
    · exact gsk_head _ _ _ _ _ _ (by simpa using h)
    · split at h
      · exact gsk_head _ _ _ _ _ _ (by simpa using h)
      · rename_i h1 h2
        split at h
        · exact gsk_head _ _ _ _ _ _ (by simpa using h)
        · rename_i h3
          simp only [List.drop_zero] at h
          obtain ⟨rfl, _⟩ := List.cons.inj h
          exact ⟨h3, fun e => h2 (.inr e)⟩
def grun (p : Int → Bool) (l : List UInt8) : Nat := (l.takeWhile fun b => p (clsN b.toNat)).length
def isLD (c : Int) : Bool := decide (c = 3) || decide (c = 4)
def isD (c : Int) : Bool := decide (c = 4)
theorem grun_le (p : Int → Bool) : ∀ l : List UInt8, grun p l ≤ l.length
  | [] => Nat.le_refl _
  | a :: l => by
    have := grun_le p l
    unfold grun at *
    rw [List.takeWhile_cons]
    split
    · simp only [List.length_cons]; omega
    · simp
theorem grun_t {p : Int → Bool} {b : UInt8} (h : p (clsN b.toNat) = true) (r : List UInt8) : grun p (b :: r) = grun p r + 1 := by
  unfold grun; rw [List.takeWhile_cons, if_pos h]; rfl
theorem grun_f {p : Int → Bool} {b : UInt8} (h : p (clsN b.toNat) = false) (r : List UInt8) : grun p (b :: r) = 0 := by
  unfold grun; rw [List.takeWhile_cons, if_neg (by rw [h]; decide)]; rfl
def gnx (l : List UInt8) (ln cl : Nat) : Except Er (Tok × Nat) := match l.drop (gsk false l ln cl).1 with
  | [] => .ok (⟨0, [], (gsk false l ln cl).2.1, (gsk false l ln cl).2.2⟩, (gsk false l ln cl).1)
  | b :: r => if clsN b.toNat = 3 then
      (if 24 < grun isLD (b :: r) then .error ⟨2, (b :: r).take (grun isLD (b :: r)), (gsk false l ln cl).2.1, (gsk false l ln cl).2.2⟩
        else .ok (⟨1, (b :: r).take (grun isLD (b :: r)), (gsk false l ln cl).2.1, (gsk false l ln cl).2.2⟩, (gsk false l ln cl).1 + grun isLD (b :: r)))
    else if clsN b.toNat = 4 then
      (if 4096 < grun isD (b :: r) then .error ⟨2, (b :: r).take (grun isD (b :: r)), (gsk false l ln cl).2.1, (gsk false l ln cl).2.2⟩
        else .ok (⟨2, (b :: r).take (grun isD (b :: r)), (gsk false l ln cl).2.1, (gsk false l ln cl).2.2⟩, (gsk false l ln cl).1 + grun isD (b :: r)))
    else if clsN b.toNat = 5 then .ok (⟨3, [b], (gsk false l ln cl).2.1, (gsk false l ln cl).2.2⟩, (gsk false l ln cl).1 + 1)
    else .error ⟨1, [b], (gsk false l ln cl).2.1, (gsk false l ln cl).2.2⟩
def glexF : Nat → List UInt8 → Nat → Nat → Except Er (List Tok)
  | 0, _, _, _ => .error ⟨1, [], 0, 0⟩
  | f + 1, l, ln, cl => match gnx l ln cl with
    | .error e => .error e
    | .ok (t, n) => if t.k = 0 then .ok [t] else match glexF f (l.drop n) t.l (t.c + t.t.length) with
      | .error e => .error e
      | .ok ts => .ok (t :: ts)
def glex (l : List UInt8) : Except Er (List Tok) := glexF (l.length + 1) l 1 1
theorem glexF_succ (f : Nat) (l : List UInt8) (ln cl : Nat) : glexF (f + 1) l ln cl = match gnx l ln cl with
    | .error e => .error e
    | .ok (t, n) => if t.k = 0 then .ok [t] else match glexF f (l.drop n) t.l (t.c + t.t.length) with
      | .error e => .error e
      | .ok ts => .ok (t :: ts) := rfl
theorem idxB_spec (l : List UInt8) {b : Nat} (hb : b < 256) : (idxB l b = -1 ∧ ∀ i, i < l.length → l.getD i 0 ≠ UInt8.ofNat b) ∨ ∃ m : Nat, idxB l b = m ∧ m < l.length ∧ l.getD m 0 = UInt8.ofNat b ∧ ∀ i, i < m → l.getD i 0 ≠ UInt8.ofNat b := by
  have hs : (⟨l.toArray⟩ : ByteArray).size = l.length := ba_size l
  have hg : ∀ i, i < l.length → (⟨l.toArray⟩ : ByteArray)[i]! = l.getD i 0 := fun i hi => by
    have h := ba_get l i hi
    rw [getElem!_def, h]
  have hc : (b : Int).toNat.toUInt8 = UInt8.ofNat b := rfl
  unfold idxB
  cases h : (List.range (⟨l.toArray⟩ : ByteArray).size).find? fun i => (⟨l.toArray⟩ : ByteArray)[i]! == (b : Int).toNat.toUInt8 with
  | none =>
    refine .inl ⟨rfl, fun i hi e => ?_⟩
    have := List.find?_eq_none.1 h i (List.mem_range.2 (by rw [hs]; exact hi))
    rw [hg i hi, hc, e] at this
    simp at this
  | some m =>
    rw [List.find?_range_eq_some] at h
    obtain ⟨h1, h2, h3⟩ := h
    have hm : m < l.length := by rw [← hs]; exact List.mem_range.1 h2
    refine .inr ⟨m, rfl, hm, ?_, fun i hi e => ?_⟩
    · rw [hg m hm, hc] at h1
      exact beq_iff_eq.1 h1
    · have := h3 i hi
      rw [hg i (by omega), hc, e] at this
      simp at this
def dcv (l : List UInt8) : Nat := l.foldl (fun n b => n * 10 + (b.toNat - 48)) 0
def allD (l : List UInt8) : Prop := ∀ b ∈ l, 48 ≤ b.toNat ∧ b.toNat ≤ 57
theorem dcv_nil : dcv [] = 0 := rfl
theorem dcv_fold (l : List UInt8) (n : Nat) : l.foldl (fun n b => n * 10 + (b.toNat - 48)) n = n * 10 ^ l.length + dcv l := by
  unfold dcv
  induction l generalizing n with
  | nil => simp
  | cons b r ih =>
    rw [List.foldl_cons, ih, List.foldl_cons, ih (0 * 10 + (b.toNat - 48)), List.length_cons, Nat.pow_succ, Nat.add_mul, Nat.zero_mul, Nat.zero_add, Nat.mul_assoc, Nat.mul_comm 10, Nat.add_assoc]
theorem dcv_append (a b : List UInt8) : dcv (a ++ b) = dcv a * 10 ^ b.length + dcv b := by
  unfold dcv
  rw [List.foldl_append, dcv_fold]
  rfl
theorem dcv_snoc (a : List UInt8) (b : UInt8) : dcv (a ++ [b]) = dcv a * 10 + (b.toNat - 48) := by
  rw [dcv_append]
  simp [dcv]
theorem dcv_lt {l : List UInt8} (h : allD l) : dcv l < 10 ^ l.length := by
  have key : ∀ r : List UInt8, allD r.reverse → dcv r.reverse < 10 ^ r.length := by
    intro r
    induction r with
    | nil => intro _; decide
    | cons b r ih =>
      intro h
      rw [List.reverse_cons] at h ⊢
      have h1 := ih fun x hx => h x (by simp at hx ⊢; exact .inl hx)
      have h2 := h b (by simp)
      rw [dcv_snoc, List.length_cons, Nat.pow_succ]
      omega
  have := key l.reverse (by rw [List.reverse_reverse]; exact h)
  rwa [List.reverse_reverse, List.length_reverse] at this
theorem dcv_take_succ {l : List UInt8} {i : Nat} (h : i < l.length) : dcv (l.take (i + 1)) = dcv (l.take i) * 10 + ((l.getD i 0).toNat - 48) := by
  rw [List.take_add_one, List.getElem?_eq_getElem h, Option.toList_some, dcv_snoc, List.getD, List.getElem?_eq_getElem h]
  rfl
theorem allD.take {l : List UInt8} (h : allD l) (k : Nat) : allD (l.take k) := fun b hb => h b (List.mem_of_mem_take hb)
theorem allD.drop {l : List UInt8} (h : allD l) (k : Nat) : allD (l.drop k) := fun b hb => h b (List.mem_of_mem_drop hb)
theorem allD.at {l : List UInt8} (h : allD l) {i : Nat} (hi : i < l.length) : 48 ≤ (l.getD i 0).toNat ∧ (l.getD i 0).toNat ≤ 57 := by
  rw [List.getD, List.getElem?_eq_getElem hi]
  exact h _ (List.getElem_mem hi)
theorem dgs_of {e : List Nat} (hD : D e) (h : e ≠ [] → 4294967296 ^ (e.length - 1) ≤ val e) : e = dgs (val e) := by
  refine Can.eq ⟨hD, fun hl => ?_⟩
  obtain ⟨a, rfl⟩ : ∃ a, e = a ++ [0] := by
    have hne : e ≠ [] := fun h0 => by rw [h0] at hl; cases hl
    have hg : e.getLast hne = 0 := by
      rw [List.getLast?_eq_some_getLast hne] at hl
      exact Option.some.inj hl
    exact ⟨e.dropLast, by rw [← hg, List.dropLast_concat_getLast hne]⟩
  have h1 := h (by simp)
  rw [val_snoc, List.length_append, List.length_singleton, Nat.add_sub_cancel, Nat.mul_zero, Nat.add_zero] at h1
  have := val_lt hD.left
  omega
def chk (n : Nat) : Nat := if n % 9 = 0 then 9 else n % 9
theorem chk_le {n : Nat} (h : 0 < n) : 0 < chk n ∧ chk n ≤ 9 ∧ chk n ≤ n ∧ (n - chk n) % 9 = 0 := by
  unfold chk
  split <;> omega
theorem pow10_9 : (10 : Nat) ^ 9 = 1000000000 := rfl
theorem dcv_chunk {l : List UInt8} (h : allD l) (hl : l.length ≤ 9) : dcv l < 1000000000 := by
  have := dcv_lt h
  have h2 : (10 : Nat) ^ l.length ≤ 10 ^ 9 := Nat.pow_le_pow_right (by omega) hl
  rw [pow10_9] at h2
  omega
section
variable {P : Program} {C : Ctx} {n : Nat} {F : Fr} {H : LH} {ops : Array Oper} {K : Fr → LH → Prop} {rest : List Oper} {ty : TypeId} {pos : String} {aft : Array Edge}
theorem Own.blk {T : TypeId} {sz k : Nat} {cs : List SV} {s : SV} {Hs : LH} (h : Own T sz k cs s Hs) (hk : 0 < k) :
    ∃ b c, k ≤ c ∧ c ≤ maxLen ∧ s = lit (.slice (some ⟨b, 0, none⟩) k c) ∧ Hs = [(b, T, cs ++ List.replicate (c * sz - k * sz) top)] := by
  obtain ⟨_, ⟨h0, _⟩ | h⟩ := h
  · omega
  · exact h
theorem LeL.top : ∀ (l : List SV) (k : Nat), l.length = k → LeL l (List.replicate k top)
  | [], _, h => by subst h; exact trivial
  | s :: l, 0, h => by cases h
  | s :: l, k + 1, h => ⟨fun m v _ => by unfold Ab.top; trivial, LeL.top l k (by simpa using h)⟩
theorem LeL.app : ∀ {a b c d : List SV}, LeL a b → LeL c d → LeL (a ++ c) (b ++ d)
  | [], [], _, _, _, k => k
  | _ :: _, _ :: _, _, _, h, k => ⟨h.1, LeL.app h.2 k⟩
  | [], _ :: _, _, _, h, _ => h.elim
  | _ :: _, [], _, _, h, _ => h.elim
end
end Go.Ab
