/- Texts laid one behind the other: GPU, GPQ, GStA, GGood, GGoodX, GGoodS, GPD, BytesOf. -/
import Derived.Test.YtebghnhocigmlaaGreatDoorB14
import Derived.Test.YtebghnhocigmlaaGreatDoorB13
import Derived.Test.YtebghnhocigmlaaGreatDoorB03
import Derived.Laws.IdiomStrings
set_option linter.unusedSectionVars false
set_option linter.unusedVariables false
set_option linter.unusedSimpArgs false
namespace Go.Ab
open Go.Proofs
variable [Base]
theorem gptsF_ok : ∀ {f : Nat} {ts ts' : List Tok} {ps : List (Rat × Rat)}, GOk ts → gptsF f ts = .ok (ps, ts') → GOk ts' ∧ 1 ≤ ps.length ∧ ps.length + ts'.length ≤ ts.length
  | 0, _, _, _, _, h => by cases h
  | f + 1, ts, ts', ps, hG, h => by
    rw [gptsF] at h
    split at h
    · cases h
    · next p t1 e1 =>
      have g1 := gpt_ok hG e1
      split at h
      · split at h
        · cases h
        · next ps2 t2 e2 =>
          have g2 := gptsF_ok g1.1 e2
          cases h
          exact ⟨g2.1, by simp, by simp only [List.length_cons]; omega⟩
      · cases h
        exact ⟨g1.1, by simp, by simp only [List.length_cons, List.length_nil]; omega⟩
theorem gpts_ok {ts ts' : List Tok} {ps : List (Rat × Rat)} (hG : GOk ts) (h : gpts ts = .ok (ps, ts')) : GOk ts' ∧ 1 ≤ ps.length ∧ ps.length + ts'.length ≤ ts.length := gptsF_ok hG h
abbrev rgx (r : List (Rat × Rat)) : List SV := [ptsS r]
abbrev chx (c : Chn) : List SV := [lit (.bool (decide (c.a.1.num < 0))), nat c.a.1.num.natAbs, nat c.a.1.den, lit (.bool (decide (c.a.2.num < 0))), nat c.a.2.num.natAbs, nat c.a.2.den,
  lit (.bool (decide (c.b.1.num < 0))), nat c.b.1.num.natAbs, nat c.b.1.den, lit (.bool (decide (c.b.2.num < 0))), nat c.b.2.num.natAbs, nat c.b.2.den, ptsS c.m]
abbrev rgsS (rs : List (List (Rat × Rat))) : SV := sl (rs.map rgx).flatten rs.length
abbrev chsS (cs : List Chn) : SV := sl (cs.map chx).flatten cs.length
theorem flat_snoc {α β : Type} (f : α → List β) (l : List α) (x : α) : ((l ++ [x]).map f).flatten = (l.map f).flatten ++ f x := by
  rw [List.map_append, List.flatten_append]; simp
section
variable {P : Program} {C : Ctx} {n : Nat} {F : Fr} {H : LH}
theorem ov_sl3n {T e : TypeId} {sz by_ : Nat} {z : List SV} {g : Bool} [hS : TSl P T e] [hT : TY P e sz by_ z g] {x y y' : Operand} {cs cs' : List SV} {k : Nat} {v v' : Int} {ty : TypeId} (j : Nat) (hx : ev F x = sl cs k) (hy : ev F y = lit (.int .i64 v)) (hy' : ev F y' = lit (.int .i64 v')) (hv : v = (j : Int)) (hv' : v' = (j : Int)) (hk : cs.length = k * sz) (hj : j ≤ k) (hcs : cs.take (j * sz) = cs') :
    OpV P (.slice T x none (some y) (some y')) ty F H (sl cs' j) :=
  OpV.pure fun m w o a ho _ _ _ h => by
    have e0 := h x (by simp [Op.operands]); rw [hx] at e0
    have e1 := h y (by simp [Op.operands]); rw [hy, lit_p] at e1
    have e2 := h y' (by simp [Op.operands]); rw [hy', lit_p] at e2
    subst hv hv' hcs
    obtain ⟨ad, cap, e0, hc1, hc2, hca⟩ := sl_cells e0
    have hb : (Instr.sliceBounds true k cap none (some (a.eval y)) (some (a.eval y'))).run P w = .ok (0, j, j) w := by
      simp [Instr.sliceBounds, run_bound j cap _ e2 (by omega), run_bound j j _ e1 (Nat.le_refl _)]
    have hrun : ∃ a', (execOp a.eval o).run P w = .ok (.value (.slice a' j j)) w ∧ ∀ b off, ad = some ⟨b, off, none⟩ → a' = some ⟨b, off, none⟩ := by
      refine ⟨if j = 0 then ad else ad.map (·.add 0), ?_, ?_⟩
      · simp [execOp, ho, Instr.sliceAt, Instr.slice, underlying, hS.h, e0, hb, hT.run_size]
      · rintro b off rfl; simp [add_none]
    obtain ⟨a', hr, q3⟩ := hrun
    refine ⟨_, hr, sl_mk (Nat.le_refl _) (by omega) ?_⟩
    rcases hca with hnil | ⟨b, off, rfl, hca⟩
    · left; rw [hnil, List.take_nil]
    · exact .inr ⟨b, off, q3 b off rfl, hca.take _⟩
end
theorem pts_len (ps : List (Rat × Rat)) : ((ps.map ptx).flatten).length = ps.length * 6 := by
  induction ps with
  | nil => rfl
  | cons p ps ih => rw [List.map_cons, List.flatten_cons, List.length_append, ih]; simp only [List.length_cons, List.length_nil]; omega
theorem pts_split {ps : List (Rat × Rat)} (h : 1 ≤ ps.length) : ∃ l x, ps = l ++ [x] ∧ ps.dropLast = l ∧ ps.getLast?.getD (0, 0) = x ∧ l.length + 1 = ps.length := by
  have hne : ps ≠ [] := fun e => by rw [e] at h; simp at h
  refine ⟨ps.dropLast, ps.getLast hne, (List.dropLast_concat_getLast hne).symm, rfl, by rw [List.getLast?_eq_some_getLast hne]; rfl, by rw [List.length_dropLast]; omega⟩
theorem pts_take (l : List (Rat × Rat)) (x : Rat × Rat) : (((l ++ [x]).map ptx).flatten).take (l.length * 6) = (l.map ptx).flatten := by
  rw [pts_snoc]
  exact List.take_left' (pts_len l)
theorem pts_at (l : List (Rat × Rat)) (x : Rat × Rat) : ((((l ++ [x]).map ptx).flatten).drop (l.length * 6)).take 6 = ptx x := by
  rw [pts_snoc, List.drop_left' (pts_len l)]
  rfl
structure OlSt where
  f : Nat
  ts : List Tok
  o : Otl
  sR : SV
  HR : LH
  sC : SV
  HC : LH
abbrev olT : TypeId := 51
abbrev rgT : TypeId := 46
abbrev chT : TypeId := 190
abbrev olx (o : Otl) : List SV := [lit (.bool o.far), rgsS o.rs, chsS o.cs]
structure OlOk (ts0 : List Tok) (y : OlSt) : Prop where
  gok : GOk y.ts
  len : y.ts.length ≤ y.f
  cnt : y.o.rs.length + y.o.cs.length + y.ts.length ≤ 1000000
  rs : Own rgT 1 y.o.rs.length (y.o.rs.map rgx).flatten y.sR y.HR
  cs : Own chT 13 y.o.cs.length (y.o.cs.map chx).flatten y.sC y.HC
  eq : goutl ts0 = golF y.f y.ts y.o
section
variable {α : Type} {p b c : α} {x y : List α}
theorem permB : (p :: b :: c :: (x ++ y)).Perm (b :: (x ++ (p :: c :: y))) := by
  refine (List.Perm.swap b p _).trans (List.Perm.cons b ?_)
  refine (List.perm_append_comm (l₁ := [p, c]) (l₂ := x ++ y)).trans ?_
  rw [List.append_assoc]
  exact List.Perm.append_left x (List.perm_append_comm (l₁ := y) (l₂ := [p, c]))
theorem permC : (b :: p :: c :: x).Perm (b :: (x ++ [p, c])) := List.Perm.cons b (List.perm_append_comm (l₁ := [p, c]) (l₂ := x))
theorem permD : (p :: b :: c :: (x ++ y)).Perm (x ++ (p :: b :: c :: y)) := by
  refine (List.perm_append_comm (l₁ := [p, b, c]) (l₂ := x ++ y)).trans ?_
  rw [List.append_assoc]
  exact List.Perm.append_left x (List.perm_append_comm (l₁ := y) (l₂ := [p, b, c]))
theorem permF {q : α} : (p :: b :: c :: q :: (x ++ y)).Perm (y ++ (p :: b :: c :: q :: x)) := by
  refine (List.perm_append_comm (l₁ := [p, b, c, q]) (l₂ := x ++ y)).trans ?_
  refine (List.Perm.append_right [p, b, c, q] (List.perm_append_comm (l₁ := x) (l₂ := y))).trans ?_
  rw [List.append_assoc]
  exact List.Perm.append_left y (List.perm_append_comm (l₁ := x) (l₂ := [p, b, c, q]))
end
theorem golF_succ (f : Nat) (ts : List Tok) (o : Otl) : golF (f + 1) ts o =
    if gis ts [125] = true then .ok (o, ts.tail)
    else if gis ts [114, 105, 110, 103] = true then (match gpts ts.tail with
      | .error e => .error e
      | .ok (ps, t1) => match gexpect [59] t1 with
        | .error e => .error e
        | .ok t2 => golF f t2 { o with rs := o.rs ++ [ps] })
    else if gis ts [99, 104, 97, 105, 110] = true then (match gpt ts.tail with
      | .error e => .error e
      | .ok (a, t1) => match gpts t1 with
        | .error e => .error e
        | .ok (ps, t2) => if ps.length < 2 then .error (ger 1 t2) else match gexpect [59] t2 with
          | .error e => .error e
          | .ok t3 => golF f t3 { o with cs := o.cs ++ [⟨a, ps.getLast?.getD (0, 0), ps.dropLast⟩] })
    else .error (ger 1 ts) := rfl
set_option maxHeartbeats 8000000 in
theorem goutline_pu [Sent 4] [Sent 5] (s : SV) (hco : CO s [s]) (p : Nat) (ts : List Tok) (hG : GOk ts) (d : Nat) (hr : ts.length ≤ 100000) :
    PuH Tryz.prog 153 [lit (.pointer (some ⟨p, 0, none⟩))] [(p, psT, psC ts d s)] (fun v H => ∃ o ts', goutl ts = .ok (o, ts') ∧ v = ag (olx o) ∧ H = [(p, psT, psC ts' d s)]) (fun pv _ => ∃ e, goutl ts = .error e ∧ pv = erSV e) := by
  obtain ⟨a, r, rfl, -⟩ := hG.cons
  simp only [List.length_cons] at hr
  have c1 := gexpect_pu s hco p a r d (by omega) [123]
  refine PuH.intro Tryz.func153 rfl (by kernel_rfl) fun C hC => ?_
  repeat (refine A1 ⟨?_⟩; intros)
  rename_i b2
  refine WfX c1 ?_ ?_
  · rintro _ _ ⟨e1, h1, rfl, rfl⟩
    have g1 := hG.next h1
    obtain ⟨a1, r1, rfl, -⟩ := g1.cons
    simp only [List.length_cons] at hr
    have c2 := gaccept_pu s hco p a1 r1 d (by omega) [102, 97, 114]
    simp only [List.cons_append, List.nil_append]
    repeat (refine A1 ⟨?_⟩; intros)
    refine WfT c2 ?_
    rintro _ _ ⟨rfl, rfl⟩
    simp only [List.cons_append, List.nil_append]
    have hgo : goutl (a :: a1 :: r1) = golF gF (if gis (a1 :: r1) [102, 97, 114] = true then r1 else a1 :: r1) ⟨gis (a1 :: r1) [102, 97, 114], [], []⟩ := by
      unfold goutl
      rw [e1]
      simp only
      cases gis (a1 :: r1) [102, 97, 114] <;> rfl
    have hG1 : GOk (if gis (a1 :: r1) [102, 97, 114] = true then r1 else a1 :: r1) := by
      split
      · next h => exact g1.next h
      · exact g1
    have hl1 : (if gis (a1 :: r1) [102, 97, 114] = true then r1 else a1 :: r1).length ≤ 100000 := by split <;> (try simp only [List.length_cons]) <;> omega
    generalize (if gis (a1 :: r1) [102, 97, 114] = true then r1 else a1 :: r1) = ts1 at hgo hG1 hl1 ⊢
    generalize gis (a1 :: r1) [102, 97, 114] = far at hgo ⊢
    clear c1 c2 e1 h1 g1 hG
    repeat (refine A1 ⟨?_⟩; intros)
    rename_i b3
    refine WP.perm (List.perm_append_comm (l₁ := [_, _]) (l₂ := [_])) ?_
    simp only [List.cons_append, List.nil_append]
    have hgF := gF_eq
    refine WP.loopS (ι := OlSt) (OlOk (a :: a1 :: r1)) (fun y => y.ts.length) (fun y => fm [(0, lit (.pointer (some ⟨p, 0, none⟩))), (2, lit (.pointer (some ⟨b2, 0, none⟩))), (3, lit (.pointer (some ⟨b3, 0, none⟩)))])
      (fun y => (p, psT, psC y.ts d s) :: (b3, olT, [lit (.bool y.o.far), y.sR, y.sC]) :: (b2, olT, [lit (.bool false), lit (.slice none 0 0), lit (.slice none 0 0)]) :: (y.HR ++ y.HC))
      ⟨gF, ts1, ⟨far, [], []⟩, lit (.slice none 0 0), [], lit (.slice none 0 0), []⟩ ⟨hG1, by simp only; omega, by simp only [List.length_nil]; omega, Own.nil _ _, Own.nil _ _, hgo⟩ (by (repeat (first | exact LeF.nil _ | refine LeF.cons (Le.refl _) ?_ | refine LeF.cons (Le.int (by omega)) ?_))) (List.Sublist.refl _) ?_
    clear hgo hG1 hl1
    rintro ⟨f', ts', o, sR, HR, sC, HC⟩ ⟨hG', hf', hcnt, hrs, hcs, heq⟩ K hK
    simp only at hG' hf' hcnt hrs hcs heq ⊢
    obtain ⟨a, r, rfl, -⟩ := hG'.cons
    simp only [List.length_cons] at hf' hcnt
    obtain ⟨f', rfl⟩ : ∃ g, f' = g + 1 := ⟨f' - 1, by omega⟩
    have c1 := gis_pu s hco a r d (by omega) [125]
    have cR := hrs.co
    have cC := hcs.co
    rw [golF_succ] at heq
    cases h125 : gis (a :: r) [125] with
    | true =>
      rw [h125] at c1
      rw [h125, if_pos rfl] at heq
      clear hK
      refine WP.pubOwnC (c1 := [_]) (c2 := [_]) hrs permB ?_
      simp only [List.cons_append, List.nil_append]
      refine WP.pubOwnC (c1 := [_, _]) (c2 := []) hcs permC ?_
      simp only [List.cons_append, List.nil_append]
      repeat (refine A1 ⟨?_⟩; intros)
      refine Wo (ov_callT c1 rfl (by repeat (first | exact List.mem_cons_self | apply List.mem_cons_of_mem))) ?_
      repeat (refine A1 ⟨?_⟩; intros)
      refine WfT (ptake_pu s hco p a r d (by omega)) ?_ (hs := Tk.skip _ (Tk.cons (HDel.here _) (Tk.nil _)))
      rintro _ _ ⟨rfl, rfl⟩
      simp only [List.cons_append, List.nil_append]
      repeat (refine A1 ⟨?_⟩; intros)
      exact endHR _ _ (end1 (RV.cellA rfl (List.mem_cons_of_mem _ List.mem_cons_self) rfl rfl) (Le.refl _)) (by repeat (first | exact List.nil_sublist _ | refine List.Sublist.cons_cons _ ?_ | refine List.Sublist.cons _ ?_)) ⟨o, r, heq, rfl, rfl⟩
    | false =>
      rw [h125] at c1
      rw [h125, if_neg (by decide)] at heq
      have c2 := gaccept_pu s hco p a r d (by omega) [114, 105, 110, 103]
      cases h2 : gis (a :: r) [114, 105, 110, 103] with
      | true =>
        rw [h2, if_pos rfl] at c2
        rw [h2, if_pos rfl] at heq
        have g2 := hG'.next h2
        have c3 := gpoints_pu s hco p r g2 d (by omega)
        repeat (refine A1 ⟨?_⟩; intros)
        refine Wo (ov_callT c1 rfl (by repeat (first | exact List.mem_cons_self | apply List.mem_cons_of_mem))) ?_
        repeat (refine A1 ⟨?_⟩; intros)
        refine WfT c2 ?_ (hs := Tk.cons (HDel.here _) (Tk.nil _))
        rintro _ _ ⟨rfl, rfl⟩
        refine WPL.perm List.perm_append_comm ?_
        simp only [List.cons_append, List.nil_append]
        repeat (first | (refine AS ⟨?_⟩; intros) | (refine O1 ⟨?_⟩; intros))
        refine WdZ 5 [0, 1, 2, 3, 4] [3] [(p, psT, psC r d s)] _ ?_
        refine ZkD 3 ?_
        repeat (refine A1 ⟨?_⟩; intros)
        refine mkZ0 ?_
        refine ZkC c3 (Tk.cons (HDel.here _) (Tk.nil _)) ?_ ?_
        · rintro _ _ ⟨ps, t1, e3, rfl, rfl⟩
          have g3 := gpts_ok g2 e3
          obtain ⟨a2, r2, rfl, -⟩ := g3.1.cons
          simp only [List.length_cons] at g3
          rw [List.tail_cons, e3] at heq
          simp only at heq
          have c4 := gexpect_pu s hco p a2 r2 d (by omega) [59]
          refine ZkD 1 ?_
          refine Wdo (ov_bs1 (s := ptsS ps) (by repeat (first | exact Parts.nil | (apply Parts.cons; exact Eq.refl (sl _ _); infer_instance)))) ?_
          repeat (refine A1 ⟨?_⟩; intros)
          refine mkZ0 ?_
          refine ZkN ?_
          simp only [List.cons_append, List.nil_append]
          refine WPL.perm permD ?_
          refine WPL.appOwnS hrs rfl rfl (Spl.app _ _) rfl (by decide) (by omega) (by decide) (fun s2 H2 hown => ?_) rfl
          have cR2 := hown.co
          refine WPL.perm permD.symm ?_
          clear c1 c2 c3 e3
          repeat (refine A1 ⟨?_⟩; intros)
          refine Ss ?_
          refine Ws (sv := s2) ?_
          repeat (refine A1 ⟨?_⟩; intros)
          refine WfX c4 ?_ ?_ (hs := Tk.cons (HDel.here _) (Tk.nil _))
          · rintro _ _ ⟨e4, h4, rfl, rfl⟩
            rw [e4] at heq
            simp only at heq
            refine WPL.perm List.perm_append_comm ?_
            simp only [List.cons_append, List.nil_append]
            have hgo := fun F' H'' => hK F' H'' ⟨f', r2, { o with rs := o.rs ++ [ps] }, s2, H2, sC, HC⟩ ⟨g3.1.next h4, by simp only; omega, by simp only [List.length_append, List.length_singleton]; omega, by
              simp only
              rw [flat_snoc, List.length_append, List.length_singleton]; exact hown, hcs, heq⟩ (by simp only [List.length_cons]; omega)
            clear hK heq hown c4
            repeat (refine A1 ⟨?_⟩; intros)
            exact hgo _ _ (by (repeat (first | exact LeF.nil _ | refine LeF.cons (Le.refl _) ?_ | refine LeF.cons (Le.int (by omega)) ?_))) (List.Sublist.refl _)
          · rintro _ _ ⟨e4, hx⟩
            rw [hC]
            exact ⟨_, by rw [heq, e4], hx⟩
        · rintro _ _ ⟨e, e3, hx⟩
          rw [hC]
          exact ⟨_, by rw [heq, List.tail_cons, e3], hx⟩
      | false =>
        rw [h2, if_neg (by decide)] at c2
        rw [h2, if_neg (by decide)] at heq
        have c3 := gaccept_pu s hco p a r d (by omega) [99, 104, 97, 105, 110]
        cases h3 : gis (a :: r) [99, 104, 97, 105, 110] with
        | false =>
          rw [h3, if_neg (by decide)] at c3
          rw [h3, if_neg (by decide)] at heq
          have c4 := gfail_pu s hco p a r d (by omega) 1
          clear hK
          repeat (refine A1 ⟨?_⟩; intros)
          refine Wo (ov_callT c1 rfl (by repeat (first | exact List.mem_cons_self | apply List.mem_cons_of_mem))) ?_
          repeat (refine A1 ⟨?_⟩; intros)
          refine WfT c2 ?_ (hs := Tk.cons (HDel.here _) (Tk.nil _))
          rintro _ _ ⟨rfl, rfl⟩
          refine WPL.perm List.perm_append_comm ?_
          simp only [List.cons_append, List.nil_append]
          repeat (refine A1 ⟨?_⟩; intros)
          refine WfT c3 ?_ (hs := Tk.cons (HDel.here _) (Tk.nil _))
          rintro _ _ ⟨rfl, rfl⟩
          refine WPL.perm List.perm_append_comm ?_
          simp only [List.cons_append, List.nil_append]
          repeat (refine A1 ⟨?_⟩; intros)
          refine WfX c4 ?_ ?_ (hs := Tk.cons (HDel.here _) (Tk.nil _))
          · rintro _ _ ⟨⟩
          · rintro _ _ hx
            rw [hC]
            exact ⟨_, heq, hx⟩
        | true =>
          rw [h3, if_pos rfl] at c3
          rw [h3, if_pos rfl] at heq
          have g2 := hG'.next h3
          have c4 := gpoint_pu s hco p r g2 d (by omega)
          rw [List.tail_cons] at heq
          repeat (refine A1 ⟨?_⟩; intros)
          refine Wo (ov_callT c1 rfl (by repeat (first | exact List.mem_cons_self | apply List.mem_cons_of_mem))) ?_
          repeat (refine A1 ⟨?_⟩; intros)
          refine WfT c2 ?_ (hs := Tk.cons (HDel.here _) (Tk.nil _))
          rintro _ _ ⟨rfl, rfl⟩
          refine WPL.perm List.perm_append_comm ?_
          simp only [List.cons_append, List.nil_append]
          repeat (refine A1 ⟨?_⟩; intros)
          refine WfT c3 ?_ (hs := Tk.cons (HDel.here _) (Tk.nil _))
          rintro _ _ ⟨rfl, rfl⟩
          refine WPL.perm List.perm_append_comm ?_
          simp only [List.cons_append, List.nil_append]
          repeat (refine A1 ⟨?_⟩; intros)
          refine WfX c4 ?_ ?_ (hs := Tk.cons (HDel.here _) (Tk.nil _))
          · rintro _ _ ⟨pa, t1, e4, rfl, rfl⟩
            have g4 := gpt_ok g2 e4
            rw [e4] at heq
            simp only at heq
            have c5 := gpoints_pu s hco p t1 g4.1 d (by omega)
            refine WPL.perm List.perm_append_comm ?_
            simp only [List.cons_append, List.nil_append]
            clear c1 c2 c3 c4 e4
            repeat (refine A1 ⟨?_⟩; intros)
            rename_i b4
            refine WfX c5 ?_ ?_ (hs := Tk.skip _ (Tk.cons (HDel.here _) (Tk.nil _)))
            · rintro _ _ ⟨ps, t2, e5, rfl, rfl⟩
              have g5 := gpts_ok g4.1 e5
              rw [e5] at heq
              simp only at heq
              obtain ⟨a2, r2, rfl, -⟩ := g5.1.cons
              simp only [List.length_cons] at g5
              have hrot : ∀ (x y q : Nat × TypeId × List SV) (l : LH), ((x :: y :: q :: l) ++ [(p, psT, psC (a2 :: r2) d s)]).Perm ((p, psT, psC (a2 :: r2) d s) :: y :: q :: (l ++ [x])) := fun x y q l => by
                refine List.perm_append_comm.trans ?_
                simp only [List.cons_append, List.nil_append]
                refine List.Perm.cons _ ?_
                exact List.perm_append_comm (l₁ := [x]) (l₂ := y :: q :: l)
              clear c5 e5
              by_cases hlt : ps.length < 2
              · rw [if_pos hlt] at heq
                have c6 := gfail_pu s hco p a2 r2 d (by omega) 1
                clear hK
                refine WPL.perm (hrot _ _ _ _) ?_
                repeat (refine A1 ⟨?_⟩; intros)
                refine WfX c6 ?_ ?_ (hs := Tk.cons (HDel.here _) (Tk.nil _))
                · rintro _ _ ⟨⟩
                · rintro _ _ hx
                  rw [hC]
                  exact ⟨_, heq, hx⟩
              · rw [if_neg hlt] at heq
                have c6 := gexpect_pu s hco p a2 r2 d (by omega) [59]
                obtain ⟨l, x, rfl, hdl, hgl, hll⟩ := pts_split (ps := ps) (by omega)
                rw [hdl, hgl] at heq
                have hne : ((l ++ [x]).map ptx).flatten ≠ [] := fun e => by
                  have := pts_len (l ++ [x])
                  rw [e] at this
                  simp at this
                have hcl := pts_len (l ++ [x])
                have hl1 : 1 ≤ l.length := by omega
                clear hdl hgl hlt
                refine WPL.perm List.perm_append_comm ?_
                simp only [List.cons_append, List.nil_append]
                repeat (first | (refine AS ⟨?_⟩; intros) | (refine O1 ⟨?_⟩; intros))
                refine WdN 13 ?_
                repeat (refine A1 ⟨?_⟩; intros)
                refine Wdo (ov_sl3n l.length rfl rfl rfl (by omega) (by omega) hcl (by omega) (pts_take l x)) ?_
                repeat (refine A1 ⟨?_⟩; intros)
                refine Wdo (ov_idxS (cs' := ptx x) (i := ((l ++ [x]).length : Nat) - 1) rfl rfl (by omega) (by omega) (by rw [show ((((l ++ [x]).length : Nat) : Int) - 1).toNat = l.length by omega]; exact pts_at l x) hne) ?_
                repeat (refine A1 ⟨?_⟩; intros; try (refine Wdo (ov_bsN (s := ag (chx ⟨pa, x, l⟩)) (ds := chx ⟨pa, x, l⟩) rfl inferInstance) ?_))
                refine WPL.perm permF ?_
                refine WPL.appOwnS hcs rfl rfl (Spl.app _ _) rfl (by decide) (by omega) (by decide) (fun s2 H2 hown => ?_) rfl
                have cC2 := hown.co
                refine WPL.perm (permF (x := HR) (y := H2)).symm ?_
                repeat (refine A1 ⟨?_⟩; intros)
                refine Ss ?_
                refine Ws (sv := s2) ?_
                repeat (refine A1 ⟨?_⟩; intros)
                refine WfX c6 ?_ ?_ (hs := Tk.cons (HDel.here _) (Tk.nil _))
                · rintro _ _ ⟨e6, h6, rfl, rfl⟩
                  rw [e6] at heq
                  simp only at heq
                  refine WPL.perm List.perm_append_comm ?_
                  simp only [List.cons_append, List.nil_append]
                  have hgo := fun F' H'' => hK F' H'' ⟨f', r2, { o with cs := o.cs ++ [⟨pa, x, l⟩] }, sR, HR, s2, H2⟩ ⟨g5.1.next h6, by simp only; omega, by simp only [List.length_append, List.length_singleton]; omega, hrs, by
                    simp only
                    rw [flat_snoc, List.length_append, List.length_singleton]; exact hown, heq⟩ (by simp only [List.length_cons]; omega)
                  clear hK heq hown c6
                  repeat (refine A1 ⟨?_⟩; intros)
                  exact hgo _ _ (by (repeat (first | exact LeF.nil _ | refine LeF.cons (Le.refl _) ?_ | refine LeF.cons (Le.int (by omega)) ?_))) (List.Sublist.cons_cons _ (List.Sublist.cons _ (List.Sublist.refl _)))
                · rintro _ _ ⟨e6, hx⟩
                  rw [hC]
                  exact ⟨_, by rw [heq, e6], hx⟩
            · rintro _ _ ⟨e, e5, hx⟩
              rw [hC]
              exact ⟨_, by rw [heq, e5], hx⟩
          · rintro _ _ ⟨e, e4, hx⟩
            rw [hC]
            exact ⟨_, by rw [heq, e4], hx⟩
  · rintro _ _ ⟨e1, hx⟩
    rw [hC]
    exact ⟨_, by unfold goutl; rw [e1], hx⟩
abbrev stT : TypeId := 62
abbrev nmx (l : List UInt8) : List SV := [str l]
abbrev nmsS (l : List (List UInt8)) : SV := sl (l.map nmx).flatten l.length
abbrev exS (A : List Nd) : SV := sl (A.map ndx).flatten A.length
abbrev stx (s : Stm) : List SV := [lit (.int .i64 (s.k : Nat)), lit (.int .i64 (s.l : Nat)), lit (.int .i64 (s.c : Nat)), str s.nm, lit (.int .i64 (s.bd : Nat)), ptsS s.ps, lit (.int .i64 (s.fl : Nat)), nmsS s.nms,
  lit (.bool s.ol.far), rgsS s.ol.rs, chsS s.ol.cs, exS s.e1, exS s.e2, lit (.bool s.px.s), dg s.px.n, dg s.px.d, lit (.bool s.py.s), dg s.py.n, dg s.py.d]
section
variable {α : Type} {b p : α} {x : List α}
theorem permG : (b :: p :: x).Perm (b :: (x ++ [p])) := List.Perm.cons b (List.perm_append_comm (l₁ := [p]) (l₂ := x))
end
def QR (p b : Nat) (r : Except Er (Stm × List Tok)) : SV → LH → Prop := fun v H => ∃ s' ts' s1, r = .ok (s', ts') ∧ GOk ts' ∧ CO s1 [s1] ∧ v = Ab.tup [] ∧ H = [(b, stT, stx s'), (p, psT, psC ts' 0 s1)]
set_option maxHeartbeats 8000000 in
theorem gquery_pu [Sent 4] [Sent 3] [Sent 5] (p b : Nat) (ts : List Tok) (hG : GOk ts) (hl : ts.length ≤ 100000) (s0 : SV) (hs : CO s0 [s0]) (s : Stm) (hk : s.k ≤ 100) :
    PuH Tryz.prog 97 [ptrP p, ptrP b] [(p, psT, psC ts 0 s0), (b, stT, stx s)] (QR p b (gquery s ts)) (fun pv _ => ∃ e, gquery s ts = .error e ∧ pv = erSV e) := by
  have c1 := gexpression_pu p ts hG hl s0 hs
  unfold QR gquery
  refine PuH.intro Tryz.func97 rfl (by kernel_rfl) fun C hC => ?_
  repeat (refine A1 ⟨?_⟩; intros)
  refine WfX c1 ?_ ?_ (hs := Tk.cons (HDel.here _) (Tk.nil _))
  · rintro v _ ⟨A, x, t1, Hs, ⟨e1, -, g1, l1, l2⟩, hown, rfl⟩
    have hco := hown.co
    rw [e1]
    simp only [List.cons_append, List.nil_append]
    clear c1
    repeat (first | (refine AS ⟨?_⟩; intros) | (refine O1 ⟨?_⟩; intros))
    refine Ss ?_
    refine Ws (sv := v) ?_
    refine WPL.pubOwnC (c1 := [_, _, _, _, _, _, _, _, _, _, _]) (c2 := [_, _, _, _, _, _, _]) hown permG ?_
    simp only [List.cons_append, List.nil_append]
    by_cases k8 : s.k = 8
    · rw [if_pos k8]
      have c2 := gpoint_pu v hco p t1 g1 0 (by omega)
      repeat (refine A1 ⟨?_⟩; intros)
      refine WfX c2 ?_ ?_ (hs := Tk.skip _ (Tk.cons (HDel.here _) (Tk.nil _)))
      · rintro _ _ ⟨q, t2, e2, rfl, rfl⟩
        rw [e2]
        have g2 := gpt_ok g1 e2
        simp only [List.cons_append, List.nil_append]
        repeat (refine A1 ⟨?_⟩; intros)
        exact endHN _ _ end0 (List.Sublist.refl _) ⟨_, _, _, rfl, g2.1, hco, rfl, rfl⟩
      · rintro _ _ ⟨e, e2, hx⟩
        rw [hC]
        exact ⟨e, by rw [e1]; simp only [if_pos k8, e2], hx⟩
    rw [if_neg k8]
    by_cases k10 : s.k = 10 ∨ s.k = 11
    · rw [if_pos k10]
      obtain ⟨a, r, rfl, -⟩ := g1.cons
      simp only [List.length_cons] at l1 l2
      have c2 := gexpect_pu v hco p a r 0 (by omega) [44]
      have fin : PuH Tryz.prog 100 [ptrP p, str [44]] [(p, psT, psC (a :: r) 0 v)] (fun v' H => gexpect [44] (a :: r) = .ok r ∧ gis (a :: r) [44] = true ∧ v' = Ab.tup [] ∧ H = [(p, psT, psC r 0 v)]) (fun pv _ => gexpect [44] (a :: r) = .error (ger 1 (a :: r)) ∧ pv = erSV (ger 1 (a :: r))) := c2
      rcases k10 with k10 | k10 <;>
      · repeat (refine A1 ⟨?_⟩; intros)
        refine WfX c2 ?_ ?_ (hs := Tk.skip _ (Tk.cons (HDel.here _) (Tk.nil _)))
        · rintro _ _ ⟨e2, h2, rfl, rfl⟩
          have g2 := g1.next h2
          have c3 := gexpression_pu p r g2 (by omega) v hco
          rw [e2]
          simp only [List.cons_append, List.nil_append]
          repeat (refine A1 ⟨?_⟩; intros)
          refine WfX c3 ?_ ?_ (hs := Tk.skip _ (Tk.cons (HDel.here _) (Tk.nil _)))
          · rintro v2 _ ⟨B, y, t3, Hs2, ⟨e3, -, g3, -, -⟩, hown2, rfl⟩
            have hco2 := hown2.co
            rw [e3]
            simp only [List.cons_append, List.nil_append]
            clear c3 c2
            repeat (first | (refine AS ⟨?_⟩; intros) | (refine O1 ⟨?_⟩; intros))
            refine Ss ?_
            refine Ws (sv := v2) ?_
            refine WPL.pubOwnC (c1 := [_, _, _, _, _, _, _, _, _, _, _, _]) (c2 := [_, _, _, _, _, _]) hown2 permG ?_
            simp only [List.cons_append, List.nil_append]
            repeat (refine A1 ⟨?_⟩; intros)
            exact endHN _ _ end0 (List.Sublist.refl _) ⟨_, _, _, rfl, g3, hco2, rfl, rfl⟩
          · rintro _ _ ⟨e, e3, hx⟩
            rw [hC]
            exact ⟨e, by rw [e1]; simp only [if_neg k8, if_pos (show s.k = 10 ∨ s.k = 11 by omega), e2, e3], hx⟩
        · rintro _ _ ⟨e2, hx⟩
          rw [hC]
          exact ⟨_, by rw [e1]; simp only [if_neg k8, if_pos (show s.k = 10 ∨ s.k = 11 by omega), e2], hx⟩
    · rw [if_neg k10]
      have k10' : s.k ≠ 10 := by omega
      have k11' : s.k ≠ 11 := by omega
      clear k10
      repeat (refine A1 ⟨?_⟩; intros)
      exact endHN _ _ end0 (List.Sublist.refl _) ⟨_, _, _, rfl, g1, hco, rfl, rfl⟩
  · rintro _ _ ⟨e, e1, hx⟩
    rw [hC]
    exact ⟨e, by rw [e1], hx⟩
set_option maxHeartbeats 4000000 in
theorem gqueries_pu (t : List UInt8) : Pu Tryz.prog 94 [str t] (lit (.int .i64 (gkQ t))) := by
  unfold gkQ
  by_cases c0 : t = [97, 114, 101, 97]
  · rw [if_pos c0]
    refine Pu.intro Tryz.func94 rfl (by kernel_rfl) fun C => ?_
    repeat (refine A1 ⟨?_⟩; intros)
    exact endR (end1 (RV.tmp rfl) (Le.refl _))
  rw [if_neg c0]
  by_cases c1 : t = [99, 101, 110, 116, 114, 111, 105, 100]
  · rw [if_pos c1]
    refine Pu.intro Tryz.func94 rfl (by kernel_rfl) fun C => ?_
    repeat (refine A1 ⟨?_⟩; intros)
    exact endR (end1 (RV.tmp rfl) (Le.refl _))
  rw [if_neg c1]
  by_cases c2 : t = [101, 109, 112, 116, 121]
  · rw [if_pos c2]
    refine Pu.intro Tryz.func94 rfl (by kernel_rfl) fun C => ?_
    repeat (refine A1 ⟨?_⟩; intros)
    exact endR (end1 (RV.tmp rfl) (Le.refl _))
  rw [if_neg c2]
  by_cases c3 : t = [99, 101, 108, 108, 115]
  · rw [if_pos c3]
    refine Pu.intro Tryz.func94 rfl (by kernel_rfl) fun C => ?_
    repeat (refine A1 ⟨?_⟩; intros)
    exact endR (end1 (RV.tmp rfl) (Le.refl _))
  rw [if_neg c3]
  by_cases c4 : t = [110, 111, 100, 101, 115]
  · rw [if_pos c4]
    refine Pu.intro Tryz.func94 rfl (by kernel_rfl) fun C => ?_
    repeat (refine A1 ⟨?_⟩; intros)
    exact endR (end1 (RV.tmp rfl) (Le.refl _))
  rw [if_neg c4]
  by_cases c5 : t = [112, 97, 114, 116, 115]
  · rw [if_pos c5]
    refine Pu.intro Tryz.func94 rfl (by kernel_rfl) fun C => ?_
    repeat (refine A1 ⟨?_⟩; intros)
    exact endR (end1 (RV.tmp rfl) (Le.refl _))
  rw [if_neg c5]
  by_cases c6 : t = [101, 120, 112, 111, 114, 116]
  · rw [if_pos c6]
    refine Pu.intro Tryz.func94 rfl (by kernel_rfl) fun C => ?_
    repeat (refine A1 ⟨?_⟩; intros)
    exact endR (end1 (RV.tmp rfl) (Le.refl _))
  rw [if_neg c6]
  by_cases c7 : t = [99, 108, 97, 115, 115, 105, 102, 121]
  · rw [if_pos c7]
    refine Pu.intro Tryz.func94 rfl (by kernel_rfl) fun C => ?_
    repeat (refine A1 ⟨?_⟩; intros)
    exact endR (end1 (RV.tmp rfl) (Le.refl _))
  rw [if_neg c7]
  by_cases c8 : t = [101, 113, 117, 97, 108]
  · rw [if_pos c8]
    refine Pu.intro Tryz.func94 rfl (by kernel_rfl) fun C => ?_
    repeat (refine A1 ⟨?_⟩; intros)
    exact endR (end1 (RV.tmp rfl) (Le.refl _))
  rw [if_neg c8]
  by_cases c9 : t = [115, 117, 98, 115, 101, 116]
  · rw [if_pos c9]
    refine Pu.intro Tryz.func94 rfl (by kernel_rfl) fun C => ?_
    repeat (refine A1 ⟨?_⟩; intros)
    exact endR (end1 (RV.tmp rfl) (Le.refl _))
  rw [if_neg c9]
  refine Pu.intro Tryz.func94 rfl (by kernel_rfl) fun C => ?_
  repeat (refine A1 ⟨?_⟩; intros)
  exact endR (end1 (RV.tmp rfl) (Le.refl _))
set_option maxHeartbeats 4000000 in
theorem gdefinitions_pu (t : List UInt8) : Pu Tryz.prog 95 [str t] (lit (.int .i64 (gkD t))) := by
  unfold gkD
  by_cases c0 : t = [98, 117, 100, 103, 101, 116]
  · rw [if_pos c0]
    refine Pu.intro Tryz.func95 rfl (by kernel_rfl) fun C => ?_
    repeat (refine A1 ⟨?_⟩; intros)
    exact endR (end1 (RV.tmp rfl) (Le.refl _))
  rw [if_neg c0]
  by_cases c1 : t = [114, 105, 110, 103]
  · rw [if_pos c1]
    refine Pu.intro Tryz.func95 rfl (by kernel_rfl) fun C => ?_
    repeat (refine A1 ⟨?_⟩; intros)
    exact endR (end1 (RV.tmp rfl) (Le.refl _))
  rw [if_neg c1]
  by_cases c2 : t = [114, 101, 103, 105, 111, 110]
  · rw [if_pos c2]
    refine Pu.intro Tryz.func95 rfl (by kernel_rfl) fun C => ?_
    repeat (refine A1 ⟨?_⟩; intros)
    exact endR (end1 (RV.tmp rfl) (Le.refl _))
  rw [if_neg c2]
  by_cases c3 : t = [111, 117, 116, 108, 105, 110, 101]
  · rw [if_pos c3]
    refine Pu.intro Tryz.func95 rfl (by kernel_rfl) fun C => ?_
    repeat (refine A1 ⟨?_⟩; intros)
    exact endR (end1 (RV.tmp rfl) (Le.refl _))
  rw [if_neg c3]
  by_cases c4 : t = [108, 101, 116]
  · rw [if_pos c4]
    refine Pu.intro Tryz.func95 rfl (by kernel_rfl) fun C => ?_
    repeat (refine A1 ⟨?_⟩; intros)
    exact endR (end1 (RV.tmp rfl) (Le.refl _))
  rw [if_neg c4]
  refine Pu.intro Tryz.func95 rfl (by kernel_rfl) fun C => ?_
  repeat (refine A1 ⟨?_⟩; intros)
  exact endR (end1 (RV.tmp rfl) (Le.refl _))
theorem gfill_pu [Sent 4] (s : SV) (hco : CO s [s]) (p : Nat) (a : Tok) (r : List Tok) (d : Nat) (hr : r.length ≤ 1000000) : PuH Tryz.prog 151 [lit (.pointer (some ⟨p, 0, none⟩))] [(p, psT, psC (a :: r) d s)]
    (fun v H => ∃ fl, gfill (a :: r) = .ok (fl, r) ∧ a.k ≠ 0 ∧ v = lit (.int .i64 fl) ∧ H = [(p, psT, psC r d s)]) (fun pv _ => ∃ e, gfill (a :: r) = .error e ∧ pv = erSV e) := by
  have c1 := gaccept_pu s hco p a r d hr [101, 118, 101, 110, 111, 100, 100]
  have c2 := gexpect_pu s hco p a r d hr [110, 111, 110, 122, 101, 114, 111]
  unfold gfill
  cases h : gis (a :: r) [101, 118, 101, 110, 111, 100, 100] with
  | true =>
    have hk := (gis_k h).1
    rw [h, if_pos rfl] at c1
    refine PuH.intro Tryz.func151 rfl (by kernel_rfl) fun C hC => ?_
    repeat (refine A1 ⟨?_⟩; intros)
    refine WfT c1 ?_
    rintro _ _ ⟨rfl, rfl⟩
    simp only [List.cons_append, List.nil_append]
    repeat (refine A1 ⟨?_⟩; intros)
    exact endHR _ _ (end1 (RV.tmp rfl) (Le.refl _)) (List.Sublist.refl _) ⟨1, rfl, hk, rfl, rfl⟩
  | false =>
    rw [h, if_neg (by decide)] at c1
    refine PuH.intro Tryz.func151 rfl (by kernel_rfl) fun C hC => ?_
    repeat (refine A1 ⟨?_⟩; intros)
    refine WfT c1 ?_
    rintro _ _ ⟨rfl, rfl⟩
    simp only [List.cons_append, List.nil_append]
    repeat (refine A1 ⟨?_⟩; intros)
    refine WfX c2 ?_ ?_
    · rintro _ _ ⟨e1, h1, rfl, rfl⟩
      simp only [List.cons_append, List.nil_append]
      repeat (refine A1 ⟨?_⟩; intros)
      exact endHR _ _ (end1 (RV.tmp rfl) (Le.refl _)) (List.Sublist.refl _) ⟨2, by rw [e1]; rfl, (gis_k h1).1, rfl, rfl⟩
    · rintro _ _ ⟨e1, hx⟩
      rw [hC]
      exact ⟨_, by rw [e1]; rfl, hx⟩
abbrev PosR := Nat → Nat → Nat → Nat → Prop
structure TokR (R : PosR) (a b : Tok) : Prop where
  k : a.k = b.k
  t : a.t = b.t
  p : R a.l a.c b.l b.c
inductive LR (R : PosR) : List Tok → List Tok → Prop
  | nil : LR R [] []
  | cons {a b : Tok} {r s : List Tok} (h : TokR R a b) (k : LR R r s) : LR R (a :: r) (b :: s)
theorem LR.length {R : PosR} {r s : List Tok} (h : LR R r s) : r.length = s.length := by
  induction h with
  | nil => rfl
  | cons _ _ ih => simp [ih]
structure ErR (R : PosR) (e e' : Er) : Prop where
  k : e.k = e'.k
  t : e.t = e'.t
  p : R e.l e.c e'.l e'.c
abbrev Rd (α : Type) := List Tok → Except Er (α × List Tok)
inductive ORel (R : PosR) {α : Type} (S : α → α → Prop) : Except Er (α × List Tok) → Except Er (α × List Tok) → Prop
  | ok {x y : α} {r s : List Tok} (h : S x y) (k : LR R r s) (g : GOk r) : ORel R S (.ok (x, r)) (.ok (y, s))
  | er {e e' : Er} (h : ErR R e e') : ORel R S (.error e) (.error e')
def Nt {α : Type} (S : α → α → Prop) (p q : Rd α) : Prop := ∀ (R : PosR) (ts us : List Tok), GOk ts → LR R ts us → ORel R S (p ts) (q us)
structure Pf {α : Type} (p : Rd α) : Prop where
  len : ∀ ts x r, p ts = .ok (x, r) → r.length ≤ ts.length
  pre : ∀ u v x r, p (u ++ v) = .ok (x, r) → v.length < r.length → ∃ r1, r = r1 ++ v ∧ ∀ v', p (u ++ v') = .ok (x, r1 ++ v')
section
variable {α β : Type} {S : α → α → Prop} {T : β → β → Prop}
def rbind (p : Rd α) (f : α → Rd β) : Rd β := fun ts => match p ts with
  | .error e => .error e
  | .ok (x, r) => f x r
theorem Nt.bind {p q : Rd α} {f g : α → Rd β} (hp : Nt S p q) (hf : ∀ x y, S x y → Nt T (f x) (g y)) : Nt T (rbind p f) (rbind q g) := by
  intro R ts us hG hL
  have h := hp R ts us hG hL
  unfold rbind
  generalize p ts = a at h ⊢
  generalize q us = b at h ⊢
  cases h with
  | ok h k g => exact hf _ _ h R _ _ g k
  | er h => exact .er h
theorem Pf.bind {p : Rd α} {f : α → Rd β} (hp : Pf p) (hf : ∀ x, Pf (f x)) : Pf (rbind p f) where
  len ts y r h := by
    unfold rbind at h
    cases hq : p ts with
    | error e => rw [hq] at h; cases h
    | ok w =>
      obtain ⟨x, r'⟩ := w
      rw [hq] at h
      exact Nat.le_trans ((hf x).len _ _ _ h) (hp.len _ _ _ hq)
  pre u v y r h hl := by
    unfold rbind at h
    cases hq : p (u ++ v) with
    | error e => rw [hq] at h; cases h
    | ok w =>
      obtain ⟨x, r'⟩ := w
      rw [hq] at h
      have h1 := (hf x).len _ _ _ h
      obtain ⟨r1, rfl, k1⟩ := hp.pre u v x r' hq (Nat.lt_of_lt_of_le hl h1)
      obtain ⟨r2, rfl, k2⟩ := (hf x).pre r1 v y r h hl
      exact ⟨r2, rfl, fun v' => by unfold rbind; rw [k1 v']; exact k2 v'⟩
def rfail (k : Nat) : Rd α := fun ts => .error (ger k ts)
theorem Nt.fail (k : Nat) : Nt S (rfail k) (rfail k) := by
  intro R ts us hG hL
  cases hL with
  | nil => exact hG.elim
  | cons h _ => exact .er ⟨rfl, h.t, h.p⟩
theorem Pf.fail (k : Nat) : Pf (rfail k : Rd α) where
  len _ _ _ h := by cases h
  pre _ _ _ _ h := by cases h
def rret (x : α) : Rd α := fun ts => .ok (x, ts)
theorem Nt.ret {x y : α} (h : S x y) : Nt S (rret x) (rret y) := fun _ _ _ hG hL => .ok h hL hG
theorem Pf.ret (x : α) : Pf (rret x) where
  len ts y r h := by cases h; exact Nat.le_refl _
  pre u v y r h _ := by cases h; exact ⟨u, rfl, fun _ => rfl⟩
def HdC (c : Tok → Bool) : Prop := ∀ a b : Tok, a.k = b.k → a.t = b.t → c a = c b
def rif (c : Tok → Bool) (p q : Rd α) : Rd α := fun ts => if c (hd ts) = true then p ts else q ts
theorem Nt.rif {c : Tok → Bool} {p q p' q' : Rd α} (hc : HdC c) (hp : Nt S p p') (hq : Nt S q q') : Nt S (rif c p q) (rif c p' q') := by
  intro R ts us hG hL
  have h1 := hp R ts us hG hL
  have h2 := hq R ts us hG hL
  unfold Ab.rif
  have he : c (hd ts) = c (hd us) := by
    cases hL with
    | nil => rfl
    | cons h _ => exact hc _ _ h.k h.t
  rw [← he]
  split
  · exact h1
  · exact h2
theorem Pf.rif {c : Tok → Bool} {p q : Rd α} (hp : Pf p) (hq : Pf q) : Pf (rif c p q) where
  len ts x r h := by
    unfold Ab.rif at h
    split at h
    · exact hp.len _ _ _ h
    · exact hq.len _ _ _ h
  pre u v x r h hl := by
    unfold Ab.rif at h
    cases u with
    | nil =>
      exfalso
      have : r.length ≤ ([] ++ v).length := by
        split at h
        · exact hp.len _ _ _ h
        · exact hq.len _ _ _ h
      simp at this
      omega
    | cons a u =>
      by_cases hc : c a = true
      · rw [if_pos (show c (hd (a :: u ++ v)) = true from hc)] at h
        obtain ⟨r1, h1, h2⟩ := hp.pre _ _ _ _ h hl
        refine ⟨r1, h1, fun v' => ?_⟩
        unfold Ab.rif
        rw [if_pos (show c (hd (a :: u ++ v')) = true from hc)]
        exact h2 v'
      · rw [if_neg (show ¬ c (hd (a :: u ++ v)) = true from hc)] at h
        obtain ⟨r1, h1, h2⟩ := hq.pre _ _ _ _ h hl
        refine ⟨r1, h1, fun v' => ?_⟩
        unfold Ab.rif
        rw [if_neg (show ¬ c (hd (a :: u ++ v')) = true from hc)]
        exact h2 v'
def rtk (c : Tok → Bool) (p : Tok → Rd α) (q : Rd α) : Rd α := fun ts => if c (hd ts) = true then p (hd ts) ts.tail else q ts
theorem Nt.tk {c : Tok → Bool} {p p' : Tok → Rd α} {q q' : Rd α} (hc : HdC c) (h0 : ∀ a, c a = true → a.k ≠ 0) (hp : ∀ a b : Tok, a.k = b.k → a.t = b.t → c a = true → Nt S (p a) (p' b)) (hq : Nt S q q') : Nt S (rtk c p q) (rtk c p' q') := by
  intro R ts us hG hL
  have h2 := hq R ts us hG hL
  unfold rtk
  cases hL with
  | nil => exact hG.elim
  | @cons a b r s h k =>
    have he : c (hd (a :: r)) = c (hd (b :: s)) := hc _ _ h.k h.t
    rw [← he]
    by_cases hca : c a = true
    · rw [if_pos (show c (hd (a :: r)) = true from hca), if_pos (show c (hd (a :: r)) = true from hca)]
      exact hp a b h.k h.t hca R r s (hG.tail (h0 a hca)) k
    · rw [if_neg (show ¬ c (hd (a :: r)) = true from hca), if_neg (show ¬ c (hd (a :: r)) = true from hca)]
      exact h2
theorem Pf.tk {c : Tok → Bool} {p : Tok → Rd α} {q : Rd α} (hp : ∀ a, Pf (p a)) (hq : Pf q) : Pf (rtk c p q) where
  len ts x r h := by
    unfold rtk at h
    split at h
    · have := (hp _).len _ _ _ h
      rw [List.length_tail] at this
      omega
    · exact hq.len _ _ _ h
  pre u v x r h hl := by
    unfold rtk at h
    cases u with
    | nil =>
      exfalso
      have : r.length ≤ ([] ++ v).length := by
        split at h
        · have := (hp _).len _ _ _ h
          rw [List.length_tail] at this
          omega
        · exact hq.len _ _ _ h
      simp at this
      omega
    | cons a u =>
      by_cases hc : c a = true
      · rw [if_pos (show c (hd (a :: u ++ v)) = true from hc)] at h
        obtain ⟨r1, h1, h2⟩ := (hp a).pre u v x r h hl
        refine ⟨r1, h1, fun v' => ?_⟩
        unfold rtk
        rw [if_pos (show c (hd (a :: u ++ v')) = true from hc)]
        exact h2 v'
      · rw [if_neg (show ¬ c (hd (a :: u ++ v)) = true from hc)] at h
        obtain ⟨r1, h1, h2⟩ := hq.pre _ _ _ _ h hl
        refine ⟨r1, h1, fun v' => ?_⟩
        unfold rtk
        rw [if_neg (show ¬ c (hd (a :: u ++ v')) = true from hc)]
        exact h2 v'
end
def cis (w : List UInt8) (a : Tok) : Bool := (decide (a.k = 1) || decide (a.k = 3)) && decide (a.t = w)
def cnm (a : Tok) : Bool := decide (a.k = 1) && !resv a.t
def cnum (a : Tok) : Bool := decide (a.k = 2)
theorem cis_gis (w : List UInt8) (ts : List Tok) : gis ts w = cis w (hd ts) := rfl
theorem cis_hd (w : List UInt8) : HdC (cis w) := fun a b h1 h2 => by unfold cis; rw [h1, h2]
theorem cnm_hd : HdC cnm := fun a b h1 h2 => by unfold cnm; rw [h1, h2]
theorem cnum_hd : HdC cnum := fun a b h1 h2 => by unfold cnum; rw [h1]
theorem cis_0 (w : List UInt8) (a : Tok) (h : cis w a = true) : a.k ≠ 0 := (gis_k (a := a) (r := []) (w := w) h).1
theorem cnm_0 (a : Tok) (h : cnm a = true) : a.k ≠ 0 := by
  unfold cnm at h
  rw [Bool.and_eq_true] at h
  have := of_decide_eq_true h.1
  omega
theorem cnum_0 (a : Tok) (h : cnum a = true) : a.k ≠ 0 := by
  have := of_decide_eq_true h
  omega
theorem cnm_iff (a : Tok) : cnm a = true ↔ a.k = 1 ∧ resv a.t = false := by
  unfold cnm
  rw [Bool.and_eq_true, decide_eq_true_iff, Bool.not_eq_true']
def rexpect (w : List UInt8) : Rd Unit := rtk (cis w) (fun _ => rret ()) (rfail 1)
theorem rexpect_eq (w : List UInt8) (ts : List Tok) : rexpect w ts = match gexpect w ts with
    | .error e => .error e
    | .ok t => .ok ((), t) := by
  unfold rexpect gexpect rtk
  rw [cis_gis]
  by_cases h : cis w (hd ts) = true
  · rw [if_pos h, if_pos h]; rfl
  · rw [if_neg h, if_neg h]; rfl
def rname : Rd (List UInt8) := rtk cnm (fun a => rret a.t) (rfail 1)
theorem rname_eq : gname = rname := by
  funext ts
  unfold gname rname rtk
  by_cases h : (hd ts).k = 1 ∧ resv (hd ts).t = false
  · rw [if_pos h, if_pos ((cnm_iff _).2 h)]; rfl
  · rw [if_neg h, if_neg (fun k => h ((cnm_iff _).1 k))]; rfl
def rnum : Rd (List UInt8) := rtk cnum (fun a => rret a.t) (rfail 1)
theorem rnum_eq : gnum = rnum := by
  funext ts
  unfold gnum rnum rtk
  by_cases h : (hd ts).k = 2
  · have hc : cnum (hd ts) = true := decide_eq_true h
    rw [if_pos h, if_pos hc]; rfl
  · have hc : ¬ cnum (hd ts) = true := fun k => h (of_decide_eq_true k)
    rw [if_neg h, if_neg hc]; rfl
def rnumC {α : Type} (bad : List UInt8 → Bool) (k : Nat) (f : List UInt8 → α) : Rd α := rif (fun a => cnum a && bad a.t) (rfail k) (rtk cnum (fun a => rret (f a.t)) (rfail 1))
theorem rnumC_eq {α : Type} (bad : List UInt8 → Bool) (k : Nat) (f : List UInt8 → α) (ts : List Tok) : rnumC bad k f ts = match gnum ts with
    | .error e => .error e
    | .ok (n, t1) => if bad n = true then .error (ger k ts) else .ok (f n, t1) := by
  unfold rnumC gnum rif rtk
  by_cases h : (hd ts).k = 2
  · have hc : cnum (hd ts) = true := decide_eq_true h
    rw [if_pos h]
    simp only [hc, Bool.true_and]
    by_cases hb : bad (hd ts).t = true
    · rw [if_pos hb]; simp only [hb, if_true]; rfl
    · rw [if_neg hb]; simp only [hb, if_true]; rfl
  · have hc : ¬ cnum (hd ts) = true := fun k => h (of_decide_eq_true k)
    rw [if_neg h, if_neg (fun k => hc (by rw [Bool.and_eq_true] at k; exact k.1)), if_neg hc]
    rfl
theorem Nt.expect (w : List UInt8) : Nt (fun _ _ => True) (rexpect w) (rexpect w) := Nt.tk (cis_hd w) (cis_0 w) (fun _ _ _ _ _ => .ret trivial) (.fail 1)
theorem Pf.expect (w : List UInt8) : Pf (rexpect w) := Pf.tk (fun _ => .ret _) (.fail 1)
theorem Nt.name : Nt Eq rname rname := Nt.tk cnm_hd cnm_0 (fun _ _ _ h _ => .ret h) (.fail 1)
theorem Pf.name : Pf rname := Pf.tk (fun _ => .ret _) (.fail 1)
theorem Nt.num : Nt Eq rnum rnum := Nt.tk cnum_hd cnum_0 (fun _ _ _ h _ => .ret h) (.fail 1)
theorem Pf.num : Pf rnum := Pf.tk (fun _ => .ret _) (.fail 1)
theorem Nt.numC {α : Type} (bad : List UInt8 → Bool) (k : Nat) (f : List UInt8 → α) : Nt Eq (rnumC bad k f) (rnumC bad k f) :=
  Nt.rif (fun a b h1 h2 => by rw [cnum_hd a b h1 h2, h2]) (.fail k) (Nt.tk cnum_hd cnum_0 (fun _ _ _ h _ => .ret (by rw [h])) (.fail 1))
theorem Pf.numC {α : Type} (bad : List UInt8 → Bool) (k : Nat) (f : List UInt8 → α) : Pf (rnumC bad k f) := Pf.rif (.fail k) (Pf.tk (fun _ => .ret _) (.fail 1))
def rratS (neg : Bool) : Rd Rat := rbind rnum fun n => rtk (cis [47]) (fun _ => rnumC (fun d => decide (dcv d = 0)) 3 fun d => mkRat (sv neg (dcv n)) (dcv d)) (rret (mkRat (sv neg (dcv n)) 1))
theorem rratS_eq (neg : Bool) : gratS neg = rratS neg := by
  funext ts
  unfold gratS rratS rbind
  rw [rnum_eq]
  cases rnum ts with
  | error e => rfl
  | ok q =>
    obtain ⟨n, t2⟩ := q
    simp only
    unfold rtk
    rw [cis_gis]
    split
    · show _ = rnumC (fun d => decide (dcv d = 0)) 3 (fun d => mkRat (sv neg (dcv n)) (dcv d)) t2.tail
      rw [rnumC_eq, rnum_eq]
      cases rnum t2.tail with
      | error e => rfl
      | ok q =>
        obtain ⟨d, t3⟩ := q
        simp only [decide_eq_true_eq]
    · rfl
theorem Nt.ratS (neg : Bool) : Nt Eq (rratS neg) (rratS neg) := Nt.num.bind fun n m h => by
  subst h
  exact Nt.tk (cis_hd _) (cis_0 _) (fun _ _ _ _ _ => .numC _ _ _) (.ret rfl)
theorem Pf.ratS (neg : Bool) : Pf (rratS neg) := Pf.num.bind fun n => Pf.tk (fun _ => .numC _ _ _) (.ret _)
def rrat : Rd Rat := rtk (cis [45]) (fun _ => rratS true) (rratS false)
theorem rrat_eq : grat = rrat := by
  funext ts
  unfold grat rrat rtk
  rw [rratS_eq, rratS_eq]
  rfl
theorem Nt.rat : Nt Eq rrat rrat := Nt.tk (cis_hd _) (cis_0 _) (fun _ _ _ _ _ => .ratS _) (.ratS _)
theorem Pf.rat : Pf rrat := Pf.tk (fun _ => .ratS _) (.ratS _)
def rpt : Rd (Rat × Rat) := rbind (rexpect [40]) fun _ => rbind rrat fun x => rbind (rexpect [44]) fun _ => rbind rrat fun y => rbind (rexpect [41]) fun _ => rret (x, y)
theorem rpt_eq : gpt = rpt := by
  funext ts
  unfold gpt rpt rbind
  rw [rexpect_eq]
  cases gexpect [40] ts with
  | error e => rfl
  | ok t1 =>
    simp only
    rw [rrat_eq]
    cases rrat t1 with
    | error e => rfl
    | ok q =>
      obtain ⟨x, t2⟩ := q
      simp only
      rw [rexpect_eq]
      cases gexpect [44] t2 with
      | error e => rfl
      | ok t3 =>
        simp only
        cases rrat t3 with
        | error e => rfl
        | ok q =>
          obtain ⟨y, t4⟩ := q
          simp only
          rw [rexpect_eq]
          cases gexpect [41] t4 with
          | error e => rfl
          | ok t5 => rfl
theorem Nt.pt : Nt Eq rpt rpt := (Nt.expect _).bind fun _ _ _ => Nt.rat.bind fun x x' hx => (Nt.expect _).bind fun _ _ _ => Nt.rat.bind fun y y' hy => (Nt.expect _).bind fun _ _ _ => .ret (by rw [hx, hy])
theorem Pf.pt : Pf rpt := (Pf.expect _).bind fun _ => Pf.rat.bind fun x => (Pf.expect _).bind fun _ => Pf.rat.bind fun y => (Pf.expect _).bind fun _ => .ret _
def rpts : Nat → Rd (List (Rat × Rat))
  | 0 => rfail 0
  | f + 1 => rbind rpt fun p => rif (cis [40]) (rbind (rpts f) fun ps => rret (p :: ps)) (rret [p])
theorem rpts_eq : ∀ f, gptsF f = rpts f
  | 0 => rfl
  | f + 1 => by
    funext ts
    unfold gptsF rpts rbind
    rw [rpt_eq]
    cases rpt ts with
    | error e => rfl
    | ok q =>
      obtain ⟨p, t1⟩ := q
      simp only
      unfold rif
      rw [cis_gis]
      split
      · rw [rpts_eq f]
        dsimp only
        cases rpts f t1 with
        | error e => rfl
        | ok q => rfl
      · rfl
theorem Nt.pts : ∀ f, Nt Eq (rpts f) (rpts f)
  | 0 => .fail 0
  | f + 1 => Nt.pt.bind fun p q h => Nt.rif (cis_hd _) ((Nt.pts f).bind fun ps qs hs => .ret (by rw [h, hs])) (.ret (by rw [h]))
theorem Pf.pts : ∀ f, Pf (rpts f)
  | 0 => .fail 0
  | f + 1 => Pf.pt.bind fun p => Pf.rif ((Pf.pts f).bind fun ps => .ret _) (.ret _)
def Nd.clr (n : Nd) : Nd := { n with ln := 0, cl := 0 }
abbrev clrL (A : List Nd) : List Nd := A.map Nd.clr
def SE (p q : List Nd × Ex) : Prop := clrL p.1 = clrL q.1
theorem clrL_len {A B : List Nd} (h : clrL A = clrL B) : A.length = B.length := by
  have := congrArg List.length h
  simpa using this
def gxR (f lv d i : Nat) (acc : Option (List Nd × Ex)) : Rd (List Nd × Ex) := fun ts => match gx f lv d i ts acc with
  | .error e => .error e
  | .ok (A, x, r) => .ok ((A, x), r)
def rleafs : Rd (List Nd × Ex) := rtk (cis wAll) (fun a => rret ([ndA 2 a], .leaf (ndA 2 a))) (rtk (cis wNone) (fun a => rret ([ndA 3 a], .leaf (ndA 3 a)))
  (rtk (cis wHalf) (fun a => rbind rpt fun p => rbind rpt fun q => rret ([ndH p q a], .leaf (ndH p q a))) (rtk cnm (fun a => rret ([ndN a], .leaf (ndN a))) (rfail 1))))
def leafE (ts : List Tok) : Except Er (List Nd × Ex × List Tok) := if gis ts wAll = true then .ok ([ndA 2 (hd ts)], .leaf (ndA 2 (hd ts)), ts.tail)
      else if gis ts wNone = true then .ok ([ndA 3 (hd ts)], .leaf (ndA 3 (hd ts)), ts.tail)
      else if gis ts wHalf = true then (match gpt ts.tail with
        | .error e => .error e
        | .ok (p, t1) => match gpt t1 with
          | .error e => .error e
          | .ok (q, t2) => .ok ([ndH p q (hd ts)], .leaf (ndH p q (hd ts)), t2))
      else if (hd ts).k = 1 ∧ resv (hd ts).t = false then .ok ([ndN (hd ts)], .leaf (ndN (hd ts)), ts.tail)
      else .error (ger 1 ts)
theorem rleafs_eq (ts : List Tok) : rleafs ts = match leafE ts with
  | .error e => .error e
  | .ok (A, x, r) => .ok ((A, x), r) := by
  unfold rleafs leafE rtk
  rw [cis_gis, cis_gis, cis_gis]
  by_cases c3 : cis wAll (hd ts) = true
  · rw [if_pos c3, if_pos c3]; rfl
  rw [if_neg c3, if_neg c3]
  by_cases c4 : cis wNone (hd ts) = true
  · rw [if_pos c4, if_pos c4]; rfl
  rw [if_neg c4, if_neg c4]
  by_cases c5 : cis wHalf (hd ts) = true
  · rw [if_pos c5, if_pos c5]
    unfold rbind
    rw [rpt_eq]
    try dsimp only
    cases rpt ts.tail with
    | error e => rfl
    | ok q =>
      obtain ⟨p, t1⟩ := q
      simp only
      try dsimp only
      cases rpt t1 with
      | error e => rfl
      | ok q => rfl
  rw [if_neg c5, if_neg c5]
  by_cases c6 : (hd ts).k = 1 ∧ resv (hd ts).t = false
  · rw [if_pos c6, if_pos ((cnm_iff _).2 c6)]; rfl
  · rw [if_neg c6, if_neg (fun k => c6 ((cnm_iff _).1 k))]; rfl
theorem Nt.leafs : Nt SE rleafs rleafs :=
  Nt.tk (cis_hd _) (cis_0 _) (fun _ _ _ _ _ => .ret rfl) (Nt.tk (cis_hd _) (cis_0 _) (fun _ _ _ _ _ => .ret rfl)
    (Nt.tk (cis_hd _) (cis_0 _) (fun _ _ _ _ _ => Nt.pt.bind fun p p' hp => Nt.pt.bind fun q q' hq => .ret (by subst hp; subst hq; rfl))
      (Nt.tk cnm_hd cnm_0 (fun a b _ h _ => .ret (by unfold SE; simp only [List.map_cons, List.map_nil]; unfold ndN Nd.clr; rw [h])) (.fail 1))))
theorem Pf.leafs : Pf rleafs :=
  Pf.tk (fun _ => .ret _) (Pf.tk (fun _ => .ret _) (Pf.tk (fun _ => Pf.pt.bind fun p => Pf.pt.bind fun q => .ret _) (Pf.tk (fun _ => .ret _) (.fail 1))))
theorem gxR_0 (lv d i : Nat) (acc : Option (List Nd × Ex)) : gxR 0 lv d i acc = rfail 0 := by
  funext ts
  unfold gxR gx
  rfl
theorem gx_3' (f d i : Nat) (ts : List Tok) : gx (f + 1) 3 d i ts none = if gis ts [126] = true then
        (if 200 ≤ d then .error (ger 2 ts) else match gx f 3 (d + 1) i ts.tail none with
          | .ok (A, x, ts') => .ok (A ++ [ndU ((i + A.length : Nat) - 1) (hd ts)], .un (ndU ((i + A.length : Nat) - 1) (hd ts)) x, ts')
          | .error e => .error e)
      else if gis ts [40] = true then
        (if 200 ≤ d then .error (ger 2 ts) else match gx f 1 (d + 1) i ts.tail none with
          | .ok (A, x, ts') => if gis ts' [41] = true then .ok (A, x, ts'.tail) else .error (ger 1 ts')
          | .error e => .error e)
      else leafE ts := rfl
theorem gxR_3 (f d i : Nat) : gxR (f + 1) 3 d i none = if 200 ≤ d then rif (cis [126]) (rfail 2) (rif (cis [40]) (rfail 2) rleafs) else
    rtk (cis [126]) (fun a => rbind (gxR f 3 (d + 1) i none) fun p => rret (p.1 ++ [ndU ((i + p.1.length : Nat) - 1) a], .un (ndU ((i + p.1.length : Nat) - 1) a) p.2))
      (rtk (cis [40]) (fun _ => rbind (gxR f 1 (d + 1) i none) fun p => rtk (cis [41]) (fun _ => rret p) (rfail 1)) rleafs) := by
  funext ts
  have e0 : gxR (f + 1) 3 d i none ts = match gx (f + 1) 3 d i ts none with
    | .error e => .error e
    | .ok (A, x, r) => .ok ((A, x), r) := rfl
  rw [e0, gx_3', cis_gis, cis_gis]
  by_cases hd : 200 ≤ d
  · simp only [if_pos hd]
    unfold rif
    by_cases c1 : cis [126] (Ab.hd ts) = true
    · rw [if_pos c1, if_pos c1]; rfl
    rw [if_neg c1, if_neg c1]
    by_cases c2 : cis [40] (Ab.hd ts) = true
    · rw [if_pos c2, if_pos c2]; rfl
    rw [if_neg c2, if_neg c2]
    exact (rleafs_eq ts).symm
  · simp only [if_neg hd]
    unfold rtk
    by_cases c1 : cis [126] (Ab.hd ts) = true
    · rw [if_pos c1, if_pos c1]
      unfold rbind gxR
      try dsimp only
      cases gx f 3 (d + 1) i ts.tail none with
      | error e => rfl
      | ok q => rfl
    rw [if_neg c1, if_neg c1]
    by_cases c2 : cis [40] (Ab.hd ts) = true
    · rw [if_pos c2, if_pos c2]
      unfold rbind gxR
      try dsimp only
      cases gx f 1 (d + 1) i ts.tail none with
      | error e => rfl
      | ok q =>
        obtain ⟨A, x, r⟩ := q
        simp only
        rw [cis_gis]
        by_cases c3 : cis [41] (Ab.hd r) = true
        · rw [if_pos c3, if_pos c3]; rfl
        · rw [if_neg c3, if_neg c3]; rfl
    rw [if_neg c2, if_neg c2]
    exact (rleafs_eq ts).symm
theorem gxR_lv {f lv d i : Nat} (h : lv ≠ 3) : gxR (f + 1) lv d i none = rbind (gxR f (lv + 1) d i none) fun p => gxR f lv d i (some p) := by
  funext ts
  have e0 : gxR (f + 1) lv d i none ts = match gx (f + 1) lv d i ts none with
    | .error e => .error e
    | .ok (A, x, r) => .ok ((A, x), r) := rfl
  rw [e0, gx_lv h]
  unfold rbind
  rw [show gxR f (lv + 1) d i none ts = match gx f (lv + 1) d i ts none with
    | .error e => .error e
    | .ok (A, x, r) => .ok ((A, x), r) from rfl]
  try dsimp only
  cases gx f (lv + 1) d i ts none with
  | error e => rfl
  | ok q => rfl
def cop (lv : Nat) (a : Tok) : Int :=
  if lv = 1 then (if cis [43] a = true then 1 else if cis [45] a = true then 3 else if cis [94] a = true then 4 else 0) else (if cis [42] a = true then 2 else 0)
theorem cop_hd (lv : Nat) {a b : Tok} (h1 : a.k = b.k) (h2 : a.t = b.t) : cop lv a = cop lv b := by
  unfold cop
  rw [cis_hd [43] a b h1 h2, cis_hd [45] a b h1 h2, cis_hd [94] a b h1 h2, cis_hd [42] a b h1 h2]
theorem gxR_some (f lv d i : Nat) (p : List Nd × Ex) : gxR (f + 1) lv d i (some p) = rtk (fun a => !decide (cop lv a = 0)) (fun a => rbind (gxR f (lv + 1) d (i + p.1.length) none) fun q =>
      gxR f lv d i (some (p.1 ++ q.1 ++ [ndB (cop lv a) ((i + p.1.length : Nat) - 1) ((i + p.1.length + q.1.length : Nat) - 1) a], .bi (ndB (cop lv a) ((i + p.1.length : Nat) - 1) ((i + p.1.length + q.1.length : Nat) - 1) a) p.2 q.2))) (rret p) := by
  funext ts
  obtain ⟨A, x⟩ := p
  have e0 : gxR (f + 1) lv d i (some (A, x)) ts = match gx (f + 1) lv d i ts (some (A, x)) with
    | .error e => .error e
    | .ok (A, x, r) => .ok ((A, x), r) := rfl
  rw [e0, gx_some, show gop lv ts = cop lv (hd ts) from rfl]
  unfold rtk
  by_cases h : cop lv (hd ts) = 0
  · rw [if_pos h, if_neg (by show ¬ (!decide (cop lv (hd ts) = 0)) = true; rw [decide_eq_true h]; decide)]
    rfl
  · rw [if_neg h, if_pos (by show (!decide (cop lv (hd ts) = 0)) = true; rw [decide_eq_false h]; decide)]
    unfold rbind
    dsimp only
    rw [show gxR f (lv + 1) d (i + A.length) none ts.tail = match gx f (lv + 1) d (i + A.length) ts.tail none with
      | .error e => .error e
      | .ok (A, x, r) => .ok ((A, x), r) from rfl]
    try dsimp only
    cases gx f (lv + 1) d (i + A.length) ts.tail none with
    | error e => rfl
    | ok q => rfl
theorem cop_0 (lv : Nat) (a : Tok) (h : (!decide (cop lv a = 0)) = true) : a.k ≠ 0 := by
  have h1 : gop lv [a] ≠ 0 := fun e => by
    rw [show gop lv [a] = cop lv a from rfl] at e
    rw [decide_eq_true e] at h; cases h
  exact (gop_ne h1).1
def AccR : Option (List Nd × Ex) → Option (List Nd × Ex) → Prop
  | none, none => True
  | some p, some q => SE p q
  | _, _ => False
theorem Nt.gx : ∀ (f lv d i : Nat) (acc acc' : Option (List Nd × Ex)), AccR acc acc' → Nt SE (gxR f lv d i acc) (gxR f lv d i acc') := by
  intro f
  induction f with
  | zero => intro lv d i acc acc' _; rw [gxR_0, gxR_0]; exact .fail 0
  | succ f ih =>
    intro lv d i acc acc' h
    match acc, acc', h with
    | none, none, _ =>
      by_cases l3 : lv = 3
      · subst l3
        rw [gxR_3]
        split
        · exact Nt.rif (cis_hd _) (.fail 2) (Nt.rif (cis_hd _) (.fail 2) .leafs)
        · refine Nt.tk (cis_hd _) (cis_0 _) (fun a b _ _ _ => (ih 3 (d + 1) i none none trivial).bind fun p q h => .ret ?_) (Nt.tk (cis_hd _) (cis_0 _) (fun a b _ _ _ => (ih 1 (d + 1) i none none trivial).bind fun p q h => Nt.tk (cis_hd _) (cis_0 _) (fun _ _ _ _ _ => .ret h) (.fail 1)) .leafs)
          have h' : clrL p.1 = clrL q.1 := h
          unfold SE
          simp only [clrL, List.map_append, List.map_cons, List.map_nil] at h' ⊢
          rw [h', clrL_len h]
          rfl
      · rw [gxR_lv l3]
        exact (ih (lv + 1) d i none none trivial).bind fun p q h => ih lv d i (some p) (some q) h
    | some p, some q, h =>
      rw [gxR_some, gxR_some]
      have h' : clrL p.1 = clrL q.1 := h
      refine Nt.tk (fun a b h1 h2 => by rw [cop_hd lv h1 h2]) (cop_0 lv) (fun a b h1 h2 _ => ?_) (.ret h)
      rw [clrL_len h']
      refine (ih (lv + 1) d (i + q.1.length) none none trivial).bind fun r s h3 => ih lv d i _ _ ?_
      have h3' : clrL r.1 = clrL s.1 := h3
      show clrL _ = clrL _
      simp only [clrL, List.map_append, List.map_cons, List.map_nil] at h' h3' ⊢
      rw [h', h3', clrL_len h3, cop_hd lv h1 h2]
      rfl
theorem Pf.gx : ∀ (f lv d i : Nat) (acc : Option (List Nd × Ex)), Pf (gxR f lv d i acc) := by
  intro f
  induction f with
  | zero => intro lv d i acc; rw [gxR_0]; exact .fail 0
  | succ f ih =>
    intro lv d i acc
    cases acc with
    | none =>
      by_cases l3 : lv = 3
      · subst l3
        rw [gxR_3]
        split
        · exact Pf.rif (.fail 2) (Pf.rif (.fail 2) .leafs)
        · exact Pf.tk (fun a => (ih 3 (d + 1) i none).bind fun p => .ret _) (Pf.tk (fun a => (ih 1 (d + 1) i none).bind fun p => Pf.tk (fun _ => .ret _) (.fail 1)) .leafs)
      · rw [gxR_lv l3]
        exact (ih (lv + 1) d i none).bind fun p => ih lv d i (some p)
    | some p =>
      rw [gxR_some]
      exact Pf.tk (fun a => (ih (lv + 1) d (i + p.1.length) none).bind fun r => ih lv d i _) (.ret _)
def rexp : Rd (List Nd) := rbind (gxR gF 1 0 0 none) fun p => rret p.1
theorem rexp_eq (ts : List Tok) : rexp ts = match gexp ts with
    | .error e => .error e
    | .ok (A, _, r) => .ok (A, r) := by
  unfold rexp gexp rbind gxR
  try dsimp only
  cases Ab.gx gF 1 0 0 ts none with
  | error e => rfl
  | ok q => rfl
theorem Nt.exp : Nt (fun A B => clrL A = clrL B) rexp rexp := (Nt.gx _ _ _ _ none none trivial).bind fun _ _ h => .ret h
theorem Pf.exp : Pf rexp := (Pf.gx _ _ _ _ none).bind fun _ => .ret _
def Stm.clr (s : Stm) : Stm := { s with l := 0, c := 0, e1 := clrL s.e1, e2 := clrL s.e2 }
def SS (s t : Stm) : Prop := s.clr = t.clr
def rfill : Rd Nat := rtk (cis [101, 118, 101, 110, 111, 100, 100]) (fun _ => rret 1) (rbind (rexpect [110, 111, 110, 122, 101, 114, 111]) fun _ => rret 2)
theorem rfill_eq : gfill = rfill := by
  funext ts
  unfold gfill rfill rtk
  rw [cis_gis]
  split
  · rfl
  · unfold rbind
    rw [rexpect_eq]
    try dsimp only
    cases gexpect [110, 111, 110, 122, 101, 114, 111] ts with
    | error e => rfl
    | ok t => rfl
theorem Nt.fill : Nt Eq rfill rfill := Nt.tk (cis_hd _) (cis_0 _) (fun _ _ _ _ _ => .ret rfl) ((Nt.expect _).bind fun _ _ _ => .ret rfl)
theorem Pf.fill : Pf rfill := Pf.tk (fun _ => .ret _) ((Pf.expect _).bind fun _ => .ret _)
def rbudget : Rd Nat := rnumC (fun n => decide (65536 < dcv n)) 2 dcv
theorem rbudget_eq : gbudget = rbudget := by
  funext ts
  unfold gbudget rbudget
  rw [rnumC_eq]
  try dsimp only
  cases gnum ts with
  | error e => rfl
  | ok q =>
    simp only [decide_eq_true_eq]
def rnames : Nat → Rd (List (List UInt8))
  | 0 => rret []
  | f + 1 => rtk cnm (fun a => rbind (rnames f) fun l => rret (a.t :: l)) (rret [])
theorem rnames_eq : ∀ (f : Nat) (ts : List Tok), rnames f ts = .ok ((gnamesF f ts).1, (gnamesF f ts).2)
  | 0, ts => rfl
  | f + 1, ts => by
    unfold rnames gnamesF rtk
    by_cases h : (hd ts).k = 1 ∧ resv (hd ts).t = false
    · rw [if_pos h, if_pos ((cnm_iff _).2 h)]
      unfold rbind
      dsimp only
      rw [rnames_eq f]
      rfl
    · rw [if_neg h, if_neg (fun k => h ((cnm_iff _).1 k))]; rfl
theorem Nt.names : ∀ f, Nt Eq (rnames f) (rnames f)
  | 0 => .ret rfl
  | f + 1 => Nt.tk cnm_hd cnm_0 (fun _ _ _ h _ => (Nt.names f).bind fun _ _ hl => .ret (by rw [h, hl])) (.ret rfl)
theorem Pf.names : ∀ f, Pf (rnames f)
  | 0 => .ret _
  | f + 1 => Pf.tk (fun _ => (Pf.names f).bind fun _ => .ret _) (.ret _)
def rol : Nat → Otl → Rd Otl
  | 0, _ => rfail 0
  | f + 1, o => rtk (cis [125]) (fun _ => rret o) (rtk (cis [114, 105, 110, 103]) (fun _ => rbind (rpts gF) fun ps => rbind (rexpect [59]) fun _ => rol f { o with rs := o.rs ++ [ps] })
      (rtk (cis [99, 104, 97, 105, 110]) (fun _ => rbind rpt fun a => rbind (rpts gF) fun ps => if ps.length < 2 then rfail 1 else rbind (rexpect [59]) fun _ => rol f { o with cs := o.cs ++ [⟨a, ps.getLast?.getD (0, 0), ps.dropLast⟩] })
        (rfail 1)))
theorem rol_eq : ∀ (f : Nat) (o : Otl) (ts : List Tok), golF f ts o = rol f o ts
  | 0, _, _ => rfl
  | f + 1, o, ts => by
    unfold golF rol rtk
    rw [cis_gis, cis_gis, cis_gis]
    by_cases c1 : cis [125] (hd ts) = true
    · rw [if_pos c1, if_pos c1]; rfl
    rw [if_neg c1, if_neg c1]
    by_cases c2 : cis [114, 105, 110, 103] (hd ts) = true
    · rw [if_pos c2, if_pos c2]
      unfold rbind gpts
      rw [rpts_eq]
      try dsimp only
      cases rpts gF ts.tail with
      | error e => rfl
      | ok q =>
        obtain ⟨ps, t1⟩ := q
        simp only
        rw [rexpect_eq]
        try dsimp only
        cases gexpect [59] t1 with
        | error e => rfl
        | ok t2 => exact rol_eq f _ t2
    rw [if_neg c2, if_neg c2]
    by_cases c3 : cis [99, 104, 97, 105, 110] (hd ts) = true
    · rw [if_pos c3, if_pos c3]
      unfold rbind gpts
      rw [rpt_eq]
      try dsimp only
      cases rpt ts.tail with
      | error e => rfl
      | ok q =>
        obtain ⟨a, t1⟩ := q
        simp only
        rw [rpts_eq]
        try dsimp only
        cases rpts gF t1 with
        | error e => rfl
        | ok q =>
          obtain ⟨ps, t2⟩ := q
          simp only
          by_cases hl : ps.length < 2
          · rw [if_pos hl, if_pos hl]; rfl
          · rw [if_neg hl, if_neg hl]
            rw [rexpect_eq]
            try dsimp only
            cases gexpect [59] t2 with
            | error e => rfl
            | ok t3 => exact rol_eq f _ t3
    rw [if_neg c3, if_neg c3]
    rfl
theorem Nt.ol : ∀ (f : Nat) (o : Otl), Nt Eq (rol f o) (rol f o)
  | 0, _ => .fail 0
  | f + 1, o => Nt.tk (cis_hd _) (cis_0 _) (fun _ _ _ _ _ => .ret rfl) (Nt.tk (cis_hd _) (cis_0 _) (fun _ _ _ _ _ => (Nt.pts gF).bind fun ps qs h => by
      subst h
      exact (Nt.expect _).bind fun _ _ _ => Nt.ol f _)
    (Nt.tk (cis_hd _) (cis_0 _) (fun _ _ _ _ _ => Nt.pt.bind fun a b h => by
      subst h
      refine (Nt.pts gF).bind fun ps qs h => ?_
      subst h
      split
      · exact .fail 1
      · exact (Nt.expect _).bind fun _ _ _ => Nt.ol f _) (.fail 1)))
theorem Pf.ol : ∀ (f : Nat) (o : Otl), Pf (rol f o)
  | 0, _ => .fail 0
  | f + 1, o => Pf.tk (fun _ => .ret _) (Pf.tk (fun _ => (Pf.pts gF).bind fun ps => (Pf.expect _).bind fun _ => Pf.ol f _)
    (Pf.tk (fun _ => Pf.pt.bind fun a => (Pf.pts gF).bind fun ps => by
      split
      · exact .fail 1
      · exact (Pf.expect _).bind fun _ => Pf.ol f _) (.fail 1)))
def routl : Rd Otl := rbind (rexpect [123]) fun _ => rtk (cis [102, 97, 114]) (fun _ => rol gF ⟨true, [], []⟩) (rol gF ⟨false, [], []⟩)
theorem routl_eq : goutl = routl := by
  funext ts
  unfold goutl routl rbind
  rw [rexpect_eq]
  try dsimp only
  cases gexpect [123] ts with
  | error e => rfl
  | ok t1 =>
    simp only
    unfold rtk
    rw [cis_gis]
    split <;> exact rol_eq _ _ _
theorem Nt.outl : Nt Eq routl routl := (Nt.expect _).bind fun _ _ _ => Nt.tk (cis_hd _) (cis_0 _) (fun _ _ _ _ _ => .ol _ _) (.ol _ _)
theorem Pf.outl : Pf routl := (Pf.expect _).bind fun _ => Pf.tk (fun _ => .ol _ _) (.ol _ _)
def rquery (s : Stm) : Rd Stm := rbind rexp fun A => if s.k = 8 then (rbind rpt fun p => rret { s with e1 := A, px := RQ.of p.1, py := RQ.of p.2 })
    else if s.k = 10 ∨ s.k = 11 then (rbind (rexpect [44]) fun _ => rbind rexp fun B => rret { s with e1 := A, e2 := B })
    else rret { s with e1 := A }
theorem rquery_eq (s : Stm) : gquery s = rquery s := by
  funext ts
  unfold gquery rquery rbind
  rw [rexp_eq]
  try dsimp only
  cases gexp ts with
  | error e => rfl
  | ok q =>
    obtain ⟨A, x, t1⟩ := q
    simp only
    by_cases c1 : s.k = 8
    · rw [if_pos c1, if_pos c1, rpt_eq]
      try dsimp only
      cases rpt t1 with
      | error e => rfl
      | ok q => rfl
    rw [if_neg c1, if_neg c1]
    by_cases c2 : s.k = 10 ∨ s.k = 11
    · rw [if_pos c2, if_pos c2, rexpect_eq]
      try dsimp only
      cases gexpect [44] t1 with
      | error e => rfl
      | ok t2 =>
        simp only
        rw [rexp_eq]
        try dsimp only
        cases gexp t2 with
        | error e => rfl
        | ok q => rfl
    rw [if_neg c2, if_neg c2]
    rfl
theorem SS.k {s t : Stm} (h : SS s t) : s.k = t.k := by
  have h' : s.clr = t.clr := h
  have h2 := congrArg Stm.k h'
  exact h2
theorem Nt.query {s t : Stm} (h : SS s t) : Nt SS (rquery s) (rquery t) := by
  have hk := h.k
  unfold rquery
  rw [hk]
  refine Nt.exp.bind fun A B hA => ?_
  by_cases c1 : t.k = 8
  · rw [if_pos c1, if_pos c1]
    exact Nt.pt.bind fun p q hp => .ret (by
      subst hp
      cases s; cases t
      simp only [SS, Stm.clr, Stm.mk.injEq] at h ⊢
      simp only [h, hA, and_self])
  rw [if_neg c1, if_neg c1]
  by_cases c2 : t.k = 10 ∨ t.k = 11
  · rw [if_pos c2, if_pos c2]
    exact (Nt.expect _).bind fun _ _ _ => Nt.exp.bind fun A' B' hB => .ret (by
      cases s; cases t
      simp only [SS, Stm.clr, Stm.mk.injEq] at h ⊢
      simp only [h, hA, hB, and_self])
  rw [if_neg c2, if_neg c2]
  exact .ret (by
    cases s; cases t
    simp only [SS, Stm.clr, Stm.mk.injEq] at h ⊢
    simp only [h, hA, and_self])
theorem Pf.query (s : Stm) : Pf (rquery s) := by
  unfold rquery
  refine Pf.exp.bind fun A => ?_
  split
  · exact Pf.pt.bind fun _ => .ret _
  · split
    · exact (Pf.expect _).bind fun _ => Pf.exp.bind fun _ => .ret _
    · exact .ret _
def rdefn (s : Stm) : Rd Stm := rbind rname fun nm => rbind (rexpect [61]) fun _ =>
  if s.k = 2 then (rbind (rpts gF) fun ps => rret { s with nm := nm, ps := ps })
  else if s.k = 3 then (rbind rfill fun fl => rbind rname fun n1 => rbind (rnames gF) fun l => rret { s with nm := nm, fl := fl, nms := n1 :: l })
  else if s.k = 4 then (rbind routl fun o => rret { s with nm := nm, ol := o })
  else (rbind rexp fun A => rret { s with nm := nm, e1 := A })
theorem rdefn_eq (s : Stm) : gdefn s = rdefn s := by
  funext ts
  unfold gdefn rdefn rbind
  rw [rname_eq]
  try dsimp only
  cases rname ts with
  | error e => rfl
  | ok q =>
    obtain ⟨nm, t1⟩ := q
    simp only
    rw [rexpect_eq]
    try dsimp only
    cases gexpect [61] t1 with
    | error e => rfl
    | ok t2 =>
      simp only
      by_cases c1 : s.k = 2
      · rw [if_pos c1, if_pos c1]
        unfold gpts
        rw [rpts_eq]
        try dsimp only
        cases rpts gF t2 with
        | error e => rfl
        | ok q => rfl
      rw [if_neg c1, if_neg c1]
      by_cases c2 : s.k = 3
      · rw [if_pos c2, if_pos c2, rfill_eq]
        try dsimp only
        cases rfill t2 with
        | error e => rfl
        | ok q =>
          obtain ⟨fl, t3⟩ := q
          simp only
          try dsimp only
          cases rname t3 with
          | error e => rfl
          | ok q =>
            obtain ⟨n1, t4⟩ := q
            simp only
            rw [rnames_eq]
            rfl
      rw [if_neg c2, if_neg c2]
      by_cases c3 : s.k = 4
      · rw [if_pos c3, if_pos c3, routl_eq]
        try dsimp only
        cases routl t2 with
        | error e => rfl
        | ok q => rfl
      rw [if_neg c3, if_neg c3, rexp_eq]
      try dsimp only
      cases gexp t2 with
      | error e => rfl
      | ok q => rfl
theorem Nt.defn {s t : Stm} (h : SS s t) : Nt SS (rdefn s) (rdefn t) := by
  have hk := h.k
  unfold rdefn
  rw [hk]
  refine Nt.name.bind fun nm nm' hn => (Nt.expect _).bind fun _ _ _ => ?_
  subst hn
  by_cases c1 : t.k = 2
  · rw [if_pos c1, if_pos c1]
    exact (Nt.pts _).bind fun p q hp => .ret (by
      subst hp
      cases s; cases t
      simp only [SS, Stm.clr, Stm.mk.injEq] at h ⊢
      simp only [h, and_self])
  rw [if_neg c1, if_neg c1]
  by_cases c2 : t.k = 3
  · rw [if_pos c2, if_pos c2]
    exact Nt.fill.bind fun p q hp => Nt.name.bind fun n n' hn => (Nt.names _).bind fun l l' hl => .ret (by
      subst hp; subst hn; subst hl
      cases s; cases t
      simp only [SS, Stm.clr, Stm.mk.injEq] at h ⊢
      simp only [h, and_self])
  rw [if_neg c2, if_neg c2]
  by_cases c3 : t.k = 4
  · rw [if_pos c3, if_pos c3]
    exact Nt.outl.bind fun p q hp => .ret (by
      subst hp
      cases s; cases t
      simp only [SS, Stm.clr, Stm.mk.injEq] at h ⊢
      simp only [h, and_self])
  rw [if_neg c3, if_neg c3]
  exact Nt.exp.bind fun A B hA => .ret (by
    cases s; cases t
    simp only [SS, Stm.clr, Stm.mk.injEq] at h ⊢
    simp only [h, hA, and_self])
theorem Pf.defn (s : Stm) : Pf (rdefn s) := by
  unfold rdefn
  refine Pf.name.bind fun nm => (Pf.expect _).bind fun _ => ?_
  split
  · exact (Pf.pts _).bind fun _ => .ret _
  · split
    · exact Pf.fill.bind fun _ => Pf.name.bind fun _ => (Pf.names _).bind fun _ => .ret _
    · split
      · exact Pf.outl.bind fun _ => .ret _
      · exact Pf.exp.bind fun _ => .ret _
structure Pq {α : Type} (p : Rd α) : Prop where
  len : ∀ ts x r, p ts = .ok (x, r) → r.length < ts.length
  pre : ∀ u v x r, p (u ++ v) = .ok (x, r) → v.length ≤ r.length → ∃ r1, r = r1 ++ v ∧ ∀ v', p (u ++ v') = .ok (x, r1 ++ v')
theorem Pq.bind {α β : Type} {p : Rd α} {f : α → Rd β} (hp : Pf p) (hf : ∀ x, Pq (f x)) : Pq (rbind p f) where
  len ts y r h := by
    unfold rbind at h
    cases hq : p ts with
    | error e => rw [hq] at h; cases h
    | ok w =>
      obtain ⟨x, r'⟩ := w
      rw [hq] at h
      exact Nat.lt_of_lt_of_le ((hf x).len _ _ _ h) (hp.len _ _ _ hq)
  pre u v y r h hl := by
    unfold rbind at h
    cases hq : p (u ++ v) with
    | error e => rw [hq] at h; cases h
    | ok w =>
      obtain ⟨x, r'⟩ := w
      rw [hq] at h
      have h1 := (hf x).len _ _ _ h
      obtain ⟨r1, rfl, k1⟩ := hp.pre u v x r' hq (Nat.lt_of_le_of_lt hl h1)
      obtain ⟨r2, rfl, k2⟩ := (hf x).pre r1 v y r h hl
      exact ⟨r2, rfl, fun v' => by unfold rbind; rw [k1 v']; exact k2 v'⟩
theorem Pq.fail {α : Type} (k : Nat) : Pq (rfail k : Rd α) where
  len _ _ _ h := by cases h
  pre _ _ _ _ h := by cases h
theorem Pq.tk {α : Type} {c : Tok → Bool} {p : Tok → Rd α} {q : Rd α} (hp : ∀ a, Pq (p a)) (hq : Pq q) : Pq (rtk c p q) where
  len ts x r h := by
    unfold rtk at h
    split at h
    · have := (hp _).len _ _ _ h
      rw [List.length_tail] at this
      omega
    · exact hq.len _ _ _ h
  pre u v x r h hl := by
    unfold rtk at h
    cases u with
    | nil =>
      exfalso
      have : r.length < ([] ++ v).length := by
        split at h
        · have := (hp _).len _ _ _ h
          rw [List.length_tail] at this
          omega
        · exact hq.len _ _ _ h
      simp at this
      omega
    | cons a u =>
      by_cases hc : c a = true
      · rw [if_pos (show c (hd (a :: u ++ v)) = true from hc)] at h
        obtain ⟨r1, h1, h2⟩ := (hp a).pre u v x r h hl
        refine ⟨r1, h1, fun v' => ?_⟩
        unfold rtk
        rw [if_pos (show c (hd (a :: u ++ v')) = true from hc)]
        exact h2 v'
      · rw [if_neg (show ¬ c (hd (a :: u ++ v)) = true from hc)] at h
        obtain ⟨r1, h1, h2⟩ := hq.pre _ _ _ _ h hl
        refine ⟨r1, h1, fun v' => ?_⟩
        unfold rtk
        rw [if_neg (show ¬ c (hd (a :: u ++ v')) = true from hc)]
        exact h2 v'
theorem Pq.one {α : Type} {c : Tok → Bool} {g : Tok → α} {k : Nat} (h0 : ∀ a, c a = true → a.k ≠ 0) : Pq (rtk c (fun a => rret (g a)) (rfail k)) where
  len ts x r h := by
    unfold rtk at h
    split at h
    · next hc =>
      cases ts with
      | nil => exact absurd rfl (h0 _ hc)
      | cons a s =>
        cases h
        simp
    · cases h
  pre u v x r h hl := by
    unfold rtk at h
    split at h
    · next hc =>
      cases u with
      | nil =>
        exfalso
        simp only [List.nil_append] at h hc
        cases v with
        | nil => exact absurd rfl (h0 _ hc)
        | cons a s =>
          cases h
          simp at hl
          omega
      | cons a u =>
        cases h
        refine ⟨u, rfl, fun v' => ?_⟩
        unfold rtk
        rw [if_pos (show c (hd (a :: u ++ v')) = true from hc)]
        rfl
    · cases h
def rsemi (s : Stm) : Rd Stm := rtk (cis [59]) (fun _ => rret s) (rfail 1)
theorem rsemi_eq (s : Stm) (ts : List Tok) : rsemi s ts = match gexpect [59] ts with
    | .error e => .error e
    | .ok t => .ok (s, t) := by
  unfold rsemi gexpect rtk
  rw [cis_gis]
  by_cases h : cis [59] (hd ts) = true
  · rw [if_pos h, if_pos h]; rfl
  · rw [if_neg h, if_neg h]; rfl
theorem Pq.semi (s : Stm) : Pq (rsemi s) := Pq.one (cis_0 _)
theorem Nt.semi {s t : Stm} (h : SS s t) : Nt SS (rsemi s) (rsemi t) := Nt.tk (cis_hd _) (cis_0 _) (fun _ _ _ _ _ => .ret h) (.fail 1)
theorem LR.refl {R : PosR} (h : ∀ l c, R l c l c) : ∀ ts, LR R ts ts
  | [] => .nil
  | a :: r => .cons ⟨rfl, rfl, h _ _⟩ (LR.refl h r)
def cword (a : Tok) : Bool := decide (a.k = 1) && !decide (gkind a.t = 0)
theorem cword_hd : HdC cword := fun a b h1 h2 => by unfold cword; rw [h1, h2]
theorem cword_0 (a : Tok) (h : cword a = true) : a.k ≠ 0 := by
  unfold cword at h
  rw [Bool.and_eq_true] at h
  have := of_decide_eq_true h.1
  omega
theorem cword_iff (a : Tok) : cword a = true ↔ ¬(gkind a.t = 0 ∨ a.k ≠ 1) := by
  unfold cword
  rw [Bool.and_eq_true, decide_eq_true_iff, Bool.not_eq_true', decide_eq_false_iff_not]
  constructor
  · rintro ⟨h1, h2⟩ (h | h)
    · exact h2 h
    · exact h h1
  · intro h
    refine ⟨Classical.byContradiction fun h1 => h (.inr h1), fun h2 => h (.inl h2)⟩
def rbody (a : Tok) : Rd Stm := if gkQ a.t ≠ 0 then rquery (stm0 (gkind a.t) a) else if gkind a.t = 1 then (rbind rbudget fun b => rret { stm0 1 a with bd := b }) else rdefn (stm0 (gkind a.t) a)
def rstm (n : Nat) : Rd Stm := if 1000 ≤ n then rif cword (rfail 2) (rfail 1) else rtk cword (fun a => rbind (rbody a) rsemi) (rfail 1)
theorem rstm_eq (n : Nat) : gstm n = rstm n := by
  funext ts
  unfold gstm rstm
  by_cases h : gkind (hd ts).t = 0 ∨ (hd ts).k ≠ 1
  · have hc : ¬ cword (hd ts) = true := fun k => (cword_iff _).1 k h
    rw [if_pos h]
    split
    · unfold rif; rw [if_neg hc]; rfl
    · unfold rtk; rw [if_neg hc]; rfl
  · have hc : cword (hd ts) = true := (cword_iff _).2 h
    rw [if_neg h]
    by_cases hn : 1000 ≤ n
    · rw [if_pos hn, if_pos hn]
      unfold rif; rw [if_pos hc]; rfl
    · rw [if_neg hn, if_neg hn]
      unfold rtk
      rw [if_pos hc]
      unfold rbind
      dsimp only
      by_cases c1 : gkQ (hd ts).t ≠ 0
      · have hb : rbody (hd ts) = rquery (stm0 (gkind (hd ts).t) (hd ts)) := by unfold rbody; rw [if_pos c1]
        rw [if_pos c1, hb, ← rquery_eq]
        cases gquery (stm0 (gkind (hd ts).t) (hd ts)) ts.tail with
        | error e => rfl
        | ok q =>
          obtain ⟨s, t1⟩ := q
          dsimp only
          rw [rsemi_eq]
          cases gexpect [59] t1 <;> rfl
      rw [if_neg c1]
      by_cases c2 : gkind (hd ts).t = 1
      · have hb : rbody (hd ts) = rbind rbudget fun b => rret { stm0 1 (hd ts) with bd := b } := by unfold rbody; rw [if_neg c1, if_pos c2]
        rw [if_pos c2, hb, rbudget_eq]
        unfold rbind
        cases rbudget ts.tail with
        | error e => rfl
        | ok q =>
          obtain ⟨b, t1⟩ := q
          dsimp only [rret]
          rw [rsemi_eq]
          cases gexpect [59] t1 <;> rfl
      · have hb : rbody (hd ts) = rdefn (stm0 (gkind (hd ts).t) (hd ts)) := by unfold rbody; rw [if_neg c1, if_neg c2]
        rw [if_neg c2, hb, ← rdefn_eq]
        cases gdefn (stm0 (gkind (hd ts).t) (hd ts)) ts.tail with
        | error e => rfl
        | ok q =>
          obtain ⟨s, t1⟩ := q
          dsimp only
          rw [rsemi_eq]
          cases gexpect [59] t1 <;> rfl
theorem Nt.body {a b : Tok} (h : a.t = b.t) : Nt SS (rbody a) (rbody b) := by
  have hs : ∀ k, SS (stm0 k a) (stm0 k b) := fun k => rfl
  unfold rbody
  rw [h]
  split
  · exact .query (hs _)
  · split
    · exact (Nt.numC _ _ _).bind fun x y hx => .ret (by subst hx; rfl)
    · exact .defn (hs _)
theorem Pf.body (a : Tok) : Pf (rbody a) := by
  unfold rbody
  split
  · exact .query _
  · split
    · exact (Pf.numC _ _ _).bind fun _ => .ret _
    · exact .defn _
theorem Nt.stm (n : Nat) : Nt SS (rstm n) (rstm n) := by
  unfold rstm
  split
  · exact Nt.rif cword_hd (.fail 2) (.fail 1)
  · exact Nt.tk cword_hd cword_0 (fun a b _ h _ => (Nt.body h).bind fun s t hs => .semi hs) (.fail 1)
theorem Pq.stm (n : Nat) : Pq (rstm n) := by
  unfold rstm
  split
  · refine ⟨fun ts x r h => ?_, fun u v x r h => ?_⟩ <;>
    · unfold rif at h
      split at h <;> cases h
  · exact Pq.tk (fun a => .bind (.body a) fun s => .semi s) (.fail 1)
theorem stm_len {n : Nat} {ts r : List Tok} {s : Stm} (h : rstm n ts = .ok (s, r)) : r.length + 2 ≤ ts.length ∧ n < 1000 ∧ (hd ts).k = 1 := by
  unfold rstm at h
  by_cases hn : 1000 ≤ n
  · rw [if_pos hn] at h
    unfold rif at h
    split at h <;> cases h
  · rw [if_neg hn] at h
    unfold rtk at h
    by_cases hc : cword (hd ts) = true
    · rw [if_pos hc] at h
      have h1 := (Pq.bind (Pf.body (hd ts)) fun s => Pq.semi s).len _ _ _ h
      rw [List.length_tail] at h1
      refine ⟨by omega, by omega, ?_⟩
      have := (cword_iff _).1 hc
      exact Classical.byContradiction fun h1 => this (.inr h1)
    · rw [if_neg hc] at h; cases h
inductive SRel (R : PosR) : Except Er (List Stm) → Except Er (List Stm) → Prop
  | ok {x y : List Stm} (h : x.map Stm.clr = y.map Stm.clr) : SRel R (.ok x) (.ok y)
  | er {e e' : Er} (h : ErR R e e') : SRel R (.error e) (.error e')
theorem stms_succ (f n : Nat) (ts : List Tok) : gstmsF (f + 1) n ts = if (hd ts).k = 0 then .ok [] else match rstm n ts with
    | .error e => .error e
    | .ok (s, t1) => match gstmsF f (n + 1) t1 with
      | .error e => .error e
      | .ok ss => .ok (s :: ss) := by
  rw [← rstm_eq]
  rfl
theorem stms_nat {R : PosR} : ∀ (f n : Nat) (ts us : List Tok), GOk ts → LR R ts us → SRel R (gstmsF f n ts) (gstmsF f n us) := by
  intro f
  induction f with
  | zero =>
    intro n ts us hG hL
    cases hL with
    | nil => exact hG.elim
    | cons h _ => exact .er ⟨rfl, h.t, h.p⟩
  | succ f ih =>
    intro n ts us hG hL
    rw [stms_succ, stms_succ]
    have hk : (hd ts).k = (hd us).k := by
      cases hL with
      | nil => rfl
      | cons h _ => exact h.k
    rw [← hk]
    split
    · exact .ok rfl
    · have h := Nt.stm n R ts us hG hL
      generalize rstm n ts = a at h ⊢
      generalize rstm n us = b at h ⊢
      cases h with
      | er h => exact .er h
      | @ok x y r s h k g =>
        have h2 := ih (n + 1) r s g k
        simp only
        generalize gstmsF f (n + 1) r = a at h2 ⊢
        generalize gstmsF f (n + 1) s = b at h2 ⊢
        cases h2 with
        | er h => exact .er h
        | ok h' => exact .ok (by rw [List.map_cons, List.map_cons, h', h])
section
variable {P : Program} {C : Ctx} {n : Nat} {F : Fr} {H : LH} {Q : Exit → Fr → LH → Prop}
theorem WP.lowB {c : Code} {b : Nat} {T : TypeId} {cs cs' : List SV} {H' : LH} (hu : HUpd b T cs cs' H H') (hle : LeL cs cs') (k : WP P C n c Q F H') : WP P C n c Q F H := by
  unfold WP at *
  exact fun a w hs => k a w (hs.lowB hu hle)
end
abbrev snT : TypeId := 9
abbrev stn (s : Stm) : List SV := [lit (.int .i64 (s.k : Nat)), lit (.int .i64 (s.l : Nat)), lit (.int .i64 (s.c : Nat)), str s.nm, lit (.int .i64 (s.bd : Nat)), ptsS s.ps, lit (.int .i64 (s.fl : Nat)), lit (.slice none 0 0),
  lit (.bool s.ol.far), rgsS s.ol.rs, chsS s.ol.cs, exS s.e1, exS s.e2, lit (.bool s.px.s), dg s.px.n, dg s.px.d, lit (.bool s.py.s), dg s.py.n, dg s.py.d]
structure NmSt where
  f : Nat
  ts : List Tok
  A : List (List UInt8)
  s : SV
  Hs : LH
structure NmOk (n1 : List UInt8) (t4 : List Tok) (y : NmSt) : Prop where
  gok : GOk y.ts
  len : y.ts.length ≤ y.f
  cnt : y.A.length + y.ts.length ≤ 1000000
  own : Own snT 1 y.A.length (y.A.map nmx).flatten y.s y.Hs
  eq1 : n1 :: (gnamesF gF t4).1 = y.A ++ (gnamesF y.f y.ts).1
  eq2 : (gnamesF gF t4).2 = (gnamesF y.f y.ts).2
theorem gnamesF_t {f : Nat} {ts : List Tok} (h : (hd ts).k = 1 ∧ resv (hd ts).t = false) : gnamesF (f + 1) ts = ((hd ts).t :: (gnamesF f ts.tail).1, (gnamesF f ts.tail).2) := by
  show (if (hd ts).k = 1 ∧ resv (hd ts).t = false then ((hd ts).t :: (gnamesF f ts.tail).1, (gnamesF f ts.tail).2) else ([], ts)) = _
  rw [if_pos h]
theorem gnamesF_f {f : Nat} {ts : List Tok} (h : ¬((hd ts).k = 1 ∧ resv (hd ts).t = false)) : gnamesF f ts = ([], ts) := by
  cases f with
  | zero => rfl
  | succ f => unfold gnamesF; rw [if_neg h]
section
variable {α : Type} {b p : α} {x : List α}
theorem permH : ((x ++ [p]) ++ [b]).Perm (p :: b :: x) := by
  rw [List.append_assoc]
  exact List.perm_append_comm (l₁ := x) (l₂ := [p, b])
theorem permI : (p :: b :: x).Perm ((p :: x) ++ [b]) := List.Perm.cons p (List.perm_append_comm (l₁ := [b]) (l₂ := x))
theorem permJ : (p :: b :: x).Perm (b :: (x ++ [p])) := (List.Perm.swap b p x).trans (List.Perm.cons b (List.perm_append_comm (l₁ := [p]) (l₂ := x)))
end
set_option maxHeartbeats 8000000 in
theorem gdefn_pu [Sent 4] [Sent 3] [Sent 5] (p b : Nat) (ts : List Tok) (hG : GOk ts) (hl : ts.length ≤ 100000) (s0 : SV) (hs : CO s0 [s0]) (s : Stm) (hk : s.k ≤ 100) (hnm : s.nms = []) :
    PuH Tryz.prog 99 [ptrP p, ptrP b] [(p, psT, psC ts 0 s0), (b, stT, stn s)] (QR p b (gdefn s ts)) (fun pv _ => ∃ e, gdefn s ts = .error e ∧ pv = erSV e) := by
  obtain ⟨a, r, rfl, -⟩ := hG.cons
  simp only [List.length_cons] at hl
  have c1 := gname_pu s0 hs p a r 0 (by omega)
  unfold QR gdefn
  refine PuH.intro Tryz.func99 rfl (by kernel_rfl) fun C hC => ?_
  repeat (refine A1 ⟨?_⟩; intros)
  refine WfX c1 ?_ ?_ (hs := Tk.cons (HDel.here _) (Tk.nil _))
  case refine_2 =>
    rintro _ _ ⟨h1, hx⟩
    rw [hC]
    exact ⟨_, by unfold gname; rw [if_neg (show ¬((hd (a :: r)).k = 1 ∧ resv (hd (a :: r)).t = false) from h1)], hx⟩
  rintro _ _ ⟨h1, rfl, rfl⟩
  have hn1 : gname (a :: r) = .ok (a.t, r) := by unfold gname; rw [if_pos (show (hd (a :: r)).k = 1 ∧ resv (hd (a :: r)).t = false from h1)]; rfl
  rw [hn1]
  have g1 : GOk r := hG.tail (by omega)
  clear h1 hG c1
  obtain ⟨a1, r1, rfl, -⟩ := g1.cons
  simp only [List.length_cons] at hl
  have c2 := gexpect_pu s0 hs p a1 r1 0 (by omega) [61]
  simp only [List.cons_append, List.nil_append]
  repeat (refine A1 ⟨?_⟩; intros)
  refine WfX c2 ?_ ?_ (hs := Tk.skip _ (Tk.cons (HDel.here _) (Tk.nil _)))
  case refine_2 =>
    rintro _ _ ⟨e2, hx⟩
    rw [hC]
    exact ⟨_, by rw [hn1]; simp only [e2], hx⟩
  rintro _ _ ⟨e2, h2, rfl, rfl⟩
  rw [e2]
  have g2 := g1.next h2
  clear h2 c2
  simp only [List.cons_append, List.nil_append]
  have hlow : LeL (stn { s with nm := a.t }) (stx { s with nm := a.t }) := by
    unfold stn stx
    rw [hnm]
    repeat (first | exact trivial | refine ⟨?_, ?_⟩ | exact Le.refl _ | exact le_nilK)
  by_cases k2 : s.k = 2
  · have c3 := gpoints_pu s0 hs p r1 g2 0 (by omega)
    rw [if_pos k2]
    refine WPL.lowB (.here _) hlow ?_
    dsimp only [stx]
    repeat (refine A1 ⟨?_⟩; intros)
    refine WfX c3 ?_ ?_ (hs := Tk.skip _ (Tk.cons (HDel.here _) (Tk.nil _)))
    · rintro _ _ ⟨q, t2, e3, rfl, rfl⟩
      rw [e3]
      have g3 := gpts_ok g2 e3
      simp only [List.cons_append, List.nil_append]
      repeat (refine A1 ⟨?_⟩; intros)
      exact endHN _ _ end0 (List.Sublist.refl _) ⟨_, _, _, rfl, g3.1, hs, rfl, rfl⟩
    · rintro _ _ ⟨e, e3, hx⟩
      rw [hC]
      exact ⟨e, by rw [hn1]; simp only [e2, if_pos k2, e3], hx⟩
  rw [if_neg k2]
  by_cases k3 : s.k = 3
  · rw [if_pos k3]
    obtain ⟨a2, r2, rfl, -⟩ := g2.cons
    simp only [List.length_cons] at hl
    have c3 := gfill_pu s0 hs p a2 r2 0 (by omega)
    repeat (refine A1 ⟨?_⟩; intros)
    refine WfX c3 ?_ ?_ (hs := Tk.skip _ (Tk.cons (HDel.here _) (Tk.nil _)))
    case refine_2 =>
      rintro _ _ ⟨e, e3, hx⟩
      rw [hC]
      exact ⟨e, by rw [hn1]; simp only [e2, if_neg k2, if_pos k3, e3], hx⟩
    rintro _ _ ⟨fl, e3, h3, rfl, rfl⟩
    rw [e3]
    have g3 := g2.tail h3
    clear c3 h3
    obtain ⟨a3, r3, rfl, -⟩ := g3.cons
    simp only [List.length_cons] at hl
    simp only [List.cons_append, List.nil_append]
    have c4 := gname_pu s0 hs p a3 r3 0 (by omega)
    repeat (first | (refine AS ⟨?_⟩; intros) | (refine O1 ⟨?_⟩; intros))
    refine WP.perm (List.Perm.swap _ _ _) ?_
    refine WdZ 9 [0, 1, 2, 3, 4, 5, 6, 7, 8] [6, 8] [(p, psT, psC (a3 :: r3) 0 s0)] _ ?_
    refine ZkD 6 ?_
    repeat (refine A1 ⟨?_⟩; intros)
    refine mkZ0 ?_
    refine ZkC c4 (Tk.cons (HDel.here _) (Tk.nil _)) ?_ ?_
    case refine_2 =>
      rintro _ _ ⟨h4, hx⟩
      rw [hC]
      exact ⟨_, by rw [hn1]; simp only [e2, if_neg k2, if_pos k3, e3]; unfold gname; rw [if_neg (show ¬((hd (a3 :: r3)).k = 1 ∧ resv (hd (a3 :: r3)).t = false) from h4)], hx⟩
    rintro _ _ ⟨h4, rfl, rfl⟩
    have hn4 : gname (a3 :: r3) = .ok (a3.t, r3) := by unfold gname; rw [if_pos (show (hd (a3 :: r3)).k = 1 ∧ resv (hd (a3 :: r3)).t = false from h4)]; rfl
    have g4 : GOk r3 := g3.tail (by omega)
    rw [hn4]
    simp only
    clear h4 c4
    refine ZkD 1 ?_
    refine Wdo (ov_bs1 (s := str a3.t) (by repeat (first | exact Parts.nil | (apply Parts.cons; exact Eq.refl (lit _); infer_instance)))) ?_
    repeat (refine A1 ⟨?_⟩; intros)
    refine mkZ0 ?_
    refine ZkA (ds := nmx a3.t) (Own.nil snT 1) (Tk.nil _) (by decide) (fun s' H' hown => ?_)
    have hco' := hown.co
    refine ZkN ?_
    refine WPL.perm permH ?_
    repeat (refine A1 ⟨?_⟩; intros)
    refine Ss ?_
    refine Ws (sv := s') ?_
    repeat (refine A1 ⟨?_⟩; intros)
    have hgF := gF_eq
    refine WP.loopS (ι := NmSt) (NmOk a3.t r3) (fun y => y.ts.length) (fun y => fm [(0, ptrP p), (1, ptrP b)])
      (fun y => (p, psT, psC y.ts 0 s0) :: (b, stT, [lit (.int .i64 (s.k : Nat)), lit (.int .i64 (s.l : Nat)), lit (.int .i64 (s.c : Nat)), str a.t, lit (.int .i64 (s.bd : Nat)), ptsS s.ps, lit (.int .i64 (fl : Nat)), y.s,
        lit (.bool s.ol.far), rgsS s.ol.rs, chsS s.ol.cs, exS s.e1, exS s.e2, lit (.bool s.px.s), dg s.px.n, dg s.px.d, lit (.bool s.py.s), dg s.py.n, dg s.py.d]) :: y.Hs)
      ⟨gF, r3, [a3.t], s', H'⟩ ⟨g4, by simp only; omega, by simp only [List.length_singleton]; omega, hown, rfl, rfl⟩ (by (repeat (first | exact LeF.nil _ | refine LeF.cons (Le.refl _) ?_ | refine LeF.cons (Le.int (by omega)) ?_))) (List.Sublist.refl _) ?_
    rintro ⟨f', ts', A, s2, Hs⟩ ⟨hG', hf', hcnt, hown2, heq1, heq2⟩ K hK
    simp only at hG' hf' hcnt hown2 heq1 heq2 ⊢
    obtain ⟨a4, r4, rfl, -⟩ := hG'.cons
    simp only [List.length_cons] at hf' hcnt
    obtain ⟨f', rfl⟩ : ∃ g, f' = g + 1 := ⟨f' - 1, by omega⟩
    have hco2 := hown2.co
    have c5 := pisName_pu s0 hs a4 r4 0 (by omega)
    by_cases h5 : a4.k = 1 ∧ resv a4.t = false
    · rw [decide_eq_true h5] at c5
      rw [gnamesF_t (show (hd (a4 :: r4)).k = 1 ∧ resv (hd (a4 :: r4)).t = false from h5)] at heq1 heq2
      have g5 : GOk r4 := hG'.tail (by omega)
      clear h5
      have c6 := ptake_pu s0 hs p a4 r4 0 (by omega)
      repeat (refine A1 ⟨?_⟩; intros)
      refine Wo (ov_callT c5 rfl (by repeat (first | exact List.mem_cons_self | apply List.mem_cons_of_mem))) ?_
      repeat (first | (refine AS ⟨?_⟩; intros) | (refine O1 ⟨?_⟩; intros))
      refine WP.perm permI ?_
      refine WdZ 10 [0, 1, 2, 3, 4, 5, 6, 7, 8, 9] [6, 9] ((p, psT, psC (a4 :: r4) 0 s0) :: Hs) _ ?_
      refine ZkD 6 ?_
      repeat (refine A1 ⟨?_⟩; intros)
      refine mkZ0 ?_
      refine ZkC c6 (Tk.cons (HDel.here _) (Tk.nil _)) ?_ (fun _ _ h => h.elim)
      rintro _ _ ⟨rfl, rfl⟩
      refine ZkD 2 ?_
      repeat (refine A1 ⟨?_⟩; intros; try (refine Wdo (ov_bs1 (s := str a4.t) (by repeat (first | exact Parts.nil | (apply Parts.cons; exact Eq.refl (lit _); infer_instance)))) ?_))
      refine mkZ0 ?_
      refine ZkA (ds := nmx a4.t) hown2 (Tk.skip _ (Tk.same _)) (by omega) (fun s3 H3 hown3 => ?_)
      have hco3 := hown3.co
      refine ZkN ?_
      refine WPL.perm permH ?_
      have hgo := fun F' H'' => hK F' H'' ⟨f', r4, A ++ [a4.t], s3, H3⟩ ⟨g5, by simp only; omega, by simp only [List.length_append, List.length_singleton]; omega, by
        simp only
        rw [flat_snoc, List.length_append, List.length_singleton]; exact hown3, by rw [heq1]; simp only [List.append_assoc, List.cons_append, List.nil_append]; rfl, by rw [heq2]; rfl⟩ (by simp only [List.length_cons]; omega)
      clear hK heq1 heq2 hown2 hown3 c5 c6
      repeat (refine A1 ⟨?_⟩; intros)
      refine Ss ?_
      refine Ws (sv := s3) ?_
      repeat (refine A1 ⟨?_⟩; intros)
      exact hgo _ _ (by (repeat (first | exact LeF.nil _ | refine LeF.cons (Le.refl _) ?_ | refine LeF.cons (Le.int (by omega)) ?_))) (List.Sublist.refl _)
    · rw [decide_eq_false h5] at c5
      rw [gnamesF_f (show ¬((hd (a4 :: r4)).k = 1 ∧ resv (hd (a4 :: r4)).t = false) from h5)] at heq1 heq2
      rw [List.append_nil] at heq1
      clear hK h5
      refine WP.pubOwnC (c1 := [_, _, _, _, _, _, _]) (c2 := [_, _, _, _, _, _, _, _, _, _, _]) hown2 permJ ?_
      simp only [List.cons_append, List.nil_append]
      repeat (refine A1 ⟨?_⟩; intros)
      refine Wo (ov_callT c5 rfl (by repeat (first | exact List.mem_cons_self | apply List.mem_cons_of_mem))) ?_
      repeat (refine A1 ⟨?_⟩; intros)
      exact endHN _ _ end0 (List.Sublist.refl _) ⟨{ s with nm := a.t, fl := fl, nms := A }, a4 :: r4, s0, by rw [heq1, heq2], hG', hs, rfl, rfl⟩
  rw [if_neg k3]
  by_cases k4 : s.k = 4
  · rw [if_pos k4]
    have c3 := goutline_pu s0 hs p r1 g2 0 (by omega)
    refine WPL.lowB (.here _) hlow ?_
    dsimp only [stx]
    repeat (refine A1 ⟨?_⟩; intros)
    refine WfX c3 ?_ ?_ (hs := Tk.skip _ (Tk.cons (HDel.here _) (Tk.nil _)))
    · rintro _ _ ⟨o, t2, e3, rfl, rfl⟩
      rw [e3]
      have g3 : GOk t2 := by
        have := Nt.outl (fun l c l' c' => l = l' ∧ c = c') r1 r1 g2 (LR.refl (fun _ _ => ⟨rfl, rfl⟩) _)
        rw [← routl_eq, e3] at this
        cases this with
        | ok _ _ g => exact g
      simp only [List.cons_append, List.nil_append]
      repeat (refine A1 ⟨?_⟩; intros)
      exact endHN _ _ end0 (List.Sublist.refl _) ⟨_, _, _, rfl, g3, hs, rfl, rfl⟩
    · rintro _ _ ⟨e, e3, hx⟩
      rw [hC]
      exact ⟨e, by rw [hn1]; simp only [e2, if_neg k2, if_neg k3, if_pos k4, e3], hx⟩
  rw [if_neg k4]
  have c3 := gexpression_pu p r1 g2 (by omega) s0 hs
  refine WPL.lowB (.here _) hlow ?_
  dsimp only [stx]
  repeat (refine A1 ⟨?_⟩; intros)
  refine WfX c3 ?_ ?_ (hs := Tk.skip _ (Tk.cons (HDel.here _) (Tk.nil _)))
  · rintro v _ ⟨A, x, t1, Hs, ⟨e3, -, g3, -, -⟩, hown, rfl⟩
    have hco := hown.co
    rw [e3]
    simp only [List.cons_append, List.nil_append]
    clear c3
    repeat (first | (refine AS ⟨?_⟩; intros) | (refine O1 ⟨?_⟩; intros))
    refine Ss ?_
    refine Ws (sv := v) ?_
    refine WPL.pubOwnC (c1 := [_, _, _, _, _, _, _, _, _, _, _]) (c2 := [_, _, _, _, _, _, _]) hown permG ?_
    simp only [List.cons_append, List.nil_append]
    repeat (refine A1 ⟨?_⟩; intros)
    exact endHN _ _ end0 (List.Sublist.refl _) ⟨_, _, _, rfl, g3, hco, rfl, rfl⟩
  · rintro _ _ ⟨e, e3, hx⟩
    rw [hC]
    exact ⟨e, by rw [hn1]; simp only [e2, if_neg k2, if_neg k3, if_neg k4, e3], hx⟩
section
variable {P : Program} {F : Fr} {H : LH}
theorem ov_bytes {S D e ty : TypeId} {x : Operand} {l : List UInt8} (hs : P.underlying S = some .string) (hd : P.underlying D = some (.slice e)) (he : P.underlying e = some (.int .u8)) (hx : ev F x = str l) (hl : l.length ≤ 1000000) :
    OpV P (.convert S D x) ty F H (sl (bys l) l.length) := by
  refine OpV.of0 ?_
  intro m w o a ho hty h1 h2 h3 K Q hK
  have e0 := evA h3 (x := x) (by simp [Op.operands]); rw [hx] at e0
  have e0' : a.eval x = .string ⟨l.toArray⟩ := by unfold str at e0; exact lit_p.1 e0
  unfold Oper.wp
  have hsz : (⟨l.toArray⟩ : ByteArray).size = l.length := by simp [ByteArray.size]
  have hr := run_bytes_of_string (P := P) w S D e ⟨l.toArray⟩ hs hd he
  rw [hsz] at hr
  have hrun : (execOp a.eval o).run P w = .ok (.value (.slice (some ⟨w.heap.size, 0, none⟩) l.length (grownCap w l.length 0 e))) (w.drew.alloc (.cells (bytesRow ⟨l.toArray⟩ (grownCap w l.length 0 e)) e ((bytesRow ⟨l.toArray⟩ (grownCap w l.length 0 e)).size, (bytesRow ⟨l.toArray⟩ (grownCap w l.length 0 e)).size + 1))) := by
    simp [execOp, ho, e0', hr]
  rw [hrun]
  obtain ⟨q1, q2⟩ := madd_fresh h1 (o := .cells (bytesRow ⟨l.toArray⟩ (grownCap w l.length 0 e)) e ((bytesRow ⟨l.toArray⟩ (grownCap w l.length 0 e)).size, (bytesRow ⟨l.toArray⟩ (grownCap w l.length 0 e)).size + 1))
  refine hK _ _ _ ?_ q1 q2
  refine sl_mk (grownCap_ge w _ _ _) (grownCap_le_maxLen w _ _ _ (by simp only [maxLen]; omega)) (.inr ⟨w.heap.size, 0, rfl, _, e, _, by unfold madd; rw [if_pos rfl], ?_⟩)
  have hb : (bys l).length = l.length := by unfold bys; simp
  rw [hb, List.drop_zero]
  have ht : (bytesRow ⟨l.toArray⟩ (grownCap w l.length 0 e)).toList.take l.length = l.map fun b => Value.int .u8 b.toNat := by
    unfold bytesRow
    simp
  rw [ht]
  clear ht hb hrun hr e0 e0' hx hsz q1 q2 hl hK
  unfold bys
  generalize madd m w.heap.size _ = m'
  induction l with
  | nil => trivial
  | cons b l ih => exact ⟨⟨lit_p.2 rfl, rfl⟩, ih⟩
end
end Go.Ab
