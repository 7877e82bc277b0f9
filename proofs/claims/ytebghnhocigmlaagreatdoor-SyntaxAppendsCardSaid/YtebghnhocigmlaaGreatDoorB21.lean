/- Texts laid one behind the other: GGoodX, GGoodS, GPD, BytesOf, Atoi. -/
import Derived.Test.YtebghnhocigmlaaGreatDoorB20
import Derived.Test.YtebghnhocigmlaaGreatDoorB17
import Derived.Test.YtebghnhocigmlaaGreatDoorB03
import Derived.Test.YtebghnhocigmlaaGreatDoorB04
import Derived.Laws.IdiomStrings
import Derived.Test.YtebghnhocigmlaaGreatDoorB14
namespace Go.Ab
open Go.Proofs
set_option linter.unusedSectionVars false
set_option linter.unusedVariables false
set_option linter.unusedSimpArgs false
variable [Base]
def Nd.clr (n : Nd) : Nd := { n with ln := 0, cl := 0 }
abbrev clrL (A : List Nd) : List Nd := A.map Nd.clr
def SE (p q : List Nd × Ex) : Prop := clrL p.1 = clrL q.1
theorem clrL_len {A B : List Nd} (h : clrL A = clrL B) : A.length = B.length := by
  have := congrArg List.length h
  simpa using this
def gxR (f lv d i : Nat) (acc : Option (List Nd × Ex)) : Rd (List Nd × Ex) := fun ts => match gx f lv d i ts acc with
  | .error e => .error e
  | .ok (A, x, r) => .ok ((A, x), r)
def rleafs : Rd (List Nd × Ex) := rtk (cis wAll) (fun a => rret ([ndA 2 a], .leaf (ndA 2 a))) (rtk (cis wNone) (fun a => rret ([ndA 3 a], .leaf (ndA 3 a)))
  (rtk (cis wHalf) (fun a => rbind rpt fun p => rbind rpt fun q => rret ([ndH p q a], .leaf (ndH p q a))) (rtk cnm (fun a => rret ([ndN a], .leaf (ndN a))) (rfail 1))))
def leafE (ts : List Tok) : Except Er (List Nd × Ex × List Tok) := if gis ts wAll = true then .ok ([ndA 2 (hd ts)], .leaf (ndA 2 (hd ts)), ts.tail)
      else if gis ts wNone = true then .ok ([ndA 3 (hd ts)], .leaf (ndA 3 (hd ts)), ts.tail)
      else if gis ts wHalf = true then (match gpt ts.tail with
        | .error e => .error e
        | .ok (p, t1) => match gpt t1 with
          | .error e => .error e
          | .ok (q, t2) => .ok ([ndH p q (hd ts)], .leaf (ndH p q (hd ts)), t2))
      else if (hd ts).k = 1 ∧ resv (hd ts).t = false then .ok ([ndN (hd ts)], .leaf (ndN (hd ts)), ts.tail)
      else .error (ger 1 ts)
theorem rleafs_eq (ts : List Tok) : rleafs ts = match leafE ts with
  | .error e => .error e
  | .ok (A, x, r) => .ok ((A, x), r) := by
  unfold rleafs leafE rtk
  rw [cis_gis, cis_gis, cis_gis]
  by_cases c3 : cis wAll (hd ts) = true
  · rw [if_pos c3, if_pos c3]; rfl
  rw [if_neg c3, if_neg c3]
  by_cases c4 : cis wNone (hd ts) = true
  · rw [if_pos c4, if_pos c4]; rfl
  rw [if_neg c4, if_neg c4]
  by_cases c5 : cis wHalf (hd ts) = true
  · rw [if_pos c5, if_pos c5]
    unfold rbind
    rw [rpt_eq]
    try dsimp only
    cases rpt ts.tail with
    | error e => rfl
    | ok q =>
      obtain ⟨p, t1⟩ := q
      simp only
      try dsimp only
      cases rpt t1 with
      | error e => rfl
      | ok q => rfl
  rw [if_neg c5, if_neg c5]
  by_cases c6 : (hd ts).k = 1 ∧ resv (hd ts).t = false
  · rw [if_pos c6, if_pos ((cnm_iff _).2 c6)]; rfl
  · rw [if_neg c6, if_neg (fun k => c6 ((cnm_iff _).1 k))]; rfl
theorem Nt.leafs : Nt SE rleafs rleafs :=
  Nt.tk (cis_hd _) (cis_0 _) (fun _ _ _ _ _ => .ret rfl) (Nt.tk (cis_hd _) (cis_0 _) (fun _ _ _ _ _ => .ret rfl)
    (Nt.tk (cis_hd _) (cis_0 _) (fun _ _ _ _ _ => Nt.pt.bind fun p p' hp => Nt.pt.bind fun q q' hq => .ret (by subst hp; subst hq; rfl))
      (Nt.tk cnm_hd cnm_0 (fun a b _ h _ => .ret (by unfold SE; simp only [List.map_cons, List.map_nil]; unfold ndN Nd.clr; rw [h])) (.fail 1))))
theorem Pf.leafs : Pf rleafs :=
  Pf.tk (fun _ => .ret _) (Pf.tk (fun _ => .ret _) (Pf.tk (fun _ => Pf.pt.bind fun p => Pf.pt.bind fun q => .ret _) (Pf.tk (fun _ => .ret _) (.fail 1))))
theorem gxR_0 (lv d i : Nat) (acc : Option (List Nd × Ex)) : gxR 0 lv d i acc = rfail 0 := by
  funext ts
  unfold gxR gx
  rfl
theorem gx_3' (f d i : Nat) (ts : List Tok) : gx (f + 1) 3 d i ts none = if gis ts [126] = true then
        (if 200 ≤ d then .error (ger 2 ts) else match gx f 3 (d + 1) i ts.tail none with
          | .ok (A, x, ts') => .ok (A ++ [ndU ((i + A.length : Nat) - 1) (hd ts)], .un (ndU ((i + A.length : Nat) - 1) (hd ts)) x, ts')
          | .error e => .error e)
      else if gis ts [40] = true then
        (if 200 ≤ d then .error (ger 2 ts) else match gx f 1 (d + 1) i ts.tail none with
          | .ok (A, x, ts') => if gis ts' [41] = true then .ok (A, x, ts'.tail) else .error (ger 1 ts')
          | .error e => .error e)
      else leafE ts := rfl
theorem gxR_3 (f d i : Nat) : gxR (f + 1) 3 d i none = if 200 ≤ d then rif (cis [126]) (rfail 2) (rif (cis [40]) (rfail 2) rleafs) else
    rtk (cis [126]) (fun a => rbind (gxR f 3 (d + 1) i none) fun p => rret (p.1 ++ [ndU ((i + p.1.length : Nat) - 1) a], .un (ndU ((i + p.1.length : Nat) - 1) a) p.2))
      (rtk (cis [40]) (fun _ => rbind (gxR f 1 (d + 1) i none) fun p => rtk (cis [41]) (fun _ => rret p) (rfail 1)) rleafs) := by
  funext ts
  have e0 : gxR (f + 1) 3 d i none ts = match gx (f + 1) 3 d i ts none with
    | .error e => .error e
    | .ok (A, x, r) => .ok ((A, x), r) := rfl
  rw [e0, gx_3', cis_gis, cis_gis]
  by_cases hd : 200 ≤ d
  · simp only [if_pos hd]
    unfold rif
    by_cases c1 : cis [126] (Ab.hd ts) = true
    · rw [if_pos c1, if_pos c1]; rfl
    rw [if_neg c1, if_neg c1]
    by_cases c2 : cis [40] (Ab.hd ts) = true
    · rw [if_pos c2, if_pos c2]; rfl
    rw [if_neg c2, if_neg c2]
    exact (rleafs_eq ts).symm
  · simp only [if_neg hd]
    unfold rtk
    by_cases c1 : cis [126] (Ab.hd ts) = true
    · rw [if_pos c1, if_pos c1]
      unfold rbind gxR
      try dsimp only
      cases gx f 3 (d + 1) i ts.tail none with
      | error e => rfl
      | ok q => rfl
    rw [if_neg c1, if_neg c1]
    by_cases c2 : cis [40] (Ab.hd ts) = true
    · rw [if_pos c2, if_pos c2]
      unfold rbind gxR
      try dsimp only
      cases gx f 1 (d + 1) i ts.tail none with
      | error e => rfl
      | ok q =>
        obtain ⟨A, x, r⟩ := q
        simp only
        rw [cis_gis]
        by_cases c3 : cis [41] (Ab.hd r) = true
        · rw [if_pos c3, if_pos c3]; rfl
        · rw [if_neg c3, if_neg c3]; rfl
    rw [if_neg c2, if_neg c2]
    exact (rleafs_eq ts).symm
theorem gxR_lv {f lv d i : Nat} (h : lv ≠ 3) : gxR (f + 1) lv d i none = rbind (gxR f (lv + 1) d i none) fun p => gxR f lv d i (some p) := by
  funext ts
  have e0 : gxR (f + 1) lv d i none ts = match gx (f + 1) lv d i ts none with
    | .error e => .error e
    | .ok (A, x, r) => .ok ((A, x), r) := rfl
  rw [e0, gx_lv h]
  unfold rbind
  rw [show gxR f (lv + 1) d i none ts = match gx f (lv + 1) d i ts none with
    | .error e => .error e
    | .ok (A, x, r) => .ok ((A, x), r) from rfl]
  try dsimp only
  cases gx f (lv + 1) d i ts none with
  | error e => rfl
  | ok q => rfl
def cop (lv : Nat) (a : Tok) : Int :=
  if lv = 1 then (if cis [43] a = true then 1 else if cis [45] a = true then 3 else if cis [94] a = true then 4 else 0) else (if cis [42] a = true then 2 else 0)
theorem cop_hd (lv : Nat) {a b : Tok} (h1 : a.k = b.k) (h2 : a.t = b.t) : cop lv a = cop lv b := by
  unfold cop
  rw [cis_hd [43] a b h1 h2, cis_hd [45] a b h1 h2, cis_hd [94] a b h1 h2, cis_hd [42] a b h1 h2]
theorem gxR_some (f lv d i : Nat) (p : List Nd × Ex) : gxR (f + 1) lv d i (some p) = rtk (fun a => !decide (cop lv a = 0)) (fun a => rbind (gxR f (lv + 1) d (i + p.1.length) none) fun q =>
      gxR f lv d i (some (p.1 ++ q.1 ++ [ndB (cop lv a) ((i + p.1.length : Nat) - 1) ((i + p.1.length + q.1.length : Nat) - 1) a], .bi (ndB (cop lv a) ((i + p.1.length : Nat) - 1) ((i + p.1.length + q.1.length : Nat) - 1) a) p.2 q.2))) (rret p) := by
  funext ts
  obtain ⟨A, x⟩ := p
  have e0 : gxR (f + 1) lv d i (some (A, x)) ts = match gx (f + 1) lv d i ts (some (A, x)) with
    | .error e => .error e
    | .ok (A, x, r) => .ok ((A, x), r) := rfl
  rw [e0, gx_some, show gop lv ts = cop lv (hd ts) from rfl]
  unfold rtk
  by_cases h : cop lv (hd ts) = 0
  · rw [if_pos h, if_neg (by show ¬ (!decide (cop lv (hd ts) = 0)) = true; rw [decide_eq_true h]; decide)]
    rfl
  · rw [if_neg h, if_pos (by show (!decide (cop lv (hd ts) = 0)) = true; rw [decide_eq_false h]; decide)]
    unfold rbind
    dsimp only
    rw [show gxR f (lv + 1) d (i + A.length) none ts.tail = match gx f (lv + 1) d (i + A.length) ts.tail none with
      | .error e => .error e
      | .ok (A, x, r) => .ok ((A, x), r) from rfl]
    try dsimp only
    cases gx f (lv + 1) d (i + A.length) ts.tail none with
    | error e => rfl
    | ok q => rfl
theorem cop_0 (lv : Nat) (a : Tok) (h : (!decide (cop lv a = 0)) = true) : a.k ≠ 0 := by
  have h1 : gop lv [a] ≠ 0 := fun e => by
    rw [show gop lv [a] = cop lv a from rfl] at e
    rw [decide_eq_true e] at h; cases h
  exact (gop_ne h1).1
def AccR : Option (List Nd × Ex) → Option (List Nd × Ex) → Prop
  | none, none => True
  | some p, some q => SE p q
  | _, _ => False
theorem Nt.gx : ∀ (f lv d i : Nat) (acc acc' : Option (List Nd × Ex)), AccR acc acc' → Nt SE (gxR f lv d i acc) (gxR f lv d i acc') := by
  intro f
  induction f with
  | zero => intro lv d i acc acc' _; rw [gxR_0, gxR_0]; exact .fail 0
  | succ f ih =>
    intro lv d i acc acc' h
    match acc, acc', h with
    | none, none, _ =>
      by_cases l3 : lv = 3
      · subst l3
        rw [gxR_3]
        split
        · exact Nt.rif (cis_hd _) (.fail 2) (Nt.rif (cis_hd _) (.fail 2) .leafs)
        · refine Nt.tk (cis_hd _) (cis_0 _) (fun a b _ _ _ => (ih 3 (d + 1) i none none trivial).bind fun p q h => .ret ?_) (Nt.tk (cis_hd _) (cis_0 _) (fun a b _ _ _ => (ih 1 (d + 1) i none none trivial).bind fun p q h => Nt.tk (cis_hd _) (cis_0 _) (fun _ _ _ _ _ => .ret h) (.fail 1)) .leafs)
          have h' : clrL p.1 = clrL q.1 := h
          unfold SE
          simp only [clrL, List.map_append, List.map_cons, List.map_nil] at h' ⊢
          rw [h', clrL_len h]
          rfl
      · rw [gxR_lv l3]
        exact (ih (lv + 1) d i none none trivial).bind fun p q h => ih lv d i (some p) (some q) h
    | some p, some q, h =>
      rw [gxR_some, gxR_some]
      have h' : clrL p.1 = clrL q.1 := h
      refine Nt.tk (fun a b h1 h2 => by rw [cop_hd lv h1 h2]) (cop_0 lv) (fun a b h1 h2 _ => ?_) (.ret h)
      rw [clrL_len h']
      refine (ih (lv + 1) d (i + q.1.length) none none trivial).bind fun r s h3 => ih lv d i _ _ ?_
      have h3' : clrL r.1 = clrL s.1 := h3
      show clrL _ = clrL _
      simp only [clrL, List.map_append, List.map_cons, List.map_nil] at h' h3' ⊢
      rw [h', h3', clrL_len h3, cop_hd lv h1 h2]
      rfl
theorem Pf.gx : ∀ (f lv d i : Nat) (acc : Option (List Nd × Ex)), Pf (gxR f lv d i acc) := by
  intro f
  induction f with
  | zero => intro lv d i acc; rw [gxR_0]; exact .fail 0
  | succ f ih =>
    intro lv d i acc
    cases acc with
    | none =>
      by_cases l3 : lv = 3
      · subst l3
        rw [gxR_3]
        split
        · exact Pf.rif (.fail 2) (Pf.rif (.fail 2) .leafs)
        · exact Pf.tk (fun a => (ih 3 (d + 1) i none).bind fun p => .ret _) (Pf.tk (fun a => (ih 1 (d + 1) i none).bind fun p => Pf.tk (fun _ => .ret _) (.fail 1)) .leafs)
      · rw [gxR_lv l3]
        exact (ih (lv + 1) d i none).bind fun p => ih lv d i (some p)
    | some p =>
      rw [gxR_some]
      exact Pf.tk (fun a => (ih (lv + 1) d (i + p.1.length) none).bind fun r => ih lv d i _) (.ret _)
def rexp : Rd (List Nd) := rbind (gxR gF 1 0 0 none) fun p => rret p.1
theorem rexp_eq (ts : List Tok) : rexp ts = match gexp ts with
    | .error e => .error e
    | .ok (A, _, r) => .ok (A, r) := by
  unfold rexp gexp rbind gxR
  try dsimp only
  cases Ab.gx gF 1 0 0 ts none with
  | error e => rfl
  | ok q => rfl
theorem Nt.exp : Nt (fun A B => clrL A = clrL B) rexp rexp := (Nt.gx _ _ _ _ none none trivial).bind fun _ _ h => .ret h
theorem Pf.exp : Pf rexp := (Pf.gx _ _ _ _ none).bind fun _ => .ret _
def Stm.clr (s : Stm) : Stm := { s with l := 0, c := 0, e1 := clrL s.e1, e2 := clrL s.e2 }
def SS (s t : Stm) : Prop := s.clr = t.clr
def rfill : Rd Nat := rtk (cis [101, 118, 101, 110, 111, 100, 100]) (fun _ => rret 1) (rbind (rexpect [110, 111, 110, 122, 101, 114, 111]) fun _ => rret 2)
theorem rfill_eq : gfill = rfill := by
  funext ts
  unfold gfill rfill rtk
  rw [cis_gis]
  split
  · rfl
  · unfold rbind
    rw [rexpect_eq]
    try dsimp only
    cases gexpect [110, 111, 110, 122, 101, 114, 111] ts with
    | error e => rfl
    | ok t => rfl
theorem Nt.fill : Nt Eq rfill rfill := Nt.tk (cis_hd _) (cis_0 _) (fun _ _ _ _ _ => .ret rfl) ((Nt.expect _).bind fun _ _ _ => .ret rfl)
theorem Pf.fill : Pf rfill := Pf.tk (fun _ => .ret _) ((Pf.expect _).bind fun _ => .ret _)
def rbudget : Rd Nat := rnumC (fun n => decide (65536 < dcv n)) 2 dcv
theorem rbudget_eq : gbudget = rbudget := by
  funext ts
  unfold gbudget rbudget
  rw [rnumC_eq]
  try dsimp only
  cases gnum ts with
  | error e => rfl
  | ok q =>
    simp only [decide_eq_true_eq]
def rnames : Nat → Rd (List (List UInt8))
  | 0 => rret []
  | f + 1 => rtk cnm (fun a => rbind (rnames f) fun l => rret (a.t :: l)) (rret [])
theorem rnames_eq : ∀ (f : Nat) (ts : List Tok), rnames f ts = .ok ((gnamesF f ts).1, (gnamesF f ts).2)
  | 0, ts => rfl
  | f + 1, ts => by
    unfold rnames gnamesF rtk
    by_cases h : (hd ts).k = 1 ∧ resv (hd ts).t = false
    · rw [if_pos h, if_pos ((cnm_iff _).2 h)]
      unfold rbind
      dsimp only
      rw [rnames_eq f]
      rfl
    · rw [if_neg h, if_neg (fun k => h ((cnm_iff _).1 k))]; rfl
theorem Nt.names : ∀ f, Nt Eq (rnames f) (rnames f)
  | 0 => .ret rfl
  | f + 1 => Nt.tk cnm_hd cnm_0 (fun _ _ _ h _ => (Nt.names f).bind fun _ _ hl => .ret (by rw [h, hl])) (.ret rfl)
theorem Pf.names : ∀ f, Pf (rnames f)
  | 0 => .ret _
  | f + 1 => Pf.tk (fun _ => (Pf.names f).bind fun _ => .ret _) (.ret _)
def rol : Nat → Otl → Rd Otl
  | 0, _ => rfail 0
  | f + 1, o => rtk (cis [125]) (fun _ => rret o) (rtk (cis [114, 105, 110, 103]) (fun _ => rbind (rpts gF) fun ps => rbind (rexpect [59]) fun _ => rol f { o with rs := o.rs ++ [ps] })
      (rtk (cis [99, 104, 97, 105, 110]) (fun _ => rbind rpt fun a => rbind (rpts gF) fun ps => if ps.length < 2 then rfail 1 else rbind (rexpect [59]) fun _ => rol f { o with cs := o.cs ++ [⟨a, ps.getLast?.getD (0, 0), ps.dropLast⟩] })
        (rfail 1)))
theorem rol_eq : ∀ (f : Nat) (o : Otl) (ts : List Tok), golF f ts o = rol f o ts
  | 0, _, _ => rfl
  | f + 1, o, ts => by
    unfold golF rol rtk
    rw [cis_gis, cis_gis, cis_gis]
    by_cases c1 : cis [125] (hd ts) = true
    · rw [if_pos c1, if_pos c1]; rfl
    rw [if_neg c1, if_neg c1]
    by_cases c2 : cis [114, 105, 110, 103] (hd ts) = true
    · rw [if_pos c2, if_pos c2]
      unfold rbind gpts
      rw [rpts_eq]
      try dsimp only
      cases rpts gF ts.tail with
      | error e => rfl
      | ok q =>
        obtain ⟨ps, t1⟩ := q
        simp only
        rw [rexpect_eq]
        try dsimp only
        cases gexpect [59] t1 with
        | error e => rfl
        | ok t2 => exact rol_eq f _ t2
    rw [if_neg c2, if_neg c2]
    by_cases c3 : cis [99, 104, 97, 105, 110] (hd ts) = true
    · rw [if_pos c3, if_pos c3]
      unfold rbind gpts
      rw [rpt_eq]
      try dsimp only
      cases rpt ts.tail with
      | error e => rfl
      | ok q =>
        obtain ⟨a, t1⟩ := q
        simp only
        rw [rpts_eq]
        try dsimp only
        cases rpts gF t1 with
        | error e => rfl
        | ok q =>
          obtain ⟨ps, t2⟩ := q
          simp only
          by_cases hl : ps.length < 2
          · rw [if_pos hl, if_pos hl]; rfl
          · rw [if_neg hl, if_neg hl]
            rw [rexpect_eq]
            try dsimp only
            cases gexpect [59] t2 with
            | error e => rfl
            | ok t3 => exact rol_eq f _ t3
    rw [if_neg c3, if_neg c3]
    rfl
theorem Nt.ol : ∀ (f : Nat) (o : Otl), Nt Eq (rol f o) (rol f o)
  | 0, _ => .fail 0
  | f + 1, o => Nt.tk (cis_hd _) (cis_0 _) (fun _ _ _ _ _ => .ret rfl) (Nt.tk (cis_hd _) (cis_0 _) (fun _ _ _ _ _ => (Nt.pts gF).bind fun ps qs h => by
      subst h
      exact (Nt.expect _).bind fun _ _ _ => Nt.ol f _)
    (Nt.tk (cis_hd _) (cis_0 _) (fun _ _ _ _ _ => Nt.pt.bind fun a b h => by
      subst h
      refine (Nt.pts gF).bind fun ps qs h => ?_
      subst h
      split
      · exact .fail 1
      · exact (Nt.expect _).bind fun _ _ _ => Nt.ol f _) (.fail 1)))
theorem Pf.ol : ∀ (f : Nat) (o : Otl), Pf (rol f o)
  | 0, _ => .fail 0
  | f + 1, o => Pf.tk (fun _ => .ret _) (Pf.tk (fun _ => (Pf.pts gF).bind fun ps => (Pf.expect _).bind fun _ => Pf.ol f _)
    (Pf.tk (fun _ => Pf.pt.bind fun a => (Pf.pts gF).bind fun ps => by
      split
      · exact .fail 1
      · exact (Pf.expect _).bind fun _ => Pf.ol f _) (.fail 1)))
def routl : Rd Otl := rbind (rexpect [123]) fun _ => rtk (cis [102, 97, 114]) (fun _ => rol gF ⟨true, [], []⟩) (rol gF ⟨false, [], []⟩)
theorem routl_eq : goutl = routl := by
  funext ts
  unfold goutl routl rbind
  rw [rexpect_eq]
  try dsimp only
  cases gexpect [123] ts with
  | error e => rfl
  | ok t1 =>
    simp only
    unfold rtk
    rw [cis_gis]
    split <;> exact rol_eq _ _ _
theorem Nt.outl : Nt Eq routl routl := (Nt.expect _).bind fun _ _ _ => Nt.tk (cis_hd _) (cis_0 _) (fun _ _ _ _ _ => .ol _ _) (.ol _ _)
theorem Pf.outl : Pf routl := (Pf.expect _).bind fun _ => Pf.tk (fun _ => .ol _ _) (.ol _ _)
def rquery (s : Stm) : Rd Stm := rbind rexp fun A => if s.k = 8 then (rbind rpt fun p => rret { s with e1 := A, px := RQ.of p.1, py := RQ.of p.2 })
    else if s.k = 10 ∨ s.k = 11 then (rbind (rexpect [44]) fun _ => rbind rexp fun B => rret { s with e1 := A, e2 := B })
    else rret { s with e1 := A }
theorem rquery_eq (s : Stm) : gquery s = rquery s := by
  funext ts
  unfold gquery rquery rbind
  rw [rexp_eq]
  try dsimp only
  cases gexp ts with
  | error e => rfl
  | ok q =>
    obtain ⟨A, x, t1⟩ := q
    simp only
    by_cases c1 : s.k = 8
    · rw [if_pos c1, if_pos c1, rpt_eq]
      try dsimp only
      cases rpt t1 with
      | error e => rfl
      | ok q => rfl
    rw [if_neg c1, if_neg c1]
    by_cases c2 : s.k = 10 ∨ s.k = 11
    · rw [if_pos c2, if_pos c2, rexpect_eq]
      try dsimp only
      cases gexpect [44] t1 with
      | error e => rfl
      | ok t2 =>
        simp only
        rw [rexp_eq]
        try dsimp only
        cases gexp t2 with
        | error e => rfl
        | ok q => rfl
    rw [if_neg c2, if_neg c2]
    rfl
theorem SS.k {s t : Stm} (h : SS s t) : s.k = t.k := by
  have h' : s.clr = t.clr := h
  have h2 := congrArg Stm.k h'
  exact h2
theorem Nt.query {s t : Stm} (h : SS s t) : Nt SS (rquery s) (rquery t) := by
  have hk := h.k
  unfold rquery
  rw [hk]
  refine Nt.exp.bind fun A B hA => ?_
  by_cases c1 : t.k = 8
  · rw [if_pos c1, if_pos c1]
    exact Nt.pt.bind fun p q hp => .ret (by
      subst hp
      cases s; cases t
      simp only [SS, Stm.clr, Stm.mk.injEq] at h ⊢
      simp only [h, hA, and_self])
  rw [if_neg c1, if_neg c1]
  by_cases c2 : t.k = 10 ∨ t.k = 11
  · rw [if_pos c2, if_pos c2]
    exact (Nt.expect _).bind fun _ _ _ => Nt.exp.bind fun A' B' hB => .ret (by
      cases s; cases t
      simp only [SS, Stm.clr, Stm.mk.injEq] at h ⊢
      simp only [h, hA, hB, and_self])
  rw [if_neg c2, if_neg c2]
  exact .ret (by
    cases s; cases t
    simp only [SS, Stm.clr, Stm.mk.injEq] at h ⊢
    simp only [h, hA, and_self])
theorem Pf.query (s : Stm) : Pf (rquery s) := by
  unfold rquery
  refine Pf.exp.bind fun A => ?_
  split
  · exact Pf.pt.bind fun _ => .ret _
  · split
    · exact (Pf.expect _).bind fun _ => Pf.exp.bind fun _ => .ret _
    · exact .ret _
def rdefn (s : Stm) : Rd Stm := rbind rname fun nm => rbind (rexpect [61]) fun _ =>
  if s.k = 2 then (rbind (rpts gF) fun ps => rret { s with nm := nm, ps := ps })
  else if s.k = 3 then (rbind rfill fun fl => rbind rname fun n1 => rbind (rnames gF) fun l => rret { s with nm := nm, fl := fl, nms := n1 :: l })
  else if s.k = 4 then (rbind routl fun o => rret { s with nm := nm, ol := o })
  else (rbind rexp fun A => rret { s with nm := nm, e1 := A })
theorem rdefn_eq (s : Stm) : gdefn s = rdefn s := by
  funext ts
  unfold gdefn rdefn rbind
  rw [rname_eq]
  try dsimp only
  cases rname ts with
  | error e => rfl
  | ok q =>
    obtain ⟨nm, t1⟩ := q
    simp only
    rw [rexpect_eq]
    try dsimp only
    cases gexpect [61] t1 with
    | error e => rfl
    | ok t2 =>
      simp only
      by_cases c1 : s.k = 2
      · rw [if_pos c1, if_pos c1]
        unfold gpts
        rw [rpts_eq]
        try dsimp only
        cases rpts gF t2 with
        | error e => rfl
        | ok q => rfl
      rw [if_neg c1, if_neg c1]
      by_cases c2 : s.k = 3
      · rw [if_pos c2, if_pos c2, rfill_eq]
        try dsimp only
        cases rfill t2 with
        | error e => rfl
        | ok q =>
          obtain ⟨fl, t3⟩ := q
          simp only
          try dsimp only
          cases rname t3 with
          | error e => rfl
          | ok q =>
            obtain ⟨n1, t4⟩ := q
            simp only
            rw [rnames_eq]
            rfl
      rw [if_neg c2, if_neg c2]
      by_cases c3 : s.k = 4
      · rw [if_pos c3, if_pos c3, routl_eq]
        try dsimp only
        cases routl t2 with
        | error e => rfl
        | ok q => rfl
      rw [if_neg c3, if_neg c3, rexp_eq]
      try dsimp only
      cases gexp t2 with
      | error e => rfl
      | ok q => rfl
theorem Nt.defn {s t : Stm} (h : SS s t) : Nt SS (rdefn s) (rdefn t) := by
  have hk := h.k
  unfold rdefn
  rw [hk]
  refine Nt.name.bind fun nm nm' hn => (Nt.expect _).bind fun _ _ _ => ?_
  subst hn
  by_cases c1 : t.k = 2
  · rw [if_pos c1, if_pos c1]
    exact (Nt.pts _).bind fun p q hp => .ret (by
      subst hp
      cases s; cases t
      simp only [SS, Stm.clr, Stm.mk.injEq] at h ⊢
      simp only [h, and_self])
  rw [if_neg c1, if_neg c1]
  by_cases c2 : t.k = 3
  · rw [if_pos c2, if_pos c2]
    exact Nt.fill.bind fun p q hp => Nt.name.bind fun n n' hn => (Nt.names _).bind fun l l' hl => .ret (by
      subst hp; subst hn; subst hl
      cases s; cases t
      simp only [SS, Stm.clr, Stm.mk.injEq] at h ⊢
      simp only [h, and_self])
  rw [if_neg c2, if_neg c2]
  by_cases c3 : t.k = 4
  · rw [if_pos c3, if_pos c3]
    exact Nt.outl.bind fun p q hp => .ret (by
      subst hp
      cases s; cases t
      simp only [SS, Stm.clr, Stm.mk.injEq] at h ⊢
      simp only [h, and_self])
  rw [if_neg c3, if_neg c3]
  exact Nt.exp.bind fun A B hA => .ret (by
    cases s; cases t
    simp only [SS, Stm.clr, Stm.mk.injEq] at h ⊢
    simp only [h, hA, and_self])
theorem Pf.defn (s : Stm) : Pf (rdefn s) := by
  unfold rdefn
  refine Pf.name.bind fun nm => (Pf.expect _).bind fun _ => ?_
  split
  · exact (Pf.pts _).bind fun _ => .ret _
  · split
    · exact Pf.fill.bind fun _ => Pf.name.bind fun _ => (Pf.names _).bind fun _ => .ret _
    · split
      · exact Pf.outl.bind fun _ => .ret _
      · exact Pf.exp.bind fun _ => .ret _
structure Pq {α : Type} (p : Rd α) : Prop where
  len : ∀ ts x r, p ts = .ok (x, r) → r.length < ts.length
  pre : ∀ u v x r, p (u ++ v) = .ok (x, r) → v.length ≤ r.length → ∃ r1, r = r1 ++ v ∧ ∀ v', p (u ++ v') = .ok (x, r1 ++ v')
theorem Pq.bind {α β : Type} {p : Rd α} {f : α → Rd β} (hp : Pf p) (hf : ∀ x, Pq (f x)) : Pq (rbind p f) where
  len ts y r h := by
    unfold rbind at h
    cases hq : p ts with
    | error e => rw [hq] at h; cases h
    | ok w =>
      obtain ⟨x, r'⟩ := w
      rw [hq] at h
      exact Nat.lt_of_lt_of_le ((hf x).len _ _ _ h) (hp.len _ _ _ hq)
  pre u v y r h hl := by
    unfold rbind at h
    cases hq : p (u ++ v) with
    | error e => rw [hq] at h; cases h
    | ok w =>
      obtain ⟨x, r'⟩ := w
      rw [hq] at h
      have h1 := (hf x).len _ _ _ h
      obtain ⟨r1, rfl, k1⟩ := hp.pre u v x r' hq (Nat.lt_of_le_of_lt hl h1)
      obtain ⟨r2, rfl, k2⟩ := (hf x).pre r1 v y r h hl
      exact ⟨r2, rfl, fun v' => by unfold rbind; rw [k1 v']; exact k2 v'⟩
theorem Pq.fail {α : Type} (k : Nat) : Pq (rfail k : Rd α) where
  len _ _ _ h := by cases h
  pre _ _ _ _ h := by cases h
theorem Pq.tk {α : Type} {c : Tok → Bool} {p : Tok → Rd α} {q : Rd α} (hp : ∀ a, Pq (p a)) (hq : Pq q) : Pq (rtk c p q) where
  len ts x r h := by
    unfold rtk at h
    split at h
    · have := (hp _).len _ _ _ h
      rw [List.length_tail] at this
      omega
    · exact hq.len _ _ _ h
  pre u v x r h hl := by
    unfold rtk at h
    cases u with
    | nil =>
      exfalso
      have : r.length < ([] ++ v).length := by
        split at h
        · have := (hp _).len _ _ _ h
          rw [List.length_tail] at this
          omega
        · exact hq.len _ _ _ h
      simp at this
      omega
    | cons a u =>
      by_cases hc : c a = true
      · rw [if_pos (show c (hd (a :: u ++ v)) = true from hc)] at h
        obtain ⟨r1, h1, h2⟩ := (hp a).pre u v x r h hl
        refine ⟨r1, h1, fun v' => ?_⟩
        unfold rtk
        rw [if_pos (show c (hd (a :: u ++ v')) = true from hc)]
        exact h2 v'
      · rw [if_neg (show ¬ c (hd (a :: u ++ v)) = true from hc)] at h
        obtain ⟨r1, h1, h2⟩ := hq.pre _ _ _ _ h hl
        refine ⟨r1, h1, fun v' => ?_⟩
        unfold rtk
        rw [if_neg (show ¬ c (hd (a :: u ++ v')) = true from hc)]
        exact h2 v'
theorem Pq.one {α : Type} {c : Tok → Bool} {g : Tok → α} {k : Nat} (h0 : ∀ a, c a = true → a.k ≠ 0) : Pq (rtk c (fun a => rret (g a)) (rfail k)) where
  len ts x r h := by
    unfold rtk at h
    split at h
    · next hc =>
      cases ts with
      | nil => exact absurd rfl (h0 _ hc)
      | cons a s =>
        cases h
        simp
    · cases h
  pre u v x r h hl := by
    unfold rtk at h
    split at h
    · next hc =>
      cases u with
      | nil =>
        exfalso
        simp only [List.nil_append] at h hc
        cases v with
        | nil => exact absurd rfl (h0 _ hc)
        | cons a s =>
          cases h
          simp at hl
          omega
      | cons a u =>
        cases h
        refine ⟨u, rfl, fun v' => ?_⟩
        unfold rtk
        rw [if_pos (show c (hd (a :: u ++ v')) = true from hc)]
        rfl
    · cases h
def rsemi (s : Stm) : Rd Stm := rtk (cis [59]) (fun _ => rret s) (rfail 1)
theorem rsemi_eq (s : Stm) (ts : List Tok) : rsemi s ts = match gexpect [59] ts with
    | .error e => .error e
    | .ok t => .ok (s, t) := by
  unfold rsemi gexpect rtk
  rw [cis_gis]
  by_cases h : cis [59] (hd ts) = true
  · rw [if_pos h, if_pos h]; rfl
  · rw [if_neg h, if_neg h]; rfl
theorem Pq.semi (s : Stm) : Pq (rsemi s) := Pq.one (cis_0 _)
theorem Nt.semi {s t : Stm} (h : SS s t) : Nt SS (rsemi s) (rsemi t) := Nt.tk (cis_hd _) (cis_0 _) (fun _ _ _ _ _ => .ret h) (.fail 1)
theorem LR.refl {R : PosR} (h : ∀ l c, R l c l c) : ∀ ts, LR R ts ts
  | [] => .nil
  | a :: r => .cons ⟨rfl, rfl, h _ _⟩ (LR.refl h r)
def cword (a : Tok) : Bool := decide (a.k = 1) && !decide (gkind a.t = 0)
theorem cword_hd : HdC cword := fun a b h1 h2 => by unfold cword; rw [h1, h2]
theorem cword_0 (a : Tok) (h : cword a = true) : a.k ≠ 0 := by
  unfold cword at h
  rw [Bool.and_eq_true] at h
  have := of_decide_eq_true h.1
  omega
theorem cword_iff (a : Tok) : cword a = true ↔ ¬(gkind a.t = 0 ∨ a.k ≠ 1) := by
  unfold cword
  rw [Bool.and_eq_true, decide_eq_true_iff, Bool.not_eq_true', decide_eq_false_iff_not]
  constructor
  · rintro ⟨h1, h2⟩ (h | h)
    · exact h2 h
    · exact h h1
  · intro h
    refine ⟨Classical.byContradiction fun h1 => h (.inr h1), fun h2 => h (.inl h2)⟩
def rbody (a : Tok) : Rd Stm := if gkQ a.t ≠ 0 then rquery (stm0 (gkind a.t) a) else if gkind a.t = 1 then (rbind rbudget fun b => rret { stm0 1 a with bd := b }) else rdefn (stm0 (gkind a.t) a)
def rstm (n : Nat) : Rd Stm := if 1000 ≤ n then rif cword (rfail 2) (rfail 1) else rtk cword (fun a => rbind (rbody a) rsemi) (rfail 1)
theorem rstm_eq (n : Nat) : gstm n = rstm n := by
  funext ts
  unfold gstm rstm
  by_cases h : gkind (hd ts).t = 0 ∨ (hd ts).k ≠ 1
  · have hc : ¬ cword (hd ts) = true := fun k => (cword_iff _).1 k h
    rw [if_pos h]
    split
    · unfold rif; rw [if_neg hc]; rfl
    · unfold rtk; rw [if_neg hc]; rfl
  · have hc : cword (hd ts) = true := (cword_iff _).2 h
    rw [if_neg h]
    by_cases hn : 1000 ≤ n
    · rw [if_pos hn, if_pos hn]
      unfold rif; rw [if_pos hc]; rfl
    · rw [if_neg hn, if_neg hn]
      unfold rtk
      rw [if_pos hc]
      unfold rbind
      dsimp only
      by_cases c1 : gkQ (hd ts).t ≠ 0
      · have hb : rbody (hd ts) = rquery (stm0 (gkind (hd ts).t) (hd ts)) := by unfold rbody; rw [if_pos c1]
        rw [if_pos c1, hb, ← rquery_eq]
        cases gquery (stm0 (gkind (hd ts).t) (hd ts)) ts.tail with
        | error e => rfl
        | ok q =>
          obtain ⟨s, t1⟩ := q
          dsimp only
          rw [rsemi_eq]
          cases gexpect [59] t1 <;> rfl
      rw [if_neg c1]
      by_cases c2 : gkind (hd ts).t = 1
      · have hb : rbody (hd ts) = rbind rbudget fun b => rret { stm0 1 (hd ts) with bd := b } := by unfold rbody; rw [if_neg c1, if_pos c2]
        rw [if_pos c2, hb, rbudget_eq]
        unfold rbind
        cases rbudget ts.tail with
        | error e => rfl
        | ok q =>
          obtain ⟨b, t1⟩ := q
          dsimp only [rret]
          rw [rsemi_eq]
          cases gexpect [59] t1 <;> rfl
      · have hb : rbody (hd ts) = rdefn (stm0 (gkind (hd ts).t) (hd ts)) := by unfold rbody; rw [if_neg c1, if_neg c2]
        rw [if_neg c2, hb, ← rdefn_eq]
        cases gdefn (stm0 (gkind (hd ts).t) (hd ts)) ts.tail with
        | error e => rfl
        | ok q =>
          obtain ⟨s, t1⟩ := q
          dsimp only
          rw [rsemi_eq]
          cases gexpect [59] t1 <;> rfl
theorem Nt.body {a b : Tok} (h : a.t = b.t) : Nt SS (rbody a) (rbody b) := by
  have hs : ∀ k, SS (stm0 k a) (stm0 k b) := fun k => rfl
  unfold rbody
  rw [h]
  split
  · exact .query (hs _)
  · split
    · exact (Nt.numC _ _ _).bind fun x y hx => .ret (by subst hx; rfl)
    · exact .defn (hs _)
theorem Pf.body (a : Tok) : Pf (rbody a) := by
  unfold rbody
  split
  · exact .query _
  · split
    · exact (Pf.numC _ _ _).bind fun _ => .ret _
    · exact .defn _
theorem Nt.stm (n : Nat) : Nt SS (rstm n) (rstm n) := by
  unfold rstm
  split
  · exact Nt.rif cword_hd (.fail 2) (.fail 1)
  · exact Nt.tk cword_hd cword_0 (fun a b _ h _ => (Nt.body h).bind fun s t hs => .semi hs) (.fail 1)
theorem Pq.stm (n : Nat) : Pq (rstm n) := by
  unfold rstm
  split
  · refine ⟨fun ts x r h => ?_, fun u v x r h => ?_⟩ <;>
    · unfold rif at h
      split at h <;> cases h
  · exact Pq.tk (fun a => .bind (.body a) fun s => .semi s) (.fail 1)
theorem stm_len {n : Nat} {ts r : List Tok} {s : Stm} (h : rstm n ts = .ok (s, r)) : r.length + 2 ≤ ts.length ∧ n < 1000 ∧ (hd ts).k = 1 := by
  unfold rstm at h
  by_cases hn : 1000 ≤ n
  · rw [if_pos hn] at h
    unfold rif at h
    split at h <;> cases h
  · rw [if_neg hn] at h
    unfold rtk at h
    by_cases hc : cword (hd ts) = true
    · rw [if_pos hc] at h
      have h1 := (Pq.bind (Pf.body (hd ts)) fun s => Pq.semi s).len _ _ _ h
      rw [List.length_tail] at h1
      refine ⟨by omega, by omega, ?_⟩
      have := (cword_iff _).1 hc
      exact Classical.byContradiction fun h1 => this (.inr h1)
    · rw [if_neg hc] at h; cases h
theorem rstm_n {n m : Nat} (hn : n < 1000) (hm : m < 1000) : rstm n = rstm m := by
  unfold rstm
  rw [if_neg (by omega), if_neg (by omega)]
inductive SRel (R : PosR) : Except Er (List Stm) → Except Er (List Stm) → Prop
  | ok {x y : List Stm} (h : x.map Stm.clr = y.map Stm.clr) : SRel R (.ok x) (.ok y)
  | er {e e' : Er} (h : ErR R e e') : SRel R (.error e) (.error e')
theorem stms_succ (f n : Nat) (ts : List Tok) : gstmsF (f + 1) n ts = if (hd ts).k = 0 then .ok [] else match rstm n ts with
    | .error e => .error e
    | .ok (s, t1) => match gstmsF f (n + 1) t1 with
      | .error e => .error e
      | .ok ss => .ok (s :: ss) := by
  rw [← rstm_eq]
  rfl
theorem stms_nat {R : PosR} : ∀ (f n : Nat) (ts us : List Tok), GOk ts → LR R ts us → SRel R (gstmsF f n ts) (gstmsF f n us) := by
  intro f
  induction f with
  | zero =>
    intro n ts us hG hL
    cases hL with
    | nil => exact hG.elim
    | cons h _ => exact .er ⟨rfl, h.t, h.p⟩
  | succ f ih =>
    intro n ts us hG hL
    rw [stms_succ, stms_succ]
    have hk : (hd ts).k = (hd us).k := by
      cases hL with
      | nil => rfl
      | cons h _ => exact h.k
    rw [← hk]
    split
    · exact .ok rfl
    · have h := Nt.stm n R ts us hG hL
      generalize rstm n ts = a at h ⊢
      generalize rstm n us = b at h ⊢
      cases h with
      | er h => exact .er h
      | @ok x y r s h k g =>
        have h2 := ih (n + 1) r s g k
        simp only
        generalize gstmsF f (n + 1) r = a at h2 ⊢
        generalize gstmsF f (n + 1) s = b at h2 ⊢
        cases h2 with
        | er h => exact .er h
        | ok h' => exact .ok (by rw [List.map_cons, List.map_cons, h', h])
theorem stms_fuel : ∀ (f f' n : Nat) (ts : List Tok), ts.length < f → ts.length < f' → gstmsF f n ts = gstmsF f' n ts := by
  intro f
  induction f with
  | zero => intro f' n ts h; omega
  | succ f ih =>
    intro f' n ts h h'
    obtain ⟨f', rfl⟩ : ∃ g, f' = g + 1 := ⟨f' - 1, by omega⟩
    rw [stms_succ, stms_succ]
    split
    · rfl
    · cases hs : rstm n ts with
      | error e => rfl
      | ok q =>
        obtain ⟨s, t1⟩ := q
        have := (stm_len hs).1
        simp only
        rw [ih f' (n + 1) t1 (by omega) (by omega)]
theorem stms_n : ∀ (f n m : Nat) (ts : List Tok), 2 * n + ts.length < 2000 → 2 * m + ts.length < 2000 → gstmsF f n ts = gstmsF f m ts := by
  intro f
  induction f with
  | zero => intro n m ts _ _; rfl
  | succ f ih =>
    intro n m ts h1 h2
    rw [stms_succ, stms_succ]
    split
    · rfl
    · rw [rstm_n (show n < 1000 by omega) (show m < 1000 by omega)]
      cases hs : rstm m ts with
      | error e => rfl
      | ok q =>
        obtain ⟨s, t1⟩ := q
        have := (stm_len hs).1
        simp only
        rw [ih (n + 1) (m + 1) t1 (by omega) (by omega)]
theorem stms_app {e : Tok} (he : e.k = 0) : ∀ (f n : Nat) (u : List Tok) (ss : List Stm), GOk (u ++ [e]) → gstmsF f n (u ++ [e]) = .ok ss → ss.length ≤ f ∧ 2 * ss.length ≤ u.length ∧
    ∀ v, GOk v → gstmsF f n (u ++ v) = match gstmsF (f - ss.length) (n + ss.length) v with
      | .error e => .error e
      | .ok ts => .ok (ss ++ ts) := by
  intro f
  induction f with
  | zero => intro n u ss _ h; cases h
  | succ f ih =>
    intro n u ss hG h
    rw [stms_succ] at h
    cases u with
    | nil =>
      rw [if_pos (show (hd ([] ++ [e])).k = 0 from he)] at h
      cases h
      refine ⟨Nat.zero_le _, Nat.zero_le _, fun v _ => ?_⟩
      simp only [List.nil_append, List.length_nil, Nat.sub_zero, Nat.add_zero]
      cases gstmsF (f + 1) n v with
      | error e => rfl
      | ok ts => rfl
    | cons a u =>
      have ha : a.k ≠ 0 := by
        intro h0
        have h1 := GOk.end (a := a) (r := u ++ [e]) hG h0
        simp at h1
      rw [if_neg (show ¬ (hd (a :: u ++ [e])).k = 0 from ha)] at h
      cases hs : rstm n (a :: u ++ [e]) with
      | error e => rw [hs] at h; cases h
      | ok q =>
        obtain ⟨s, t1⟩ := q
        rw [hs] at h
        simp only at h
        cases hr : gstmsF f (n + 1) t1 with
        | error e => rw [hr] at h; cases h
        | ok ss' =>
          rw [hr] at h
          cases h
          have hl := (stm_len hs).1
          have hG1 : GOk t1 := by
            have := Nt.stm n (fun l c l' c' => l = l' ∧ c = c') (a :: u ++ [e]) (a :: u ++ [e]) hG (LR.refl (fun _ _ => ⟨rfl, rfl⟩) _)
            rw [hs] at this
            cases this with
            | ok _ _ g => exact g
          have hpos := hG1.pos
          obtain ⟨r1, rfl, hpre⟩ := (Pq.stm n).pre (a :: u) [e] s t1 hs (by simp only [List.length_singleton]; omega)
          obtain ⟨k1, k2, k3⟩ := ih (n + 1) r1 ss' hG1 hr
          simp only [List.length_append, List.length_cons, List.length_nil] at hl
          refine ⟨by simp only [List.length_cons]; omega, by simp only [List.length_cons]; omega, fun v hv => ?_⟩
          rw [stms_succ, if_neg (show ¬ (hd (a :: u ++ v)).k = 0 from ha), hpre v]
          simp only
          rw [k3 v hv]
          have e1 : f + 1 - (s :: ss').length = f - ss'.length := by simp only [List.length_cons]; omega
          have e2 : n + (s :: ss').length = n + 1 + ss'.length := by simp only [List.length_cons]; omega
          rw [e1, e2]
          cases gstmsF (f - ss'.length) (n + 1 + ss'.length) v with
          | error e => rfl
          | ok ts => rfl
section
variable {P : Program} {C : Ctx} {n : Nat} {F : Fr} {H : LH} {Q : Exit → Fr → LH → Prop}
theorem WP.lowB {c : Code} {b : Nat} {T : TypeId} {cs cs' : List SV} {H' : LH} (hu : HUpd b T cs cs' H H') (hle : LeL cs cs') (k : WP P C n c Q F H') : WP P C n c Q F H := by
  unfold WP at *
  exact fun a w hs => k a w (hs.lowB hu hle)
end
abbrev snT : TypeId := 9
abbrev stn (s : Stm) : List SV := [lit (.int .i64 (s.k : Nat)), lit (.int .i64 (s.l : Nat)), lit (.int .i64 (s.c : Nat)), str s.nm, lit (.int .i64 (s.bd : Nat)), ptsS s.ps, lit (.int .i64 (s.fl : Nat)), lit (.slice none 0 0),
  lit (.bool s.ol.far), rgsS s.ol.rs, chsS s.ol.cs, exS s.e1, exS s.e2, lit (.bool s.px.s), dg s.px.n, dg s.px.d, lit (.bool s.py.s), dg s.py.n, dg s.py.d]
structure NmSt where
  f : Nat
  ts : List Tok
  A : List (List UInt8)
  s : SV
  Hs : LH
structure NmOk (n1 : List UInt8) (t4 : List Tok) (y : NmSt) : Prop where
  gok : GOk y.ts
  len : y.ts.length ≤ y.f
  cnt : y.A.length + y.ts.length ≤ 1000000
  own : Own snT 1 y.A.length (y.A.map nmx).flatten y.s y.Hs
  eq1 : n1 :: (gnamesF gF t4).1 = y.A ++ (gnamesF y.f y.ts).1
  eq2 : (gnamesF gF t4).2 = (gnamesF y.f y.ts).2
theorem gnamesF_t {f : Nat} {ts : List Tok} (h : (hd ts).k = 1 ∧ resv (hd ts).t = false) : gnamesF (f + 1) ts = ((hd ts).t :: (gnamesF f ts.tail).1, (gnamesF f ts.tail).2) := by
  show (if (hd ts).k = 1 ∧ resv (hd ts).t = false then ((hd ts).t :: (gnamesF f ts.tail).1, (gnamesF f ts.tail).2) else ([], ts)) = _
  rw [if_pos h]
theorem gnamesF_f {f : Nat} {ts : List Tok} (h : ¬((hd ts).k = 1 ∧ resv (hd ts).t = false)) : gnamesF f ts = ([], ts) := by
  cases f with
  | zero => rfl
  | succ f => unfold gnamesF; rw [if_neg h]
section
variable {α : Type} {b p : α} {x : List α}
theorem permH : ((x ++ [p]) ++ [b]).Perm (p :: b :: x) := by
  rw [List.append_assoc]
  exact List.perm_append_comm (l₁ := x) (l₂ := [p, b])
theorem permI : (p :: b :: x).Perm ((p :: x) ++ [b]) := List.Perm.cons p (List.perm_append_comm (l₁ := [b]) (l₂ := x))
theorem permJ : (p :: b :: x).Perm (b :: (x ++ [p])) := (List.Perm.swap b p x).trans (List.Perm.cons b (List.perm_append_comm (l₁ := [p]) (l₂ := x)))
end
set_option maxHeartbeats 8000000 in
theorem gdefn_pu [Sent 4] [Sent 3] [Sent 5] (p b : Nat) (ts : List Tok) (hG : GOk ts) (hl : ts.length ≤ 100000) (s0 : SV) (hs : CO s0 [s0]) (s : Stm) (hk : s.k ≤ 100) (hnm : s.nms = []) :
    PuH Tryz.prog 99 [ptrP p, ptrP b] [(p, psT, psC ts 0 s0), (b, stT, stn s)] (QR p b (gdefn s ts)) (fun pv _ => ∃ e, gdefn s ts = .error e ∧ pv = erSV e) := by
  obtain ⟨a, r, rfl, -⟩ := hG.cons
  simp only [List.length_cons] at hl
  have c1 := gname_pu s0 hs p a r 0 (by omega)
  unfold QR gdefn
  refine PuH.intro Tryz.func99 rfl (by kernel_rfl) fun C hC => ?_
  repeat (refine A1 ⟨?_⟩; intros)
  refine WfX c1 ?_ ?_ (hs := Tk.cons (HDel.here _) (Tk.nil _))
  case refine_2 =>
    rintro _ _ ⟨h1, hx⟩
    rw [hC]
    exact ⟨_, by unfold gname; rw [if_neg (show ¬((hd (a :: r)).k = 1 ∧ resv (hd (a :: r)).t = false) from h1)], hx⟩
  rintro _ _ ⟨h1, rfl, rfl⟩
  have hn1 : gname (a :: r) = .ok (a.t, r) := by unfold gname; rw [if_pos (show (hd (a :: r)).k = 1 ∧ resv (hd (a :: r)).t = false from h1)]; rfl
  rw [hn1]
  have g1 : GOk r := hG.tail (by omega)
  clear h1 hG c1
  obtain ⟨a1, r1, rfl, -⟩ := g1.cons
  simp only [List.length_cons] at hl
  have c2 := gexpect_pu s0 hs p a1 r1 0 (by omega) [61]
  simp only [List.cons_append, List.nil_append]
  repeat (refine A1 ⟨?_⟩; intros)
  refine WfX c2 ?_ ?_ (hs := Tk.skip _ (Tk.cons (HDel.here _) (Tk.nil _)))
  case refine_2 =>
    rintro _ _ ⟨e2, hx⟩
    rw [hC]
    exact ⟨_, by rw [hn1]; simp only [e2], hx⟩
  rintro _ _ ⟨e2, h2, rfl, rfl⟩
  rw [e2]
  have g2 := g1.next h2
  clear h2 c2
  simp only [List.cons_append, List.nil_append]
  have hlow : LeL (stn { s with nm := a.t }) (stx { s with nm := a.t }) := by
    unfold stn stx
    rw [hnm]
    repeat (first | exact trivial | refine ⟨?_, ?_⟩ | exact Le.refl _ | exact le_nilK)
  by_cases k2 : s.k = 2
  · have c3 := gpoints_pu s0 hs p r1 g2 0 (by omega)
    rw [if_pos k2]
    refine WPL.lowB (.here _) hlow ?_
    dsimp only [stx]
    repeat (refine A1 ⟨?_⟩; intros)
    refine WfX c3 ?_ ?_ (hs := Tk.skip _ (Tk.cons (HDel.here _) (Tk.nil _)))
    · rintro _ _ ⟨q, t2, e3, rfl, rfl⟩
      rw [e3]
      have g3 := gpts_ok g2 e3
      simp only [List.cons_append, List.nil_append]
      repeat (refine A1 ⟨?_⟩; intros)
      exact endHN _ _ end0 (List.Sublist.refl _) ⟨_, _, _, rfl, g3.1, hs, rfl, rfl⟩
    · rintro _ _ ⟨e, e3, hx⟩
      rw [hC]
      exact ⟨e, by rw [hn1]; simp only [e2, if_pos k2, e3], hx⟩
  rw [if_neg k2]
  by_cases k3 : s.k = 3
  · rw [if_pos k3]
    obtain ⟨a2, r2, rfl, -⟩ := g2.cons
    simp only [List.length_cons] at hl
    have c3 := gfill_pu s0 hs p a2 r2 0 (by omega)
    repeat (refine A1 ⟨?_⟩; intros)
    refine WfX c3 ?_ ?_ (hs := Tk.skip _ (Tk.cons (HDel.here _) (Tk.nil _)))
    case refine_2 =>
      rintro _ _ ⟨e, e3, hx⟩
      rw [hC]
      exact ⟨e, by rw [hn1]; simp only [e2, if_neg k2, if_pos k3, e3], hx⟩
    rintro _ _ ⟨fl, e3, h3, rfl, rfl⟩
    rw [e3]
    have g3 := g2.tail h3
    clear c3 h3
    obtain ⟨a3, r3, rfl, -⟩ := g3.cons
    simp only [List.length_cons] at hl
    simp only [List.cons_append, List.nil_append]
    have c4 := gname_pu s0 hs p a3 r3 0 (by omega)
    repeat (first | (refine AS ⟨?_⟩; intros) | (refine O1 ⟨?_⟩; intros))
    refine WP.perm (List.Perm.swap _ _ _) ?_
    refine WdZ 9 [0, 1, 2, 3, 4, 5, 6, 7, 8] [6, 8] [(p, psT, psC (a3 :: r3) 0 s0)] _ ?_
    refine ZkD 6 ?_
    repeat (refine A1 ⟨?_⟩; intros)
    refine mkZ0 ?_
    refine ZkC c4 (Tk.cons (HDel.here _) (Tk.nil _)) ?_ ?_
    case refine_2 =>
      rintro _ _ ⟨h4, hx⟩
      rw [hC]
      exact ⟨_, by rw [hn1]; simp only [e2, if_neg k2, if_pos k3, e3]; unfold gname; rw [if_neg (show ¬((hd (a3 :: r3)).k = 1 ∧ resv (hd (a3 :: r3)).t = false) from h4)], hx⟩
    rintro _ _ ⟨h4, rfl, rfl⟩
    have hn4 : gname (a3 :: r3) = .ok (a3.t, r3) := by unfold gname; rw [if_pos (show (hd (a3 :: r3)).k = 1 ∧ resv (hd (a3 :: r3)).t = false from h4)]; rfl
    have g4 : GOk r3 := g3.tail (by omega)
    rw [hn4]
    simp only
    clear h4 c4
    refine ZkD 1 ?_
    refine Wdo (ov_bs1 (s := str a3.t) (by repeat (first | exact Parts.nil | (apply Parts.cons; exact Eq.refl (lit _); infer_instance)))) ?_
    repeat (refine A1 ⟨?_⟩; intros)
    refine mkZ0 ?_
    refine ZkA (ds := nmx a3.t) (Own.nil snT 1) (Tk.nil _) (by decide) (fun s' H' hown => ?_)
    have hco' := hown.co
    refine ZkN ?_
    refine WPL.perm permH ?_
    repeat (refine A1 ⟨?_⟩; intros)
    refine Ss ?_
    refine Ws (sv := s') ?_
    repeat (refine A1 ⟨?_⟩; intros)
    have hgF := gF_eq
    refine WP.loopS (ι := NmSt) (NmOk a3.t r3) (fun y => y.ts.length) (fun y => fm [(0, ptrP p), (1, ptrP b)])
      (fun y => (p, psT, psC y.ts 0 s0) :: (b, stT, [lit (.int .i64 (s.k : Nat)), lit (.int .i64 (s.l : Nat)), lit (.int .i64 (s.c : Nat)), str a.t, lit (.int .i64 (s.bd : Nat)), ptsS s.ps, lit (.int .i64 (fl : Nat)), y.s,
        lit (.bool s.ol.far), rgsS s.ol.rs, chsS s.ol.cs, exS s.e1, exS s.e2, lit (.bool s.px.s), dg s.px.n, dg s.px.d, lit (.bool s.py.s), dg s.py.n, dg s.py.d]) :: y.Hs)
      ⟨gF, r3, [a3.t], s', H'⟩ ⟨g4, by simp only; omega, by simp only [List.length_singleton]; omega, hown, rfl, rfl⟩ (by (repeat (first | exact LeF.nil _ | refine LeF.cons (Le.refl _) ?_ | refine LeF.cons (Le.int (by omega)) ?_))) (List.Sublist.refl _) ?_
    rintro ⟨f', ts', A, s2, Hs⟩ ⟨hG', hf', hcnt, hown2, heq1, heq2⟩ K hK
    simp only at hG' hf' hcnt hown2 heq1 heq2 ⊢
    obtain ⟨a4, r4, rfl, -⟩ := hG'.cons
    simp only [List.length_cons] at hf' hcnt
    obtain ⟨f', rfl⟩ : ∃ g, f' = g + 1 := ⟨f' - 1, by omega⟩
    have hco2 := hown2.co
    have c5 := pisName_pu s0 hs a4 r4 0 (by omega)
    by_cases h5 : a4.k = 1 ∧ resv a4.t = false
    · rw [decide_eq_true h5] at c5
      rw [gnamesF_t (show (hd (a4 :: r4)).k = 1 ∧ resv (hd (a4 :: r4)).t = false from h5)] at heq1 heq2
      have g5 : GOk r4 := hG'.tail (by omega)
      clear h5
      have c6 := ptake_pu s0 hs p a4 r4 0 (by omega)
      repeat (refine A1 ⟨?_⟩; intros)
      refine Wo (ov_callT c5 rfl (by repeat (first | exact List.mem_cons_self | apply List.mem_cons_of_mem))) ?_
      repeat (first | (refine AS ⟨?_⟩; intros) | (refine O1 ⟨?_⟩; intros))
      refine WP.perm permI ?_
      refine WdZ 10 [0, 1, 2, 3, 4, 5, 6, 7, 8, 9] [6, 9] ((p, psT, psC (a4 :: r4) 0 s0) :: Hs) _ ?_
      refine ZkD 6 ?_
      repeat (refine A1 ⟨?_⟩; intros)
      refine mkZ0 ?_
      refine ZkC c6 (Tk.cons (HDel.here _) (Tk.nil _)) ?_ (fun _ _ h => h.elim)
      rintro _ _ ⟨rfl, rfl⟩
      refine ZkD 2 ?_
      repeat (refine A1 ⟨?_⟩; intros; try (refine Wdo (ov_bs1 (s := str a4.t) (by repeat (first | exact Parts.nil | (apply Parts.cons; exact Eq.refl (lit _); infer_instance)))) ?_))
      refine mkZ0 ?_
      refine ZkA (ds := nmx a4.t) hown2 (Tk.skip _ (Tk.same _)) (by omega) (fun s3 H3 hown3 => ?_)
      have hco3 := hown3.co
      refine ZkN ?_
      refine WPL.perm permH ?_
      have hgo := fun F' H'' => hK F' H'' ⟨f', r4, A ++ [a4.t], s3, H3⟩ ⟨g5, by simp only; omega, by simp only [List.length_append, List.length_singleton]; omega, by
        simp only
        rw [flat_snoc, List.length_append, List.length_singleton]; exact hown3, by rw [heq1]; simp only [List.append_assoc, List.cons_append, List.nil_append]; rfl, by rw [heq2]; rfl⟩ (by simp only [List.length_cons]; omega)
      clear hK heq1 heq2 hown2 hown3 c5 c6
      repeat (refine A1 ⟨?_⟩; intros)
      refine Ss ?_
      refine Ws (sv := s3) ?_
      repeat (refine A1 ⟨?_⟩; intros)
      exact hgo _ _ (by (repeat (first | exact LeF.nil _ | refine LeF.cons (Le.refl _) ?_ | refine LeF.cons (Le.int (by omega)) ?_))) (List.Sublist.refl _)
    · rw [decide_eq_false h5] at c5
      rw [gnamesF_f (show ¬((hd (a4 :: r4)).k = 1 ∧ resv (hd (a4 :: r4)).t = false) from h5)] at heq1 heq2
      rw [List.append_nil] at heq1
      clear hK h5
      refine WP.pubOwnC (c1 := [_, _, _, _, _, _, _]) (c2 := [_, _, _, _, _, _, _, _, _, _, _]) hown2 permJ ?_
      simp only [List.cons_append, List.nil_append]
      repeat (refine A1 ⟨?_⟩; intros)
      refine Wo (ov_callT c5 rfl (by repeat (first | exact List.mem_cons_self | apply List.mem_cons_of_mem))) ?_
      repeat (refine A1 ⟨?_⟩; intros)
      exact endHN _ _ end0 (List.Sublist.refl _) ⟨{ s with nm := a.t, fl := fl, nms := A }, a4 :: r4, s0, by rw [heq1, heq2], hG', hs, rfl, rfl⟩
  rw [if_neg k3]
  by_cases k4 : s.k = 4
  · rw [if_pos k4]
    have c3 := goutline_pu s0 hs p r1 g2 0 (by omega)
    refine WPL.lowB (.here _) hlow ?_
    dsimp only [stx]
    repeat (refine A1 ⟨?_⟩; intros)
    refine WfX c3 ?_ ?_ (hs := Tk.skip _ (Tk.cons (HDel.here _) (Tk.nil _)))
    · rintro _ _ ⟨o, t2, e3, rfl, rfl⟩
      rw [e3]
      have g3 : GOk t2 := by
        have := Nt.outl (fun l c l' c' => l = l' ∧ c = c') r1 r1 g2 (LR.refl (fun _ _ => ⟨rfl, rfl⟩) _)
        rw [← routl_eq, e3] at this
        cases this with
        | ok _ _ g => exact g
      simp only [List.cons_append, List.nil_append]
      repeat (refine A1 ⟨?_⟩; intros)
      exact endHN _ _ end0 (List.Sublist.refl _) ⟨_, _, _, rfl, g3, hs, rfl, rfl⟩
    · rintro _ _ ⟨e, e3, hx⟩
      rw [hC]
      exact ⟨e, by rw [hn1]; simp only [e2, if_neg k2, if_neg k3, if_pos k4, e3], hx⟩
  rw [if_neg k4]
  have c3 := gexpression_pu p r1 g2 (by omega) s0 hs
  refine WPL.lowB (.here _) hlow ?_
  dsimp only [stx]
  repeat (refine A1 ⟨?_⟩; intros)
  refine WfX c3 ?_ ?_ (hs := Tk.skip _ (Tk.cons (HDel.here _) (Tk.nil _)))
  · rintro v _ ⟨A, x, t1, Hs, ⟨e3, -, g3, -, -⟩, hown, rfl⟩
    have hco := hown.co
    rw [e3]
    simp only [List.cons_append, List.nil_append]
    clear c3
    repeat (first | (refine AS ⟨?_⟩; intros) | (refine O1 ⟨?_⟩; intros))
    refine Ss ?_
    refine Ws (sv := v) ?_
    refine WPL.pubOwnC (c1 := [_, _, _, _, _, _, _, _, _, _, _]) (c2 := [_, _, _, _, _, _, _]) hown permG ?_
    simp only [List.cons_append, List.nil_append]
    repeat (refine A1 ⟨?_⟩; intros)
    exact endHN _ _ end0 (List.Sublist.refl _) ⟨_, _, _, rfl, g3, hco, rfl, rfl⟩
  · rintro _ _ ⟨e, e3, hx⟩
    rw [hC]
    exact ⟨e, by rw [hn1]; simp only [e2, if_neg k2, if_neg k3, if_neg k4, e3], hx⟩
section
variable {P : Program} {F : Fr} {H : LH}
theorem ov_bytes {S D e ty : TypeId} {x : Operand} {l : List UInt8} (hs : P.underlying S = some .string) (hd : P.underlying D = some (.slice e)) (he : P.underlying e = some (.int .u8)) (hx : ev F x = str l) (hl : l.length ≤ 1000000) :
    OpV P (.convert S D x) ty F H (sl (bys l) l.length) := by
  refine OpV.of0 ?_
  intro m w o a ho hty h1 h2 h3 K Q hK
  have e0 := evA h3 (x := x) (by simp [Op.operands]); rw [hx] at e0
  have e0' : a.eval x = .string ⟨l.toArray⟩ := by unfold str at e0; exact lit_p.1 e0
  unfold Oper.wp
  have hsz : (⟨l.toArray⟩ : ByteArray).size = l.length := by simp [ByteArray.size]
  have hr := run_bytes_of_string (P := P) w S D e ⟨l.toArray⟩ hs hd he
  rw [hsz] at hr
  have hrun : (execOp a.eval o).run P w = .ok (.value (.slice (some ⟨w.heap.size, 0, none⟩) l.length (grownCap w l.length 0 e))) (w.drew.alloc (.cells (bytesRow ⟨l.toArray⟩ (grownCap w l.length 0 e)) e ((bytesRow ⟨l.toArray⟩ (grownCap w l.length 0 e)).size, (bytesRow ⟨l.toArray⟩ (grownCap w l.length 0 e)).size + 1))) := by
    simp [execOp, ho, e0', hr]
  rw [hrun]
  obtain ⟨q1, q2⟩ := madd_fresh h1 (o := .cells (bytesRow ⟨l.toArray⟩ (grownCap w l.length 0 e)) e ((bytesRow ⟨l.toArray⟩ (grownCap w l.length 0 e)).size, (bytesRow ⟨l.toArray⟩ (grownCap w l.length 0 e)).size + 1))
  refine hK _ _ _ ?_ q1 q2
  refine sl_mk (grownCap_ge w _ _ _) (grownCap_le_maxLen w _ _ _ (by simp only [maxLen]; omega)) (.inr ⟨w.heap.size, 0, rfl, _, e, _, by unfold madd; rw [if_pos rfl], ?_⟩)
  have hb : (bys l).length = l.length := by unfold bys; simp
  rw [hb, List.drop_zero]
  have ht : (bytesRow ⟨l.toArray⟩ (grownCap w l.length 0 e)).toList.take l.length = l.map fun b => Value.int .u8 b.toNat := by
    unfold bytesRow
    simp
  rw [ht]
  clear ht hb hrun hr e0 e0' hx hsz q1 q2 hl hK
  unfold bys
  generalize madd m w.heap.size _ = m'
  induction l with
  | nil => trivial
  | cons b l ih => exact ⟨⟨lit_p.2 rfl, rfl⟩, ih⟩
end
set_option maxHeartbeats 4000000 in
theorem iatoi_f (l : List UInt8) (h : allD l) (hne : l ≠ []) (hl : l.length ≤ 18) : Pu Tryz.prog 206 [str l] (Ab.tup [lit (.int .i64 (dcv l)), lit .nilIface]) := by
  have hpos : 0 < l.length := List.length_pos_iff.2 hne
  have h0 := h.at hpos
  have e45 : decide (((l.getD 0 0).toNat : Int) = 45) = false := decide_eq_false (by omega)
  have e43 : decide (((l.getD 0 0).toNat : Int) = 43) = false := decide_eq_false (by omega)
  refine Pu.intro Tryz.func206 rfl (by kernel_rfl) fun C => ?_
  repeat (refine A1 ⟨?_⟩; intros)
  rw [e45]
  repeat (refine A1 ⟨?_⟩; intros)
  rw [e43]
  repeat (refine A1 ⟨?_⟩; intros)
  refine Wo (ov_bytes (e := 5) (l := l) (by kernel_rfl) (by kernel_rfl) (by kernel_rfl) rfl (by omega)) ?_
  have hbl : (bys l).length = l.length := by unfold bys; simp
  repeat (refine A1 ⟨?_⟩; intros)
  refine WP.loopS (ι := Nat) (fun i => i ≤ l.length) (fun i => l.length - i)
    (fun i => fm [(5, str l), (6, lit (.int .i64 (dcv (l.take i)))), (47, sl (bys l) l.length), (48, lit (.int .i64 l.length)), (49, lit (.int .i64 i))]) (fun _ => []) 0 (Nat.zero_le _) (by (repeat (first | exact LeF.nil _ | refine LeF.cons (Le.refl _) ?_ | refine LeF.cons (Le.int (by omega)) ?_))) (List.Sublist.refl _) ?_
  intro i hi K hK
  by_cases hlt : i < l.length
  · have hat := h.at hlt
    have hts := dcv_take_succ hlt
    have hb9 := dcv_lt (h.take i)
    have hgo := fun F' H'' => hK F' H'' (i + 1) hlt (by omega)
    rw [hts] at hgo
    have hcell : ((bys l).drop (i * 1)).take 1 = [lit (.int .u8 ((l.getD i 0).toNat : Nat))] := by
      unfold bys
      rw [Nat.mul_one, ← List.map_drop, ← List.map_take, List.drop_eq_getElem_cons hlt, List.take_succ_cons, List.take_zero, List.map_cons, List.map_nil, List.getD, List.getElem?_eq_getElem hlt]
      rfl
    have hp18 : dcv (l.take i) < 10 ^ 17 := by
      refine Nat.lt_of_lt_of_le hb9 (Nat.pow_le_pow_right (by decide) ?_)
      rw [List.length_take]
      omega
    rw [show (10 : Nat) ^ 17 = 100000000000000000 by decide] at hp18
    generalize (l.getD i 0).toNat = ch at *
    generalize dcv (l.take i) = m at *
    clear hts hb9 hK
    repeat (refine A1 ⟨?_⟩; intros)
    refine Wo (ov_idxS (cs' := [lit (.int .u8 (ch : Nat))]) (i := i) rfl rfl (by omega) (by omega) hcell (fun h => by rw [h] at hbl; simp at hbl; omega)) ?_
    repeat (refine A1 ⟨?_⟩; intros)
    exact hgo _ _ (LeF.cons (Le.refl _) (LeF.cons (Le.int (by omega)) (LeF.cons (Le.refl _) (LeF.cons (Le.refl _) (LeF.cons (Le.int (by omega)) (LeF.nil _)))))) (List.Sublist.refl _)
  · have : i = l.length := by omega
    subst this
    clear hK
    rw [List.take_length]
    repeat (refine A1 ⟨?_⟩; intros)
    rw [e45]
    repeat (refine A1 ⟨?_⟩; intros)
    exact endR (end2 (RV.tmp rfl) (RV.tmp rfl) (Le.refl _))
theorem atoi_f (l : List UInt8) (h : allD l) (hne : l ≠ []) (hl : l.length ≤ 18) : Pu Tryz.prog 147 [str l] (Ab.tup [lit (.int .i64 (dcv l)), lit .nilIface]) := by
  have c := iatoi_f l h hne hl
  refine Pu.intro Tryz.func147 rfl (by kernel_rfl) fun C => ?_
  repeat (first | (refine A1 ⟨?_⟩; intros) | (refine Wcx (c) ?_) | (refine Wdcx (c) ?_) | (refine Wcgx (c) ?_) | (refine Wdcgx (c) ?_))
  exact endR (end2 (RV.tmp rfl) (RV.tmp rfl) (Le.refl _))
end Go.Ab
