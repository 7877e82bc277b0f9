/- Texts laid one behind the other: PTe, PTs. -/
import Derived.Test.YtebghnhocigmlaaGreatDoorB27
/- The tokens of a printed expression are read as that expression. -/
namespace Go.Ab
open Go.Proofs
set_option linter.unusedSectionVars false
set_option linter.unusedVariables false
set_option linter.unusedSimpArgs false
variable [Base]
theorem gx_mono : ∀ (n m lv d i : Nat) (ts : List Tok) (acc : Option (List Nd × Ex)) (v : List Nd × Ex × List Tok), n ≤ m → gx n lv d i ts acc = .ok v → gx m lv d i ts acc = .ok v := by
  intro n
  induction n with
  | zero => intro m lv d i ts acc v _ h; unfold gx at h; cases h
  | succ n ih =>
    intro m lv d i ts acc v hm h
    obtain ⟨m, rfl⟩ : ∃ g, m = g + 1 := ⟨m - 1, by omega⟩
    cases acc with
    | none =>
      by_cases l3 : lv = 3
      · subst l3
        rw [gx_3'] at h ⊢
        by_cases c1 : gis ts [126] = true
        · rw [if_pos c1] at h ⊢
          by_cases hd : 200 ≤ d
          · rw [if_pos hd] at h; cases h
          · rw [if_neg hd] at h ⊢
            cases hp : gx n 3 (d + 1) i ts.tail none with
            | error e => rw [hp] at h; cases h
            | ok q => rw [hp] at h; rw [ih m 3 (d + 1) i ts.tail none q (by omega) hp]; exact h
        rw [if_neg c1] at h ⊢
        by_cases c2 : gis ts [40] = true
        · rw [if_pos c2] at h ⊢
          by_cases hd : 200 ≤ d
          · rw [if_pos hd] at h; cases h
          · rw [if_neg hd] at h ⊢
            cases hp : gx n 1 (d + 1) i ts.tail none with
            | error e => rw [hp] at h; cases h
            | ok q => rw [hp] at h; rw [ih m 1 (d + 1) i ts.tail none q (by omega) hp]; exact h
        rw [if_neg c2] at h ⊢
        exact h
      · rw [gx_lv l3] at h ⊢
        cases hp : gx n (lv + 1) d i ts none with
        | error e => rw [hp] at h; cases h
        | ok q =>
          rw [hp] at h
          rw [ih m (lv + 1) d i ts none q (by omega) hp]
          obtain ⟨A, x, ts'⟩ := q
          exact ih m lv d i ts' (some (A, x)) v (by omega) h
    | some p =>
      obtain ⟨A, x⟩ := p
      rw [gx_some] at h ⊢
      by_cases c : gop lv ts = 0
      · rw [if_pos c] at h ⊢; exact h
      · rw [if_neg c] at h ⊢
        cases hp : gx n (lv + 1) d (i + A.length) ts.tail none with
        | error e => rw [hp] at h; cases h
        | ok q =>
          rw [hp] at h
          rw [ih m (lv + 1) d (i + A.length) ts.tail none q (by omega) hp]
          obtain ⟨B, y, ts'⟩ := q
          exact ih m lv d i ts' _ v (by omega) h
/-- the list of a tree, places left out -/
def Ex.fl : Nat → Ex → List Nd
  | _, .leaf n => [n.clr]
  | i, .un _ x => x.fl i ++ [ndU ((i + x.size : Nat) - 1) t0]
  | i, .bi n l r => l.fl i ++ r.fl (i + l.size) ++ [ndB n.op ((i + l.size : Nat) - 1) ((i + l.size + r.size : Nat) - 1) t0]
theorem Ex.fl_len : ∀ (x : Ex) (i : Nat), (x.fl i).length = x.size
  | .leaf _, _ => rfl
  | .un _ x, i => by
    simp only [Ex.fl, List.length_append, List.length_singleton, Ex.size, Ex.fl_len x]; omega
  | .bi _ l r, i => by
    simp only [Ex.fl, List.length_append, List.length_singleton, Ex.size, Ex.fl_len l, Ex.fl_len r]; omega
theorem fl_length {A : List Nd} {x : Ex} {i : Nat} (h : clrL A = x.fl i) : A.length = x.size := by
  have := congrArg List.length h
  rw [Ex.fl_len] at this
  simpa using this
theorem rk_rng (n : Nd) : 1 ≤ rk n ∧ rk n ≤ 3 := by
  unfold rk
  split
  · split <;> omega
  · omega
theorem pdp_1 (x : Ex) : pdp 1 x = x.dep := by
  unfold pdp
  have := rk_rng x.top
  rw [if_neg (by omega)]
theorem pdp_le (lv : Int) (x : Ex) : x.dep ≤ pdp lv x ∧ pdp lv x ≤ x.dep + 1 := by
  unfold pdp
  split <;> omega
theorem pdp_mono {a b : Int} (h : a ≤ b) (x : Ex) : pdp a x ≤ pdp b x := by
  unfold pdp
  split <;> split <;> omega
def Ex.ptk (lv : Int) (x : Ex) : List Tok := tpar (decide (rk x.top < lv)) x.tks
theorem ptk_1 (x : Ex) : x.ptk 1 = x.tks := by
  unfold Ex.ptk
  have := rk_rng x.top
  rw [decide_eq_false (by omega)]; rfl
theorem ptk_in {x : Ex} {lv : Int} (h : lv ≤ rk x.top) : x.ptk lv = x.tks := by
  unfold Ex.ptk
  rw [decide_eq_false (by omega)]; rfl
theorem ptk_out {x : Ex} {lv : Int} (h : rk x.top < lv) : x.ptk lv = tkS 40 :: (x.tks ++ [tkS 41]) := by
  unfold Ex.ptk
  rw [decide_eq_true h]; rfl
/-! numbers and points -/
theorem gratS_tk {neg : Bool} {x : Rat} (hs : neg = decide (x.num < 0)) (ts : List Tok) (hn : gis ts [47] = false) : gratS neg ((tkD (dec x.num.natAbs) :: (if x.den = 1 then [] else [tkS 47, tkD (dec x.den)])) ++ ts) = .ok (x, ts) := by
  have hv : sv neg (dcv (dec x.num.natAbs)) = x.num := by
    rw [dcv_dec, hs]
    unfold sv
    by_cases h : x.num < 0
    · rw [decide_eq_true h]
      show -((x.num.natAbs : Nat) : Int) = x.num
      omega
    · rw [decide_eq_false h]
      show ((x.num.natAbs : Nat) : Int) = x.num
      omega
  unfold gratS
  have g1 : ∀ w r, gnum (tkD w :: r) = .ok (w, r) := fun w r => rfl
  rw [List.cons_append, g1]
  simp only
  by_cases hd : x.den = 1
  · rw [if_pos hd, List.nil_append, if_neg (by rw [hn]; decide), hv]
    have : mkRat x.num 1 = x := by
      have h2 := Rat.mkRat_self x
      rw [hd] at h2
      exact h2
    rw [this]
  · rw [if_neg hd]
    have g2 : gis ([tkS 47, tkD (dec x.den)] ++ ts) [47] = true := rfl
    have g3 : ([tkS 47, tkD (dec x.den)] ++ ts).tail = tkD (dec x.den) :: ts := rfl
    rw [if_pos g2, g3, g1]
    simp only
    rw [dcv_dec, if_neg x.den_nz, hv, Rat.mkRat_self]
theorem grat_tk (x : Rat) (ts : List Tok) (hn : gis ts [47] = false) : grat (tkQ x ++ ts) = .ok (x, ts) := by
  unfold grat tkQ
  by_cases h : x.num < 0
  · rw [if_pos h]
    have g1 : ∀ r : List Tok, gis (tkS 45 :: r) [45] = true := fun r => rfl
    rw [List.append_assoc, List.cons_append, if_pos (g1 _)]
    exact gratS_tk (decide_eq_true h).symm ts hn
  · rw [if_neg h]
    rw [List.nil_append, if_neg (show ¬ gis ((tkD (dec x.num.natAbs) :: (if x.den = 1 then [] else [tkS 47, tkD (dec x.den)])) ++ ts) [45] = true from by rw [List.cons_append, gis_cons]; simp)]
    exact gratS_tk (decide_eq_false h).symm ts hn
theorem gexpect_tk (b : UInt8) (ts : List Tok) : gexpect [b] (tkS b :: ts) = .ok ts := by
  unfold gexpect
  rw [if_pos (by rw [gis_cons]; simp)]
  rfl
theorem gpt_tk (p : Rat × Rat) (ts : List Tok) : gpt (tkP p ++ ts) = .ok (p, ts) := by
  unfold gpt tkP
  simp only [List.append_assoc, List.cons_append, List.nil_append]
  rw [gexpect_tk]
  simp only
  rw [grat_tk p.1 _ rfl]
  simp only
  rw [gexpect_tk]
  simp only
  rw [grat_tk p.2 _ rfl]
  simp only
  rw [gexpect_tk]
/-! expressions -/
theorem gis_w {w s : List UInt8} {r : List Tok} (h : s ≠ w) : gis (tkN w :: r) s = false := by
  rw [gis_cons, Bool.and_eq_false_iff]
  right
  exact decide_eq_false (fun e => h e.symm)
theorem nmOk_ne {w : List UInt8} (h : nmOk w = true) : [126] ≠ w ∧ [40] ≠ w ∧ wAll ≠ w ∧ wNone ≠ w ∧ wHalf ≠ w := by
  refine ⟨?_, ?_, ?_, ?_, ?_⟩ <;> (intro e; rw [← e] at h; revert h; decide)
theorem gx_leaf {n : Nd} (h : LfB n) (m d i : Nat) (ts : List Tok) : ∃ A x, clrL A = [n.clr] ∧ gx (m + 1) 3 d i ((Ex.leaf n).tks ++ ts) none = .ok (A, x, ts) := by
  rcases h with ⟨w, hw, e⟩ | e | e | ⟨p, q, hp, hq, e⟩
  · obtain ⟨e1, e2, -⟩ := clr_k e
    have k1 : n.k = 1 := e1
    obtain ⟨n1, n2, n3, n4, n5⟩ := nmOk_ne hw
    rw [show (Ex.leaf n).tks = [tkN n.nm] from by unfold Ex.tks; rw [if_pos k1], show n.nm = w from e2]
    refine ⟨[ndN (tkN w)], .leaf (ndN (tkN w)), by rw [e]; rfl, ?_⟩
    rw [gx_3']
    simp only [List.cons_append, List.nil_append]
    rw [if_neg (by rw [gis_w n1]; decide), if_neg (by rw [gis_w n2]; decide)]
    unfold leafE
    rw [if_neg (by rw [gis_w n3]; decide), if_neg (by rw [gis_w n4]; decide), if_neg (by rw [gis_w n5]; decide), if_pos ⟨rfl, (nmOk_wd hw).2⟩]
    rfl
  · obtain ⟨e1, -⟩ := clr_k e
    have k2 : n.k = 2 := e1
    have k1 : ¬ n.k = 1 := by omega
    rw [show (Ex.leaf n).tks = [tkN wAll] from by unfold Ex.tks; rw [if_neg k1, if_pos k2]]
    exact ⟨[ndA 2 (tkN wAll)], .leaf (ndA 2 (tkN wAll)), by rw [e]; rfl, rfl⟩
  · obtain ⟨e1, -⟩ := clr_k e
    have k3 : n.k = 3 := e1
    have k1 : ¬ n.k = 1 := by omega
    have k2 : ¬ n.k = 2 := by omega
    rw [show (Ex.leaf n).tks = [tkN wNone] from by unfold Ex.tks; rw [if_neg k1, if_neg k2, if_pos k3]]
    exact ⟨[ndA 3 (tkN wNone)], .leaf (ndA 3 (tkN wNone)), by rw [e]; rfl, rfl⟩
  · obtain ⟨e1, -, e3, e4, e5, e6⟩ := clr_k e
    have k4 : n.k = 4 := e1
    have k1 : ¬ n.k = 1 := by omega
    have k2 : ¬ n.k = 2 := by omega
    have k3 : ¬ n.k = 3 := by omega
    rw [show (Ex.leaf n).tks = tkN wHalf :: (tkP (n.a.v, n.b.v) ++ tkP (n.c.v, n.e.v)) from by unfold Ex.tks; rw [if_neg k1, if_neg k2, if_neg k3], e3, e4, e5, e6]
    show ∃ A x, clrL A = [n.clr] ∧ gx (m + 1) 3 d i (tkN wHalf :: (tkP ((RQ.of p.1).v, (RQ.of p.2).v) ++ tkP ((RQ.of q.1).v, (RQ.of q.2).v)) ++ ts) none = .ok (A, x, ts)
    rw [RQ.of_v, RQ.of_v, RQ.of_v, RQ.of_v, List.cons_append, List.append_assoc]
    refine ⟨[ndH p q (tkN wHalf)], .leaf (ndH p q (tkN wHalf)), by rw [e]; rfl, ?_⟩
    rw [gx_3']
    rw [if_neg (by rw [gis_w (by decide)]; decide), if_neg (by rw [gis_w (by decide)]; decide)]
    unfold leafE
    rw [if_neg (by rw [gis_w (by decide)]; decide), if_neg (by rw [gis_w (by decide)]; decide), if_pos (show gis (tkN wHalf :: (tkP (p.1, p.2) ++ (tkP (q.1, q.2) ++ ts))) wHalf = true from rfl)]
    simp only [List.tail_cons]
    rw [gpt_tk]
    simp only
    rw [gpt_tk]
    rfl
/-- read at level 3 -/
def M3 (x : Ex) (K : Nat) : Prop := ∀ (d i : Nat) (ts : List Tok), d + pdp 3 x ≤ 200 → ∃ A z, clrL A = x.fl i ∧ gx K 3 d i (x.ptk 3 ++ ts) none = .ok (A, z, ts)
/-- read at a lower level -/
def M2 (lv : Nat) (x : Ex) (K : Nat) : Prop := ∀ (d i : Nat) (ts : List Tok), d + pdp lv x ≤ 200 → (lv = 1 → gop 2 ts = 0) → ∃ A z, clrL A = x.fl i ∧ ∀ n v, gx n lv d i ts (some (A, z)) = .ok v → gx (n + K) lv d i (x.ptk lv ++ ts) none = .ok v
theorem M3.mono {x : Ex} {K L : Nat} (h : M3 x K) (hk : K ≤ L) : M3 x L := fun d i ts hd => by
  obtain ⟨A, z, h1, h2⟩ := h d i ts hd
  exact ⟨A, z, h1, gx_mono _ _ _ _ _ _ _ _ hk h2⟩
theorem M2.mono {lv : Nat} {x : Ex} {K L : Nat} (h : M2 lv x K) (hk : K ≤ L) : M2 lv x L := fun d i ts hd hs => by
  obtain ⟨A, z, h1, h2⟩ := h d i ts hd hs
  exact ⟨A, z, h1, fun n v hv => gx_mono _ _ _ _ _ _ _ _ (by omega) (h2 n v hv)⟩
theorem M2.of2 {x : Ex} {K : Nat} (h : M3 x K) (hr : rk x.top ≠ 2) : M2 2 x (K + 1) := fun d i ts hd _ => by
  have hrk := rk_rng x.top
  have e1 : x.ptk ((2 : Nat) : Int) = x.ptk 3 := by
    by_cases h1 : rk x.top = 1
    · rw [ptk_out (by show rk x.top < 2; omega), ptk_out (by omega)]
    · rw [ptk_in (by show 2 ≤ rk x.top; omega), ptk_in (by omega)]
  have e2 : pdp 3 x = pdp ((2 : Nat) : Int) x := by
    show pdp 3 x = pdp 2 x
    unfold pdp
    split <;> split <;> omega
  obtain ⟨A, z, h1, h2⟩ := h d i ts (by omega)
  refine ⟨A, z, h1, fun n v hv => ?_⟩
  rw [← Nat.add_assoc, gx_lv (by decide), e1, gx_mono K (n + K) (2 + 1) d i _ none _ (by omega) h2]
  exact gx_mono n (n + K) 2 d i ts _ v (by omega) hv
theorem gx_end {lv : Nat} {ts : List Tok} (h : gop lv ts = 0) (n d i : Nat) (A : List Nd) (z : Ex) : gx (n + 1) lv d i ts (some (A, z)) = .ok (A, z, ts) := by
  rw [gx_some, if_pos h]
theorem M2.of1 {x : Ex} {K : Nat} (h : M2 2 x K) (hr : 2 ≤ rk x.top) : M2 1 x (K + 2) := fun d i ts hd hs => by
  have e1 : x.ptk ((1 : Nat) : Int) = x.ptk ((2 : Nat) : Int) := by
    rw [ptk_in (by show 1 ≤ rk x.top; omega), ptk_in (by show 2 ≤ rk x.top; omega)]
  have e2 : pdp ((2 : Nat) : Int) x = pdp ((1 : Nat) : Int) x := by
    show pdp 2 x = pdp 1 x
    unfold pdp
    rw [if_neg (by omega), if_neg (by omega)]
  obtain ⟨A, z, h1, h2⟩ := h d i ts (by omega) (fun h => by cases h)
  refine ⟨A, z, h1, fun n v hv => ?_⟩
  have h3 := h2 1 _ (gx_end (hs rfl) 0 d i A z)
  rw [show n + (K + 2) = (n + K + 1) + 1 by omega, gx_lv (by decide), e1, gx_mono (1 + K) (n + K + 1) (1 + 1) d i _ none _ (by omega) h3]
  exact gx_mono n (n + K + 1) 1 d i ts _ v (by omega) hv
theorem M3.paren {x : Ex} {K : Nat} (h : M2 1 x K) (hr : rk x.top < 3) : M3 x (K + 2) := fun d i ts hd => by
  have e2 : pdp 3 x = x.dep + 1 := by unfold pdp; rw [if_pos hr]
  have e3 : pdp ((1 : Nat) : Int) x = x.dep := pdp_1 x
  have e4 : x.ptk ((1 : Nat) : Int) = x.tks := ptk_1 x
  obtain ⟨A, z, h1, h2⟩ := h (d + 1) i (tkS 41 :: ts) (by omega) (fun _ => rfl)
  refine ⟨A, z, h1, ?_⟩
  have h3 := h2 1 _ (gx_end (show gop 1 (tkS 41 :: ts) = 0 from rfl) 0 (d + 1) i A z)
  rw [e4] at h3
  rw [ptk_out hr, gx_3']
  simp only [List.cons_append, List.append_assoc, List.nil_append]
  rw [if_neg (show ¬ gis (tkS 40 :: (x.tks ++ tkS 41 :: ts)) [126] = true from by rw [gis_cons]; simp), if_pos (show gis (tkS 40 :: (x.tks ++ tkS 41 :: ts)) [40] = true from rfl), if_neg (by omega)]
  simp only [List.tail_cons]
  rw [gx_mono (1 + K) (K + 1) 1 (d + 1) i _ none _ (by omega) h3]
  simp only
  rw [if_pos (show gis (tkS 41 :: ts) [41] = true from rfl)]
  rfl
theorem rk_un {n : Nd} (h : n.k = 5) : rk n = 3 := by unfold rk; rw [if_neg (by omega)]
theorem M3.un {n : Nd} {x : Ex} {K : Nat} (hn : n.k = 5) (h : M3 x K) : M3 (.un n x) (K + 1) := fun d i ts hd => by
  have hr : rk (Ex.un n x).top = 3 := rk_un hn
  have e1 : pdp 3 (.un n x) = pdp 3 x + 1 := by
    unfold pdp
    rw [if_neg (by omega)]
    rfl
  obtain ⟨A, z, h1, h2⟩ := h (d + 1) i ts (by omega)
  have hl := fl_length h1
  refine ⟨A ++ [ndU ((i + A.length : Nat) - 1) (tkS 126)], .un (ndU ((i + A.length : Nat) - 1) (tkS 126)) z, ?_, ?_⟩
  · rw [clrL, List.map_append]
    have h1' : A.map Nd.clr = x.fl i := h1
    rw [h1', hl]
    rfl
  · rw [ptk_in (by omega), gx_3']
    show (if gis (tkS 126 :: (x.ptk 3 ++ ts)) [126] = true then _ else _) = _
    rw [if_pos (show gis (tkS 126 :: (x.ptk 3 ++ ts)) [126] = true from rfl), if_neg (by omega)]
    show (match gx K 3 (d + 1) i (x.ptk 3 ++ ts) none with
      | .ok (A, x, ts') => _
      | .error e => _) = _
    rw [h2]
    rfl
theorem gop_tk {lv : Nat} {op : Int} (h : (lv = 1 ∧ (op = 1 ∨ op = 3 ∨ op = 4)) ∨ (lv = 2 ∧ op = 2)) (r : List Tok) : gop lv (tkS (opS op) :: r) = op := by
  rcases h with ⟨rfl, rfl | rfl | rfl⟩ | ⟨rfl, rfl⟩ <;> rfl
theorem gop2_tk {op : Int} (h : op = 1 ∨ op = 3 ∨ op = 4) (r : List Tok) : gop 2 (tkS (opS op) :: r) = 0 := by
  rcases h with rfl | rfl | rfl <;> rfl
/-- an operator between what binds well enough -/
theorem M2.core {lv : Nat} {n : Nd} {l r : Ex} {K L : Nat} (hk : n.k = 6) (hop : (lv = 1 ∧ (n.op = 1 ∨ n.op = 3 ∨ n.op = 4)) ∨ (lv = 2 ∧ n.op = 2)) (hl : M2 lv l K)
    (hr : ∀ (d i : Nat) (ts : List Tok), d + pdp (lv + 1 : Nat) r ≤ 200 → (lv = 1 → gop 2 ts = 0) → ∃ A z, clrL A = r.fl i ∧ gx L (lv + 1) d i (r.ptk (lv + 1 : Nat) ++ ts) none = .ok (A, z, ts)) : M2 lv (.bi n l r) (K + L + 1) := fun d i ts hd hs => by
  have hrn : rk n = (lv : Int) := by
    unfold rk
    rw [if_pos hk]
    rcases hop with ⟨rfl, h⟩ | ⟨rfl, h⟩
    · rw [if_neg (by omega)]; rfl
    · rw [if_pos h]; rfl
  have htop : rk (Ex.bi n l r).top = (lv : Int) := hrn
  have e1 : pdp lv (.bi n l r) = max (pdp lv l) (pdp (lv + 1 : Nat) r) := by
    show (if rk (Ex.bi n l r).top < (lv : Int) then _ else _) = _
    rw [if_neg (by omega)]
    show max (if rk l.top < rk n then l.dep + 1 else l.dep) (if rk r.top < rk n + 1 then r.dep + 1 else r.dep) = _
    rw [hrn]
    rfl
  have e2 : (Ex.bi n l r).ptk lv = l.ptk lv ++ tkS (opS n.op) :: r.ptk (lv + 1 : Nat) := by
    rw [ptk_in (by omega)]
    show tpar (decide (rk l.top < rk n)) l.tks ++ tkS (opS n.op) :: tpar (decide (rk r.top < rk n + 1)) r.tks = _
    rw [hrn]
    rfl
  obtain ⟨A, z, a1, a2⟩ := hl d i (tkS (opS n.op) :: (r.ptk (lv + 1 : Nat) ++ ts)) (by omega) (fun h => by
    rcases hop with ⟨_, h'⟩ | ⟨h', _⟩
    · exact gop2_tk h' _
    · omega)
  have hAl := fl_length a1
  obtain ⟨B, y, b1, b2⟩ := hr d (i + A.length) ts (by omega) hs
  have hBl := fl_length b1
  refine ⟨A ++ B ++ [ndB n.op ((i + A.length : Nat) - 1) ((i + A.length + B.length : Nat) - 1) (tkS (opS n.op))], .bi (ndB n.op ((i + A.length : Nat) - 1) ((i + A.length + B.length : Nat) - 1) (tkS (opS n.op))) z y, ?_, fun m v hv => ?_⟩
  · rw [clrL, List.map_append, List.map_append]
    have a1' : A.map Nd.clr = l.fl i := a1
    have b1' : B.map Nd.clr = r.fl (i + A.length) := b1
    rw [a1', b1', hAl, hBl]
    rfl
  · have h1 := a2 (m + L + 1) v (by
      rw [gx_some, gop_tk hop, if_neg (by omega)]
      simp only [List.tail_cons]
      rw [gx_mono L (m + L) (lv + 1) d (i + A.length) _ none _ (by omega) b2]
      exact gx_mono m (m + L) lv d i ts _ v (by omega) hv)
    rw [e2, List.append_assoc, List.cons_append]
    exact gx_mono _ _ _ _ _ _ _ _ (by omega) h1
/-- what is printed is read -/
theorem ex_read : ∀ (x : Ex), x.wf → M3 x (16 * x.size) ∧ M2 2 x (16 * x.size) ∧ M2 1 x (16 * x.size)
  | .leaf n, h => by
    have hk : n.k ≠ 6 := by
      rcases h with ⟨w, _, e⟩ | e | e | ⟨p, q, _, _, e⟩ <;> (obtain ⟨e1, -⟩ := clr_k e; intro h6; rw [h6] at e1; simp [ndN, ndA, ndH] at e1)
    have hr : rk (Ex.leaf n).top = 3 := by show rk n = 3; unfold rk; rw [if_neg hk]
    have h3 : M3 (.leaf n) 1 := fun d i ts _ => by
      rw [ptk_in (by omega)]
      exact gx_leaf h 0 d i ts
    have h2 := M2.of2 h3 (by omega)
    have h1 := M2.of1 h2 (by omega)
    exact ⟨h3.mono (by simp only [Ex.size]; omega), h2.mono (by simp only [Ex.size]; omega), h1.mono (by simp only [Ex.size]; omega)⟩
  | .un n x, h => by
    have hr : rk (Ex.un n x).top = 3 := rk_un h.1
    have h3 := M3.un h.1 (ex_read x h.2).1
    have h2 := M2.of2 h3 (by omega)
    have h1 := M2.of1 h2 (by omega)
    exact ⟨h3.mono (by simp only [Ex.size]; omega), h2.mono (by simp only [Ex.size]; omega), h1.mono (by simp only [Ex.size]; omega)⟩
  | .bi n l r, h => by
    obtain ⟨hk, ⟨h1, h4⟩, hl, hr⟩ := h
    obtain ⟨l3, l2, l1⟩ := ex_read l hl
    obtain ⟨r3, r2, r1⟩ := ex_read r hr
    by_cases ho : n.op = 2
    · have hrn : rk (Ex.bi n l r).top = 2 := by show rk n = 2; unfold rk; rw [if_pos hk, if_pos ho]
      have c2 := M2.core (lv := 2) hk (.inr ⟨rfl, ho⟩) l2 (fun d i ts hd _ => r3 d i ts hd)
      have c1 := M2.of1 c2 (by omega)
      have c3 := M3.paren c1 (by omega)
      exact ⟨c3.mono (by simp only [Ex.size]; omega), c2.mono (by simp only [Ex.size]; omega), c1.mono (by simp only [Ex.size]; omega)⟩
    · have hrn : rk (Ex.bi n l r).top = 1 := by show rk n = 1; unfold rk; rw [if_pos hk, if_neg ho]
      have c1 := M2.core (lv := 1) (L := 1 + 16 * r.size) hk (.inl ⟨rfl, by omega⟩) l1 (fun d i ts hd hs => by
        obtain ⟨A, z, g1, g2⟩ := r2 d i ts hd (fun h => by cases h)
        exact ⟨A, z, g1, g2 1 _ (gx_end (hs rfl) 0 d i A z)⟩)
      have c3 := M3.paren c1 (by omega)
      have c2 := M2.of2 c3 (by omega)
      exact ⟨c3.mono (by simp only [Ex.size]; omega), c2.mono (by simp only [Ex.size]; omega), c1.mono (by simp only [Ex.size]; omega)⟩
theorem gexp_tk {x : Ex} (h : x.wf) (hd : x.dep ≤ 200) (hs : x.size ≤ 60000) {ts : List Tok} (h1 : gop 1 ts = 0) (h2 : gop 2 ts = 0) : ∃ A z, clrL A = x.fl 0 ∧ gexp (x.tks ++ ts) = .ok (A, z, ts) := by
  have e3 : pdp ((1 : Nat) : Int) x = x.dep := pdp_1 x
  have e4 : x.ptk ((1 : Nat) : Int) = x.tks := ptk_1 x
  obtain ⟨A, z, g1, g2⟩ := (ex_read x h).2.2 0 0 ts (by omega) (fun _ => h2)
  have g3 := g2 1 _ (gx_end h1 0 0 0 A z)
  rw [e4] at g3
  have hF := gF_eq
  exact ⟨A, z, g1, gx_mono _ gF _ _ _ _ _ _ (by omega) g3⟩
end Go.Ab
/- Printed statements are read as these statements, but for their places. -/
namespace Go.Ab
open Go.Proofs
set_option linter.unusedSectionVars false
set_option linter.unusedVariables false
set_option linter.unusedSimpArgs false
variable [Base]
/-- the first word of a statement -/
def kw : Nat → List UInt8
  | 1 => [98, 117, 100, 103, 101, 116]
  | 2 => [114, 105, 110, 103]
  | 3 => [114, 101, 103, 105, 111, 110]
  | 4 => [111, 117, 116, 108, 105, 110, 101]
  | 5 => [108, 101, 116]
  | 6 => [97, 114, 101, 97]
  | 7 => [99, 101, 110, 116, 114, 111, 105, 100]
  | 8 => [99, 108, 97, 115, 115, 105, 102, 121]
  | 9 => [101, 109, 112, 116, 121]
  | 10 => [101, 113, 117, 97, 108]
  | 11 => [115, 117, 98, 115, 101, 116]
  | 12 => [99, 101, 108, 108, 115]
  | 13 => [110, 111, 100, 101, 115]
  | 14 => [112, 97, 114, 116, 115]
  | 15 => [101, 120, 112, 111, 114, 116]
  | _ => []
/-- the tree of a list -/
def exT (A : List Nd) : Ex := match stk A 0 [] with
  | some [(t, _)] => t
  | _ => .leaf (ndA 2 t0)
theorem exT_of {A : List Nd} {x : Ex} (h : Rn A 0 x) : exT A = x := by
  unfold exT
  rw [h.1 []]
/-- an expression's list that was read -/
def ExB (A : List Nd) : Prop := ∃ x : Ex, Rn A 0 x ∧ clrL A = x.fl 0 ∧ x.wf ∧ x.dep ≤ 200 ∧ x.size ≤ 60000
def PsB (ps : List (Rat × Rat)) : Prop := ps ≠ [] ∧ ps.length ≤ 60000 ∧ ∀ p ∈ ps, PtB p
def txRs (rs : List (List (Rat × Rat))) : List UInt8 := (rs.map fun r => [32, 114, 105, 110, 103] ++ (txPs r ++ [59])).flatten
def tkRs (rs : List (List (Rat × Rat))) : List Tok := (rs.map fun r => tkN [114, 105, 110, 103] :: (tkPs r ++ [tkS 59])).flatten
def txCs (cs : List Chn) : List UInt8 := (cs.map fun c => [32, 99, 104, 97, 105, 110, 32] ++ (txP c.a ++ (txPs c.m ++ (32 :: (txP c.b ++ [59]))))).flatten
def tkCs (cs : List Chn) : List Tok := (cs.map fun c => tkN [99, 104, 97, 105, 110] :: (tkP c.a ++ (tkPs c.m ++ (tkP c.b ++ [tkS 59])))).flatten
def OlB (o : Otl) : Prop := (o.rs.length ≤ 60000 ∧ ∀ r ∈ o.rs, PsB r) ∧ (o.cs.length ≤ 60000 ∧ ∀ c ∈ o.cs, PtB c.a ∧ PtB c.b ∧ PsB c.m)
def txOl (o : Otl) : List UInt8 := 123 :: ((if o.far = true then [32, 102, 97, 114] else []) ++ (txRs o.rs ++ (txCs o.cs ++ [32, 125])))
def tkOl (o : Otl) : List Tok := tkS 123 :: ((if o.far = true then [tkN [102, 97, 114]] else []) ++ (tkRs o.rs ++ (tkCs o.cs ++ [tkS 125])))
def txNs (l : List (List UInt8)) : List UInt8 := (l.map fun w => 32 :: w).flatten
def tkNs (l : List (List UInt8)) : List Tok := l.map tkN
def fw (k : Nat) : List UInt8 := if k = 1 then [101, 118, 101, 110, 111, 100, 100] else [110, 111, 110, 122, 101, 114, 111]
/-- a statement's text behind its word and name -/
def txB (s : Stm) : List UInt8 :=
  if s.k = 1 then dec s.bd else if s.k = 2 then txPs s.ps else if s.k = 3 then 32 :: fw s.fl ++ txNs s.nms else if s.k = 4 then 32 :: txOl s.ol
  else if s.k = 5 then 32 :: (exT s.e1).txt else if s.k = 8 then (exT s.e1).txt ++ (32 :: txP (s.px.v, s.py.v)) else if s.k = 10 ∨ s.k = 11 then (exT s.e1).txt ++ ([44, 32] ++ (exT s.e2).txt) else (exT s.e1).txt
def tkB (s : Stm) : List Tok :=
  if s.k = 1 then [tkD (dec s.bd)] else if s.k = 2 then tkPs s.ps else if s.k = 3 then tkN (fw s.fl) :: tkNs s.nms else if s.k = 4 then tkOl s.ol
  else if s.k = 5 then (exT s.e1).tks else if s.k = 8 then (exT s.e1).tks ++ tkP (s.px.v, s.py.v) else if s.k = 10 ∨ s.k = 11 then (exT s.e1).tks ++ (tkS 44 :: (exT s.e2).tks) else (exT s.e1).tks
def txS (s : Stm) : List UInt8 := kw s.k ++ [32] ++ (if 2 ≤ s.k ∧ s.k ≤ 5 then s.nm ++ [32, 61] else []) ++ txB s ++ [59]
def tkSt (s : Stm) : List Tok := tkN (kw s.k) :: ((if 2 ≤ s.k ∧ s.k ≤ 5 then [tkN s.nm, tkS 61] else []) ++ (tkB s ++ [tkS 59]))
/-- a statement that was read -/
inductive StB : Stm → Prop
  | bd (a : Tok) (n : Nat) (h : n ≤ 65536) : StB { stm0 1 a with bd := n }
  | ring (a : Tok) (nm : List UInt8) (ps : List (Rat × Rat)) (hn : nmOk nm = true) (hp : PsB ps) : StB { stm0 2 a with nm := nm, ps := ps }
  | reg (a : Tok) (nm : List UInt8) (fl : Nat) (n1 : List UInt8) (l : List (List UInt8)) (hn : nmOk nm = true) (hf : fl = 1 ∨ fl = 2) (h1 : nmOk n1 = true) (hl : ∀ w ∈ l, nmOk w = true) (hll : l.length ≤ 60000) : StB { stm0 3 a with nm := nm, fl := fl, nms := n1 :: l }
  | outl (a : Tok) (nm : List UInt8) (o : Otl) (hn : nmOk nm = true) (ho : OlB o) : StB { stm0 4 a with nm := nm, ol := o }
  | lt (a : Tok) (nm : List UInt8) (A : List Nd) (hn : nmOk nm = true) (hA : ExB A) : StB { stm0 5 a with nm := nm, e1 := A }
  | qry (a : Tok) (k : Nat) (A : List Nd) (hk : k = 6 ∨ k = 7 ∨ k = 9 ∨ k = 12 ∨ k = 13 ∨ k = 14 ∨ k = 15) (hA : ExB A) : StB { stm0 k a with e1 := A }
  | cls (a : Tok) (A : List Nd) (p : Rat × Rat) (hA : ExB A) (hp : PtB p) : StB { stm0 8 a with e1 := A, px := RQ.of p.1, py := RQ.of p.2 }
  | two (a : Tok) (k : Nat) (A B : List Nd) (hk : k = 10 ∨ k = 11) (hA : ExB A) (hB : ExB B) : StB { stm0 k a with e1 := A, e2 := B }
/-! tokens -/
theorem LexTo.rings {l : List UInt8} {ts : List Tok} (h : LexTo l ts) : ∀ {rs : List (List (Rat × Rat))}, (∀ r ∈ rs, PsB r) → LexTo (txRs rs ++ l) (tkRs rs ++ ts)
  | [], _ => h
  | r :: rs, hr => by
    have ih := LexTo.rings h (rs := rs) fun q hq => hr q (List.mem_cons_of_mem _ hq)
    have hr0 := hr r List.mem_cons_self
    unfold txRs tkRs at ih ⊢
    simp only [List.map_cons, List.flatten_cons, List.append_assoc, List.cons_append, List.nil_append]
    have h1 := (ih.sgn (b := 59) (by decide)).pts hr0.2.2
    obtain ⟨p, ps, rfl⟩ : ∃ p ps, r = p :: ps := List.exists_cons_of_ne_nil hr0.1
    refine LexTo.blank (b := 32) ?_ (by decide)
    exact LexTo.word (w := [114, 105, 110, 103]) h1 (Wd.of (by decide)) (Stp.cons (by decide) _)
theorem LexTo.chains {l : List UInt8} {ts : List Tok} (h : LexTo l ts) : ∀ {cs : List Chn}, (∀ c ∈ cs, PtB c.a ∧ PtB c.b ∧ PsB c.m) → LexTo (txCs cs ++ l) (tkCs cs ++ ts)
  | [], _ => h
  | c :: cs, hc => by
    have ih := LexTo.chains h (cs := cs) fun q hq => hc q (List.mem_cons_of_mem _ hq)
    obtain ⟨ha, hb, hm⟩ := hc c List.mem_cons_self
    unfold txCs tkCs at ih ⊢
    simp only [List.map_cons, List.flatten_cons, List.append_assoc, List.cons_append, List.nil_append]
    have h1 := (((ih.sgn (b := 59) (by decide)).pt hb).blank (b := 32) (by decide)).pts hm.2.2
    refine LexTo.blank (b := 32) ?_ (by decide)
    exact LexTo.word (w := [99, 104, 97, 105, 110]) ((h1.pt ha).blank (b := 32) (by decide)) (Wd.of (by decide)) (Stp.cons (by decide) _)
theorem Stp.rs {l : List UInt8} (h : Stp l) (rs : List (List (Rat × Rat))) : Stp (txRs rs ++ l) := by
  cases rs with
  | nil => exact h
  | cons r rs => exact Stp.cons (by decide) _
theorem Stp.cs {l : List UInt8} (h : Stp l) (cs : List Chn) : Stp (txCs cs ++ l) := by
  cases cs with
  | nil => exact h
  | cons r rs => exact Stp.cons (by decide) _
theorem LexTo.ol {l : List UInt8} {ts : List Tok} (h : LexTo l ts) {o : Otl} (ho : OlB o) : LexTo (txOl o ++ l) (tkOl o ++ ts) := by
  have h1 := (LexTo.chains (LexTo.sgn h (b := 125) (by decide) |>.blank (b := 32) (by decide)) ho.2.2).rings ho.1.2
  unfold txOl tkOl
  simp only [List.append_assoc, List.cons_append, List.nil_append]
  refine LexTo.sgn ?_ (b := 123) (by decide)
  cases o.far with
  | false => exact h1
  | true => exact (LexTo.word (w := [102, 97, 114]) h1 (Wd.of (by decide)) (Stp.rs (Stp.cs (Stp.cons (by decide) _) _) _)).blank (b := 32) (by decide)
theorem LexTo.names {l : List UInt8} {ts : List Tok} (h : LexTo l ts) (hl : Stp l) : ∀ {ns : List (List UInt8)}, (∀ w ∈ ns, nmOk w = true) → LexTo (txNs ns ++ l) (tkNs ns ++ ts)
  | [], _ => h
  | w :: ns, hw => by
    have ih := LexTo.names h hl (ns := ns) fun q hq => hw q (List.mem_cons_of_mem _ hq)
    have hs : Stp (txNs ns ++ l) := by
      cases ns with
      | nil => exact hl
      | cons r rs => exact Stp.cons (by decide) _
    unfold txNs tkNs at ih ⊢
    simp only [List.map_cons, List.flatten_cons, List.append_assoc, List.cons_append]
    exact (ih.word (nmOk_wd (hw w List.mem_cons_self)).1 hs).blank (b := 32) (by decide)
theorem LexTo.exB {l : List UInt8} {ts : List Tok} (h : LexTo l ts) (hl : Stp l) {A : List Nd} (hA : ExB A) : LexTo ((exT A).txt ++ l) ((exT A).tks ++ ts) := by
  obtain ⟨x, h1, -, h3, -⟩ := hA
  rw [exT_of h1]
  exact LexTo.ex h3 h hl
theorem kw_wd {k : Nat} (h1 : 1 ≤ k) (h2 : k ≤ 15) : Wd (kw k) := by
  have : k = 1 ∨ k = 2 ∨ k = 3 ∨ k = 4 ∨ k = 5 ∨ k = 6 ∨ k = 7 ∨ k = 8 ∨ k = 9 ∨ k = 10 ∨ k = 11 ∨ k = 12 ∨ k = 13 ∨ k = 14 ∨ k = 15 := by omega
  rcases this with rfl | rfl | rfl | rfl | rfl | rfl | rfl | rfl | rfl | rfl | rfl | rfl | rfl | rfl | rfl <;> exact Wd.of (by decide)
theorem fw_wd (k : Nat) : Wd (fw k) := by
  unfold fw
  split <;> exact Wd.of (by decide)
theorem LexTo.head {l : List UInt8} {ts : List Tok} (h : LexTo l ts) {k : Nat} (h1 : 1 ≤ k) (h2 : k ≤ 15) : LexTo (kw k ++ (32 :: l)) (tkN (kw k) :: ts) :=
  (h.blank (b := 32) (by decide)).word (kw_wd h1 h2) (Stp.cons (by decide) _)
theorem LexTo.named {l : List UInt8} {ts : List Tok} (h : LexTo l ts) {nm : List UInt8} (hn : nmOk nm = true) : LexTo (nm ++ (32 :: 61 :: l)) (tkN nm :: tkS 61 :: ts) :=
  ((h.sgn (b := 61) (by decide)).blank (b := 32) (by decide)).word (nmOk_wd hn).1 (Stp.cons (by decide) _)
theorem dec_bd {n : Nat} (h : n ≤ 65536) : (dec n).length ≤ 5 := dec_le (by omega) (by omega)
theorem LexTo.st {l : List UInt8} {ts : List Tok} (h : LexTo l ts) {s : Stm} (hs : StB s) : LexTo (txS s ++ l) (tkSt s ++ ts) := by
  have h59 : LexTo (59 :: l) (tkS 59 :: ts) := h.sgn (by decide)
  have s59 : Stp (59 :: l) := Stp.cons (by decide) _
  cases hs with
  | bd a n hn =>
    show LexTo (kw 1 ++ [32] ++ [] ++ dec n ++ [59] ++ l) (tkN (kw 1) :: ([] ++ ([tkD (dec n)] ++ [tkS 59])) ++ ts)
    simp only [List.append_assoc, List.cons_append, List.nil_append]
    have := dec_bd hn
    exact (h59.num (dec_D n).1 (dec_D n).2 (by omega) s59).head (by decide) (by decide)
  | ring a nm ps hn hp =>
    show LexTo (kw 2 ++ [32] ++ (nm ++ [32, 61]) ++ txPs ps ++ [59] ++ l) (tkN (kw 2) :: ([tkN nm, tkS 61] ++ (tkPs ps ++ [tkS 59])) ++ ts)
    simp only [List.append_assoc, List.cons_append, List.nil_append]
    exact ((h59.pts hp.2.2).named hn).head (by decide) (by decide)
  | reg a nm fl n1 ns hn hf h1 hl hll =>
    show LexTo (kw 3 ++ [32] ++ (nm ++ [32, 61]) ++ (32 :: fw fl ++ txNs (n1 :: ns)) ++ [59] ++ l) (tkN (kw 3) :: ([tkN nm, tkS 61] ++ ((tkN (fw fl) :: tkNs (n1 :: ns)) ++ [tkS 59])) ++ ts)
    simp only [List.append_assoc, List.cons_append, List.nil_append]
    have h2 := h59.names s59 (ns := n1 :: ns) fun w hw => by
      rcases List.mem_cons.1 hw with rfl | hw
      · exact h1
      · exact hl w hw
    exact (((h2.word (fw_wd fl) (Stp.cons (by decide) _)).blank (b := 32) (by decide)).named hn).head (by decide) (by decide)
  | outl a nm o hn ho =>
    show LexTo (kw 4 ++ [32] ++ (nm ++ [32, 61]) ++ (32 :: txOl o) ++ [59] ++ l) (tkN (kw 4) :: ([tkN nm, tkS 61] ++ (tkOl o ++ [tkS 59])) ++ ts)
    simp only [List.append_assoc, List.cons_append, List.nil_append]
    exact (((h59.ol ho).blank (b := 32) (by decide)).named hn).head (by decide) (by decide)
  | lt a nm A hn hA =>
    show LexTo (kw 5 ++ [32] ++ (nm ++ [32, 61]) ++ (32 :: (exT A).txt) ++ [59] ++ l) (tkN (kw 5) :: ([tkN nm, tkS 61] ++ ((exT A).tks ++ [tkS 59])) ++ ts)
    simp only [List.append_assoc, List.cons_append, List.nil_append]
    exact (((h59.exB s59 hA).blank (b := 32) (by decide)).named hn).head (by decide) (by decide)
  | qry a k A hk hA =>
    have e1 : txS { stm0 k a with e1 := A } = kw k ++ [32] ++ [] ++ (exT A).txt ++ [59] := by
      rcases hk with rfl | rfl | rfl | rfl | rfl | rfl | rfl <;> rfl
    have e2 : tkSt { stm0 k a with e1 := A } = tkN (kw k) :: ([] ++ ((exT A).tks ++ [tkS 59])) := by
      rcases hk with rfl | rfl | rfl | rfl | rfl | rfl | rfl <;> rfl
    rw [e1, e2]
    simp only [List.append_assoc, List.cons_append, List.nil_append]
    exact (h59.exB s59 hA).head (by omega) (by omega)
  | cls a A p hA hp =>
    show LexTo (kw 8 ++ [32] ++ [] ++ ((exT A).txt ++ (32 :: txP ((RQ.of p.1).v, (RQ.of p.2).v))) ++ [59] ++ l) (tkN (kw 8) :: ([] ++ ((exT A).tks ++ tkP ((RQ.of p.1).v, (RQ.of p.2).v) ++ [tkS 59])) ++ ts)
    rw [RQ.of_v, RQ.of_v]
    simp only [List.append_assoc, List.cons_append, List.nil_append]
    exact (((h59.pt hp).blank (b := 32) (by decide)).exB (Stp.cons (by decide) _) hA).head (by decide) (by decide)
  | two a k A B hk hA hB =>
    have e1 : txS { stm0 k a with e1 := A, e2 := B } = kw k ++ [32] ++ [] ++ ((exT A).txt ++ ([44, 32] ++ (exT B).txt)) ++ [59] := by
      rcases hk with rfl | rfl <;> rfl
    have e2 : tkSt { stm0 k a with e1 := A, e2 := B } = tkN (kw k) :: ([] ++ ((exT A).tks ++ (tkS 44 :: (exT B).tks) ++ [tkS 59])) := by
      rcases hk with rfl | rfl <;> rfl
    rw [e1, e2]
    simp only [List.append_assoc, List.cons_append, List.nil_append]
    exact ((((h59.exB s59 hB).blank (b := 32) (by decide)).sgn (b := 44) (by decide)).exB (Stp.cons (by decide) _) hA).head (by omega) (by omega)
/-! reading -/
theorem gptsF_tk {ts : List Tok} (h : gis ts [40] = false) : ∀ (ps : List (Rat × Rat)) (f : Nat), ps ≠ [] → ps.length ≤ f → gptsF f (tkPs ps ++ ts) = .ok (ps, ts)
  | [], _, h0, _ => absurd rfl h0
  | p :: ps, 0, _, hf => by simp at hf
  | p :: ps, f + 1, _, hf => by
    have e : tkPs (p :: ps) ++ ts = tkP p ++ (tkPs ps ++ ts) := by
      unfold tkPs; rw [List.map_cons, List.flatten_cons, List.append_assoc]
    rw [e]
    unfold gptsF
    rw [gpt_tk]
    simp only
    cases ps with
    | nil =>
      rw [show tkPs [] ++ ts = ts from rfl, if_neg (by rw [h]; decide)]
    | cons q qs =>
      have hg : gis (tkPs (q :: qs) ++ ts) [40] = true := by
        unfold tkPs tkP
        rw [List.map_cons, List.flatten_cons, List.append_assoc, List.cons_append]
        rfl
      rw [if_pos hg, gptsF_tk h (q :: qs) f (by simp) (by simp only [List.length_cons] at hf ⊢; omega)]
theorem gpts_tk {ts : List Tok} (h : gis ts [40] = false) {ps : List (Rat × Rat)} (hp : PsB ps) : gpts (tkPs ps ++ ts) = .ok (ps, ts) :=
  gptsF_tk h ps gF hp.1 (by have := gF_eq; have := hp.2.1; omega)
theorem gname_tk {w : List UInt8} (h : nmOk w = true) (ts : List Tok) : gname (tkN w :: ts) = .ok (w, ts) := by
  unfold gname
  rw [if_pos ⟨rfl, (nmOk_wd h).2⟩]
  rfl
theorem gnamesF_tk {b : UInt8} {ts : List Tok} : ∀ (l : List (List UInt8)) (f : Nat), (∀ w ∈ l, nmOk w = true) → l.length ≤ f → gnamesF f (tkNs l ++ tkS b :: ts) = (l, tkS b :: ts)
  | [], 0, _, _ => rfl
  | [], f + 1, _, _ => by
    unfold gnamesF
    exact if_neg (fun h => by have h1 : (3 : Nat) = 1 := h.1; omega)
  | w :: l, 0, _, hf => by simp at hf
  | w :: l, f + 1, hw, hf => by
    have ih := gnamesF_tk (b := b) (ts := ts) l f (fun q hq => hw q (List.mem_cons_of_mem _ hq)) (by simp only [List.length_cons] at hf; omega)
    have e : tkNs (w :: l) ++ tkS b :: ts = tkN w :: (tkNs l ++ tkS b :: ts) := rfl
    rw [e]
    unfold gnamesF
    rw [if_pos (show (hd (tkN w :: (tkNs l ++ tkS b :: ts))).k = 1 ∧ resv (hd (tkN w :: (tkNs l ++ tkS b :: ts))).t = false from ⟨rfl, (nmOk_wd (hw w List.mem_cons_self)).2⟩)]
    simp only [List.tail_cons]
    rw [ih]
    rfl
theorem golF_cs {ts : List Tok} : ∀ (cs : List Chn) (f : Nat) (o : Otl), (∀ c ∈ cs, PtB c.a ∧ PtB c.b ∧ PsB c.m) → cs.length < f → golF f (tkCs cs ++ tkS 125 :: ts) o = .ok ({ o with cs := o.cs ++ cs }, ts)
  | [], 0, _, _, hf => by simp at hf
  | [], f + 1, o, _, _ => by
    unfold golF
    rw [if_pos (show gis (tkCs [] ++ tkS 125 :: ts) [125] = true from rfl), List.append_nil]
    rfl
  | c :: cs, 0, _, _, hf => by simp at hf
  | c :: cs, f + 1, o, hc, hf => by
    obtain ⟨ha, hb, hm⟩ := hc c List.mem_cons_self
    have e : tkCs (c :: cs) ++ tkS 125 :: ts = tkN [99, 104, 97, 105, 110] :: (tkP c.a ++ (tkPs (c.m ++ [c.b]) ++ (tkS 59 :: (tkCs cs ++ tkS 125 :: ts)))) := by
      unfold tkCs tkPs
      simp only [List.map_cons, List.flatten_cons, List.append_assoc, List.cons_append, List.nil_append, List.map_append, List.flatten_append, List.map_nil, List.flatten_nil]
    rw [e]
    have hl : (c.m ++ [c.b]).length = c.m.length + 1 := by simp
    have hpos : 0 < c.m.length := List.length_pos_iff.2 hm.1
    unfold golF
    rw [if_neg (by rw [gis_w (by decide)]; decide), if_neg (by rw [gis_w (by decide)]; decide), if_pos (show gis (tkN [99, 104, 97, 105, 110] :: (tkP c.a ++ (tkPs (c.m ++ [c.b]) ++ (tkS 59 :: (tkCs cs ++ tkS 125 :: ts))))) [99, 104, 97, 105, 110] = true from rfl)]
    simp only [List.tail_cons]
    rw [gpt_tk]
    simp only
    have hF := gF_eq
    have := hm.2.1
    unfold gpts
    rw [gptsF_tk (ts := tkS 59 :: (tkCs cs ++ tkS 125 :: ts)) rfl (c.m ++ [c.b]) gF (by simp) (by omega)]
    simp only
    rw [if_neg (by omega), gexpect_tk]
    simp only
    rw [golF_cs cs f _ (fun q hq => hc q (List.mem_cons_of_mem _ hq)) (by simp only [List.length_cons] at hf; omega)]
    have e1 : (c.m ++ [c.b]).getLast?.getD (0, 0) = c.b := by rw [List.getLast?_concat]; rfl
    have e2 : (c.m ++ [c.b]).dropLast = c.m := List.dropLast_concat
    rw [e1, e2]
    simp only [List.append_assoc, List.cons_append, List.nil_append]
theorem golF_rs {cs : List Chn} {ts : List Tok} (hc : ∀ c ∈ cs, PtB c.a ∧ PtB c.b ∧ PsB c.m) : ∀ (rs : List (List (Rat × Rat))) (f : Nat) (o : Otl), (∀ r ∈ rs, PsB r) → rs.length + cs.length < f → golF f (tkRs rs ++ (tkCs cs ++ tkS 125 :: ts)) o = .ok ({ o with rs := o.rs ++ rs, cs := o.cs ++ cs }, ts)
  | [], f, o, _, hf => by
    have h := golF_cs (ts := ts) cs f o hc (by simp at hf; omega)
    rw [show tkRs [] ++ (tkCs cs ++ tkS 125 :: ts) = tkCs cs ++ tkS 125 :: ts from rfl, h, List.append_nil]
  | r :: rs, 0, _, _, hf => by simp at hf
  | r :: rs, f + 1, o, hr, hf => by
    have hr0 := hr r List.mem_cons_self
    have e : tkRs (r :: rs) ++ (tkCs cs ++ tkS 125 :: ts) = tkN [114, 105, 110, 103] :: (tkPs r ++ (tkS 59 :: (tkRs rs ++ (tkCs cs ++ tkS 125 :: ts)))) := by
      unfold tkRs
      simp only [List.map_cons, List.flatten_cons, List.append_assoc, List.cons_append, List.nil_append]
    rw [e]
    unfold golF
    rw [if_neg (by rw [gis_w (by decide)]; decide), if_pos (show gis (tkN [114, 105, 110, 103] :: (tkPs r ++ (tkS 59 :: (tkRs rs ++ (tkCs cs ++ tkS 125 :: ts))))) [114, 105, 110, 103] = true from rfl)]
    simp only [List.tail_cons]
    rw [gpts_tk rfl hr0]
    simp only
    rw [gexpect_tk]
    simp only
    rw [golF_rs hc rs f _ (fun q hq => hr q (List.mem_cons_of_mem _ hq)) (by simp only [List.length_cons] at hf; omega)]
    simp only [List.append_assoc, List.cons_append, List.nil_append]
theorem goutl_tk {o : Otl} (ho : OlB o) (ts : List Tok) : goutl (tkOl o ++ ts) = .ok (o, ts) := by
  obtain ⟨⟨h1, h2⟩, h3, h4⟩ := ho
  have hF := gF_eq
  have h := fun b => golF_rs (ts := ts) h4 o.rs gF ⟨b, [], []⟩ h2 (by omega)
  unfold goutl tkOl
  simp only [List.append_assoc, List.cons_append, List.nil_append]
  rw [gexpect_tk]
  simp only
  obtain ⟨b, rs, cs⟩ := o
  cases b with
  | true =>
    simp only [if_true]
    rw [if_pos (show gis ([tkN [102, 97, 114]] ++ (tkRs rs ++ (tkCs cs ++ tkS 125 :: ts))) [102, 97, 114] = true from rfl)]
    exact h true
  | false =>
    simp only [Bool.false_eq_true, if_false, List.nil_append]
    rw [if_neg ?_]
    · exact h false
    · cases rs with
      | cons r rs => exact (by decide : ¬ (false = true))
      | nil =>
        cases cs with
        | cons c cs => exact (by decide : ¬ (false = true))
        | nil => exact (by decide : ¬ (false = true))
theorem gexpB_tk {A : List Nd} (hA : ExB A) {ts : List Tok} (h1 : gop 1 ts = 0) (h2 : gop 2 ts = 0) : ∃ B z, clrL B = clrL A ∧ gexp ((exT A).tks ++ ts) = .ok (B, z, ts) := by
  obtain ⟨x, g1, g2, g3, g4, g5⟩ := hA
  rw [exT_of g1, g2]
  exact gexp_tk g3 g4 g5 h1 h2
theorem gstm_kw {k : Nat} (h1 : 1 ≤ k) (h2 : k ≤ 15) (r : List Tok) : (hd (tkN (kw k) :: r)).t = kw k ∧ gkind (kw k) = k ∧ (gkQ (kw k) ≠ 0 ↔ 6 ≤ k) := by
  refine ⟨rfl, ?_⟩
  have : k = 1 ∨ k = 2 ∨ k = 3 ∨ k = 4 ∨ k = 5 ∨ k = 6 ∨ k = 7 ∨ k = 8 ∨ k = 9 ∨ k = 10 ∨ k = 11 ∨ k = 12 ∨ k = 13 ∨ k = 14 ∨ k = 15 := by omega
  rcases this with rfl | rfl | rfl | rfl | rfl | rfl | rfl | rfl | rfl | rfl | rfl | rfl | rfl | rfl | rfl <;> exact ⟨by decide, by decide⟩
theorem gstm_tk {n k : Nat} (hn : n < 1000) (h1 : 1 ≤ k) (h2 : k ≤ 15) {r ts : List Tok} {s : Stm}
    (h : (if 6 ≤ k then gquery (stm0 k (tkN (kw k))) r else if k = 1 then (match gbudget r with
        | .error e => .error e
        | .ok (b, t1) => .ok ({ stm0 1 (tkN (kw k)) with bd := b }, t1))
      else gdefn (stm0 k (tkN (kw k))) r) = .ok (s, tkS 59 :: ts)) : gstm n (tkN (kw k) :: r) = .ok (s, ts) := by
  obtain ⟨e1, e2, e3⟩ := gstm_kw h1 h2 r
  have e4 : (hd (tkN (kw k) :: r)).k = 1 := rfl
  have e5 : hd (tkN (kw k) :: r) = tkN (kw k) := rfl
  unfold gstm
  rw [e1, e2, if_neg (by rw [e4]; omega), if_neg (by omega), e5, List.tail_cons]
  by_cases h6 : 6 ≤ k
  · rw [if_pos h6] at h
    rw [if_pos (e3.2 h6), h]
    simp only
    rw [gexpect_tk]
  · rw [if_neg h6] at h
    rw [if_neg (fun h => h6 (e3.1 h))]
    have h' : (if k = 1 then (match gbudget r with
        | .error e => .error e
        | .ok (b, t1) => .ok ({ stm0 1 (tkN (kw k)) with bd := b }, t1))
      else gdefn (stm0 k (tkN (kw k))) r) = Except.ok (s, tkS 59 :: ts) := h
    refine Eq.trans (congrArg (fun z : Except Er (Stm × List Tok) => match z with
      | .error e => Except.error e
      | .ok (s, t1) => match gexpect [59] t1 with
        | .error e => Except.error e
        | .ok t2 => Except.ok (s, t2)) h') ?_
    simp only
    rw [gexpect_tk]
theorem st_tk {s : Stm} (hs : StB s) {n : Nat} (hn : n < 1000) (ts : List Tok) : ∃ s', s'.clr = s.clr ∧ gstm n (tkSt s ++ ts) = .ok (s', ts) := by
  cases hs with
  | bd a m hm =>
    show ∃ s', _ ∧ gstm n (tkN (kw 1) :: ([] ++ ([tkD (dec m)] ++ [tkS 59])) ++ ts) = _
    simp only [List.append_assoc, List.cons_append, List.nil_append]
    refine ⟨{ stm0 1 (tkN (kw 1)) with bd := m }, rfl, gstm_tk hn (by decide) (by decide) ?_⟩
    rw [if_neg (by decide), if_pos rfl]
    unfold gbudget
    rw [show gnum (tkD (dec m) :: tkS 59 :: ts) = .ok (dec m, tkS 59 :: ts) from rfl]
    simp only
    rw [dcv_dec, if_neg (by omega)]
  | ring a nm ps hnm hp =>
    show ∃ s', _ ∧ gstm n (tkN (kw 2) :: ([tkN nm, tkS 61] ++ (tkPs ps ++ [tkS 59])) ++ ts) = _
    simp only [List.append_assoc, List.cons_append, List.nil_append]
    refine ⟨{ stm0 2 (tkN (kw 2)) with nm := nm, ps := ps }, rfl, gstm_tk hn (by decide) (by decide) ?_⟩
    rw [if_neg (by decide), if_neg (by decide)]
    unfold gdefn
    rw [gname_tk hnm]
    simp only
    rw [gexpect_tk]
    simp only
    rw [if_pos (show (stm0 2 (tkN (kw 2))).k = 2 from rfl), gpts_tk rfl hp]
  | reg a nm fl n1 l hnm hf h1 hl hll =>
    show ∃ s', _ ∧ gstm n (tkN (kw 3) :: ([tkN nm, tkS 61] ++ ((tkN (fw fl) :: tkNs (n1 :: l)) ++ [tkS 59])) ++ ts) = _
    simp only [List.append_assoc, List.cons_append, List.nil_append]
    refine ⟨{ stm0 3 (tkN (kw 3)) with nm := nm, fl := fl, nms := n1 :: l }, rfl, gstm_tk hn (by decide) (by decide) ?_⟩
    rw [if_neg (by decide), if_neg (by decide)]
    unfold gdefn
    rw [gname_tk hnm]
    simp only
    rw [gexpect_tk]
    simp only
    have hfl : ∀ r, gfill (tkN (fw fl) :: r) = .ok (fl, r) := fun r => by rcases hf with rfl | rfl <;> rfl
    rw [if_neg (show ¬ (stm0 3 (tkN (kw 3))).k = 2 from by decide), if_pos (show (stm0 3 (tkN (kw 3))).k = 3 from rfl), hfl]
    simp only
    have hF := gF_eq
    rw [show tkNs (n1 :: l) ++ tkS 59 :: ts = tkN n1 :: (tkNs l ++ tkS 59 :: ts) from rfl, gname_tk h1]
    simp only
    rw [gnamesF_tk l gF hl (by omega)]
  | outl a nm o hnm ho =>
    show ∃ s', _ ∧ gstm n (tkN (kw 4) :: ([tkN nm, tkS 61] ++ (tkOl o ++ [tkS 59])) ++ ts) = _
    simp only [List.append_assoc, List.cons_append, List.nil_append]
    refine ⟨{ stm0 4 (tkN (kw 4)) with nm := nm, ol := o }, rfl, gstm_tk hn (by decide) (by decide) ?_⟩
    rw [if_neg (by decide), if_neg (by decide)]
    unfold gdefn
    rw [gname_tk hnm]
    simp only
    rw [gexpect_tk]
    simp only
    rw [if_neg (show ¬ (stm0 4 (tkN (kw 4))).k = 2 from by decide), if_neg (show ¬ (stm0 4 (tkN (kw 4))).k = 3 from by decide), if_pos (show (stm0 4 (tkN (kw 4))).k = 4 from rfl), goutl_tk ho]
  | lt a nm A hnm hA =>
    show ∃ s', _ ∧ gstm n (tkN (kw 5) :: ([tkN nm, tkS 61] ++ ((exT A).tks ++ [tkS 59])) ++ ts) = _
    simp only [List.append_assoc, List.cons_append, List.nil_append]
    obtain ⟨B, z, b1, b2⟩ := gexpB_tk hA (ts := tkS 59 :: ts) rfl rfl
    refine ⟨{ stm0 5 (tkN (kw 5)) with nm := nm, e1 := B }, ?_, gstm_tk hn (by decide) (by decide) ?_⟩
    · unfold Stm.clr
      simp only [b1]
      rfl
    rw [if_neg (by decide), if_neg (by decide)]
    unfold gdefn
    rw [gname_tk hnm]
    simp only
    rw [gexpect_tk]
    simp only
    rw [if_neg (show ¬ (stm0 5 (tkN (kw 5))).k = 2 from by decide), if_neg (show ¬ (stm0 5 (tkN (kw 5))).k = 3 from by decide), if_neg (show ¬ (stm0 5 (tkN (kw 5))).k = 4 from by decide), b2]
  | qry a k A hk hA =>
    have e2 : tkSt { stm0 k a with e1 := A } = tkN (kw k) :: ([] ++ ((exT A).tks ++ [tkS 59])) := by
      rcases hk with rfl | rfl | rfl | rfl | rfl | rfl | rfl <;> rfl
    rw [e2]
    simp only [List.append_assoc, List.cons_append, List.nil_append]
    obtain ⟨B, z, b1, b2⟩ := gexpB_tk hA (ts := tkS 59 :: ts) rfl rfl
    refine ⟨{ stm0 k (tkN (kw k)) with e1 := B }, ?_, gstm_tk hn (by omega) (by omega) ?_⟩
    · unfold Stm.clr
      simp only [b1]
      rfl
    rw [if_pos (by omega)]
    unfold gquery
    rw [b2]
    simp only
    have hk' : (stm0 k (tkN (kw k))).k = k := rfl
    rw [if_neg (by rw [hk']; omega), if_neg (by rw [hk']; omega)]
  | cls a A p hA hp =>
    show ∃ s', _ ∧ gstm n (tkN (kw 8) :: ([] ++ ((exT A).tks ++ tkP ((RQ.of p.1).v, (RQ.of p.2).v) ++ [tkS 59])) ++ ts) = _
    rw [RQ.of_v, RQ.of_v]
    simp only [List.append_assoc, List.cons_append, List.nil_append]
    obtain ⟨B, z, b1, b2⟩ := gexpB_tk hA (ts := tkP (p.1, p.2) ++ tkS 59 :: ts) rfl rfl
    refine ⟨{ stm0 8 (tkN (kw 8)) with e1 := B, px := RQ.of p.1, py := RQ.of p.2 }, ?_, gstm_tk hn (by decide) (by decide) ?_⟩
    · unfold Stm.clr
      simp only [b1]
      rfl
    rw [if_pos (by decide)]
    unfold gquery
    rw [b2]
    simp only
    rw [if_pos (show (stm0 8 (tkN (kw 8))).k = 8 from rfl), gpt_tk]
  | two a k A B hk hA hB =>
    have e2 : tkSt { stm0 k a with e1 := A, e2 := B } = tkN (kw k) :: ([] ++ ((exT A).tks ++ (tkS 44 :: (exT B).tks) ++ [tkS 59])) := by
      rcases hk with rfl | rfl <;> rfl
    rw [e2]
    simp only [List.append_assoc, List.cons_append, List.nil_append]
    obtain ⟨A', z, a1, a2⟩ := gexpB_tk hA (ts := tkS 44 :: ((exT B).tks ++ tkS 59 :: ts)) rfl rfl
    obtain ⟨B', z', b1, b2⟩ := gexpB_tk hB (ts := tkS 59 :: ts) rfl rfl
    refine ⟨{ stm0 k (tkN (kw k)) with e1 := A', e2 := B' }, ?_, gstm_tk hn (by omega) (by omega) ?_⟩
    · unfold Stm.clr
      simp only [a1, b1]
      rfl
    rw [if_pos (by omega)]
    unfold gquery
    rw [a2]
    simp only
    have hk' : (stm0 k (tkN (kw k))).k = k := rfl
    rw [if_neg (by rw [hk']; omega), if_pos (by rw [hk']; exact hk), gexpect_tk]
    simp only
    rw [b2]
/-! scripts -/
def txSc (ss : List Stm) : List UInt8 := (ss.map fun s => txS s ++ [10]).flatten
def tkSc (ss : List Stm) : List Tok := (ss.map tkSt).flatten
theorem LexTo.sc : ∀ {ss : List Stm}, (∀ s ∈ ss, StB s) → LexTo (txSc ss) (tkSc ss ++ [t0])
  | [], _ => LexTo.nil
  | s :: ss, h => by
    have ih := LexTo.sc (ss := ss) fun q hq => h q (List.mem_cons_of_mem _ hq)
    unfold txSc tkSc at ih ⊢
    simp only [List.map_cons, List.flatten_cons, List.append_assoc, List.cons_append, List.nil_append]
    exact (ih.blank (b := 10) (by decide)).st (h s List.mem_cons_self)
theorem tkSt_hd (s : Stm) (r : List Tok) : (hd (tkSt s ++ r)).k = 1 := rfl
theorem stms_tk : ∀ (ss : List Stm) (f n : Nat), (∀ s ∈ ss, StB s) → n + ss.length ≤ 1000 → ss.length < f → ∃ ss', ss'.map Stm.clr = ss.map Stm.clr ∧ gstmsF f n (tkSc ss ++ [t0]) = .ok ss'
  | [], 0, _, _, _, hf => by simp at hf
  | [], f + 1, n, _, _, _ => ⟨[], rfl, rfl⟩
  | s :: ss, 0, _, _, _, hf => by simp at hf
  | s :: ss, f + 1, n, h, hn, hf => by
    simp only [List.length_cons] at hn hf
    obtain ⟨s', h1, h2⟩ := st_tk (h s List.mem_cons_self) (n := n) (by omega) (tkSc ss ++ [t0])
    obtain ⟨ss', h3, h4⟩ := stms_tk ss f (n + 1) (fun q hq => h q (List.mem_cons_of_mem _ hq)) (by omega) (by omega)
    refine ⟨s' :: ss', by rw [List.map_cons, List.map_cons, h1, h3], ?_⟩
    have e : tkSc (s :: ss) ++ [t0] = tkSt s ++ (tkSc ss ++ [t0]) := by
      unfold tkSc; rw [List.map_cons, List.flatten_cons, List.append_assoc]
    rw [e]
    unfold gstmsF
    rw [if_neg (by rw [tkSt_hd]; decide), h2]
    simp only
    rw [h4]
/-- a printed script is read as that script, but for places -/
theorem texts_law {ss : List Stm} (h : ∀ s ∈ ss, StB s) (hl : ss.length ≤ 1000) : ∃ ss', gscript (txSc ss) = .ok ss' ∧ ss.map Stm.clr = ss'.map Stm.clr := by
  obtain ⟨us, h1, h2⟩ := LexTo.sc h ((txSc ss).length + 1) 1 1 (Nat.lt_succ_self _)
  have hG := (glex_ok (l := txSc ss) h1).1
  have hF := gF_eq
  obtain ⟨ss', h3, h4⟩ := stms_tk ss gF 0 h (by omega) (by omega)
  have hr := stms_nat (R := fun _ _ _ _ => True) gF 0 us _ hG h2
  rw [h4] at hr
  unfold gscript
  rw [show glex (txSc ss) = .ok us from h1]
  simp only
  generalize gstmsF gF 0 us = c at hr
  cases hr with
  | ok h => exact ⟨_, rfl, by rw [← h3, h]⟩
end Go.Ab
