/- Texts laid one behind the other: GLexR, SynLaw, ParU, Count, SynB, As, Is, RowD. -/
import Derived.Test.YtebghnhocigmlaaGreatDoorB29
import Derived.Test.YtebghnhocigmlaaGreatDoorB26
import Derived.Test.YtebghnhocigmlaaGreatDoorB28
import Derived.Test.YtebghnhocigmlaaGreatDoorB15
import Derived.Test.YtebghnhocigmlaaGreatDoorB19
import Derived.Test.YtebghnhocigmlaaGreatDoorB13
import Derived.Lib.Bytealg
import Derived.Test.YtebghnhocigmlaaGreatDoorB12
import Derived.WalkKit
import Derived.LaidEql
import Derived.Stop.Asserts
import Derived.RowKitTokens
import Derived.Test.YtebghnhocigmlaaGreatDoorB20
/- Tokens of a text: where they begin does not matter; a text behind a blank. -/
namespace Go.Ab
open Go.Proofs
set_option linter.unusedSectionVars false
set_option linter.unusedVariables false
set_option linter.unusedSimpArgs false
variable [Base]
def shE (n : Nat) (e : Er) : Er := { e with l := e.l + n }
def shT (n : Nat) (t : Tok) : Tok := { t with l := t.l + n }
theorem gsk_sh (n : Nat) : ∀ (cm : Bool) (l : List UInt8) (ln cl : Nat), gsk cm l (ln + n) cl = ((gsk cm l ln cl).1, (gsk cm l ln cl).2.1 + n, (gsk cm l ln cl).2.2)
  | _, [], _, _ => rfl
  | cm, b :: r, ln, cl => by
    rw [gsk, gsk]
    split
    · rw [show ln + n + 1 = ln + 1 + n by omega, gsk_sh n false r]
    · split
      · rw [gsk_sh n true r]
      · split
        · rw [gsk_sh n false r]
        · rfl
theorem gnx_sh (n : Nat) (l : List UInt8) (ln cl : Nat) : gnx l (ln + n) cl = match gnx l ln cl with
    | .error e => .error (shE n e)
    | .ok (t, k) => .ok (shT n t, k) := by
  unfold gnx
  rw [gsk_sh n]
  generalize gsk false l ln cl = q
  obtain ⟨q, lq, cq⟩ := q
  simp only
  cases l.drop q with
  | nil => rfl
  | cons b r =>
    simp only
    by_cases h3 : clsN b.toNat = 3
    · simp only [if_pos h3]
      split <;> rfl
    simp only [if_neg h3]
    by_cases h4 : clsN b.toNat = 4
    · simp only [if_pos h4]
      split <;> rfl
    simp only [if_neg h4]
    split <;> rfl
theorem glexF_sh (n : Nat) : ∀ (f : Nat) (l : List UInt8) (ln cl : Nat), 0 < f → l.length < f → glexF f l (ln + n) cl = match glexF f l ln cl with
    | .error e => .error (shE n e)
    | .ok ts => .ok (ts.map (shT n)) := by
  intro f
  induction f with
  | zero => intro l ln cl h; omega
  | succ f ih =>
    intro l ln cl _ hl
    rw [glexF_succ, glexF_succ, gnx_sh n]
    cases hn : gnx l ln cl with
    | error e => rfl
    | ok q =>
      obtain ⟨t, k⟩ := q
      simp only
      by_cases h0 : t.k = 0
      · rw [if_pos (show (shT n t).k = 0 from h0), if_pos h0]; rfl
      · rw [if_neg (show ¬ (shT n t).k = 0 from h0), if_neg h0]
        have hb := gnx_bd hn
        have hk := hb.2.1 h0
        have e1 : glexF f (l.drop k) (shT n t).l ((shT n t).c + (shT n t).t.length) = glexF f (l.drop k) (t.l + n) (t.c + t.t.length) := rfl
        by_cases hf : f = 0
        · have := hb.1; omega
        rw [e1, ih (l.drop k) t.l _ (by omega) (by rw [List.length_drop]; omega)]
        cases glexF f (l.drop k) t.l (t.c + t.t.length) with
        | error e => rfl
        | ok ts => rfl
inductive LexR : Except Er (List Tok) → Except Er (List Tok) → Prop
  | ok {x y : List Tok} (h : LR (fun _ _ _ _ => True) x y) : LexR (.ok x) (.ok y)
  | er {e e' : Er} : LexR (.error e) (.error e')
inductive NxR : Except Er (Tok × Nat) → Except Er (Tok × Nat) → Prop
  | ok {t t' : Tok} {k : Nat} (h : TokR (fun _ _ _ _ => True) t t') : NxR (.ok (t, k)) (.ok (t', k))
  | er {e e' : Er} : NxR (.error e) (.error e')
theorem glexF_fuel : ∀ (f f' : Nat) (l : List UInt8) (ln cl : Nat), l.length < f → l.length < f' → glexF f l ln cl = glexF f' l ln cl := by
  intro f
  induction f with
  | zero => intro f' l ln cl h; omega
  | succ f ih =>
    intro f' l ln cl h h'
    obtain ⟨f', rfl⟩ : ∃ g, f' = g + 1 := ⟨f' - 1, by omega⟩
    rw [glexF_succ, glexF_succ]
    cases hn : gnx l ln cl with
    | error e => rfl
    | ok q =>
      obtain ⟨t, k⟩ := q
      simp only
      split
      · rfl
      · next h0 =>
        have hb := gnx_bd hn
        have hk := hb.2.1 h0
        rw [ih f' (l.drop k) t.l (t.c + t.t.length) (by rw [List.length_drop]; omega) (by rw [List.length_drop]; omega)]
/-- a place behind one more blank -/
def sepP (x : UInt8) (p : Nat × Nat) : Nat × Nat := if x.toNat = 10 then (p.1 + 1, 1) else (p.1, p.2 + 1)
theorem cls2 {b : Nat} (h : clsN b = 2) : b = 35 := by
  unfold clsN at h
  split at h
  · exact absurd h (by decide)
  · split at h
    · assumption
    · split at h
      · exact absurd h (by decide)
      · split at h
        · exact absurd h (by decide)
        · split at h <;> exact absurd h (by decide)
theorem gsk_full {x : UInt8} {y : List UInt8} (hx : clsN x.toNat = 1) : ∀ (cm : Bool) (l : List UInt8) (ln cl : Nat), (x.toNat = 10 ∨ (cm = false ∧ (35 : UInt8) ∉ l)) → (gsk cm l ln cl).1 = l.length →
    gsk cm (l ++ x :: y) ln cl = ((gsk false y (sepP x (gsk cm l ln cl).2).1 (sepP x (gsk cm l ln cl).2).2).1 + (l.length + 1), (gsk false y (sepP x (gsk cm l ln cl).2).1 (sepP x (gsk cm l ln cl).2).2).2)
  | cm, [], ln, cl, h, _ => by
    have e0 : (gsk cm [] ln cl).2 = (ln, cl) := by rw [gsk]
    rw [e0, List.nil_append, gsk]
    unfold sepP
    by_cases h10 : x.toNat = 10
    · rw [if_pos h10, if_pos h10]; rfl
    · obtain ⟨hcm, -⟩ := h.resolve_left h10
      rw [if_neg h10, if_neg h10, if_neg (by rintro (e | e); rw [hcm] at e; cases e; rw [hx] at e; exact absurd e (by decide)), if_pos hx]
      rfl
  | cm, b :: r, ln, cl, h, hl => by
    have hr : (35 : UInt8) ∉ b :: r → (35 : UInt8) ∉ r := fun h k => h (List.mem_cons_of_mem _ k)
    rw [List.cons_append]
    rw [gsk] at hl ⊢
    rw [gsk]
    by_cases h10 : b.toNat = 10
    · rw [if_pos h10] at hl ⊢
      rw [if_pos h10]
      simp only [List.length_cons] at hl ⊢
      rw [gsk_full hx false r (ln + 1) 1 (h.imp id fun h => ⟨rfl, hr h.2⟩) (by omega)]
      simp only [Nat.add_assoc]
    · rw [if_neg h10] at hl ⊢
      rw [if_neg h10]
      by_cases hc : cm = true ∨ clsN b.toNat = 2
      · rw [if_pos hc] at hl ⊢
        rw [if_pos hc]
        simp only [List.length_cons] at hl ⊢
        have hx10 : x.toNat = 10 := by
          rcases h with h | ⟨h1, h2⟩
          · exact h
          · exfalso
            rcases hc with hc | hc
            · rw [h1] at hc; cases hc
            · have hb := cls2 hc
              exact h2 (by rw [show b = 35 from UInt8.toNat_inj.1 hb]; simp)
        rw [gsk_full hx true r ln (cl + 1) (.inl hx10) (by omega)]
        simp only [Nat.add_assoc]
      · rw [if_neg hc] at hl ⊢
        rw [if_neg hc]
        by_cases h1 : clsN b.toNat = 1
        · rw [if_pos h1] at hl ⊢
          rw [if_pos h1]
          simp only [List.length_cons] at hl ⊢
          rw [gsk_full hx false r ln (cl + 1) (h.imp id fun h => ⟨rfl, hr h.2⟩) (by omega)]
          simp only [Nat.add_assoc]
        · rw [if_neg h1] at hl
          simp at hl
theorem gsk_part {y : List UInt8} : ∀ (cm : Bool) (l : List UInt8) (ln cl : Nat), (gsk cm l ln cl).1 < l.length → gsk cm (l ++ y) ln cl = gsk cm l ln cl
  | cm, [], _, _, h => by simp at h
  | cm, b :: r, ln, cl, h => by
    rw [List.cons_append]
    rw [gsk] at h ⊢
    rw [gsk]
    simp only [List.length_cons] at h
    by_cases h10 : b.toNat = 10
    · rw [if_pos h10] at h ⊢
      rw [if_pos h10, gsk_part false r _ _ (by simp only at h; omega)]
    · rw [if_neg h10] at h ⊢
      rw [if_neg h10]
      by_cases hc : cm = true ∨ clsN b.toNat = 2
      · rw [if_pos hc] at h ⊢
        rw [if_pos hc, gsk_part true r _ _ (by simp only at h; omega)]
      · rw [if_neg hc] at h ⊢
        rw [if_neg hc]
        by_cases h1 : clsN b.toNat = 1
        · rw [if_pos h1] at h ⊢
          rw [if_pos h1, gsk_part false r _ _ (by simp only at h; omega)]
        · rw [if_neg h1, if_neg h1]
theorem grun_app {p : Int → Bool} {x : UInt8} (hp : p (clsN x.toNat) = false) (y : List UInt8) : ∀ l : List UInt8, grun p (l ++ x :: y) = grun p l
  | [] => by rw [List.nil_append, grun_f hp]; rfl
  | a :: l => by
    rw [List.cons_append]
    cases h : p (clsN a.toNat) with
    | true => rw [grun_t h, grun_t h, grun_app hp y l]
    | false => rw [grun_f h, grun_f h]
/-- lines that are passed by -/
theorem gsk_line : ∀ (cm : Bool) (l : List UInt8) (ln cl : Nat), (gsk cm l ln cl).2.1 = ln + bcnt 10 (l.take (gsk cm l ln cl).1)
  | _, [], ln, _ => by simp [gsk, bcnt]
  | cm, b :: r, ln, cl => by
    have hb : b.toNat = 10 ↔ b = 10 := ⟨fun h => UInt8.toNat_inj.1 h, fun h => by rw [h]; rfl⟩
    rw [gsk]
    by_cases h10 : b.toNat = 10
    · rw [if_pos h10]
      simp only [List.take_succ_cons, bcnt_cons]
      rw [if_pos (hb.1 h10), gsk_line false r]
      omega
    · have hne : ¬ b = 10 := fun e => h10 (hb.2 e)
      rw [if_neg h10]
      split
      · simp only [List.take_succ_cons, bcnt_cons]
        rw [if_neg hne, gsk_line true r]
        omega
      · split
        · simp only [List.take_succ_cons, bcnt_cons]
          rw [if_neg hne, gsk_line false r]
          omega
        · simp [bcnt]
/-- the token at the head of what is left, if there is any -/
theorem gnx_part {x : UInt8} {y l : List UInt8} (hx : clsN x.toNat = 1) {ln cl : Nat} (h : (gsk false l ln cl).1 < l.length) : gnx (l ++ x :: y) ln cl = gnx l ln cl := by
  unfold gnx
  rw [gsk_part false l ln cl h]
  generalize gsk false l ln cl = q at h ⊢
  obtain ⟨q, lq, cq⟩ := q
  simp only at h ⊢
  rw [List.drop_append_of_le_length (by omega), List.drop_eq_getElem_cons h]
  simp only [List.cons_append]
  generalize l[q] = b
  generalize l.drop (q + 1) = r
  have e1 : grun isLD (b :: (r ++ x :: y)) = grun isLD (b :: r) := grun_app (by rw [hx]; rfl) y (b :: r)
  have e2 : grun isD (b :: (r ++ x :: y)) = grun isD (b :: r) := grun_app (by rw [hx]; rfl) y (b :: r)
  have t1 : (b :: (r ++ x :: y)).take (grun isLD (b :: r)) = (b :: r).take (grun isLD (b :: r)) := List.take_append_of_le_length (l₁ := b :: r) (grun_le _ _)
  have t2 : (b :: (r ++ x :: y)).take (grun isD (b :: r)) = (b :: r).take (grun isD (b :: r)) := List.take_append_of_le_length (l₁ := b :: r) (grun_le _ _)
  rw [e1, e2, t1, t2]
theorem gnx_end {l : List UInt8} {ln cl : Nat} (h : (gsk false l ln cl).1 = l.length) : gnx l ln cl = .ok (⟨0, [], (gsk false l ln cl).2.1, (gsk false l ln cl).2.2⟩, (gsk false l ln cl).1) := by
  unfold gnx
  rw [h, List.drop_length]
theorem gnx_full {x : UInt8} {y l : List UInt8} (hx : clsN x.toNat = 1) (hc : x.toNat = 10 ∨ (35 : UInt8) ∉ l) {ln cl : Nat} (h : (gsk false l ln cl).1 = l.length) :
    gnx (l ++ x :: y) ln cl = match gnx y (sepP x (gsk false l ln cl).2).1 (sepP x (gsk false l ln cl).2).2 with
      | .error e => .error e
      | .ok (t, k) => .ok (t, k + (l.length + 1)) := by
  have hf := gsk_full (y := y) hx false l ln cl (hc.imp id fun h => ⟨rfl, h⟩) h
  unfold gnx
  rw [hf]
  generalize gsk false y (sepP x (gsk false l ln cl).2).1 (sepP x (gsk false l ln cl).2).2 = q
  obtain ⟨q, lq, cq⟩ := q
  simp only
  have hdrop : (l ++ x :: y).drop (q + (l.length + 1)) = y.drop q := by
    rw [Nat.add_comm q, show l ++ x :: y = (l ++ [x]) ++ y by simp, show l.length + 1 = (l ++ [x]).length by simp, List.drop_length_add_append]
  rw [hdrop]
  cases y.drop q with
  | nil => rfl
  | cons b r =>
    simp only
    by_cases h3 : clsN b.toNat = 3
    · simp only [if_pos h3]
      split
      · rfl
      · rw [Nat.add_right_comm]
    simp only [if_neg h3]
    by_cases h4 : clsN b.toNat = 4
    · simp only [if_pos h4]
      split
      · rfl
      · rw [Nat.add_right_comm]
    simp only [if_neg h4]
    split
    · rw [Nat.add_right_comm]
    · rfl
theorem grun_all {p : Int → Bool} : ∀ (l : List UInt8), ∀ b ∈ l.take (grun p l), p (clsN b.toNat) = true
  | [], b, h => by simp at h
  | a :: l, b, h => by
    cases ha : p (clsN a.toNat) with
    | false => rw [grun_f ha] at h; simp at h
    | true =>
      rw [grun_t ha, List.take_succ_cons] at h
      rcases List.mem_cons.1 h with rfl | h
      · exact ha
      · exact grun_all l b h
/-- the bytes of a token -/
theorem gnx_tok {l : List UInt8} {ln cl : Nat} {t : Tok} {n : Nat} (h : gnx l ln cl = .ok (t, n)) : l.take n = l.take (gsk false l ln cl).1 ++ t.t ∧ (10 : UInt8) ∉ t.t := by
  unfold gnx at h
  generalize gsk false l ln cl = q at *
  obtain ⟨q, lq, cq⟩ := q
  simp only at h ⊢
  have hall : ∀ (p : Int → Bool) (s : List UInt8), p 1 = false → (10 : UInt8) ∉ s.take (grun p s) := fun p s hp hm => by
    have := grun_all s _ hm
    rw [show clsN (10 : UInt8).toNat = 1 from by decide, hp] at this
    cases this
  cases hr : l.drop q with
  | nil =>
    rw [hr] at h
    simp only [Except.ok.injEq, Prod.mk.injEq] at h
    obtain ⟨rfl, rfl⟩ := h
    simp
  | cons b r =>
    rw [hr] at h
    simp only at h
    by_cases h3 : clsN b.toNat = 3
    · rw [if_pos h3] at h
      split at h
      · cases h
      · simp only [Except.ok.injEq, Prod.mk.injEq] at h
        obtain ⟨rfl, rfl⟩ := h
        exact ⟨by rw [List.take_add, hr], hall isLD (b :: r) rfl⟩
    rw [if_neg h3] at h
    by_cases h4 : clsN b.toNat = 4
    · rw [if_pos h4] at h
      split at h
      · cases h
      · simp only [Except.ok.injEq, Prod.mk.injEq] at h
        obtain ⟨rfl, rfl⟩ := h
        exact ⟨by rw [List.take_add, hr], hall isD (b :: r) rfl⟩
    rw [if_neg h4] at h
    split at h
    · next h5 =>
      simp only [Except.ok.injEq, Prod.mk.injEq] at h
      obtain ⟨rfl, rfl⟩ := h
      refine ⟨by rw [List.take_add, hr]; rfl, fun hm => ?_⟩
      rw [List.mem_singleton] at hm
      subst hm
      exact absurd h5 (by decide)
    · cases h
/-- a text, a blank and another text -/
theorem lex_app {x : UInt8} {y : List UInt8} (hx : clsN x.toNat = 1) : ∀ (f : Nat) (p : List UInt8) (ln cl : Nat), p.length < f → (x.toNat = 10 ∨ (35 : UInt8) ∉ p) →
    ∃ L C, (x.toNat = 10 → L = ln + bcnt 10 p + 1 ∧ C = 1) ∧ ∀ F G, (p ++ x :: y).length < F → y.length < G → glexF F (p ++ x :: y) ln cl = match glexF f p ln cl with
      | .error e => .error e
      | .ok ts => match glexF G y L C with
        | .error e => .error e
        | .ok v => .ok (ts.dropLast ++ v) := by
  intro f
  induction f with
  | zero => intro p ln cl h; omega
  | succ f ih =>
    intro p ln cl hp hc
    have hle := gsk_le false p ln cl
    by_cases hfull : (gsk false p ln cl).1 = p.length
    · refine ⟨(sepP x (gsk false p ln cl).2).1, (sepP x (gsk false p ln cl).2).2, fun h10 => ?_, fun F G hF hG => ?_⟩
      · have := gsk_line false p ln cl
        rw [hfull, List.take_length] at this
        unfold sepP
        rw [if_pos h10]
        exact ⟨by rw [this], rfl⟩
      · obtain ⟨F, rfl⟩ : ∃ g, F = g + 1 := ⟨F - 1, by omega⟩
        rw [glexF_succ f, gnx_end hfull]
        simp only [if_true, List.dropLast_singleton, List.nil_append]
        have hyl : y.length < F + 1 := by simp only [List.length_append, List.length_cons] at hF; omega
        rw [glexF_fuel G (F + 1) y _ _ hG hyl, glexF_succ F, glexF_succ F, gnx_full hx hc hfull]
        cases gnx y (sepP x (gsk false p ln cl).2).1 (sepP x (gsk false p ln cl).2).2 with
        | error e => rfl
        | ok q =>
          obtain ⟨t, k⟩ := q
          simp only
          have hdrop : (p ++ x :: y).drop (k + (p.length + 1)) = y.drop k := by
            rw [Nat.add_comm k, show p ++ x :: y = (p ++ [x]) ++ y by simp, show p.length + 1 = (p ++ [x]).length by simp, List.drop_length_add_append]
          rw [hdrop]
          split
          · rfl
          · cases glexF F (y.drop k) t.l (t.c + t.t.length) with
            | error e => rfl
            | ok ts => rfl
    · have hlt : (gsk false p ln cl).1 < p.length := by omega
      have hg := gnx_part (y := y) hx hlt
      cases hn : gnx p ln cl with
      | error e =>
        refine ⟨ln + bcnt 10 p + 1, 1, fun _ => ⟨rfl, rfl⟩, fun F G hF hG => ?_⟩
        obtain ⟨F, rfl⟩ : ∃ g, F = g + 1 := ⟨F - 1, by omega⟩
        rw [glexF_succ f, glexF_succ F, hg, hn]
      | ok q =>
        obtain ⟨t, k⟩ := q
        have hb := gnx_bd hn
        have hnz : t.k ≠ 0 := fun h0 => by
          -- an end only where nothing is left
          unfold gnx at hn
          generalize gsk false p ln cl = q at *
          obtain ⟨q, lq, cq⟩ := q
          simp only at hn hlt
          rw [List.drop_eq_getElem_cons hlt] at hn
          simp only at hn
          split at hn
          · split at hn
            · cases hn
            · cases hn; cases h0
          · split at hn
            · split at hn
              · cases hn
              · cases hn; cases h0
            · split at hn
              · cases hn; cases h0
              · cases hn
        have hk := hb.2.1 hnz
        have hkl : (p.drop k).length < f := by rw [List.length_drop]; omega
        obtain ⟨L, C, h1, h2⟩ := ih (p.drop k) t.l (t.c + t.t.length) hkl (hc.imp id fun h m => h (List.mem_of_mem_drop m))
        refine ⟨L, C, fun h10 => ?_, fun F G hF hG => ?_⟩
        · obtain ⟨e1, e2⟩ := h1 h10
          refine ⟨?_, e2⟩
          rw [e1, hb.2.2.2.1, gsk_line]
          have h3 := bcnt_take_drop 10 p k
          -- a token has no line feed
          have h4 : bcnt 10 (p.take k) = bcnt 10 (p.take (gsk false p ln cl).1) := by
            obtain ⟨g1, g2⟩ := gnx_tok hn
            have g3 : bcnt 10 t.t = 0 := bcnt_none fun z hz (e : z = 10) => g2 (by rw [← e]; exact hz)
            rw [g1, bcnt_append, g3, Nat.add_zero]
          omega
        · obtain ⟨F, rfl⟩ : ∃ g, F = g + 1 := ⟨F - 1, by omega⟩
          rw [glexF_succ f, glexF_succ F, hg, hn]
          simp only [if_neg hnz]
          rw [List.drop_append_of_le_length hb.1, h2 F G (by simp only [List.length_append, List.length_drop, List.length_cons] at hF ⊢; omega) hG]
          cases hr : glexF f (p.drop k) t.l (t.c + t.t.length) with
          | error e => rfl
          | ok ts =>
            have hts : ts ≠ [] := fun e => by
              have := (glexF_ok _ _ _ _ _ hr).1.pos
              rw [e] at this; simp at this
            simp only
            rw [List.dropLast_cons_of_ne_nil hts]
            cases glexF G y L C with
            | error e => rfl
            | ok v => rfl
end Go.Ab
/- What the reader of scripts does with a longer blank, and with two texts one after the other. -/
namespace Go.Ab
open Go.Proofs
set_option linter.unusedSectionVars false
set_option linter.unusedVariables false
set_option linter.unusedSimpArgs false
variable [Base]
theorem GOk.last : ∀ {ts : List Tok}, GOk ts → ∃ e, ts = ts.dropLast ++ [e] ∧ e.k = 0
  | [e], h => ⟨e, rfl, h.1⟩
  | a :: b :: r, h => by
    obtain ⟨e, h1, h2⟩ := GOk.last (ts := b :: r) h.2
    refine ⟨e, ?_, h2⟩
    rw [List.dropLast_cons_of_ne_nil (by simp), List.cons_append, ← h1]
theorem LR.app {R : PosR} {a b c d : List Tok} (h : LR R a b) (k : LR R c d) : LR R (a ++ c) (b ++ d) := by
  induction h with
  | nil => exact k
  | cons h _ ih => exact .cons h ih
/-- the place of a line further down -/
def dwn (n : Nat) : PosR := fun l c l' c' => l' = l + n ∧ c' = c
theorem LR.sh (n : Nat) : ∀ ts, LR (dwn n) ts (ts.map (shT n))
  | [] => .nil
  | a :: r => .cons ⟨rfl, rfl, rfl, rfl⟩ (LR.sh n r)
theorem GOk.sh (n : Nat) : ∀ {ts : List Tok}, GOk ts → GOk (ts.map (shT n))
  | [e], h => h
  | a :: b :: r, h => ⟨h.1, GOk.sh n (ts := b :: r) h.2⟩
/-- two texts, one after the other -/
theorem appends_law {s t : List UInt8} (hs : s.length ≤ 900) (ht : t.length ≤ 900) {a : List Stm} (h : gscript s = .ok a) : (∀ b, gscript t = .ok b → ∃ b', gscript (s ++ 10 :: t) = .ok (a ++ b') ∧ b.map Stm.clr = b'.map Stm.clr) ∧
    ∀ e, gscript t = .error e → ∃ e', gscript (s ++ 10 :: t) = .error e' ∧ e'.k = e.k ∧ e'.t = e.t ∧ e'.l = e.l + (bcnt 10 s + 1) ∧ e'.c = e.c := by
  obtain ⟨L, C, h0, h1⟩ := lex_app (x := 10) (y := t) (by decide) (s.length + 1) s 1 1 (Nat.lt_succ_self _) (.inl (by decide))
  obtain ⟨rfl, rfl⟩ := h0 (by decide)
  have e1 := h1 ((s ++ 10 :: t).length + 1) (t.length + 1) (Nat.lt_succ_self _) (Nat.lt_succ_self _)
  rw [show 1 + bcnt 10 s + 1 = 1 + (bcnt 10 s + 1) from by omega, glexF_sh _ _ _ _ _ (by omega) (Nat.lt_succ_self _)] at e1
  generalize bcnt 10 s + 1 = n at e1 ⊢
  unfold gscript at h ⊢
  unfold glex at h ⊢
  cases hp : glexF (s.length + 1) s 1 1 with
  | error e => rw [hp] at h; cases h
  | ok u =>
    rw [hp] at e1 h
    simp only at e1 h
    have hu := glex_ok (l := s) hp
    obtain ⟨e, hue, he0⟩ := hu.1.last
    cases hq : glexF (t.length + 1) t 1 1 with
    | error e' =>
      rw [hq] at e1
      rw [e1]
      simp only
      exact ⟨fun b hb => (by cases hb), fun e2 h2 => (by cases h2; exact ⟨_, rfl, rfl, rfl, rfl, rfl⟩)⟩
    | ok v =>
      rw [hq] at e1
      have hv := glex_ok (l := t) hq
      rw [e1]
      simp only
      have hG := hu.1
      rw [hue] at hG h
      obtain ⟨k1, k2, k3⟩ := stms_app he0 gF 0 u.dropLast a hG h
      have hul : u.dropLast.length ≤ 900 := by rw [List.length_dropLast]; omega
      have hF := gF_eq
      rw [k3 _ (hv.1.sh n), stms_fuel (gF - a.length) gF (0 + a.length) _ (by rw [List.length_map]; omega) (by rw [List.length_map]; omega),
        stms_n gF (0 + a.length) 0 _ (by rw [List.length_map]; omega) (by rw [List.length_map]; omega)]
      have hr := stms_nat gF 0 v _ hv.1 (LR.sh n v)
      generalize gstmsF gF 0 (v.map (shT n)) = c at hr
      generalize gstmsF gF 0 v = d at hr
      cases hr with
      | ok h => exact ⟨fun b hb => (by cases hb; exact ⟨_, rfl, h⟩), fun e2 h2 => (by cases h2)⟩
      | er h => exact ⟨fun b hb => (by cases hb), fun e2 h2 => (by cases h2; exact ⟨_, rfl, h.k.symm, h.t.symm, h.p.1, h.p.2⟩)⟩
end Go.Ab
/- syntax.ParseExpr, its list finished. -/
namespace Go.Ab
open Go.Proofs
set_option linter.unusedSectionVars false
set_option linter.unusedVariables false
set_option linter.unusedSimpArgs false
variable [Base]
theorem prsAll_rnU {ts : List Tok} {A : List Nd} {x : Ex} (hT : TOk ts) (h : prsAll ts = some (A, x)) : Rn A 0 x := by
  unfold prsAll at h
  cases hp : prs (8 * ts.length + 8) 1 0 0 ts none with
  | none => rw [hp] at h; cases h
  | some q =>
    obtain ⟨B, z, t'⟩ := q
    rw [hp] at h
    simp only at h
    split at h
    · simp only [Option.some.injEq, Prod.mk.injEq] at h
      obtain ⟨rfl, rfl⟩ := h
      exact (prs_ok _ _ _ _ _ _ _ _ _ (by omega) (fun h => by omega) hT trivial hp).1
    · cases h
/-- what ParseExpr gives, its list finished -/
def prU (l : List UInt8) : SV := match lexT l with
  | none => Ab.tup [lit (.slice none 0 0), errE]
  | some ts => match prsAll ts with
    | some (A, _) => Ab.tup [sl (A.map ndx).flatten A.length, lit .nilIface]
    | none => Ab.tup [lit (.slice none 0 0), errE]
theorem parseU_pu [Sent 4] [Sent 3] (l : List UInt8) (hok : ∀ b ∈ l, okC b = true) (hl : l.length ≤ 65536) : Pu Tryz.prog 24 [str l] (prU l) := by
  have c := gexpr_pu l hok hl
  unfold prU
  unfold prR at c
  cases hlx : lexT l with
  | none =>
    rw [hlx] at c
    simp only at c ⊢
    refine Pu.intro Tryz.func24 rfl (by kernel_rfl) fun C => ?_
    repeat (refine A1 ⟨?_⟩; intros)
    refine WfT c ?_
    rintro _ H' rfl
    repeat (refine A1 ⟨?_⟩; intros)
    ((first | refine endR ?_ | refine endN ?_); exact end2 (RV.tmp rfl) (RV.tmp rfl) (Le.refl _))
  | some ts =>
    rw [hlx] at c
    simp only at c ⊢
    cases hp : prsAll ts with
    | none =>
      rw [hp] at c
      simp only at c ⊢
      refine Pu.intro Tryz.func24 rfl (by kernel_rfl) fun C => ?_
      repeat (refine A1 ⟨?_⟩; intros)
      refine WfT c ?_
      rintro _ H' rfl
      repeat (refine A1 ⟨?_⟩; intros)
      ((first | refine endR ?_ | refine endN ?_); exact end2 (RV.tmp rfl) (RV.tmp rfl) (Le.refl _))
    | some q =>
      obtain ⟨A, x⟩ := q
      rw [hp] at c
      simp only at c ⊢
      have hr := prsAll_rnU (lexF_ok _ _ _ _ hlx).1 hp
      refine Pu.intro Tryz.func24 rfl (by kernel_rfl) fun C => ?_
      repeat (refine A1 ⟨?_⟩; intros)
      refine WfT c ?_
      rintro _ H' ⟨s, rfl, hown⟩
      obtain ⟨b, c1, hnc, hcm, rfl, rfl⟩ := hown.blk hr.2
      simp only [List.nil_append]
      clear hown
      (refine O1 ⟨?_⟩; intros)
      refine WPL.pub (d := 6) (s' := sl (A.map ndx).flatten A.length) (HDel.here _) rfl (fun m arr h1 h2 => pub_ownL h1 h2 hnc hcm) ?_
      repeat (refine A1 ⟨?_⟩; intros)
      ((first | refine endR ?_ | refine endN ?_); exact end2 (RV.tmp rfl) (RV.tmp rfl) (Le.refl _))
end Go.Ab
/- How often a byte stands in a text: strings.Count, walked. -/
namespace Go.Ab
open Go.Proofs
set_option linter.unusedSectionVars false
set_option linter.unusedVariables false
set_option linter.unusedSimpArgs false
variable [Base]
theorem run_count (l : List UInt8) {b : Nat} (hb : b < 256) (w : World) : (Extern.BytealgCount.count #[.string ⟨l.toArray⟩, .int .u8 (b : Int)]).run Tryz.prog w = .ok (.int .i64 (bcnt (UInt8.ofNat b) l)) w := by
  have e : Go.Lib.countByte (⟨l.toArray⟩ : ByteArray).data.toList ((b : Int).toNat.toUInt8) = bcnt (UInt8.ofNat b) l := by
    unfold Go.Lib.countByte bcnt
    rw [List.count_eq_length_filter]
    refine congrArg List.length (List.filter_congr fun x _ => ?_)
    rfl
  rw [Go.Lib.run_countString, e]
section
variable {F : Fr} {H : LH} {ty : TypeId}
theorem ov_count {x y : Operand} {l : List UInt8} {b : Nat} {tys : Array TypeId} (hx : ev F x = str l) (hy : ev F y = u8 b) (hb : b < 256) : OpV Tryz.prog (.call ⟨.value (.func 27), [x, y].toArray, tys⟩) ty F H (lit (.int .i64 (bcnt (UInt8.ofNat b) l))) :=
  OpV.pure fun m w o a ho _ _ _ h => by
    have h0 := h x (by simp [Op.operands, Call.operands]); rw [hx, lit_p] at h0
    have h1 := h y (by simp [Op.operands, Call.operands]); rw [hy, lit_p] at h1
    have h8 := @run_callFunc_extern Tryz.prog 27 _ Extern.BytealgCount.count Tryz.func27 (by kernel_rfl) (by kernel_rfl) (by kernel_rfl) (by kernel_rfl)
    refine ⟨_, ?_, lit_p.2 rfl⟩
    have := h8 #[a.eval x, a.eval y] w
    rw [h0, h1, run_count l hb] at this
    simp only [execOp, ho, resolve, Sem.run_bind, Sem.run_pure, Result.andThen_ok]
    have e1 : a.eval (.func 27) = .func (.func 27) #[] #[] := rfl
    simp only [e1, Deferred.ofValue, Sem.run_pure, Result.andThen_ok, invoke, List.map_toArray, List.map_cons, List.map_nil, Array.empty_append, Array.append_empty, h0, h1, this]
end
theorem scount_pu (l : List UInt8) {b : Nat} (hb : b < 256) : Pu Tryz.prog 10 [str l, str [UInt8.ofNat b]] (lit (.int .i64 (bcnt (UInt8.ofNat b) l))) := by
  refine Pu.intro Tryz.func10 rfl (by kernel_rfl) fun C => ?_
  repeat (refine A1 ⟨?_⟩; intros)
  refine Wo (ov_sidx (i := 0) rfl rfl (by show 0 < 1; omega)) ?_
  have e : (([UInt8.ofNat b].getD 0 0).toNat : Int) = (b : Int) := by
    show ((UInt8.ofNat b).toNat : Int) = b
    rw [UInt8.toNat_ofNat', Nat.mod_eq_of_lt hb]
  rw [e]
  refine Wo (ov_count rfl rfl hb) ?_
  repeat (refine A1 ⟨?_⟩; intros)
  ((first | refine endR ?_ | refine endN ?_); exact end1 (RV.tmp rfl) (Le.refl _))
end Go.Ab
/- The law SyntaxBlanks, walked: it returns true. -/
namespace Go.Ab
open Go.Proofs
set_option linter.unusedSectionVars false
set_option linter.unusedVariables false
set_option linter.unusedSimpArgs false
variable [Base]
def k12T : List UInt8 := [97, 32, 43, 32, 98, 32, 42, 32, 126, 97]
def k12Ts : List Tok := [⟨1, [97], 1, 1⟩, ⟨3, [43], 1, 3⟩, ⟨1, [98], 1, 5⟩, ⟨3, [42], 1, 7⟩, ⟨3, [126], 1, 9⟩, ⟨1, [97], 1, 10⟩, ⟨0, [], 1, 11⟩]
def k12Ns : List Nd := [ndN ⟨1, [97], 1, 1⟩, ndN ⟨1, [98], 1, 5⟩, ndN ⟨1, [97], 1, 10⟩, ndU 2 ⟨3, [126], 1, 9⟩, ndB 2 1 3 ⟨3, [42], 1, 7⟩, ndB 1 0 4 ⟨3, [43], 1, 3⟩]
theorem k12Lex : lexT k12T = some k12Ts := by kernel_rfl
theorem k12Prs : ∃ x, prsAll k12Ts = some (k12Ns, x) := ⟨.bi (ndB 1 0 4 ⟨3, [43], 1, 3⟩) (.leaf (ndN ⟨1, [97], 1, 1⟩)) (.bi (ndB 2 1 3 ⟨3, [42], 1, 7⟩) (.leaf (ndN ⟨1, [98], 1, 5⟩)) (.un (ndU 2 ⟨3, [126], 1, 9⟩) (.leaf (ndN ⟨1, [97], 1, 10⟩)))), by kernel_rfl⟩
theorem known12 [Sent 4] [Sent 3] : Pu Tryz.prog 8 [] (lit (.bool true)) := by
  have c := parseU_pu k12T (by decide) (by decide)
  obtain ⟨x, hp⟩ := k12Prs
  unfold prU at c
  rw [k12Lex] at c
  simp only [hp] at c
  have h3 := flat_at (f := ndx) (n := 19) ndx_len (show k12Ns[3]? = some (ndU 2 ⟨3, [126], 1, 9⟩) from rfl)
  have h5 := flat_at (f := ndx) (n := 19) ndx_len (show k12Ns[5]? = some (ndB 1 0 4 ⟨3, [43], 1, 3⟩) from rfl)
  have hne : (k12Ns.map ndx).flatten ≠ [] := flat_ne ndx_len (by omega) (by decide)
  have hl : k12Ns.length = 6 := rfl
  rw [hl] at c
  generalize (k12Ns.map ndx).flatten = fl at *
  clear hp
  refine Pu.intro Tryz.func8 rfl (by kernel_rfl) fun C => ?_
  repeat (first | (refine A1 ⟨?_⟩; intros) | (refine Wcx (c) ?_) | (refine Wdcx (c) ?_) | (refine Wcgx (c) ?_) | (refine Wdcgx (c) ?_))
  repeat (first | (refine A1 ⟨?_⟩; intros) | (refine WgE ?_; refine Wo (ov_idxS (i := 3) rfl rfl (by omega) (by omega) h3 hne) ?_) | (refine WgE ?_; refine Wo (ov_idxS (i := 5) rfl rfl (by omega) (by omega) h5 hne) ?_))
  ((first | refine endR ?_ | refine endN ?_); exact end1 (RV.tmp rfl) (Le.refl _))
end Go.Ab
/- errors.As at an *api.Error and a pointer to a variable of that type: the variable gets the error. (Lines of the kit's worked example on errors.As, turned to this program.) -/
namespace Go.Ab
open Go.Proofs Go.RowKit Go.Extern.Stop Go.Stop Go.Extern
set_option linter.unusedSectionVars false
set_option linter.unusedVariables false
set_option linter.unusedSimpArgs false
theorem valueOf27 (G : Nat) (hG : G = (Tryz.prog).globals.size) (t : Addr) (w : World) : (ReflectliteValue.unpack (.iface 34 (.pointer (some t)))).run Tryz.prog w
    = .ok (.agg #[.pointer (some ⟨G, 34, none⟩), .pointer (some ⟨w.heap.size, 0, none⟩), .int .u64 150]) (w.alloc (.cells #[.pointer (some t)] 34)) := by subst hG; kernel_rfl
theorem type27 (G : Nat) (hG : G = (Tryz.prog).globals.size) (a : Addr) (w : World) : (ReflectliteValue.methodAny (ReflectliteValue.valueError "reflectlite.Value.Type" 0) (fun t _ _ _ => ReflectliteType.toType t) #[.agg #[.pointer (some ⟨G, 34, none⟩), .pointer (some a), .int .u64 150]]).run Tryz.prog w
    = .ok (.iface 128 (.agg #[.pointer (some ⟨G, 34, none⟩)])) w := by subst hG; kernel_rfl
theorem methodKind (h : Value) (w : World) : (Go.method 593 128 (.agg #[h]) "Kind").run Tryz.prog w = .ok (401, h) w := by kernel_rfl
theorem kind27 (G : Nat) (hG : G = (Tryz.prog).globals.size) (w : World) : ((ReflectliteType.abiMethod fun t => (fun a : Nat => Value.int IntKind.u8 (a : Int)) <$> Rtype.kind t) #[.pointer (some ⟨G, 34, none⟩)]).run Tryz.prog w = .ok (.int .u8 22) w := by subst hG; kernel_rfl
theorem kind25 (G : Nat) (hG : G = (Tryz.prog).globals.size) (w : World) : ((ReflectliteType.abiMethod fun t => (fun a : Nat => Value.int IntKind.u8 (a : Int)) <$> Rtype.kind t) #[.pointer (some ⟨G, 32, none⟩)]).run Tryz.prog w = .ok (.int .u8 22) w := by subst hG; kernel_rfl

theorem rlm (z : Sem Value) (f : TypeId → Addr → Nat → Nat → Sem Value) (v : Value) :
    ReflectliteValue.method z f #[v] = (do match ← ReflectliteValue.parts v with | none => z | some (t, a, fl) => f t a fl (fl % 32)) := rfl
theorem parts27 (G : Nat) (hG : G = (Tryz.prog).globals.size) (a : Addr) (w : World) : (ReflectliteValue.parts (.agg #[.pointer (some ⟨G, 34, none⟩), .pointer (some a), .int .u64 150])).run Tryz.prog w = .ok (some (34, a, 150)) w := by subst hG; kernel_rfl
theorem isNil27 (G : Nat) (hG : G = (Tryz.prog).globals.size) (a p : Addr) (W : World) (ha : W.cell? a = some (.pointer (some p))) :
    (ReflectliteValue.method (ReflectliteValue.valueError "reflectlite.Value.IsNil" 0) ReflectliteValue.isNil #[.agg #[.pointer (some ⟨G, 34, none⟩), .pointer (some a), .int .u64 150]]).run Tryz.prog W = .ok (.bool false) W := by
  rw [rlm]
  simp only [Sem.run_bind, parts27 G hG, Result.andThen]
  simp [ReflectliteValue.isNil, loadVar, isAgg, underlying, Tryz.underlying34, ha, Result.andThen]

theorem methodElem (h : Value) (w : World) : (Go.method 593 128 (.agg #[h]) "Elem").run Tryz.prog w = .ok (412, .agg #[h]) w := by kernel_rfl
theorem methodImplements (h : Value) (w : World) : (Go.method 593 128 (.agg #[h]) "Implements").run Tryz.prog w = .ok (413, .agg #[h]) w := by kernel_rfl
theorem methodAssignableTo (h : Value) (w : World) : (Go.method 593 128 (.agg #[h]) "AssignableTo").run Tryz.prog w = .ok (410, .agg #[h]) w := by kernel_rfl
theorem elem27 (G : Nat) (hG : G = (Tryz.prog).globals.size) (w : World) : (ReflectliteType.method ReflectliteType.elem #[.agg #[.pointer (some ⟨G, 34, none⟩)]]).run Tryz.prog w = .ok (.iface 128 (.agg #[.pointer (some ⟨G, 32, none⟩)])) w := by subst hG; kernel_rfl
theorem implements25 (G : Nat) (hG : G = (Tryz.prog).globals.size) (w : World) : (ReflectliteType.relation "Implements" ReflectliteType.implements_ #[.agg #[.pointer (some ⟨G, 32, none⟩)], .iface 128 (.agg #[.pointer (some ⟨G, 25, none⟩)])]).run Tryz.prog w = .ok (.bool true) w := by subst hG; kernel_rfl
theorem typeOf25 (G : Nat) (hG : G = (Tryz.prog).globals.size) (v : Value) (w : World) : (ReflectliteType.typeOf #[.iface 32 v]).run Tryz.prog w = .ok (.iface 128 (.agg #[.pointer (some ⟨G, 32, none⟩)])) w := by subst hG; kernel_rfl
theorem assignable25 (G : Nat) (hG : G = (Tryz.prog).globals.size) (w : World) : (ReflectliteType.relation "AssignableTo" ReflectliteType.assignableTo #[.agg #[.pointer (some ⟨G, 32, none⟩)], .iface 128 (.agg #[.pointer (some ⟨G, 32, none⟩)])]).run Tryz.prog w = .ok (.bool true) w := by subst hG; kernel_rfl
theorem valueOf25 (G : Nat) (hG : G = (Tryz.prog).globals.size) (e : Addr) (w : World) : (ReflectliteValue.unpack (.iface 32 (.pointer (some e)))).run Tryz.prog w
    = .ok (.agg #[.pointer (some ⟨G, 32, none⟩), .pointer (some ⟨w.heap.size, 0, none⟩), .int .u64 150]) (w.alloc (.cells #[.pointer (some e)] 32)) := by subst hG; kernel_rfl

theorem elemOf27 (w : World) : (Rtype.elem? 34).run Tryz.prog w = .ok (some 32) w := by kernel_rfl
theorem mk25 (G : Nat) (hG : G = (Tryz.prog).globals.size) (p : Addr) (w : World) : (ReflectliteValue.mk 32 p ReflectliteValue.flagAddr).run Tryz.prog w = .ok (.agg #[.pointer (some ⟨G, 32, none⟩), .pointer (some p), .int .u64 406]) w := by subst hG; kernel_rfl
theorem elemV27 (G : Nat) (hG : G = (Tryz.prog).globals.size) (a p : Addr) (W : World) (ha : W.cell? a = some (.pointer (some p))) :
    (ReflectliteValue.method (ReflectliteValue.valueError "reflectlite.Value.Elem" 0) ReflectliteValue.elem #[.agg #[.pointer (some ⟨G, 34, none⟩), .pointer (some a), .int .u64 150]]).run Tryz.prog W
      = .ok (.agg #[.pointer (some ⟨G, 32, none⟩), .pointer (some p), .int .u64 406]) W := by
  rw [rlm]
  simp only [Sem.run_bind, parts27 G hG, Result.andThen]
  simp [ReflectliteValue.elem, loadVar, isAgg, underlying, Tryz.underlying34, ha, Result.andThen, elemOf27, mk25 G hG]
theorem rls (v x : Value) : ReflectliteValue.set #[v, x] = (do
    let (some (dst, a, fl), some (src, b, _)) := (← ReflectliteValue.parts v, ← ReflectliteValue.parts x)
      | unsupported (.noEntry "extern/(internal/reflectlite.Value).Set.zeroValue")
    if fl / ReflectliteValue.flagAddr % 2 == 0 then unsupported (.noEntry "extern/(internal/reflectlite.Value).Set.unaddressable")
    let val ← loadVar src b
    if ← Rtype.directlyAssignable dst src then storeVar dst a val
    else if ← Rtype.implements dst src then
      if (← Rtype.kind src) == 20 then
        match val with
        | .nilIface => unsupported (.noEntry "extern/reflectlite: a nil value of one interface type handed on as a value of another")
        | _ => storeVar dst a val
      else storeVar dst a (.iface src val)
    else panicString ("reflectlite.Set: value of type " ++ (← Rtype.spelt src) ++ " is not assignable to type " ++ (← Rtype.spelt dst))
    pure (.tuple #[])) := rfl
theorem parts25a (G : Nat) (hG : G = (Tryz.prog).globals.size) (a : Addr) (w : World) : (ReflectliteValue.parts (.agg #[.pointer (some ⟨G, 32, none⟩), .pointer (some a), .int .u64 406])).run Tryz.prog w = .ok (some (32, a, 406)) w := by subst hG; kernel_rfl
theorem parts25 (G : Nat) (hG : G = (Tryz.prog).globals.size) (a : Addr) (w : World) : (ReflectliteValue.parts (.agg #[.pointer (some ⟨G, 32, none⟩), .pointer (some a), .int .u64 150])).run Tryz.prog w = .ok (some (32, a, 150)) w := by subst hG; kernel_rfl
theorem direct25 (w : World) : (Rtype.directlyAssignable 32 32).run Tryz.prog w = .ok true w := by kernel_rfl
theorem set25 (G : Nat) (hG : G = (Tryz.prog).globals.size) (ta b e : Addr) (old : Value) (W : World) (hb : W.cell? b = some (.pointer (some e))) (ht : W.cell? ta = some old) (hf : W.frozen? ta = false) :
    (ReflectliteValue.set #[.agg #[.pointer (some ⟨G, 32, none⟩), .pointer (some ta), .int .u64 406], .agg #[.pointer (some ⟨G, 32, none⟩), .pointer (some b), .int .u64 150]]).run Tryz.prog W
      = .ok (.tuple #[]) (W.setCell ta (.pointer (some e))) := by
  rw [rls]
  simp only [Sem.run_bind, parts25a G hG, parts25 G hG, Result.andThen]
  simp [ReflectliteValue.flagAddr, loadVar, isAgg, underlying, Tryz.underlying32, hb, Result.andThen, direct25, storeVar, Value.cells, storeCells, Addr.add]
  rw [run_store Tryz.prog W ta _ _ (by rfl)]
  simp [ht, hf]

set_option maxHeartbeats 4000000 in
theorem as_hit (G : Nat) (hG : G = (Tryz.prog).globals.size) (e t : Addr) (old : Value) (w : World) (hg : w.cell? ⟨0, 0, none⟩ = some (.iface 128 (.agg #[.pointer (some ⟨G, 25, none⟩)]))) (ht0 : w.cell? t = some old) (hf0 : w.frozen? t = false) :
    Calls Tryz.prog 13 #[.iface 32 (.pointer (some e)), .iface 34 (.pointer (some t))] w fun ev w' => ev = .returned (.bool true) ∧ w' = ((((w.alloc (.cells #[.pointer (some t)] 34)).alloc (.cells #[.pointer (some ⟨G, 34, none⟩), .pointer (some ⟨w.heap.size, 0, none⟩), .int .u64 150] 82)).alloc (.cells #[.pointer (some ⟨G, 34, none⟩), .pointer (some ⟨w.heap.size, 0, none⟩), .int .u64 150] 82)).alloc (.cells #[.pointer (some e)] 32)).setCell t (.pointer (some e)) := by
  have h6 := @run_callFunc_extern Tryz.prog 30 _ (fun args => ReflectliteValue.unpack (args.getD 0 (.tuple #[]))) Tryz.func30 (by kernel_rfl) (by kernel_rfl) (by kernel_rfl) (by kernel_rfl)
  have h7 := @run_callFunc_extern Tryz.prog 31 _ (ReflectliteValue.methodAny (ReflectliteValue.valueError "reflectlite.Value.Type" 0) (fun t _ _ _ => ReflectliteType.toType t)) Tryz.func31 (by kernel_rfl) (by kernel_rfl) (by kernel_rfl) (by kernel_rfl)
  have h8 := @run_callFunc_extern Tryz.prog 32 _ (ReflectliteValue.method (ReflectliteValue.valueError "reflectlite.Value.IsNil" 0) ReflectliteValue.isNil) Tryz.func32 (by kernel_rfl) (by kernel_rfl) (by kernel_rfl) (by kernel_rfl)
  have h27 := @run_callFunc_extern Tryz.prog 401 _ (ReflectliteType.abiMethod fun t => do pure (.int .u8 (← Rtype.kind t))) Tryz.func401 (by kernel_rfl) (by kernel_rfl) (by kernel_rfl) (by kernel_rfl)
  have h37 := @run_callFunc_extern Tryz.prog 412 _ (ReflectliteType.method ReflectliteType.elem) Tryz.func412 (by kernel_rfl) (by kernel_rfl) (by kernel_rfl) (by kernel_rfl)
  have h38 := @run_callFunc_extern Tryz.prog 413 _ (ReflectliteType.relation "Implements" ReflectliteType.implements_) Tryz.func413 (by kernel_rfl) (by kernel_rfl) (by kernel_rfl) (by kernel_rfl)
  have h10 := @run_callFunc_extern Tryz.prog 34 _ ReflectliteType.typeOf Tryz.func34 (by kernel_rfl) (by kernel_rfl) (by kernel_rfl) (by kernel_rfl)
  have h35 := @run_callFunc_extern Tryz.prog 410 _ (ReflectliteType.relation "AssignableTo" ReflectliteType.assignableTo) Tryz.func410 (by kernel_rfl) (by kernel_rfl) (by kernel_rfl) (by kernel_rfl)
  have h11 := @run_callFunc_extern Tryz.prog 58 _ (ReflectliteValue.method (ReflectliteValue.valueError "reflectlite.Value.Elem" 0) ReflectliteValue.elem) Tryz.func58 (by kernel_rfl) (by kernel_rfl) (by kernel_rfl) (by kernel_rfl)
  have h12 := @run_callFunc_extern Tryz.prog 59 _ ReflectliteValue.set Tryz.func59 (by kernel_rfl) (by kernel_rfl) (by kernel_rfl) (by kernel_rfl)
  have tO := typeOf25 G hG
  have mA := methodAssignableTo
  have a25 := assignable25 G hG
  have v25 := valueOf25 G hG
  have f6 := valueOf27 G hG
  have f7 := type27 G hG
  have mK := methodKind
  have mE := methodElem
  have mI := methodImplements
  have k27 := kind27 G hG
  have k25 := kind25 G hG
  have e27 := elem27 G hG
  have i25 := implements25 G hG
  have n8 := isNil27 G hG ⟨w.heap.size, 0, none⟩ t ((w.alloc (.cells #[.pointer (some t)] 34)).alloc (.cells #[.pointer (some ⟨G, 34, none⟩), .pointer (some ⟨w.heap.size, 0, none⟩), .int .u64 150] 82)) (by simp)
  have hlt : 0 < w.heap.size := by
    rcases Nat.eq_zero_or_pos w.heap.size with h0 | h
    · simp [World.cell?, h0] at hg
    · exact h
  have hg2 : ((w.alloc (.cells #[.pointer (some t)] 34)).alloc (.cells #[.pointer (some ⟨G, 34, none⟩), .pointer (some ⟨w.heap.size, 0, none⟩), .int .u64 150] 82)).cell? ⟨0, 0, none⟩ = some (.iface 128 (.agg #[.pointer (some ⟨G, 25, none⟩)])) := by
    rw [World.cell?_alloc_lt _ _ ⟨0, 0, none⟩ (by simp), World.cell?_alloc_lt _ _ ⟨0, 0, none⟩ hlt]; exact hg
  have htl : t.block < w.heap.size := by
    rcases Nat.lt_or_ge t.block w.heap.size with h | h
    · exact h
    · simp [World.cell?, Array.getElem?_eq_none h] at ht0
  have el := elemV27 G hG ⟨w.heap.size, 0, none⟩ t (((w.alloc (.cells #[.pointer (some t)] 34)).alloc (.cells #[.pointer (some ⟨G, 34, none⟩), .pointer (some ⟨w.heap.size, 0, none⟩), .int .u64 150] 82)).alloc (.cells #[.pointer (some ⟨G, 34, none⟩), .pointer (some ⟨w.heap.size, 0, none⟩), .int .u64 150] 82)) (by rw [World.cell?_alloc_lt _ _ ⟨w.heap.size, 0, none⟩ (by simp; omega)]; simp)
  have st := set25 G hG t ⟨w.heap.size + 1 + 1 + 1, 0, none⟩ e old ((((w.alloc (.cells #[.pointer (some t)] 34)).alloc (.cells #[.pointer (some ⟨G, 34, none⟩), .pointer (some ⟨w.heap.size, 0, none⟩), .int .u64 150] 82)).alloc (.cells #[.pointer (some ⟨G, 34, none⟩), .pointer (some ⟨w.heap.size, 0, none⟩), .int .u64 150] 82)).alloc (.cells #[.pointer (some e)] 32))
    (by rw [World.cell?_alloc_at _ _ _ _ (by simp)]; rfl)
    (by rw [World.cell?_alloc_lt _ _ t (by simp; omega), World.cell?_alloc_lt _ _ t (by simp; omega), World.cell?_alloc_lt _ _ t (by simp; omega), World.cell?_alloc_lt _ _ t htl]; exact ht0)
    (by rw [World.frozen?_alloc_old _ _ t (by simp; omega), World.frozen?_alloc_old _ _ t (by simp; omega), World.frozen?_alloc_old _ _ t (by simp; omega), World.frozen?_alloc_old _ _ t (Nat.ne_of_lt htl)]; exact hf0)
  clear hG
  go_enter Tryz.func13, Tryz.ntmps13
  go_wp2
  refine wp_loop_rounds 1 ?_
  rw [rounds_succ]
  go_wp2
  go_ret
  exact ⟨rfl, rfl⟩
theorem heap_alloc_lt (w : World) (o : Obj) (k : Nat) (h : k < w.heap.size) : (w.alloc o).heap[k]? = w.heap[k]? := by
  simp only [World.alloc]
  rw [Array.getElem?_push_lt h, Array.getElem?_eq_getElem h]
/-- package errors' own variable: the handle of the type error -/
noncomputable abbrev errT : Value := .iface 128 (.agg #[.pointer (some ⟨(Tryz.prog).globals.size, 25, none⟩)])
set_option maxHeartbeats 1000000 in
theorem as_pu [Base] [gv : GV 0 errT] {cs : List SV} {b : Nat} {s0 : SV} :
    PuH Tryz.prog 13 [ifc 32 (pt cs), lit (.iface 34 (.pointer (some ⟨b, 0, none⟩)))] [(b, 32, [s0])] (fun r H' => r = lit (.bool true) ∧ H' = [(b, 32, [pt cs])]) noX := by
  unfold PuH
  refine ⟨by kernel_rfl, fun m w vs hm hH ha => ?_⟩
  obtain ⟨v0, v1, rfl, h0, h1⟩ : ∃ v0 v1, vs = [v0, v1] ∧ (ifc 32 (pt cs)).p m v0 ∧ (lit (.iface 34 (.pointer (some ⟨b, 0, none⟩)))).p m v1 := by
    match vs, ha with
    | [v0, v1], ha => exact ⟨v0, v1, rfl, ha.1, ha.2.1⟩
  rw [lit_p] at h1
  subst h1
  unfold ifc at h0
  obtain ⟨u, rfl, hu⟩ := h0
  have hu' := hu
  unfold pt at hu'
  obtain ⟨a, off, rfl, hat⟩ := hu'
  obtain ⟨hmb, arr, hb, hal⟩ := hH.2 _ List.mem_cons_self
  simp only at hmb hb hal
  have hlt : b < w.heap.size := (Array.getElem?_eq_some_iff.1 hb).1
  obtain ⟨old, hao⟩ : ∃ old, arr = #[old] := by
    obtain ⟨l⟩ := arr
    match l, hal with
    | [v], _ => exact ⟨v, rfl⟩
  subst hao
  obtain ⟨T, fz, hg⟩ := gv.h
  have hg' := hm _ _ (hm.base _ _ hg)
  have hc := as_hit _ rfl ⟨a, off, none⟩ ⟨b, 0, none⟩ old w (by simp [World.cell?, hg']) (by simp [World.cell?, hb]) (by simp [World.frozen?, hb])
  refine hc.mono fun e w' ⟨he, hw⟩ => ?_
  subst he
  obtain ⟨w4, hw4⟩ : ∃ w4, w4 = ((((w.alloc (.cells #[.pointer (some ⟨b, 0, none⟩)] 34)).alloc (.cells #[.pointer (some ⟨(Tryz.prog).globals.size, 34, none⟩), .pointer (some ⟨w.heap.size, 0, none⟩), .int .u64 150] 82)).alloc (.cells #[.pointer (some ⟨(Tryz.prog).globals.size, 34, none⟩), .pointer (some ⟨w.heap.size, 0, none⟩), .int .u64 150] 82)).alloc (.cells #[.pointer (some ⟨a, off, none⟩)] 32)) := ⟨_, rfl⟩
  rw [← hw4] at hw
  have hold : ∀ k, k < w.heap.size → w4.heap[k]? = w.heap[k]? := fun k hk => by
    rw [hw4, heap_alloc_lt _ _ _ (by simp; omega), heap_alloc_lt _ _ _ (by simp; omega), heap_alloc_lt _ _ _ (by simp; omega), heap_alloc_lt _ _ _ hk]
  have hsz : w4.heap.size = w.heap.size + 4 := by rw [hw4]; simp
  have hb4 : w4.heap[b]? = some (.cells #[old] 32 (0, 0)) := (hold b hlt).trans hb
  have hbn := heap_set_self w4 b #[old] 32 0 (.pointer (some ⟨a, off, none⟩)) hb4
  rw [← hw] at hbn
  have hne : ∀ k, k < w.heap.size → k ≠ b → w'.heap[k]? = w.heap[k]? := fun k hk hkb => by
    rw [hw, heap_set_ne _ _ _ _ _ hkb, hold k hk]
  refine ⟨m, [(b, 32, [pt cs])], ⟨fun k o hk => ?_, hm.base⟩, ⟨by simp, fun e he => ?_⟩, ⟨Mem.le_refl m, fun _ _ _ => rfl, ?_, ?_, ?_, ?_, fun k hk hn => ?_⟩, fun e he => ?_, .inl ⟨_, _, rfl, lit_p.2 rfl, rfl, rfl⟩⟩
  · have h := hm _ _ hk
    have hkb : k ≠ b := fun h => by rw [h, hmb] at hk; cases hk
    rw [hne k (Array.getElem?_eq_some_iff.1 h).1 hkb]; exact h
  · obtain rfl := List.mem_singleton.1 he
    exact ⟨hmb, _, hbn, ⟨hu, rfl⟩, trivial⟩
  · rw [hw, hw4]; rfl
  · rw [hw, hw4]; rfl
  · rw [hw, hw4]; rfl
  · rw [hw]; simp only [World.setCell, Array.size_modify, hsz]; omega
  · exact hne k hk fun h => hn (by simp [keys, h])
  · obtain rfl := List.mem_singleton.1 he
    exact .inl (by simp [keys])
end Go.Ab
/- errors.Is at an *api.Error: it is its kind. -/
namespace Go.Ab
open Go.Proofs
set_option linter.unusedSectionVars false
set_option linter.unusedVariables false
set_option linter.unusedSimpArgs false
variable [Base]
section
variable {F : Fr} {H : LH} {ty : TypeId}
theorem ov_ieqT {T T' u u' : TypeId} {s : SV} {v' : Value} {x y : Operand} {ms : Array (String × TypeId)} (hT : (Tryz.prog).underlying T = some (.interface ms)) (hne : u ≠ u') (hx : ev F x = ifc u s) (hy : ev F y = lit (.iface u' v')) : OpV Tryz.prog (.binOp .eql T x y T') ty F H (lit (.bool false)) :=
  OpV.pure fun m w o a ho _ _ _ h => by
    have h0 := h x (by simp [Op.operands]); rw [hx] at h0
    have h1 := h y (by simp [Op.operands]); rw [hy, lit_p] at h1
    unfold ifc at h0
    obtain ⟨v, h0, _⟩ := h0
    exact ⟨.bool false, by simp [execOp, ho, h0, h1, run_eql_iface_types u u' v v' hT hne w, Go.eqGuard], lit_p.2 rfl⟩
theorem ov_asIs {s : SV} {x : Operand} (hx : ev F x = ifc 32 s) : OpV Tryz.prog (.typeAssert x 25 140 true) ty F H (Ab.tup [lit .nilIface, lit (.bool false)]) :=
  OpV.pure fun m w o a ho _ _ _ h => by
    have h0 := h x (by simp [Op.operands]); rw [hx] at h0
    unfold ifc at h0
    obtain ⟨v, h0, _⟩ := h0
    have hrun : (Instr.typeAssert (.iface 32 v) 25 140 true).run Tryz.prog w = .ok (.tuple #[.nilIface, .bool false]) w := run_typeAssert_lacksB Tryz.underlying140 (by kernel_rfl) (by kernel_rfl) v _ w
    refine ⟨.tuple #[.nilIface, .bool false], by simp [execOp, ho, h0, hrun], ?_⟩
    unfold Ab.tup
    exact ⟨_, rfl, lit_p.2 rfl, lit_p.2 rfl, trivial⟩
theorem ov_asUn {s : SV} {x : Operand} (hx : ev F x = ifc 32 s) : OpV Tryz.prog (.typeAssert x 25 135 true) ty F H (Ab.tup [ifc 32 s, lit (.bool true)]) :=
  OpV.pure fun m w o a ho _ _ _ h => by
    have h0 := h x (by simp [Op.operands]); rw [hx] at h0
    have h00 := h0
    unfold ifc at h0
    obtain ⟨v, h0, _⟩ := h0
    have hrun : (Instr.typeAssert (.iface 32 v) 25 135 true).run Tryz.prog w = .ok (.tuple #[.iface 32 v, .bool true]) w := run_typeAssert_hasB Tryz.underlying135 (by kernel_rfl) v _ w
    refine ⟨.tuple #[.iface 32 v, .bool true], by simp [execOp, ho, h0, hrun], ?_⟩
    rw [h0] at h00
    unfold Ab.tup
    exact ⟨_, rfl, h00, lit_p.2 rfl, trivial⟩
end
theorem unwM (v : Value) (w : World) : (Go.method ((Tryz.prog).types.size + Made.depth) 32 v "Unwrap").run Tryz.prog w = .ok (405, v) w := by kernel_rfl
theorem unwrap_pu (e : Er) : Pu Tryz.prog 405 [pt (erC e)] (lit (sent (eg e.k))) := by
  refine Pu.intro Tryz.func405 rfl (by kernel_rfl) fun C => ?_
  repeat (refine A1 ⟨?_⟩; intros)
  ((first | refine endR ?_ | refine endN ?_); exact end1 (RV.tmp rfl) (Le.refl _))
theorem isE1_pu (e : Er) : Pu Tryz.prog 35 [erSV e, lit (sent (eg e.k)), lit (.bool true)] (lit (.bool true)) := by
  have c := unwrap_pu e
  refine Pu.intro Tryz.func35 rfl (by kernel_rfl) fun C => ?_
  repeat (refine A1 ⟨?_⟩; intros)
  refine WP.unroll 3 ?_
  refine WPR.succ ?_
  repeat (refine A1 ⟨?_⟩; intros)
  refine WgE ?_
  refine Wo (ov_ieqT Tryz.underlying25 (by decide) rfl rfl) ?_
  repeat (refine A1 ⟨?_⟩; intros)
  refine Wo (ov_asIs rfl) ?_
  repeat (refine A1 ⟨?_⟩; intros)
  refine Wo (ov_asUn rfl) ?_
  repeat (refine A1 ⟨?_⟩; intros)
  refine Wo (ov_invoke unwM c rfl rfl) ?_
  repeat (refine A1 ⟨?_⟩; intros)
  refine WgE ?_
  refine Wo (ov_isame rfl rfl) ?_
  repeat (refine A1 ⟨?_⟩; intros)
  ((first | refine endR ?_ | refine endN ?_); exact end1 (RV.tmp rfl) (Le.refl _))
theorem isE_pu (e : Er) : Pu Tryz.prog 14 [erSV e, lit (sent (eg e.k))] (lit (.bool true)) := by
  have c := isE1_pu e
  refine Pu.intro Tryz.func14 rfl (by kernel_rfl) fun C => ?_
  repeat (refine A1 ⟨?_⟩; intros)
  refine Wo (ov_ieqF (s := pt _) (by kernel_rfl) rfl) ?_
  repeat (refine A1 ⟨?_⟩; intros)
  refine Wo (ov_typeOf rfl) ?_
  refine Wo (ov_cmpble rfl) ?_
  repeat (first | (refine A1 ⟨?_⟩; intros) | (refine Wcx (c) ?_) | (refine Wdcx (c) ?_) | (refine Wcgx (c) ?_) | (refine Wdcgx (c) ?_))
  ((first | refine endR ?_ | refine endN ?_); exact end1 (RV.tmp rfl) (Le.refl _))
end Go.Ab
/- Appending a whole finished slice to an empty one. -/
namespace Go.Ab
open Go.Proofs
set_option linter.unusedSectionVars false
set_option linter.unusedVariables false
set_option linter.unusedSimpArgs false
variable [Base]
section
variable {P : Program} {C : Ctx} {n : Nat} {F : Fr} {H : LH} {ops : Array Oper} {K : Fr → LH → Prop} {rest : List Oper} {ty : TypeId} {pos : String} {aft : Array Edge}
theorem WPL.appAllS {T e : TypeId} {sz by_ : Nat} {z : List SV} {g : Bool} [hS : TSl P T e] [hT : TY P e sz by_ z g] {d : Nat} {x y : Operand} {b0 k0 : Nat} {ds : List SV}
    (hx : ev F x = lit (.slice (some ⟨b0, 0, none⟩) 0 0)) (hy : ev F y = sl ds k0) (hds : ds.length = k0 * sz) (hpos : 0 < k0 * sz) (hl : k0 ≤ 1000000000) (hby : by_ ≤ 10000)
    (k : ∀ s' H', Own e sz k0 ds s' H' → WPL P C n ops rest K (upd F d s') (H' ++ H)) (hd : Nat.blt d n = true := by exact rfl) :
    WPL P C n ops (⟨some d, .call ⟨.builtin .append, #[x, y], #[T, T]⟩, ty, pos, aft, none⟩ :: rest) K F H := by
  unfold WPL
  intro a w hs Q hq
  have hk0 : 0 < k0 := Nat.pos_of_ne_zero fun e => by rw [e, Nat.zero_mul] at hpos; omega
  refine wpList_plain rfl fun K' hK' => ?_
  obtain ⟨hdef, hn, m0, h10, h20, h30, h40, h50⟩ := id hs
  have hp0 : ∀ x, (ev F x).p m0 (a.eval x) := fun x => by
    cases x with
    | tmp t => exact h50 t
    | const v => unfold ev lit; rfl
    | global g => unfold ev lit; rfl
    | func f => unfold ev lit; rfl
  have e0 := hp0 x; rw [hx, lit_p] at e0
  have e1 := hp0 y; rw [hy] at e1
  obtain ⟨ad2, c2, e1, hc1, hc2, hcb⟩ := sl_cells e1
  obtain ⟨b2, off2, rfl, arr2, T2, fz2, hbm2, hall2⟩ := hcb.resolve_left (fun h => by rw [h] at hds; simp at hds; omega)
  have hb2 := h10 _ _ hbm2
  rw [hds] at hall2
  generalize hl2 : (arr2.toList.drop off2).take (k0 * sz) = l2 at hall2
  obtain ⟨i, v, hi, hsz, hbyt, hz, hzl, hfl, hvs⟩ := hT.run_bytes
  have hlen2 := hall2.length
  have hys : ∀ j u, l2[j]? = some u → w.cell? ((⟨b2, off2, none⟩ : Addr).add j) = some u := fun j u hj => by
    rw [add_none, cell_of w b2 _ arr2 _ _ hb2]
    rw [← hl2, List.getElem?_take] at hj
    split at hj
    · rw [List.getElem?_drop] at hj; simpa using hj
    · cases hj
  have hexec : execOp a.eval (⟨some d, .call ⟨.builtin .append, #[x, y], #[T, T]⟩, ty, pos, aft, none⟩ : Oper) = (do let v ← Builtin.append_ #[T, T] ty #[a.eval x, a.eval y]; pure (.value v)) := by
    simp [execOp, resolve, invoke, builtin]
  have hmul : ∀ q, q ≤ 1000000001 → q * by_ ≤ 140737488355328 := fun q hq => Nat.le_trans (Nat.mul_le_mul hq hby) (by decide)
  have get2 : ∀ m, MemIn m w → (ev F y).p m (a.eval y) → All2 m ds l2 := fun m h1 h2 => by
    rw [hy, e1] at h2
    obtain ⟨ad3, c3, e3, _, _, hcb3⟩ := sl_cells h2
    obtain ⟨b3, off3, rfl, arr3, T3, fz3, hbm3, hall3⟩ := hcb3.resolve_left (fun h => by rw [h] at hds; simp at hds; omega)
    have hb3 := h1 _ _ hbm3
    simp only [Value.slice.injEq, Option.some.injEq, Addr.mk.injEq, and_true, true_and] at e3
    obtain ⟨⟨rfl, rfl⟩, _⟩ := e3
    rw [hb2] at hb3
    simp only [Option.some.injEq, Obj.cells.injEq] at hb3
    obtain ⟨rfl, _⟩ := hb3
    rw [hds, hl2] at hall3
    exact hall3
  unfold Oper.wp
  rw [hexec, e1, e0]
  have hrun := run_append_grow (P := P) w T ty e i v hS.h hi hz ⟨b0, 0, none⟩ 0 0 [] (by simp) (by intro j u hj; simp at hj) ⟨b2, off2, none⟩ k0 c2 l2 (by rw [hlen2, hsz, hds]) hys (by omega) (by omega) (growslice_fits (by omega) (by rw [hbyt]; exact hmul _ (by omega)))
  simp only [Sem.run_bind, hrun, Result.andThen_ok, Sem.run_pure]
  have hge := grownCap_ge w (0 + k0) 0 e
  have hle := grownCap_le_maxLen w (0 + k0) 0 e (by simp only [maxLen]; omega)
  have h := k (lit (.slice (some ⟨w.heap.size, 0, none⟩) (0 + k0) (grownCap w (0 + k0) 0 e))) [(w.heap.size, e, ds ++ List.replicate (grownCap w (0 + k0) 0 e * sz - k0 * sz) top)]
    ⟨hds, .inr ⟨w.heap.size, grownCap w (0 + k0) 0 e, by omega, hle, by rw [Nat.zero_add], rfl⟩⟩
  unfold WPL at h
  refine hK' _ _ (h _ _ (St.pushD (Nat.blt_eq.mp hd) hs fun m h1 h2 h3 => ?_) Q hq)
  simp only [Array.toList_append, List.toList_toArray, List.nil_append]
  refine (get2 m h1 (h3 y)).append (All2.topL ?_ (zeroCells_one hfl))
  rw [Array.length_toList, size_zeroCells, hvs, Nat.zero_add, Nat.sub_mul]
end
end Go.Ab
