/- Loops whose rounds leave blocks behind; lists of records. -/
import Derived.Test.YthgobgompobhhaaGreatDoorUtil
namespace Go.Ab
open Go.Proofs
set_option linter.unusedSectionVars false
variable [Base]
section
variable {P : Program} {C : Ctx} {n : Nat} {F : Fr} {H : LH} {ops : Array Oper} {K : Fr → LH → Prop} {Q : Exit → Fr → LH → Prop}
theorem St.sub {H' : LH} {a : Act} {w : World} (hs : St C n F H a w) (h : H'.Sublist H) : St C n F H' a w := by
  obtain ⟨hdef, hn, m, h1, h2, h3, h4, h5⟩ := hs
  exact ⟨hdef, hn, m, h1, ⟨(h.map _).nodup h2.1, fun e he => h2.2 e (h.subset he)⟩, h3, fun e he => h4 e (h.subset he), h5⟩
theorem WP.sub {c : Code} {H' : LH} (h : H'.Sublist H) (k : WP P C n c Q F H') : WP P C n c Q F H := by
  unfold WP at *; exact fun a w hs => k a w (hs.sub h)
theorem WP.loopS {ι : Type} {c : Code} (J : ι → Prop) (μ : ι → Nat) (G : ι → Fr) (L : ι → LH) (x0 : ι) (h0 : J x0) (hF : LeF F (G x0)) (hH : (L x0).Sublist H)
    (round : ∀ x, J x → ∀ K : Fr → LH → Prop, (∀ F' H' x', J x' → μ x' < μ x → LeF F' (G x') → (L x').Sublist H' → K F' H') → WP P C n c (thenQ K Q) (G x) (L x)) :
    WP P C n (.loop c) Q F H := by
  refine WP.sub hH (WP.le hF ?_)
  unfold WP
  intro a w hs
  refine wp_loop_ghost (fun k a w => ∃ x, μ x = k ∧ J x ∧ St C n (G x) (L x) a w) (μ x0) ⟨x0, rfl, h0, hs⟩ ?_
  rintro k a w ⟨x, rfl, hJ, hs⟩
  have hr := round x hJ (fun F' H' => ∃ x', J x' ∧ μ x' < μ x ∧ LeF F' (G x') ∧ (L x').Sublist H') (fun F' H' x' a b c d => ⟨x', a, b, c, d⟩)
  unfold WP at hr
  refine wp_mono (hr a w hs) ?_
  rintro e a' w' ⟨F', H', hs', hq⟩
  unfold thenQ at hq
  cases e with
  | normal =>
    obtain ⟨x', hJ', hμ, hF', hH'⟩ := hq
    exact ⟨μ x', hμ, x', rfl, hJ', (hs'.le hF').sub hH'⟩
  | _ => exact ⟨F', H', hs', hq⟩
/-- a finished row of records -/
theorem WpubS {l : List Oper} {b : Nat} {T : TypeId} {cs : List SV} {H' : LH} {k c : Nat} (d : Nat) (hv : F d = lit (.slice (some ⟨b, 0, none⟩) k c)) (hdel : HDel b T cs H H') (hc : k ≤ c) (hc' : c ≤ 1000000000)
    (h : WPL P C n ops l K (upd F d (sl cs k)) H') : WPL P C n ops l K F H :=
  WPL.pub hdel hv (fun m arr hm ha => pub_sl hc (by omega) m arr hm ha) h
/-- a guard that is met is no guard -/
theorem WgE {d : Option Nat} {op : Op} {ty : TypeId} {pos : String} {aft : Array Edge} {rest : List Oper} {K : Fr → LH → Prop} {j : Nat} {t : Bool} {oj : Oper} {dj : Nat} (k : WPL P C n ops (⟨d, op, ty, pos, aft, none⟩ :: rest) K F H)
    (hj : ops[j]? = some oj := by exact rfl) (hdj : oj.dst = some dj := by exact rfl) (hf : F dj = lit (.bool t) := by exact rfl) (hdn : Nat.blt dj n = true := by exact rfl) : WPL P C n ops (⟨d, op, ty, pos, aft, some (j, t)⟩ :: rest) K F H := by
  unfold WPL at *
  intro a w hs Q hq
  have hy := yielded_of hs hj hdj hf hdn
  have h := k a w hs Q hq
  unfold wpList at h ⊢
  have h1 : Region.wanted (⟨d, op, ty, pos, aft, none⟩ : Oper) (yielded ops a.tmps) = true := rfl
  have h2 : Region.wanted (⟨d, op, ty, pos, aft, some (j, t)⟩ : Oper) (yielded ops a.tmps) = true := by simp [Region.wanted, hy]
  rw [if_pos h1] at h
  rw [if_pos h2]
  exact h
end
theorem flat_at {α β : Type} {f : α → List β} {n : Nat} (hf : ∀ a, (f a).length = n) : ∀ {l : List α} {k : Nat} {a : α}, l[k]? = some a → (((l.map f).flatten).drop (k * n)).take n = f a
  | [], _, _, h => by simp at h
  | x :: l, 0, a, h => by
    simp at h; subst h
    simp [hf x]
  | x :: l, k + 1, a, h => by
    have := flat_at hf (l := l) (k := k) (a := a) (by simpa using h)
    rw [List.map_cons, List.flatten_cons, show (k + 1) * n = (f x).length + k * n from by rw [hf, Nat.add_mul, Nat.one_mul, Nat.add_comm], List.drop_append, List.drop_eq_nil_of_le (Nat.le_add_right _ _), List.nil_append, Nat.add_sub_cancel_left]
    exact this
theorem flat_ne {α β : Type} {f : α → List β} {n : Nat} (hf : ∀ a, (f a).length = n) (hn : 0 < n) {l : List α} (h : l ≠ []) : (l.map f).flatten ≠ [] := by
  cases l with
  | nil => exact absurd rfl h
  | cons x l =>
    intro e
    have := congrArg List.length e
    simp [hf x] at this; omega
end Go.Ab
