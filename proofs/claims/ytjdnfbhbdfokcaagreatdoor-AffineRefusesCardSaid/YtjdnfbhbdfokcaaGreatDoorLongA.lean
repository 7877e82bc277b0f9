/- Long division by guesses: the plain laws. -/
import Derived.Test.YtjdnfbhbdfokcaaGreatDoorB04
set_option linter.unusedSectionVars false
set_option linter.unusedVariables false
set_option linter.unusedSimpArgs false
namespace Go.Ab
open Go.Proofs
variable [Base]
section
variable {B top sec third first rest g V W P vl wl : Nat}
theorem guess_more (hV : V = (top * B + sec) * P + vl) (hW : W = (first * B + third) * P + wl) (hw : wl < P) (hg : g * top + rest = first) (h : rest * B + third < g * sec) : W < g * V := by
  have h1 : first * B + third + 1 ≤ g * (top * B + sec) := by
    rw [← hg, Nat.mul_add, Nat.add_mul, ← Nat.mul_assoc]; omega
  have h2 := Nat.mul_le_mul_right P h1
  rw [hW, hV, Nat.mul_add, ← Nat.mul_assoc]
  rw [Nat.add_mul, Nat.one_mul] at h2
  omega
theorem guess_first (hV : V = (top * B + sec) * P + vl) (hW : W = (first * B + third) * P + wl) (hw : wl < P) (ht : third < B) (hg : first < (g + 1) * top) : W < (g + 1) * V := by
  have h1 : (first + 1) * B ≤ (g + 1) * top * B := Nat.mul_le_mul_right B hg
  have h2 : first * B + third + 1 ≤ (g + 1) * (top * B + sec) := by
    rw [Nat.mul_add, ← Nat.mul_assoc]; rw [Nat.add_mul, Nat.one_mul] at h1; omega
  have h3 := Nat.mul_le_mul_right P h2
  rw [hW, hV, Nat.mul_add (g + 1), ← Nat.mul_assoc]
  rw [Nat.add_mul, Nat.one_mul] at h3
  omega
theorem guess_last (hV : V = (top * B + sec) * P + vl) (hW : W = (first * B + third) * P + wl) (hv : vl < P) (hg : g * top + rest = first) (h : g * sec ≤ rest * B + third) (hB : g < B) (ht : 1 ≤ top) : g * V ≤ W + V := by
  have h1 : g * (top * B + sec) ≤ first * B + third := by
    rw [← hg, Nat.mul_add, Nat.add_mul, ← Nat.mul_assoc]; omega
  have h2 := Nat.mul_le_mul_right P h1
  have h3 : g * vl ≤ B * P := Nat.mul_le_mul (by omega) (by omega)
  have h4 : B * P ≤ (top * B + sec) * P := Nat.mul_le_mul_right P (by have := Nat.mul_le_mul_right B ht; omega)
  rw [Nat.mul_assoc] at h2
  rw [hW, hV, Nat.mul_add]
  omega
theorem guess_small (hV : V = (top * B + sec) * P + vl) (hW : W = (first * B + third) * P + wl) (hv : vl < P) (hs : sec < B) (hWV : W < B * V) (hg : g * top ≤ first) (ht : B ≤ 2 * top) (h0 : 0 < B) : g ≤ B + 1 ∧ first < B * top + B := by
  have h1 : V < (top + 1) * B * P := by
    have := Nat.mul_le_mul_right P (show top * B + sec + 1 ≤ (top + 1) * B by rw [Nat.add_mul, Nat.one_mul]; omega)
    rw [Nat.add_mul _ 1, Nat.one_mul] at this
    omega
  have h2 : first * B * P ≤ W := by rw [hW, Nat.add_mul]; omega
  have h3 : first * B * P < B * ((top + 1) * B * P) := Nat.lt_of_le_of_lt h2 (Nat.lt_trans hWV (Nat.mul_lt_mul_of_pos_left h1 h0))
  have h4 : first * (B * P) < B * (top + 1) * (B * P) := by simpa only [Nat.mul_assoc] using h3
  have h5 := Nat.lt_of_mul_lt_mul_right h4
  rw [Nat.mul_add, Nat.mul_one] at h5
  refine ⟨?_, h5⟩
  rcases Nat.lt_or_ge (B + 1) g with h | h
  · exfalso
    have h6 := Nat.mul_le_mul_right top h
    simp only [Nat.succ_eq_add_one, Nat.add_mul, Nat.one_mul] at h6
    omega
  · exact h
end
theorem msub_digit {vo vs va c w d u t : Nat} {p B1 g : Nat} (h : vs + p * (g * va) = vo + p * (B1 * (c + w))) (ht : t = c + g * d) {x' w' : Nat} (hx : x' + t % 4294967296 + w = u + 4294967296 * w') {vs' : Nat} (hs : vs' + p * B1 * u = vs + p * B1 * x') :
    vs' + p * (g * (va + B1 * d)) = vo + p * (B1 * 4294967296 * (t / 4294967296 + w')) := by
  have e := Nat.div_add_mod t 4294967296
  have e1 := congrArg (fun z => p * B1 * z) e
  have e2 := congrArg (fun z => p * B1 * z) hx
  rw [ht] at e1
  simp only [Nat.mul_add, ← Nat.mul_assoc] at h e1 e2 hs ⊢
  rw [← ht] at e1
  rw [show p * g * B1 * d = p * B1 * g * d from by rw [Nat.mul_right_comm p g B1]]
  omega
theorem madd_digit {vo vs va c d u t : Nat} {p B1 : Nat} (h : vs + p * (B1 * c) = vo + p * va) (ht : t = c + (u + d)) {vs' : Nat} (hs : vs' + p * B1 * u = vs + p * B1 * (t % 4294967296)) :
    vs' + p * (B1 * 4294967296 * (t / 4294967296)) = vo + p * (va + B1 * d) := by
  have e := Nat.div_add_mod t 4294967296
  have e1 := congrArg (fun z => p * B1 * z) e
  rw [ht] at e1
  simp only [Nat.mul_add, ← Nat.mul_assoc] at h e1 hs ⊢
  rw [← ht] at e1
  omega
theorem val_drop_zero {us : List Nat} {n : Nat} (h : val us < 4294967296 ^ n) (hn : n ≤ us.length) : val us = val (us.take n) ∧ ∀ j, n ≤ j → us.getD j 0 = 0 := by
  have hs := val_split us n hn
  have h0 : val (us.drop n) = 0 := by
    rcases Nat.eq_zero_or_pos (val (us.drop n)) with h1 | h1
    · exact h1
    · have := Nat.mul_le_mul_left (4294967296 ^ n) h1
      rw [Nat.mul_one] at this; omega
  refine ⟨by rw [hs, h0, Nat.mul_zero, Nat.add_zero], fun j hj => ?_⟩
  have hz : ∀ l : List Nat, val l = 0 → ∀ i, l.getD i 0 = 0 := by
    intro l
    induction l with
    | nil => intro _ i; simp
    | cons d l ih =>
      intro hv i
      rw [val_cons] at hv
      cases i with
      | zero => simpa using (show d = 0 by omega)
      | succ i => simpa using ih (by omega) i
  have := hz (us.drop n) h0 (j - n)
  rw [List.getD, List.getElem?_drop, show n + (j - n) = j from by omega] at this
  exact this
theorem D_shift {us : List Nat} {j : Nat} (hD : D us) (hj : j ≤ us.length) : val us / 4294967296 ^ j = val (us.drop j) := by
  rw [val_split us j hj, Nat.add_mul_div_left _ _ (Nat.pow_pos (by omega)), Nat.div_eq_of_lt, Nat.zero_add]
  have h := val_lt (hD.take j)
  rw [List.length_take, Nat.min_eq_left hj] at h; exact h
theorem round_done {us us' : List Nat} {j g V W : Nat} (hD : D us) (hD' : D us') (hj : j ≤ us.length) (hj' : j ≤ us'.length) (hW : val (us.drop j) = W) (h : val us' + 4294967296 ^ j * (g * V) = val us) (hg : W < (g + 1) * V) :
    val (us'.drop j) < V := by
  rw [← D_shift hD' hj', Nat.div_lt_iff_lt_mul (Nat.pow_pos (by omega))]
  have hs := val_split us j hj
  have hl := val_lt (hD.take j)
  rw [List.length_take, Nat.min_eq_left hj] at hl
  rw [hW] at hs
  have h2 : 4294967296 ^ j * (W + 1) ≤ 4294967296 ^ j * ((g + 1) * V) := Nat.mul_le_mul_left _ hg
  rw [Nat.add_mul, Nat.one_mul, Nat.mul_add, Nat.mul_add] at h2
  rw [Nat.mul_comm V]
  omega
theorem val_three {us : List Nat} {j n : Nat} (hD : D us) (hn : 2 ≤ n) (hl : j + n < us.length) (hz : val (us.drop (j + 1)) < 4294967296 ^ n) :
    ∃ wl, wl < 4294967296 ^ (n - 2) ∧ val (us.drop j) = ((us.getD (j + n) 0 * 4294967296 + us.getD (j + n - 1) 0) * 4294967296 + us.getD (j + n - 2) 0) * 4294967296 ^ (n - 2) + wl := by
  have hD' := hD.drop j
  have hlen : (us.drop j).length = us.length - j := List.length_drop
  have hlt : val (us.drop j) < 4294967296 ^ (n + 1) := by
    rw [drop_getD us j (by omega), val_cons, Nat.pow_succ, Nat.mul_comm]
    have := hD.get j
    have := Nat.mul_le_mul_right 4294967296 hz
    omega
  have e := (val_drop_zero hlt (by omega)).1
  have g0 : ∀ i, (us.drop j).getD i 0 = us.getD (j + i) 0 := fun i => by rw [List.getD, List.getElem?_drop]; rfl
  have hw := val_lt (hD'.take (n - 2))
  rw [List.length_take, Nat.min_eq_left (by omega)] at hw
  refine ⟨_, hw, ?_⟩
  obtain ⟨k, rfl⟩ : ∃ k, n = k + 2 := ⟨n - 2, by omega⟩
  rw [e, val_take_succ', val_take_succ', val_take_succ', g0, g0, g0]
  rw [show j + (k + 2) - 1 = j + (k + 1) from by omega, show j + (k + 2) - 2 = j + k from by omega, show k + 2 - 2 = k from by omega]
  simp only [Nat.pow_succ, Nat.add_mul]
  rw [Nat.mul_comm (4294967296 ^ k) (us.getD (j + k) 0), Nat.mul_comm (4294967296 ^ k * 4294967296) _, Nat.mul_comm (4294967296 ^ k * 4294967296 * 4294967296) _, Nat.mul_comm (4294967296 ^ k) 4294967296]
  simp only [Nat.mul_assoc]
  rw [Nat.mul_comm (4294967296 ^ k) 4294967296]
  omega
theorem lead_two {v : List Nat} {n : Nat} (hD : D v) (hn : 2 ≤ n) (hl : v.length = n) : ∃ vl, vl < 4294967296 ^ (n - 2) ∧ val v = (v.getD (n - 1) 0 * 4294967296 + v.getD (n - 2) 0) * 4294967296 ^ (n - 2) + vl := by
  have hw := val_lt (hD.take (n - 2))
  rw [List.length_take, Nat.min_eq_left (by omega)] at hw
  refine ⟨_, hw, ?_⟩
  obtain ⟨k, rfl⟩ : ∃ k, n = k + 2 := ⟨n - 2, by omega⟩
  conv => lhs; rw [← List.take_of_length_le (Nat.le_of_eq hl)]
  rw [val_take_succ', val_take_succ', show k + 2 - 1 = k + 1 from rfl, show k + 2 - 2 = k from by omega]
  simp only [Nat.pow_succ, Nat.add_mul]
  rw [Nat.mul_comm (4294967296 ^ k) (v.getD k 0), Nat.mul_comm (4294967296 ^ k * 4294967296) _, Nat.mul_comm (4294967296 ^ k) 4294967296]
  simp only [Nat.mul_assoc]
  omega
theorem norm_shift {y k s : Nat} (hk : (dgs y).length = k + 1) (hs : s + blen ((dgs y).getD k 0) = 32) : s < 32 ∧ (dgs (y * 2 ^ s)).length = k + 1 ∧ 2147483648 ≤ (dgs (y * 2 ^ s)).getD k 0 ∧ 4294967296 ^ k ≤ y := by
  have hy0 : y ≠ 0 := fun e => by rw [e, dgs_zero] at hk; simp at hk
  obtain ⟨k', h1, h2, h3, h4, h5⟩ := dgs_top hy0
  obtain rfl : k' = k := by omega
  generalize (dgs y).getD k' 0 = t at *
  generalize val ((dgs y).take k') = low at *
  have hb : 1 ≤ blen t := by
    have := (blen_lt (n := t) (k := 0)).2 (by simp; omega); omega
  have q1 : 2 ^ (blen t - 1) ≤ t := blen_lt.1 (by omega)
  have q2 : t < 2 ^ blen t := blen_le.1 (Nat.le_refl _)
  have p1 : 2 ^ (blen t - 1) * 2 ^ s = 2147483648 := by rw [← Nat.pow_add, show blen t - 1 + s = 31 from by omega]
  have p2 : 2 ^ blen t * 2 ^ s = 4294967296 := by rw [← Nat.pow_add, show blen t + s = 32 from by omega]
  have pp : 0 < 4294967296 ^ k' := Nat.pow_pos (by omega)
  have hs0 : 0 < 2 ^ s := Nat.pow_pos (by omega)
  have lo : 2147483648 * 4294967296 ^ k' ≤ y * 2 ^ s := by
    have e1 := Nat.mul_le_mul_right (4294967296 ^ k') (Nat.mul_le_mul_right (2 ^ s) q1)
    rw [p1] at e1
    refine Nat.le_trans e1 ?_
    rw [Nat.mul_right_comm]
    refine Nat.mul_le_mul_right _ ?_
    rw [h5, Nat.mul_comm t]; omega
  have hi : y * 2 ^ s < 4294967296 ^ (k' + 1) := by
    have e0 : y < (t + 1) * 4294967296 ^ k' := by rw [h5, Nat.add_mul, Nat.mul_comm t]; omega
    have e1 := Nat.mul_lt_mul_of_pos_right e0 hs0
    refine Nat.lt_of_lt_of_le e1 ?_
    have e2 := Nat.mul_le_mul_right (4294967296 ^ k') (Nat.mul_le_mul_right (2 ^ s) (show t + 1 ≤ 2 ^ blen t by omega))
    rw [p2] at e2
    rw [Nat.mul_right_comm, Nat.pow_succ, Nat.mul_comm (4294967296 ^ k') 4294967296]; exact e2
  have hlen : (dgs (y * 2 ^ s)).length = k' + 1 := by
    have a1 := len_le hi
    rcases Nat.lt_or_ge k' (dgs (y * 2 ^ s)).length with h | h
    · omega
    · have := len_lt h; omega
  refine ⟨by omega, hlen, ?_, ?_⟩
  · have hd := D_shift (j := k') (D_dgs (y * 2 ^ s)) (by omega)
    rw [val_dgs, drop_getD _ k' (by omega), List.drop_eq_nil_of_le (by omega)] at hd
    simp only [val, Nat.mul_zero, Nat.add_zero] at hd
    rw [← hd, Nat.le_div_iff_mul_le pp]; exact lo
  · rw [h5]
    have := Nat.mul_le_mul_left (4294967296 ^ k') (Nat.one_le_iff_ne_zero.2 h2)
    omega
theorem val_zeros : ∀ l : List Nat, (∀ i, l.getD i 0 = 0) → val l = 0
  | [], _ => rfl
  | d :: l, h => by
    have h0 : d = 0 := by simpa using h 0
    have h1 := val_zeros l fun i => by simpa using h (i + 1)
    rw [val_cons, h0, h1]
theorem val_small {us : List Nat} {k : Nat} (hD : D us) (hk : k ≤ us.length) (h : ∀ p, k ≤ p → us.getD p 0 = 0) : val us < 4294967296 ^ k := by
  have h0 : val (us.drop k) = 0 := val_zeros _ fun i => by
    have := h (k + i) (by omega)
    rwa [List.getD, List.getElem?_drop]
  have h1 := val_lt (hD.take k)
  rw [List.length_take, Nat.min_eq_left hk] at h1
  rw [val_split us k hk, h0]; simpa using h1
theorem fin_right {vu v2 v3 p q c w u x gv : Nat} (h2 : v2 + p * gv = vu + p * (q * (c + w))) (h3 : v3 + p * q * u = v2 + p * q * x) (hx : x + c + w = u) : v3 + p * gv = vu := by
  have e := congrArg (fun z => p * q * z) hx
  simp only [Nat.mul_add, ← Nat.mul_assoc] at e h2 h3
  omega
theorem fin_over {vu v2 v3 p q c w u x gv : Nat} (h2 : v2 + p * gv = vu + p * (q * (c + w))) (h3 : v3 + p * q * u = v2 + p * q * x) (hx : x + c + w = u + 4294967296) : v3 + p * gv = vu + p * q * 4294967296 := by
  have e := congrArg (fun z => p * q * z) hx
  simp only [Nat.mul_add, ← Nat.mul_assoc] at e h2 h3
  omega
theorem over_lt {vu v3 p q gv low W : Nat} (h : v3 + p * gv = vu + p * q * 4294967296) (hl : v3 < p * q * 4294967296) (hu : vu = low + p * W) : W < gv := by
  have : p * W < p * gv := by omega
  exact Nat.lt_of_mul_lt_mul_left this
theorem fin_back {vu v3 v4 v5 p q c t gv V low W : Nat} (h3 : v3 + p * gv = vu + p * q * 4294967296) (h4 : v4 + p * (q * c) = v3 + p * V) (h5 : v5 + p * q * t = v4 + p * q * ((t + c) % 4294967296)) (hl : v5 < p * q * 4294967296)
    (hc : c ≤ 1) (ht : t < 4294967296) (hg : gv ≤ W + V) (hu : vu = low + p * W) : v5 + p * gv = vu + p * V := by
  have e := Nat.mul_le_mul_left p hg
  rcases Nat.lt_or_ge (t + c) 4294967296 with hlt | hge
  · exfalso
    rw [Nat.mod_eq_of_lt hlt] at h5
    simp only [Nat.mul_add, ← Nat.mul_assoc] at e h3 h4 h5 hl
    omega
  · have hm : (t + c) % 4294967296 + 4294967296 = t + c := by omega
    have e2 := congrArg (fun z => p * q * z) hm
    simp only [Nat.mul_add, ← Nat.mul_assoc] at e2 h3 h4 h5
    omega
end Go.Ab
