/- Package nat: subtracting. -/
import Derived.Test.YthgobgompobhhaaGreatDoorNatD
namespace Go.Ab
open Go.Proofs
set_option linter.unusedSectionVars false
variable [Base]
theorem sub_digit {vo va vb p c c' x y d : Nat} (h : vo + vb = va + p * c) (hd : d + 4294967296 * c' = x + c + y) : vo + p * x + (vb + p * y) = va + p * d + p * 4294967296 * c' := by
  have := congrArg (fun t => p * t) hd
  simp only [Nat.mul_add, ← Nat.mul_assoc] at this
  omega
set_option maxHeartbeats 2000000 in
theorem less_nat (a b : Nat) (hab : b ≤ a) (hl : (dgs a).length ≤ 100000000) : Pu Tryz.prog 202 [nat a, nat b] (nat (a - b)) := by
  have hP := D_dgs a
  have hQ := D_dgs b
  have hqp := len_mono hab
  have hva := val_dgs a
  have hvb := val_dgs b
  show Pu _ _ [dg (dgs a), dg (dgs b)] _
  generalize dgs a = p at *
  generalize dgs b = q at *
  refine Pu.intro Tryz.func202 rfl (by kernel_rfl) fun C => ?_
  repeat (refine A1 ⟨?_⟩; intros)
  refine WmkD p.length rfl rfl (by omega) (by omega) fun bb => ?_
  repeat (refine A1 ⟨?_⟩; intros)
  refine WP.loop (ι := Nat × Nat × List Nat) (fun s => s.1 ≤ p.length ∧ s.2.1 ≤ 1 ∧ s.2.2.length = p.length ∧ D s.2.2 ∧ val (s.2.2.take s.1) + val (q.take s.1) = val (p.take s.1) + 4294967296 ^ s.1 * s.2.1) (fun s => p.length - s.1)
    (fun s => fm [(1, dg q), (5, lit (.slice (some ⟨bb, 0, none⟩) p.length p.length)), (6, lit (.int .u64 s.2.1)), (14, dg p), (15, lit (.int .i64 p.length)), (16, lit (.int .i64 s.1))])
    (fun s => [(bb, 174, dcells s.2.2)]) (0, 0, List.replicate p.length 0) ⟨Nat.zero_le _, Nat.zero_le _, by simp, D.rep _, by simp [val]⟩ (by (repeat (first | exact LeF.nil _ | refine LeF.cons (Le.refl _) ?_ | refine LeF.cons (Le.int (by omega)) ?_))) rfl ?_
  rintro ⟨k, c, os⟩ ⟨hk, hc, hol, hO, hval⟩ K hK
  simp only at hk hc hol hO hval ⊢
  have hp := hP.get k
  have hq := hQ.get k
  by_cases hkl : k < p.length
  · have fin : ∀ x c', c' ≤ 1 → x < 4294967296 → p.getD k 0 + 4294967296 * c' = x + c + q.getD k 0 → ∀ F' H', LeF F' (fm [(1, dg q), (5, lit (.slice (some ⟨bb, 0, none⟩) p.length p.length)), (6, lit (.int .u64 c')), (14, dg p), (15, lit (.int .i64 p.length)), (16, lit (.int .i64 ((k + 1 : Nat) : Int)))]) →
        H' = [(bb, 174, dcells (os.set k x))] → K F' H' := fun x c' hc' hx hd F' H' hF hH => by
      refine hK F' H' (k + 1, c', os.set k x) ⟨by simp only; omega, hc', by simpa using hol, hO.set k hx, ?_⟩ (by simp only; omega) hF hH
      simp only
      rw [val_take_set os k _ (by omega), val_take_succ', val_take_succ', Nat.pow_succ]
      exact sub_digit hval hd
    by_cases hkq : k < q.length
    · by_cases hb : p.getD k 0 < c + q.getD k 0
      · repeat (refine A1 ⟨?_⟩; intros)
        refine WstD (p.getD k 0 + 4294967296 - c - q.getD k 0) rfl rfl (by omega) (HUpd.here _) (by omega) ?_
        repeat (refine A1 ⟨?_⟩; intros)
        exact fin _ 1 (by omega) (by omega) (by omega) _ _ (by (repeat (first | exact LeF.nil _ | refine LeF.cons (Le.refl _) ?_ | refine LeF.cons (Le.int (by omega)) ?_))) rfl
      · repeat (refine A1 ⟨?_⟩; intros)
        refine WstD (p.getD k 0 - c - q.getD k 0) rfl rfl (by omega) (HUpd.here _) (by omega) ?_
        repeat (refine A1 ⟨?_⟩; intros)
        exact fin _ 0 (by omega) (by omega) (by omega) _ _ (by (repeat (first | exact LeF.nil _ | refine LeF.cons (Le.refl _) ?_ | refine LeF.cons (Le.int (by omega)) ?_))) rfl
    · have hq0 : q.getD k 0 = 0 := by simp [List.getD, List.getElem?_eq_none (Nat.not_lt.1 hkq)]
      by_cases hb : p.getD k 0 < c
      · repeat (refine A1 ⟨?_⟩; intros)
        refine WstD (p.getD k 0 + 4294967296 - c) rfl rfl (by omega) (HUpd.here _) (by omega) ?_
        repeat (refine A1 ⟨?_⟩; intros)
        exact fin _ 1 (by omega) (by omega) (by omega) _ _ (by (repeat (first | exact LeF.nil _ | refine LeF.cons (Le.refl _) ?_ | refine LeF.cons (Le.int (by omega)) ?_))) rfl
      · repeat (refine A1 ⟨?_⟩; intros)
        refine WstD (p.getD k 0 - c) rfl rfl (by omega) (HUpd.here _) (by omega) ?_
        repeat (refine A1 ⟨?_⟩; intros)
        exact fin _ 0 (by omega) (by omega) (by omega) _ _ (by (repeat (first | exact LeF.nil _ | refine LeF.cons (Le.refl _) ?_ | refine LeF.cons (Le.int (by omega)) ?_))) rfl
  · have hke : k = p.length := by omega
    subst hke
    repeat (refine A1 ⟨?_⟩; intros)
    refine WpubD (ds := os) 45 rfl (HDel.here _) hol (by omega) (by omega) ?_
    refine Wc (trim_nat os (by omega) hO) ?_
    have hfull : val os = a - b := by
      rw [List.take_length, List.take_of_length_le hqp, List.take_of_length_le (by omega), hva, hvb] at hval
      have h1 := val_lt hO
      rw [hol] at h1
      rcases Nat.lt_or_ge 0 c with h | h
      · have : c = 1 := by omega
        subst this; omega
      · have : c = 0 := by omega
        subst this; omega
    rw [hfull]
    repeat (refine A1 ⟨?_⟩; intros)
    ((first | refine endR ?_ | refine endN ?_); exact end1 (RV.tmp rfl) (Le.refl _))
set_option maxHeartbeats 1000000 in
theorem sub_nat (xs ys : List Nat) (hla : xs.length ≤ 100000000) (hlb : ys.length ≤ 100000000) (hA : D xs) (hB : D ys) : Pu Tryz.prog 197 [dg xs, dg ys]
    (if val xs < val ys then tup [dg [], lit (.bool false)] else tup [nat (val xs - val ys), lit (.bool true)]) := by
  have hc := cmpN_bd (val xs) (val ys)
  refine Pu.intro Tryz.func197 rfl (by kernel_rfl) fun C => ?_
  repeat (refine A1 ⟨?_⟩; intros)
  refine Wc (cmp_nat xs ys (by omega) (by omega) hA hB) ?_
  by_cases h : val xs < val ys
  · have h' := hc.2.2.2 h
    rw [if_pos h]
    repeat (refine A1 ⟨?_⟩; intros)
    refine endR (end2 (RV.tmp rfl) (RV.tmp rfl) ?_)
    intro m v hv
    unfold tup at hv ⊢
    obtain ⟨arr, rfl, hall⟩ := hv
    refine ⟨arr, rfl, ?_⟩
    rcases arr with ⟨l⟩
    match l, hall with
    | [x, y], hall => exact ⟨le_nil _ _ hall.1, hall.2⟩
  · have h' : ¬ cmpN (val xs) (val ys) < 0 := fun hh => h (hc.2.2.1 hh)
    rw [if_neg h]
    repeat (refine A1 ⟨?_⟩; intros)
    refine Wc (trim_nat xs (by omega) hA) ?_
    repeat (refine A1 ⟨?_⟩; intros)
    refine Wc (trim_nat ys (by omega) hB) ?_
    refine Wc (less_nat (val xs) (val ys) (by omega) (by have := len_le (val_lt hA); omega)) ?_
    repeat (refine A1 ⟨?_⟩; intros)
    ((first | refine endR ?_ | refine endN ?_); exact end2 (RV.tmp rfl) (RV.tmp rfl) (Le.refl _))
end Go.Ab
