/- Package nat: multiplying. -/
import Derived.Test.YthgobgompobhhaaGreatDoorNatE
namespace Go.Ab
open Go.Proofs
set_option linter.unusedSectionVars false
variable [Base]
theorem val_set (ds : List Nat) (j x : Nat) (h : j < ds.length) : val (ds.set j x) + 4294967296 ^ j * ds.getD j 0 = val ds + 4294967296 ^ j * x := by
  have h1 := val_at ds j h
  have h2 := val_at (ds.set j x) j (by simpa using h)
  rw [List.take_set_of_le (Nat.le_refl _), show (ds.set j x).drop (j + 1) = ds.drop (j + 1) from by rw [List.drop_set]; simp,
    show (ds.set j x).getD j 0 = x from by simp [List.getD, h]] at h2
  rw [h1, h2, Nat.mul_add, Nat.mul_add]
  omega
theorem getD_set_ne' (ds : List Nat) (j k x : Nat) (h : j ≠ k) : (ds.set j x).getD k 0 = ds.getD k 0 := by simp [List.getD, List.getElem?_set_ne h]
theorem mul_inner {vo v p c x y o t : Nat} (vq : Nat) {B1 : Nat} (h : vo + B1 * p * c = v + B1 * x * vq) (ht : t = c + x * y + o) {vo' : Nat} (hs : vo' + B1 * p * o = vo + B1 * p * (t % 4294967296)) :
    vo' + B1 * (p * 4294967296) * (t / 4294967296) = v + B1 * x * (vq + p * y) := by
  have e := Nat.div_add_mod t 4294967296
  have e2 := congrArg (fun z => B1 * p * z) e
  rw [ht] at e2
  simp only [Nat.mul_add, ← Nat.mul_assoc] at e2 h ⊢
  rw [← ht] at e2
  have e3 : B1 * p * x * y = B1 * x * p * y := by rw [Nat.mul_right_comm B1 p x]
  omega
theorem prod_bd {x y : Nat} (hx : x < 4294967296) (hy : y < 4294967296) : (x : Int) * (y : Int) ≤ 18446744065119617025 ∧ 0 ≤ (x : Int) * (y : Int) := by
  have h : x * y ≤ 4294967295 * 4294967295 := Nat.mul_le_mul (by omega) (by omega)
  have h2 : ((x * y : Nat) : Int) ≤ 18446744065119617025 := by omega
  rw [Int.natCast_mul] at h2
  exact ⟨h2, Int.mul_nonneg (by omega) (by omega)⟩
/-- what a trimmed argument is good for -/
theorem trimmed (xs : List Nat) {k : Nat} (hl : xs.length ≤ k) (hk : k ≤ 1000000000) (hA : D xs) : ∃ p, Pu Tryz.prog 175 [dg xs] (dg p) ∧ p.length ≤ k ∧ D p ∧ val p = val xs ∧ p = dgs (val xs) :=
  ⟨dgs (val xs), trim_nat xs (by omega) hA, by have := len_le (val_lt hA); omega, D_dgs _, val_dgs _, rfl⟩
set_option maxHeartbeats 4000000 in
theorem mul_nat (xs ys : List Nat) (hla : xs.length ≤ 100000000) (hlb : ys.length ≤ 100000000) (hA : D xs) (hB : D ys) : Pu Tryz.prog 169 [dg xs, dg ys] (nat (val xs * val ys)) := by
  obtain ⟨p, t1, h1, hP, hva, _⟩ := trimmed xs hla (by omega) hA
  obtain ⟨q, t2, h2, hQ, hvb, _⟩ := trimmed ys hlb (by omega) hB
  rw [← hva, ← hvb]
  refine Pu.intro Tryz.func169 rfl (by kernel_rfl) fun C => ?_
  repeat (refine A1 ⟨?_⟩; intros)
  refine Wc t1 ?_
  repeat (refine A1 ⟨?_⟩; intros)
  refine Wc t2 ?_
  repeat (refine A1 ⟨?_⟩; intros)
  refine WmkD (p.length + q.length) rfl rfl (by omega) (by omega) fun bb => ?_
  repeat (refine A1 ⟨?_⟩; intros)
  refine WP.loop (ι := Nat × List Nat) (fun s => s.1 ≤ p.length ∧ s.2.length = p.length + q.length ∧ D s.2 ∧ val s.2 = val (p.take s.1) * val q ∧ ∀ j, s.1 + q.length ≤ j → s.2.getD j 0 = 0) (fun s => p.length - s.1)
    (fun s => fm [(1, dg q), (5, lit (.slice (some ⟨bb, 0, none⟩) (p.length + q.length) (p.length + q.length))), (21, dg p), (22, lit (.int .i64 p.length)), (23, lit (.int .i64 s.1))])
    (fun s => [(bb, 174, dcells s.2)]) (0, List.replicate (p.length + q.length) 0) ⟨Nat.zero_le _, by simp, D.rep _, by simp [val, val_rep], fun j _ => by simp [List.getD, List.getElem?_replicate]; split <;> simp⟩ (by (repeat (first | exact LeF.nil _ | refine LeF.cons (Le.refl _) ?_ | refine LeF.cons (Le.int (by omega)) ?_))) rfl ?_
  rintro ⟨i, os⟩ ⟨hi, hol, hO, hval, hz⟩ K hK
  simp only at hi hol hO hval hz ⊢
  by_cases hil : i < p.length
  · have hx := hP.get i
    repeat (refine A1 ⟨?_⟩; intros)
    refine WP.loop (ι := Nat × Nat × List Nat) (fun s => s.1 ≤ q.length ∧ s.2.1 < 4294967296 ∧ s.2.2.length = p.length + q.length ∧ D s.2.2 ∧ val s.2.2 + 4294967296 ^ i * 4294967296 ^ s.1 * s.2.1 = val os + 4294967296 ^ i * p.getD i 0 * val (q.take s.1) ∧ ∀ j, i + q.length ≤ j → s.2.2.getD j 0 = 0) (fun s => q.length - s.1)
      (fun s => fm [(1, dg q), (5, lit (.slice (some ⟨bb, 0, none⟩) (p.length + q.length) (p.length + q.length))), (6, lit (.int .i64 i)), (7, lit (.int .u32 (p.getD i 0 : Nat))), (8, lit (.int .u64 s.2.1)), (21, dg p), (22, lit (.int .i64 p.length)), (23, lit (.int .i64 i)), (28, dg q), (29, lit (.int .i64 q.length)), (30, lit (.int .i64 s.1))])
      (fun s => [(bb, 174, dcells s.2.2)]) (0, 0, os) ⟨Nat.zero_le _, by simp, hol, hO, by simp [val], hz⟩ (by (repeat (first | exact LeF.nil _ | refine LeF.cons (Le.refl _) ?_ | refine LeF.cons (Le.int (by omega)) ?_))) rfl ?_
    rintro ⟨k, c, us⟩ ⟨hk, hc, hul, hU, hvu, hzu⟩ K2 hK2
    simp only at hk hc hul hU hvu hzu ⊢
    by_cases hkl : k < q.length
    · have hy := hQ.get k
      have ho := hU.get (i + k)
      have hb := prod_bd hx hy
      have hcast : ((p.getD i 0 * q.getD k 0 : Nat) : Int) = (p.getD i 0 : Int) * (q.getD k 0 : Int) := Int.natCast_mul _ _
      repeat (refine A1 ⟨?_⟩; intros)
      refine WstD ((c + (p.getD i 0 * q.getD k 0 + us.getD (i + k) 0)) % 4294967296) rfl rfl (by omega) (HUpd.here _) (by omega) ?_
      repeat (refine A1 ⟨?_⟩; intros)
      refine hK2 _ _ (k + 1, (c + (p.getD i 0 * q.getD k 0 + us.getD (i + k) 0)) / 4294967296, us.set (i + k) ((c + (p.getD i 0 * q.getD k 0 + us.getD (i + k) 0)) % 4294967296))
        ⟨by simp only; omega, by simp only; omega, by simpa using hul, hU.set _ (by omega), ?_, fun j hj => by rw [getD_set_ne' _ _ _ _ (by (try simp only at hj); omega)]; exact hzu j hj⟩ (by simp only; omega) (by (repeat (first | exact LeF.nil _ | refine LeF.cons (Le.refl _) ?_ | refine LeF.cons (Le.int (by omega)) ?_))) rfl
      simp only
      rw [val_take_succ', Nat.pow_succ]
      have hs := val_set us (i + k) ((c + (p.getD i 0 * q.getD k 0 + us.getD (i + k) 0)) % 4294967296) (by omega)
      rw [Nat.pow_add] at hs
      exact mul_inner _ hvu (by omega) hs
    · have hke : k = q.length := by omega
      subst hke
      have hz0 := hzu (i + q.length) (by omega)
      repeat (refine A1 ⟨?_⟩; intros)
      refine WstD c rfl rfl (by omega) (HUpd.here _) (by omega) ?_
      repeat (refine A1 ⟨?_⟩; intros)
      refine hK _ _ (i + 1, us.set (i + q.length) c) ⟨by simp only; omega, by simpa using hul, hU.set _ hc, ?_, fun j hj => by rw [getD_set_ne' _ _ _ _ (by (try simp only at hj); omega)]; exact hzu j (by (try simp only at hj); omega)⟩ (by simp only; omega) (by (repeat (first | exact LeF.nil _ | refine LeF.cons (Le.refl _) ?_ | refine LeF.cons (Le.int (by omega)) ?_))) rfl
      simp only
      have hs := val_set us (i + q.length) c (by omega)
      rw [hz0, Nat.mul_zero, Nat.add_zero, Nat.pow_add] at hs
      rw [hs, hvu, List.take_length, hval, val_take_succ', Nat.add_mul]
  · have hie : i = p.length := by omega
    subst hie
    rw [List.take_length] at hval
    repeat (refine A1 ⟨?_⟩; intros)
    refine WpubD (ds := os) 69 rfl (HDel.here _) hol (by omega) (by omega) ?_
    refine Wc (trim_nat os (by omega) hO) ?_
    rw [hval]
    repeat (refine A1 ⟨?_⟩; intros)
    ((first | refine endR ?_ | refine endN ?_); exact end1 (RV.tmp rfl) (Le.refl _))
end Go.Ab
