/- Package nat: dividing by one digit. -/
import Derived.Test.YthgobgompobhhaaGreatDoorNatF
namespace Go.Ab
open Go.Proofs
set_option linter.unusedSectionVars false
variable [Base]
theorem short_digit {vp vo d r x v q r' : Nat} (h : vp = vo * d + r) (hv : v = r * 4294967296 + x) (hq : q = v / d) (hr : r' = v % d) : x + 4294967296 * vp = (q + 4294967296 * vo) * d + r' := by
  subst hq; subst hr; subst h
  have e := Nat.div_add_mod v d
  rw [Nat.add_mul, Nat.mul_comm (v / d) d, Nat.mul_add, ← Nat.mul_assoc]
  omega
theorem drop_set_eq (ds : List Nat) (j x : Nat) (h : j < ds.length) : (ds.set j x).drop j = x :: ds.drop (j + 1) := by
  rw [drop_getD _ j (by simpa using h), show (ds.set j x).getD j 0 = x from by simp [List.getD, h]]
  congr 1
  rw [List.drop_set]; simp
set_option maxHeartbeats 2000000 in
theorem short_nat (xs : List Nat) (d : Nat) (hla : xs.length ≤ 100000000) (hP : D xs) (hd0 : d ≠ 0) (hd : d < 4294967296) : Pu Tryz.prog 179 [dg xs, lit (.int .u32 d)] (tup [nat (val xs / d), lit (.int .u32 (val xs % d : Nat))]) := by
  refine Pu.intro Tryz.func179 rfl (by kernel_rfl) fun C => ?_
  repeat (refine A1 ⟨?_⟩; intros)
  refine WmkD xs.length rfl rfl (by omega) (by omega) fun bb => ?_
  repeat (refine A1 ⟨?_⟩; intros)
  refine WP.loop (ι := Nat × Nat × List Nat) (fun s => s.1 ≤ xs.length ∧ s.2.1 < d ∧ s.2.2.length = xs.length ∧ D s.2.2 ∧ val (xs.drop s.1) = val (s.2.2.drop s.1) * d + s.2.1) (fun s => s.1)
    (fun s => fm [(0, dg xs), (1, lit (.int .u32 d)), (6, lit (.slice (some ⟨bb, 0, none⟩) xs.length xs.length)), (7, lit (.int .u64 s.2.1)), (8, lit (.int .i64 ((s.1 : Int) - 1)))])
    (fun s => [(bb, 174, dcells s.2.2)]) (xs.length, 0, List.replicate xs.length 0) ⟨Nat.le_refl _, by simp only; omega, by simp, D.rep _, by simp [val]⟩ (by (repeat (first | exact LeF.nil _ | refine LeF.cons (Le.refl _) ?_ | refine LeF.cons (Le.int (by omega)) ?_))) rfl ?_
  rintro ⟨k, r, os⟩ ⟨hk, hr, hol, hO, hval⟩ K hK
  simp only at hk hr hol hO hval ⊢
  rcases k with _ | j
  · repeat (refine A1 ⟨?_⟩; intros)
    refine WpubD (ds := os) 40 rfl (HDel.here _) hol (by omega) (by omega) ?_
    refine Wc (trim_nat os (by omega) hO) ?_
    simp only [List.drop_zero] at hval
    have hq : val os = val xs / d := by
      rw [hval, Nat.mul_comm, Nat.mul_add_div (by omega), Nat.div_eq_of_lt hr, Nat.add_zero]
    have hm : r = val xs % d := by
      rw [hval, Nat.mul_comm, Nat.mul_add_mod, Nat.mod_eq_of_lt hr]
    rw [hq]
    repeat (refine A1 ⟨?_⟩; intros)
    rw [hm]
    ((first | refine endR ?_ | refine endN ?_); exact end2 (RV.tmp rfl) (RV.tmp rfl) (Le.refl _))
  · rw [show (((j + 1 : Nat) : Int) - 1) = (j : Int) from by omega]
    have hx := hP.get j
    have hlt : (r * 4294967296 + xs.getD j 0) / d < 4294967296 := by
      rw [Nat.div_lt_iff_lt_mul (by omega)]
      have : (r + 1) * 4294967296 ≤ d * 4294967296 := Nat.mul_le_mul_right _ hr
      rw [Nat.mul_comm 4294967296]; omega
    have hrm : (r * 4294967296 + xs.getD j 0) % d < d := Nat.mod_lt _ (by omega)
    repeat (refine A1 ⟨?_⟩; intros)
    refine Wo (ov_or rfl rfl (or64 r (xs.getD j 0) rfl rfl (by omega) hx)) ?_
    generalize hv : r * 4294967296 + xs.getD j 0 = v at *
    have hvb : v ≤ 18446744073709551615 := by omega
    repeat (refine A1 ⟨?_⟩; intros)
    generalize hq : v / d = q at *
    refine WstD q rfl rfl (by omega) (HUpd.here _) (by omega) ?_
    repeat (refine A1 ⟨?_⟩; intros)
    refine hK _ _ (j, v % d, os.set j q) ⟨by simp only; omega, hrm, by simpa using hol, hO.set _ hlt, ?_⟩ (by simp only; omega) (by (repeat (first | exact LeF.nil _ | refine LeF.cons (Le.refl _) ?_ | refine LeF.cons (Le.int (by omega)) ?_))) rfl
    simp only
    rw [drop_getD xs j (by omega), drop_set_eq os j _ (by omega), val_cons, val_cons]
    exact short_digit hval hv.symm hq.symm rfl
end Go.Ab
