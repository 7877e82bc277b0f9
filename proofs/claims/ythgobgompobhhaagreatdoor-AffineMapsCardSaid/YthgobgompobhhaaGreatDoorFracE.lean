/- Package frac: Zero, Inv. -/
import Derived.Test.YthgobgompobhhaaGreatDoorFracD
namespace Go.Ab
open Go.Proofs
set_option linter.unusedSectionVars false
variable [Base]
theorem num_big {x : Rat} (h : ¬small x) : x.num ≠ 0 := fun e => h (by
  have hx : x = 0 := Rat.num_eq_zero.1 e
  subst hx
  unfold small; rw [show (0 : Rat).num = 0 from rfl, show (0 : Rat).den = 1 from rfl]; omega)
theorem zero_pu (x : Rat) : Pu Tryz.prog 115 [fr x] (lit (.bool (decide (x.num = 0)))) := by
  by_cases h : small x
  · rw [fr_s h]
    by_cases h0 : x.num = 0
    · rw [decide_eq_true h0, h0]
      refine Pu.intro Tryz.func115 rfl (by kernel_rfl) fun C => ?_
      repeat (refine A1 ⟨?_⟩; intros)
      ((first | refine endR ?_ | refine endN ?_); exact end1 (RV.tmp rfl) (Le.refl _))
    · rw [decide_eq_false h0]
      refine Pu.intro Tryz.func115 rfl (by kernel_rfl) fun C => ?_
      repeat (refine A1 ⟨?_⟩; intros)
      ((first | refine endR ?_ | refine endN ?_); exact end1 (RV.tmp rfl) (Le.refl _))
  · rw [fr_b h, decide_eq_false (num_big h)]
    refine Pu.intro Tryz.func115 rfl (by kernel_rfl) fun C => ?_
    repeat (refine A1 ⟨?_⟩; intros)
    ((first | refine endR ?_ | refine endN ?_); exact end1 (RV.tmp rfl) (Le.refl _))
theorem inv_mk (x : Rat) : mkRat (sv (decide (x.num < 0)) x.den) x.num.natAbs = x⁻¹ := by
  rw [Rat.inv_def]
  by_cases h : x.num < 0
  · rw [decide_eq_true h]
    have e : x.num = -((x.num.natAbs : Nat) : Int) := by omega
    conv => rhs; rw [e, Rat.divInt_neg', Rat.divInt_ofNat]
    rfl
  · rw [decide_eq_false h]
    have e : x.num = ((x.num.natAbs : Nat) : Int) := by omega
    conv => rhs; rw [e, Rat.divInt_ofNat]
    rfl
theorem ht_inv (x : Rat) : ht x⁻¹ ≤ ht x + 1 := by
  have h := ht_mk (sv (decide (x.num < 0)) x.den) x.num.natAbs
  rw [inv_mk] at h
  have h1 := ht_num x
  have h2 := ht_den x
  have h3 : il (sv (decide (x.num < 0)) x.den) = (dgs x.den).length := by unfold il; rw [sv_abs]
  have h4 : il x.num = (dgs x.num.natAbs).length := rfl
  omega
theorem inv_pu (x : Rat) (h : ht x ≤ 10000000) : Pu Tryz.prog 116 [fr x] (fr x⁻¹) := by
  have hn := Rat.num_inv x
  have hd := Rat.den_inv x
  have hp := x.den_pos
  by_cases hs : small x
  · have hsm : small x⁻¹ := by
      unfold small at *
      rw [hn, hd, Int.natAbs_mul]
      refine ⟨?_, by split <;> omega⟩
      have : x.num.sign.natAbs ≤ 1 := by rcases Int.lt_trichotomy x.num 0 with h | h | h <;> simp [Int.sign_eq_neg_one_of_neg, Int.sign_eq_one_of_pos, h]
      have h2 := Nat.mul_le_mul_right ((x.den : Int).natAbs) this
      rw [Nat.one_mul, Int.natAbs_natCast] at h2
      have := hs.2
      rw [Int.natAbs_natCast]; omega
    rw [fr_s hs, fr_s hsm, hn, hd]
    unfold small at hs
    rcases Int.lt_trichotomy x.num 0 with h0 | h0 | h0
    · rw [Int.sign_eq_neg_one_of_neg h0, if_neg (by omega)]
      refine Pu.intro Tryz.func116 rfl (by kernel_rfl) fun C => ?_
      repeat (refine A1 ⟨?_⟩; intros)
      refine endR (end1 (RV.cellA rfl List.mem_cons_self rfl rfl) (Le.ag ⟨Le.int (by omega), Le.int (by omega), Le.refl _, trivial⟩))
    · rw [h0]
      refine Pu.intro Tryz.func116 rfl (by kernel_rfl) fun C => ?_
      repeat (refine A1 ⟨?_⟩; intros)
      refine endR (end1 (RV.cellA rfl List.mem_cons_self rfl rfl) (Le.ag ⟨Le.int (by simp), Le.int (by simp), Le.refl _, trivial⟩))
    · rw [Int.sign_eq_one_of_pos h0, if_neg (by omega)]
      refine Pu.intro Tryz.func116 rfl (by kernel_rfl) fun C => ?_
      repeat (refine A1 ⟨?_⟩; intros)
      refine endR (end1 (RV.cellA rfl List.mem_cons_self rfl rfl) (Le.ag ⟨Le.int (by omega), Le.int (by omega), Le.refl _, trivial⟩))
  · have h1 := ht_num x
    have h2 := ht_den x
    have h4 : il x.num = (dgs x.num.natAbs).length := rfl
    have hr := reduce_pu (decide (x.num < 0)) (dgs x.den) (dgs x.num.natAbs) (by omega) (by omega) (D_dgs _) (D_dgs _)
    rw [val_dgs, val_dgs, inv_mk] at hr
    rw [fr_b hs]
    refine Pu.intro Tryz.func116 rfl (by kernel_rfl) fun C => ?_
    repeat (first | (refine A1 ⟨?_⟩; intros) | (refine Wcx (hr) ?_) | (refine Wdcx (hr) ?_) | (refine Wcgx (hr) ?_) | (refine Wdcgx (hr) ?_))
    refine endR (end1 (RV.cellA rfl (by first | exact List.mem_cons_self | exact List.mem_cons_of_mem _ List.mem_cons_self) rfl rfl) (Le.refl _))
end Go.Ab
