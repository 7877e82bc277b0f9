/- Package nat: comparing and counting binary digits. -/
import Derived.Test.YthgobgompobhhaaGreatDoorNatA
namespace Go.Ab
open Go.Proofs
set_option linter.unusedSectionVars false
variable [Base]
set_option maxHeartbeats 2000000 in
theorem len32_pu (x : Nat) (hx : x < 4294967296) : Pu Tryz.prog 191 [lit (.int .u32 x)] (lit (.int .i64 (blen x))) := by
  have fin : ∀ y, y < 256 → blen y ≤ 8 := fun y hy => blen_le.2 hy
  refine Pu.intro Tryz.func191 rfl (by kernel_rfl) fun C => ?_
  by_cases h16 : 65536 ≤ x
  · have e16 := blen_shift x 16 h16
    by_cases h8 : 256 ≤ x / 65536
    · have e8 := blen_shift (x / 65536) 8 h8
      have f := fin (x / 65536 / 256) (by omega)
      repeat (refine A1 ⟨?_⟩; intros)
      refine Wo (ov_tab 256 (x / 65536 / 256) blen rfl rfl (by omega) (by omega) (by decide +kernel)) ?_
      repeat (refine A1 ⟨?_⟩; intros)
      ((first | refine endR ?_ | refine endN ?_); refine end1 (RV.tmp rfl) (Le.int ?_))
      simp only [Nat.reducePow] at e16 e8; omega
    · have f := fin (x / 65536) (by omega)
      repeat (refine A1 ⟨?_⟩; intros)
      refine Wo (ov_tab 256 (x / 65536) blen rfl rfl (by omega) (by omega) (by decide +kernel)) ?_
      repeat (refine A1 ⟨?_⟩; intros)
      ((first | refine endR ?_ | refine endN ?_); refine end1 (RV.tmp rfl) (Le.int ?_))
      simp only [Nat.reducePow] at e16; omega
  · by_cases h8 : 256 ≤ x
    · have e8 := blen_shift x 8 h8
      have f := fin (x / 256) (by omega)
      repeat (refine A1 ⟨?_⟩; intros)
      refine Wo (ov_tab 256 (x / 256) blen rfl rfl (by omega) (by omega) (by decide +kernel)) ?_
      repeat (refine A1 ⟨?_⟩; intros)
      ((first | refine endR ?_ | refine endN ?_); refine end1 (RV.tmp rfl) (Le.int ?_))
      simp only [Nat.reducePow] at e8; omega
    · have f := fin x (by omega)
      repeat (refine A1 ⟨?_⟩; intros)
      refine Wo (ov_tab 256 x blen rfl rfl (by omega) (by omega) (by decide +kernel)) ?_
      repeat (refine A1 ⟨?_⟩; intros)
      ((first | refine endR ?_ | refine endN ?_); refine end1 (RV.tmp rfl) (Le.int ?_))
      omega
theorem lz32_pu (x : Nat) (hx : x < 4294967296) : Pu Tryz.prog 176 [lit (.int .u32 x)] (lit (.int .i64 (32 - blen x))) := by
  have f : blen x ≤ 32 := blen_le.2 hx
  refine Pu.intro Tryz.func176 rfl (by kernel_rfl) fun C => ?_
  repeat (refine A1 ⟨?_⟩; intros)
  refine Wc (len32_pu x hx) ?_
  repeat (refine A1 ⟨?_⟩; intros)
  ((first | refine endR ?_ | refine endN ?_); exact end1 (RV.tmp rfl) (Le.refl _))
/-- the digits of a number other than 0, the last one apart -/
theorem dgs_top {n : Nat} (h : n ≠ 0) : ∃ k, (dgs n).length = k + 1 ∧ (dgs n).getD k 0 ≠ 0 ∧ (dgs n).getD k 0 < 4294967296 ∧ val ((dgs n).take k) < 4294967296 ^ k ∧ n = val ((dgs n).take k) + 4294967296 ^ k * (dgs n).getD k 0 := by
  have hne : dgs n ≠ [] := fun e => h (dgs_nil e)
  obtain ⟨k, hk⟩ : ∃ k, (dgs n).length = k + 1 := ⟨(dgs n).length - 1, by have := List.length_pos_iff.2 hne; omega⟩
  refine ⟨k, hk, ?_, (D_dgs n).get k, ?_, ?_⟩
  · have hc := (dgs_can n).2
    rw [List.getLast?_eq_getElem?, hk] at hc
    intro h0
    apply hc
    have : k < (dgs n).length := by omega
    simp [List.getD, this] at h0 ⊢
    exact h0
  · have := val_lt ((D_dgs n).take k)
    rwa [List.length_take, Nat.min_eq_left (by omega)] at this
  · have := val_take_succ (dgs n) k (by omega)
    rw [← hk, List.take_length, val_dgs] at this
    exact this
set_option maxHeartbeats 1000000000 in
theorem bits_nat (ds : List Nat) (hl : ds.length ≤ 1000000000) (hD : D ds) : Pu Tryz.prog 146 [dg ds] (lit (.int .i64 (blen (val ds)))) := by
  have hll : (dgs (val ds)).length ≤ 1000000000 := by have := len_le (val_lt hD); omega
  refine Pu.intro Tryz.func146 rfl (by kernel_rfl) fun C => ?_
  repeat (refine A1 ⟨?_⟩; intros)
  refine Wc (trim_nat ds hl hD) ?_
  by_cases h0 : val ds = 0
  · have hn : (dgs (val ds)).length = 0 := by rw [h0, dgs_zero]; rfl
    repeat (refine A1 ⟨?_⟩; intros)
    ((first | refine endR ?_ | refine endN ?_); refine end1 (RV.tmp rfl) (Le.int ?_))
    rw [h0]; simp [blen]
  · obtain ⟨k, hk, ht, hd, hv, he⟩ := dgs_top h0
    have hb := blen_top _ _ k hv ht
    rw [← he] at hb
    have f : blen ((dgs (val ds)).getD k 0) ≤ 32 := blen_le.2 hd
    repeat (refine A1 ⟨?_⟩; intros)
    rw [show (dgs (val ds)).length - 1 = k from by omega]
    refine Wc (lz32_pu _ hd) ?_
    repeat (refine A1 ⟨?_⟩; intros)
    ((first | refine endR ?_ | refine endN ?_); refine end1 (RV.tmp rfl) (Le.int ?_))
    omega
end Go.Ab
