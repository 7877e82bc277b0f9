/- Package nat: the short functions compute what the plain laws say. -/
import Derived.Test.YthgobgompobhhaaGreatDoorTy
namespace Go.Ab
open Go.Proofs
set_option linter.unusedSectionVars false
variable [Base]
/-- a natural number in normal form -/
abbrev nat (n : Nat) : SV := dg (dgs n)

set_option maxHeartbeats 1000000000 in
theorem trim_pu (ds : List Nat) (hl : ds.length ≤ 1000000000) : Pu Tryz.prog 175 [dg ds] (dg (trimL ds)) := by
  refine Pu.intro Tryz.func175 rfl (by kernel_rfl) fun C => ?_
  repeat (refine A1 ⟨?_⟩; intros)
  refine WP.loop (ι := Nat) (fun k => k ≤ ds.length ∧ trimL (ds.take k) = trimL ds) (fun k => k) (fun k => fm [(0, dg (ds.take k))]) (fun _ => []) ds.length ⟨Nat.le_refl _, by rw [List.take_length]⟩ (LeF.cons (by rw [List.take_length]; exact Le.refl _) (LeF.nil _)) rfl ?_
  rintro k ⟨hk, ht⟩ K hK
  have hlen : (ds.take k).length = k := by rw [List.length_take]; omega
  rcases k with _ | j
  · repeat (refine A1 ⟨?_⟩; intros)
    exact endR (end1 (RV.tmp (s := dg (List.take 0 ds)) rfl) (Le.of_eq (by rw [← ht]; rfl)))
  · have hg : (List.take (j + 1) ds).getD j 0 = ds.getD j 0 := by simp [List.getD]
    iterate 2 refine WP.seq' ?_
    refine WP.reg ?_
    iterate 7 (refine O1 ⟨?_⟩; intros)
    refine Wog (ov_sub (r := (j : Int)) rfl rfl (wi64e (by omega) (by omega) (by omega))) ?_
    refine Wog (ov_idxD (i := j) rfl rfl (by omega)) ?_
    rw [hg]
    by_cases hd : ds.getD j 0 = 0
    · repeat (refine A1 ⟨?_⟩; intros)
      refine Wo (ov_toD j rfl rfl (by omega) (by omega)) ?_
      rw [List.take_take, Nat.min_eq_left (by omega)]
      repeat (refine A1 ⟨?_⟩; intros)
      refine hK _ _ j ⟨by omega, ?_⟩ (by omega) (LeF.cons (Le.refl _) (LeF.nil _)) rfl
      rw [take_succ_getD ds j (by omega), hd, trimL_snoc_zero] at ht
      exact ht
    · rw [take_succ_getD ds j (by omega), trimL_snoc_ne _ _ hd, ← take_succ_getD ds j (by omega)] at ht
      repeat (refine A1 ⟨?_⟩; intros)
      exact endR (end1 (RV.tmp (s := dg (List.take (j + 1) ds)) rfl) (Le.of_eq (by rw [ht])))
theorem trim_nat (ds : List Nat) (hl : ds.length ≤ 1000000000) (hD : D ds) : Pu Tryz.prog 175 [dg ds] (nat (val ds)) := by
  have := trim_pu ds hl; rwa [trimL_eq hD] at this

theorem le_nil : Le (lit (.slice none 0 0)) (dg []) := fun m v h => by
  rw [lit_p] at h; subst h; rw [dg_sl]
  exact sl_mk (by simp) (by simp [maxLen]) (.inl rfl)
theorem clone_pu (ds : List Nat) (hl : ds.length ≤ 1000000000) : Pu Tryz.prog 178 [dg ds] (dg ds) := by
  refine Pu.intro Tryz.func178 rfl (by kernel_rfl) fun C => ?_
  repeat (refine A1 ⟨?_⟩; intros)
  refine WP.exd (d := 4) rfl fun b => ?_
  cases hb : b && decide (ds = []) with
  | true =>
    have : ds = [] := by simp at hb; exact hb.2
    subst this
    repeat (refine A1 ⟨?_⟩; intros)
    exact endR (end1 (RV.tmp rfl) le_nil)
  | false =>
    repeat (refine A1 ⟨?_⟩; intros)
    ((first | refine endR ?_ | refine endN ?_); exact end1 (RV.tmp rfl) (Le.refl _))
theorem norm_nat (ds : List Nat) (hl : ds.length ≤ 1000000000) (hD : D ds) : Pu Tryz.prog 153 [dg ds] (nat (val ds)) := by
  have hl' : (dgs (val ds)).length ≤ 1000000000 := by
    have := len_le (val_lt hD); omega
  refine Pu.intro Tryz.func153 rfl (by kernel_rfl) fun C => ?_
  repeat (refine A1 ⟨?_⟩; intros)
  refine Wc (trim_nat ds hl hD) ?_
  refine Wc (clone_pu _ hl') ?_
  repeat (refine A1 ⟨?_⟩; intros)
  ((first | refine endR ?_ | refine endN ?_); exact end1 (RV.tmp rfl) (Le.refl _))
/-- a word as a number -/
theorem fromUint_nat (u : Nat) (hu : u < 18446744073709551616) : Pu Tryz.prog 154 [lit (.int .u64 u)] (nat u) := by
  have hD : D [u % 4294967296, u / 4294967296] := D.cons (by omega) (D.cons (by omega) D.nil)
  have hv : val [u % 4294967296, u / 4294967296] = u := by simp [val]; omega
  refine Pu.intro Tryz.func154 rfl (by kernel_rfl) fun C => ?_
  repeat (refine A1 ⟨?_⟩; intros)
  refine WpubD (ds := [u % 4294967296, u / 4294967296]) 8 rfl (HDel.here _) rfl (by omega) (by omega) ?_
  refine Wc (trim_nat _ (by simp) hD) ?_
  rw [hv]
  repeat (refine A1 ⟨?_⟩; intros)
  ((first | refine endR ?_ | refine endN ?_); exact end1 (RV.tmp rfl) (Le.refl _))
theorem or0 {a : Int} (x : Nat) (ha : a = (x : Int)) (hx : x < 18446744073709551616) : IntKind.u64.wrap ((BitVec.ofInt (IntKind.bits .u64) 0 ||| BitVec.ofInt (IntKind.bits .u64) a).toNat : Int) = (x : Int) := by
  subst ha
  rw [BitVec.toNat_or]
  simp only [IntKind.bits]
  rw [ofInt_nat 64 _ (by omega), show (0 : Int) = ((0 : Nat) : Int) from rfl, ofInt_nat 64 0 (by omega), Nat.zero_or]
  exact wrapn .u64 rfl _ (by simp only [IntKind.bits]; omega)
theorem uint_or (k c d : Nat) (hk : k < 2) (hc : c < 4294967296 ^ k) (hd : d < 4294967296) :
    IntKind.u64.wrap ((BitVec.ofInt (IntKind.bits .u64) (c : Int) ||| BitVec.ofInt (IntKind.bits .u64) (IntKind.u64.wrap ((d : Int) * 2 ^ (min (32 * (k : Int)).toNat (IntKind.bits .u64))))).toNat : Int) = ((c + 4294967296 ^ k * d : Nat) : Int) := by
  match k, hk with
  | 0, _ =>
    have : c = 0 := by simpa using hc
    subst this
    refine (or0 d ?_ (by omega)).trans (by simp)
    show IntKind.u64.wrap ((d : Int) * 1) = d
    rw [Int.mul_one]; exact wu64 (by omega) (by omega)
  | 1, _ =>
    have hc' : c < 4294967296 := by simpa using hc
    refine (or64' d c rfl ?_ hd hc').trans (by simp; omega)
    exact shl32 (by omega) (by omega)
/-- a number as a word -/
theorem uint_nat (ds : List Nat) (hl : ds.length ≤ 1000000000) (hD : D ds) : Pu Tryz.prog 151 [dg ds]
    (if val ds < 18446744073709551616 then tup [lit (.int .u64 (val ds)), lit (.bool true)] else tup [lit (.int .u64 0), lit (.bool false)]) := by
  refine Pu.intro Tryz.func151 rfl (by kernel_rfl) fun C => ?_
  repeat (refine A1 ⟨?_⟩; intros)
  refine Wc (trim_nat ds hl hD) ?_
  have hll : (dgs (val ds)).length ≤ 1000000000 := by
    have := len_le (val_lt hD); omega
  by_cases hlen : (dgs (val ds)).length ≤ 2
  · have hlt : val ds < 18446744073709551616 := by have := len_lt hlen; simpa using this
    rw [if_pos hlt]
    repeat (refine A1 ⟨?_⟩; intros)
    generalize hgen : dgs (val ds) = es at *
    have hDe : D es := hgen ▸ D_dgs _
    have hve : val es = val ds := by rw [← hgen, val_dgs]
    refine WP.loop (ι := Nat) (fun k => k ≤ es.length) (fun k => es.length - k) (fun k => fm [(4, lit (.int .u64 (val (es.take k) : Nat))), (12, dg es), (13, lit (.int .i64 es.length)), (14, lit (.int .i64 k))]) (fun _ => []) 0 (Nat.zero_le _)
      (LeF.cons (Le.refl _) (LeF.cons (Le.refl _) (LeF.cons (Le.refl _) (LeF.cons (Le.refl _) (LeF.nil _))))) rfl ?_
    intro k hk K hK
    have hg := hDe.get k
    by_cases hlt2 : k < es.length
    · repeat (refine A1 ⟨?_⟩; intros)
      have hvt := val_lt (hDe.take k)
      rw [List.length_take, Nat.min_eq_left hk] at hvt
      refine Wo (ov_or rfl rfl (uint_or k _ _ (by omega) hvt hg)) ?_
      rw [← val_take_succ es k hlt2]
      repeat (refine A1 ⟨?_⟩; intros)
      exact hK _ _ (k + 1) (by omega) (by omega) (LeF.cons (Le.refl _) (LeF.cons (Le.refl _) (LeF.cons (Le.refl _) (LeF.cons (Le.refl _) (LeF.nil _))))) rfl
    · have hke : k = es.length := by omega
      subst hke
      rw [List.take_length, hve]
      repeat (refine A1 ⟨?_⟩; intros)
      ((first | refine endR ?_ | refine endN ?_); exact end2 (RV.tmp rfl) (RV.tmp rfl) (Le.refl _))
  · have hge : ¬ val ds < 18446744073709551616 := by
      have := pow_le_of_len (n := val ds) (k := 2) (by omega); simp at this; omega
    rw [if_neg hge]
    repeat (refine A1 ⟨?_⟩; intros)
    ((first | refine endR ?_ | refine endN ?_); exact end2 (RV.tmp rfl) (RV.tmp rfl) (Le.refl _))
end Go.Ab
