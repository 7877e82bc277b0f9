/- Texts laid one behind the other: NatA, NatB, NatC, NatD, NatE, NatF, Cap, Row, Util, Fld, Bld, Wr, Loop. -/
import Derived.Test.YtebghnhocigmlaaGreatDoorTy
import Derived.Laws.AppendOwn
import Derived.Test.YtebghnhocigmlaaGreatDoorEng
import Derived.Lib.AppendStr
import Derived.Lib.UnsafeStr
import Derived.Lib.Builder
import Derived.Laws.Externs
set_option linter.unusedSectionVars false
set_option linter.unusedVariables false
set_option linter.unusedSimpArgs false
namespace Go.Ab
open Go.Proofs
variable [Base]
abbrev nat (n : Nat) : SV := dg (dgs n)
set_option maxHeartbeats 1000000000 in
theorem trim_pu (ds : List Nat) (hl : ds.length ≤ 1000000000) : Pu Tryz.prog 324 [dg ds] (dg (trimL ds)) := by
  refine Pu.intro Tryz.func324 rfl (by kernel_rfl) fun C => ?_
  repeat (refine A1 ⟨?_⟩; intros)
  refine WP.loop (ι := Nat) (fun k => k ≤ ds.length ∧ trimL (ds.take k) = trimL ds) (fun k => k) (fun k => fm [(0, dg (ds.take k))]) (fun _ => []) ds.length ⟨Nat.le_refl _, by rw [List.take_length]⟩ (LeF.cons (by rw [List.take_length]; exact Le.refl _) (LeF.nil _)) rfl ?_
  rintro k ⟨hk, ht⟩ K hK
  have hlen : (ds.take k).length = k := by rw [List.length_take]; omega
  rcases k with _ | j
  · repeat (refine A1 ⟨?_⟩; intros)
    exact endR (end1 (RV.tmp (s := dg (List.take 0 ds)) rfl) (Le.of_eq (by rw [← ht]; rfl)))
  · have hg : (List.take (j + 1) ds).getD j 0 = ds.getD j 0 := by simp [List.getD]
    iterate 2 refine WP.seq' ?_
    refine WP.reg ?_
    iterate 7 (refine O1 ⟨?_⟩; intros)
    refine Wog (ov_sub (r := (j : Int)) rfl rfl (wi64e (by omega) (by omega) (by omega))) ?_
    refine Wog (ov_idxD (i := j) rfl rfl (by omega)) ?_
    rw [hg]
    by_cases hd : ds.getD j 0 = 0
    · repeat (refine A1 ⟨?_⟩; intros)
      refine Wo (ov_toD j rfl rfl (by omega) (by omega)) ?_
      rw [List.take_take, Nat.min_eq_left (by omega)]
      repeat (refine A1 ⟨?_⟩; intros)
      refine hK _ _ j ⟨by omega, ?_⟩ (by omega) (LeF.cons (Le.refl _) (LeF.nil _)) rfl
      rw [take_succ_getD ds j (by omega), hd, trimL_snoc_zero] at ht
      exact ht
    · rw [take_succ_getD ds j (by omega), trimL_snoc_ne _ _ hd, ← take_succ_getD ds j (by omega)] at ht
      repeat (refine A1 ⟨?_⟩; intros)
      exact endR (end1 (RV.tmp (s := dg (List.take (j + 1) ds)) rfl) (Le.of_eq (by rw [ht])))
theorem trim_nat (ds : List Nat) (hl : ds.length ≤ 1000000000) (hD : D ds) : Pu Tryz.prog 324 [dg ds] (nat (val ds)) := by
  have := trim_pu ds hl; rwa [trimL_eq hD] at this
theorem le_nil : Le (lit (.slice none 0 0)) (dg []) := fun m v h => by
  rw [lit_p] at h; subst h; rw [dg_sl]
  exact sl_mk (by simp) (by simp [maxLen]) (.inl rfl)
theorem clone_pu (ds : List Nat) (hl : ds.length ≤ 1000000000) : Pu Tryz.prog 379 [dg ds] (dg ds) := by
  refine Pu.intro Tryz.func379 rfl (by kernel_rfl) fun C => ?_
  repeat (refine A1 ⟨?_⟩; intros)
  refine WP.exd (d := 4) rfl fun b => ?_
  cases hb : b && decide (ds = []) with
  | true =>
    have : ds = [] := by simp at hb; exact hb.2
    subst this
    repeat (refine A1 ⟨?_⟩; intros)
    exact endR (end1 (RV.tmp rfl) le_nil)
  | false =>
    repeat (refine A1 ⟨?_⟩; intros)
    ((first | refine endR ?_ | refine endN ?_); exact end1 (RV.tmp rfl) (Le.refl _))
theorem norm_nat (ds : List Nat) (hl : ds.length ≤ 1000000000) (hD : D ds) : Pu Tryz.prog 363 [dg ds] (nat (val ds)) := by
  have hl' : (dgs (val ds)).length ≤ 1000000000 := by
    have := len_le (val_lt hD); omega
  refine Pu.intro Tryz.func363 rfl (by kernel_rfl) fun C => ?_
  repeat (refine A1 ⟨?_⟩; intros)
  refine Wc (trim_nat ds hl hD) ?_
  refine Wc (clone_pu _ hl') ?_
  repeat (refine A1 ⟨?_⟩; intros)
  ((first | refine endR ?_ | refine endN ?_); exact end1 (RV.tmp rfl) (Le.refl _))
theorem fromUint_nat (u : Nat) (hu : u < 18446744073709551616) : Pu Tryz.prog 366 [lit (.int .u64 u)] (nat u) := by
  have hD : D [u % 4294967296, u / 4294967296] := D.cons (by omega) (D.cons (by omega) D.nil)
  have hv : val [u % 4294967296, u / 4294967296] = u := by simp [val]; omega
  refine Pu.intro Tryz.func366 rfl (by kernel_rfl) fun C => ?_
  repeat (refine A1 ⟨?_⟩; intros)
  refine WpubD (ds := [u % 4294967296, u / 4294967296]) 8 rfl (HDel.here _) rfl (by omega) (by omega) ?_
  refine Wc (trim_nat _ (by simp) hD) ?_
  rw [hv]
  repeat (refine A1 ⟨?_⟩; intros)
  ((first | refine endR ?_ | refine endN ?_); exact end1 (RV.tmp rfl) (Le.refl _))
theorem or0 {a : Int} (x : Nat) (ha : a = (x : Int)) (hx : x < 18446744073709551616) : IntKind.u64.wrap ((BitVec.ofInt (IntKind.bits .u64) 0 ||| BitVec.ofInt (IntKind.bits .u64) a).toNat : Int) = (x : Int) := by
  subst ha
  rw [BitVec.toNat_or]
  simp only [IntKind.bits]
  rw [ofInt_nat 64 _ (by omega), show (0 : Int) = ((0 : Nat) : Int) from rfl, ofInt_nat 64 0 (by omega), Nat.zero_or]
  exact wrapn .u64 rfl _ (by simp only [IntKind.bits]; omega)
theorem uint_or (k c d : Nat) (hk : k < 2) (hc : c < 4294967296 ^ k) (hd : d < 4294967296) :
    IntKind.u64.wrap ((BitVec.ofInt (IntKind.bits .u64) (c : Int) ||| BitVec.ofInt (IntKind.bits .u64) (IntKind.u64.wrap ((d : Int) * 2 ^ (min (32 * (k : Int)).toNat (IntKind.bits .u64))))).toNat : Int) = ((c + 4294967296 ^ k * d : Nat) : Int) := by
  match k, hk with
  | 0, _ =>
    have : c = 0 := by simpa using hc
    subst this
    refine (or0 d ?_ (by omega)).trans (by simp)
    show IntKind.u64.wrap ((d : Int) * 1) = d
    rw [Int.mul_one]; exact wu64 (by omega) (by omega)
  | 1, _ =>
    have hc' : c < 4294967296 := by simpa using hc
    refine (or64' d c rfl ?_ hd hc').trans (by simp; omega)
    exact shl32 (by omega) (by omega)
theorem uint_nat (ds : List Nat) (hl : ds.length ≤ 1000000000) (hD : D ds) : Pu Tryz.prog 365 [dg ds]
    (if val ds < 18446744073709551616 then tup [lit (.int .u64 (val ds)), lit (.bool true)] else tup [lit (.int .u64 0), lit (.bool false)]) := by
  refine Pu.intro Tryz.func365 rfl (by kernel_rfl) fun C => ?_
  repeat (refine A1 ⟨?_⟩; intros)
  refine Wc (trim_nat ds hl hD) ?_
  have hll : (dgs (val ds)).length ≤ 1000000000 := by
    have := len_le (val_lt hD); omega
  by_cases hlen : (dgs (val ds)).length ≤ 2
  · have hlt : val ds < 18446744073709551616 := by have := len_lt hlen; simpa using this
    rw [if_pos hlt]
    repeat (refine A1 ⟨?_⟩; intros)
    generalize hgen : dgs (val ds) = es at *
    have hDe : D es := hgen ▸ D_dgs _
    have hve : val es = val ds := by rw [← hgen, val_dgs]
    refine WP.loop (ι := Nat) (fun k => k ≤ es.length) (fun k => es.length - k) (fun k => fm [(4, lit (.int .u64 (val (es.take k) : Nat))), (12, dg es), (13, lit (.int .i64 es.length)), (14, lit (.int .i64 k))]) (fun _ => []) 0 (Nat.zero_le _)
      (LeF.cons (Le.refl _) (LeF.cons (Le.refl _) (LeF.cons (Le.refl _) (LeF.cons (Le.refl _) (LeF.nil _))))) rfl ?_
    intro k hk K hK
    have hg := hDe.get k
    by_cases hlt2 : k < es.length
    · repeat (refine A1 ⟨?_⟩; intros)
      have hvt := val_lt (hDe.take k)
      rw [List.length_take, Nat.min_eq_left hk] at hvt
      refine Wo (ov_or rfl rfl (uint_or k _ _ (by omega) hvt hg)) ?_
      rw [← val_take_succ es k hlt2]
      repeat (refine A1 ⟨?_⟩; intros)
      exact hK _ _ (k + 1) (by omega) (by omega) (LeF.cons (Le.refl _) (LeF.cons (Le.refl _) (LeF.cons (Le.refl _) (LeF.cons (Le.refl _) (LeF.nil _))))) rfl
    · have hke : k = es.length := by omega
      subst hke
      rw [List.take_length, hve]
      repeat (refine A1 ⟨?_⟩; intros)
      ((first | refine endR ?_ | refine endN ?_); exact end2 (RV.tmp rfl) (RV.tmp rfl) (Le.refl _))
  · have hge : ¬ val ds < 18446744073709551616 := by
      have := pow_le_of_len (n := val ds) (k := 2) (by omega); simp at this; omega
    rw [if_neg hge]
    repeat (refine A1 ⟨?_⟩; intros)
    ((first | refine endR ?_ | refine endN ?_); exact end2 (RV.tmp rfl) (RV.tmp rfl) (Le.refl _))
set_option maxHeartbeats 2000000 in
theorem len32_pu (x : Nat) (hx : x < 4294967296) : Pu Tryz.prog 367 [lit (.int .u32 x)] (lit (.int .i64 (blen x))) := by
  have fin : ∀ y, y < 256 → blen y ≤ 8 := fun y hy => blen_le.2 hy
  refine Pu.intro Tryz.func367 rfl (by kernel_rfl) fun C => ?_
  by_cases h16 : 65536 ≤ x
  · have e16 := blen_shift x 16 h16
    by_cases h8 : 256 ≤ x / 65536
    · have e8 := blen_shift (x / 65536) 8 h8
      have f := fin (x / 65536 / 256) (by omega)
      repeat (refine A1 ⟨?_⟩; intros)
      refine Wo (ov_tab 256 (x / 65536 / 256) blen rfl rfl (by omega) (by omega) (by decide +kernel)) ?_
      repeat (refine A1 ⟨?_⟩; intros)
      ((first | refine endR ?_ | refine endN ?_); refine end1 (RV.tmp rfl) (Le.int ?_))
      simp only [Nat.reducePow] at e16 e8; omega
    · have f := fin (x / 65536) (by omega)
      repeat (refine A1 ⟨?_⟩; intros)
      refine Wo (ov_tab 256 (x / 65536) blen rfl rfl (by omega) (by omega) (by decide +kernel)) ?_
      repeat (refine A1 ⟨?_⟩; intros)
      ((first | refine endR ?_ | refine endN ?_); refine end1 (RV.tmp rfl) (Le.int ?_))
      simp only [Nat.reducePow] at e16; omega
  · by_cases h8 : 256 ≤ x
    · have e8 := blen_shift x 8 h8
      have f := fin (x / 256) (by omega)
      repeat (refine A1 ⟨?_⟩; intros)
      refine Wo (ov_tab 256 (x / 256) blen rfl rfl (by omega) (by omega) (by decide +kernel)) ?_
      repeat (refine A1 ⟨?_⟩; intros)
      ((first | refine endR ?_ | refine endN ?_); refine end1 (RV.tmp rfl) (Le.int ?_))
      simp only [Nat.reducePow] at e8; omega
    · have f := fin x (by omega)
      repeat (refine A1 ⟨?_⟩; intros)
      refine Wo (ov_tab 256 x blen rfl rfl (by omega) (by omega) (by decide +kernel)) ?_
      repeat (refine A1 ⟨?_⟩; intros)
      ((first | refine endR ?_ | refine endN ?_); refine end1 (RV.tmp rfl) (Le.int ?_))
      omega
theorem lz32_pu (x : Nat) (hx : x < 4294967296) : Pu Tryz.prog 325 [lit (.int .u32 x)] (lit (.int .i64 (32 - blen x))) := by
  have f : blen x ≤ 32 := blen_le.2 hx
  refine Pu.intro Tryz.func325 rfl (by kernel_rfl) fun C => ?_
  repeat (refine A1 ⟨?_⟩; intros)
  refine Wc (len32_pu x hx) ?_
  repeat (refine A1 ⟨?_⟩; intros)
  ((first | refine endR ?_ | refine endN ?_); exact end1 (RV.tmp rfl) (Le.refl _))
theorem dgs_top {n : Nat} (h : n ≠ 0) : ∃ k, (dgs n).length = k + 1 ∧ (dgs n).getD k 0 ≠ 0 ∧ (dgs n).getD k 0 < 4294967296 ∧ val ((dgs n).take k) < 4294967296 ^ k ∧ n = val ((dgs n).take k) + 4294967296 ^ k * (dgs n).getD k 0 := by
  have hne : dgs n ≠ [] := fun e => h (dgs_nil e)
  obtain ⟨k, hk⟩ : ∃ k, (dgs n).length = k + 1 := ⟨(dgs n).length - 1, by have := List.length_pos_iff.2 hne; omega⟩
  refine ⟨k, hk, ?_, (D_dgs n).get k, ?_, ?_⟩
  · have hc := (dgs_can n).2
    rw [List.getLast?_eq_getElem?, hk] at hc
    intro h0
    apply hc
    have : k < (dgs n).length := by omega
    simp [List.getD, this] at h0 ⊢
    exact h0
  · have := val_lt ((D_dgs n).take k)
    rwa [List.length_take, Nat.min_eq_left (by omega)] at this
  · have := val_take_succ (dgs n) k (by omega)
    rw [← hk, List.take_length, val_dgs] at this
    exact this
set_option maxHeartbeats 1000000000 in
theorem bits_nat (ds : List Nat) (hl : ds.length ≤ 1000000000) (hD : D ds) : Pu Tryz.prog 269 [dg ds] (lit (.int .i64 (blen (val ds)))) := by
  have hll : (dgs (val ds)).length ≤ 1000000000 := by have := len_le (val_lt hD); omega
  refine Pu.intro Tryz.func269 rfl (by kernel_rfl) fun C => ?_
  repeat (refine A1 ⟨?_⟩; intros)
  refine Wc (trim_nat ds hl hD) ?_
  by_cases h0 : val ds = 0
  · have hn : (dgs (val ds)).length = 0 := by rw [h0, dgs_zero]; rfl
    repeat (refine A1 ⟨?_⟩; intros)
    ((first | refine endR ?_ | refine endN ?_); refine end1 (RV.tmp rfl) (Le.int ?_))
    rw [h0]; simp [blen]
  · obtain ⟨k, hk, ht, hd, hv, he⟩ := dgs_top h0
    have hb := blen_top _ _ k hv ht
    rw [← he] at hb
    have f : blen ((dgs (val ds)).getD k 0) ≤ 32 := blen_le.2 hd
    repeat (refine A1 ⟨?_⟩; intros)
    rw [show (dgs (val ds)).length - 1 = k from by omega]
    refine Wc (lz32_pu _ hd) ?_
    repeat (refine A1 ⟨?_⟩; intros)
    ((first | refine endR ?_ | refine endN ?_); refine end1 (RV.tmp rfl) (Le.int ?_))
    omega
def cmpN (a b : Nat) : Int := if a < b then -1 else if a = b then 0 else 1
theorem cmpN_lt {a b : Nat} (h : a < b) : cmpN a b = -1 := by unfold cmpN; rw [if_pos h]
theorem cmpN_gt {a b : Nat} (h : b < a) : cmpN a b = 1 := by unfold cmpN; rw [if_neg (by omega), if_neg (by omega)]
theorem cmpN_eq (a : Nat) : cmpN a a = 0 := by unfold cmpN; rw [if_neg (by omega), if_pos rfl]
theorem cmpN_bd (a b : Nat) : -1 ≤ cmpN a b ∧ cmpN a b ≤ 1 ∧ (cmpN a b < 0 ↔ a < b) := by
  unfold cmpN
  split
  · simp; omega
  · split <;> simp <;> omega
theorem val_at (ds : List Nat) (i : Nat) (h : i < ds.length) : val ds = val (ds.take i) + 4294967296 ^ i * (ds.getD i 0 + 4294967296 * val (ds.drop (i + 1))) := by
  rw [val_split ds i (by omega), drop_getD ds i h, val_cons]
theorem val_lt_at {xs ys : List Nat} (i : Nat) (ha : D xs) (hi : i < xs.length) (hj : i < ys.length) (hd : xs.drop (i + 1) = ys.drop (i + 1)) (hlt : xs.getD i 0 < ys.getD i 0) : val xs < val ys := by
  rw [val_at xs i hi, val_at ys i hj, hd]
  have h1 := val_lt (ha.take i)
  rw [List.length_take, Nat.min_eq_left (by omega)] at h1
  generalize 4294967296 ^ i = p at *
  have h2 : p * (xs.getD i 0 + 1 + 4294967296 * val (ys.drop (i + 1))) ≤ p * (ys.getD i 0 + 4294967296 * val (ys.drop (i + 1))) := Nat.mul_le_mul_left _ (by omega)
  rw [show xs.getD i 0 + 1 + 4294967296 * val (ys.drop (i + 1)) = (xs.getD i 0 + 4294967296 * val (ys.drop (i + 1))) + 1 from by omega, Nat.mul_add, Nat.mul_one] at h2
  omega
set_option maxHeartbeats 1000000000 in
theorem cmp_nat (xs ys : List Nat) (hla : xs.length ≤ 1000000000) (hlb : ys.length ≤ 1000000000) (hA : D xs) (hB : D ys) : Pu Tryz.prog 380 [dg xs, dg ys] (lit (.int .i64 (cmpN (val xs) (val ys)))) := by
  have h1 : (dgs (val xs)).length ≤ 1000000000 := by have := len_le (val_lt hA); omega
  have h2 : (dgs (val ys)).length ≤ 1000000000 := by have := len_le (val_lt hB); omega
  have hxa := val_dgs (val xs)
  have hxb := val_dgs (val ys)
  have hDa := D_dgs (val xs)
  have hDb := D_dgs (val ys)
  refine Pu.intro Tryz.func380 rfl (by kernel_rfl) fun C => ?_
  repeat (refine A1 ⟨?_⟩; intros)
  refine Wc (trim_nat xs hla hA) ?_
  repeat (refine A1 ⟨?_⟩; intros)
  refine Wc (trim_nat ys hlb hB) ?_
  generalize hav : val xs = a at *
  generalize hbv : val ys = b at *
  clear hav hbv hA hB hla hlb
  by_cases hlen : (dgs a).length = (dgs b).length
  · repeat (refine A1 ⟨?_⟩; intros)
    refine WP.loop (ι := Nat) (fun k => k ≤ (dgs a).length ∧ (dgs a).drop k = (dgs b).drop k) (fun k => k) (fun k => fm [(0, dg (dgs a)), (1, dg (dgs b)), (5, lit (.int .i64 ((k : Int) - 1)))]) (fun _ => []) (dgs a).length
      ⟨Nat.le_refl _, by rw [List.drop_length, hlen, List.drop_length]⟩ (LeF.cons (Le.refl _) (LeF.cons (Le.refl _) (LeF.cons (Le.refl _) (LeF.nil _)))) rfl ?_
    rintro k ⟨hk, hd⟩ K hK
    rcases k with _ | j
    · repeat (refine A1 ⟨?_⟩; intros)
      ((first | refine endR ?_ | refine endN ?_); refine end1 (RV.tmp rfl) (Le.int ?_))
      simp only [List.drop_zero] at hd
      rw [dgs_inj hd, cmpN_eq]
    · rw [show (((j + 1 : Nat) : Int) - 1) = (j : Int) from by omega]
      rcases Nat.lt_trichotomy ((dgs a).getD j 0) ((dgs b).getD j 0) with hlt | heq | hgt
      · have hlt' := val_lt_at j hDa (by omega) (by omega) hd hlt
        rw [hxa, hxb] at hlt'
        repeat (refine A1 ⟨?_⟩; intros)
        ((first | refine endR ?_ | refine endN ?_); refine end1 (RV.tmp rfl) (Le.int ?_))
        rw [cmpN_lt hlt']
      · repeat (refine A1 ⟨?_⟩; intros)
        refine hK _ _ j ⟨by omega, ?_⟩ (by omega) (LeF.cons (Le.refl _) (LeF.cons (Le.refl _) (LeF.cons (Le.refl _) (LeF.nil _)))) rfl
        rw [drop_getD _ j (by omega), drop_getD (dgs b) j (by omega), hd, heq]
      · have hlt' := val_lt_at j hDb (by omega) (by omega) hd.symm hgt
        rw [hxa, hxb] at hlt'
        repeat (refine A1 ⟨?_⟩; intros)
        ((first | refine endR ?_ | refine endN ?_); refine end1 (RV.tmp rfl) (Le.int ?_))
        rw [cmpN_gt hlt']
  · rcases Nat.lt_or_gt_of_ne hlen with hlt | hgt
    · have hab : a < b := by
        rcases Nat.lt_or_ge a b with h | h
        · exact h
        · have := len_mono h; omega
      repeat (refine A1 ⟨?_⟩; intros)
      ((first | refine endR ?_ | refine endN ?_); refine end1 (RV.tmp rfl) (Le.int ?_))
      rw [cmpN_lt hab]
    · have hab : b < a := by
        rcases Nat.lt_or_ge b a with h | h
        · exact h
        · have := len_mono h; omega
      repeat (refine A1 ⟨?_⟩; intros)
      ((first | refine endR ?_ | refine endN ?_); refine end1 (RV.tmp rfl) (Le.int ?_))
      rw [cmpN_gt hab]
theorem val_set (ds : List Nat) (j x : Nat) (h : j < ds.length) : val (ds.set j x) + 4294967296 ^ j * ds.getD j 0 = val ds + 4294967296 ^ j * x := by
  have h1 := val_at ds j h
  have h2 := val_at (ds.set j x) j (by simpa using h)
  rw [List.take_set_of_le (Nat.le_refl _), show (ds.set j x).drop (j + 1) = ds.drop (j + 1) from by rw [List.drop_set]; simp,
    show (ds.set j x).getD j 0 = x from by simp [List.getD, h]] at h2
  rw [h1, h2, Nat.mul_add, Nat.mul_add]
  omega
theorem getD_set_ne' (ds : List Nat) (j k x : Nat) (h : j ≠ k) : (ds.set j x).getD k 0 = ds.getD k 0 := by simp [List.getD, List.getElem?_set_ne h]
theorem prod_bd {x y : Nat} (hx : x < 4294967296) (hy : y < 4294967296) : (x : Int) * (y : Int) ≤ 18446744065119617025 ∧ 0 ≤ (x : Int) * (y : Int) := by
  have h : x * y ≤ 4294967295 * 4294967295 := Nat.mul_le_mul (by omega) (by omega)
  have h2 : ((x * y : Nat) : Int) ≤ 18446744065119617025 := by omega
  rw [Int.natCast_mul] at h2
  exact ⟨h2, Int.mul_nonneg (by omega) (by omega)⟩
theorem trimmed (xs : List Nat) {k : Nat} (hl : xs.length ≤ k) (hk : k ≤ 1000000000) (hA : D xs) : ∃ p, Pu Tryz.prog 324 [dg xs] (dg p) ∧ p.length ≤ k ∧ D p ∧ val p = val xs ∧ p = dgs (val xs) :=
  ⟨dgs (val xs), trim_nat xs (by omega) hA, by have := len_le (val_lt hA); omega, D_dgs _, val_dgs _, rfl⟩
@[irreducible] def dgc (ds : List Nat) (c : Nat) : SV := ⟨fun m v => ∃ a, v = .slice a ds.length c ∧ ds.length ≤ c ∧ c ≤ maxLen ∧ (ds = [] ∨ ∃ b off, a = some ⟨b, off, none⟩ ∧ cellsAt m b off (dcells ds)),
  fun h ⟨a, e, x, y, k⟩ => ⟨a, e, x, y, k.imp id fun ⟨b, off, e, k⟩ => ⟨b, off, e, k.mono h⟩⟩⟩
theorem dgc_dg (ds : List Nat) (c : Nat) : Le (dgc ds c) (dg ds) := fun m v h => by
  unfold dgc at h
  obtain ⟨a, rfl, h1, h2, h3⟩ := h
  rw [dg_sl]
  exact sl_mk h1 h2 (h3.imp (fun e => by rw [e]; rfl) id)
instance (ds : List Nat) (c : Nat) : CO (dgc ds c) [dgc ds c] := co_one fun m v h => by unfold dgc at h; obtain ⟨a, rfl, _⟩ := h; exact ⟨rfl, rfl⟩
section
variable {P : Program} {C : Ctx} {n : Nat} {F : Fr} {H : LH} {ops : Array Oper} {K : Fr → LH → Prop} {rest : List Oper} {ty : TypeId} {pos : String} {aft : Array Edge}
theorem OpV.low {op : Op} {sv s : SV} (t : Nat) (hle : Le (F t) s) (h : OpV P op ty (upd F t s) H sv) : OpV P op ty F H sv := by
  unfold OpV at *
  exact fun m w o a ho hty h1 h2 h3 => h m w o a ho hty h1 h2 fun t' ht => LeF.upd hle (LeF.refl F) t' m _ (h3 t' ht)
theorem ov_lenC {t : Nat} {T e : TypeId} [TSl P T e] {ds : List Nat} {c : Nat} (hx : F t = dgc ds c) : OpV P (.call ⟨.builtin .len, #[.tmp t], #[T]⟩) ty F H (lit (.int .i64 ds.length)) :=
  OpV.low t (hx ▸ dgc_dg ds c) (ov_lenD (x := .tmp t) upd_eq)
theorem ov_idxC {t t' : Nat} (hne : t' ≠ t) {T e : TypeId} {by_ : Nat} {z : List SV} {g : Bool} [TSl P T e] [TY P e 1 by_ z g] {ki : IntKind} {ds : List Nat} {c i : Nat}
    (hx : F t = dgc ds c) (hi : F t' = lit (.int ki i)) (h1 : i < ds.length) : OpV P (.indexAddr T (.tmp t) (.tmp t')) ty F H (pt [lit (.int .u32 (ds.getD i 0 : Nat))]) :=
  OpV.low t (hx ▸ dgc_dg ds c) (ov_idxD (x := .tmp t) (ix := .tmp t') upd_eq ((upd_ne hne).trans hi) h1)
theorem ov_toC {x y : Operand} {T e : TypeId} {by_ : Nat} {z : List SV} {g : Bool} [hT : TSl P T e] [hE : TY P e 1 by_ z g] {ds : List Nat} {ki : IntKind} {v : Int} {c : Nat} (j : Nat)
    (hx : ev F x = dgc ds c) (hy : ev F y = lit (.int ki v)) (hv : v = (j : Int)) (hj : j ≤ ds.length) : OpV P (.slice T x none (some y) none) ty F H (dgc (ds.take j) c) :=
  OpV.pure fun m w o a ho _ _ _ h => by
    have e0 := h x (by simp [Op.operands]); rw [hx] at e0
    have e1 := h y (by simp [Op.operands]); rw [hy, lit_p] at e1
    subst hv
    unfold dgc at e0
    obtain ⟨ad, e0, h1, h2, h3⟩ := e0
    have hjc : (j : Int) ≤ (c : Int) := by omega
    have hjn : ¬ c < j := by omega
    have hlen : (ds.take j).length = j := by rw [List.length_take]; omega
    refine ⟨.slice (if c = 0 then ad else ad.map (·.add 0)) j c, ?_, ?_⟩
    · simp [execOp, ho, Instr.sliceAt, Instr.slice, underlying, hT.h, e0, e1, Instr.sliceBounds, Instr.sliceBound, asIntOf, hjc, hjn, hE.run_size]
    · unfold dgc
      refine ⟨_, by rw [hlen], by omega, h2, ?_⟩
      rcases h3 with h3 | ⟨b, off, rfl, h3⟩
      · left; rw [h3, List.take_nil]
      · right
        refine ⟨b, off, by simp [add_none], ?_⟩
        have := h3.take j
        rwa [show (dcells ds).take j = dcells (ds.take j) from by simp [dcells, List.map_take]] at this
theorem WpubC {l : List Oper} {b : Nat} {T : TypeId} {ds : List Nat} {H' : LH} {k c : Nat} (d : Nat) (hv : F d = lit (.slice (some ⟨b, 0, none⟩) k c)) (hdel : HDel b T (dcells ds) H H') (hk : ds.length = k) (hc : k ≤ c) (hc' : c ≤ 1000000000)
    (h : WPL P C n ops l K (upd F d (dgc ds c)) H') : WPL P C n ops l K F H := by
  subst hk
  refine WPL.pub hdel hv (fun m arr hm ha => ?_) h
  unfold dgc
  exact ⟨_, rfl, hc, by simp only [maxLen]; omega, .inr ⟨b, 0, rfl, arr, T, (0, 0), hm, by rw [List.drop_zero, ← ha.length, List.take_length]; exact ha⟩⟩
theorem pub_dgt {b : Nat} {T : TypeId} {ds : List Nat} {k c : Nat} (h0 : k ≤ ds.length) (h1 : k ≤ c) (h2 : c ≤ maxLen) (m : Mem) (arr : Array Value) (hm : m b = some (.cells arr T (0, 0))) (ha : All2 m (dcells ds) arr.toList) :
    (dg (ds.take k)).p m (.slice (some ⟨b, 0, none⟩) k c) := by
  rw [dg_sl, show (ds.take k).length = k from by rw [List.length_take]; omega]
  refine sl_mk h1 h2 (.inr ⟨b, 0, rfl, arr, T, (0, 0), hm, ?_⟩)
  have := ha.take k
  rw [List.drop_zero, List.length_map, show (ds.take k).length = k from by rw [List.length_take]; omega]
  rwa [show (dcells ds).take k = dcells (ds.take k) from by simp [dcells, List.map_take]] at this
theorem ov_toL {x y : Operand} {T e : TypeId} {by_ : Nat} {z : List SV} {g : Bool} [hT : TSl P T e] [hE : TY P e 1 by_ z g] {ki : IntKind} {v : Int} {b k c : Nat} (j : Nat)
    (hx : ev F x = lit (.slice (some ⟨b, 0, none⟩) k c)) (hy : ev F y = lit (.int ki v)) (hv : v = (j : Int)) (hj : j ≤ c) : OpV P (.slice T x none (some y) none) ty F H (lit (.slice (some ⟨b, 0, none⟩) j c)) :=
  OpV.pure fun m w o a ho _ _ _ h => by
    have e0 := h x (by simp [Op.operands]); rw [hx, lit_p] at e0
    have e1 := h y (by simp [Op.operands]); rw [hy, lit_p] at e1
    subst hv
    have hjc : (j : Int) ≤ (c : Int) := by omega
    have hjn : ¬ c < j := by omega
    refine ⟨_, ?_, lit_p.2 rfl⟩
    simp [execOp, ho, Instr.sliceAt, Instr.slice, underlying, hT.h, e0, e1, Instr.sliceBounds, Instr.sliceBound, asIntOf, hjc, hjn, hE.run_size, add_none]
theorem St.pushD {a : Act} {w : World} {d : Nat} {T : TypeId} {arr : Array Value} {cs : List SV} {v : Value} (hd : d < n) (hs : St C n F H a w)
    (hcs : ∀ m, MemIn m w → HOk m w H → (∀ x, (ev F x).p m (a.eval x)) → All2 m cs arr.toList) :
    St C n (upd F d (lit v)) ((w.heap.size, T, cs) :: H) (a.put (some d) v) (w.drew.alloc (.cells arr T)) := by
  obtain ⟨hdef, hn, m, h1, h2, h3, h4, h5⟩ := hs
  have hp : ∀ x, (ev F x).p m (a.eval x) := fun x => by
    cases x with
    | tmp t => exact h5 t
    | const v => unfold ev lit; rfl
    | global g => unfold ev lit; rfl
    | func f => unfold ev lit; rfl
  have hnone : m w.heap.size = none := by
    cases hmm : m w.heap.size with
    | none => rfl
    | some o => have := h1 _ _ hmm; rw [Array.getElem?_eq_none (Nat.le_refl _)] at this; cases this
  have hsize : (w.drew.alloc (.cells arr T)).heap.size = w.heap.size + 1 := World.size_alloc ..
  have hold : ∀ b, b < w.heap.size → (w.drew.alloc (.cells arr T)).heap[b]? = w.heap[b]? := fun b hb => heap_alloc_old w.drew _ b hb
  have rel : Rel [] m w m (w.drew.alloc (.cells arr T)) := ⟨Mem.le_refl m, fun _ _ _ => rfl, rfl, rfl, rfl, by omega, fun b hb _ => hold b hb⟩
  refine ⟨hdef, by simpa [Act.put] using hn, m, ⟨fun b o hb => ?_, h1.base⟩, ⟨?_, ?_⟩, h3.trans rel (fun b hb h => by cases h), ?_, fun t => ?_⟩
  · have := h1 b o hb
    rw [hold b (Array.getElem?_eq_some_iff.1 this).1]; exact this
  · simp only [List.map_cons, List.nodup_cons]
    refine ⟨fun hm => ?_, h2.1⟩
    obtain ⟨e, he, hk⟩ := List.mem_map.1 hm
    have := (h2.2 e he).2.lt
    omega
  · intro e he
    rcases List.mem_cons.1 he with rfl | he
    · exact ⟨hnone, arr, heap_alloc_new w.drew _, hcs m h1 h2 hp⟩
    · have hh := h2.rel rel (fun _ _ => by simp)
      exact hh.2 e he
  · intro e he
    rcases List.mem_cons.1 he with rfl | he
    · exact .inr h3.size
    · exact h4 e he
  · rw [getD_put (Nat.lt_of_lt_of_le hd hn)]
    unfold upd
    by_cases ht : t = d
    · subst ht; rw [if_pos rfl, Nat.beq_refl]; exact lit_p.2 rfl
    · rw [if_neg ht]
      have : Nat.beq t d = false := by
        cases hb : Nat.beq t d with
        | false => rfl
        | true => exact absurd (Nat.eq_of_beq_eq_true hb) ht
      rw [this]
      exact h5 t
theorem All2.dcz {m : Mem} : ∀ (k : Nat), All2 m (dcells (List.replicate k 0)) (List.replicate k (Value.int .u32 0)) := fun k => by
  rw [← dcells_rep]; exact All2.replicate (lit_p.2 rfl) rfl k
theorem WappC {T e : TypeId} [hS : TSl P T e] {g : Bool} [hT : TY P e 1 4 [lit (Value.int IntKind.u32 0)] g] {d : Nat} {x y : Operand} {ds es : List Nat} {c b2 c2 : Nat} {T' : TypeId}
    (hx : ev F x = dgc ds c) (hy : ev F y = lit (.slice (some ⟨b2, 0, none⟩) es.length c2)) (hm : (b2, T', dcells es) ∈ H) (hne : ds ≠ []) (hroom : c < ds.length + es.length) (hl : ds.length + es.length ≤ 1000000000)
    (h : ∀ b k, k ≤ maxLen → ∀ j, k = ds.length + es.length + j → WPL P C n ops rest K (upd F d (lit (.slice (some ⟨b, 0, none⟩) (ds.length + es.length) k))) ((b, e, dcells (ds ++ es ++ List.replicate j 0)) :: H)) (hd : Nat.blt d n = true := by exact rfl) :
    WPL P C n ops (⟨some d, .call ⟨.builtin .append, #[x, y], #[T, T]⟩, ty, pos, aft, none⟩ :: rest) K F H := by
  unfold WPL
  intro a w hs Q hq
  refine wpList_plain rfl fun K' hK' => ?_
  obtain ⟨m0, h10, h20, hp0⟩ : ∃ m, MemIn m w ∧ HOk m w H ∧ ∀ x, (ev F x).p m (a.eval x) := by
    obtain ⟨_, _, m, h1, h2, _, _, h5⟩ := hs
    refine ⟨m, h1, h2, fun x => ?_⟩
    cases x with
    | tmp t => exact h5 t
    | const v => unfold ev lit; rfl
    | global g => unfold ev lit; rfl
    | func f => unfold ev lit; rfl
  have e0 := hp0 x; rw [hx] at e0
  have e1 := hp0 y; rw [hy, lit_p] at e1
  unfold dgc at e0
  obtain ⟨ad, e0, hc1, hc2, hca⟩ := e0
  obtain ⟨b1, off, rfl, arr1, T1, fz1, hb1, hall1⟩ := hca.resolve_left hne
  obtain ⟨_, arr2, hb2, hall2⟩ := h20.2 _ hm
  obtain ⟨i, v, hi, hsz, hby, hz, hzl, hfl, hvs⟩ := hT.run_bytes
  simp only [dcells_length] at hall1
  have hlen1 := hall1.length
  have hlen2 := hall2.length
  simp only [dcells_length, Array.length_toList] at hlen1 hlen2
  have hw1 := h10 _ _ hb1
  have hxs : ∀ j u, ((arr1.toList.drop off).take ds.length)[j]? = some u → w.cell? ((⟨b1, off, none⟩ : Addr).add j) = some u := fun j u hj => by
    rw [add_none, cell_of w b1 _ arr1 _ _ hw1]
    rw [List.getElem?_take] at hj
    split at hj
    · rw [List.getElem?_drop] at hj; simpa using hj
    · cases hj
  have hys : ∀ j u, arr2.toList[j]? = some u → w.cell? ((⟨b2, 0, none⟩ : Addr).add j) = some u := fun j u hj => by
    rw [add_none, cell_of w b2 _ arr2 _ _ hb2]; simpa using hj
  have hrun := run_append_grow (P := P) w T ty e i v hS.h hi hz ⟨b1, off, none⟩ ds.length c ((arr1.toList.drop off).take ds.length) (by rw [hlen1, hsz, Nat.mul_one]) hxs
    ⟨b2, 0, none⟩ es.length c2 arr2.toList (by rw [Array.length_toList, hlen2, hsz, Nat.mul_one]) hys (by omega) (by omega) (growslice_fits (by omega) (by rw [hby]; omega))
  have hexec : execOp a.eval (⟨some d, .call ⟨.builtin .append, #[x, y], #[T, T]⟩, ty, pos, aft, none⟩ : Oper) = (do let v ← Builtin.append_ #[T, T] ty #[a.eval x, a.eval y]; pure (.value v)) := by
    simp [execOp, resolve, invoke, builtin]
  unfold Oper.wp
  rw [hexec, e0, e1]
  simp only [Sem.run_bind, hrun, Result.andThen_ok, Sem.run_pure]
  have hge := grownCap_ge w (ds.length + es.length) c e
  have hle := grownCap_le_maxLen w (ds.length + es.length) c e (by simp only [maxLen]; omega)
  have h := h w.heap.size _ hle (grownCap w (ds.length + es.length) c e - (ds.length + es.length)) (by omega)
  unfold WPL at h
  refine hK' _ _ (h _ _ (St.pushD (Nat.blt_eq.mp hd) hs fun m h1 h2 hp => ?_) Q hq)
  have e0' := hp x; rw [hx] at e0'
  unfold dgc at e0'
  obtain ⟨ad', e0', _, _, hca'⟩ := e0'
  rw [e0] at e0'
  simp only [Value.slice.injEq] at e0'
  obtain ⟨b1', off', hbe, arr1', T1', fz1', hb1', hall1'⟩ := hca'.resolve_left hne
  rw [← e0'.1] at hbe
  simp only [Option.some.injEq, Addr.mk.injEq] at hbe
  obtain ⟨rfl, rfl, _⟩ := hbe
  have hw1' := h1 _ _ hb1'
  rw [hw1] at hw1'
  simp only [Option.some.injEq, Obj.cells.injEq] at hw1'
  obtain ⟨rfl, _, _⟩ := hw1'
  obtain ⟨_, arr2', hb2', hall2'⟩ := h2.2 _ hm
  rw [hb2] at hb2'
  simp only [Option.some.injEq, Obj.cells.injEq] at hb2'
  obtain ⟨rfl, _⟩ := hb2'
  rw [show dcells (ds ++ es ++ List.replicate (grownCap w (ds.length + es.length) c e - (ds.length + es.length)) 0) = dcells ds ++ dcells es ++ dcells (List.replicate (grownCap w (ds.length + es.length) c e - (ds.length + es.length)) 0) from by simp [dcells]]
  simp only [Array.toList_append, List.toList_toArray]
  refine ((by simpa [dcells_length] using hall1' : All2 m (dcells ds) _).append hall2').append ?_
  have hv1 : v.cells.toList = [Value.int .u32 0] := by
    have h1 : v.cells.toList.length = 1 := by simpa using hvs
    match hv : v.cells.toList, h1 with
    | [u], _ =>
      rw [hv] at hzl
      simp only [List.map_cons, List.map_nil, List.cons.injEq, and_true] at hzl
      have : (lit u).p (fun _ => none) u := lit_p.2 rfl
      rw [hzl, lit_p] at this
      rw [this]
  have hzc : ∀ k, (Builtin.zeroCells v.cells k).toList = List.replicate k (Value.int .u32 0) := fun k => by
    have hs1 : v.cells.size = 1 := hvs
    have hg0 : v.cells = #[Value.int .u32 0] := by
      apply Array.ext'
      rw [hv1]
    rw [hg0]
    simp only [Builtin.zeroCells, List.size_toArray, List.length_cons, List.length_nil, Nat.zero_add, Nat.mul_one, Nat.mod_one, Array.toList_map, Array.toList_range]
    rw [List.map_const']
    simp
  rw [hzc]
  exact All2.dcz _
end
theorem trim_cap (ds : List Nat) (c : Nat) (hl : ds.length ≤ 1000000000) : Pu Tryz.prog 324 [dgc ds c] (dgc (trimL ds) c) := by
  refine Pu.intro Tryz.func324 rfl (by kernel_rfl) fun C => ?_
  repeat (refine A1 ⟨?_⟩; intros)
  refine WP.loop (ι := Nat) (fun k => k ≤ ds.length ∧ trimL (ds.take k) = trimL ds) (fun k => k) (fun k => fm [(0, dgc (ds.take k) c)]) (fun _ => []) ds.length ⟨Nat.le_refl _, by rw [List.take_length]⟩ (LeF.cons (by rw [List.take_length]; exact Le.refl _) (LeF.nil _)) rfl ?_
  rintro k ⟨hk, ht⟩ K hK
  have hlen : (ds.take k).length = k := by rw [List.length_take]; omega
  rcases k with _ | j
  · iterate 2 refine WP.seq' ?_
    refine WP.reg ?_
    (refine O1 ⟨?_⟩; intros)
    refine Wo (ov_lenC rfl) ?_
    repeat (refine A1 ⟨?_⟩; intros)
    exact endR (end1 (RV.tmp (s := dgc (List.take 0 ds) c) rfl) (Le.of_eq (by rw [← ht]; rfl)))
  · have hg : (List.take (j + 1) ds).getD j 0 = ds.getD j 0 := by simp [List.getD]
    iterate 2 refine WP.seq' ?_
    refine WP.reg ?_
    (refine O1 ⟨?_⟩; intros)
    refine Wo (ov_lenC rfl) ?_
    iterate 4 (refine O1 ⟨?_⟩; intros)
    refine Wog (ov_lenC rfl) ?_
    refine Wog (ov_sub (r := (j : Int)) rfl rfl (wi64e (by omega) (by omega) (by omega))) ?_
    refine Wog (ov_idxC (i := j) (by decide) rfl rfl (by omega)) ?_
    rw [hg]
    by_cases hd : ds.getD j 0 = 0
    · repeat (refine A1 ⟨?_⟩; intros)
      refine Wo (ov_lenC rfl) ?_
      repeat (refine A1 ⟨?_⟩; intros)
      refine Wo (ov_toC j rfl rfl (by omega) (by omega)) ?_
      rw [List.take_take, Nat.min_eq_left (by omega)]
      repeat (refine A1 ⟨?_⟩; intros)
      refine hK _ _ j ⟨by omega, ?_⟩ (by omega) (LeF.cons (Le.refl _) (LeF.nil _)) rfl
      rw [take_succ_getD ds j (by omega), hd, trimL_snoc_zero] at ht
      exact ht
    · rw [take_succ_getD ds j (by omega), trimL_snoc_ne _ _ hd, ← take_succ_getD ds j (by omega)] at ht
      repeat (refine A1 ⟨?_⟩; intros)
      exact endR (end1 (RV.tmp (s := dgc (List.take (j + 1) ds) c) rfl) (Le.of_eq (by rw [ht])))
def Own (T : TypeId) (sz n : Nat) (cs : List SV) (s : SV) (H : LH) : Prop :=
  cs.length = n * sz ∧ ((n = 0 ∧ s = lit (.slice none 0 0) ∧ H = []) ∨
    ∃ b c, n ≤ c ∧ c ≤ maxLen ∧ s = lit (.slice (some ⟨b, 0, none⟩) n c) ∧ H = [(b, T, cs ++ List.replicate (c * sz - n * sz) top)])
theorem Own.nil (T : TypeId) (sz : Nat) : Own T sz 0 [] (lit (.slice none 0 0)) [] := ⟨by simp, .inl ⟨rfl, rfl, rfl⟩⟩
theorem All2.tops {m : Mem} : ∀ (l : List Value), (∀ v ∈ l, v.oneCell' = true) → All2 m (List.replicate l.length top) l
  | [], _ => trivial
  | v :: l, h => ⟨⟨by unfold top; trivial, h v (by simp)⟩, All2.tops l fun u hu => h u (by simp [hu])⟩
theorem All2.topL {m : Mem} {l : List Value} {k : Nat} (hk : l.length = k) (h : ∀ v ∈ l, v.oneCell' = true) : All2 m (List.replicate k top) l := hk ▸ All2.tops l h
theorem zeroCells_one {z : Array Value} {k : Nat} (h : z.toList.all (·.oneCell') = true) : ∀ v ∈ (Builtin.zeroCells z k).toList, v.oneCell' = true := by
  intro v hv
  simp only [Builtin.zeroCells, Array.toList_map, Array.toList_range, List.mem_map, List.mem_range] at hv
  obtain ⟨i, hi, rfl⟩ := hv
  have hp : 0 < z.size := Nat.pos_of_ne_zero fun e => by rw [e, Nat.mul_zero] at hi; omega
  have hlt : i % z.size < z.size := Nat.mod_lt _ hp
  rw [getElem!_pos z _ hlt]
  exact List.all_eq_true.1 h _ (by simp)
theorem All2.split {m : Mem} : ∀ {cs ds : List SV} {l : List Value}, All2 m (cs ++ ds) l → All2 m cs (l.take cs.length) ∧ All2 m ds (l.drop cs.length)
  | [], _, l, h => ⟨trivial, h⟩
  | _ :: _, _, [], h => h.elim
  | _ :: _, _, _ :: _, h => ⟨⟨h.1, h.2.split.1⟩, h.2.split.2⟩
section
variable {P : Program} {C : Ctx} {n : Nat} {F : Fr} {H : LH} {ops : Array Oper} {K : Fr → LH → Prop} {rest : List Oper} {ty : TypeId} {pos : String} {aft : Array Edge}
theorem WPL.appOwn {T e : TypeId} {sz by_ : Nat} {z : List SV} {g : Bool} [hS : TSl P T e] [hT : TY P e sz by_ z g] {d : Nat} {x y : Operand} {n0 b2 c2 : Nat} {T' : TypeId} {cs ds : List SV} {s : SV} {Hs Rs : LH}
    (hown : Own e sz n0 cs s Hs) (hx : ev F x = s) (hy : ev F y = lit (.slice (some ⟨b2, 0, none⟩) 1 c2)) (hsp : Spl H Hs Rs) (hm : (b2, T', ds) ∈ Rs) (hds : ds.length = sz) (hpos : 0 < sz) (hl : n0 ≤ 1000000000) (hby : by_ ≤ 10000)
    (k : ∀ s' H', Own e sz (n0 + 1) (cs ++ ds) s' H' → WPL P C n ops rest K (upd F d s') (H' ++ Rs)) (hd : Nat.blt d n = true) :
    WPL P C n ops (⟨some d, .call ⟨.builtin .append, #[x, y], #[T, T]⟩, ty, pos, aft, none⟩ :: rest) K F H := by
  unfold WPL
  intro a w hs0 Q hq
  have hs := hs0.perm hsp.perm
  refine wpList_plain rfl fun K' hK' => ?_
  obtain ⟨hdef, hn, m0, h10, h20, h30, h40, h50⟩ := id hs
  have hp0 : ∀ x, (ev F x).p m0 (a.eval x) := fun x => by
    cases x with
    | tmp t => exact h50 t
    | const v => unfold ev lit; rfl
    | global g => unfold ev lit; rfl
    | func f => unfold ev lit; rfl
  have e0 := hp0 x; rw [hx] at e0
  have e1 := hp0 y; rw [hy, lit_p] at e1
  obtain ⟨_, arr2, hb2, hall2⟩ := h20.2 _ (List.mem_append_right Hs hm)
  obtain ⟨i, v, hi, hsz, hbyt, hz, hzl, hfl, hvs⟩ := hT.run_bytes
  have hlen2 := hall2.length
  simp only [Array.length_toList] at hlen2
  have hys : ∀ j u, arr2.toList[j]? = some u → w.cell? ((⟨b2, 0, none⟩ : Addr).add j) = some u := fun j u hj => by
    rw [add_none, cell_of w b2 _ arr2 _ _ hb2]; simpa using hj
  have hexec : execOp a.eval (⟨some d, .call ⟨.builtin .append, #[x, y], #[T, T]⟩, ty, pos, aft, none⟩ : Oper) = (do let v ← Builtin.append_ #[T, T] ty #[a.eval x, a.eval y]; pure (.value v)) := by
    simp [execOp, resolve, invoke, builtin]
  have hmul : ∀ q, q ≤ 1000000001 → q * by_ ≤ 140737488355328 := fun q hq => Nat.le_trans (Nat.mul_le_mul hq hby) (by decide)
  have get2 : ∀ m, MemIn m w → HOk m w (Hs ++ Rs) → All2 m ds arr2.toList := fun m _ h2 => by
    obtain ⟨_, arr2', hb2', hall2'⟩ := h2.2 _ (List.mem_append_right Hs hm)
    rw [hb2] at hb2'
    simp only [Option.some.injEq, Obj.cells.injEq] at hb2'
    obtain ⟨rfl, _⟩ := hb2'
    exact hall2'
  unfold Oper.wp
  rw [hexec, e1]
  obtain ⟨hcl, hcase⟩ := hown
  rcases hcase with ⟨rfl, rfl, rfl⟩ | ⟨b, c, hnc, hcm, rfl, rfl⟩
  · rw [lit_p] at e0
    have hcs : cs = [] := List.eq_nil_of_length_eq_zero (by rw [hcl, Nat.zero_mul])
    subst hcs
    have hrun := run_append_nil (P := P) w T ty e i v hS.h hi hz ⟨b2, 0, none⟩ 1 c2 arr2.toList (by rw [Array.length_toList, hlen2, hsz, hds, Nat.one_mul]) hys (by omega) (by omega) (by rw [hbyt]; have := hmul 1 (by omega); omega)
    rw [e0]
    simp only [Sem.run_bind, hrun, Result.andThen_ok, Sem.run_pure]
    have hge := grownCap_ge w 1 0 e
    have hle := grownCap_le_maxLen w 1 0 e (by simp only [maxLen]; omega)
    have h := k (lit (.slice (some ⟨w.heap.size, 0, none⟩) 1 (grownCap w 1 0 e))) [(w.heap.size, e, ([] ++ ds) ++ List.replicate (grownCap w 1 0 e * sz - 1 * sz) top)] ⟨by rw [List.nil_append, hds]; omega, .inr ⟨_, _, hge, hle, rfl, by rw [Nat.zero_add]⟩⟩
    unfold WPL at h
    refine hK' _ _ (h _ _ (St.pushD (Nat.blt_eq.mp hd) hs fun m h1 h2 _ => ?_) Q hq)
    simp only [Array.toList_append, List.toList_toArray, List.nil_append]
    refine (get2 m h1 h2).append (All2.topL ?_ (zeroCells_one hfl))
    rw [Array.length_toList, size_zeroCells, hvs, Nat.sub_mul]
  · rw [lit_p] at e0
    obtain ⟨hmb, arr, hb, hall⟩ := h20.2 _ (List.mem_append_left Rs (List.mem_singleton.2 rfl))
    have hlen := hall.length
    simp only [List.length_append, List.length_replicate, hcl, Array.length_toList] at hlen
    have hmono : n0 * sz ≤ c * sz := Nat.mul_le_mul_right _ hnc
    have getc : ∀ m, HOk m w ([(b, e, cs ++ List.replicate (c * sz - n0 * sz) top)] ++ Rs) → All2 m (cs ++ List.replicate (c * sz - n0 * sz) top) arr.toList := fun m h2 => by
      obtain ⟨_, arr', hb', hall'⟩ := h2.2 _ (List.mem_append_left Rs (List.mem_singleton.2 rfl))
      rw [hb] at hb'
      simp only [Option.some.injEq, Obj.cells.injEq] at hb'
      obtain ⟨rfl, _⟩ := hb'
      exact hall'
    by_cases hroom : n0 + 1 ≤ c
    · have hm1 : (n0 + 1) * sz ≤ c * sz := Nat.mul_le_mul_right _ hroom
      rw [Nat.succ_mul] at hm1
      have hrun := run_append_room (P := P) w T ty e i hS.h hi b n0 c arr hb ⟨b2, 0, none⟩ 1 c2 arr2.toList (by rw [Array.length_toList, hlen2, hsz, hds, Nat.one_mul]) hys hall2.flat hroom (by rw [hsz, Array.length_toList, hlen2, hds]; omega)
      rw [e0]
      simp only [Sem.run_bind, hrun, Result.andThen_ok, Sem.run_pure]
      have h := k (lit (.slice (some ⟨b, 0, none⟩) (n0 + 1) c)) [(b, e, (cs ++ ds) ++ List.replicate (c * sz - (n0 + 1) * sz) top)] ⟨by rw [List.length_append, hcl, hds, Nat.succ_mul], .inr ⟨_, _, hroom, hcm, rfl, rfl⟩⟩
      unfold WPL at h
      have hfin : All2 m0 ((cs ++ ds) ++ List.replicate (c * sz - (n0 + 1) * sz) top) (arr.toList.take (n0 * i.size) ++ arr2.toList ++ arr.toList.drop (n0 * i.size + arr2.toList.length)).toArray.toList := by
        obtain ⟨q1, q2⟩ := (getc m0 h20).split
        rw [hcl] at q1 q2
        rw [hsz, Array.length_toList, hlen2, hds, List.toList_toArray]
        refine (q1.append (get2 m0 h10 h20)).append (All2.topL ?_ fun u hu => ?_)
        · rw [List.length_drop, Array.length_toList, Nat.succ_mul]; omega
        · exact hall.flat u (List.mem_of_mem_drop hu)
      obtain ⟨q1, q2, q3, q4⟩ := write_ok (w' := w.setRow b (arr.toList.take (n0 * i.size) ++ arr2.toList ++ arr.toList.drop (n0 * i.size + arr2.toList.length)).toArray) h10 h20 h30 h40 (.here Rs)
        (setRow_heap w b arr _ e _ hb) (fun j hj => setRow_other w b j _ hj) rfl rfl rfl (by simp) hfin
      refine hK' _ _ (h (a.put (some d) (.slice (some ⟨b, 0, none⟩) (n0 + 1) c)) _ ⟨hdef, by simpa [Act.put] using hn, m0, q1, q2, q3, q4, fun t => ?_⟩ Q hq)
      rw [getD_put (Nat.lt_of_lt_of_le (Nat.blt_eq.mp hd) hn)]
      unfold Ab.upd
      by_cases ht : t = d
      · subst ht; rw [if_pos rfl, Nat.beq_refl]; exact lit_p.2 rfl
      · rw [if_neg ht]
        have : Nat.beq t d = false := by
          cases hbb : Nat.beq t d with
          | false => rfl
          | true => exact absurd (Nat.eq_of_beq_eq_true hbb) ht
        rw [this]
        exact h50 t
    · have hxs : ∀ j u, (arr.toList.take (n0 * sz))[j]? = some u → w.cell? ((⟨b, 0, none⟩ : Addr).add j) = some u := fun j u hj => by
        rw [add_none, cell_of w b _ arr _ _ hb]
        rw [List.getElem?_take] at hj
        split at hj
        · simpa using hj
        · cases hj
      have hrun := run_append_grow (P := P) w T ty e i v hS.h hi hz ⟨b, 0, none⟩ n0 c (arr.toList.take (n0 * sz)) (by rw [List.length_take, Array.length_toList, hsz]; omega) hxs
        ⟨b2, 0, none⟩ 1 c2 arr2.toList (by rw [Array.length_toList, hlen2, hsz, hds, Nat.one_mul]) hys (by omega) (by omega) (growslice_fits (by omega) (by rw [hbyt]; exact hmul _ (by omega)))
      rw [e0]
      simp only [Sem.run_bind, hrun, Result.andThen_ok, Sem.run_pure]
      have hge := grownCap_ge w (n0 + 1) c e
      have hle := grownCap_le_maxLen w (n0 + 1) c e (by simp only [maxLen]; omega)
      have h := k (lit (.slice (some ⟨w.heap.size, 0, none⟩) (n0 + 1) (grownCap w (n0 + 1) c e))) [(w.heap.size, e, (cs ++ ds) ++ List.replicate (grownCap w (n0 + 1) c e * sz - (n0 + 1) * sz) top)]
        ⟨by rw [List.length_append, hcl, hds, Nat.succ_mul], .inr ⟨_, _, hge, hle, rfl, rfl⟩⟩
      unfold WPL at h
      have hst := St.pushD (d := d) (cs := (cs ++ ds) ++ List.replicate (grownCap w (n0 + 1) c e * sz - (n0 + 1) * sz) top) (v := .slice (some ⟨w.heap.size, 0, none⟩) (n0 + 1) (grownCap w (n0 + 1) c e)) (T := e)
        (arr := (arr.toList.take (n0 * sz)).toArray ++ arr2.toList.toArray ++ Builtin.zeroCells v.cells (grownCap w (n0 + 1) c e - (n0 + 1))) (Nat.blt_eq.mp hd) hs fun m h1 h2 _ => ?_
      · refine hK' _ _ (h _ _ ?_ Q hq)
        exact hst.drop (.there _ (.here _))
      · simp only [Array.toList_append, List.toList_toArray]
        obtain ⟨q1, _⟩ := (getc m h2).split
        rw [hcl] at q1
        refine (q1.append (get2 m h1 h2)).append (All2.topL ?_ (zeroCells_one hfl))
        rw [Array.length_toList, size_zeroCells, hvs, Nat.sub_mul]
inductive Tk : LH → LH → LH → Prop
  | nil (R : LH) : Tk R [] R
  | same (R : LH) : Tk R R []
  | cons {b : Nat} {T : TypeId} {cs : List SV} {H H1 Hin R : LH} (h : HDel b T cs H H1) (k : Tk H1 Hin R) : Tk H ((b, T, cs) :: Hin) R
  | skip (e : Nat × TypeId × List SV) {H Hin R : LH} (k : Tk H Hin R) : Tk (e :: H) Hin (e :: R)
theorem Tk.perm {H Hin R : LH} (h : Tk H Hin R) : H.Perm (Hin ++ R) := by
  induction h with
  | nil => exact List.Perm.refl _
  | same => rw [List.append_nil]
  | cons h _ ih => exact h.perm.trans (ih.cons _)
  | skip e _ ih => exact (ih.cons e).trans List.perm_middle.symm
theorem Spl.app : ∀ (Hin R : LH), Spl (Hin ++ R) Hin R
  | [], R => .nil R
  | (_, _, _) :: Hin, R => .cons (.here _) (Spl.app Hin R)
theorem WPL.perm {l : List Oper} {H' : LH} (hp : H.Perm H') (k : WPL P C n ops l K F H') : WPL P C n ops l K F H := by
  unfold WPL at *
  exact fun a w hs => k a w (hs.perm hp)
theorem WP.perm {c : Code} {H' : LH} {Q : Exit → Fr → LH → Prop} (hp : H.Perm H') (k : WP P C n c Q F H') : WP P C n c Q F H := by
  unfold WP at *
  exact fun a w hs => k a w (hs.perm hp)
theorem WfT {f : FuncId} {d : Nat} {l : List Operand} {tys : Array TypeId} {svs : List SV} {Hin Rs : LH} {R : SV → LH → Prop} (hc : PuH P f svs Hin R noX) (k : ∀ res H', R res H' → WPL P C n ops rest K (upd F d res) (Rs ++ H'))
    (ha : l.map (ev F) = svs := by exact rfl) (hs : Tk H Hin Rs := by (repeat (first | exact Tk.nil _ | exact Tk.same _ | (apply Tk.cons; (first | exact (HDel.here _) | exact (HDel.there _ (HDel.here _)) | exact (HDel.there _ (HDel.there _ (HDel.here _))) | exact (HDel.there _ (HDel.there _ (HDel.there _ (HDel.here _)))) | exact (HDel.there _ (HDel.there _ (HDel.there _ (HDel.there _ (HDel.here _))))) | exact (HDel.there _ (HDel.there _ (HDel.there _ (HDel.there _ (HDel.there _ (HDel.here _)))))) | exact (HDel.there _ (HDel.there _ (HDel.there _ (HDel.there _ (HDel.there _ (HDel.there _ (HDel.here _))))))) | exact (HDel.there _ (HDel.there _ (HDel.there _ (HDel.there _ (HDel.there _ (HDel.there _ (HDel.there _ (HDel.here _)))))))) | exact (HDel.there _ (HDel.there _ (HDel.there _ (HDel.there _ (HDel.there _ (HDel.there _ (HDel.there _ (HDel.there _ (HDel.here _))))))))) | exact (HDel.there _ (HDel.there _ (HDel.there _ (HDel.there _ (HDel.there _ (HDel.there _ (HDel.there _ (HDel.there _ (HDel.there _ (HDel.here _)))))))))))) | apply Tk.skip))) (hd : Nat.blt d n = true := by exact rfl) :
    WPL P C n ops (⟨some d, .call ⟨.value (.func f), l.toArray, tys⟩, ty, pos, aft, none⟩ :: rest) K F H :=
  .perm hs.perm (.callH (s := lit (.func (.func f) #[] #[])) (first := []) (caps := []) rfl hc (Spl.app _ _) (by rw [List.nil_append, List.append_nil]; exact ha) hd (fun res H' h => .perm List.perm_append_comm (k res H' h)) fun _ _ h => h.elim)
theorem WvT {x : Operand} {f : FuncId} {first caps : List SV} {d : Nat} {l : List Operand} {tys : Array TypeId} {svs : List SV} {Hin Rs : LH} {R : SV → LH → Prop} (hc : PuH P f svs Hin R noX) (k : ∀ res H', R res H' → WPL P C n ops rest K (upd F d res) (Rs ++ H'))
    (hx : ev F x = fnv f first caps := by exact rfl) (ha : first ++ l.map (ev F) ++ caps = svs := by exact rfl) (hs : Tk H Hin Rs := by (repeat (first | exact Tk.nil _ | exact Tk.same _ | (apply Tk.cons; (first | exact (HDel.here _) | exact (HDel.there _ (HDel.here _)) | exact (HDel.there _ (HDel.there _ (HDel.here _))) | exact (HDel.there _ (HDel.there _ (HDel.there _ (HDel.here _)))) | exact (HDel.there _ (HDel.there _ (HDel.there _ (HDel.there _ (HDel.here _))))) | exact (HDel.there _ (HDel.there _ (HDel.there _ (HDel.there _ (HDel.there _ (HDel.here _)))))) | exact (HDel.there _ (HDel.there _ (HDel.there _ (HDel.there _ (HDel.there _ (HDel.there _ (HDel.here _))))))) | exact (HDel.there _ (HDel.there _ (HDel.there _ (HDel.there _ (HDel.there _ (HDel.there _ (HDel.there _ (HDel.here _)))))))) | exact (HDel.there _ (HDel.there _ (HDel.there _ (HDel.there _ (HDel.there _ (HDel.there _ (HDel.there _ (HDel.there _ (HDel.here _))))))))) | exact (HDel.there _ (HDel.there _ (HDel.there _ (HDel.there _ (HDel.there _ (HDel.there _ (HDel.there _ (HDel.there _ (HDel.there _ (HDel.here _)))))))))))) | apply Tk.skip))) (hd : Nat.blt d n = true := by exact rfl) :
    WPL P C n ops (⟨some d, .call ⟨.value x, l.toArray, tys⟩, ty, pos, aft, none⟩ :: rest) K F H :=
  .perm hs.perm (.callH hx hc (Spl.app _ _) ha hd (fun res H' h => .perm List.perm_append_comm (k res H' h)) fun _ _ h => h.elim)
theorem Wown {T e : TypeId} {sz by_ : Nat} {z : List SV} {g : Bool} [hS : TSl P T e] [hT : TY P e sz by_ z g] {d : Nat} {x y : Operand} {n0 b2 c2 : Nat} {T' : TypeId} {cs ds : List SV} {s : SV} {Hs Rs : LH}
    (hown : Own e sz n0 cs s Hs) (hl : n0 ≤ 1000000000) (k : ∀ s' H', Own e sz (n0 + 1) (cs ++ ds) s' H' → WPL P C n ops rest K (upd F d s') (Rs ++ H'))
    (hx : ev F x = s := by exact rfl) (hy : ev F y = lit (.slice (some ⟨b2, 0, none⟩) 1 c2) := by exact rfl) (hsp : Tk H Hs Rs := by (repeat (first | exact Tk.nil _ | exact Tk.same _ | (apply Tk.cons; (first | exact (HDel.here _) | exact (HDel.there _ (HDel.here _)) | exact (HDel.there _ (HDel.there _ (HDel.here _))) | exact (HDel.there _ (HDel.there _ (HDel.there _ (HDel.here _)))) | exact (HDel.there _ (HDel.there _ (HDel.there _ (HDel.there _ (HDel.here _))))) | exact (HDel.there _ (HDel.there _ (HDel.there _ (HDel.there _ (HDel.there _ (HDel.here _)))))) | exact (HDel.there _ (HDel.there _ (HDel.there _ (HDel.there _ (HDel.there _ (HDel.there _ (HDel.here _))))))) | exact (HDel.there _ (HDel.there _ (HDel.there _ (HDel.there _ (HDel.there _ (HDel.there _ (HDel.there _ (HDel.here _)))))))) | exact (HDel.there _ (HDel.there _ (HDel.there _ (HDel.there _ (HDel.there _ (HDel.there _ (HDel.there _ (HDel.there _ (HDel.here _))))))))) | exact (HDel.there _ (HDel.there _ (HDel.there _ (HDel.there _ (HDel.there _ (HDel.there _ (HDel.there _ (HDel.there _ (HDel.there _ (HDel.here _)))))))))))) | apply Tk.skip))) (hm : (b2, T', ds) ∈ Rs := by (first | exact List.mem_cons_self | exact (List.mem_cons_of_mem _ List.mem_cons_self) | exact (List.mem_cons_of_mem _ (List.mem_cons_of_mem _ List.mem_cons_self)) | exact (List.mem_cons_of_mem _ (List.mem_cons_of_mem _ (List.mem_cons_of_mem _ List.mem_cons_self))) | exact (List.mem_cons_of_mem _ (List.mem_cons_of_mem _ (List.mem_cons_of_mem _ (List.mem_cons_of_mem _ List.mem_cons_self)))) | exact (List.mem_cons_of_mem _ (List.mem_cons_of_mem _ (List.mem_cons_of_mem _ (List.mem_cons_of_mem _ (List.mem_cons_of_mem _ List.mem_cons_self))))) | exact (List.mem_cons_of_mem _ (List.mem_cons_of_mem _ (List.mem_cons_of_mem _ (List.mem_cons_of_mem _ (List.mem_cons_of_mem _ (List.mem_cons_of_mem _ List.mem_cons_self)))))) | exact (List.mem_cons_of_mem _ (List.mem_cons_of_mem _ (List.mem_cons_of_mem _ (List.mem_cons_of_mem _ (List.mem_cons_of_mem _ (List.mem_cons_of_mem _ (List.mem_cons_of_mem _ List.mem_cons_self))))))) | exact (List.mem_cons_of_mem _ (List.mem_cons_of_mem _ (List.mem_cons_of_mem _ (List.mem_cons_of_mem _ (List.mem_cons_of_mem _ (List.mem_cons_of_mem _ (List.mem_cons_of_mem _ (List.mem_cons_of_mem _ List.mem_cons_self)))))))) | exact (List.mem_cons_of_mem _ (List.mem_cons_of_mem _ (List.mem_cons_of_mem _ (List.mem_cons_of_mem _ (List.mem_cons_of_mem _ (List.mem_cons_of_mem _ (List.mem_cons_of_mem _ (List.mem_cons_of_mem _ (List.mem_cons_of_mem _ List.mem_cons_self))))))))))) (hds : ds.length = sz := by exact rfl) (hpos : 0 < sz := by decide) (hby : by_ ≤ 10000 := by decide)
    (hd : Nat.blt d n = true := by exact rfl) :
    WPL P C n ops (⟨some d, .call ⟨.builtin .append, #[x, y], #[T, T]⟩, ty, pos, aft, none⟩ :: rest) K F H :=
  .perm hsp.perm (.appOwn hown hx hy (Spl.app _ _) hm hds hpos hl hby (fun s' H' h => .perm List.perm_append_comm (k s' H' h)) hd)
theorem Own.co {T : TypeId} {sz n0 : Nat} {cs : List SV} {s : SV} {Hs : LH} (h : Own T sz n0 cs s Hs) : CO s [s] := by
  obtain ⟨_, ⟨_, rfl, _⟩ | ⟨_, _, _, _, rfl, _⟩⟩ := h <;> exact co_one fun m v hv => by rw [lit_p] at hv; subst hv; exact ⟨rfl, rfl⟩
theorem ov_lenOwn {T e : TypeId} {sz n0 : Nat} {cs : List SV} {s : SV} {Hs : LH} {x : Operand} [hS : TSl P T e] (h : Own e sz n0 cs s Hs) (hx : ev F x = s) : OpV P (.call ⟨.builtin .len, #[x], #[T]⟩) ty F H (lit (.int .i64 n0)) := by
  obtain ⟨_, ⟨rfl, rfl, _⟩ | ⟨_, _, _, _, rfl, _⟩⟩ := h
  · exact ov_lenL hx
  · exact ov_lenL hx
end
def Hid (p : Prop) : Prop := p
theorem Hid.out {p : Prop} (h : Hid p) : p := h
theorem Le.tup {a b : List SV} (h : LeL a b) : Le (Ab.tup a) (Ab.tup b) := fun m v hv => by
  unfold Ab.tup at *
  obtain ⟨arr, e, k⟩ := hv
  exact ⟨arr, e, k.le h⟩
theorem Le.tup2 {a b a' b' : SV} (h1 : Le a a') (h2 : Le b b') : Le (Ab.tup [a, b]) (Ab.tup [a', b']) := Le.tup ⟨h1, h2, trivial⟩
theorem Le.tup3 {a b c a' b' c' : SV} (h1 : Le a a') (h2 : Le b b') (h3 : Le c c') : Le (Ab.tup [a, b, c]) (Ab.tup [a', b', c']) := Le.tup ⟨h1, h2, h3, trivial⟩
theorem Le.ag {a b : List SV} (h : LeL a b) : Le (Ab.ag a) (Ab.ag b) := fun m v hv => by
  unfold Ab.ag at *
  obtain ⟨arr, e, k⟩ := hv
  exact ⟨arr, e, k.le h⟩
section
variable {P : Program} {C : Ctx} {n : Nat} {F : Fr} {H : LH} {ops : Array Oper} {K : Fr → LH → Prop} {Q : Exit → Fr → LH → Prop}
theorem WPL.low {l : List Oper} {s s' : SV} (d : Nat) (hf : F d = s) (h : Le s s') (k : WPL P C n ops l K (upd F d s') H) : WPL P C n ops l K F H := WPL.le (LeF.upd (hf ▸ h) (LeF.refl F)) k
theorem WP.low {c : Code} {s s' : SV} (d : Nat) (hf : F d = s) (h : Le s s') (k : WP P C n c Q (upd F d s') H) : WP P C n c Q F H := WP.le (LeF.upd (hf ▸ h) (LeF.refl F)) k
theorem madd_new {m : Mem} {w : World} (hm : MemIn m w) {o : Obj} : MemIn (madd m w.heap.size o) (w.alloc o) ∧ Rel [] m w (madd m w.heap.size o) (w.alloc o) := by
  have hold : ∀ b, b < w.heap.size → (w.alloc o).heap[b]? = w.heap[b]? := fun b hb => heap_alloc_old w o b hb
  have hlt : ∀ b o, m b = some o → b < w.heap.size := fun b o hb => (Array.getElem?_eq_some_iff.1 (hm b o hb)).1
  have hle : m.le (madd m w.heap.size o) := fun b x hx => by unfold madd; rw [if_neg (by have := hlt b x hx; omega)]; exact hx
  refine ⟨⟨fun b x hx => ?_, Mem.le_trans hm.base hle⟩, ⟨hle, fun b hb _ => ?_, rfl, rfl, rfl, ?_, fun b hb _ => hold b hb⟩⟩
  · unfold madd at hx
    split at hx
    · rename_i e; subst e; cases hx; exact heap_alloc_new w o
    · rw [hold b (hlt b x hx)]; exact hm b x hx
  · unfold madd; rw [if_neg (by omega)]
  · have : (w.alloc o).heap.size = w.heap.size + 1 := World.size_alloc ..
    rw [this]; exact Nat.le_succ _
theorem ov_boxP {T ty : TypeId} {x : Operand} {sv : SV} {cs : List SV} (hx : ev F x = sv) [hco : CO sv cs] : OpV P (.box T x) ty F H (pt cs) := by
  refine OpV.of0 ?_
  intro m w o a ho hty h1 h2 h3 K Q hK
  have e0 := evA h3 (x := x) (by simp [Op.operands]); rw [hx] at e0
  have hc := hco.h m _ e0
  unfold Oper.wp
  have hrun : (execOp a.eval o).run P w = .ok (.value (.pointer (some ⟨w.heap.size, 0, none⟩))) (w.alloc (.cells (a.eval x).cells T)) := by
    simp [execOp, ho, Instr.box, newVar, newRow]
  rw [hrun]
  obtain ⟨q1, q2⟩ := madd_new h1 (o := .cells (a.eval x).cells T)
  exact hK _ _ _ (pub_pt _ _ (by unfold madd; rw [if_pos rfl]) (hc.mono q2.le)) q1 q2
theorem Wcg {d : Nat} {ty : TypeId} {pos : String} {aft : Array Edge} {rest : List Oper} {f : FuncId} {l : List Operand} {tys : Array TypeId} {svs : List SV} {res : SV} {j : Nat} {t : Bool} {oj : Oper} {dj : Nat} (hc : Pu P f svs res) (k : WPL P C n ops rest K (upd F d res) H)
    (ha : l.map (ev F) = svs := by exact rfl) (hj : ops[j]? = some oj := by exact rfl) (hdj : oj.dst = some dj := by exact rfl) (hf : F dj = lit (.bool t) := by exact rfl)
    (hdn : Nat.blt dj n = true := by exact rfl) (hd : Nat.blt d n = true := by exact rfl) : WPL P C n ops (⟨some d, .call ⟨.value (.func f), l.toArray, tys⟩, ty, pos, aft, some (j, t)⟩ :: rest) K F H :=
  Wog (ov_call hc ha) k hj hdj hf hdn hd
theorem WpubP {l : List Oper} {b : Nat} {T : TypeId} {cs : List SV} {H' : LH} (d : Nat) (hv : F d = lit (.pointer (some ⟨b, 0, none⟩))) (hdel : HDel b T cs H H')
    (h : WPL P C n ops l K (upd F d (pt cs)) H') : WPL P C n ops l K F H := WPL.pub hdel hv (fun m arr hm ha => pub_pt m arr hm ha) h
theorem Pu.le {f : FuncId} {l : List SV} {r r' : SV} (h : Pu P f l r) (k : Le r r') : Pu P f l r' := by
  unfold Pu at *
  exact ⟨h.1, fun m w vs hm ha => (h.2 m w vs hm ha).mono fun e w' ⟨v, m', e1, e2, e3, e4⟩ => ⟨v, m', e1, k m' v e2, e3, e4⟩⟩
end
section
variable {P : Program} {F : Fr} {H : LH} {ty : TypeId}
end
def bys (l : List UInt8) : List SV := l.map fun b => lit (.int .u8 (b.toNat : Nat))
theorem bys_len (l : List UInt8) : (bys l).length = l.length := by simp [bys]
theorem bys_append (a b : List UInt8) : bys (a ++ b) = bys a ++ bys b := by simp [bys]
def Byt (l : List UInt8) (s : SV) (H : LH) : Prop :=
  (l = [] ∧ s = lit (.slice none 0 0) ∧ H = []) ∨
    l ≠ [] ∧ ∃ b c, l.length ≤ c ∧ c ≤ maxLen ∧ s = lit (.slice (some ⟨b, 0, none⟩) l.length c) ∧ H = [(b, 5, bys l ++ List.replicate (c - l.length) top)]
theorem Byt.nil : Byt [] (lit (.slice none 0 0)) [] := .inl ⟨rfl, rfl, rfl⟩
theorem Byt.co {l : List UInt8} {s : SV} {H : LH} (h : Byt l s H) : CO s [s] := by
  rcases h with ⟨_, rfl, _⟩ | ⟨_, b, c, _, _, rfl, _⟩ <;> infer_instance
theorem strCells_bys {m : Mem} (l : List UInt8) : All2 m (bys l) (Lib.strCells ⟨l.toArray⟩) := by
  unfold bys Lib.strCells
  simp only [List.toList_toArray]
  induction l with
  | nil => trivial
  | cons b l ih => exact ⟨⟨by rw [lit_p], rfl⟩, ih⟩
section
variable {P : Program} {C : Ctx} {n : Nat} {F : Fr} {H : LH} {ops : Array Oper} {K : Fr → LH → Prop} {rest : List Oper} {ty : TypeId} {pos : String} {aft : Array Edge}
theorem run_append_nil_empty {P : Program} (w : World) (t u ty e : TypeId) (i : TypeInfo) (ht : P.underlying t = some (.slice e)) (hu : P.underlying u = some .string) (hi : P.info? e = some i) :
    (Builtin.append_ #[t, u] ty #[.slice none 0 0, .string ⟨#[]⟩]).run P w = .ok (.slice none 0 0) w := by
  simp [Builtin.append_, run_underlying ht, run_underlying hu, sizeOf, typeInfo, hi, Builtin.lenOf, Builtin.firstCells, ByteArray.size]
theorem WPL.appStr {T U : TypeId} [hS : TSl P T 5] {z : List SV} {g : Bool} [hT : TY P 5 1 1 z g] [hU : TSr P U] {d : Nat} {x y : Operand} {l t : List UInt8} {s : SV} {Hs Rs : LH}
    (hown : Byt l s Hs) (hx : ev F x = s) (hy : ev F y = str t) (hsp : H.Perm (Hs ++ Rs)) (hl : l.length + t.length ≤ 1000000000)
    (k : ∀ s' H', Byt (l ++ t) s' H' → WPL P C n ops rest K (upd F d s') (H' ++ Rs)) (hd : Nat.blt d n = true) :
    WPL P C n ops (⟨some d, .call ⟨.builtin .append, #[x, y], #[T, U]⟩, ty, pos, aft, none⟩ :: rest) K F H := by
  unfold WPL
  intro a w hs0 Q hq
  have hs := hs0.perm hsp
  refine wpList_plain rfl fun K' hK' => ?_
  obtain ⟨hdef, hn, m0, h10, h20, h30, h40, h50⟩ := id hs
  have hp0 : ∀ x, (ev F x).p m0 (a.eval x) := fun x => by
    cases x with
    | tmp t => exact h50 t
    | const v => unfold ev lit; rfl
    | global g => unfold ev lit; rfl
    | func f => unfold ev lit; rfl
  have e0 := hp0 x; rw [hx] at e0
  have e1 := hp0 y; rw [hy, lit_p] at e1
  obtain ⟨i, v, hi, hsz, hbyt, hz, hzl, hfl, hvs⟩ := hT.run_bytes
  have hexec : execOp a.eval (⟨some d, .call ⟨.builtin .append, #[x, y], #[T, U]⟩, ty, pos, aft, none⟩ : Oper) = (do let v ← Builtin.append_ #[T, U] ty #[a.eval x, a.eval y]; pure (.value v)) := by
    simp [execOp, resolve, invoke, builtin]
  have hss : (⟨t.toArray⟩ : ByteArray).size = t.length := ba_size t
  unfold Oper.wp
  rw [hexec, e1]
  rcases hown with ⟨rfl, rfl, rfl⟩ | ⟨hne, b, c, hnc, hcm, rfl, rfl⟩
  · rw [lit_p] at e0
    by_cases ht : t = []
    · subst ht
      have hrun := run_append_nil_empty (P := P) w T U ty 5 i hS.h hU.h hi
      rw [e0]
      simp only [Sem.run_bind, hrun, Result.andThen_ok, Sem.run_pure]
      have h := k (lit (.slice none 0 0)) [] Byt.nil
      unfold WPL at h
      refine hK' _ _ (h (a.put (some d) (.slice none 0 0)) w ⟨hdef, by simpa [Act.put] using hn, m0, h10, h20, h30, h40, fun t => ?_⟩ Q hq)
      rw [getD_put (Nat.lt_of_lt_of_le (Nat.blt_eq.mp hd) hn)]
      unfold Ab.upd
      by_cases ht : t = d
      · subst ht; rw [if_pos rfl, Nat.beq_refl]; exact lit_p.2 rfl
      · rw [if_neg ht]
        have : Nat.beq t d = false := by
          cases hbb : Nat.beq t d with
          | false => rfl
          | true => exact absurd (Nat.eq_of_beq_eq_true hbb) ht
        rw [this]
        exact h50 t
    · have hpos : 0 < t.length := List.length_pos_iff.2 ht
      have hrun := run_append_nil_string (P := P) w T U ty 5 i v hS.h hU.h hi hz ⟨t.toArray⟩ (by omega) (by rw [hss]; simp only [List.length_nil] at hl; omega) (by rw [hss, hbyt]; simp only [List.length_nil] at hl; omega)
      rw [hss] at hrun
      rw [e0]
      simp only [Sem.run_bind, hrun, Result.andThen_ok, Sem.run_pure]
      have hge := grownCap_ge w t.length 0 5
      have hle := grownCap_le_maxLen w t.length 0 5 (by simp only [maxLen]; simp only [List.length_nil] at hl; omega)
      have h := k (lit (.slice (some ⟨w.heap.size, 0, none⟩) t.length (grownCap w t.length 0 5))) [(w.heap.size, 5, bys t ++ List.replicate (grownCap w t.length 0 5 - t.length) top)] (.inr ⟨ht, _, _, hge, hle, rfl, rfl⟩)
      unfold WPL at h
      refine hK' _ _ (h _ _ (St.pushD (Nat.blt_eq.mp hd) hs fun m h1 h2 _ => ?_) Q hq)
      have e2 : (Array.map (fun b : UInt8 => Value.int .u8 b.toNat) (⟨t.toArray⟩ : ByteArray).data ++ Builtin.zeroCells v.cells (grownCap w t.length 0 5 - t.length)).toList = Lib.strCells ⟨t.toArray⟩ ++ (Builtin.zeroCells v.cells (grownCap w t.length 0 5 - t.length)).toList := by
        simp [Lib.strCells]
      rw [e2]
      refine (strCells_bys t).append (All2.topL ?_ (zeroCells_one hfl))
      rw [Array.length_toList, size_zeroCells, hvs, Nat.mul_one]
  · rw [lit_p] at e0
    obtain ⟨hmb, arr, hb, hall⟩ := h20.2 _ (List.mem_append_left Rs (List.mem_singleton.2 rfl))
    have hlen := hall.length
    simp only [List.length_append, List.length_replicate, bys_len, Array.length_toList] at hlen
    have getc : ∀ m, HOk m w ([(b, 5, bys l ++ List.replicate (c - l.length) top)] ++ Rs) → All2 m (bys l ++ List.replicate (c - l.length) top) arr.toList := fun m h2 => by
      obtain ⟨_, arr', hb', hall'⟩ := h2.2 _ (List.mem_append_left Rs (List.mem_singleton.2 rfl))
      rw [hb] at hb'
      simp only [Option.some.injEq, Obj.cells.injEq] at hb'
      obtain ⟨rfl, _⟩ := hb'
      exact hall'
    have hne' : l ++ t ≠ [] := fun e => hne (List.append_eq_nil_iff.1 e).1
    by_cases hroom : l.length + t.length ≤ c
    · have hrun := Lib.run_append_room_string (P := P) w T U ty 5 i hS.h hU.h hi hsz b l.length c arr hb ⟨t.toArray⟩ (by rw [hss]; exact hroom) (by rw [hss]; omega)
      rw [hss] at hrun
      rw [e0]
      simp only [Sem.run_bind, hrun, Result.andThen_ok, Sem.run_pure]
      have h := k (lit (.slice (some ⟨b, 0, none⟩) (l.length + t.length) c)) [(b, 5, bys (l ++ t) ++ List.replicate (c - (l ++ t).length) top)] (.inr ⟨hne', _, _, by rw [List.length_append]; exact hroom, hcm, by rw [List.length_append], rfl⟩)
      unfold WPL at h
      have hfin : All2 m0 (bys (l ++ t) ++ List.replicate (c - (l ++ t).length) top) (arr.toList.take l.length ++ Lib.strCells ⟨t.toArray⟩ ++ arr.toList.drop (l.length + t.length)).toArray.toList := by
        obtain ⟨q1, q2⟩ := (getc m0 h20).split
        rw [bys_len] at q1 q2
        rw [List.toList_toArray, bys_append]
        refine (q1.append (strCells_bys t)).append (All2.topL ?_ fun u hu => ?_)
        · rw [List.length_drop, Array.length_toList, List.length_append]; omega
        · exact hall.flat u (List.mem_of_mem_drop hu)
      obtain ⟨q1, q2, q3, q4⟩ := write_ok (w' := w.setRow b (arr.toList.take l.length ++ Lib.strCells ⟨t.toArray⟩ ++ arr.toList.drop (l.length + t.length)).toArray) h10 h20 h30 h40 (.here Rs)
        (setRow_heap w b arr _ 5 _ hb) (fun j hj => setRow_other w b j _ hj) rfl rfl rfl (by simp) hfin
      refine hK' _ _ (h (a.put (some d) (.slice (some ⟨b, 0, none⟩) (l.length + t.length) c)) _ ⟨hdef, by simpa [Act.put] using hn, m0, q1, q2, q3, q4, fun t => ?_⟩ Q hq)
      rw [getD_put (Nat.lt_of_lt_of_le (Nat.blt_eq.mp hd) hn)]
      unfold Ab.upd
      by_cases ht : t = d
      · subst ht; rw [if_pos rfl, Nat.beq_refl]; exact lit_p.2 rfl
      · rw [if_neg ht]
        have : Nat.beq t d = false := by
          cases hbb : Nat.beq t d with
          | false => rfl
          | true => exact absurd (Nat.eq_of_beq_eq_true hbb) ht
        rw [this]
        exact h50 t
    · have hxs : ∀ j u, (arr.toList.take l.length)[j]? = some u → w.cell? ((⟨b, 0, none⟩ : Addr).add j) = some u := fun j u hj => by
        rw [add_none, cell_of w b _ arr _ _ hb]
        rw [List.getElem?_take] at hj
        split at hj
        · simpa using hj
        · cases hj
      have hrun := Lib.run_append_grow_string (P := P) w T U ty 5 i v hS.h hU.h hi hz ⟨b, 0, none⟩ l.length c (arr.toList.take l.length) (by rw [List.length_take, Array.length_toList (xs := arr), hsz]; omega) hxs ⟨t.toArray⟩
        (by rw [hss]; omega) (by rw [hss]; omega) (growslice_fits (by rw [hss]; omega) (by rw [hss, hbyt]; omega))
      rw [hss] at hrun
      rw [e0]
      simp only [Sem.run_bind, hrun, Result.andThen_ok, Sem.run_pure]
      have hge := grownCap_ge w (l.length + t.length) c 5
      have hle := grownCap_le_maxLen w (l.length + t.length) c 5 (by simp only [maxLen]; omega)
      have h := k (lit (.slice (some ⟨w.heap.size, 0, none⟩) (l.length + t.length) (grownCap w (l.length + t.length) c 5))) [(w.heap.size, 5, bys (l ++ t) ++ List.replicate (grownCap w (l.length + t.length) c 5 - (l ++ t).length) top)]
        (.inr ⟨hne', _, _, by rw [List.length_append]; exact hge, hle, by rw [List.length_append], rfl⟩)
      unfold WPL at h
      have hst := St.pushD (d := d) (cs := bys (l ++ t) ++ List.replicate (grownCap w (l.length + t.length) c 5 - (l ++ t).length) top) (v := .slice (some ⟨w.heap.size, 0, none⟩) (l.length + t.length) (grownCap w (l.length + t.length) c 5)) (T := 5)
        (arr := (arr.toList.take l.length).toArray ++ (Lib.strCells ⟨t.toArray⟩).toArray ++ Builtin.zeroCells v.cells (grownCap w (l.length + t.length) c 5 - (l.length + t.length))) (Nat.blt_eq.mp hd) hs fun m h1 h2 _ => ?_
      · refine hK' _ _ (h _ _ ?_ Q hq)
        exact hst.drop (.there _ (.here _))
      · simp only [Array.toList_append, List.toList_toArray]
        obtain ⟨q1, _⟩ := (getc m h2).split
        rw [bys_len] at q1
        rw [bys_append]
        refine (q1.append (strCells_bys t)).append (All2.topL ?_ (zeroCells_one hfl))
        rw [Array.length_toList, size_zeroCells, hvs, Nat.mul_one, List.length_append]
theorem ov_pneS {T te T' : TypeId} [hp : TPt P T te] {x y : Operand} {a : Addr} (hi : (P.info? te).isSome = true) (hx : ev F x = lit (.pointer (some a))) (hy : ev F y = lit (.pointer (some a))) : OpV P (.binOp .neq T x y T') ty F H (lit (.bool false)) := by
  obtain ⟨j, hj⟩ := Option.isSome_iff_exists.1 hi
  exact ov_bin hx hy (fun w => Lib.run_neq_ptr_same w a hp.h hj) (fun w => by simp [Go.eqGuard])
theorem shape_of {m : Mem} {w : World} {b : Nat} {T : TypeId} {cs : List SV} (h : CellsOk m w b T cs) : w.shape? b = some (T, cs.length) := by
  obtain ⟨arr, hb, hall⟩ := h
  have := hall.length
  simp only [Array.length_toList] at this
  simp [World.shape?, hb, this]
theorem ov_toUns {S D t T : TypeId} [hs : TPt P S t] {x : Operand} {b o : Nat} {cs : List SV} (hd : P.underlying D = some .unsafePointer) (ht : (P.info? t).any (fun j => !(j.size == 0)) = true) (hm : (b, T, cs) ∈ H) (ho : Nat.blt o cs.length = true)
    (hx : ev F x = lit (.pointer (some ⟨b, o, none⟩))) : OpV P (.convert S D x) ty F H (lit (.pointer (some ⟨b, o, none⟩))) :=
  OpV.pure fun m w c a hop _ _ hH h => by
    have h0 := h x (by simp [Op.operands]); rw [hx, lit_p] at h0
    have hsh := shape_of (hH.2 _ hm).2
    cases hi : P.info? t with
    | none => rw [hi] at ht; cases ht
    | some j =>
      rw [hi] at ht
      have hj : j.size ≠ 0 := by simpa using ht
      have := Lib.run_to_unsafe (P := P) w ⟨b, o, none⟩ hs.h hd hi hj hsh (Nat.blt_eq.mp ho)
      exact ⟨_, by simp [execOp, hop, h0, this], lit_p.2 rfl⟩
theorem ov_ofUns {S D u T : TypeId} [hd : TPt P D u] {x : Operand} {b o : Nat} {cs : List SV} (hs : P.underlying S = some .unsafePointer) (hu : (P.info? u).isSome = true) (hm : (b, T, cs) ∈ H) (hl : liesAt P P.depth T (cs.length / P.cellsOf T) o u 1 = true)
    (hx : ev F x = lit (.pointer (some ⟨b, o, none⟩))) : OpV P (.convert S D x) ty F H (lit (.pointer (some ⟨b, o, none⟩))) :=
  OpV.pure fun m w c a hop _ _ hH h => by
    have h0 := h x (by simp [Op.operands]); rw [hx, lit_p] at h0
    have hsh := shape_of (hH.2 _ hm).2
    obtain ⟨j, hj⟩ := Option.isSome_iff_exists.1 hu
    have := Lib.run_from_unsafe (P := P) w ⟨b, o, none⟩ hs hd.h hj hsh hl
    exact ⟨_, by simp [execOp, hop, h0, this], lit_p.2 rfl⟩
end
section
variable {F : Fr} {H : LH} {ty : TypeId}
theorem ov_noEsc {x : Operand} {s : SV} {tys : Array TypeId} (hx : ev F x = s) : OpV Tryz.prog (.call ⟨.value (.func 219), [x].toArray, tys⟩) ty F H s :=
  OpV.pure fun m w o a ho _ _ _ h => by
    have h0 := h x (by simp [Op.operands, Call.operands]); rw [hx] at h0
    have h8 := @run_callFunc_extern Tryz.prog 219 _ Extern.AbiNoEscape.same Tryz.func219 (by kernel_rfl) (by kernel_rfl) (by kernel_rfl) (by kernel_rfl)
    refine ⟨_, ?_, h0⟩
    have := h8 #[a.eval x] w
    rw [Lib.run_noEscape] at this
    simp only [execOp, ho, resolve, Sem.run_bind, Sem.run_pure, Result.andThen_ok]
    have e1 : a.eval (.func 219) = .func (.func 219) #[] #[] := rfl
    simp only [e1, Deferred.ofValue, Sem.run_pure, Result.andThen_ok, invoke, List.map_toArray, List.map_cons, List.map_nil, Array.empty_append, Array.append_empty, this]
end
abbrev wrC (a s : SV) (d : Nat) (lg : Bool) : List SV := [a, s, lit (.int .i64 (d : Int)), lit (.bool lg)]
abbrev self (w : Nat) : SV := lit (.pointer (some ⟨w, 0, none⟩))
abbrev fresh : SV := lit (.pointer none)
section
variable {P : Program} {C : Ctx} {n : Nat} {F : Fr} {H : LH} {ops : Array Oper} {K : Fr → LH → Prop} {rest : List Oper} {ty : TypeId} {pos : String} {aft : Array Edge}
theorem end0 : Ends P [] (Ab.tup []) F H := ⟨[], trivial, Le.refl _⟩
theorem WfH {f : FuncId} {d : Nat} {l : List Operand} {tys : Array TypeId} {svs : List SV} {Hin Rs : LH} {R : SV → LH → Prop} (hc : PuH P f svs Hin R noX) (k : ∀ res H', R res H' → WPL P C n ops rest K (upd F d res) (H' ++ Rs))
    (ha : l.map (ev F) = svs := by exact rfl) (hs : Tk H Hin Rs := by (repeat (first | exact Tk.nil _ | exact Tk.same _ | (apply Tk.cons; (first | exact (HDel.here _) | exact (HDel.there _ (HDel.here _)) | exact (HDel.there _ (HDel.there _ (HDel.here _))) | exact (HDel.there _ (HDel.there _ (HDel.there _ (HDel.here _)))))) | apply Tk.skip))) (hd : Nat.blt d n = true := by exact rfl) :
    WPL P C n ops (⟨some d, .call ⟨.value (.func f), l.toArray, tys⟩, ty, pos, aft, none⟩ :: rest) K F H :=
  .perm hs.perm (.callH (s := lit (.func (.func f) #[] #[])) (first := []) (caps := []) rfl hc (Spl.app _ _) (by rw [List.nil_append, List.append_nil]; exact ha) hd (fun res H' h => k res H' h) fun _ _ h => h.elim)
end
theorem copyCheck_f (w : Nat) (s : SV) (d : Nat) (lg : Bool) : PuH Tryz.prog 166 [lit (.pointer (some ⟨w, 0, none⟩))] [(w, 201, wrC fresh s d lg)]
    (fun r H => r = Ab.tup [] ∧ H = [(w, 201, wrC (self w) s d lg)]) noX := by
  refine PuH.intro Tryz.func166 rfl (by kernel_rfl) fun C hC => ?_
  repeat (refine A1 ⟨?_⟩; intros)
  refine Wo (ov_toUns (by kernel_rfl) (by kernel_rfl) (by repeat (first | exact List.mem_cons_self | apply List.mem_cons_of_mem)) (by kernel_rfl) rfl) ?_
  refine Wo (ov_noEsc (s := lit (.pointer (some ⟨w, 0, none⟩))) rfl) ?_
  refine Wo (ov_ofUns (by kernel_rfl) (by kernel_rfl) (by repeat (first | exact List.mem_cons_self | apply List.mem_cons_of_mem)) (by kernel_rfl) rfl) ?_
  repeat (refine A1 ⟨?_⟩; intros)
  exact endHN _ _ end0 (List.Sublist.refl _) ⟨rfl, rfl⟩
theorem copyCheck_s (w : Nat) (s : SV) (d : Nat) (lg : Bool) : PuH Tryz.prog 166 [lit (.pointer (some ⟨w, 0, none⟩))] [(w, 201, wrC (self w) s d lg)]
    (fun r H => r = Ab.tup [] ∧ H = [(w, 201, wrC (self w) s d lg)]) noX := by
  refine PuH.intro Tryz.func166 rfl (by kernel_rfl) fun C hC => ?_
  repeat (refine A1 ⟨?_⟩; intros)
  refine Wo (ov_pneS (by kernel_rfl) rfl rfl) ?_
  repeat (refine A1 ⟨?_⟩; intros)
  exact endHN _ _ end0 (List.Sublist.refl _) ⟨rfl, rfl⟩
theorem copyCheck_pu {a : SV} {w : Nat} (ha : a = fresh ∨ a = self w) (s : SV) (d : Nat) (lg : Bool) : PuH Tryz.prog 166 [lit (.pointer (some ⟨w, 0, none⟩))] [(w, 201, wrC a s d lg)]
    (fun r H => r = Ab.tup [] ∧ H = [(w, 201, wrC (self w) s d lg)]) noX := by
  rcases ha with rfl | rfl
  · exact copyCheck_f w s d lg
  · exact copyCheck_s w s d lg
theorem writeString_pu {a : SV} {w : Nat} (ha : a = fresh ∨ a = self w) {l : List UInt8} {s : SV} {Hb : LH} (hb : Byt l s Hb) (t : List UInt8) (hl : l.length + t.length ≤ 1000000000) (d : Nat) (lg : Bool) :
    PuH Tryz.prog 118 [lit (.pointer (some ⟨w, 0, none⟩)), str t] ((w, 201, wrC a s d lg) :: Hb)
      (fun r H => ∃ s' Hb', Byt (l ++ t) s' Hb' ∧ r = Ab.tup [lit (.int .i64 (t.length : Int)), lit .nilIface] ∧ H = (w, 201, wrC (self w) s' d lg) :: Hb') noX := by
  haveI := hb.co
  refine PuH.intro Tryz.func118 rfl (by kernel_rfl) fun C hC => ?_
  repeat (refine A1 ⟨?_⟩; intros)
  refine WfH (copyCheck_pu ha s d lg) ?_
  rintro _ _ ⟨rfl, rfl⟩
  simp only [List.cons_append, List.nil_append]
  repeat (refine A1 ⟨?_⟩; intros)
  refine WPL.appStr hb rfl rfl (List.perm_append_comm (l₁ := [_])) hl ?_ rfl
  intro s' Hb' hb'
  haveI := hb'.co
  refine WPL.perm List.perm_append_comm ?_
  simp only [List.cons_append, List.nil_append]
  repeat (refine A1 ⟨?_⟩; intros)
  refine WPL.store (b := w) (o := 1) (sv := s') (cs' := wrC (self w) s' d lg) rfl rfl rfl (.here _) rfl rfl ?_
  repeat (refine A1 ⟨?_⟩; intros)
  exact endHR _ _ (end2 (RV.tmp rfl) (RV.tmp rfl) (Le.refl _)) (List.Sublist.refl _) ⟨s', Hb', hb', rfl, rfl⟩
theorem put1_pu {a : SV} {w b : Nat} (ha : a = fresh ∨ a = self w) {l : List UInt8} {s : SV} {Hb : LH} (hb : Byt l s Hb) (t : List UInt8) (hl : l.length + t.length ≤ 1000000000) (d : Nat) (lg : Bool) :
    PuH Tryz.prog 65 [lit (.pointer (some ⟨w, 0, none⟩)), lit (.slice (some ⟨b, 0, none⟩) 1 1)] ((b, 9, [str t]) :: (w, 201, wrC a s d lg) :: Hb)
      (fun r H => ∃ s' Hb', Byt (l ++ t) s' Hb' ∧ r = Ab.tup [] ∧ H = (w, 201, wrC (self w) s' d lg) :: Hb') noX := by
  refine PuH.intro Tryz.func65 rfl (by kernel_rfl) fun C hC => ?_
  repeat (refine A1 ⟨?_⟩; intros)
  refine WP.unroll 2 ?_
  refine WPR.succ ?_
  repeat (refine A1 ⟨?_⟩; intros)
  refine WfT (writeString_pu ha hb t hl d lg) ?_
  rintro _ _ ⟨s', Hb', hb', rfl, rfl⟩
  simp only [List.cons_append, List.nil_append]
  repeat (refine A1 ⟨?_⟩; intros)
  exact endHN _ _ end0 (List.Sublist.cons _ (List.Sublist.refl _)) ⟨s', Hb', hb', rfl, rfl⟩
abbrev inval : SV := lit (.iface 194 (.agg #[]))
theorem le_inval : Le (ifc 194 (ag [])) inval := fun m v h => by
  unfold ifc at h
  obtain ⟨u, rfl, hu⟩ := h
  unfold ag at hu
  obtain ⟨arr, rfl, hall⟩ := hu
  rw [lit_p]
  cases arr with
  | mk l => cases l with
    | nil => rfl
    | cons _ _ => exact hall.elim
theorem need_pu (b : Bool) : PuH Tryz.prog 63 [lit (.bool b)] [] (fun r H => b = true ∧ r = Ab.tup [] ∧ H = []) (fun pv H => b = false ∧ pv = inval ∧ H = []) := by
  cases b with
  | true =>
    refine PuH.intro Tryz.func63 rfl (by kernel_rfl) fun C hC => ?_
    repeat (refine A1 ⟨?_⟩; intros)
    exact endHN _ _ end0 (List.Sublist.refl _) ⟨rfl, rfl, rfl⟩
  | false =>
    refine PuH.intro Tryz.func63 rfl (by kernel_rfl) fun C hC => ?_
    repeat (refine A1 ⟨?_⟩; intros)
    refine WPL.low 5 rfl le_inval ?_
    refine Wpan ?_
    rw [hC]
    exact ⟨rfl, rfl, rfl⟩
section
variable {P : Program} {C : Ctx} {n : Nat} {F : Fr} {H : LH} {ops : Array Oper} {K : Fr → LH → Prop} {rest : List Oper} {ty : TypeId} {pos : String} {aft : Array Edge}
theorem WfX {f : FuncId} {d : Nat} {l : List Operand} {tys : Array TypeId} {svs : List SV} {Hin Rs : LH} {R X : SV → LH → Prop} (hc : PuH P f svs Hin R X) (k : ∀ res H', R res H' → WPL P C n ops rest K (upd F d res) (Rs ++ H')) (kx : ∀ pv H', X pv H' → C.pan pv (H' ++ Rs))
    (ha : l.map (ev F) = svs := by exact rfl) (hs : Tk H Hin Rs := by (repeat (first | exact Tk.nil _ | exact Tk.same _ | (apply Tk.cons; (first | exact (HDel.here _) | exact (HDel.there _ (HDel.here _)) | exact (HDel.there _ (HDel.there _ (HDel.here _))) | exact (HDel.there _ (HDel.there _ (HDel.there _ (HDel.here _)))) | exact (HDel.there _ (HDel.there _ (HDel.there _ (HDel.there _ (HDel.here _))))))) | apply Tk.skip))) (hd : Nat.blt d n = true := by exact rfl) :
    WPL P C n ops (⟨some d, .call ⟨.value (.func f), l.toArray, tys⟩, ty, pos, aft, none⟩ :: rest) K F H :=
  .perm hs.perm (.callH (s := lit (.func (.func f) #[] #[])) (first := []) (caps := []) rfl hc (Spl.app _ _) (by rw [List.nil_append, List.append_nil]; exact ha) hd (fun res H' h => .perm List.perm_append_comm (k res H' h)) fun pv H' h => kx pv H' h)
end
theorem Wneed {C : Ctx} {n : Nat} {F : Fr} {H : LH} {ops : Array Oper} {K : Fr → LH → Prop} {rest : List Oper} {ty : TypeId} {pos : String} {aft : Array Edge} {d : Nat} {x : Operand} {tys : Array TypeId} {b : Bool}
    (h1 : b = true → WPL Tryz.prog C n ops rest K (upd F d (Ab.tup [])) H) (h2 : b = false → C.pan inval H) (hx : ev F x = lit (.bool b) := by exact rfl) (hd : Nat.blt d n = true := by exact rfl) :
    WPL Tryz.prog C n ops (⟨some d, .call ⟨.value (.func 63), [x].toArray, tys⟩, ty, pos, aft, none⟩ :: rest) K F H := by
  refine WfX (need_pu b) (Rs := H) (fun res H' h => ?_) (fun pv H' h => ?_) (by rw [← hx]; rfl) (.nil _) hd
  · obtain ⟨hb, rfl, rfl⟩ := h
    rw [List.append_nil]
    exact h1 hb
  · obtain ⟨hb, rfl, rfl⟩ := h
    rw [List.nil_append]
    exact h2 hb
theorem WneedT {C : Ctx} {n : Nat} {F : Fr} {H : LH} {ops : Array Oper} {K : Fr → LH → Prop} {rest : List Oper} {ty : TypeId} {pos : String} {aft : Array Edge} {d : Nat} {x : Operand} {tys : Array TypeId}
    (h1 : WPL Tryz.prog C n ops rest K (upd F d (Ab.tup [])) H) (hx : ev F x = lit (.bool true) := by exact rfl) (hd : Nat.blt d n = true := by exact rfl) :
    WPL Tryz.prog C n ops (⟨some d, .call ⟨.value (.func 63), [x].toArray, tys⟩, ty, pos, aft, none⟩ :: rest) K F H := Wneed (fun _ => h1) (fun h => by cases h) hx hd
theorem WneedF {C : Ctx} {n : Nat} {F : Fr} {H : LH} {ops : Array Oper} {K : Fr → LH → Prop} {rest : List Oper} {ty : TypeId} {pos : String} {aft : Array Edge} {d : Nat} {x : Operand} {tys : Array TypeId}
    (h2 : C.pan inval H) (hx : ev F x = lit (.bool false) := by exact rfl) (hd : Nat.blt d n = true := by exact rfl) :
    WPL Tryz.prog C n ops (⟨some d, .call ⟨.value (.func 63), [x].toArray, tys⟩, ty, pos, aft, none⟩ :: rest) K F H := Wneed (fun h => by cases h) (fun _ => h2) hx hd
section
variable {P : Program} {C : Ctx} {n : Nat} {F : Fr} {H : LH} {ops : Array Oper} {K : Fr → LH → Prop} {Q : Exit → Fr → LH → Prop}
theorem St.sub {H' : LH} {a : Act} {w : World} (hs : St C n F H a w) (h : H'.Sublist H) : St C n F H' a w := by
  obtain ⟨hdef, hn, m, h1, h2, h3, h4, h5⟩ := hs
  exact ⟨hdef, hn, m, h1, ⟨(h.map _).nodup h2.1, fun e he => h2.2 e (h.subset he)⟩, h3, fun e he => h4 e (h.subset he), h5⟩
theorem WP.sub {c : Code} {H' : LH} (h : H'.Sublist H) (k : WP P C n c Q F H') : WP P C n c Q F H := by
  unfold WP at *; exact fun a w hs => k a w (hs.sub h)
theorem WP.loopS {ι : Type} {c : Code} (J : ι → Prop) (μ : ι → Nat) (G : ι → Fr) (L : ι → LH) (x0 : ι) (h0 : J x0) (hF : LeF F (G x0)) (hH : (L x0).Sublist H)
    (round : ∀ x, J x → ∀ K : Fr → LH → Prop, (∀ F' H' x', J x' → μ x' < μ x → LeF F' (G x') → (L x').Sublist H' → K F' H') → WP P C n c (thenQ K Q) (G x) (L x)) :
    WP P C n (.loop c) Q F H := by
  refine WP.sub hH (WP.le hF ?_)
  unfold WP
  intro a w hs
  refine wp_loop_ghost (fun k a w => ∃ x, μ x = k ∧ J x ∧ St C n (G x) (L x) a w) (μ x0) ⟨x0, rfl, h0, hs⟩ ?_
  rintro k a w ⟨x, rfl, hJ, hs⟩
  have hr := round x hJ (fun F' H' => ∃ x', J x' ∧ μ x' < μ x ∧ LeF F' (G x') ∧ (L x').Sublist H') (fun F' H' x' a b c d => ⟨x', a, b, c, d⟩)
  unfold WP at hr
  refine wp_mono (hr a w hs) ?_
  rintro e a' w' (⟨F', H', hs', hq⟩ | ⟨ch, rfl, hp⟩)
  · unfold thenQ at hq
    cases e with
    | normal =>
      obtain ⟨x', hJ', hμ, hF', hH'⟩ := hq
      exact ⟨μ x', hμ, x', rfl, hJ', (hs'.le hF').sub hH'⟩
    | _ => exact .inl ⟨F', H', hs', hq⟩
  · exact .inr ⟨ch, rfl, hp⟩
theorem WpubS {l : List Oper} {b : Nat} {T : TypeId} {cs : List SV} {H' : LH} {k c : Nat} (d : Nat) (hv : F d = lit (.slice (some ⟨b, 0, none⟩) k c)) (hdel : HDel b T cs H H') (hc : k ≤ c) (hc' : c ≤ 1000000000)
    (h : WPL P C n ops l K (upd F d (sl cs k)) H') : WPL P C n ops l K F H :=
  WPL.pub hdel hv (fun m arr hm ha => pub_sl hc (by omega) m arr hm ha) h
theorem WgE {d : Option Nat} {op : Op} {ty : TypeId} {pos : String} {aft : Array Edge} {rest : List Oper} {K : Fr → LH → Prop} {j : Nat} {t : Bool} {oj : Oper} {dj : Nat} (k : WPL P C n ops (⟨d, op, ty, pos, aft, none⟩ :: rest) K F H)
    (hj : ops[j]? = some oj := by exact rfl) (hdj : oj.dst = some dj := by exact rfl) (hf : F dj = lit (.bool t) := by exact rfl) (hdn : Nat.blt dj n = true := by exact rfl) : WPL P C n ops (⟨d, op, ty, pos, aft, some (j, t)⟩ :: rest) K F H := by
  unfold WPL at *
  intro a w hs Q hq
  have hy := yielded_of hs hj hdj hf hdn
  have h := k a w hs Q hq
  unfold wpList at h ⊢
  have h1 : Region.wanted (⟨d, op, ty, pos, aft, none⟩ : Oper) (yielded ops a.tmps) = true := rfl
  have h2 : Region.wanted (⟨d, op, ty, pos, aft, some (j, t)⟩ : Oper) (yielded ops a.tmps) = true := by simp [Region.wanted, hy]
  rw [if_pos h1] at h
  rw [if_pos h2]
  exact h
end
theorem flat_at {α β : Type} {f : α → List β} {n : Nat} (hf : ∀ a, (f a).length = n) : ∀ {l : List α} {k : Nat} {a : α}, l[k]? = some a → (((l.map f).flatten).drop (k * n)).take n = f a
  | [], _, _, h => by simp at h
  | x :: l, 0, a, h => by
    simp at h; subst h
    simp [hf x]
  | x :: l, k + 1, a, h => by
    have := flat_at hf (l := l) (k := k) (a := a) (by simpa using h)
    rw [List.map_cons, List.flatten_cons, show (k + 1) * n = (f x).length + k * n from by rw [hf, Nat.add_mul, Nat.one_mul, Nat.add_comm], List.drop_append, List.drop_eq_nil_of_le (Nat.le_add_right _ _), List.nil_append, Nat.add_sub_cancel_left]
    exact this
theorem flat_ne {α β : Type} {f : α → List β} {n : Nat} (hf : ∀ a, (f a).length = n) (hn : 0 < n) {l : List α} (h : l ≠ []) : (l.map f).flatten ≠ [] := by
  cases l with
  | nil => exact absurd rfl h
  | cons x l =>
    intro e
    have := congrArg List.length e
    simp [hf x] at this; omega
end Go.Ab
