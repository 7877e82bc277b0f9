/- Texts laid one behind the other: RefF, Txt, FmtN, FracE, RefH, Geo, Ref1, Ref4, Tape, Scene1, Law26A, TxtB, Err. -/
import Derived.Test.YtijejidpcfgioaaGreatDoorB11
import Derived.Test.YtijejidpcfgioaaGreatDoorFracD
import Derived.Test.YtijejidpcfgioaaGreatDoorB04
import Derived.Test.YtijejidpcfgioaaGreatDoorRefL
import Derived.Laws.IdiomStrings
import Derived.Test.YtijejidpcfgioaaGreatDoorB05
import Derived.Test.YtijejidpcfgioaaGreatDoorB07
import Derived.Laws.Externs
/- The reference's rationals: sums and products. -/
namespace Go.Ab
open Go.Proofs
set_option linter.unusedSectionVars false
set_option linter.unusedVariables false
set_option linter.unusedSimpArgs false
variable [Base]
theorem dden_len {d : Nat} (h : d ≠ 0) : d ≠ 1 → (dden d).length ≠ 0 := fun h1 => by rw [dden_ne h1]; exact dgs_ne_nil h
theorem dden_len1 {d : Nat} (h : d = 1) : (dden d).length = 0 := by rw [h, dden_one]; rfl
end Go.Ab
/- Decimal texts of numbers: the reference's. -/
namespace Go.Ab
open Go.Proofs
set_option linter.unusedSectionVars false
set_option linter.unusedVariables false
set_option linter.unusedSimpArgs false
variable [Base]
/-- the decimal digits, the last one first -/
def decR (n : Nat) : List UInt8 := if h : n = 0 then [] else UInt8.ofNat (48 + n % 10) :: decR (n / 10)
termination_by n
decreasing_by omega
theorem decR_zero : decR 0 = [] := by rw [decR]; rfl
theorem decR_pos {n : Nat} (h : n ≠ 0) : decR n = UInt8.ofNat (48 + n % 10) :: decR (n / 10) := by
  conv => lhs; rw [decR]
  rw [dif_neg h]
def dec (n : Nat) : List UInt8 := if n = 0 then [48] else (decR n).reverse
section
variable {P : Program} {F : Fr} {H : LH} {ty : TypeId}
/-- bytes of a local block as a text -/
theorem ov_bytesStr {S D : TypeId} [hS : TSl P S 5] [hD : TSr P D] {x : Operand} {b c : Nat} {l : List UInt8} {rest : List SV} (hu : P.underlying 5 = some (.int .u8)) {cs : List SV} (hx : ev F x = lit (.slice (some ⟨b, 0, none⟩) l.length c)) (hm : (b, 5, cs) ∈ H) (hle : LeL cs (bys l ++ rest)) : OpV P (.convert S D x) ty F H (str l) :=
  OpV.pure fun m w o a hop _ _ hH h => by
    have h0 := h x (by simp [Op.operands]); rw [hx, lit_p] at h0
    obtain ⟨_, arr, hb, hall0⟩ := hH.2 _ hm
    have hall := All2.le hle hall0
    have hcell : ∀ j y, l[j]? = some y → w.cell? ((⟨b, 0, none⟩ : Addr).add j) = some (.int .u8 y.toNat) := fun j y hj => by
      rw [add_none, cell_of w b _ arr _ _ hb]
      have hjl : j < l.length := (List.getElem?_eq_some_iff.1 hj).1
      have hg : (bys l ++ rest)[j]? = some (lit (.int .u8 (y.toNat : Nat))) := by
        rw [List.getElem?_append_left (by rw [bys_len]; exact hjl)]
        simp [bys, hj]
      obtain ⟨v, hv, hp, _⟩ := hall.get hg
      rw [lit_p] at hp
      subst hp
      simpa using hv
    have := run_convert_bytes_back (P := P) w S D 5 ⟨b, 0, none⟩ c l hS.h hu hD.h fun j hj => hcell j l[j] (List.getElem?_eq_getElem hj)
    exact ⟨_, by simp [execOp, hop, h0, this], lit_p.2 rfl⟩
end
theorem le1 {x : Int} {b : UInt8} (h : x = (b.toNat : Nat)) : LeL [lit (.int .u8 x)] (bys [b] ++ []) := ⟨Le.int h, trivial⟩
theorem decR_lt : ∀ (k n : Nat), n < 10 ^ k → (decR n).length ≤ k
  | 0, n, h => by
    have : n = 0 := by simpa using h
    subst this; rw [decR_zero]; simp
  | k + 1, n, h => by
    by_cases hn : n = 0
    · subst hn; rw [decR_zero]; simp
    · rw [decR_pos hn, List.length_cons]
      have := decR_lt k (n / 10) (by rw [Nat.pow_succ] at h; omega)
      omega
theorem decR_len {n L : Nat} (h : (dgs n).length ≤ L) : (decR n).length ≤ 10 * L := by
  apply decR_lt
  have h1 := lt_pow n
  have h2 : 4294967296 ^ (dgs n).length ≤ (10 ^ 10) ^ L := Nat.le_trans (Nat.pow_le_pow_right (by omega) h) (Nat.pow_le_pow_left (by omega) L)
  rw [← Nat.pow_mul] at h2
  omega
theorem nat10 : dg [10] = nat 10 := by
  show dg [10] = dg (dgs 10)
  rw [dgs]
  simp [dgs_zero]
set_option maxHeartbeats 1000000 in
theorem rtext_pu (n : Nat) {L : Nat} (hn : (dgs n).length ≤ L) (hL : L ≤ 100000) : Pu Tryz.prog 232 [nat n] (str (dec n)) := by
  unfold dec
  by_cases h0 : n = 0
  · rw [if_pos h0]
    subst h0
    have e : (dgs 0).length = 0 := by rw [dgs_zero]; rfl
    refine Pu.intro Tryz.func232 rfl (by kernel_rfl) fun C => ?_
    repeat (refine A1 ⟨?_⟩; intros)
    ((first | refine endR ?_ | refine endN ?_); exact end1 (RV.tmp rfl) (Le.refl _))
  · rw [if_neg h0]
    have hlen := dgs_ne_nil h0
    refine Pu.intro Tryz.func232 rfl (by kernel_rfl) fun C => ?_
    repeat (refine A1 ⟨?_⟩; intros)
    refine WP.loopS (ι := Nat × List UInt8) (fun x => (decR x.1).reverse ++ x.2 = (decR n).reverse ∧ (dgs x.1).length ≤ L) (fun x => x.1) (fun x => fm [(0, nat x.1), (3, str x.2)]) (fun _ => []) (n, [])
      ⟨by rw [List.append_nil], hn⟩ (by (repeat (first | exact LeF.nil _ | refine LeF.cons (Le.refl _) ?_ | refine LeF.cons (Le.int (by omega)) ?_))) (List.nil_sublist _) ?_
    rintro ⟨k, acc⟩ ⟨hk, hkL⟩ K hK
    simp only at hk hkL ⊢
    by_cases hk0 : k = 0
    · subst hk0
      have e : (dgs 0).length = 0 := by rw [dgs_zero]; rfl
      rw [decR_zero, List.reverse_nil, List.nil_append] at hk
      rw [← hk]
      clear hk hK
      repeat (refine A1 ⟨?_⟩; intros)
      ((first | refine endR ?_ | refine endN ?_); exact end1 (RV.tmp rfl) (Le.refl _))
    · have hkl := dgs_ne_nil hk0
      have ten : (dgs 10).length = 1 := by rw [dgs]; simp [dgs_zero]
      have c1 := rdivide_pu k 10 (by omega) (by omega) (by omega)
      have hq : (dgs (k / 10)).length ≤ L := Nat.le_trans (len_mono (Nat.div_le_self _ _)) hkL
      have hal : acc.length ≤ 10 * L := by
        have := decR_len hn
        have h2 := congrArg List.length hk
        simp only [List.length_append, List.length_reverse] at h2
        omega
      rw [decR_pos hk0, List.reverse_cons, List.append_assoc] at hk
      have hr : k % 10 < 10 := Nat.mod_lt _ (by omega)
      generalize k % 10 = r at *
      have hfin : ∀ F' H', LeF F' (fm [(0, nat (k / 10)), (3, str ([UInt8.ofNat (48 + r)] ++ acc))]) → ([] : LH).Sublist H' → K F' H' := fun F' H' h1 h2 => hK F' H' (k / 10, [UInt8.ofNat (48 + r)] ++ acc) ⟨hk, hq⟩ (by simp only; omega) h1 h2
      clear hK hk
      by_cases hr0 : r = 0
      · subst hr0
        have e : (dgs 0).length = 0 := by rw [dgs_zero]; rfl
        repeat (refine A1 ⟨?_⟩; intros)
        refine WpubD (ds := [10]) 15 rfl (HDel.here _) rfl (by omega) (by omega) ?_
        rw [nat10]
        repeat (first | (refine A1 ⟨?_⟩; intros) | (refine Wcx (c1) ?_) | (refine Wdcx (c1) ?_) | (refine Wcgx (c1) ?_) | (refine Wdcgx (c1) ?_))
        refine Wo (ov_bytesStr (l := [UInt8.ofNat (48 + 0)]) (rest := []) (by kernel_rfl) rfl (by (first | exact List.mem_cons_self | exact (List.mem_cons_of_mem _ List.mem_cons_self) | exact (List.mem_cons_of_mem _ (List.mem_cons_of_mem _ List.mem_cons_self)) | exact (List.mem_cons_of_mem _ (List.mem_cons_of_mem _ (List.mem_cons_of_mem _ List.mem_cons_self))) | exact (List.mem_cons_of_mem _ (List.mem_cons_of_mem _ (List.mem_cons_of_mem _ (List.mem_cons_of_mem _ List.mem_cons_self)))) | exact (List.mem_cons_of_mem _ (List.mem_cons_of_mem _ (List.mem_cons_of_mem _ (List.mem_cons_of_mem _ (List.mem_cons_of_mem _ List.mem_cons_self))))) | exact (List.mem_cons_of_mem _ (List.mem_cons_of_mem _ (List.mem_cons_of_mem _ (List.mem_cons_of_mem _ (List.mem_cons_of_mem _ (List.mem_cons_of_mem _ List.mem_cons_self)))))) | exact (List.mem_cons_of_mem _ (List.mem_cons_of_mem _ (List.mem_cons_of_mem _ (List.mem_cons_of_mem _ (List.mem_cons_of_mem _ (List.mem_cons_of_mem _ (List.mem_cons_of_mem _ List.mem_cons_self))))))))) (le1 rfl)) ?_
        repeat (refine A1 ⟨?_⟩; intros)
        refine Wo (ov_sadd rfl rfl (by rw [List.length_singleton]; omega)) ?_
        repeat (refine A1 ⟨?_⟩; intros)
        exact hfin _ _ (by (repeat (first | exact LeF.nil _ | refine LeF.cons (Le.refl _) ?_ | refine LeF.cons (Le.int (by omega)) ?_))) (List.nil_sublist _)
      · have e := dgs_ne_nil hr0
        have e1 : (dgs r).getD (Int.toNat 0) 0 = r := (dgs_1 (n := r) (by have := len_le (n := r) (k := 1) (by omega); omega)).symm
        have e2 : (UInt8.ofNat (48 + r)).toNat = 48 + r := by rw [UInt8.toNat_ofNat']; omega
        repeat (refine A1 ⟨?_⟩; intros)
        refine WpubD (ds := [10]) 15 rfl (HDel.here _) rfl (by omega) (by omega) ?_
        rw [nat10]
        repeat (first | (refine A1 ⟨?_⟩; intros) | (refine Wcx (c1) ?_) | (refine Wdcx (c1) ?_) | (refine Wcgx (c1) ?_) | (refine Wdcgx (c1) ?_))
        refine Wo (ov_bytesStr (l := [UInt8.ofNat (48 + r)]) (rest := []) (by kernel_rfl) rfl (by (first | exact List.mem_cons_self | exact (List.mem_cons_of_mem _ List.mem_cons_self) | exact (List.mem_cons_of_mem _ (List.mem_cons_of_mem _ List.mem_cons_self)) | exact (List.mem_cons_of_mem _ (List.mem_cons_of_mem _ (List.mem_cons_of_mem _ List.mem_cons_self))) | exact (List.mem_cons_of_mem _ (List.mem_cons_of_mem _ (List.mem_cons_of_mem _ (List.mem_cons_of_mem _ List.mem_cons_self)))) | exact (List.mem_cons_of_mem _ (List.mem_cons_of_mem _ (List.mem_cons_of_mem _ (List.mem_cons_of_mem _ (List.mem_cons_of_mem _ List.mem_cons_self))))) | exact (List.mem_cons_of_mem _ (List.mem_cons_of_mem _ (List.mem_cons_of_mem _ (List.mem_cons_of_mem _ (List.mem_cons_of_mem _ (List.mem_cons_of_mem _ List.mem_cons_self)))))) | exact (List.mem_cons_of_mem _ (List.mem_cons_of_mem _ (List.mem_cons_of_mem _ (List.mem_cons_of_mem _ (List.mem_cons_of_mem _ (List.mem_cons_of_mem _ (List.mem_cons_of_mem _ List.mem_cons_self))))))))) (le1 ?_)) ?_
        · rw [e1, e2]
          show (48 : Int) + (r : Int) = ((48 + r : Nat) : Int)
          omega
        repeat (refine A1 ⟨?_⟩; intros)
        refine Wo (ov_sadd rfl rfl (by rw [List.length_singleton]; omega)) ?_
        repeat (refine A1 ⟨?_⟩; intros)
        exact hfin _ _ (by (repeat (first | exact LeF.nil _ | refine LeF.cons (Le.refl _) ?_ | refine LeF.cons (Le.int (by omega)) ?_))) (List.nil_sublist _)
end Go.Ab
/- Package nat: Format. -/
namespace Go.Ab
open Go.Proofs
set_option linter.unusedSectionVars false
set_option linter.unusedVariables false
set_option linter.unusedSimpArgs false
variable [Base]
theorem mulPow (q m : Nat) : q * 10 ^ (m + 1) = 10 * (q * 10 ^ m) := by rw [Nat.pow_succ, ← Nat.mul_assoc, Nat.mul_comm]
theorem decR_q {q r m : Nat} (h0 : ¬(q = 0 ∧ r = 0)) : decR (q * 10 ^ (m + 1) + r) = UInt8.ofNat (48 + r % 10) :: decR (q * 10 ^ m + r / 10) := by
  have hp : 0 < 10 ^ m := Nat.pow_pos (by omega)
  have e := mulPow q m
  generalize hz : q * 10 ^ m = z at *
  have hne : q * 10 ^ (m + 1) + r ≠ 0 := by
    rw [e]
    intro h
    have hz0 : z = 0 := by omega
    rw [← hz] at hz0
    rcases Nat.mul_eq_zero.1 hz0 with h1 | h1
    · exact h0 ⟨h1, by omega⟩
    · omega
  rw [decR_pos hne, e]
  congr 2
  · omega
  · omega
theorem Own.bytes {l : List UInt8} {s : SV} {H : LH} (hl : l.length ≠ 0) (h : Own 5 1 l.length (bys l) s H) : ∃ b c rest, s = lit (.slice (some ⟨b, 0, none⟩) l.length c) ∧ H = [(b, 5, bys l ++ rest)] := by
  obtain ⟨_, ⟨e, _, _⟩ | ⟨b, c, _, _, rfl, rfl⟩⟩ := h
  · exact absurd e hl
  · exact ⟨b, c, _, rfl, rfl⟩
theorem byte_dec (r : Nat) : [lit (.int .u8 (48 + ((r % 10 : Nat) : Int)))] = bys [UInt8.ofNat (48 + r % 10)] := by
  have e2 : (UInt8.ofNat (48 + r % 10)).toNat = 48 + r % 10 := by rw [UInt8.toNat_ofNat']; omega
  show _ = [lit (.int .u8 (((UInt8.ofNat (48 + r % 10)).toNat : Nat) : Int))]
  rw [e2]
  rfl
set_option maxHeartbeats 1000000 in
theorem formatN_pu (n : Nat) {L : Nat} (hn : (dgs n).length ≤ L) (hL : L ≤ 100000) : Pu Tryz.prog 229 [nat n] (str (dec n)) := by
  have c0 := trim_nat (dgs n) (by omega) (D_dgs n)
  rw [val_dgs] at c0
  have hdl := decR_len hn
  refine Pu.intro Tryz.func229 rfl (by kernel_rfl) fun C => ?_
  repeat (first | (refine A1 ⟨?_⟩; intros) | (refine Wcx (c0) ?_) | (refine Wdcx (c0) ?_) | (refine Wcgx (c0) ?_) | (refine Wdcgx (c0) ?_))
  refine WP.loopS (ι := Nat × List UInt8 × SV × LH) (fun x => x.2.1 ++ decR x.1 = decR n ∧ Own 5 1 x.2.1.length (bys x.2.1) x.2.2.1 x.2.2.2 ∧ (dgs x.1).length ≤ L) (fun x => x.1) (fun x => fm [(0, nat x.1), (3, x.2.2.1)]) (fun x => x.2.2.2) (n, [], lit (.slice none 0 0), [])
    ⟨by rw [List.nil_append], Own.nil _ _, hn⟩ (by (repeat (first | exact LeF.nil _ | refine LeF.cons (Le.refl _) ?_ | refine LeF.cons (Le.int (by omega)) ?_))) (List.nil_sublist _) ?_
  rintro ⟨x, acc, s, Hs⟩ ⟨hx, hown, hxL⟩ K hK
  simp only at hx hown hxL ⊢
  haveI := hown.co
  by_cases hx0 : x = 0
  · subst hx0
    have e : (dgs 0).length = 0 := by rw [dgs_zero]; rfl
    rw [decR_zero, List.append_nil] at hx
    subst hx
    clear hK
    have ed : (decR n).length = 0 ↔ n = 0 := by
      constructor
      · intro h
        by_cases h0 : n = 0
        · exact h0
        · rw [decR_pos h0] at h; cases h
      · rintro rfl; rw [decR_zero]; rfl
    by_cases h0 : n = 0
    · have e2 := ed.2 h0
      unfold dec
      rw [if_pos h0]
      clear ed
      repeat (refine A1 ⟨?_⟩; intros)
      refine Wo (ov_lenOwn hown rfl) ?_
      repeat (refine A1 ⟨?_⟩; intros)
      ((first | refine endR ?_ | refine endN ?_); exact end1 (RV.tmp rfl) (Le.refl _))
    · have e2 : (decR n).length ≠ 0 := fun h => h0 (ed.1 h)
      unfold dec
      rw [if_neg h0]
      obtain ⟨b, c, rest, rfl, rfl⟩ := hown.bytes e2
      clear ed
      generalize hl : decR n = l at *
      repeat (refine A1 ⟨?_⟩; intros)
      refine WfH (reverse_pu b c l rest (by omega)) ?_
      rintro _ _ ⟨rfl, rfl⟩
      simp only [List.cons_append, List.nil_append]
      repeat (refine A1 ⟨?_⟩; intros)
      refine Wo (ov_bytesStr (l := l.reverse) (rest := rest) (c := c) (by kernel_rfl) (by rw [List.length_reverse]; rfl) (by (first | exact List.mem_cons_self | exact (List.mem_cons_of_mem _ List.mem_cons_self) | exact (List.mem_cons_of_mem _ (List.mem_cons_of_mem _ List.mem_cons_self)) | exact (List.mem_cons_of_mem _ (List.mem_cons_of_mem _ (List.mem_cons_of_mem _ List.mem_cons_self))) | exact (List.mem_cons_of_mem _ (List.mem_cons_of_mem _ (List.mem_cons_of_mem _ (List.mem_cons_of_mem _ List.mem_cons_self)))) | exact (List.mem_cons_of_mem _ (List.mem_cons_of_mem _ (List.mem_cons_of_mem _ (List.mem_cons_of_mem _ (List.mem_cons_of_mem _ List.mem_cons_self))))) | exact (List.mem_cons_of_mem _ (List.mem_cons_of_mem _ (List.mem_cons_of_mem _ (List.mem_cons_of_mem _ (List.mem_cons_of_mem _ (List.mem_cons_of_mem _ List.mem_cons_self)))))) | exact (List.mem_cons_of_mem _ (List.mem_cons_of_mem _ (List.mem_cons_of_mem _ (List.mem_cons_of_mem _ (List.mem_cons_of_mem _ (List.mem_cons_of_mem _ (List.mem_cons_of_mem _ List.mem_cons_self))))))))) (LeL.refl _)) ?_
      repeat (refine A1 ⟨?_⟩; intros)
      ((first | refine endR ?_ | refine endN ?_); exact end1 (RV.tmp rfl) (Le.refl _))
  · have e := dgs_ne_nil hx0
    repeat (refine A1 ⟨?_⟩; intros)
    have c1 := short_nat (dgs x) 1000000000 (by omega) (D_dgs x) (by omega) (by omega)
    rw [val_dgs] at c1
    have hq : (dgs (x / 1000000000)).length ≤ L := Nat.le_trans (len_mono (Nat.div_le_self _ _)) hxL
    have hfin : ∀ F' H' acc' s' Hs', acc' ++ decR (x / 1000000000) = decR n → Own 5 1 acc'.length (bys acc') s' Hs' → LeF F' (fm [(0, nat (x / 1000000000)), (3, s')]) → Hs'.Sublist H' → K F' H' := fun F' H' acc' s' Hs' g1 g2 h1 h2 => hK F' H' (x / 1000000000, acc', s', Hs') ⟨g1, g2, hq⟩ (by simp only; omega) h1 h2
    clear hK
    have hz : acc ++ decR (x / 1000000000 * 10 ^ (9 - 0) + x % 1000000000) = decR n := by
      rw [← hx]; congr 2; omega
    have hr : x % 1000000000 < 10 ^ (9 - 0) := by
      show _ < 1000000000; omega
    generalize x % 1000000000 = r at *
    generalize x / 1000000000 = q at *
    repeat (first | (refine A1 ⟨?_⟩; intros) | (refine Wcx (c1) ?_) | (refine Wdcx (c1) ?_) | (refine Wcgx (c1) ?_) | (refine Wdcgx (c1) ?_))
    refine WP.loopS (ι := Nat × Nat × List UInt8 × SV × LH) (fun y => y.1 ≤ 9 ∧ y.2.1 < 10 ^ (9 - y.1) ∧ y.2.2.1 ++ decR (q * 10 ^ (9 - y.1) + y.2.1) = decR n ∧ Own 5 1 y.2.2.1.length (bys y.2.2.1) y.2.2.2.1 y.2.2.2.2) (fun y => 9 - y.1)
      (fun y => fm [(0, nat q), (3, y.2.2.2.1), (4, lit (.int .u32 y.2.1)), (15, lit (.int .i64 y.1))]) (fun y => y.2.2.2.2) (0, r, acc, s, Hs) ⟨by omega, hr, hz, hown⟩ (by (repeat (first | exact LeF.nil _ | refine LeF.cons (Le.refl _) ?_ | refine LeF.cons (Le.int (by omega)) ?_))) (List.Sublist.refl _) ?_
    clear hr hz hown this hx c1
    rintro ⟨k, r, acc, s, Hs⟩ ⟨hk, hr, hz, hown⟩ K2 hK2
    simp only at hk hr hz hown ⊢
    haveI := hown.co
    by_cases hk9 : k = 9
    · subst hk9
      have : r = 0 := by simpa using hr
      subst this
      rw [show q * 10 ^ (9 - 9) + 0 = q from by simp] at hz
      clear hK2 hr
      repeat (refine A1 ⟨?_⟩; intros)
      exact hfin _ _ acc s Hs hz hown (by (repeat (first | exact LeF.nil _ | refine LeF.cons (Le.refl _) ?_ | refine LeF.cons (Le.int (by omega)) ?_))) (List.Sublist.refl _)
    · obtain ⟨m, hm⟩ : ∃ m, 9 - k = m + 1 := ⟨8 - k, by omega⟩
      have hm' : 9 - (k + 1) = m := by omega
      rw [hm] at hr hz
      have hrb : r < 1000000000 := Nat.lt_of_lt_of_le hr (show 10 ^ (m + 1) ≤ 10 ^ 9 from Nat.pow_le_pow_right (by omega) (by omega))
      have hal : acc.length ≤ 10 * L := by
        have h2 := congrArg List.length hz
        simp only [List.length_append] at h2
        omega
      by_cases hqr : q = 0 ∧ r = 0
      · obtain ⟨rfl, rfl⟩ := hqr
        have e : (dgs 0).length = 0 := by rw [dgs_zero]; rfl
        rw [Nat.zero_mul] at hz
        clear hK2 hr
        repeat (refine A1 ⟨?_⟩; intros)
        exact hfin _ _ acc s Hs hz hown (by (repeat (first | exact LeF.nil _ | refine LeF.cons (Le.refl _) ?_ | refine LeF.cons (Le.int (by omega)) ?_))) (List.Sublist.refl _)
      · rw [decR_q hqr] at hz
        have hr1 : r / 10 < 10 ^ m := by
          rw [Nat.pow_succ] at hr; omega
        have hz1 : (acc ++ [UInt8.ofNat (48 + r % 10)]) ++ decR (q * 10 ^ m + r / 10) = decR n := by rw [← hz]; simp
        have hfin2 : ∀ F' H' s' Hs', Own 5 1 (acc.length + 1) (bys acc ++ bys [UInt8.ofNat (48 + r % 10)]) s' Hs' → LeF F' (fm [(0, nat q), (3, s'), (4, lit (.int .u32 (r / 10 : Nat))), (15, lit (.int .i64 (k + 1 : Nat)))]) → Hs'.Sublist H' → K2 F' H' := fun F' H' s' Hs' g h1 h2 => hK2 F' H' (k + 1, r / 10, acc ++ [UInt8.ofNat (48 + r % 10)], s', Hs') ⟨by simp only; omega, by simp only; rw [hm']; exact hr1, by simp only; rw [hm']; exact hz1, by simp only; rw [List.length_append, bys_append]; exact g⟩ (by simp only; omega) h1 h2
        clear hK2 hz hz1 hr hfin
        by_cases hq0 : q = 0
        · have hr0 : r ≠ 0 := fun h => hqr ⟨hq0, h⟩
          subst hq0
          have e : (dgs 0).length = 0 := by rw [dgs_zero]; rfl
          clear hqr
          repeat (refine A1 ⟨?_⟩; intros)
          refine Wown hown (by omega) (fun s1 H1 o1 => ?_)
          rw [byte_dec r] at o1
          haveI := o1.co
          have ht : (r : Int).tdiv 10 = ((r / 10 : Nat) : Int) := (Int.ofNat_tdiv r 10).symm
          repeat (refine A1 ⟨?_⟩; intros)
          exact hfin2 _ _ s1 H1 o1 (by (repeat (first | exact LeF.nil _ | refine LeF.cons (Le.refl _) ?_ | refine LeF.cons (Le.int (by omega)) ?_))) (List.sublist_cons_self _ _)
        · have e := dgs_ne_nil hq0
          clear hqr
          repeat (refine A1 ⟨?_⟩; intros)
          refine Wown hown (by omega) (fun s1 H1 o1 => ?_)
          rw [byte_dec r] at o1
          haveI := o1.co
          have ht : (r : Int).tdiv 10 = ((r / 10 : Nat) : Int) := (Int.ofNat_tdiv r 10).symm
          repeat (refine A1 ⟨?_⟩; intros)
          exact hfin2 _ _ s1 H1 o1 (by (repeat (first | exact LeF.nil _ | refine LeF.cons (Le.refl _) ?_ | refine LeF.cons (Le.int (by omega)) ?_))) (List.sublist_cons_self _ _)
end Go.Ab
/- Package frac: Zero, Inv. -/
namespace Go.Ab
open Go.Proofs
set_option linter.unusedSectionVars false
set_option linter.unusedVariables false
set_option linter.unusedSimpArgs false
variable [Base]
end Go.Ab
/- The reference's rationals: Part, Over. -/
namespace Go.Ab
open Go.Proofs
set_option linter.unusedSectionVars false
set_option linter.unusedVariables false
set_option linter.unusedSimpArgs false
variable [Base]
end Go.Ab
/- Packages geo and affine: points and maps. -/
namespace Go.Ab
open Go.Proofs
set_option linter.unusedSectionVars false
set_option linter.unusedVariables false
set_option linter.unusedSimpArgs false
variable [Base]
abbrev pp (x y : Rat) : SV := ag [lit (.int .i64 (r0 x)), lit (.int .i64 (r1 x)), r2 x, lit (.int .i64 (r0 y)), lit (.int .i64 (r1 y)), r2 y]
/-- a raw rational: a sign, digits, digits -/
structure RQ where
  s : Bool
  n : List Nat
  d : List Nat
def RQ.v (r : RQ) : Rat := mkRat (sv r.s (val r.n)) (val r.d)
def RQ.ok (L : Nat) (r : RQ) : Prop := D r.n ∧ D r.d ∧ r.n.length ≤ L ∧ r.d.length ≤ L
abbrev qr (r : RQ) : SV := qraw r.s r.n r.d
abbrev pr (a b : RQ) : SV := ag [lit (.bool a.s), dg a.n, dg a.d, lit (.bool b.s), dg b.n, dg b.d]
/-- the raw form of a rational -/
def RQ.of (x : Rat) : RQ := ⟨decide (x.num < 0), dgs x.num.natAbs, dgs x.den⟩
theorem RQ.of_v (x : Rat) : (RQ.of x).v = x := by
  unfold RQ.v RQ.of; simp only [val_dgs, sv_int]; exact Rat.mkRat_self x
theorem RQ.of_ok {x : Rat} {L : Nat} (h : ht x ≤ L) : (RQ.of x).ok L :=
  ⟨D_dgs _, D_dgs _, Nat.le_trans (ht_num x) h, Nat.le_trans (ht_den x) h⟩
theorem il_sv {s : Bool} {xs : List Nat} (h : D xs) : il (sv s (val xs)) ≤ xs.length := by unfold il; rw [sv_abs]; exact dlen_val h
theorem ht_v {r : RQ} {L : Nat} (h : r.ok L) : ht r.v ≤ L + 1 := by
  obtain ⟨h1, h2, h3, h4⟩ := h
  have := ht_mk (sv r.s (val r.n)) (val r.d)
  have a1 := il_sv (s := r.s) h1
  have a2 := dlen_val h2
  unfold RQ.v; omega
/-- an affine map: the columns (a, d), (b, e) and the vector (c, f) -/
structure M6 (α : Type) where
  a : α
  b : α
  c : α
  d : α
  e : α
  f : α
structure M6.ok (L : Nat) (m : M6 RQ) : Prop where
  a : m.a.ok L
  b : m.b.ok L
  c : m.c.ok L
  d : m.d.ok L
  e : m.e.ok L
  f : m.f.ok L
structure M6.le (L : Nat) (m : M6 Rat) : Prop where
  a : ht m.a ≤ L
  b : ht m.b ≤ L
  c : ht m.c ≤ L
  d : ht m.d ≤ L
  e : ht m.e ≤ L
  f : ht m.f ≤ L
def M6.v (m : M6 RQ) : M6 Rat := ⟨m.a.v, m.b.v, m.c.v, m.d.v, m.e.v, m.f.v⟩
end Go.Ab
/- The reference of layer 1: numbers of package api. -/
namespace Go.Ab
open Go.Proofs
set_option linter.unusedSectionVars false
set_option linter.unusedVariables false
set_option linter.unusedSimpArgs false
variable [Base]
theorem le_decF {p : Prop} [Decidable p] (h : ¬p) : Le (lit (.bool false)) (lit (.bool (decide p))) := by rw [decide_eq_false h]; exact Le.refl _
theorem le_decT {p : Prop} [Decidable p] (h : p) : Le (lit (.bool true)) (lit (.bool (decide p))) := by rw [decide_eq_true h]; exact Le.refl _
theorem sameN_pu (xs ys : List Nat) (hx : xs.length ≤ 1000000000) (hy : ys.length ≤ 1000000000) : Pu Tryz.prog 116 [dg xs, dg ys] (lit (.bool (decide (xs = ys)))) := by
  by_cases hl : xs.length = ys.length
  · refine Pu.intro Tryz.func116 rfl (by kernel_rfl) fun C => ?_
    repeat (refine A1 ⟨?_⟩; intros)
    refine WP.loop (ι := Nat) (fun k => k ≤ xs.length ∧ xs.take k = ys.take k) (fun k => xs.length - k) (fun k => fm [(0, dg xs), (1, dg ys), (11, dg xs), (12, lit (.int .i64 xs.length)), (13, lit (.int .i64 k))]) (fun _ => []) 0
      ⟨Nat.zero_le _, rfl⟩ (by (repeat (first | exact LeF.nil _ | refine LeF.cons (Le.refl _) ?_ | refine LeF.cons (Le.int (by omega)) ?_))) rfl ?_
    rintro k ⟨hk, he⟩ K hK
    by_cases hkl : k < xs.length
    · by_cases hd : xs.getD k 0 = ys.getD k 0
      · repeat (refine A1 ⟨?_⟩; intros)
        exact hK _ _ (k + 1) ⟨by omega, by rw [take_succ_getD xs k hkl, take_succ_getD ys k (by omega), he, hd]⟩ (by omega) (by (repeat (first | exact LeF.nil _ | refine LeF.cons (Le.refl _) ?_ | refine LeF.cons (Le.int (by omega)) ?_))) rfl
      · repeat (refine A1 ⟨?_⟩; intros)
        exact endR (end1 (RV.tmp rfl) (le_decF fun e => hd (by rw [e])))
    · have hke : k = xs.length := by omega
      subst hke
      rw [List.take_length, hl, List.take_length] at he
      repeat (refine A1 ⟨?_⟩; intros)
      exact endR (end1 (RV.tmp rfl) (le_decT he))
  · refine Pu.intro Tryz.func116 rfl (by kernel_rfl) fun C => ?_
    repeat (refine A1 ⟨?_⟩; intros)
    exact endR (end1 (RV.tmp rfl) (le_decF fun e => hl (by rw [e])))
theorem toN_pu (xs : List Nat) (h : xs.length ≤ 1000000000) : Pu Tryz.prog 137 [dg xs] (dg xs) := by
  refine Pu.intro Tryz.func137 rfl (by kernel_rfl) fun C => ?_
  repeat (refine A1 ⟨?_⟩; intros)
  ((first | refine endR ?_ | refine endN ?_); exact end1 (RV.tmp rfl) (Le.refl _))
theorem n_pu (xs : List Nat) (h : xs.length ≤ 1000000000) (hD : D xs) : Pu Tryz.prog 204 [dg xs] (nat (val xs)) := by
  refine Pu.intro Tryz.func204 rfl (by kernel_rfl) fun C => ?_
  repeat (first | (refine A1 ⟨?_⟩; intros) | (refine Wcx (rtrim_nat _ h hD) ?_) | (refine Wdcx (rtrim_nat _ h hD) ?_) | (refine Wcgx (rtrim_nat _ h hD) ?_) | (refine Wdcgx (rtrim_nat _ h hD) ?_))
  ((first | refine endR ?_ | refine endN ?_); exact end1 (RV.tmp rfl) (Le.refl _))
theorem i_pu (s : Bool) (xs : List Nat) (h : xs.length ≤ 1000000000) (hD : D xs) : Pu Tryz.prog 205 [raw s xs] (int (sv s (val xs))) := by
  have hl := dlen_val hD
  refine Pu.intro Tryz.func205 rfl (by kernel_rfl) fun C => ?_
  repeat (first | (refine A1 ⟨?_⟩; intros) | (refine Wcx (n_pu _ h hD) ?_) | (refine Wdcx (n_pu _ h hD) ?_) | (refine Wcgx (n_pu _ h hD) ?_) | (refine Wdcgx (n_pu _ h hD) ?_) | (refine Wcx (rmake_pu _ _ (by omega)) ?_) | (refine Wdcx (rmake_pu _ _ (by omega)) ?_) | (refine Wcgx (rmake_pu _ _ (by omega)) ?_) | (refine Wdcgx (rmake_pu _ _ (by omega)) ?_))
  ((first | refine endR ?_ | refine endN ?_); refine end1 (RV.cellA rfl (by (first | exact List.mem_cons_self | exact (List.mem_cons_of_mem _ List.mem_cons_self) | exact (List.mem_cons_of_mem _ (List.mem_cons_of_mem _ List.mem_cons_self)) | exact (List.mem_cons_of_mem _ (List.mem_cons_of_mem _ (List.mem_cons_of_mem _ List.mem_cons_self))) | exact (List.mem_cons_of_mem _ (List.mem_cons_of_mem _ (List.mem_cons_of_mem _ (List.mem_cons_of_mem _ List.mem_cons_self)))) | exact (List.mem_cons_of_mem _ (List.mem_cons_of_mem _ (List.mem_cons_of_mem _ (List.mem_cons_of_mem _ (List.mem_cons_of_mem _ List.mem_cons_self))))) | exact (List.mem_cons_of_mem _ (List.mem_cons_of_mem _ (List.mem_cons_of_mem _ (List.mem_cons_of_mem _ (List.mem_cons_of_mem _ (List.mem_cons_of_mem _ List.mem_cons_self)))))) | exact (List.mem_cons_of_mem _ (List.mem_cons_of_mem _ (List.mem_cons_of_mem _ (List.mem_cons_of_mem _ (List.mem_cons_of_mem _ (List.mem_cons_of_mem _ (List.mem_cons_of_mem _ List.mem_cons_self))))))))) (by (first | (simp only [List.drop_succ_cons, List.drop_zero, List.drop_nil, List.take_succ_cons, List.take_zero, List.take_nil, Nat.zero_add, Nat.add_zero, Nat.reduceAdd]; done) | (simp only [List.drop_succ_cons, List.drop_zero, List.drop_nil, List.take_succ_cons, List.take_zero, List.take_nil, Nat.zero_add, Nat.add_zero, Nat.reduceAdd]; exact rfl) | exact rfl)) rfl) (Le.refl _))
theorem toI_pu (z : Int) (h : il z ≤ 1000000000) : Pu Tryz.prog 136 [int z] (int z) := by
  have h' : (dgs z.natAbs).length ≤ 1000000000 := h
  refine Pu.intro Tryz.func136 rfl (by kernel_rfl) fun C => ?_
  repeat (first | (refine A1 ⟨?_⟩; intros) | (refine Wcx (toN_pu _ h') ?_) | (refine Wdcx (toN_pu _ h') ?_) | (refine Wcgx (toN_pu _ h') ?_) | (refine Wdcgx (toN_pu _ h') ?_))
  ((first | refine endR ?_ | refine endN ?_); refine end1 (RV.cellA rfl (by (first | exact List.mem_cons_self | exact (List.mem_cons_of_mem _ List.mem_cons_self) | exact (List.mem_cons_of_mem _ (List.mem_cons_of_mem _ List.mem_cons_self)) | exact (List.mem_cons_of_mem _ (List.mem_cons_of_mem _ (List.mem_cons_of_mem _ List.mem_cons_self))) | exact (List.mem_cons_of_mem _ (List.mem_cons_of_mem _ (List.mem_cons_of_mem _ (List.mem_cons_of_mem _ List.mem_cons_self)))) | exact (List.mem_cons_of_mem _ (List.mem_cons_of_mem _ (List.mem_cons_of_mem _ (List.mem_cons_of_mem _ (List.mem_cons_of_mem _ List.mem_cons_self))))) | exact (List.mem_cons_of_mem _ (List.mem_cons_of_mem _ (List.mem_cons_of_mem _ (List.mem_cons_of_mem _ (List.mem_cons_of_mem _ (List.mem_cons_of_mem _ List.mem_cons_self)))))) | exact (List.mem_cons_of_mem _ (List.mem_cons_of_mem _ (List.mem_cons_of_mem _ (List.mem_cons_of_mem _ (List.mem_cons_of_mem _ (List.mem_cons_of_mem _ (List.mem_cons_of_mem _ List.mem_cons_self))))))))) (by (first | (simp only [List.drop_succ_cons, List.drop_zero, List.drop_nil, List.take_succ_cons, List.take_zero, List.take_nil, Nat.zero_add, Nat.add_zero, Nat.reduceAdd]; done) | (simp only [List.drop_succ_cons, List.drop_zero, List.drop_nil, List.take_succ_cons, List.take_zero, List.take_nil, Nat.zero_add, Nat.add_zero, Nat.reduceAdd]; exact rfl) | exact rfl)) rfl) (Le.refl _))
theorem sameI_pu (s t : Bool) (xs ys : List Nat) (hx : xs.length ≤ 1000000000) (hy : ys.length ≤ 1000000000) : Pu Tryz.prog 115 [raw s xs, raw t ys] (lit (.bool (decide (s = t ∧ xs = ys)))) := by
  cases s <;> cases t
  · refine Pu.intro Tryz.func115 rfl (by kernel_rfl) fun C => ?_
    repeat (first | (refine A1 ⟨?_⟩; intros) | (refine Wcx (sameN_pu _ _ hx hy) ?_) | (refine Wdcx (sameN_pu _ _ hx hy) ?_) | (refine Wcgx (sameN_pu _ _ hx hy) ?_) | (refine Wdcgx (sameN_pu _ _ hx hy) ?_))
    refine endR (end1 (RV.tmp rfl) (Le.bool ?_)); simp
  · refine Pu.intro Tryz.func115 rfl (by kernel_rfl) fun C => ?_
    repeat (first | (refine A1 ⟨?_⟩; intros) | (refine Wcx (sameN_pu _ _ hx hy) ?_) | (refine Wdcx (sameN_pu _ _ hx hy) ?_) | (refine Wcgx (sameN_pu _ _ hx hy) ?_) | (refine Wdcgx (sameN_pu _ _ hx hy) ?_))
    refine endR (end1 (RV.tmp rfl) (Le.bool ?_)); simp
  · refine Pu.intro Tryz.func115 rfl (by kernel_rfl) fun C => ?_
    repeat (first | (refine A1 ⟨?_⟩; intros) | (refine Wcx (sameN_pu _ _ hx hy) ?_) | (refine Wdcx (sameN_pu _ _ hx hy) ?_) | (refine Wcgx (sameN_pu _ _ hx hy) ?_) | (refine Wdcgx (sameN_pu _ _ hx hy) ?_))
    refine endR (end1 (RV.tmp rfl) (Le.bool ?_)); simp
  · refine Pu.intro Tryz.func115 rfl (by kernel_rfl) fun C => ?_
    repeat (first | (refine A1 ⟨?_⟩; intros) | (refine Wcx (sameN_pu _ _ hx hy) ?_) | (refine Wdcx (sameN_pu _ _ hx hy) ?_) | (refine Wcgx (sameN_pu _ _ hx hy) ?_) | (refine Wdcgx (sameN_pu _ _ hx hy) ?_))
    refine endR (end1 (RV.tmp rfl) (Le.bool ?_)); simp
theorem lit_dec {p : Prop} [Decidable p] (h : p) : lit (.bool (decide p)) = lit (.bool true) := by rw [decide_eq_true h]
theorem sameN_t (xs : List Nat) (hx : xs.length ≤ 1000000000) : Pu Tryz.prog 116 [dg xs, dg xs] (lit (.bool true)) := lit_dec (p := xs = xs) rfl ▸ sameN_pu xs xs hx hx
theorem sameI_t (s : Bool) (xs : List Nat) (hx : xs.length ≤ 1000000000) : Pu Tryz.prog 115 [raw s xs, raw s xs] (lit (.bool true)) := lit_dec (p := s = s ∧ xs = xs) ⟨rfl, rfl⟩ ▸ sameI_pu s s xs xs hx hx
theorem sameQ_t (s : Bool) (xs ys : List Nat) (hx : xs.length ≤ 1000000000) (hy : ys.length ≤ 1000000000) : Pu Tryz.prog 77 [qraw s xs ys, qraw s xs ys] (lit (.bool true)) := by
  refine Pu.intro Tryz.func77 rfl (by kernel_rfl) fun C => ?_
  repeat (first | (refine A1 ⟨?_⟩; intros) | (refine Wcx (sameN_t _ hy) ?_) | (refine Wdcx (sameN_t _ hy) ?_) | (refine Wcgx (sameN_t _ hy) ?_) | (refine Wdcgx (sameN_t _ hy) ?_) | (refine Wcx (sameI_t _ _ hx) ?_) | (refine Wdcx (sameI_t _ _ hx) ?_) | (refine Wcgx (sameI_t _ _ hx) ?_) | (refine Wdcgx (sameI_t _ _ hx) ?_))
  ((first | refine endR ?_ | refine endN ?_); exact end1 (RV.tmp rfl) (Le.refl _))
theorem sameq_pu (x : Rat) (h : ht x ≤ 1000000000) : Pu Tryz.prog 77 [q x, q x] (lit (.bool true)) := by
  have h1 := ht_num x
  have h2 := ht_den x
  exact sameQ_t _ _ _ (by have : il x.num = (dgs x.num.natAbs).length := rfl; omega) (by omega)
theorem toQ_pu (x : Rat) (h : ht x ≤ 100000000) : Pu Tryz.prog 96 [rq x] (q x) := by
  have h1 := ht_num x
  have h2 := ht_den x
  refine Pu.intro Tryz.func96 rfl (by kernel_rfl) fun C => ?_
  repeat (first | (refine A1 ⟨?_⟩; intros) | (refine Wcx (toI_pu _ (by omega)) ?_) | (refine Wdcx (toI_pu _ (by omega)) ?_) | (refine Wcgx (toI_pu _ (by omega)) ?_) | (refine Wdcgx (toI_pu _ (by omega)) ?_) | (refine Wcx (rden_pu x) ?_) | (refine Wdcx (rden_pu x) ?_) | (refine Wcgx (rden_pu x) ?_) | (refine Wdcgx (rden_pu x) ?_) | (refine Wcx (toN_pu _ (by omega)) ?_) | (refine Wdcx (toN_pu _ (by omega)) ?_) | (refine Wcgx (toN_pu _ (by omega)) ?_) | (refine Wdcgx (toN_pu _ (by omega)) ?_))
  ((first | refine endR ?_ | refine endN ?_); refine end1 (RV.cellA rfl (by (first | exact List.mem_cons_self | exact (List.mem_cons_of_mem _ List.mem_cons_self) | exact (List.mem_cons_of_mem _ (List.mem_cons_of_mem _ List.mem_cons_self)) | exact (List.mem_cons_of_mem _ (List.mem_cons_of_mem _ (List.mem_cons_of_mem _ List.mem_cons_self))) | exact (List.mem_cons_of_mem _ (List.mem_cons_of_mem _ (List.mem_cons_of_mem _ (List.mem_cons_of_mem _ List.mem_cons_self)))) | exact (List.mem_cons_of_mem _ (List.mem_cons_of_mem _ (List.mem_cons_of_mem _ (List.mem_cons_of_mem _ (List.mem_cons_of_mem _ List.mem_cons_self))))) | exact (List.mem_cons_of_mem _ (List.mem_cons_of_mem _ (List.mem_cons_of_mem _ (List.mem_cons_of_mem _ (List.mem_cons_of_mem _ (List.mem_cons_of_mem _ List.mem_cons_self)))))) | exact (List.mem_cons_of_mem _ (List.mem_cons_of_mem _ (List.mem_cons_of_mem _ (List.mem_cons_of_mem _ (List.mem_cons_of_mem _ (List.mem_cons_of_mem _ (List.mem_cons_of_mem _ List.mem_cons_self))))))))) (by (first | (simp only [List.drop_succ_cons, List.drop_zero, List.drop_nil, List.take_succ_cons, List.take_zero, List.take_nil, Nat.zero_add, Nat.add_zero, Nat.reduceAdd]; done) | (simp only [List.drop_succ_cons, List.drop_zero, List.drop_nil, List.take_succ_cons, List.take_zero, List.take_nil, Nat.zero_add, Nat.add_zero, Nat.reduceAdd]; exact rfl) | exact rfl)) rfl) (Le.refl _))
theorem rq_zero : rq 0 = ag [lit (.bool false), nat 0, dg []] := by rw [rq, show (0 : Rat).num = 0 from rfl, show (0 : Rat).den = 1 from rfl, dden_one]; rfl
theorem q_pu {r : RQ} {L : Nat} (h : r.ok L) (hL : L ≤ 1000000) : Pu Tryz.prog 175 [qr r] (rq r.v) := by
  obtain ⟨h1, h2, h3, h4⟩ := h
  have hl := dlen_val h2
  have hi := il_sv (s := r.s) h1
  by_cases h0 : val r.d = 0
  · have hv : r.v = 0 := by unfold RQ.v; rw [h0]; exact Rat.mkRat_zero _
    rw [hv, rq_zero]
    have hn := n_pu r.d (by omega) h2
    rw [h0] at hn
    have hl0 : (dgs 0).length = 0 := by rw [dgs_zero]; rfl
    refine Pu.intro Tryz.func175 rfl (by kernel_rfl) fun C => ?_
    repeat (first | (refine A1 ⟨?_⟩; intros) | (refine Wcx (hn) ?_) | (refine Wdcx (hn) ?_) | (refine Wcgx (hn) ?_) | (refine Wdcgx (hn) ?_))
    refine endR (end1 (RV.cellA rfl List.mem_cons_self rfl rfl) (Le.ag ⟨Le.refl _, ?_, le_nil, trivial⟩))
    rw [show nat 0 = dg [] from by show dg (dgs 0) = _; rw [dgs_zero]]
    exact le_nil
  · have hp := dgs_len_pos h0
    refine Pu.intro Tryz.func175 rfl (by kernel_rfl) fun C => ?_
    repeat (first | (refine A1 ⟨?_⟩; intros) | (refine Wcx (n_pu r.d (by omega) h2) ?_) | (refine Wdcx (n_pu r.d (by omega) h2) ?_) | (refine Wcgx (n_pu r.d (by omega) h2) ?_) | (refine Wdcgx (n_pu r.d (by omega) h2) ?_) | (refine Wcx (i_pu _ _ (by omega) h1) ?_) | (refine Wdcx (i_pu _ _ (by omega) h1) ?_) | (refine Wcgx (i_pu _ _ (by omega) h1) ?_) | (refine Wdcgx (i_pu _ _ (by omega) h1) ?_) | (refine Wcx (rfrac_pu _ _ (by omega) (by omega) h0) ?_) | (refine Wdcx (rfrac_pu _ _ (by omega) (by omega) h0) ?_) | (refine Wcgx (rfrac_pu _ _ (by omega) (by omega) h0) ?_) | (refine Wdcgx (rfrac_pu _ _ (by omega) (by omega) h0) ?_))
    ((first | refine endR ?_ | refine endN ?_); refine end1 (RV.cellA rfl (by (first | exact List.mem_cons_self | exact (List.mem_cons_of_mem _ List.mem_cons_self) | exact (List.mem_cons_of_mem _ (List.mem_cons_of_mem _ List.mem_cons_self)) | exact (List.mem_cons_of_mem _ (List.mem_cons_of_mem _ (List.mem_cons_of_mem _ List.mem_cons_self))) | exact (List.mem_cons_of_mem _ (List.mem_cons_of_mem _ (List.mem_cons_of_mem _ (List.mem_cons_of_mem _ List.mem_cons_self)))) | exact (List.mem_cons_of_mem _ (List.mem_cons_of_mem _ (List.mem_cons_of_mem _ (List.mem_cons_of_mem _ (List.mem_cons_of_mem _ List.mem_cons_self))))) | exact (List.mem_cons_of_mem _ (List.mem_cons_of_mem _ (List.mem_cons_of_mem _ (List.mem_cons_of_mem _ (List.mem_cons_of_mem _ (List.mem_cons_of_mem _ List.mem_cons_self)))))) | exact (List.mem_cons_of_mem _ (List.mem_cons_of_mem _ (List.mem_cons_of_mem _ (List.mem_cons_of_mem _ (List.mem_cons_of_mem _ (List.mem_cons_of_mem _ (List.mem_cons_of_mem _ List.mem_cons_self))))))))) (by (first | (simp only [List.drop_succ_cons, List.drop_zero, List.drop_nil, List.take_succ_cons, List.take_zero, List.take_nil, Nat.zero_add, Nat.add_zero, Nat.reduceAdd]; done) | (simp only [List.drop_succ_cons, List.drop_zero, List.drop_nil, List.take_succ_cons, List.take_zero, List.take_nil, Nat.zero_add, Nat.add_zero, Nat.reduceAdd]; exact rfl) | exact rfl)) rfl) (Le.refl _))
end Go.Ab
/- The references of layers 4 and 26: points and maps. -/
namespace Go.Ab
open Go.Proofs
set_option linter.unusedSectionVars false
set_option linter.unusedVariables false
set_option linter.unusedSimpArgs false
variable [Base]
end Go.Ab
/- The scenes' tape: UNDER WAY. -/
namespace Go.Ab
open Go.Proofs
set_option linter.unusedSectionVars false
set_option linter.unusedVariables false
set_option linter.unusedSimpArgs false
variable [Base]
section
variable {P : Program} {F : Fr} {H : LH}
variable {C : Ctx} {n : Nat} {ops : Array Oper} {K : Fr → LH → Prop} {rest : List Oper} {ty : TypeId} {pos : String} {aft : Array Edge}
theorem endMR {rs : Array ResultVar} {α : Type} {b : Nat} {T : TypeId} {cs' : α → List SV} {res : α → SV} (x : α) (cs : List SV) (h : Ends P rs.toList (res x) F H) (hm : (b, T, cs) ∈ H) (hl : LeL cs (cs' x)) : endM P rs b T cs' res .ret F H := ⟨x, h, cs, hm, hl⟩
end
theorem leN0 : Le (lit (.slice none 0 0)) (nat (0 : Rat).num.natAbs) := by
  rw [show (0 : Rat).num.natAbs = 0 from rfl, show nat 0 = dg [] from by show dg (dgs 0) = _; rw [dgs_zero]]
  exact le_nil
theorem leD0 : Le (lit (.slice none 0 0)) (dg (dden (0 : Rat).den)) := by
  rw [show (0 : Rat).den = 1 from rfl, dden_one]; exact le_nil
end Go.Ab
/- The scenes: how long numbers are. -/
namespace Go.Ab
open Go.Proofs
set_option linter.unusedSectionVars false
set_option linter.unusedVariables false
set_option linter.unusedSimpArgs false
variable [Base]
abbrev qcells (r : RQ) : List SV := [lit (.bool r.s), dg r.n, dg r.d]
def RQ.short (n : Nat) (r : RQ) : Prop := r.n.length ≤ n ∧ r.d.length ≤ n
instance (n : Nat) (r : RQ) : Decidable (r.short n) := by unfold RQ.short; infer_instance
theorem qcells_len (r : RQ) : (qcells r).length = 3 := rfl
theorem take_snoc {α : Type} {l : List α} {k : Nat} {a : α} (h : l[k]? = some a) : l.take (k + 1) = l.take k ++ [a] := by
  obtain ⟨h1, h2⟩ := List.getElem?_eq_some_iff.1 h
  rw [List.take_succ_eq_append_getElem h1, h2]
theorem smallQ_pu (n : Nat) (hn : n ≤ 1000000000) (rs : List RQ) (hl : rs.length ≤ 1000000000) : Pu Tryz.prog 40 [lit (.int .i64 n), sl (rs.map qcells).flatten rs.length] (lit (.bool (decide (∀ r ∈ rs, r.short n)))) := by
  refine Pu.intro Tryz.func40 rfl (by kernel_rfl) fun C => ?_
  repeat (refine A1 ⟨?_⟩; intros)
  refine WP.loopS (ι := Nat) (fun k => k ≤ rs.length ∧ ∀ r ∈ rs.take k, r.short n) (fun k => rs.length - k) (fun k => fm [(0, lit (.int .i64 n)), (7, sl (rs.map qcells).flatten rs.length), (8, lit (.int .i64 rs.length)), (9, lit (.int .i64 k))]) (fun _ => []) 0
    ⟨Nat.zero_le _, by simp⟩ (by (repeat (first | exact LeF.nil _ | refine LeF.cons (Le.refl _) ?_ | refine LeF.cons (Le.int (by omega)) ?_))) (List.nil_sublist _) ?_
  rintro k ⟨hk, hr⟩ K hK
  by_cases hkl : k < rs.length
  · have hget := List.getElem?_eq_getElem hkl
    generalize rs[k] = r at hget
    have hmem : r ∈ rs := List.mem_of_getElem? hget
    have hat := flat_at (f := qcells) (n := 3) qcells_len hget
    have hne : (rs.map qcells).flatten ≠ [] := flat_ne qcells_len (by omega) (fun e => by rw [e] at hkl; simp at hkl)
    by_cases h1 : r.n.length ≤ n
    · by_cases h2 : r.d.length ≤ n
      · have hK2 := hK
        repeat (refine A1 ⟨?_⟩; intros)
        refine Wo (ov_idxS (cs' := qcells r) rfl rfl (by omega) (by omega) hat hne) ?_
        repeat (refine A1 ⟨?_⟩; intros)
        refine hK _ _ (k + 1) ⟨by omega, ?_⟩ (by omega) (by (repeat (first | exact LeF.nil _ | refine LeF.cons (Le.refl _) ?_ | refine LeF.cons (Le.int (by omega)) ?_))) (List.nil_sublist _)
        rw [take_snoc hget]
        intro x hx
        rcases List.mem_append.1 hx with hx | hx
        · exact hr x hx
        · rw [List.mem_singleton] at hx; subst hx; exact ⟨h1, h2⟩
      · repeat (refine A1 ⟨?_⟩; intros)
        refine Wo (ov_idxS (cs' := qcells r) rfl rfl (by omega) (by omega) hat hne) ?_
        repeat (refine A1 ⟨?_⟩; intros)
        exact endR (end1 (RV.tmp rfl) (le_decF fun h => h2 (h r hmem).2))
    · repeat (refine A1 ⟨?_⟩; intros)
      refine Wo (ov_idxS (cs' := qcells r) rfl rfl (by omega) (by omega) hat hne) ?_
      repeat (refine A1 ⟨?_⟩; intros)
      exact endR (end1 (RV.tmp rfl) (le_decF fun h => h1 (h r hmem).1))
  · have hke : k = rs.length := by omega
    subst hke
    rw [List.take_length] at hr
    repeat (refine A1 ⟨?_⟩; intros)
    exact endR (end1 (RV.tmp rfl) (le_decT hr))
theorem smallQ_t (n : Nat) (hn : n ≤ 1000000000) (rs : List RQ) (hl : rs.length ≤ 1000000000) (h : ∀ r ∈ rs, r.short n) : Pu Tryz.prog 40 [lit (.int .i64 n), sl (rs.map qcells).flatten rs.length] (lit (.bool true)) := by
  have := smallQ_pu n hn rs hl; rwa [decide_eq_true h] at this
theorem smallQ_f (n : Nat) (hn : n ≤ 1000000000) (rs : List RQ) (hl : rs.length ≤ 1000000000) (h : ¬∀ r ∈ rs, r.short n) : Pu Tryz.prog 40 [lit (.int .i64 n), sl (rs.map qcells).flatten rs.length] (lit (.bool false)) := by
  have := smallQ_pu n hn rs hl; rwa [decide_eq_false h] at this
abbrev pcells (p : RQ × RQ) : List SV := [lit (.bool p.1.s), dg p.1.n, dg p.1.d, lit (.bool p.2.s), dg p.2.n, dg p.2.d]
theorem pcells_len (p : RQ × RQ) : (pcells p).length = 6 := rfl
theorem smallP_pu (n : Nat) (hn : n ≤ 1000000000) (ps : List (RQ × RQ)) (hl : ps.length ≤ 1000000000) : Pu Tryz.prog 19 [lit (.int .i64 n), sl (ps.map pcells).flatten ps.length] (lit (.bool (decide (∀ p ∈ ps, p.1.short n ∧ p.2.short n)))) := by
  refine Pu.intro Tryz.func19 rfl (by kernel_rfl) fun C => ?_
  repeat (refine A1 ⟨?_⟩; intros)
  refine WP.loopS (ι := Nat) (fun k => k ≤ ps.length ∧ ∀ p ∈ ps.take k, p.1.short n ∧ p.2.short n) (fun k => ps.length - k) (fun k => fm [(0, lit (.int .i64 n)), (7, sl (ps.map pcells).flatten ps.length), (8, lit (.int .i64 ps.length)), (9, lit (.int .i64 k))]) (fun _ => []) 0
    ⟨Nat.zero_le _, by simp⟩ (by (repeat (first | exact LeF.nil _ | refine LeF.cons (Le.refl _) ?_ | refine LeF.cons (Le.int (by omega)) ?_))) (List.nil_sublist _) ?_
  rintro k ⟨hk, hr⟩ K hK
  by_cases hkl : k < ps.length
  · have hget := List.getElem?_eq_getElem hkl
    generalize ps[k] = p at hget
    have hmem : p ∈ ps := List.mem_of_getElem? hget
    have hat := flat_at (f := pcells) (n := 6) pcells_len hget
    have hne : (ps.map pcells).flatten ≠ [] := flat_ne pcells_len (by omega) (fun e => by rw [e] at hkl; simp at hkl)
    by_cases h1 : ∀ r ∈ [p.1, p.2], r.short n
    · have hc := smallQ_t n hn [p.1, p.2] (by simp) h1
      have h2 := h1 p.1 (by simp)
      have h3 := h1 p.2 (by simp)
      repeat (refine A1 ⟨?_⟩; intros)
      refine Wo (ov_idxS (cs' := pcells p) rfl rfl (by omega) (by omega) hat hne) ?_
      repeat (refine A1 ⟨?_⟩; intros)
      refine WpubS 18 rfl (HDel.here _) (by omega) (by omega) ?_
      refine Wcx hc ?_
      repeat (refine A1 ⟨?_⟩; intros)
      refine hK _ _ (k + 1) ⟨by omega, ?_⟩ (by omega) (by (repeat (first | exact LeF.nil _ | refine LeF.cons (Le.refl _) ?_ | refine LeF.cons (Le.int (by omega)) ?_))) (List.nil_sublist _)
      rw [take_snoc hget]
      intro x hx
      rcases List.mem_append.1 hx with hx | hx
      · exact hr x hx
      · rw [List.mem_singleton] at hx; subst hx; exact ⟨h2, h3⟩
    · have hc := smallQ_f n hn [p.1, p.2] (by simp) h1
      repeat (refine A1 ⟨?_⟩; intros)
      refine Wo (ov_idxS (cs' := pcells p) rfl rfl (by omega) (by omega) hat hne) ?_
      repeat (refine A1 ⟨?_⟩; intros)
      refine WpubS 18 rfl (HDel.here _) (by omega) (by omega) ?_
      refine Wcx hc ?_
      repeat (refine A1 ⟨?_⟩; intros)
      exact endR (end1 (RV.tmp rfl) (le_decF fun h => h1 fun r hr => by
        have := h p hmem
        simp only [List.mem_cons, List.not_mem_nil, or_false] at hr
        rcases hr with rfl | rfl
        · exact this.1
        · exact this.2))
  · have hke : k = ps.length := by omega
    subst hke
    rw [List.take_length] at hr
    repeat (refine A1 ⟨?_⟩; intros)
    exact endR (end1 (RV.tmp rfl) (le_decT hr))
theorem smallP_t (n : Nat) (hn : n ≤ 1000000000) (ps : List (RQ × RQ)) (hl : ps.length ≤ 1000000000) (h : ∀ p ∈ ps, p.1.short n ∧ p.2.short n) : Pu Tryz.prog 19 [lit (.int .i64 n), sl (ps.map pcells).flatten ps.length] (lit (.bool true)) := by
  have := smallP_pu n hn ps hl; rwa [decide_eq_true h] at this
theorem smallP_f (n : Nat) (hn : n ≤ 1000000000) (ps : List (RQ × RQ)) (hl : ps.length ≤ 1000000000) (h : ¬∀ p ∈ ps, p.1.short n ∧ p.2.short n) : Pu Tryz.prog 19 [lit (.int .i64 n), sl (ps.map pcells).flatten ps.length] (lit (.bool false)) := by
  have := smallP_pu n hn ps hl; rwa [decide_eq_false h] at this
end Go.Ab
/- Package affine: Translation; the law AffineRough, walked. -/
namespace Go.Ab
open Go.Proofs
set_option linter.unusedSectionVars false
set_option linter.unusedVariables false
set_option linter.unusedSimpArgs false
variable [Base]
theorem ht_zero : ht 0 = 1 := by
  unfold ht il
  rw [show (0 : Rat).num = 0 from rfl, show (0 : Rat).den = 1 from rfl, show (0 : Int).natAbs = 0 from rfl, dgs_zero, dgs_one]; rfl
/-- a rational of package api, read by the reference -/
theorem q_of (x : Rat) (h : ht x ≤ 100000) : Pu Tryz.prog 175 [q x] (rq x) := by
  have := q_pu (RQ.of_ok h) (by omega)
  rwa [RQ.of_v] at this
def M6.of (m : M6 Rat) : M6 RQ := ⟨RQ.of m.a, RQ.of m.b, RQ.of m.c, RQ.of m.d, RQ.of m.e, RQ.of m.f⟩
theorem M6.of_v (m : M6 Rat) : m.of.v = m := by
  unfold M6.of M6.v
  simp only [RQ.of_v]
theorem M6.of_ok {m : M6 Rat} {L : Nat} (h : m.le L) : m.of.ok L := ⟨RQ.of_ok h.a, RQ.of_ok h.b, RQ.of_ok h.c, RQ.of_ok h.d, RQ.of_ok h.e, RQ.of_ok h.f⟩
end Go.Ab
/- Decimal texts of rational numbers: the reference's. -/
namespace Go.Ab
open Go.Proofs
set_option linter.unusedSectionVars false
set_option linter.unusedVariables false
set_option linter.unusedSimpArgs false
variable [Base]
/-- the text of a rational number -/
def fmt (x : Rat) : List UInt8 := (if x.num < 0 then [45] ++ dec x.num.natAbs else dec x.num.natAbs) ++ (if x.den = 1 then [] else [47] ++ dec x.den)
theorem dec_len {n L : Nat} (h : (dgs n).length ≤ L) : (dec n).length ≤ 10 * L + 1 := by
  unfold dec
  split
  · simp
  · rw [List.length_reverse]; have := decR_len h; omega
theorem rformat_pu (x : Rat) {L : Nat} (hx : ht x ≤ L) (hL : L ≤ 10000) : Pu Tryz.prog 203 [rq x] (str (fmt x)) := by
  have n1 := ht_num x
  have n2 := ht_den x
  have c1 := rtext_pu x.num.natAbs (L := L) (show il x.num ≤ L by omega) (by omega)
  have c2 := rtext_pu x.den (L := L) (by omega) (by omega)
  have l1 := dec_len (n := x.num.natAbs) (L := L) (show il x.num ≤ L by omega)
  have l2 := dec_len (n := x.den) (L := L) (by omega)
  unfold fmt
  generalize hD1 : dec x.num.natAbs = D1 at *
  generalize hD2 : dec x.den = D2 at *
  have k1 : ([45] : List UInt8).length = 1 := rfl
  have k2 : ([47] : List UInt8).length = 1 := rfl
  have k3 : ([47] ++ D2).length = D2.length + 1 := by simp
  have k4 : ([45] ++ D1).length = D1.length + 1 := by simp
  show Pu _ _ [ag [lit (.bool (decide (x.num < 0))), nat x.num.natAbs, dg (dden x.den)]] _
  by_cases h2 : x.den = 1
  · rw [if_pos h2, List.append_nil]
    have e := dden_len1 h2
    by_cases h1 : x.num < 0
    · rw [if_pos h1, decide_eq_true h1]
      refine Pu.intro Tryz.func203 rfl (by kernel_rfl) fun C => ?_
      repeat (first | (refine A1 ⟨?_⟩; intros) | (refine Wcx (c1) ?_) | (refine Wdcx (c1) ?_) | (refine Wcgx (c1) ?_) | (refine Wdcgx (c1) ?_))
      ((first | refine endR ?_ | refine endN ?_); exact end1 (RV.tmp rfl) (Le.refl _))
    · rw [if_neg h1, decide_eq_false h1]
      refine Pu.intro Tryz.func203 rfl (by kernel_rfl) fun C => ?_
      repeat (first | (refine A1 ⟨?_⟩; intros) | (refine Wcx (c1) ?_) | (refine Wdcx (c1) ?_) | (refine Wcgx (c1) ?_) | (refine Wdcgx (c1) ?_))
      ((first | refine endR ?_ | refine endN ?_); exact end1 (RV.tmp rfl) (Le.refl _))
  · rw [if_neg h2]
    have e := dden_len x.den_nz h2
    rw [dden_ne h2] at *
    by_cases h1 : x.num < 0
    · rw [if_pos h1, decide_eq_true h1]
      refine Pu.intro Tryz.func203 rfl (by kernel_rfl) fun C => ?_
      repeat (first | (refine A1 ⟨?_⟩; intros) | (refine Wcx (c1) ?_) | (refine Wdcx (c1) ?_) | (refine Wcgx (c1) ?_) | (refine Wdcgx (c1) ?_) | (refine Wcx (c2) ?_) | (refine Wdcx (c2) ?_) | (refine Wcgx (c2) ?_) | (refine Wdcgx (c2) ?_))
      ((first | refine endR ?_ | refine endN ?_); exact end1 (RV.tmp rfl) (Le.refl _))
    · rw [if_neg h1, decide_eq_false h1]
      refine Pu.intro Tryz.func203 rfl (by kernel_rfl) fun C => ?_
      repeat (first | (refine A1 ⟨?_⟩; intros) | (refine Wcx (c1) ?_) | (refine Wdcx (c1) ?_) | (refine Wcgx (c1) ?_) | (refine Wdcgx (c1) ?_) | (refine Wcx (c2) ?_) | (refine Wdcx (c2) ?_) | (refine Wcgx (c2) ?_) | (refine Wdcgx (c2) ?_))
      ((first | refine endR ?_ | refine endN ?_); exact end1 (RV.tmp rfl) (Le.refl _))
theorem fmt_len {x : Rat} {L : Nat} (hx : ht x ≤ L) : (fmt x).length ≤ 20 * L + 4 ∧ 1 ≤ (fmt x).length := by
  have n1 := ht_num x
  have n2 := ht_den x
  have l1 := dec_len (n := x.num.natAbs) (L := L) (show il x.num ≤ L by omega)
  have l2 := dec_len (n := x.den) (L := L) (by omega)
  have p : ∀ n, 1 ≤ (dec n).length := fun n => by
    unfold dec
    split
    · simp
    · rename_i h; rw [decR_pos h]; simp
  have p1 := p x.num.natAbs
  unfold fmt
  split <;> split <;> simp <;> omega
theorem fmt_zero : fmt 0 = [48] := by
  unfold fmt dec
  simp
/-- the reference's text of a point whose second coordinate is 0 -/
theorem rtextP_pu (x : Rat) {L : Nat} (hx : ht x ≤ L) (hL : L ≤ 10000) : Pu Tryz.prog 174 [ag [lit (.bool (decide (x.num < 0))), nat x.num.natAbs, dg (dden x.den), lit (.bool false), lit (.slice none 0 0), lit (.slice none 0 0)]] (str ([40] ++ fmt x ++ [44] ++ [48] ++ [41])) := by
  have c1 := rformat_pu x hx hL
  have c2 := (rformat_pu 0 (L := 1) (by rw [ht_zero]; omega) (by omega)).arg (l' := [ag [lit (.bool false), lit (.slice none 0 0), lit (.slice none 0 0)]]) ⟨Le.ag (by repeat (first | exact trivial | refine ⟨?_, ?_⟩ | exact Le.refl _ | exact leN0 | exact leD0)), trivial⟩
  rw [fmt_zero] at c2
  have hl := fmt_len hx
  generalize fmt x = s at *
  have k1 : ([40] : List UInt8).length = 1 := rfl
  have k2 : ([44] : List UInt8).length = 1 := rfl
  have k3 : ([48] : List UInt8).length = 1 := rfl
  have k4 : ([41] : List UInt8).length = 1 := rfl
  have l1 : ([40] ++ s).length = s.length + 1 := by simp
  have l2 : ([40] ++ s ++ [44]).length = s.length + 2 := by simp
  have l3 : ([40] ++ s ++ [44] ++ [48]).length = s.length + 3 := by simp
  refine Pu.intro Tryz.func174 rfl (by kernel_rfl) fun C => ?_
  repeat (first | (refine A1 ⟨?_⟩; intros) | (refine Wcx (c1) ?_) | (refine Wdcx (c1) ?_) | (refine Wcgx (c1) ?_) | (refine Wdcgx (c1) ?_) | (refine Wcx (c2) ?_) | (refine Wdcx (c2) ?_) | (refine Wcgx (c2) ?_) | (refine Wdcgx (c2) ?_))
  ((first | refine endR ?_ | refine endN ?_); exact end1 (RV.tmp rfl) (Le.refl _))
/-- the reference's check of normal form, of what is in normal form -/
theorem normalQ_t (x : Rat) {L : Nat} (hx : ht x ≤ L) (hL : L ≤ 10000) : Pu Tryz.prog 173 [q x] (lit (.bool true)) := by
  have c1 := q_of x (by omega)
  have c2 := toQ_pu x (by omega)
  have c3 := sameq_pu x (by omega)
  have e := dgs_ne_nil x.den_nz
  refine Pu.intro Tryz.func173 rfl (by kernel_rfl) fun C => ?_
  repeat (first | (refine A1 ⟨?_⟩; intros) | (refine Wcx (c1) ?_) | (refine Wdcx (c1) ?_) | (refine Wcgx (c1) ?_) | (refine Wdcgx (c1) ?_) | (refine Wcx (c2) ?_) | (refine Wdcx (c2) ?_) | (refine Wcgx (c2) ?_) | (refine Wdcgx (c2) ?_) | (refine Wcx (c3) ?_) | (refine Wdcx (c3) ?_) | (refine Wcgx (c3) ?_) | (refine Wdcgx (c3) ?_))
  ((first | refine endR ?_ | refine endN ?_); exact end1 (RV.tmp rfl) (Le.refl _))
end Go.Ab
/- Sentinel errors: package variables that hold a pointer to an errors.errorString; errors.Is of one and the same. -/
namespace Go.Ab
open Go.Proofs
set_option linter.unusedSectionVars false
set_option linter.unusedVariables false
set_option linter.unusedSimpArgs false
variable [Base]
/-- where a sentinel's text lies -/
def addrIn : Option Value → Addr
  | some (.iface _ (.pointer (some a))) => a
  | _ => ⟨0, 0, none⟩
def gaddr (g : Nat) : Addr := match Base.mem g with
  | some (.cells arr _ _) => addrIn arr[0]?
  | _ => ⟨0, 0, none⟩
/-- a sentinel -/
abbrev sent (g : Nat) : Value := .iface 330 (.pointer (some (gaddr g)))
class Sent (g : Nat) : Prop where
  h : ∃ (a : Addr) (T : TypeId) (fz : Nat × Nat), Base.mem g = some (.cells #[.iface 330 (.pointer (some a))] T fz)
instance (g : Nat) [s : Sent g] : GV g (sent g) := ⟨by
  obtain ⟨a, T, fz, h⟩ := s.h
  refine ⟨T, fz, ?_⟩
  unfold sent gaddr
  rw [h]; rfl⟩
theorem isTypeOf (v : Value) (w : World) : (Extern.ReflectliteType.typeOf #[.iface 330 v]).run Tryz.prog w = .ok (.iface 125 (.agg #[.pointer (some ⟨(Tryz.prog).globals.size, 330, none⟩)])) w := by kernel_rfl
theorem isComparable (w : World) : ((Extern.ReflectliteType.method fun t => do Extern.Rtype.noPackHeld "Comparable" t; pure (.bool (← typeInfo t).comparable)) #[.agg #[.pointer (some ⟨(Tryz.prog).globals.size, 330, none⟩)]]).run Tryz.prog w = .ok (.bool true) w := by kernel_rfl
theorem isMethodC (v : Value) (w : World) : (Go.method ((Tryz.prog).types.size + Made.depth) 125 v "Comparable").run Tryz.prog w = .ok (309, v) w := by kernel_rfl
section
variable {F : Fr} {H : LH} {ty : TypeId}
theorem ov_typeOf {x : Operand} {v : Value} {tys : Array TypeId} (hx : ev F x = lit (.iface 330 v)) : OpV Tryz.prog (.call ⟨.value (.func 44), [x].toArray, tys⟩) ty F H (lit (.iface 125 (.agg #[.pointer (some ⟨(Tryz.prog).globals.size, 330, none⟩)]))) :=
  OpV.pure fun m w o a ho _ _ _ h => by
    have h0 := h x (by simp [Op.operands, Call.operands]); rw [hx, lit_p] at h0
    have h8 := @run_callFunc_extern Tryz.prog 44 _ Extern.ReflectliteType.typeOf Tryz.func44 (by kernel_rfl) (by kernel_rfl) (by kernel_rfl) (by kernel_rfl)
    refine ⟨_, ?_, lit_p.2 rfl⟩
    have := h8 #[a.eval x] w
    rw [h0, isTypeOf, ← h0] at this
    simp only [execOp, ho, resolve, Sem.run_bind, Sem.run_pure, Result.andThen_ok]
    have e1 : a.eval (.func 44) = .func (.func 44) #[] #[] := rfl
    simp only [e1, Deferred.ofValue, Sem.run_pure, Result.andThen_ok, invoke, List.map_toArray, List.map_cons, List.map_nil, Array.empty_append, Array.append_empty, this]
theorem ov_cmpble {x : Operand} {tys : Array TypeId} (hx : ev F x = lit (.iface 125 (.agg #[.pointer (some ⟨(Tryz.prog).globals.size, 330, none⟩)]))) : OpV Tryz.prog (.call ⟨.invoke x "Comparable", #[], tys⟩) ty F H (lit (.bool true)) :=
  OpV.pure fun m w o a ho _ _ _ h => by
    have h0 := h x (by simp [Op.operands, Call.operands]); rw [hx, lit_p] at h0
    have h8 := @run_callFunc_extern Tryz.prog 309 _ (Extern.ReflectliteType.method fun t => do Extern.Rtype.noPackHeld "Comparable" t; pure (.bool (← typeInfo t).comparable)) Tryz.func309 (by kernel_rfl) (by kernel_rfl) (by kernel_rfl) (by kernel_rfl)
    refine ⟨_, ?_, lit_p.2 rfl⟩
    have := h8 #[.agg #[.pointer (some ⟨(Tryz.prog).globals.size, 330, none⟩)]] w
    have hc := isComparable w
    have hm := isMethodC (.agg #[.pointer (some ⟨(Tryz.prog).globals.size, 330, none⟩)]) w
    rw [hc] at this
    have hz : (callMethod (.iface 125 (.agg #[.pointer (some ⟨(Tryz.prog).globals.size, 330, none⟩)])) "Comparable" #[]).run Tryz.prog w = .ok (.value (.bool true)) w := by
      simp only [callMethod, Sem.run_bind, run_program, Result.andThen_ok, hm, Array.append_empty, this]
    have he : execOp a.eval o = callMethod (a.eval x) "Comparable" #[] := by
      simp [execOp, ho, resolve, invoke]
    rw [he, h0, hz]
theorem ov_isame {g : Nat} {x y : Operand} {T' : TypeId} (hx : ev F x = lit (sent g)) (hy : ev F y = lit (sent g)) : OpV Tryz.prog (.binOp .eql 38 x y T') ty F H (lit (.bool true)) :=
  ov_bin hx hy (fun w => by
    obtain ⟨i, hi, hc⟩ := Option.map_eq_some_iff.1 (show ((Tryz.prog).info? 330).map (·.comparable) = some true by kernel_rfl)
    obtain ⟨j, hj, _⟩ := Option.map_eq_some_iff.1 (show ((Tryz.prog).info? 332).map (·.size) = some 1 by kernel_rfl)
    exact run_eql_iface_ptr_same w _ Tryz.underlying38 Tryz.underlying330 hi hc hj) (fun w => by simp [Go.eqGuard])
end
theorem is1_pu (g : Nat) : Pu Tryz.prog 45 [lit (sent g), lit (sent g), lit (.bool true)] (lit (.bool true)) := by
  refine Pu.intro Tryz.func45 rfl (by kernel_rfl) fun C => ?_
  repeat (refine A1 ⟨?_⟩; intros)
  refine WP.loop (ι := Unit) (fun _ => True) (fun _ => 0) (fun _ => fm [(0, lit (sent g)), (1, lit (sent g)), (2, lit (.bool true))]) (fun _ => []) () trivial (by (repeat (first | exact LeF.nil _ | refine LeF.cons (Le.refl _) ?_ | refine LeF.cons (Le.int (by omega)) ?_))) rfl ?_
  rintro _ _ K hK
  repeat (refine A1 ⟨?_⟩; intros)
  refine WgE ?_
  refine Wo (ov_isame rfl rfl) ?_
  repeat (refine A1 ⟨?_⟩; intros)
  ((first | refine endR ?_ | refine endN ?_); exact end1 (RV.tmp rfl) (Le.refl _))
theorem is_pu (g : Nat) : Pu Tryz.prog 22 [lit (sent g), lit (sent g)] (lit (.bool true)) := by
  refine Pu.intro Tryz.func22 rfl (by kernel_rfl) fun C => ?_
  repeat (refine A1 ⟨?_⟩; intros)
  refine Wo (ov_typeOf rfl) ?_
  refine Wo (ov_cmpble rfl) ?_
  repeat (first | (refine A1 ⟨?_⟩; intros) | (refine Wcx (is1_pu g) ?_) | (refine Wdcx (is1_pu g) ?_) | (refine Wcgx (is1_pu g) ?_) | (refine Wdcgx (is1_pu g) ?_))
  ((first | refine endR ?_ | refine endN ?_); exact end1 (RV.tmp rfl) (Le.refl _))
end Go.Ab
