/- Texts laid one behind the other: RgC, RgO, Itoa, IsG, DrwM. -/
import Derived.Test.YtjdnfbhbdfokcaaGreatDoorB17
import Derived.Test.YtjdnfbhbdfokcaaGreatDoorB10
import Derived.Shelf.Strconv.Itoa3
import Derived.Stop.Asserts
import Derived.LaidEql
import Derived.Test.YtjdnfbhbdfokcaaGreatDoorB04
import Derived.Test.YtjdnfbhbdfokcaaGreatDoorB15
set_option linter.unusedSectionVars false
set_option linter.unusedVariables false
set_option linter.unusedSimpArgs false
namespace Go.Ab
open Go.Proofs
variable [Base]
def badE (l : List Pq) (i : Nat) : Bool := decide (l[i]? = l[(i + 1) % l.length]?)
def chk (ps : List (RQ × RQ)) : Nat := if ps.all nrmP = false then 2 else if (srt (ps.map rvl)).length < 3 then 3 else if (List.range ps.length).any (badE (ps.map rvl)) = true then 3 else 0
set_option maxHeartbeats 4000000 in
theorem check_pu (ps : List (RQ × RQ)) {L : Nat} (hl : ps.length ≤ 4096) (hh : ∀ p ∈ ps, p.1.ok L ∧ p.2.ok L) (hL : L ≤ 1000) : Pu Tryz.prog 13 [raws ps] (lit (.int .i64 (chk ps : Nat))) := by
  refine Pu.intro Tryz.func13 rfl (by kernel_rfl) fun C => ?_
  repeat (refine A1 ⟨?_⟩; intros)
  refine WP.loopS (ι := Nat) (fun k => k ≤ ps.length ∧ ∀ p ∈ ps.take k, nrmP p = true) (fun k => ps.length - k) (fun k => fm [(0, raws ps), (10, raws ps), (11, lit (.int .i64 ps.length)), (12, lit (.int .i64 k))]) (fun _ => []) 0
    ⟨Nat.zero_le _, fun p h => by simp at h⟩ (by (repeat (first | exact LeF.nil _ | refine LeF.cons (Le.refl _) ?_ | refine LeF.cons (Le.int (by omega)) ?_))) (List.nil_sublist _) ?_
  rintro k ⟨hk, hn⟩ K hK
  by_cases hkl : k < ps.length
  · have hget := List.getElem?_eq_getElem hkl
    generalize ps[k] = p at hget
    obtain ⟨h1, h2⟩ := hh p (List.mem_of_getElem? hget)
    have hat := flat_at (f := pcells) (n := 6) pcells_len hget
    have hne : (ps.map pcells).flatten ≠ [] := flat_ne pcells_len (by omega) (fun e => by rw [e] at hkl; simp at hkl)
    have c := rnormalP_pu p h1 h2 hL
    cases hp : nrmP p with
    | true =>
      have hgo := fun F' H' => hK F' H' (k + 1) ⟨by omega, fun q hq => by
        rw [take_snoc hget] at hq
        rcases List.mem_append.1 hq with h | h
        · exact hn q h
        · rw [List.mem_singleton] at h; subst h; exact hp⟩ (by omega)
      rw [hp] at c
      clear hK hn hh
      repeat (refine A1 ⟨?_⟩; intros)
      refine Wo (ov_idxS (cs' := pcells p) rfl rfl (by omega) (by omega) hat hne) ?_
      repeat (first | (refine A1 ⟨?_⟩; intros) | (refine Wcx (c) ?_) | (refine Wdcx (c) ?_) | (refine Wcgx (c) ?_) | (refine Wdcgx (c) ?_))
      exact hgo _ _ (by (repeat (first | exact LeF.nil _ | refine LeF.cons (Le.refl _) ?_ | refine LeF.cons (Le.int (by omega)) ?_))) (List.nil_sublist _)
    | false =>
      have hc : chk ps = 2 := by
        unfold chk
        rw [if_pos (List.all_eq_false.2 ⟨p, List.mem_of_getElem? hget, by rw [hp]; decide⟩)]
      rw [hp] at c
      rw [hc]
      clear hK hn hh
      repeat (refine A1 ⟨?_⟩; intros)
      refine Wo (ov_idxS (cs' := pcells p) rfl rfl (by omega) (by omega) hat hne) ?_
      repeat (first | (refine A1 ⟨?_⟩; intros) | (refine Wcx (c) ?_) | (refine Wdcx (c) ?_) | (refine Wcgx (c) ?_) | (refine Wdcgx (c) ?_))
      exact endR (end1 (RV.tmp rfl) (Le.refl _))
  · have hke : k = ps.length := by omega
    subst hke
    rw [List.take_length] at hn
    have hall : ps.all nrmP = true := List.all_eq_true.2 fun p hp => hn p hp
    have c1 := pts_pu ps (by omega) hh (by omega)
    have hlm : (ps.map rvl).length = ps.length := List.length_map ..
    have hht : ∀ p ∈ ps.map rvl, ht p.1 ≤ 100000 ∧ ht p.2 ≤ 100000 := fun p hp => by
      obtain ⟨q, hq, rfl⟩ := List.mem_map.1 hp
      obtain ⟨h1, h2⟩ := hh q hq
      have := ht_v h1
      have := ht_v h2
      simp only [rvl]
      omega
    have c2 := sorted_pu (ps.map rvl) (by omega) (fun p hp => by have := hht p hp; omega)
    have hsl := srt_len (ps.map rvl)
    have hchk : chk ps = if (srt (ps.map rvl)).length < 3 then 3 else if (List.range ps.length).any (badE (ps.map rvl)) = true then 3 else 0 := by
      unfold chk; rw [if_neg (by rw [hall]; decide)]
    rw [hchk]
    have hll : (ps.map rvl).length ≤ 4096 := by omega
    rw [← hlm]
    generalize ps.map rvl = l at *
    by_cases h3 : (srt l).length < 3
    · rw [if_pos h3]
      clear hK hn hall hht hh
      repeat (first | (refine A1 ⟨?_⟩; intros) | (refine Wcx (c1) ?_) | (refine Wdcx (c1) ?_) | (refine Wcgx (c1) ?_) | (refine Wdcgx (c1) ?_) | (refine Wcx (c2) ?_) | (refine Wdcx (c2) ?_) | (refine Wcgx (c2) ?_) | (refine Wdcgx (c2) ?_))
      exact endR (end1 (RV.tmp rfl) (Le.refl _))
    · rw [if_neg h3]
      clear hK hn hall hh
      repeat (first | (refine A1 ⟨?_⟩; intros) | (refine Wcx (c1) ?_) | (refine Wdcx (c1) ?_) | (refine Wcgx (c1) ?_) | (refine Wdcgx (c1) ?_) | (refine Wcx (c2) ?_) | (refine Wdcx (c2) ?_) | (refine Wcgx (c2) ?_) | (refine Wdcgx (c2) ?_))
      refine WP.loopS (ι := Nat) (fun k => k ≤ l.length ∧ ∀ i, i < k → badE l i = false) (fun k => l.length - k) (fun k => fm [(5, rps l), (26, rps l), (27, lit (.int .i64 l.length)), (28, lit (.int .i64 k))]) (fun _ => []) 0
        ⟨Nat.zero_le _, fun i h => by omega⟩ (by (repeat (first | exact LeF.nil _ | refine LeF.cons (Le.refl _) ?_ | refine LeF.cons (Le.int (by omega)) ?_))) (List.nil_sublist _) ?_
      clear c1 c2 hkl
      rintro k ⟨hk, hn⟩ K hK
      by_cases hkl : k < l.length
      · have hget := List.getElem?_eq_getElem hkl
        generalize l[k] = p at hget
        have hat := flat_at (f := rpx) (n := 6) rpx_len hget
        have hml : (k + 1) % l.length < l.length := Nat.mod_lt _ (by omega)
        have hget2 := List.getElem?_eq_getElem hml
        generalize l[(k + 1) % l.length] = q at hget2
        have hat2 := flat_at (f := rpx) (n := 6) rpx_len hget2
        have hne : (l.map rpx).flatten ≠ [] := flat_ne rpx_len (by omega) (fun e => by rw [e] at hkl; simp at hkl)
        have htm : ((k : Int) + 1).tmod (l.length : Int) = (((k + 1) % l.length : Nat) : Int) := rfl
        have htm1 : 0 ≤ ((k : Int) + 1).tmod (l.length : Int) := by rw [htm]; omega
        have htm2 : ((k : Int) + 1).tmod (l.length : Int) < (l.length : Int) := by rw [htm]; exact_mod_cast hml
        have hat2' : (((l.map rpx).flatten).drop ((((k : Int) + 1).tmod (l.length : Int)).toNat * 6)).take 6 = rpx q := by rw [htm]; exact hat2
        have g1 := hht p (List.mem_of_getElem? hget)
        have g2 := hht q (List.mem_of_getElem? hget2)
        have c := rsame_pu p.1 p.2 q.1 q.2 (by omega) (by omega) (by omega) (by omega)
        have hbe : badE l k = decide (p = q) := by unfold badE; rw [hget, hget2]; simp
        by_cases hpq : p = q
        · have hany : (List.range l.length).any (badE l) = true := List.any_eq_true.2 ⟨k, List.mem_range.2 hkl, by rw [hbe, decide_eq_true hpq]⟩
          rw [if_pos hany]
          rw [decide_eq_true (show p.1 = q.1 ∧ p.2 = q.2 by rw [hpq]; exact ⟨rfl, rfl⟩)] at c
          clear hK hn hht hbe hget hget2 hany g1 g2
          repeat (refine A1 ⟨?_⟩; intros)
          refine Wdo (ov_idxS (cs' := rpx p) rfl rfl (by omega) (by omega) hat hne) ?_
          repeat (refine A1 ⟨?_⟩; intros)
          refine Wdo (ov_idxS (cs' := rpx q) rfl rfl htm1 htm2 hat2' hne) ?_
          repeat (first | (refine A1 ⟨?_⟩; intros) | (refine Wcx (c) ?_) | (refine Wdcx (c) ?_) | (refine Wcgx (c) ?_) | (refine Wdcgx (c) ?_))
          exact endR (end1 (RV.tmp rfl) (Le.refl _))
        · have hgo := fun F' H' => hK F' H' (k + 1) ⟨by omega, fun i hi => by
            by_cases he : i = k
            · rw [he, hbe, decide_eq_false hpq]
            · exact hn i (by omega)⟩ (by omega)
          rw [decide_eq_false (show ¬(p.1 = q.1 ∧ p.2 = q.2) from fun e => hpq (Prod.ext e.1 e.2))] at c
          clear hK hn hht hbe hget hget2 g1 g2
          repeat (refine A1 ⟨?_⟩; intros)
          refine Wdo (ov_idxS (cs' := rpx p) rfl rfl (by omega) (by omega) hat hne) ?_
          repeat (refine A1 ⟨?_⟩; intros)
          refine Wdo (ov_idxS (cs' := rpx q) rfl rfl htm1 htm2 hat2' hne) ?_
          repeat (first | (refine A1 ⟨?_⟩; intros) | (refine Wcx (c) ?_) | (refine Wdcx (c) ?_) | (refine Wcgx (c) ?_) | (refine Wdcgx (c) ?_))
          exact hgo _ _ (by (repeat (first | exact LeF.nil _ | refine LeF.cons (Le.refl _) ?_ | refine LeF.cons (Le.int (by omega)) ?_))) (List.nil_sublist _)
      · have hke : k = l.length := by omega
        subst hke
        rw [if_neg (by
          intro h
          obtain ⟨i, hi, hb⟩ := List.any_eq_true.1 h
          rw [hn i (List.mem_range.1 hi)] at hb; cases hb)]
        clear hK hn hht
        repeat (refine A1 ⟨?_⟩; intros)
        exact endR (end1 (RV.tmp rfl) (Le.refl _))
theorem nrmQ_self (x : Rat) : nrmQ (RQ.of x) = true := by
  unfold nrmQ
  rw [RQ.of_v]
  exact decide_eq_true ⟨rfl, rfl, rfl⟩
theorem normalP_t (p : Pq) (h1 : ht p.1 ≤ 100000 ∧ ht p.2 ≤ 100000) : Pu Tryz.prog 66 [ag (apx p)] (lit (.bool true)) := by
  have c1 := fnormal_pu (RQ.of_ok h1.1) (by omega)
  have c2 := fnormal_pu (RQ.of_ok h1.2) (by omega)
  rw [nrmQ_self] at c1 c2
  replace c1 : Pu Tryz.prog 122 [q p.1] (lit (.bool true)) := c1
  replace c2 : Pu Tryz.prog 122 [q p.2] (lit (.bool true)) := c2
  refine Pu.intro Tryz.func66 rfl (by kernel_rfl) fun C => ?_
  repeat (first | (refine A1 ⟨?_⟩; intros) | (refine Wcx (c1) ?_) | (refine Wdcx (c1) ?_) | (refine Wcgx (c1) ?_) | (refine Wdcgx (c1) ?_) | (refine Wcx (c2) ?_) | (refine Wdcx (c2) ?_) | (refine Wcgx (c2) ?_) | (refine Wdcgx (c2) ?_))
  ((first | refine endR ?_ | refine endN ?_); exact end1 (RV.tmp rfl) (Le.refl _))
theorem ptOf_t (p : Pq) (h1 : ht p.1 ≤ 100000 ∧ ht p.2 ≤ 100000) : Pu Tryz.prog 53 [ag (apx p)] (ag (ppx p)) := by
  have c := ptOf_pu (RQ.of_ok h1.1) (RQ.of_ok h1.2) (by omega)
  rw [RQ.of_v, RQ.of_v] at c
  exact c
theorem idx_take : ∀ {l : List Pq} {p : Pq} {k : Nat}, p ∈ l.take k → l.idxOf p < k
  | [], p, k, h => by simp at h
  | a :: l, p, 0, h => by simp at h
  | a :: l, p, k + 1, h => by
    rw [List.take_succ_cons, List.mem_cons] at h
    rw [List.idxOf_cons]
    cases hb : (a == p) with
    | true => rw [cond_true]; omega
    | false =>
      rw [cond_false]
      have hne : a ≠ p := beq_eq_false_iff_ne.1 hb
      rcases h with h | h
      · exact absurd h.symm hne
      · have := idx_take h; omega
abbrev ppe (p q : Pq) : List SV := [lit (.int .i64 (r0 p.1)), lit (.int .i64 (r1 p.1)), r2 p.1, lit (.int .i64 (r0 p.2)), lit (.int .i64 (r1 p.2)), r2 p.2, lit (.int .i64 (r0 q.1)), lit (.int .i64 (r1 q.1)), r2 q.1, lit (.int .i64 (r0 q.2)), lit (.int .i64 (r1 q.2)), r2 q.2]
def cnt3 (l : List Pq) (k : Nat) : Nat := min 3 (dst (l.take k)).length
theorem cnt3_in {l : List Pq} {k : Nat} {p : Pq} (h : l[k]? = some p) (hp : p ∈ l.take k) : cnt3 l (k + 1) = cnt3 l k := by
  unfold cnt3
  rw [take_snoc h, dst_snoc, if_pos (((dst_spec _).2 p).2 hp)]
theorem cnt3_out {l : List Pq} {k : Nat} {p : Pq} (h : l[k]? = some p) (hp : p ∉ l.take k) (hc : cnt3 l k < 3) : cnt3 l (k + 1) = cnt3 l k + 1 := by
  unfold cnt3 at *
  rw [take_snoc h, dst_snoc, if_neg (fun e => hp (((dst_spec _).2 p).1 e)), List.length_append, List.length_singleton]
  omega
theorem cnt3_full {l : List Pq} {k : Nat} {p : Pq} (h : l[k]? = some p) (hc : ¬ cnt3 l k < 3) : cnt3 l (k + 1) = cnt3 l k := by
  unfold cnt3 at *
  rw [take_snoc h, dst_snoc]
  split
  · rfl
  · rw [List.length_append, List.length_singleton]; omega
set_option maxHeartbeats 4000000 in
theorem ringOf_ok (l : List Pq) (hl : l.length ≤ 4096) (hh : ∀ p ∈ l, ht p.1 ≤ 100000 ∧ ht p.2 ≤ 100000) (h3 : 3 ≤ (srt l).length) (he : ∀ i, i < l.length → badE l i = false) : Pu Tryz.prog 27 [aps l] (Ab.tup [pps l, lit .nilIface]) := by
  refine PuH.toPu ?_
  refine PuH.introE Tryz.func27 rfl (by kernel_rfl) fun C hpan hdf => ?_
  have E0 := @efin0 _ Tryz.prog C 86 Tryz.f27 (fun r _ => r = Ab.tup [pps l, lit .nilIface]) hpan hdf
  have E := fun e a w (_ : e ≠ Exit.normal) h => E0 e a w h
  refine WPE.seq (Q := endH Tryz.prog _ _) ?_ E
  repeat (refine A1 ⟨?_⟩; intros)
  refine WPE.seq (Q := endH Tryz.prog _ _) ?_ E
  repeat (refine A1 ⟨?_⟩; intros)
  refine WPE.seq (Q := endH Tryz.prog _ _) ?_ E
  repeat (refine A1 ⟨?_⟩; intros)
  rename_i b2 b3
  refine WPE.seq (Q := endH Tryz.prog _ _) ?_ E
  repeat (refine A1 ⟨?_⟩; intros)
  refine WP.loopS (ι := RwSt) (fun y => y.k ≤ l.length ∧ Own 92 6 y.k ((l.take y.k).map ppx).flatten y.s y.Hs) (fun y => l.length - y.k) (fun y => fm [(2, lit (.pointer (some ⟨b2, 0, none⟩))), (3, lit (.pointer (some ⟨b3, 0, none⟩))), (4, y.s), (19, aps l), (20, lit (.int .i64 l.length)), (21, lit (.int .i64 y.k))])
    (fun y => (b3, 39, [lit .nilIface]) :: (b2, 85, [lit (.slice none 0 0)]) :: y.Hs) ⟨0, lit (.slice none 0 0), []⟩ ⟨Nat.zero_le _, Own.nil _ _⟩ (by (repeat (first | exact LeF.nil _ | refine LeF.cons (Le.refl _) ?_ | refine LeF.cons (Le.int (by omega)) ?_))) (List.Sublist.refl _) ?_
  rintro ⟨k, s, Hs⟩ ⟨hk, hown⟩ K hK
  simp only at hk hown ⊢
  have hco := hown.co
  by_cases hkl : k < l.length
  · have hget := List.getElem?_eq_getElem hkl
    generalize l[k] = p at hget
    have hhp := hh p (List.mem_of_getElem? hget)
    have hat := flat_at (f := apx) (n := 6) apx_len hget
    have hne : (l.map apx).flatten ≠ [] := flat_ne apx_len (by omega) (fun e => by rw [e] at hkl; simp at hkl)
    have c1 := normalP_t p hhp
    have c2 := ptOf_t p hhp
    have hgo := fun s' Hs' h F' H' => hK F' H' ⟨k + 1, s', Hs'⟩ ⟨by simp only; omega, h⟩ (by simp only; omega)
    simp only [map_take_snoc hget] at hgo
    clear hK hh E
    repeat (refine A1 ⟨?_⟩; intros)
    refine Wo (ov_idxS (cs' := apx p) rfl rfl (by omega) (by omega) hat hne) ?_
    repeat (first | (refine A1 ⟨?_⟩; intros) | (refine Wcx (c1) ?_) | (refine Wdcx (c1) ?_) | (refine Wcgx (c1) ?_) | (refine Wdcgx (c1) ?_) | (refine Wcx (c2) ?_) | (refine Wdcx (c2) ?_) | (refine Wcgx (c2) ?_) | (refine Wdcgx (c2) ?_))
    refine Wown hown (by omega) (fun s2 H2 hown' => ?_)
    have hco2 := hown'.co
    replace hgo := hgo s2 H2 hown'
    simp only [List.cons_append, List.nil_append]
    clear hown hown'
    repeat (refine A1 ⟨?_⟩; intros)
    exact hgo _ _ (by (repeat (first | exact LeF.nil _ | refine LeF.cons (Le.refl _) ?_ | refine LeF.cons (Le.int (by omega)) ?_))) (by repeat (first | exact List.Sublist.refl _ | refine List.Sublist.cons _ ?_))
  have hke : k = l.length := by omega
  subst hke
  rw [List.take_length] at hown
  clear hK hkl hk
  refine WP.rowS 4 hown rfl (show ([(b3, 39, [lit .nilIface]), (b2, 85, [lit (.slice none 0 0)])] ++ Hs).Perm _ from List.perm_append_comm) ?_
  clear hown hco
  repeat (refine A1 ⟨?_⟩; intros)
  refine WPE.seq (Q := endH Tryz.prog _ _) ?_ E
  repeat (refine A1 ⟨?_⟩; intros)
  refine WPE.seq (Q := endH Tryz.prog _ _) ?_ E
  repeat (refine A1 ⟨?_⟩; intros)
  refine WP.loopS (ι := Nat) (fun k => k ≤ l.length) (fun k => l.length - k) (fun k => fm [(2, lit (.pointer (some ⟨b2, 0, none⟩))), (3, lit (.pointer (some ⟨b3, 0, none⟩))), (4, pps l), (7, lit (.int .i64 (cnt3 l k : Nat))), (43, pps l), (44, lit (.int .i64 l.length)), (45, lit (.int .i64 k))])
    (fun _ => [(b3, 39, [lit .nilIface]), (b2, 85, [lit (.slice none 0 0)])]) 0 (Nat.zero_le _) (by (repeat (first | exact LeF.nil _ | refine LeF.cons (Le.refl _) ?_ | refine LeF.cons (Le.int (by omega)) ?_))) (List.Sublist.refl _) ?_
  rintro k hk K hK
  by_cases hkl : k < l.length
  · have hget := List.getElem?_eq_getElem hkl
    generalize l[k] = p at hget
    have hhp := hh p (List.mem_of_getElem? hget)
    have hat := flat_at (f := ppx) (n := 6) ppx_len hget
    have hne : (l.map ppx).flatten ≠ [] := flat_ne ppx_len (by omega) (fun e => by rw [e] at hkl; simp at hkl)
    have c1 := first_pu l p (by omega) (fun q hq => by have := hh q hq; omega) (by omega)
    have hgo := fun F' H' => hK F' H' (k + 1) (by omega) (by omega)
    have hc3 : cnt3 l k ≤ 3 := by unfold cnt3; omega
    clear hK hh E
    by_cases hd : cnt3 l k < 3
    · by_cases hp : p ∈ l.take k
      · rw [cnt3_in hget hp] at hgo
        have hf : fstI l p ≠ (k : Nat) := by
          unfold fstI
          have := idx_take hp
          split <;> omega
        generalize fstI l p = z at c1 hf
        generalize cnt3 l k = d at *
        clear hp hget
        repeat (refine A1 ⟨?_⟩; intros)
        refine Wo (ov_idxS (cs' := ppx p) rfl rfl (by omega) (by omega) hat hne) ?_
        repeat (first | (refine A1 ⟨?_⟩; intros) | (refine Wcx (c1) ?_) | (refine Wdcx (c1) ?_) | (refine Wcgx (c1) ?_) | (refine Wdcgx (c1) ?_))
        exact hgo _ _ (by (repeat (first | exact LeF.nil _ | refine LeF.cons (Le.refl _) ?_ | refine LeF.cons (Le.int (by omega)) ?_))) (by repeat (first | exact List.Sublist.refl _ | refine List.Sublist.cons _ ?_))
      · rw [cnt3_out hget hp hd] at hgo
        have hf : fstI l p = (k : Nat) := by
          unfold fstI
          rw [if_pos (List.mem_of_getElem? hget), idxOf_of hget hp]
        rw [hf] at c1
        generalize cnt3 l k = d at *
        clear hp hget hf
        repeat (refine A1 ⟨?_⟩; intros)
        refine Wo (ov_idxS (cs' := ppx p) rfl rfl (by omega) (by omega) hat hne) ?_
        repeat (first | (refine A1 ⟨?_⟩; intros) | (refine Wcx (c1) ?_) | (refine Wdcx (c1) ?_) | (refine Wcgx (c1) ?_) | (refine Wdcgx (c1) ?_))
        exact hgo _ _ (by (repeat (first | exact LeF.nil _ | refine LeF.cons (Le.refl _) ?_ | refine LeF.cons (Le.int (by omega)) ?_))) (by repeat (first | exact List.Sublist.refl _ | refine List.Sublist.cons _ ?_))
    · rw [cnt3_full hget hd] at hgo
      generalize cnt3 l k = d at *
      clear hget
      repeat (refine A1 ⟨?_⟩; intros)
      refine Wo (ov_idxS (cs' := ppx p) rfl rfl (by omega) (by omega) hat hne) ?_
      repeat (first | (refine A1 ⟨?_⟩; intros) | (refine Wcx (c1) ?_) | (refine Wdcx (c1) ?_) | (refine Wcgx (c1) ?_) | (refine Wdcgx (c1) ?_))
      exact hgo _ _ (by (repeat (first | exact LeF.nil _ | refine LeF.cons (Le.refl _) ?_ | refine LeF.cons (Le.int (by omega)) ?_))) (by repeat (first | exact List.Sublist.refl _ | refine List.Sublist.cons _ ?_))
  have hke : k = l.length := by omega
  subst hke
  have hcl : cnt3 l l.length = 3 := by
    unfold cnt3
    rw [List.take_length, dst_srt]
    omega
  rw [hcl]
  clear hK hkl hk
  repeat (refine A1 ⟨?_⟩; intros)
  refine WPE.seq (Q := endH Tryz.prog _ _) ?_ E
  repeat (refine A1 ⟨?_⟩; intros)
  refine WPE.ahead ?_
  refine WPE.seq (Q := endH Tryz.prog Tryz.f27.results (fun r _ => r = Ab.tup [pps l, lit .nilIface])) ?_ (fun e a w hne h => by cases e <;> first | exact absurd rfl hne | exact E _ a w hne h)
  repeat (first | (refine A1 ⟨?_⟩; intros) | (refine Wcx (edges_pu l) ?_) | (refine Wdcx (edges_pu l) ?_) | (refine Wcgx (edges_pu l) ?_) | (refine Wdcgx (edges_pu l) ?_))
  refine WPE.range (g := .tmp 69) (ps := [70, 71]) (Rs := [(b3, 39, [lit .nilIface]), (b2, 85, [lit (.slice none 0 0)])]) (G := []) (Gx := fun _ => False) (T := fun _ => True) rfl (edges1_ok l (by omega)) (by rw [List.append_nil]) (fun _ _ => rfl) (by decide) ?_ ?_ (fun _ _ _ _ _ _ h => h.elim)
  · intro i y C1 hi _ _ hpan1
    have hml : (i + 1) % l.length < l.length := Nat.mod_lt _ (by omega)
    have hget := getD_at hi
    have hget2 := getD_at hml
    have hb := he i hi
    unfold badE at hb
    rw [hget, hget2] at hb
    have hpq := of_decide_eq_false hb
    simp only [edgS]
    generalize l.getD i (0, 0) = p at *
    generalize l.getD ((i + 1) % l.length) (0, 0) = q at *
    have h1 := hh p (List.mem_of_getElem? hget)
    have h2 := hh q (List.mem_of_getElem? hget2)
    have c := pequal_pu p q (by omega) (by omega)
    rw [decide_eq_false (fun e => hpq (by rw [e]))] at c
    refine WPX.le (F' := fm [(70, lit (.int .i64 (i : Nat))), (71, ag (ppe p q))]) (by (repeat (first | exact LeF.nil _ | refine LeF.cons (Le.refl _) ?_ | refine LeF.cons (Le.int (by omega)) ?_))) ?_
    refine WPX.seq (WPX.reg ?_)
    repeat (refine A1 ⟨?_⟩; intros)
    refine WPX.reg ?_
    repeat (refine A1 ⟨?_⟩; intros)
    refine onlyN.i ?_
    rename_i b11
    intro C2 _ _ hpan2
    refine WPX.block (WPX.seq (WPX.reg ?_))
    refine Wo (ov_idxA (len := 2) (k := 6) (i := 0) Tryz.underlying158 rfl rfl (by decide) (by decide)) ?_
    repeat (refine A1 ⟨?_⟩; intros)
    refine Wo (ov_idxA (len := 2) (k := 6) (i := 1) Tryz.underlying158 rfl rfl (by decide) (by decide)) ?_
    repeat (first | (refine A1 ⟨?_⟩; intros) | (refine Wcx (c) ?_) | (refine Wdcx (c) ?_) | (refine Wcgx (c) ?_) | (refine Wdcgx (c) ?_))
    refine WPX.condF rfl (WPX.skip ?_)
    exact blkN ⟨List.nil_sublist _, trivial⟩
  · intro C1 D a w _ hrb hst
    have E1 := @efin1 _ Tryz.prog C 86 Tryz.f27 C1 D (fun r _ => r = Ab.tup [pps l, lit .nilIface]) hpan hdf hrb
    suffices h : WPE Tryz.prog C1 86 _ _ (fm [(2, lit (.pointer (some ⟨b2, 0, none⟩))), (3, lit (.pointer (some ⟨b3, 0, none⟩))), (4, pps l)]) [(b3, 39, [lit .nilIface]), (b2, 85, [lit (.slice none 0 0)])] from h a w ((hst.le (by (repeat (first | exact LeF.nil _ | refine LeF.cons (Le.refl _) ?_ | refine LeF.cons (Le.int (by omega)) ?_)))).sub (by rw [List.append_nil]; exact List.Sublist.refl _))
    refine WPE.fin (Q := endH Tryz.prog Tryz.f27.results (fun r _ => r = Ab.tup [pps l, lit .nilIface])) ?_ E1
    repeat (refine A1 ⟨?_⟩; intros)
    exact endHR _ _ (end2 (RV.cell1 (b := b2) rfl (by repeat (first | exact List.mem_cons_self | apply List.mem_cons_of_mem)) rfl) (RV.cell1 (b := b3) rfl (by repeat (first | exact List.mem_cons_self | apply List.mem_cons_of_mem)) rfl) (Le.refl _)) (List.nil_sublist _) rfl
open Go.Shelf
def itoaR : Ren where
  f := fun x => match x with
    | 243 => 123
    | 246 => 181
    | 283 => 238
    | 284 => 239
    | 285 => 240
    | 286 => 241
    | 129 => 275
    | 317 => 295
    | 318 => 296
    | 319 => 297
    | 320 => 298
    | 337 => 334
    | 338 => 335
    | n => n
  t := fun x => match x with
    | 3 => 3
    | 9 => 9
    | 2 => 2
    | 4 => 4
    | 171 => 351
    | 0 => 0
    | 53 => 209
    | 37 => 354
    | 5 => 5
    | 173 => 355
    | 212 => 397
    | 51 => 216
    | 20 => 20
    | 213 => 398
    | 46 => 286
    | 232 => 443
    | 233 => 444
    | n => n
  g := fun x => match x with
    | 17 => 5
    | 18 => 6
    | 19 => 7
    | n => n
theorem itoaL : LaysM.n243 Tryz.prog itoaR where
  mixed := by kernel_rfl
  f129 := Tryz.func275.trans (congrArg some (by kernel_rfl))
  f243 := Tryz.func123.trans (congrArg some (by kernel_rfl))
  f246 := Tryz.func181.trans (congrArg some (by kernel_rfl))
  f283 := Tryz.func238.trans (congrArg some (by kernel_rfl))
  f284 := Tryz.func239.trans (congrArg some (by kernel_rfl))
  f285 := Tryz.func240.trans (congrArg some (by kernel_rfl))
  f286 := Tryz.func241.trans (congrArg some (by kernel_rfl))
  f317 := Tryz.func295.trans (congrArg some (by kernel_rfl))
  f318 := Tryz.func296.trans (congrArg some (by kernel_rfl))
  f319 := Tryz.func297.trans (congrArg some (by kernel_rfl))
  f320 := Tryz.func298.trans (congrArg some (by kernel_rfl))
  f337 := Tryz.func334.trans (congrArg some (by kernel_rfl))
  f338 := Tryz.func335.trans (congrArg some (by kernel_rfl))
  t0 := Tryz.underlying0
  a0 := Tryz.isAgg0
  z0 := Tryz.sizeOf0
  v0 := Tryz.zeroValue0
  t2 := Tryz.underlying2
  a2 := Tryz.isAgg2
  z2 := Tryz.sizeOf2
  v2 := Tryz.zeroValue2
  t3 := Tryz.underlying3
  a3 := Tryz.isAgg3
  z3 := Tryz.sizeOf3
  v3 := Tryz.zeroValue3
  t4 := Tryz.underlying4
  a4 := Tryz.isAgg4
  z4 := Tryz.sizeOf4
  v4 := Tryz.zeroValue4
  t5 := Tryz.underlying5
  a5 := Tryz.isAgg5
  z5 := Tryz.sizeOf5
  v5 := Tryz.zeroValue5
  t9 := Tryz.underlying9
  a9 := Tryz.isAgg9
  z9 := Tryz.sizeOf9
  v9 := Tryz.zeroValue9
  t20 := Tryz.underlying20
  a20 := Tryz.isAgg20
  z20 := Tryz.sizeOf20
  v20 := Tryz.zeroValue20
  t37 := Tryz.underlying354
  a37 := Tryz.isAgg354
  z37 := Tryz.sizeOf354
  v37 := Tryz.zeroValue354
  t46 := Tryz.underlying286
  a46 := Tryz.isAgg286
  z46 := Tryz.sizeOf286
  v46 := Tryz.zeroValue286
  t51 := Tryz.underlying216
  a51 := Tryz.isAgg216
  z51 := Tryz.sizeOf216
  v51 := Tryz.zeroValue216
  t53 := Tryz.underlying209
  a53 := Tryz.isAgg209
  z53 := Tryz.sizeOf209
  v53 := Tryz.zeroValue209
  t171 := Tryz.underlying351
  a171 := Tryz.isAgg351
  z171 := Tryz.sizeOf351
  v171 := Tryz.zeroValue351
  t173 := Tryz.underlying355
  a173 := Tryz.isAgg355
  z173 := Tryz.sizeOf355
  v173 := Tryz.zeroValue355
  t212 := Tryz.underlying397
  a212 := Tryz.isAgg397
  z212 := Tryz.sizeOf397
  v212 := Tryz.zeroValue397
  t213 := Tryz.underlying398
  a213 := Tryz.isAgg398
  z213 := Tryz.sizeOf398
  t232 := Tryz.underlying443
  a232 := Tryz.isAgg443
  z232 := Tryz.sizeOf443
  v232 := Tryz.zeroValue443
  t233 := Tryz.underlying444
  a233 := Tryz.isAgg444
  z233 := Tryz.sizeOf444
  v233 := Tryz.zeroValue444
  g17 := by kernel_rfl
  g18 := by kernel_rfl
  g19 := by kernel_rfl
  i0 := by kernel_rfl
  i2 := by kernel_rfl
  i3 := by kernel_rfl
  i4 := by kernel_rfl
  i5 := by kernel_rfl
  i9 := by kernel_rfl
  i20 := by kernel_rfl
  i37 := by kernel_rfl
  i46 := by kernel_rfl
  i51 := by kernel_rfl
  i53 := by kernel_rfl
  i171 := by kernel_rfl
  i173 := by kernel_rfl
  i212 := by kernel_rfl
  i232 := by kernel_rfl
  i233 := by kernel_rfl
  m17 := by kernel_rfl
  m18 := by kernel_rfl
  m19 := by kernel_rfl
class PowTab : Prop where
  h : ∃ (T : TypeId) (fz : Nat × Nat), Base.mem 5 = some (.cells (Lib.pow10Tab.map fun z => Value.int .u64 z).toArray T fz)
theorem decDigits_dec (n : Nat) : Lib.decDigits n = dec n := by
  induction n using Nat.strongRecOn with
  | _ n ih =>
    rw [Lib.decDigits]
    by_cases h : n < 10
    · rw [dif_pos h]
      unfold dec
      by_cases h0 : n = 0
      · subst h0; rfl
      · rw [if_neg h0, decR_pos h0, show n / 10 = 0 by omega, decR_zero, Nat.mod_eq_of_lt h]; rfl
    · rw [dif_neg h, ih (n / 10) (by omega)]
      unfold dec
      rw [if_neg (by omega), if_neg (by omega), decR_pos (show n ≠ 0 by omega), List.reverse_cons]
theorem itoa_pu [t : PowTab] (n : Nat) (hn : n ≤ 1000000) : Pu Tryz.prog 123 [lit (.int .i64 (n : Nat))] (str (dec n)) := by
  unfold Pu
  refine ⟨by kernel_rfl, fun m w vs hm ha => ?_⟩
  obtain ⟨v0, rfl, h0⟩ : ∃ v0, vs = [v0] ∧ (lit (.int .i64 (n : Nat))).p m v0 := by
    match vs, ha with
    | [v0], ha => exact ⟨v0, rfl, ha.1⟩
  rw [lit_p] at h0
  subst h0
  obtain ⟨T, fz, hg⟩ := t.h
  have hg' := hm _ _ (hm.base _ _ hg)
  have hG := show _ = some 5 from itoaL.m17
  have hc := Go.Proofs.Any.internal_strconv_Itoa itoaL (n : Int) (by omega) (by omega) w (by
    unfold Lib.TabIs World.var?
    rw [hG]
    simp only [Option.bind_some, hg'])
  refine hc.mono fun e w' ⟨he, k, os, hw⟩ => ?_
  subst he
  subst hw
  have hi : Lib.itoa (n : Int) = dec n := by
    unfold Lib.itoa
    rw [if_neg (by omega), Int.toNat_natCast, decDigits_dec]
  rw [hi]
  have hlt : ∀ b, b < w.heap.size → (Go.Sort.grow (w.drewN k) os).heap[b]? = w.heap[b]? := fun b hb => by
    show (w.heap ++ os)[b]? = w.heap[b]?
    rw [Array.getElem?_append_left hb]
  refine ⟨_, m, rfl, lit_p.2 rfl, ⟨fun b o hb => ?_, hm.base⟩, ⟨Mem.le_refl m, fun _ _ _ => rfl, rfl, rfl, rfl, ?_, fun b hb _ => hlt b hb⟩⟩
  · have h := hm _ _ hb
    rw [hlt b (Array.getElem?_eq_some_iff.1 h).1]; exact h
  · show w.heap.size ≤ (w.heap ++ os).size
    rw [Array.size_append]; omega
theorem sitoa_pu [PowTab] (n : Nat) (hn : n ≤ 1000000) : Pu Tryz.prog 67 [lit (.int .i64 (n : Nat))] (str (dec n)) := by
  have c := itoa_pu n hn
  refine Pu.intro Tryz.func67 rfl (by kernel_rfl) fun C => ?_
  repeat (first | (refine A1 ⟨?_⟩; intros) | (refine Wcx (c) ?_) | (refine Wdcx (c) ?_) | (refine Wcgx (c) ?_) | (refine Wdcgx (c) ?_))
  ((first | refine endR ?_ | refine endN ?_); exact end1 (RV.tmp rfl) (Le.refl _))
end Go.Ab
namespace Go.Ab
open Go.Proofs
variable [Base]
abbrev erA (g : Nat) (l c s : SV) : SV := ifc 150 (pt [lit (sent g), l, c, s])
section
variable {F : Fr} {H : LH} {ty : TypeId}
theorem ov_ieqT {T T' u u' : TypeId} {s : SV} {v' : Value} {x y : Operand} {ms : Array (String × TypeId)} (hT : (Tryz.prog).underlying T = some (.interface ms)) (hne : u ≠ u') (hx : ev F x = ifc u s) (hy : ev F y = lit (.iface u' v')) : OpV Tryz.prog (.binOp .eql T x y T') ty F H (lit (.bool false)) :=
  OpV.pure fun m w o a ho _ _ _ h => by
    have h0 := h x (by simp [Op.operands]); rw [hx] at h0
    have h1 := h y (by simp [Op.operands]); rw [hy, lit_p] at h1
    unfold ifc at h0
    obtain ⟨v, h0, _⟩ := h0
    exact ⟨.bool false, by simp [execOp, ho, h0, h1, run_eql_iface_types u u' v v' hT hne w, Go.eqGuard], lit_p.2 rfl⟩
theorem ov_asIs {s : SV} {x : Operand} (hx : ev F x = ifc 150 s) : OpV Tryz.prog (.typeAssert x 39 196 true) ty F H (Ab.tup [lit .nilIface, lit (.bool false)]) :=
  OpV.pure fun m w o a ho _ _ _ h => by
    have h0 := h x (by simp [Op.operands]); rw [hx] at h0
    unfold ifc at h0
    obtain ⟨v, h0, _⟩ := h0
    have hrun : (Instr.typeAssert (.iface 150 v) 39 196 true).run Tryz.prog w = .ok (.tuple #[.nilIface, .bool false]) w := run_typeAssert_lacksB Tryz.underlying196 (by kernel_rfl) (by kernel_rfl) v _ w
    refine ⟨.tuple #[.nilIface, .bool false], by simp [execOp, ho, h0, hrun], ?_⟩
    unfold Ab.tup
    exact ⟨_, rfl, lit_p.2 rfl, lit_p.2 rfl, trivial⟩
theorem ov_asUn {s : SV} {x : Operand} (hx : ev F x = ifc 150 s) : OpV Tryz.prog (.typeAssert x 39 199 true) ty F H (Ab.tup [ifc 150 s, lit (.bool true)]) :=
  OpV.pure fun m w o a ho _ _ _ h => by
    have h0 := h x (by simp [Op.operands]); rw [hx] at h0
    have h00 := h0
    unfold ifc at h0
    obtain ⟨v, h0, _⟩ := h0
    have hrun : (Instr.typeAssert (.iface 150 v) 39 199 true).run Tryz.prog w = .ok (.tuple #[.iface 150 v, .bool true]) w := run_typeAssert_hasB Tryz.underlying199 (by kernel_rfl) v _ w
    refine ⟨.tuple #[.iface 150 v, .bool true], by simp [execOp, ho, h0, hrun], ?_⟩
    rw [h0] at h00
    unfold Ab.tup
    exact ⟨_, rfl, h00, lit_p.2 rfl, trivial⟩
end
section
variable {P : Program} {F : Fr} {H : LH} {ty : TypeId}
theorem ov_ieqA {T T' u : TypeId} {s : SV} {x : Operand} (hT : P.isIface T = true) (hx : ev F x = ifc u s) : OpV P (.binOp .eql T x (.const .nilIface) T') ty F H (lit (.bool false)) :=
  OpV.pure fun m w o a ho _ _ _ h => by
    have h0 := h x (by simp [Op.operands]); rw [hx] at h0
    unfold ifc at h0
    obtain ⟨v, h0, _⟩ := h0
    have e1 : a.eval (.const .nilIface) = .nilIface := rfl
    exact ⟨.bool false, by simp [execOp, ho, h0, e1, run_eql_iface_nil w T hT u v, Go.eqGuard], lit_p.2 rfl⟩
end
theorem unwM (v : Value) (w : World) : (Go.method ((Tryz.prog).types.size + Made.depth) 150 v "Unwrap").run Tryz.prog w = .ok (394, v) w := by kernel_rfl
theorem unwA_pu (g : Nat) (l c s : SV) : Pu Tryz.prog 394 [pt [lit (sent g), l, c, s]] (lit (sent g)) := by
  refine Pu.intro Tryz.func394 rfl (by kernel_rfl) fun C => ?_
  repeat (refine A1 ⟨?_⟩; intros)
  ((first | refine endR ?_ | refine endN ?_); exact end1 (RV.tmp rfl) (Le.refl _))
theorem isA1_pu (g : Nat) (l c s : SV) : Pu Tryz.prog 42 [erA g l c s, lit (sent g), lit (.bool true)] (lit (.bool true)) := by
  have c := unwA_pu g l c s
  refine Pu.intro Tryz.func42 rfl (by kernel_rfl) fun C => ?_
  repeat (refine A1 ⟨?_⟩; intros)
  refine WP.unroll 3 ?_
  refine WPR.succ ?_
  repeat (refine A1 ⟨?_⟩; intros)
  refine WgE ?_
  refine Wo (ov_ieqT Tryz.underlying39 (by decide) rfl rfl) ?_
  repeat (refine A1 ⟨?_⟩; intros)
  refine Wo (ov_asIs rfl) ?_
  repeat (refine A1 ⟨?_⟩; intros)
  refine Wo (ov_asUn rfl) ?_
  repeat (refine A1 ⟨?_⟩; intros)
  refine Wo (ov_invoke unwM c rfl rfl) ?_
  repeat (refine A1 ⟨?_⟩; intros)
  refine WgE ?_
  refine Wo (ov_isame rfl rfl) ?_
  repeat (refine A1 ⟨?_⟩; intros)
  ((first | refine endR ?_ | refine endN ?_); exact end1 (RV.tmp rfl) (Le.refl _))
theorem isA_pu (g : Nat) (l c s : SV) : Pu Tryz.prog 12 [erA g l c s, lit (sent g)] (lit (.bool true)) := by
  have c := isA1_pu g l c s
  refine Pu.intro Tryz.func12 rfl (by kernel_rfl) fun C => ?_
  repeat (refine A1 ⟨?_⟩; intros)
  refine Wo (ov_ieqA (s := pt _) (by kernel_rfl) rfl) ?_
  repeat (refine A1 ⟨?_⟩; intros)
  refine Wo (ov_typeOf rfl) ?_
  refine Wo (ov_cmpble rfl) ?_
  repeat (first | (refine A1 ⟨?_⟩; intros) | (refine Wcx (c) ?_) | (refine Wdcx (c) ?_) | (refine Wcgx (c) ?_) | (refine Wdcgx (c) ?_))
  ((first | refine endR ?_ | refine endN ?_); exact end1 (RV.tmp rfl) (Le.refl _))
theorem ov_ieqNA {F : Fr} {H : LH} {ty T' : TypeId} {x y : Operand} {u : TypeId} {v : Value} (hx : ev F x = lit .nilIface) (hy : ev F y = lit (.iface u v)) : OpV Tryz.prog (.binOp .eql 39 x y T') ty F H (lit (.bool false)) :=
  ov_bin hx hy (fun w => run_eql_iface_nil_left w u v Tryz.underlying39) (fun w => by simp [Go.eqGuard])
theorem isNilA_pu (g : Nat) : Pu Tryz.prog 12 [lit .nilIface, lit (sent g)] (lit (.bool false)) := by
  refine Pu.intro Tryz.func12 rfl (by kernel_rfl) fun C => ?_
  repeat (refine A1 ⟨?_⟩; intros)
  refine Wo (ov_ieqNA rfl rfl) ?_
  repeat (refine A1 ⟨?_⟩; intros)
  ((first | refine endR ?_ | refine endN ?_); exact end1 (RV.tmp rfl) (Le.refl _))
theorem upAny {ro : Option Nat} {dd : Nat} {P : Program} {ops : Array Oper} {Q : Exit → Act → World → Prop} (hq : ∀ a w, ¬ Q .outgrown a w) (hd : ∀ (i : Nat) o, ops[i]? = some o → (!isDefer o.op) = true) : ∀ (fuel : Nat) (listed : Array Bool) (a : Act) (w : World), wpAny P .any ops Q fuel listed a w → wpAnyIn (fe ro) dd P .any ops Q fuel listed a w := by
  intro fuel
  induction fuel with
  | zero => exact fun _ _ _ h => h
  | succ fuel ih =>
    intro listed a w h
    exact ⟨h.1, fun i hi => wpOpIn_mono (fun a w => ih _ a w) (upOp hq (fun o ho => hd i o ho) (h.2 i hi))⟩
section
variable {ro : Option Nat} {P : Program} {C : Ctx} {n : Nat} {F : Fr} {H : LH} {Q : Exit → Fr → LH → Prop}
attribute [local semireducible] WP WPL thenQ blkQ Dk
theorem WPX.mix {id : Nat} {l : List Oper} (rs : List Nat) (Hc : LH) (E : Nat → LH) (h : Mk P C n l.toArray rs Hc E 0 0 l (fun Fe => Q .normal Fe (E rs.length ++ Hc)) F) (h0 : E 0 ++ Hc = H := by exact rfl) (hm : P.follows .mixedOrders = true := by kernel_rfl)
    (hchk : mixOk l.toArray rs = true := by decide +kernel) (hd : (l.all fun o => !isDefer o.op) = true := by exact rfl) : WPX ro P C n (.region id l.toArray true) Q F H := by
  obtain ⟨Fe, hx, hQ⟩ := h
  intro a w hs d
  subst h0
  have hdd : ∀ (i : Nat) o, l.toArray[i]? = some o → (!isDefer o.op) = true := fun i o ho => List.all_eq_true.1 hd o (by
    have : l[i]? = some o := by simpa using ho
    exact List.mem_of_getElem? this)
  refine wpIn_mono (wpIn_region_any (Q := fun e a w => e ≠ .outgrown ∧ liftQ C n Q e a w) hm (upAny (fun a w h => h.1 rfl) hdd _ _ _ _ ?_)) fun e a w h => h.2
  refine mixRun (C := C) (n := n) (F0 := F) (Fe := Fe) (rs := rs) (Hc := Hc) (E := E) hchk (fun k hk => hx.vld hchk (by simp) (fun t => by simp [mixF, befB]) k (Nat.zero_le _) hk) (fun t ht => hx.keep t fun o ho e => ?_) (fun a' w' hst => ⟨(by intro e; cases e), .mk hst hQ⟩) l.toArray.size 0 _ a _ (Nat.zero_le _) ?_ (by simp) (fun m j hm => by by_cases hlt : m < l.length <;> simp [hlt] at hm) (fun u k hk => ?_) ?_
  · obtain ⟨j, hj, rfl⟩ := List.mem_iff_getElem.1 ho
    have : befB l.toArray l.toArray.size t = true := by
      unfold befB
      rw [List.any_eq_true]
      exact ⟨j, by simpa using hj, by rw [dstAt_of (o := l[j]) (by simp [hj]), e]; simp⟩
    rw [ht] at this; cases this
  · unfold left
    refine Nat.le_trans (List.length_filter_le _ _) ?_
    simp
  · have hkl := ((mixOk_spec hchk).2.2.2 u k hk).1
    have hkl' : k < l.length := by simpa using hkl
    simp [hkl']
  · obtain ⟨hdef, hn, m, h1, h2, h3, h4, h5⟩ := hs
    refine ⟨hdef, hn, m, ⟨h1.at', h1.base⟩, ⟨h2.1, h2.2⟩, ⟨h3.le, h3.old, h3.os, h3.tape, h3.output, h3.size, h3.block⟩, h4, fun t => ?_⟩
    have : lisB l.toArray (Array.replicate l.toArray.size false) t = false := by
      unfold lisB
      rw [List.any_eq_false]
      intro j hj
      have hj' : j < l.length := by simpa using hj
      simp [hj']
    unfold mixF
    rw [this]
    exact h5 t
end
end Go.Ab
