/- Texts laid one behind the other: RgE, Wr. -/
import Derived.Test.YtjdnfbhbdfokcaaGreatDoorB18
import Derived.Test.YtjdnfbhbdfokcaaGreatDoorB17
set_option linter.unusedSectionVars false
set_option linter.unusedVariables false
set_option linter.unusedSimpArgs false
namespace Go.Ab
open Go.Proofs
variable [Base]
theorem WPX.perm {ro : Option Nat} {P : Program} {C : Ctx} {n : Nat} {c : Code} {F : Fr} {H H' : LH} {Q : Exit → Fr → LH → Prop} (p : H.Perm H') (h : WPX ro P C n c Q F H') : WPX ro P C n c Q F H := fun a w hs => h a w (hs.perm p)
theorem perm3 {α : Type} (a b c : α) (l : List α) : (a :: b :: c :: l).Perm (b :: c :: a :: l) := (List.Perm.swap b a (c :: l)).trans ((List.Perm.swap c a l).cons b)
abbrev erx (g : Nat) : SV := ex fun s : List UInt8 => erA g (lit (.int .i64 0)) (lit (.int .i64 0)) (str s)
abbrev noRg (g : Nat) : SV := Ab.tup [lit (.slice none 0 0), erx g]
theorem le_erx (g : Nat) (s : List UInt8) : Le (Ab.tup [lit (.slice none 0 0), erA g (lit (.int .i64 0)) (lit (.int .i64 0)) (str s)]) (noRg g) := Le.tup ⟨Le.refl _, Le.ex s (Le.refl _), trivial⟩
theorem isX_pu (g : Nat) : Pu Tryz.prog 12 [erx g, lit (sent g)] (lit (.bool true)) := Pu.exAt' [] [lit (sent g)] [] fun s => isA_pu g _ _ (str s)
theorem ov_neX {P : Program} {F : Fr} {H : LH} {ty T T' : TypeId} {g : Nat} {x : Operand} (hT : P.isIface T = true) (hx : ev F x = erx g) : OpV P (.binOp .neq T x (.const .nilIface) T') ty F H (lit (.bool true)) :=
  OpV.pure fun m w o a ho _ _ _ h => by
    have h0 := h x (by simp [Op.operands]); rw [hx] at h0
    unfold erx Ab.ex at h0
    obtain ⟨s, h0⟩ := h0
    replace h0 : (erA g (lit (.int .i64 0)) (lit (.int .i64 0)) (str s)).p m (a.eval x) := h0
    unfold erA ifc at h0
    obtain ⟨v, h0, _⟩ := h0
    have e1 : a.eval (.const .nilIface) = .nilIface := rfl
    exact ⟨.bool true, by simp [execOp, ho, h0, e1, run_neq_iface_nil w T hT _ v, Go.eqGuard], lit_p.2 rfl⟩
theorem normalP_raw (p : RQ × RQ) {L : Nat} (h1 : p.1.ok L) (h2 : p.2.ok L) (hL : L ≤ 1000) : Pu Tryz.prog 66 [ag (pcells p)] (lit (.bool (nrmP p))) := by
  have c1 := fnormal_pu h1 (by omega)
  have c2 := fnormal_pu h2 (by omega)
  unfold nrmP
  cases h : nrmQ p.1 with
  | false =>
    rw [h] at c1
    refine Pu.intro Tryz.func66 rfl (by kernel_rfl) fun C => ?_
    repeat (first | (refine A1 ⟨?_⟩; intros) | (refine Wcx (c1) ?_) | (refine Wdcx (c1) ?_) | (refine Wcgx (c1) ?_) | (refine Wdcgx (c1) ?_) | (refine Wcx (c2) ?_) | (refine Wdcx (c2) ?_) | (refine Wcgx (c2) ?_) | (refine Wdcgx (c2) ?_))
    ((first | refine endR ?_ | refine endN ?_); exact end1 (RV.tmp rfl) (Le.refl _))
  | true =>
    rw [h] at c1
    rw [Bool.true_and]
    refine Pu.intro Tryz.func66 rfl (by kernel_rfl) fun C => ?_
    repeat (first | (refine A1 ⟨?_⟩; intros) | (refine Wcx (c1) ?_) | (refine Wdcx (c1) ?_) | (refine Wcgx (c1) ?_) | (refine Wdcgx (c1) ?_) | (refine Wcx (c2) ?_) | (refine Wdcx (c2) ?_) | (refine Wcgx (c2) ?_) | (refine Wdcgx (c2) ?_))
    ((first | refine endR ?_ | refine endN ?_); exact end1 (RV.tmp rfl) (Le.refl _))
theorem ptOf_raw (p : RQ × RQ) {L : Nat} (h1 : p.1.ok L) (h2 : p.2.ok L) (hL : L ≤ 1000) : Pu Tryz.prog 53 [ag (pcells p)] (ag (ppx (rvl p))) := ptOf_pu h1 h2 (by omega)
set_option maxHeartbeats 4000000 in
theorem ringOf_bad [PowTab] [Sent 0] (ps : List (RQ × RQ)) {L : Nat} (hl : ps.length ≤ 4096) (hh : ∀ p ∈ ps, p.1.ok L ∧ p.2.ok L) (hL : L ≤ 1000) (hb : ps.all nrmP = false) : Pu Tryz.prog 27 [raws ps] (noRg 0) := by
  obtain ⟨i, hi⟩ : ∃ i, i = ps.findIdx fun p => !nrmP p := ⟨_, rfl⟩
  have hil : i < ps.length := by
    rw [hi]
    refine List.findIdx_lt_length_of_exists ?_
    obtain ⟨p, hp, h⟩ := List.all_eq_false.1 hb
    exact ⟨p, hp, by simpa using h⟩
  have hbi : ∀ p, ps[i]? = some p → nrmP p = false := fun p hp => by
    have h1 := List.findIdx_getElem (xs := ps) (p := fun p => !nrmP p) (w := by rw [← hi]; exact hil)
    subst hi
    rw [List.getElem?_eq_getElem hil] at hp
    rw [Option.some.inj hp] at h1
    simpa using h1
  have hbj : ∀ j p, j < i → ps[j]? = some p → nrmP p = true := fun j p hj hp => by
    have h1 := List.not_of_lt_findIdx (xs := ps) (p := fun p => !nrmP p) (i := j) (by rw [← hi]; exact hj)
    rw [List.getElem?_eq_getElem (by omega)] at hp
    rw [Option.some.inj hp] at h1
    simpa using h1
  clear hb hi
  have ci := sitoa_pu i (by omega)
  refine PuH.toPu ?_
  refine PuH.introE Tryz.func27 rfl (by kernel_rfl) fun C hpan hdf => ?_
  have E0 := @efin0 _ Tryz.prog C 86 Tryz.f27 (fun r _ => r = noRg 0) hpan hdf
  have E := fun e a w (_ : e ≠ Exit.normal) h => E0 e a w h
  refine WPE.seq (Q := endH Tryz.prog _ _) ?_ E
  repeat (refine A1 ⟨?_⟩; intros)
  refine WPE.seq (Q := endH Tryz.prog _ _) ?_ E
  repeat (refine A1 ⟨?_⟩; intros)
  refine WPE.seq (Q := endH Tryz.prog _ _) ?_ E
  repeat (refine A1 ⟨?_⟩; intros)
  rename_i b2 b3
  refine WPE.seq (Q := endH Tryz.prog _ _) ?_ E
  repeat (refine A1 ⟨?_⟩; intros)
  refine WP.loopS (ι := RwSt) (fun y => y.k ≤ i ∧ Own 92 6 y.k ((ps.take y.k).map fun p => ppx (rvl p)).flatten y.s y.Hs) (fun y => ps.length - y.k) (fun y => fm [(2, lit (.pointer (some ⟨b2, 0, none⟩))), (3, lit (.pointer (some ⟨b3, 0, none⟩))), (4, y.s), (19, raws ps), (20, lit (.int .i64 ps.length)), (21, lit (.int .i64 y.k))])
    (fun y => (b3, 39, [lit .nilIface]) :: (b2, 85, [lit (.slice none 0 0)]) :: y.Hs) ⟨0, lit (.slice none 0 0), []⟩ ⟨Nat.zero_le _, Own.nil _ _⟩ (by (repeat (first | exact LeF.nil _ | refine LeF.cons (Le.refl _) ?_ | refine LeF.cons (Le.int (by omega)) ?_))) (List.Sublist.refl _) ?_
  rintro ⟨k, s, Hs⟩ ⟨hk, hown⟩ K hK
  simp only at hk hown ⊢
  have hco := hown.co
  have hkl : k < ps.length := by omega
  have hget := List.getElem?_eq_getElem hkl
  generalize ps[k] = p at hget
  obtain ⟨h1, h2⟩ := hh p (List.mem_of_getElem? hget)
  have hat := flat_at (f := pcells) (n := 6) pcells_len hget
  have hne : (ps.map pcells).flatten ≠ [] := flat_ne pcells_len (by omega) (fun e => by rw [e] at hkl; simp at hkl)
  have c1 := normalP_raw p h1 h2 hL
  by_cases hki : k = i
  · subst hki
    rw [hbi p hget] at c1
    clear hK hh E hbi hbj hget
    repeat (refine A1 ⟨?_⟩; intros)
    refine Wo (ov_idxS (cs' := pcells p) rfl rfl (by omega) (by omega) hat hne) ?_
    have hdb := dec_len (n := k) (L := 1) (len_le (k := 1) (by simp; omega))
    have l1 : ([118, 101, 114, 116, 101, 120, 32] : List UInt8).length = 7 := rfl
    have l2 : ([32, 105, 115, 32, 110, 111, 116, 32, 105, 110, 32, 110, 111, 114, 109, 97, 108, 32, 102, 111, 114, 109] : List UInt8).length = 22 := rfl
    have l3 : ([118, 101, 114, 116, 101, 120, 32] ++ dec k).length = 7 + (dec k).length := by rw [List.length_append, l1]
    repeat (first | (refine AS ⟨?_⟩; intros) | (refine O1 ⟨?_⟩; intros) | (refine Wcx (c1) ?_) | (refine Wcgx (c1) ?_))
    rename_i b6
    refine WP.perm (perm3 _ _ _ _) ?_
    refine WdM [8, 9] ((b6, 67, pcells p) :: Hs) (fun s => [(b3, 39, [[lit .nilIface, lit .nilIface, erA 0 (lit (.int .i64 0)) (lit (.int .i64 0)) (str ([118, 101, 114, 116, 101, 120, 32] ++ dec k ++ [32, 105, 115, 32, 110, 111, 116, 32, 105, 110, 32, 110, 111, 114, 109, 97, 108, 32, 102, 111, 114, 109]))].getD s top]), (b2, 85, [lit (.slice none 0 0)])]) ?_
    refine MkD 8 ?_
    repeat (first | (refine A1 ⟨?_⟩; intros) | (refine Wcx (ci) ?_) | (refine Wdcx (ci) ?_) | (refine Wcgx (ci) ?_) | (refine Wdcgx (ci) ?_))
    refine Wdo (ov_boxP (sv := ag _) rfl) ?_
    refine Wdo (ov_makeIface (s := pt _) (by kernel_rfl) rfl) ?_
    repeat (refine A1 ⟨?_⟩; intros)
    refine mkD0 ?_
    refine MkR (sv := top) (TS.store (sv := lit (.slice none 0 0)) (ds := [lit (.slice none 0 0)]) rfl rfl rfl rfl (.there _ (.here _)) rfl rfl) ?_
    refine MkR (sv := top) (TS.store (sv := erA 0 (lit (.int .i64 0)) (lit (.int .i64 0)) (str ([118, 101, 114, 116, 101, 120, 32] ++ dec k ++ [32, 105, 115, 32, 110, 111, 116, 32, 105, 110, 32, 110, 111, 114, 109, 97, 108, 32, 102, 111, 114, 109]))) (ds := [erA 0 (lit (.int .i64 0)) (lit (.int .i64 0)) (str ([118, 101, 114, 116, 101, 120, 32] ++ dec k ++ [32, 105, 115, 32, 110, 111, 116, 32, 105, 110, 32, 110, 111, 114, 109, 97, 108, 32, 102, 111, 114, 109]))]) rfl rfl rfl rfl (.here _) rfl rfl) ?_
    refine MkN ?_
    repeat (refine A1 ⟨?_⟩; intros)
    exact endHR _ _ (end2 (RV.cell1 (b := b2) rfl (by repeat (first | exact List.mem_cons_self | apply List.mem_cons_of_mem)) rfl) (RV.cell1 (b := b3) rfl (by repeat (first | exact List.mem_cons_self | apply List.mem_cons_of_mem)) rfl) (le_erx _ _)) (List.nil_sublist _) rfl
  · have hlt : k < i := by omega
    rw [hbj k p hlt hget] at c1
    have c2 := ptOf_raw p h1 h2 hL
    have hgo := fun s' Hs' h F' H' => hK F' H' ⟨k + 1, s', Hs'⟩ ⟨by simp only; omega, h⟩ (by simp only; omega)
    simp only [map_take_snoc (f := fun p => ppx (rvl p)) hget] at hgo
    clear hK hh E hbi hbj
    repeat (refine A1 ⟨?_⟩; intros)
    refine Wo (ov_idxS (cs' := pcells p) rfl rfl (by omega) (by omega) hat hne) ?_
    repeat (first | (refine A1 ⟨?_⟩; intros) | (refine Wcx (c1) ?_) | (refine Wdcx (c1) ?_) | (refine Wcgx (c1) ?_) | (refine Wdcgx (c1) ?_) | (refine Wcx (c2) ?_) | (refine Wdcx (c2) ?_) | (refine Wcgx (c2) ?_) | (refine Wdcgx (c2) ?_))
    refine Wown hown (by omega) (fun s2 H2 hown' => ?_)
    have hco2 := hown'.co
    replace hgo := hgo s2 H2 hown'
    simp only [List.cons_append, List.nil_append]
    clear hown hown'
    repeat (refine A1 ⟨?_⟩; intros)
    exact hgo _ _ (by (repeat (first | exact LeF.nil _ | refine LeF.cons (Le.refl _) ?_ | refine LeF.cons (Le.int (by omega)) ?_))) (by repeat (first | exact List.Sublist.refl _ | refine List.Sublist.cons _ ?_))
set_option maxHeartbeats 4000000 in
theorem ringOf_few (l : List Pq) (hl : l.length ≤ 4096) (hh : ∀ p ∈ l, ht p.1 ≤ 100000 ∧ ht p.2 ≤ 100000) (h3 : (srt l).length < 3) [Sent 3] : Pu Tryz.prog 27 [aps l] (noRg 3) := by
  refine PuH.toPu ?_
  refine PuH.introE Tryz.func27 rfl (by kernel_rfl) fun C hpan hdf => ?_
  have E0 := @efin0 _ Tryz.prog C 86 Tryz.f27 (fun r _ => r = noRg 3) hpan hdf
  have E := fun e a w (_ : e ≠ Exit.normal) h => E0 e a w h
  refine WPE.seq (Q := endH Tryz.prog _ _) ?_ E
  repeat (refine A1 ⟨?_⟩; intros)
  refine WPE.seq (Q := endH Tryz.prog _ _) ?_ E
  repeat (refine A1 ⟨?_⟩; intros)
  refine WPE.seq (Q := endH Tryz.prog _ _) ?_ E
  repeat (refine A1 ⟨?_⟩; intros)
  rename_i b2 b3
  refine WPE.seq (Q := endH Tryz.prog _ _) ?_ E
  repeat (refine A1 ⟨?_⟩; intros)
  refine WP.loopS (ι := RwSt) (fun y => y.k ≤ l.length ∧ Own 92 6 y.k ((l.take y.k).map ppx).flatten y.s y.Hs) (fun y => l.length - y.k) (fun y => fm [(2, lit (.pointer (some ⟨b2, 0, none⟩))), (3, lit (.pointer (some ⟨b3, 0, none⟩))), (4, y.s), (19, aps l), (20, lit (.int .i64 l.length)), (21, lit (.int .i64 y.k))])
    (fun y => (b3, 39, [lit .nilIface]) :: (b2, 85, [lit (.slice none 0 0)]) :: y.Hs) ⟨0, lit (.slice none 0 0), []⟩ ⟨Nat.zero_le _, Own.nil _ _⟩ (by (repeat (first | exact LeF.nil _ | refine LeF.cons (Le.refl _) ?_ | refine LeF.cons (Le.int (by omega)) ?_))) (List.Sublist.refl _) ?_
  rintro ⟨k, s, Hs⟩ ⟨hk, hown⟩ K hK
  simp only at hk hown ⊢
  have hco := hown.co
  by_cases hkl : k < l.length
  · have hget := List.getElem?_eq_getElem hkl
    generalize l[k] = p at hget
    have hhp := hh p (List.mem_of_getElem? hget)
    have hat := flat_at (f := apx) (n := 6) apx_len hget
    have hne : (l.map apx).flatten ≠ [] := flat_ne apx_len (by omega) (fun e => by rw [e] at hkl; simp at hkl)
    have c1 := normalP_t p hhp
    have c2 := ptOf_t p hhp
    have hgo := fun s' Hs' h F' H' => hK F' H' ⟨k + 1, s', Hs'⟩ ⟨by simp only; omega, h⟩ (by simp only; omega)
    simp only [map_take_snoc hget] at hgo
    clear hK hh E
    repeat (refine A1 ⟨?_⟩; intros)
    refine Wo (ov_idxS (cs' := apx p) rfl rfl (by omega) (by omega) hat hne) ?_
    repeat (first | (refine A1 ⟨?_⟩; intros) | (refine Wcx (c1) ?_) | (refine Wdcx (c1) ?_) | (refine Wcgx (c1) ?_) | (refine Wdcgx (c1) ?_) | (refine Wcx (c2) ?_) | (refine Wdcx (c2) ?_) | (refine Wcgx (c2) ?_) | (refine Wdcgx (c2) ?_))
    refine Wown hown (by omega) (fun s2 H2 hown' => ?_)
    have hco2 := hown'.co
    replace hgo := hgo s2 H2 hown'
    simp only [List.cons_append, List.nil_append]
    clear hown hown'
    repeat (refine A1 ⟨?_⟩; intros)
    exact hgo _ _ (by (repeat (first | exact LeF.nil _ | refine LeF.cons (Le.refl _) ?_ | refine LeF.cons (Le.int (by omega)) ?_))) (by repeat (first | exact List.Sublist.refl _ | refine List.Sublist.cons _ ?_))
  have hke : k = l.length := by omega
  subst hke
  rw [List.take_length] at hown
  clear hK hkl hk
  refine WP.rowS 4 hown rfl (show ([(b3, 39, [lit .nilIface]), (b2, 85, [lit (.slice none 0 0)])] ++ Hs).Perm _ from List.perm_append_comm) ?_
  clear hown hco
  repeat (refine A1 ⟨?_⟩; intros)
  refine WPE.seq (Q := endH Tryz.prog _ _) ?_ E
  repeat (refine A1 ⟨?_⟩; intros)
  refine WPE.seq (Q := endH Tryz.prog _ _) ?_ E
  repeat (refine A1 ⟨?_⟩; intros)
  refine WP.loopS (ι := Nat) (fun k => k ≤ l.length) (fun k => l.length - k) (fun k => fm [(2, lit (.pointer (some ⟨b2, 0, none⟩))), (3, lit (.pointer (some ⟨b3, 0, none⟩))), (4, pps l), (7, lit (.int .i64 (cnt3 l k : Nat))), (43, pps l), (44, lit (.int .i64 l.length)), (45, lit (.int .i64 k))])
    (fun _ => [(b3, 39, [lit .nilIface]), (b2, 85, [lit (.slice none 0 0)])]) 0 (Nat.zero_le _) (by (repeat (first | exact LeF.nil _ | refine LeF.cons (Le.refl _) ?_ | refine LeF.cons (Le.int (by omega)) ?_))) (List.Sublist.refl _) ?_
  rintro k hk K hK
  by_cases hkl : k < l.length
  · have hget := List.getElem?_eq_getElem hkl
    generalize l[k] = p at hget
    have hhp := hh p (List.mem_of_getElem? hget)
    have hat := flat_at (f := ppx) (n := 6) ppx_len hget
    have hne : (l.map ppx).flatten ≠ [] := flat_ne ppx_len (by omega) (fun e => by rw [e] at hkl; simp at hkl)
    have c1 := first_pu l p (by omega) (fun q hq => by have := hh q hq; omega) (by omega)
    have hgo := fun F' H' => hK F' H' (k + 1) (by omega) (by omega)
    have hc3 : cnt3 l k ≤ 3 := by unfold cnt3; omega
    clear hK hh E
    by_cases hd : cnt3 l k < 3
    · by_cases hp : p ∈ l.take k
      · rw [cnt3_in hget hp] at hgo
        have hf : fstI l p ≠ (k : Nat) := by
          unfold fstI
          have := idx_take hp
          split <;> omega
        generalize fstI l p = z at c1 hf
        generalize cnt3 l k = d at *
        clear hp hget
        repeat (refine A1 ⟨?_⟩; intros)
        refine Wo (ov_idxS (cs' := ppx p) rfl rfl (by omega) (by omega) hat hne) ?_
        repeat (first | (refine A1 ⟨?_⟩; intros) | (refine Wcx (c1) ?_) | (refine Wdcx (c1) ?_) | (refine Wcgx (c1) ?_) | (refine Wdcgx (c1) ?_))
        exact hgo _ _ (by (repeat (first | exact LeF.nil _ | refine LeF.cons (Le.refl _) ?_ | refine LeF.cons (Le.int (by omega)) ?_))) (by repeat (first | exact List.Sublist.refl _ | refine List.Sublist.cons _ ?_))
      · rw [cnt3_out hget hp hd] at hgo
        have hf : fstI l p = (k : Nat) := by
          unfold fstI
          rw [if_pos (List.mem_of_getElem? hget), idxOf_of hget hp]
        rw [hf] at c1
        generalize cnt3 l k = d at *
        clear hp hget hf
        repeat (refine A1 ⟨?_⟩; intros)
        refine Wo (ov_idxS (cs' := ppx p) rfl rfl (by omega) (by omega) hat hne) ?_
        repeat (first | (refine A1 ⟨?_⟩; intros) | (refine Wcx (c1) ?_) | (refine Wdcx (c1) ?_) | (refine Wcgx (c1) ?_) | (refine Wdcgx (c1) ?_))
        exact hgo _ _ (by (repeat (first | exact LeF.nil _ | refine LeF.cons (Le.refl _) ?_ | refine LeF.cons (Le.int (by omega)) ?_))) (by repeat (first | exact List.Sublist.refl _ | refine List.Sublist.cons _ ?_))
    · rw [cnt3_full hget hd] at hgo
      generalize cnt3 l k = d at *
      clear hget
      repeat (refine A1 ⟨?_⟩; intros)
      refine Wo (ov_idxS (cs' := ppx p) rfl rfl (by omega) (by omega) hat hne) ?_
      repeat (first | (refine A1 ⟨?_⟩; intros) | (refine Wcx (c1) ?_) | (refine Wdcx (c1) ?_) | (refine Wcgx (c1) ?_) | (refine Wdcgx (c1) ?_))
      exact hgo _ _ (by (repeat (first | exact LeF.nil _ | refine LeF.cons (Le.refl _) ?_ | refine LeF.cons (Le.int (by omega)) ?_))) (by repeat (first | exact List.Sublist.refl _ | refine List.Sublist.cons _ ?_))
  have hke : k = l.length := by omega
  subst hke
  have hcl : cnt3 l l.length < 3 := by
    unfold cnt3
    rw [List.take_length, dst_srt]
    omega
  generalize cnt3 l l.length = d at *
  clear hK hkl hk
  repeat (refine A1 ⟨?_⟩; intros)
  refine WPE.seq (Q := endH Tryz.prog _ _) ?_ E
  repeat (first | (refine AS ⟨?_⟩; intros) | (refine O1 ⟨?_⟩; intros))
  refine WdM [4, 5] [] (fun s => [(b3, 39, [[lit .nilIface, lit .nilIface, erA 3 (lit (.int .i64 0)) (lit (.int .i64 0)) (str [102, 101, 119, 101, 114, 32, 116, 104, 97, 110, 32, 116, 104, 114, 101, 101, 32, 100, 105, 102, 102, 101, 114, 101, 110, 116, 32, 118, 101, 114, 116, 105, 99, 101, 115])].getD s top]), (b2, 85, [lit (.slice none 0 0)])]) ?_
  refine MkD 4 ?_
  repeat (refine A1 ⟨?_⟩; intros)
  refine Wdo (ov_boxP (sv := ag _) rfl) ?_
  refine Wdo (ov_makeIface (s := pt _) (by kernel_rfl) rfl) ?_
  repeat (refine A1 ⟨?_⟩; intros)
  refine mkD0 ?_
  refine MkR (sv := top) (TS.store (sv := lit (.slice none 0 0)) (ds := [lit (.slice none 0 0)]) rfl rfl rfl rfl (.there _ (.here _)) rfl rfl) ?_
  refine MkR (sv := top) (TS.store (sv := erA 3 (lit (.int .i64 0)) (lit (.int .i64 0)) (str [102, 101, 119, 101, 114, 32, 116, 104, 97, 110, 32, 116, 104, 114, 101, 101, 32, 100, 105, 102, 102, 101, 114, 101, 110, 116, 32, 118, 101, 114, 116, 105, 99, 101, 115])) (ds := [erA 3 (lit (.int .i64 0)) (lit (.int .i64 0)) (str [102, 101, 119, 101, 114, 32, 116, 104, 97, 110, 32, 116, 104, 114, 101, 101, 32, 100, 105, 102, 102, 101, 114, 101, 110, 116, 32, 118, 101, 114, 116, 105, 99, 101, 115])]) rfl rfl rfl rfl (.here _) rfl rfl) ?_
  refine MkN ?_
  repeat (refine A1 ⟨?_⟩; intros)
  exact endHR _ _ (end2 (RV.cell1 (b := b2) rfl (by repeat (first | exact List.mem_cons_self | apply List.mem_cons_of_mem)) rfl) (RV.cell1 (b := b3) rfl (by repeat (first | exact List.mem_cons_self | apply List.mem_cons_of_mem)) rfl) (le_erx _ _)) (List.nil_sublist _) rfl
set_option maxHeartbeats 4000000 in
theorem ringOf_edge [PowTab] [Sent 3] (l : List Pq) (hl : l.length ≤ 4096) (hh : ∀ p ∈ l, ht p.1 ≤ 100000 ∧ ht p.2 ≤ 100000) (h3 : 3 ≤ (srt l).length) (he : ∃ i, i < l.length ∧ badE l i = true) : Pu Tryz.prog 27 [aps l] (noRg 3) := by
  refine PuH.toPu ?_
  refine PuH.introE Tryz.func27 rfl (by kernel_rfl) fun C hpan hdf => ?_
  have E0 := @efin0 _ Tryz.prog C 86 Tryz.f27 (fun r _ => r = noRg 3) hpan hdf
  have E := fun e a w (_ : e ≠ Exit.normal) h => E0 e a w h
  refine WPE.seq (Q := endH Tryz.prog _ _) ?_ E
  repeat (refine A1 ⟨?_⟩; intros)
  refine WPE.seq (Q := endH Tryz.prog _ _) ?_ E
  repeat (refine A1 ⟨?_⟩; intros)
  refine WPE.seq (Q := endH Tryz.prog _ _) ?_ E
  repeat (refine A1 ⟨?_⟩; intros)
  rename_i b2 b3
  refine WPE.seq (Q := endH Tryz.prog _ _) ?_ E
  repeat (refine A1 ⟨?_⟩; intros)
  refine WP.loopS (ι := RwSt) (fun y => y.k ≤ l.length ∧ Own 92 6 y.k ((l.take y.k).map ppx).flatten y.s y.Hs) (fun y => l.length - y.k) (fun y => fm [(2, lit (.pointer (some ⟨b2, 0, none⟩))), (3, lit (.pointer (some ⟨b3, 0, none⟩))), (4, y.s), (19, aps l), (20, lit (.int .i64 l.length)), (21, lit (.int .i64 y.k))])
    (fun y => (b3, 39, [lit .nilIface]) :: (b2, 85, [lit (.slice none 0 0)]) :: y.Hs) ⟨0, lit (.slice none 0 0), []⟩ ⟨Nat.zero_le _, Own.nil _ _⟩ (by (repeat (first | exact LeF.nil _ | refine LeF.cons (Le.refl _) ?_ | refine LeF.cons (Le.int (by omega)) ?_))) (List.Sublist.refl _) ?_
  rintro ⟨k, s, Hs⟩ ⟨hk, hown⟩ K hK
  simp only at hk hown ⊢
  have hco := hown.co
  by_cases hkl : k < l.length
  · have hget := List.getElem?_eq_getElem hkl
    generalize l[k] = p at hget
    have hhp := hh p (List.mem_of_getElem? hget)
    have hat := flat_at (f := apx) (n := 6) apx_len hget
    have hne : (l.map apx).flatten ≠ [] := flat_ne apx_len (by omega) (fun e => by rw [e] at hkl; simp at hkl)
    have c1 := normalP_t p hhp
    have c2 := ptOf_t p hhp
    have hgo := fun s' Hs' h F' H' => hK F' H' ⟨k + 1, s', Hs'⟩ ⟨by simp only; omega, h⟩ (by simp only; omega)
    simp only [map_take_snoc hget] at hgo
    clear hK hh E
    repeat (refine A1 ⟨?_⟩; intros)
    refine Wo (ov_idxS (cs' := apx p) rfl rfl (by omega) (by omega) hat hne) ?_
    repeat (first | (refine A1 ⟨?_⟩; intros) | (refine Wcx (c1) ?_) | (refine Wdcx (c1) ?_) | (refine Wcgx (c1) ?_) | (refine Wdcgx (c1) ?_) | (refine Wcx (c2) ?_) | (refine Wdcx (c2) ?_) | (refine Wcgx (c2) ?_) | (refine Wdcgx (c2) ?_))
    refine Wown hown (by omega) (fun s2 H2 hown' => ?_)
    have hco2 := hown'.co
    replace hgo := hgo s2 H2 hown'
    simp only [List.cons_append, List.nil_append]
    clear hown hown'
    repeat (refine A1 ⟨?_⟩; intros)
    exact hgo _ _ (by (repeat (first | exact LeF.nil _ | refine LeF.cons (Le.refl _) ?_ | refine LeF.cons (Le.int (by omega)) ?_))) (by repeat (first | exact List.Sublist.refl _ | refine List.Sublist.cons _ ?_))
  have hke : k = l.length := by omega
  subst hke
  rw [List.take_length] at hown
  clear hK hkl hk
  refine WP.rowS 4 hown rfl (show ([(b3, 39, [lit .nilIface]), (b2, 85, [lit (.slice none 0 0)])] ++ Hs).Perm _ from List.perm_append_comm) ?_
  clear hown hco
  repeat (refine A1 ⟨?_⟩; intros)
  refine WPE.seq (Q := endH Tryz.prog _ _) ?_ E
  repeat (refine A1 ⟨?_⟩; intros)
  refine WPE.seq (Q := endH Tryz.prog _ _) ?_ E
  repeat (refine A1 ⟨?_⟩; intros)
  refine WP.loopS (ι := Nat) (fun k => k ≤ l.length) (fun k => l.length - k) (fun k => fm [(2, lit (.pointer (some ⟨b2, 0, none⟩))), (3, lit (.pointer (some ⟨b3, 0, none⟩))), (4, pps l), (7, lit (.int .i64 (cnt3 l k : Nat))), (43, pps l), (44, lit (.int .i64 l.length)), (45, lit (.int .i64 k))])
    (fun _ => [(b3, 39, [lit .nilIface]), (b2, 85, [lit (.slice none 0 0)])]) 0 (Nat.zero_le _) (by (repeat (first | exact LeF.nil _ | refine LeF.cons (Le.refl _) ?_ | refine LeF.cons (Le.int (by omega)) ?_))) (List.Sublist.refl _) ?_
  rintro k hk K hK
  by_cases hkl : k < l.length
  · have hget := List.getElem?_eq_getElem hkl
    generalize l[k] = p at hget
    have hhp := hh p (List.mem_of_getElem? hget)
    have hat := flat_at (f := ppx) (n := 6) ppx_len hget
    have hne : (l.map ppx).flatten ≠ [] := flat_ne ppx_len (by omega) (fun e => by rw [e] at hkl; simp at hkl)
    have c1 := first_pu l p (by omega) (fun q hq => by have := hh q hq; omega) (by omega)
    have hgo := fun F' H' => hK F' H' (k + 1) (by omega) (by omega)
    have hc3 : cnt3 l k ≤ 3 := by unfold cnt3; omega
    clear hK hh E
    by_cases hd : cnt3 l k < 3
    · by_cases hp : p ∈ l.take k
      · rw [cnt3_in hget hp] at hgo
        have hf : fstI l p ≠ (k : Nat) := by
          unfold fstI
          have := idx_take hp
          split <;> omega
        generalize fstI l p = z at c1 hf
        generalize cnt3 l k = d at *
        clear hp hget
        repeat (refine A1 ⟨?_⟩; intros)
        refine Wo (ov_idxS (cs' := ppx p) rfl rfl (by omega) (by omega) hat hne) ?_
        repeat (first | (refine A1 ⟨?_⟩; intros) | (refine Wcx (c1) ?_) | (refine Wdcx (c1) ?_) | (refine Wcgx (c1) ?_) | (refine Wdcgx (c1) ?_))
        exact hgo _ _ (by (repeat (first | exact LeF.nil _ | refine LeF.cons (Le.refl _) ?_ | refine LeF.cons (Le.int (by omega)) ?_))) (by repeat (first | exact List.Sublist.refl _ | refine List.Sublist.cons _ ?_))
      · rw [cnt3_out hget hp hd] at hgo
        have hf : fstI l p = (k : Nat) := by
          unfold fstI
          rw [if_pos (List.mem_of_getElem? hget), idxOf_of hget hp]
        rw [hf] at c1
        generalize cnt3 l k = d at *
        clear hp hget hf
        repeat (refine A1 ⟨?_⟩; intros)
        refine Wo (ov_idxS (cs' := ppx p) rfl rfl (by omega) (by omega) hat hne) ?_
        repeat (first | (refine A1 ⟨?_⟩; intros) | (refine Wcx (c1) ?_) | (refine Wdcx (c1) ?_) | (refine Wcgx (c1) ?_) | (refine Wdcgx (c1) ?_))
        exact hgo _ _ (by (repeat (first | exact LeF.nil _ | refine LeF.cons (Le.refl _) ?_ | refine LeF.cons (Le.int (by omega)) ?_))) (by repeat (first | exact List.Sublist.refl _ | refine List.Sublist.cons _ ?_))
    · rw [cnt3_full hget hd] at hgo
      generalize cnt3 l k = d at *
      clear hget
      repeat (refine A1 ⟨?_⟩; intros)
      refine Wo (ov_idxS (cs' := ppx p) rfl rfl (by omega) (by omega) hat hne) ?_
      repeat (first | (refine A1 ⟨?_⟩; intros) | (refine Wcx (c1) ?_) | (refine Wdcx (c1) ?_) | (refine Wcgx (c1) ?_) | (refine Wdcgx (c1) ?_))
      exact hgo _ _ (by (repeat (first | exact LeF.nil _ | refine LeF.cons (Le.refl _) ?_ | refine LeF.cons (Le.int (by omega)) ?_))) (by repeat (first | exact List.Sublist.refl _ | refine List.Sublist.cons _ ?_))
  have hke : k = l.length := by omega
  subst hke
  have hcl : cnt3 l l.length = 3 := by
    unfold cnt3
    rw [List.take_length, dst_srt]
    omega
  rw [hcl]
  clear hK hkl hk
  repeat (refine A1 ⟨?_⟩; intros)
  refine WPE.seq (Q := endH Tryz.prog _ _) ?_ E
  repeat (refine A1 ⟨?_⟩; intros)
  refine WPE.ahead ?_
  refine WPE.seq (Q := endH Tryz.prog Tryz.f27.results (fun r _ => r = noRg 3)) ?_ (fun e a w hne h => by cases e <;> first | exact absurd rfl hne | exact E _ a w hne h)
  repeat (first | (refine A1 ⟨?_⟩; intros) | (refine Wcx (edges_pu l) ?_) | (refine Wdcx (edges_pu l) ?_) | (refine Wcgx (edges_pu l) ?_) | (refine Wdcgx (edges_pu l) ?_))
  refine WPE.range (g := .tmp 69) (ps := [70, 71]) (Rs := []) (G := [(b3, 39, [lit .nilIface]), (b2, 85, [lit (.slice none 0 0)])]) (Gx := fun H' => ∃ s : List UInt8, H' = [(b3, 39, [erA 3 (lit (.int .i64 0)) (lit (.int .i64 0)) (str s)]), (b2, 85, [lit (.slice none 0 0)])]) (T := fun i => badE l i = false) rfl (edges1_ok l (by omega)) (List.Perm.refl _) (fun _ _ => rfl) (by decide) ?_ ?_ ?_
  · intro i y C1 hi _ _ hpan1
    have hml : (i + 1) % l.length < l.length := Nat.mod_lt _ (by omega)
    have hget := getD_at hi
    have hget2 := getD_at hml
    have hbe : badE l i = decide (l.getD i (0, 0) = l.getD ((i + 1) % l.length) (0, 0)) := by unfold badE; rw [hget, hget2]; simp
    have ci := sitoa_pu i (by omega)
    simp only [edgS]
    generalize l.getD i (0, 0) = p at *
    generalize l.getD ((i + 1) % l.length) (0, 0) = q at *
    have h1 := hh p (List.mem_of_getElem? hget)
    have h2 := hh q (List.mem_of_getElem? hget2)
    have c := pequal_pu p q (by omega) (by omega)
    refine WPX.le (F' := fm [(2, lit (.pointer (some ⟨b2, 0, none⟩))), (3, lit (.pointer (some ⟨b3, 0, none⟩))), (70, lit (.int .i64 (i : Nat))), (71, ag (ppe p q))]) (by (repeat (first | exact LeF.nil _ | refine LeF.cons (Le.refl _) ?_ | refine LeF.cons (Le.int (by omega)) ?_))) ?_
    refine WPX.seq (WPX.reg ?_)
    repeat (refine A1 ⟨?_⟩; intros)
    refine WPX.reg ?_
    repeat (refine A1 ⟨?_⟩; intros)
    refine onlyN.i ?_
    rename_i b11
    intro C2 _ _ hpan2
    refine WPX.block (WPX.seq (WPX.reg ?_))
    refine Wo (ov_idxA (len := 2) (k := 6) (i := 0) Tryz.underlying158 rfl rfl (by decide) (by decide)) ?_
    repeat (refine A1 ⟨?_⟩; intros)
    refine Wo (ov_idxA (len := 2) (k := 6) (i := 1) Tryz.underlying158 rfl rfl (by decide) (by decide)) ?_
    by_cases hpq : p = q
    · rw [decide_eq_true hpq] at c
      repeat (first | (refine A1 ⟨?_⟩; intros) | (refine Wcx (c) ?_) | (refine Wdcx (c) ?_) | (refine Wcgx (c) ?_) | (refine Wdcgx (c) ?_))
      have hdb := dec_len (n := i) (L := 1) (len_le (k := 1) (by simp; omega))
      have l1 : ([116, 104, 101, 32, 101, 100, 103, 101, 32, 102, 114, 111, 109, 32, 118, 101, 114, 116, 101, 120, 32] : List UInt8).length = 21 := rfl
      have l2 : ([32, 104, 97, 115, 32, 110, 111, 32, 108, 101, 110, 103, 116, 104] : List UInt8).length = 14 := rfl
      have l3 : ([116, 104, 101, 32, 101, 100, 103, 101, 32, 102, 114, 111, 109, 32, 118, 101, 114, 116, 101, 120, 32] ++ dec i).length = 21 + (dec i).length := by rw [List.length_append, l1]
      refine WPX.condT rfl (WPX.seq (WPX.perm (perm3 _ _ _ _) (WPX.mix [8, 9] [(b11, 158, ppx p ++ ppx q)] (fun s => [(b3, 39, [[lit .nilIface, lit .nilIface, erA 3 (lit (.int .i64 0)) (lit (.int .i64 0)) (str ([116, 104, 101, 32, 101, 100, 103, 101, 32, 102, 114, 111, 109, 32, 118, 101, 114, 116, 101, 120, 32] ++ dec i ++ [32, 104, 97, 115, 32, 110, 111, 32, 108, 101, 110, 103, 116, 104]))].getD s top]), (b2, 85, [lit (.slice none 0 0)])]) ?_)))
      refine MkD 8 ?_
      repeat (first | (refine A1 ⟨?_⟩; intros) | (refine Wcx (ci) ?_) | (refine Wdcx (ci) ?_) | (refine Wcgx (ci) ?_) | (refine Wdcgx (ci) ?_))
      refine Wdo (ov_boxP (sv := ag _) rfl) ?_
      refine Wdo (ov_makeIface (s := pt _) (by kernel_rfl) rfl) ?_
      repeat (refine A1 ⟨?_⟩; intros)
      refine mkD0 ?_
      refine MkR (sv := top) (TS.store (sv := lit (.slice none 0 0)) (ds := [lit (.slice none 0 0)]) rfl rfl rfl rfl (.there _ (.here _)) rfl rfl) ?_
      refine MkR (sv := top) (TS.store (sv := erA 3 (lit (.int .i64 0)) (lit (.int .i64 0)) (str ([116, 104, 101, 32, 101, 100, 103, 101, 32, 102, 114, 111, 109, 32, 118, 101, 114, 116, 101, 120, 32] ++ dec i ++ [32, 104, 97, 115, 32, 110, 111, 32, 108, 101, 110, 103, 116, 104]))) (ds := [erA 3 (lit (.int .i64 0)) (lit (.int .i64 0)) (str ([116, 104, 101, 32, 101, 100, 103, 101, 32, 102, 114, 111, 109, 32, 118, 101, 114, 116, 101, 120, 32] ++ dec i ++ [32, 104, 97, 115, 32, 110, 111, 32, 108, 101, 110, 103, 116, 104]))]) rfl rfl rfl rfl (.here _) rfl rfl) ?_
      refine MkN ?_
      refine thenN ?_
      exact WPX.ret (blkR ⟨[(b3, 39, [erA 3 (lit (.int .i64 0)) (lit (.int .i64 0)) (str ([116, 104, 101, 32, 101, 100, 103, 101, 32, 102, 114, 111, 109, 32, 118, 101, 114, 116, 101, 120, 32] ++ dec i ++ [32, 104, 97, 115, 32, 110, 111, 32, 108, 101, 110, 103, 116, 104]))]), (b2, 85, [lit (.slice none 0 0)])], List.sublist_append_left _ _, _, rfl⟩)
    · rw [decide_eq_false hpq] at c hbe
      repeat (first | (refine A1 ⟨?_⟩; intros) | (refine Wcx (c) ?_) | (refine Wdcx (c) ?_) | (refine Wcgx (c) ?_) | (refine Wdcgx (c) ?_))
      refine WPX.condF rfl (WPX.skip ?_)
      exact blkN ⟨by repeat (first | exact List.Sublist.refl _ | refine List.Sublist.cons _ ?_), hbe⟩
  · intro C1 D a w hT
    obtain ⟨i, hi, hb⟩ := he
    rw [hT i hi] at hb
    cases hb
  · rintro C1 D _ a w hrb ⟨s, rfl⟩ hst
    exact @efin1 _ Tryz.prog C 86 Tryz.f27 C1 D (fun r _ => r = noRg 3) hpan hdf hrb .ret a w (.mk hst (endHR _ [] (end2 (RV.cell1 (b := b2) rfl (by repeat (first | exact List.mem_cons_self | apply List.mem_cons_of_mem)) rfl) (RV.cell1 (b := b3) rfl (by repeat (first | exact List.mem_cons_self | apply List.mem_cons_of_mem)) rfl) (le_erx _ _)) (List.nil_sublist _) rfl))
section
variable {P : Program} {C : Ctx} {n : Nat} {F : Fr} {H : LH} {ops : Array Oper} {K : Fr → LH → Prop} {rest : List Oper} {ty : TypeId} {pos : String} {aft : Array Edge}
end
end Go.Ab
