/- Texts laid one behind the other: PNum, PRat, Pub2, PRatB, GPrs. -/
import Derived.Test.YtebghnhocigmlaaGreatDoorB14
import Derived.Test.YtebghnhocigmlaaGreatDoorB11
import Derived.Test.YtebghnhocigmlaaGreatDoorB05
import Derived.LaidEql
import Derived.Test.YtebghnhocigmlaaGreatDoorB03
import Derived.Test.YtebghnhocigmlaaGreatDoorB13
namespace Go.Ab
open Go.Proofs
set_option linter.unusedSectionVars false
set_option linter.unusedVariables false
set_option linter.unusedSimpArgs false
variable [Base]
theorem muladd_step {e ds : List Nat} {i c d v0 : Nat} (hi : i < ds.length) (hd : ds.getD i 0 = d) (he : e.length = i) (hD : D e) (hc : c ≤ 1000000000) (hdl : d < 4294967296) (hv : val e + 4294967296 ^ i * c = v0 + 1000000000 * val (ds.take i)) :
    D (e ++ [(c + d * 1000000000) % 4294967296]) ∧ (c + d * 1000000000) / 4294967296 ≤ 1000000000 ∧ val (e ++ [(c + d * 1000000000) % 4294967296]) + 4294967296 ^ (i + 1) * ((c + d * 1000000000) / 4294967296) = v0 + 1000000000 * val (ds.take (i + 1)) := by
  refine ⟨hD.append (D.cons (Nat.mod_lt _ (by omega)) D.nil), by omega, ?_⟩
  rw [val_snoc, he, val_take_succ' ds i, hd, Nat.pow_succ, Nat.mul_assoc, Nat.add_assoc, ← Nat.mul_add]
  have e1 : (c + d * 1000000000) % 4294967296 + 4294967296 * ((c + d * 1000000000) / 4294967296) = c + d * 1000000000 := Nat.mod_add_div _ _
  rw [e1, Nat.mul_add, ← Nat.add_assoc, hv, Nat.mul_add, Nat.add_assoc]
  congr 2
  rw [Nat.mul_comm d, Nat.mul_left_comm]
theorem muladd_end {e : List Nat} {v v0 c : Nat} (he : e.length = (dgs v).length) (hD : D e) (hc : c ≤ 1000000000) (hv : val e + 4294967296 ^ (dgs v).length * c = v0 + 1000000000 * v) :
    (0 < c → e ++ [c] = dgs (v0 + 1000000000 * v)) ∧ (c = 0 → e = dgs (v0 + 1000000000 * v)) := by
  constructor
  · intro h0
    have hval : val (e ++ [c]) = v0 + 1000000000 * v := by rw [val_snoc, he]; exact hv
    rw [← hval]
    refine Can.eq ⟨hD.append (D.cons (by omega) D.nil), ?_⟩
    rw [List.getLast?_append]
    simp
    omega
  · intro h0
    rw [h0, Nat.mul_zero, Nat.add_zero] at hv
    rw [← hv]
    refine dgs_of hD fun hne => ?_
    have h1 : (dgs v).length - 1 < (dgs v).length := by
      have : 0 < e.length := List.length_pos_iff.2 hne
      omega
    have := pow_le_of_len h1
    rw [he, hv]
    omega
abbrev u32T : TypeId := 65
structure MaSt where
  i : Nat
  e : List Nat
  c : Nat
  Hs : LH
structure NpSt where
  k : Nat
  s : SV
  Hs : LH
set_option maxHeartbeats 8000000 in
theorem nparse_pu (l : List UInt8) (h : allD l) (hne : l ≠ []) (hlen : l.length ≤ 4096) : Pu Tryz.prog 310 [str l] (Ab.tup [nat (dcv l), lit .nilIface]) := by
  have hpos : 0 < l.length := List.length_pos_iff.2 hne
  refine Pu.intro Tryz.func310 rfl (by kernel_rfl) fun C => ?_
  repeat (refine A1 ⟨?_⟩; intros)
  refine WP.loopS (ι := Nat) (fun k => k ≤ l.length) (fun k => l.length - k) (fun k => fm [(0, str l), (16, lit (.int .i64 l.length)), (17, lit (.int .i64 k))]) (fun _ => []) 0 (Nat.zero_le _) (by (repeat (first | exact LeF.nil _ | refine LeF.cons (Le.refl _) ?_ | refine LeF.cons (Le.int (by omega)) ?_))) (List.nil_sublist _) ?_
  rintro k hk K hK
  by_cases hkl : k < l.length
  · have hb := h.at hkl
    have hgo := fun F' H' (hF : LeF F' (fm [(0, str l), (16, lit (.int .i64 l.length)), (17, lit (.int .i64 (k + 1 : Nat)))])) => hK F' H' (k + 1) (by omega) (by omega) hF (List.nil_sublist _)
    clear hK h
    generalize hgb : (l.getD k 0).toNat = bb at *
    repeat (refine A1 ⟨?_⟩; intros)
    exact hgo _ _ (by (repeat (first | exact LeF.nil _ | refine LeF.cons (Le.refl _) ?_ | refine LeF.cons (Le.int (by omega)) ?_)))
  · clear hK
    obtain rfl : k = l.length := by omega
    repeat (refine A1 ⟨?_⟩; intros)
    refine WP.loopS (ι := NpSt) (fun x => x.k ≤ l.length ∧ (x.k = 0 ∨ (l.length - x.k) % 9 = 0) ∧ Own u32T 1 (dgs (dcv (l.take x.k))).length (dcells (dgs (dcv (l.take x.k)))) x.s x.Hs) (fun x => l.length - x.k)
      (fun x => fm [(0, str (l.drop x.k)), (5, x.s)]) (fun x => x.Hs) ⟨0, lit (.slice none 0 0), []⟩ ⟨Nat.zero_le _, .inl rfl, by rw [List.take_zero, dcv_nil, dgs_zero]; exact Own.nil _ _⟩ (by rw [List.drop_zero]; (repeat (first | exact LeF.nil _ | refine LeF.cons (Le.refl _) ?_ | refine LeF.cons (Le.int (by omega)) ?_))) (List.nil_sublist _) ?_
    rintro ⟨k, s, Hs⟩ ⟨hk, h9, hown⟩ K hK
    simp only at hk h9 hown ⊢
    by_cases hkl : k < l.length
    · have hrl : (l.drop k).length = l.length - k := List.length_drop
      have hrd := h.drop k
      have hcut : ∀ n, dcv (l.take (k + n)) = dcv (l.take k) * 10 ^ ((l.drop k).take n).length + dcv ((l.drop k).take n) := fun n => by rw [← dcv_append, List.take_add]
      have hdd : ∀ n, l.drop (k + n) = (l.drop k).drop n := fun n => by rw [List.drop_drop]
      have hg0 := fun n F' H' s' Hs' => hK F' H' ⟨k + n, s', Hs'⟩
      simp only [hcut, hdd] at hg0
      have hv0 : k = 0 → dcv (l.take k) = 0 := fun e => by rw [e, List.take_zero]; rfl
      have hvl : (dgs (dcv (l.take k))).length ≤ 4096 := by
        have h1 := dcv_lt (h.take k)
        rw [List.length_take, Nat.min_eq_left hk] at h1
        have h2 : (10 : Nat) ^ k ≤ 4294967296 ^ k := Nat.pow_le_pow_left (by omega) k
        have := len_le (Nat.lt_of_lt_of_le h1 h2)
        omega
      clear hK h hcut hdd
      generalize l.drop k = rest at *
      generalize dcv (l.take k) = v at *
      have hco := hown.co
      obtain ⟨n0, n9, nl, nm⟩ := chk_le (n := l.length - k) (by omega)
      generalize hchk : chk (l.length - k) = n at *
      repeat (refine AS ⟨?_⟩; intros)
      (refine O1 ⟨?_⟩; intros)
      (refine O1 ⟨?_⟩; intros)
      (refine O1 ⟨?_⟩; intros)
      repeat (refine AS ⟨?_⟩; intros)
      refine WPL.viaS1 (fun F H => LeF F (fm [(0, str rest), (5, s), (6, lit (.int .i64 n))]) ∧ H = Hs) ?_ ?_
      · by_cases h0 : ((rest.length % 9 : Nat) : Int) = 0
        · have hn : n = 9 := by rw [← hchk, ← hrl]; unfold chk; rw [if_pos (by omega)]
          repeat (refine A1 ⟨?_⟩; intros)
          exact ⟨by (repeat (first | exact LeF.nil _ | refine LeF.cons (Le.refl _) ?_ | refine LeF.cons (Le.int (by omega)) ?_)), rfl⟩
        · have hn : n = rest.length % 9 := by rw [← hchk, ← hrl]; unfold chk; rw [if_neg (by omega)]
          repeat (refine A1 ⟨?_⟩; intros)
          exact ⟨by rw [hn]; (repeat (first | exact LeF.nil _ | refine LeF.cons (Le.refl _) ?_ | refine LeF.cons (Le.int (by omega)) ?_)), rfl⟩
      rintro F H ⟨hF, rfl⟩
      refine WP.le hF ?_
      clear hF
      have hcl : allD (rest.take n) := hrd.take n
      have hc9 : dcv (rest.take n) < 1000000000 := dcv_chunk hcl (by rw [List.length_take]; omega)
      repeat (refine A1 ⟨?_⟩; intros)
      refine WP.loopS (ι := Nat) (fun i => i ≤ n) (fun i => n - i) (fun i => fm [(0, str rest), (5, s), (6, lit (.int .i64 n)), (7, lit (.int .u64 (dcv (rest.take i) : Nat))), (46, lit (.int .i64 n)), (47, lit (.int .i64 i))]) (fun _ => H) 0 (Nat.zero_le _) (by rw [List.take_zero, dcv_nil]; (repeat (first | exact LeF.nil _ | refine LeF.cons (Le.refl _) ?_ | refine LeF.cons (Le.int (by omega)) ?_))) (List.Sublist.refl _) ?_
      rintro i hi K2 hK2
      by_cases hin : i < n
      · have hb := hrd.at (i := i) (by omega)
        have hc8 : dcv (rest.take i) < 1000000000 := dcv_chunk (hrd.take i) (by rw [List.length_take]; omega)
        have hst := dcv_take_succ (l := rest) (i := i) (by omega)
        have hgo := fun F' H' (hF : LeF F' (fm [(0, str rest), (5, s), (6, lit (.int .i64 n)), (7, lit (.int .u64 (dcv (rest.take (i + 1)) : Nat))), (46, lit (.int .i64 n)), (47, lit (.int .i64 (i + 1 : Nat)))])) => hK2 F' H' (i + 1) (by omega) (by omega) hF
        rw [hst] at hgo
        clear hK2 hst hg0 hown hrd hcl hc9
        generalize dcv (rest.take i) = cc at *
        repeat (refine A1 ⟨?_⟩; intros)
        exact hgo _ _ (by (repeat (first | exact LeF.nil _ | refine LeF.cons (Le.refl _) ?_ | refine LeF.cons (Le.int (by omega)) ?_))) (List.Sublist.refl _)
      · obtain rfl : i = n := by omega
        clear hK2
        replace hg0 := hg0 i
        have hti : (rest.take i).length = i := by rw [List.length_take]; omega
        rw [hti] at hg0
        have hv' : v * 10 ^ i + dcv (rest.take i) = dcv (rest.take i) + 1000000000 * v := by
          rcases h9 with h0 | h0
          · rw [hv0 h0]; omega
          · have : i = 9 := by rw [← hchk]; unfold chk; rw [if_pos h0]
            rw [this, pow10_9]; omega
        rw [hv'] at hg0
        repeat (refine A1 ⟨?_⟩; intros)
        refine Wo (ov_ssl (i := i) (j := rest.length) rfl (fun y hy => by cases hy; exact ⟨_, _, rfl, rfl⟩) (fun h => by cases h) (fun _ h => by cases h) (fun _ => rfl) (by omega) (Nat.le_refl _)) ?_
        rw [List.take_length]
        clear hv' hcl hrd hti
        generalize rest.drop i = rest2 at *
        generalize dcv (rest.take i) = v0 at *
        have hDv := D_dgs v
        have hvv := val_dgs v
        repeat (refine A1 ⟨?_⟩; intros)
        refine Wo (ov_lenOwn hown rfl) ?_
        repeat (refine A1 ⟨?_⟩; intros)
        refine WP.loopS (ι := MaSt) (fun x => x.i ≤ (dgs v).length ∧ x.e.length = x.i ∧ D x.e ∧ x.c ≤ 1000000000 ∧ val x.e + 4294967296 ^ x.i * x.c = v0 + 1000000000 * val ((dgs v).take x.i) ∧ Own u32T 1 (dgs v).length (dcells (x.e ++ (dgs v).drop x.i)) s x.Hs) (fun x => (dgs v).length - x.i)
          (fun x => fm [(0, str rest2), (5, s), (7, lit (.int .u64 x.c)), (62, s), (63, lit (.int .i64 (dgs v).length)), (64, lit (.int .i64 x.i))]) (fun x => x.Hs) ⟨0, [], v0, H⟩
          ⟨Nat.zero_le _, rfl, D.nil, by simp only; omega, by simp only [List.take_zero, val_nil]; omega, by simp only [List.drop_zero, List.nil_append]; exact hown⟩ (by (repeat (first | exact LeF.nil _ | refine LeF.cons (Le.refl _) ?_ | refine LeF.cons (Le.int (by omega)) ?_))) (List.Sublist.refl _) ?_
        clear hown
        rintro ⟨j, e, c, Hs⟩ ⟨hj, hej, hDe, hc, hval, hown⟩ K3 hK3
        simp only at hj hej hDe hc hval hown ⊢
        by_cases hjl : j < (dgs v).length
        · obtain ⟨b, cap, hnc, hcm, rfl, rfl⟩ := hown.blk (by omega)
          have hdj := hDv.get (k := j)
          obtain ⟨d, hd⟩ : ∃ d, (dgs v).getD j 0 = d := ⟨_, rfl⟩
          rw [hd] at hdj
          obtain ⟨g1, g2, g3⟩ := muladd_step hjl hd hej hDe hc hdj hval
          have hdrop : (dgs v).drop j = d :: (dgs v).drop (j + 1) := by
            rw [List.drop_eq_getElem_cons hjl, ← hd, List.getD, List.getElem?_eq_getElem hjl]
            rfl
          have hl2 : (dcells (e ++ (dgs v).drop j)).length = (dgs v).length := by rw [dcells_length, List.length_append, List.length_drop]; omega
          have hgt : (dcells (e ++ (dgs v).drop j) ++ List.replicate (cap * 1 - (dgs v).length * 1) top)[j]? = some (lit (.int .u32 (d : Int))) := by
            rw [List.getElem?_append_left (by omega), dcells_get _ _ (by rw [List.length_append, List.length_drop]; omega), hdrop, List.getD, List.getElem?_append_right (by omega), hej, Nat.sub_self]
            rfl
          have hset : ∀ x : Nat, spl (dcells (e ++ (dgs v).drop j) ++ List.replicate (cap * 1 - (dgs v).length * 1) top) j [lit (.int .u32 (x : Int))] = dcells ((e ++ [x]) ++ (dgs v).drop (j + 1)) ++ List.replicate (cap * 1 - (dgs v).length * 1) top := fun x => by
            show (dcells (e ++ (dgs v).drop j) ++ _).set j _ = _
            rw [List.set_append_left _ _ (by omega), dcells_set, hdrop, List.set_append_right _ _ (by omega), hej, Nat.sub_self, List.set_cons_zero, List.append_assoc]
            rfl
          have hgo := fun F' H' => hK3 F' H' ⟨j + 1, e ++ [(c + d * 1000000000) % 4294967296], (c + d * 1000000000) / 4294967296, [(b, u32T, dcells ((e ++ [(c + d * 1000000000) % 4294967296]) ++ (dgs v).drop (j + 1)) ++ List.replicate (cap * 1 - (dgs v).length * 1) top)]⟩ ⟨by simp only; omega, by simp [hej], g1, g2, g3, ⟨by rw [dcells_length]; simp [hej]; omega, .inr ⟨b, cap, hnc, hcm, rfl, rfl⟩⟩⟩ (by simp only; omega)
          have hset1 := hset ((c + d * 1000000000) % 4294967296)
          clear hK3 hset hown g1 g2 g3 hdrop hd hDv hvv hval hDe
          repeat (refine A1 ⟨?_⟩; intros)
          refine Wo (ov_loadL rfl (by repeat (first | exact List.mem_cons_self | apply List.mem_cons_of_mem)) hgt) ?_
          repeat (refine A1 ⟨?_⟩; intros)
          rw [show ((c : Int) + (d : Int) * 1000000000) % 4294967296 = (((c + d * 1000000000) % 4294967296 : Nat) : Int) by omega]
          refine WPL.store (b := b) (o := j) (sv := lit (.int .u32 (((c + d * 1000000000) % 4294967296 : Nat) : Int))) rfl rfl rfl (.here _) hset1 (Nat.ble_eq_true_of_le (by rw [List.length_append, hl2]; omega)) ?_
          repeat (refine A1 ⟨?_⟩; intros)
          exact hgo _ _ (by (repeat (first | exact LeF.nil _ | refine LeF.cons (Le.refl _) ?_ | refine LeF.cons (Le.int (by omega)) ?_))) (List.Sublist.refl _)
        · obtain rfl : j = (dgs v).length := by omega
          rw [List.take_length, hvv] at hval
          rw [List.drop_length, List.append_nil] at hown
          obtain ⟨m1, m2⟩ := muladd_end hej hDe hc hval
          clear hK3 hval hDv hvv
          rcases Nat.eq_zero_or_pos c with h0 | h0
          · have he := m2 h0
            rw [← he] at hg0
            have hgo := fun F' H' => hg0 F' H' s Hs ⟨by omega, .inr (by omega), by rw [hej]; exact hown⟩ (by omega)
            clear hg0 m1 m2 hown
            subst h0
            repeat (refine A1 ⟨?_⟩; intros)
            exact hgo _ _ (by (repeat (first | exact LeF.nil _ | refine LeF.cons (Le.refl _) ?_ | refine LeF.cons (Le.int (by omega)) ?_))) (List.Sublist.refl _)
          · have he := m1 h0
            rw [← he] at hg0
            clear m1 m2
            repeat (refine A1 ⟨?_⟩; intros)
            refine Wown hown (by omega) (fun s' H' hown' => ?_)
            have hgo := fun F' H'' => hg0 F' H'' s' H' ⟨by omega, .inr (by omega), by rw [List.length_append, hej]; unfold dcells at hown' ⊢; rw [List.map_append]; exact hown'⟩ (by omega)
            have hco' := hown'.co
            clear hg0 hown hown'
            simp only [List.cons_append, List.nil_append]
            repeat (refine A1 ⟨?_⟩; intros)
            exact hgo _ _ (by (repeat (first | exact LeF.nil _ | refine LeF.cons (Le.refl _) ?_ | refine LeF.cons (Le.int (by omega)) ?_))) (List.sublist_cons_self _ _)
    · obtain rfl : k = l.length := by omega
      rw [List.take_length] at hown
      rw [List.drop_length]
      clear hK
      have hco := hown.co
      clear h9 hk
      unfold nat
      generalize dgs (dcv l) = ds at *
      obtain ⟨hcl, ⟨h0, rfl, rfl⟩ | ⟨b, cap, hnc, hcm, rfl, rfl⟩⟩ := hown
      · have hds := List.length_eq_zero_iff.1 h0
        subst hds
        clear hcl
        repeat (refine A1 ⟨?_⟩; intros)
        refine endR (end2 (RV.tmp rfl) (RV.tmp rfl) (Le.tup2 le_nil (Le.refl _)))
      · clear hcl
        refine WP.pub (d := 5) (s' := dg ds) (HDel.here _) rfl (fun m arr h1 h2 => by
          rw [dg_nsl]
          unfold nsl
          rw [List.length_map, List.map_map]
          exact pub_ownL (cs := dcells ds) h1 h2 hnc hcm) ?_
        repeat (refine A1 ⟨?_⟩; intros)
        ((first | refine endR ?_ | refine endN ?_); exact end2 (RV.tmp rfl) (RV.tmp rfl) (Le.refl _))
theorem ov_ieqNL' {F : Fr} {H : LH} {ty T' : TypeId} {x y : Operand} {u : TypeId} {v : Value} (hx : ev F x = lit .nilIface) (hy : ev F y = lit (.iface u v)) : OpV Tryz.prog (.binOp .eql 25 x y T') ty F H (lit (.bool false)) :=
  ov_bin hx hy (fun w => run_eql_iface_nil_left w u v Tryz.underlying25) (fun w => by simp [Go.eqGuard])
theorem isNil'_pu (g : Nat) : Pu Tryz.prog 14 [lit .nilIface, lit (sent g)] (lit (.bool false)) := by
  refine Pu.intro Tryz.func14 rfl (by kernel_rfl) fun C => ?_
  repeat (refine A1 ⟨?_⟩; intros)
  refine Wo (ov_ieqNL' rfl rfl) ?_
  repeat (refine A1 ⟨?_⟩; intros)
  ((first | refine endR ?_ | refine endN ?_); exact end1 (RV.tmp rfl) (Le.refl _))
theorem getD_mem {l : List UInt8} {i : Nat} (h : i < l.length) : l.getD i 0 ∈ l := by
  rw [List.getD, List.getElem?_eq_getElem h]; exact List.getElem_mem h
theorem idxB_no {l : List UInt8} {b : Nat} (hb : b < 256) (h : ∀ x ∈ l, x ≠ UInt8.ofNat b) : idxB l b = -1 := by
  rcases idxB_spec l hb with ⟨h1, _⟩ | ⟨m, _, hm, h2, _⟩
  · exact h1
  · exact absurd h2 (h _ (getD_mem hm))
theorem idxB_cut {l r : List UInt8} {b : Nat} (hb : b < 256) (h : ∀ x ∈ l, x ≠ UInt8.ofNat b) : idxB (l ++ UInt8.ofNat b :: r) b = l.length := by
  have hat : (l ++ UInt8.ofNat b :: r).getD l.length 0 = UInt8.ofNat b := by simp [List.getD]
  rcases idxB_spec (l ++ UInt8.ofNat b :: r) hb with ⟨_, h1⟩ | ⟨m, h0, hm, h2, h3⟩
  · exact absurd hat (h1 l.length (by simp))
  · rw [h0]
    rcases Nat.lt_trichotomy m l.length with hl | hl | hl
    · have : (l ++ UInt8.ofNat b :: r).getD m 0 = l.getD m 0 := by simp [List.getD, List.getElem?_append_left hl]
      rw [this] at h2
      exact absurd h2 (h _ (getD_mem hl))
    · rw [hl]
    · exact absurd hat (h3 _ hl)
theorem sindex_pu (l : List UInt8) {b : Nat} (hb : b < 256) (hne : l ≠ [UInt8.ofNat b]) (hl : l.length ≤ 1000000) : Pu Tryz.prog 53 [str l, str [UInt8.ofNat b]] (lit (.int .i64 (idxB l b))) := by
  have c := sliteIdx_pu l hb
  have h1 : ([UInt8.ofNat b] : List UInt8).length = 1 := rfl
  have hne' : ¬ [UInt8.ofNat b] = l := fun e => hne e.symm
  refine Pu.intro Tryz.func53 rfl (by kernel_rfl) fun C => ?_
  repeat (refine A1 ⟨?_⟩; intros)
  refine Wo (ov_sidx (i := 0) rfl rfl (by omega)) ?_
  rw [show (([UInt8.ofNat b].getD 0 0).toNat : Int) = (b : Int) from by
    show ((UInt8.ofNat b).toNat : Int) = b
    rw [UInt8.toNat_ofNat', Nat.mod_eq_of_lt hb]]
  repeat (first | (refine A1 ⟨?_⟩; intros) | (refine Wcx (c) ?_) | (refine Wdcx (c) ?_) | (refine Wcgx (c) ?_) | (refine Wdcgx (c) ?_))
  ((first | refine endR ?_ | refine endN ?_); exact end1 (RV.tmp rfl) (Le.refl _))
theorem cut_t (l r : List UInt8) {b : Nat} (hb : b < 256) (h : ∀ x ∈ l, x ≠ UInt8.ofNat b) (h0 : l ≠ []) (hl : l.length + r.length ≤ 100000) : Pu Tryz.prog 354 [str (l ++ UInt8.ofNat b :: r), str [UInt8.ofNat b]] (Ab.tup [str l, str r, lit (.bool true)]) := by
  have c := sindex_pu (l ++ UInt8.ofNat b :: r) hb (fun e => by
    have := congrArg List.length e
    have h1 := List.length_pos_iff.2 h0
    simp at this
    omega) (by simp; omega)
  rw [idxB_cut hb h] at c
  have h1 : ([UInt8.ofNat b] : List UInt8).length = 1 := rfl
  have hlen : (l ++ UInt8.ofNat b :: r).length = l.length + (r.length + 1) := by simp
  have e1 : ((l ++ UInt8.ofNat b :: r).take l.length).drop 0 = l := by simp
  have e2 : (l ++ UInt8.ofNat b :: r).drop (l.length + 1) = r := by simp
  generalize l ++ UInt8.ofNat b :: r = w at *
  refine Pu.intro Tryz.func354 rfl (by kernel_rfl) fun C => ?_
  repeat (first | (refine A1 ⟨?_⟩; intros) | (refine Wcx (c) ?_) | (refine Wdcx (c) ?_) | (refine Wcgx (c) ?_) | (refine Wdcgx (c) ?_))
  refine Wdo (ov_ssl (i := 0) (j := l.length) rfl (fun _ h => by cases h) (fun _ => rfl) (fun y h => ⟨_, _, by cases h; exact rfl, rfl⟩) (fun h => by cases h) (by omega) (by omega)) ?_
  rw [e1]
  repeat (refine A1 ⟨?_⟩; intros)
  refine Wdo (ov_ssl (i := l.length + 1) (j := w.length) rfl (fun y h => ⟨_, _, by cases h; exact rfl, by omega⟩) (fun h => by cases h) (fun _ h => by cases h) (fun _ => rfl) (by omega) (Nat.le_refl _)) ?_
  rw [List.take_length, e2]
  repeat (refine A1 ⟨?_⟩; intros)
  ((first | refine endR ?_ | refine endN ?_); exact end3 (RV.tmp rfl) (RV.tmp rfl) (RV.tmp rfl) (Le.refl _))
theorem cut_f (l : List UInt8) {b : Nat} (hb : b < 256) (h : ∀ x ∈ l, x ≠ UInt8.ofNat b) (hl : l.length ≤ 100000) : Pu Tryz.prog 354 [str l, str [UInt8.ofNat b]] (Ab.tup [str l, str [], lit (.bool false)]) := by
  have c := sindex_pu l hb (fun e => by rw [e] at h; exact h _ (by simp) rfl) (by omega)
  rw [idxB_no hb h] at c
  refine Pu.intro Tryz.func354 rfl (by kernel_rfl) fun C => ?_
  repeat (first | (refine A1 ⟨?_⟩; intros) | (refine Wcx (c) ?_) | (refine Wdcx (c) ?_) | (refine Wcgx (c) ?_) | (refine Wdcgx (c) ?_))
  ((first | refine endR ?_ | refine endN ?_); exact end3 (RV.tmp rfl) (RV.tmp rfl) (RV.tmp rfl) (Le.refl _))
theorem scut_t (l r : List UInt8) (h : ∀ x ∈ l, x ≠ 47) (h0 : l ≠ []) (hl : l.length + r.length ≤ 100000) : Pu Tryz.prog 308 [str (l ++ 47 :: r), str [47]] (Ab.tup [str l, str r, lit (.bool true)]) := by
  have c := cut_t l r (b := 47) (by omega) h h0 hl
  refine Pu.intro Tryz.func308 rfl (by kernel_rfl) fun C => ?_
  repeat (first | (refine A1 ⟨?_⟩; intros) | (refine Wcx (c) ?_) | (refine Wdcx (c) ?_) | (refine Wcgx (c) ?_) | (refine Wdcgx (c) ?_))
  ((first | refine endR ?_ | refine endN ?_); exact end3 (RV.tmp rfl) (RV.tmp rfl) (RV.tmp rfl) (Le.refl _))
theorem scut_f (l : List UInt8) (h : ∀ x ∈ l, x ≠ 47) (hl : l.length ≤ 100000) : Pu Tryz.prog 308 [str l, str [47]] (Ab.tup [str l, str [], lit (.bool false)]) := by
  have c := cut_f l (b := 47) (by omega) h hl
  refine Pu.intro Tryz.func308 rfl (by kernel_rfl) fun C => ?_
  repeat (first | (refine A1 ⟨?_⟩; intros) | (refine Wcx (c) ?_) | (refine Wdcx (c) ?_) | (refine Wcgx (c) ?_) | (refine Wdcgx (c) ?_))
  ((first | refine endR ?_ | refine endN ?_); exact end3 (RV.tmp rfl) (RV.tmp rfl) (RV.tmp rfl) (Le.refl _))
theorem hasP_pu (l : List UInt8) (b : UInt8) (hl : l.length ≤ 100000) : Pu Tryz.prog 384 [str l, str [b]] (lit (.bool (decide (l.take 1 = [b])))) := by
  have h1 : ([b] : List UInt8).length = 1 := rfl
  cases l with
  | nil =>
    rw [decide_eq_false (by simp)]
    refine Pu.intro Tryz.func384 rfl (by kernel_rfl) fun C => ?_
    repeat (refine A1 ⟨?_⟩; intros)
    ((first | refine endR ?_ | refine endN ?_); exact end1 (RV.tmp rfl) (Le.refl _))
  | cons c r =>
    have hlen : (c :: r).length = r.length + 1 := rfl
    by_cases hc : (c :: r).take 1 = [b]
    · rw [decide_eq_true hc]
      refine Pu.intro Tryz.func384 rfl (by kernel_rfl) fun C => ?_
      repeat (refine A1 ⟨?_⟩; intros)
      refine Wog (ov_ssl (i := 0) (j := 1) rfl (fun _ h => by cases h) (fun _ => rfl) (fun y h => ⟨_, _, by cases h; exact rfl, rfl⟩) (fun h => by cases h) (by omega) (by omega)) ?_
      rw [List.drop_zero]
      repeat (refine A1 ⟨?_⟩; intros)
      ((first | refine endR ?_ | refine endN ?_); exact end1 (RV.tmp rfl) (Le.refl _))
    · rw [decide_eq_false hc]
      refine Pu.intro Tryz.func384 rfl (by kernel_rfl) fun C => ?_
      repeat (refine A1 ⟨?_⟩; intros)
      refine Wog (ov_ssl (i := 0) (j := 1) rfl (fun _ h => by cases h) (fun _ => rfl) (fun y h => ⟨_, _, by cases h; exact rfl, rfl⟩) (fun h => by cases h) (by omega) (by omega)) ?_
      rw [List.drop_zero]
      repeat (refine A1 ⟨?_⟩; intros)
      ((first | refine endR ?_ | refine endN ?_); exact end1 (RV.tmp rfl) (Le.refl _))
theorem cutP_pu (l : List UInt8) (b : UInt8) (hl : l.length ≤ 100000) : Pu Tryz.prog 355 [str l, str [b]] (if l.take 1 = [b] then Ab.tup [str (l.drop 1), lit (.bool true)] else Ab.tup [str l, lit (.bool false)]) := by
  have c := hasP_pu l b hl
  have h1 : ([b] : List UInt8).length = 1 := rfl
  by_cases hc : l.take 1 = [b]
  · rw [decide_eq_true hc] at c
    rw [if_pos hc]
    have hlen : 1 ≤ l.length := by
      cases l with
      | nil => simp at hc
      | cons _ _ => simp
    have d : Pu Tryz.prog 378 [str l, str [b]] (Ab.tup [str (l.drop 1), lit (.bool true)]) := by
      refine Pu.intro Tryz.func378 rfl (by kernel_rfl) fun C => ?_
      repeat (first | (refine A1 ⟨?_⟩; intros) | (refine Wcx (c) ?_) | (refine Wdcx (c) ?_) | (refine Wcgx (c) ?_) | (refine Wdcgx (c) ?_))
      refine Wo (ov_ssl (i := 1) (j := l.length) rfl (fun y h => ⟨_, _, by cases h; exact rfl, rfl⟩) (fun h => by cases h) (fun _ h => by cases h) (fun _ => rfl) (by omega) (Nat.le_refl _)) ?_
      rw [List.take_length]
      repeat (refine A1 ⟨?_⟩; intros)
      ((first | refine endR ?_ | refine endN ?_); exact end2 (RV.tmp rfl) (RV.tmp rfl) (Le.refl _))
    refine Pu.intro Tryz.func355 rfl (by kernel_rfl) fun C => ?_
    repeat (first | (refine A1 ⟨?_⟩; intros) | (refine Wcx (d) ?_) | (refine Wdcx (d) ?_) | (refine Wcgx (d) ?_) | (refine Wdcgx (d) ?_))
    ((first | refine endR ?_ | refine endN ?_); exact end2 (RV.tmp rfl) (RV.tmp rfl) (Le.refl _))
  · rw [decide_eq_false hc] at c
    rw [if_neg hc]
    have d : Pu Tryz.prog 378 [str l, str [b]] (Ab.tup [str l, lit (.bool false)]) := by
      refine Pu.intro Tryz.func378 rfl (by kernel_rfl) fun C => ?_
      repeat (first | (refine A1 ⟨?_⟩; intros) | (refine Wcx (c) ?_) | (refine Wdcx (c) ?_) | (refine Wcgx (c) ?_) | (refine Wdcgx (c) ?_))
      ((first | refine endR ?_ | refine endN ?_); exact end2 (RV.tmp rfl) (RV.tmp rfl) (Le.refl _))
    refine Pu.intro Tryz.func355 rfl (by kernel_rfl) fun C => ?_
    repeat (first | (refine A1 ⟨?_⟩; intros) | (refine Wcx (d) ?_) | (refine Wdcx (d) ?_) | (refine Wcgx (d) ?_) | (refine Wdcgx (d) ?_))
    ((first | refine endR ?_ | refine endN ?_); exact end2 (RV.tmp rfl) (RV.tmp rfl) (Le.refl _))
section
variable {P : Program} {C : Ctx} {n : Nat} {F : Fr} {H : LH} {ops : Array Oper} {K : Fr → LH → Prop}
theorem St.pub2 {b : Nat} {T : TypeId} {cs : List SV} {H' : LH} {a : Act} {w : World} {d d2 : Nat} {v : Value} {s' : SV} (hs : St C n F H a w) (hdel : HDel b T cs H H') (hv : F d = lit v) (hv2 : F d2 = lit v)
    (hsv : ∀ (m : Mem) (arr : Array Value), m b = some (.cells arr T (0, 0)) → All2 m cs arr.toList → s'.p m v) : St C n (upd (upd F d s') d2 s') H' a w := by
  obtain ⟨hdef, hn, m, h1, h2, h3, h4, h5⟩ := hs
  obtain ⟨hmb, arr, hb, hall⟩ := h2.2 _ hdel.mem
  have hle : m.le (fun x => if x = b then w.heap[b]? else m x) := fun x o hx => by
    show (if x = b then w.heap[b]? else m x) = some o
    rw [if_neg (fun e => by rw [e] at hx; rw [hmb] at hx; cases hx)]; exact hx
  have hfr := h5 d
  rw [hv, lit_p] at hfr
  have hfr2 := h5 d2
  rw [hv2, lit_p] at hfr2
  have hk := hdel.keys h2.1
  have hnew := hsv (fun x => if x = b then w.heap[b]? else m x) arr (by show (if b = b then w.heap[b]? else m b) = _; rw [if_pos rfl]; exact hb) (hall.mono hle)
  refine ⟨hdef, hn, (fun x => if x = b then w.heap[b]? else m x), ⟨fun x o hx => ?_, Mem.le_trans h1.base hle⟩, ⟨hk.1, fun e he => ?_⟩, ⟨Mem.le_trans h3.le hle, fun x hx hnx => ?_, h3.os, h3.tape, h3.output, h3.size, h3.block⟩,
    fun e he => h4 e (hdel.sub e he), fun t => ?_⟩
  · by_cases hxb : x = b
    · subst hxb; simp only [if_true] at hx; exact hx
    · simp only [if_neg hxb] at hx; exact h1 x o hx
  · obtain ⟨q1, arr', q2, q3⟩ := h2.2 e (hdel.sub e he)
    exact ⟨by show (if e.1 = b then w.heap[b]? else m e.1) = none; rw [if_neg (hk.2 e he)]; exact q1, arr', q2, q3.mono hle⟩
  · have hxb : x ≠ b := fun e => by
      subst e
      rcases h4 _ hdel.mem with h | h
      · exact hnx h
      · exact absurd hx (Nat.not_lt.2 h)
    show (if x = b then w.heap[b]? else m x) = _
    rw [if_neg hxb]; exact h3.old x hx hnx
  · unfold upd
    cases hbq : Nat.beq t d2 with
    | true =>
      have := Nat.eq_of_beq_eq_true hbq; subst this
      rw [hfr2]
      exact hnew
    | false =>
      cases hbq1 : Nat.beq t d with
      | true =>
        have := Nat.eq_of_beq_eq_true hbq1; subst this
        rw [hfr]
        exact hnew
      | false => exact (F t).mono hle (h5 t)
theorem WPL.pub2 {l : List Oper} {b : Nat} {T : TypeId} {cs : List SV} {H' : LH} (d d2 : Nat) {v : Value} {s' : SV} (hdel : HDel b T cs H H') (hv : F d = lit v) (hv2 : F d2 = lit v)
    (hsv : ∀ (m : Mem) (arr : Array Value), m b = some (.cells arr T (0, 0)) → All2 m cs arr.toList → s'.p m v) (k : WPL P C n ops l K (upd (upd F d s') d2 s') H') : WPL P C n ops l K F H := by
  unfold WPL at *
  exact fun a w hs => k a w (hs.pub2 hdel hv hv2 hsv)
end
def sgnT (neg : Bool) (l : List UInt8) : List UInt8 := if neg = true then 45 :: l else l
theorem sgnT_len (neg : Bool) (l : List UInt8) : (sgnT neg l).length ≤ l.length + 1 := by
  unfold sgnT; split <;> simp
theorem sgnT_take {neg : Bool} {l : List UInt8} (h : allD l) : ((sgnT neg l).take 1 = [45] ↔ neg = true) ∧ (neg = true → (sgnT neg l).drop 1 = l) ∧ (neg = false → sgnT neg l = l) := by
  cases neg with
  | true => exact ⟨⟨fun _ => rfl, fun _ => rfl⟩, fun _ => rfl, fun e => by cases e⟩
  | false =>
    refine ⟨⟨fun e => ?_, fun e => (by cases e)⟩, fun e => (by cases e), fun _ => rfl⟩
    cases l with
    | nil => cases e
    | cons b r =>
      have hb := h b (by simp)
      have : b = 45 := by simpa [sgnT] using e
      subst this
      revert hb
      decide
theorem dcv_len {l : List UInt8} (h : allD l) (hl : l.length ≤ 4096) : (dgs (dcv l)).length ≤ 4096 := by
  have h1 := dcv_lt h
  have h2 : (10 : Nat) ^ l.length ≤ 4294967296 ^ l.length := Nat.pow_le_pow_left (by omega) _
  have := len_le (Nat.lt_of_lt_of_le h1 h2)
  omega
theorem iparse_pu (neg : Bool) (l : List UInt8) (h : allD l) (hne : l ≠ []) (hl : l.length ≤ 4096) : Pu Tryz.prog 309 [str (sgnT neg l)] (Ab.tup [int (sv neg (dcv l)), lit .nilIface]) := by
  have c1 := cutP_pu (sgnT neg l) 45 (by have := sgnT_len neg l; omega)
  have c2 := nparse_pu l h hne hl
  have c3 := signed_pu neg (dcv l) (by have := dcv_len h hl; omega)
  obtain ⟨g1, g2, g3⟩ := sgnT_take (neg := neg) h
  cases neg with
  | true =>
    rw [if_pos (g1.2 rfl), g2 rfl] at c1
    refine Pu.intro Tryz.func309 rfl (by kernel_rfl) fun C => ?_
    repeat (first | (refine A1 ⟨?_⟩; intros) | (refine Wcx (c1) ?_) | (refine Wdcx (c1) ?_) | (refine Wcgx (c1) ?_) | (refine Wdcgx (c1) ?_) | (refine Wcx (c2) ?_) | (refine Wdcx (c2) ?_) | (refine Wcgx (c2) ?_) | (refine Wdcgx (c2) ?_) | (refine Wcx (c3) ?_) | (refine Wdcx (c3) ?_) | (refine Wcgx (c3) ?_) | (refine Wdcgx (c3) ?_))
    ((first | refine endR ?_ | refine endN ?_); exact end2 (RV.cellA rfl (by repeat (first | exact List.mem_cons_self | apply List.mem_cons_of_mem)) (by (first | (simp only [List.drop_succ_cons, List.drop_zero, List.drop_nil, List.take_succ_cons, List.take_zero, List.take_nil, Nat.zero_add, Nat.add_zero, Nat.reduceAdd]; done) | (simp only [List.drop_succ_cons, List.drop_zero, List.drop_nil, List.take_succ_cons, List.take_zero, List.take_nil, Nat.zero_add, Nat.add_zero, Nat.reduceAdd]; exact rfl) | exact rfl)) rfl) (RV.tmp rfl) (Le.refl _))
  | false =>
    rw [if_neg (fun e => by cases g1.1 e), g3 rfl] at c1
    rw [g3 rfl]
    refine Pu.intro Tryz.func309 rfl (by kernel_rfl) fun C => ?_
    repeat (first | (refine A1 ⟨?_⟩; intros) | (refine Wcx (c1) ?_) | (refine Wdcx (c1) ?_) | (refine Wcgx (c1) ?_) | (refine Wdcgx (c1) ?_) | (refine Wcx (c2) ?_) | (refine Wdcx (c2) ?_) | (refine Wcgx (c2) ?_) | (refine Wdcgx (c2) ?_) | (refine Wcx (c3) ?_) | (refine Wdcx (c3) ?_) | (refine Wcgx (c3) ?_) | (refine Wdcgx (c3) ?_))
    ((first | refine endR ?_ | refine endN ?_); exact end2 (RV.cellA rfl (by repeat (first | exact List.mem_cons_self | apply List.mem_cons_of_mem)) (by (first | (simp only [List.drop_succ_cons, List.drop_zero, List.drop_nil, List.take_succ_cons, List.take_zero, List.take_nil, Nat.zero_add, Nat.add_zero, Nat.reduceAdd]; done) | (simp only [List.drop_succ_cons, List.drop_zero, List.drop_nil, List.take_succ_cons, List.take_zero, List.take_nil, Nat.zero_add, Nat.add_zero, Nat.reduceAdd]; exact rfl) | exact rfl)) rfl) (RV.tmp rfl) (Le.refl _))
theorem rsign_pu (x : Rat) (h : ht x ≤ 1000000) : Pu Tryz.prog 257 [q x] (lit (.int .i64 x.num.sign)) := by
  have c1 := of_pu (RQ.of_ok h) (Nat.le_refl _)
  rw [RQ.of_v] at c1
  have c2 := fsign_pu x (by omega)
  refine Pu.intro Tryz.func257 rfl (by kernel_rfl) fun C => ?_
  repeat (first | (refine A1 ⟨?_⟩; intros) | (refine Wcx (c1) ?_) | (refine Wdcx (c1) ?_) | (refine Wcgx (c1) ?_) | (refine Wdcgx (c1) ?_) | (refine Wcx (c2) ?_) | (refine Wdcx (c2) ?_) | (refine Wcgx (c2) ?_) | (refine Wdcgx (c2) ?_))
  ((first | refine endR ?_ | refine endN ?_); exact end1 (RV.tmp rfl) (Le.refl _))
theorem no47 {l : List UInt8} (h : allD l) (neg : Bool) : ∀ x ∈ sgnT neg l, x ≠ 47 := by
  intro x hx e
  subst e
  unfold sgnT at hx
  split at hx
  · rcases List.mem_cons.1 hx with hx | hx
    · cases hx
    · have := h _ hx
      revert this; decide
  · have := h _ hx
    revert this; decide
theorem pub_one {m : Mem} {b : Nat} {arr : Array Value} {T : TypeId} (hb : m b = some (.cells arr T (0, 0))) (h : All2 m [lit (.int .u32 1)] arr.toList) : (nat 1).p m (.slice (some ⟨b, 0, none⟩) 1 1) := by
  unfold nat
  rw [dgs_one, dg_nsl]
  unfold nsl
  refine sl_mk (Nat.le_refl _) (by decide) (.inr ⟨b, 0, rfl, arr, T, (0, 0), hb, ?_⟩)
  rw [List.drop_zero, List.take_of_length_le (by rw [h.length]; simp)]
  exact h
theorem q_ht {neg : Bool} {n d : Nat} (hn : (dgs n).length ≤ 4096) (hd : (dgs d).length ≤ 4096) : ht (mkRat (sv neg n) d) ≤ 4097 := by
  have h := ht_v (r := ⟨neg, dgs n, dgs d⟩) (L := 4096) ⟨D_dgs _, D_dgs _, hn, hd⟩
  unfold RQ.v at h
  simpa only [val_dgs] using h
theorem of_int {neg : Bool} {n d : Nat} (hn : (dgs n).length ≤ 4096) (hd : (dgs d).length ≤ 4096) : Pu Tryz.prog 271 [ag [lit (.bool (decide (sv neg n < 0))), nat (sv neg n).natAbs, nat d]] (fr (mkRat (sv neg n) d)) := by
  have h := of_pu (r := ⟨decide (sv neg n < 0), dgs (sv neg n).natAbs, dgs d⟩) (L := 4096) ⟨D_dgs _, D_dgs _, by rw [sv_abs]; exact hn, hd⟩ (by omega)
  unfold RQ.v at h
  simp only [val_dgs, sv_int] at h
  exact h
set_option maxHeartbeats 4000000 in
theorem rparse_i [Sent 4] (neg : Bool) (l : List UInt8) (h : allD l) (hne : l ≠ []) (hl : l.length ≤ 4096) : Pu Tryz.prog 256 [str (sgnT neg l)] (Ab.tup [q (mkRat (sv neg (dcv l)) 1), lit .nilIface]) := by
  have c1 := scut_f (sgnT neg l) (no47 h neg) (by have := sgnT_len neg l; omega)
  have c2 := iparse_pu neg l h hne hl
  have c3 := isNil'_pu 4
  have hd := dcv_len h hl
  generalize sgnT neg l = w at *
  generalize dcv l = n at *
  refine Pu.intro Tryz.func256 rfl (by kernel_rfl) fun C => ?_
  have c4 := bits_nat (dgs 1) (by rw [dgs_one]; decide) (D_dgs _)
  rw [val_dgs, blen_1.2 rfl] at c4
  have c5 := of_int (neg := neg) (n := n) (d := 1) hd (by rw [dgs_one]; decide)
  have c6 := api_pu (mkRat (sv neg n) 1) (by have := q_ht (neg := neg) (n := n) (d := 1) hd (by rw [dgs_one]; decide); omega)
  repeat (first | (refine A1 ⟨?_⟩; intros) | (refine Wcx (c1) ?_) | (refine Wdcx (c1) ?_) | (refine Wcgx (c1) ?_) | (refine Wdcgx (c1) ?_) | (refine Wcx (c2) ?_) | (refine Wdcx (c2) ?_) | (refine Wcgx (c2) ?_) | (refine Wdcgx (c2) ?_) | (refine Wcx (c3) ?_) | (refine Wdcx (c3) ?_) | (refine Wcgx (c3) ?_) | (refine Wdcgx (c3) ?_))
  refine WPL.pub2 9 56 (s' := nat 1) (HDel.here _) rfl rfl (fun m arr h1 h2 => pub_one h1 h2) ?_
  repeat (first | (refine A1 ⟨?_⟩; intros) | (refine Wcx (c4) ?_) | (refine Wdcx (c4) ?_) | (refine Wcgx (c4) ?_) | (refine Wdcgx (c4) ?_) | (refine Wcx (c5) ?_) | (refine Wdcx (c5) ?_) | (refine Wcgx (c5) ?_) | (refine Wdcgx (c5) ?_) | (refine Wcx (c6) ?_) | (refine Wdcx (c6) ?_) | (refine Wcgx (c6) ?_) | (refine Wdcgx (c6) ?_))
  ((first | refine endR ?_ | refine endN ?_); exact end2 (RV.cellA rfl (by repeat (first | exact List.mem_cons_self | apply List.mem_cons_of_mem)) (by (first | (simp only [List.drop_succ_cons, List.drop_zero, List.drop_nil, List.take_succ_cons, List.take_zero, List.take_nil, Nat.zero_add, Nat.add_zero, Nat.reduceAdd]; done) | (simp only [List.drop_succ_cons, List.drop_zero, List.drop_nil, List.take_succ_cons, List.take_zero, List.take_nil, Nat.zero_add, Nat.add_zero, Nat.reduceAdd]; exact rfl) | exact rfl)) rfl) (RV.tmp rfl) (Le.refl _))
set_option maxHeartbeats 4000000 in
theorem rparse_f [Sent 4] (neg : Bool) (l r : List UInt8) (h : allD l) (hne : l ≠ []) (hl : l.length ≤ 4096) (hr : allD r) (hner : r ≠ []) (hrl : r.length ≤ 4096) (h0 : dcv r ≠ 0) : Pu Tryz.prog 256 [str (sgnT neg l ++ 47 :: r)] (Ab.tup [q (mkRat (sv neg (dcv l)) (dcv r)), lit .nilIface]) := by
  have c1 := scut_t (sgnT neg l) r (no47 h neg) (by
    unfold sgnT
    split
    · exact List.cons_ne_nil _ _
    · exact hne) (by have := sgnT_len neg l; omega)
  have c2 := iparse_pu neg l h hne hl
  have c2' := nparse_pu r hr hner hrl
  have c3 := isNil'_pu 4
  have hd := dcv_len h hl
  have hd2 := dcv_len hr hrl
  generalize sgnT neg l ++ 47 :: r = w' at *
  generalize sgnT neg l = w at *
  generalize dcv l = n at *
  generalize dcv r = d at *
  have c4 := bits_nat (dgs d) (by omega) (D_dgs _)
  rw [val_dgs] at c4
  have hb : blen d ≠ 0 := fun e => h0 (blen0.1 e)
  have c5 := of_int (neg := neg) (n := n) (d := d) hd hd2
  have c6 := api_pu (mkRat (sv neg n) d) (by have := q_ht (neg := neg) (n := n) (d := d) hd hd2; omega)
  generalize blen d = bd at *
  refine Pu.intro Tryz.func256 rfl (by kernel_rfl) fun C => ?_
  repeat (first | (refine A1 ⟨?_⟩; intros) | (refine Wcx (c1) ?_) | (refine Wdcx (c1) ?_) | (refine Wcgx (c1) ?_) | (refine Wdcgx (c1) ?_) | (refine Wcx (c2) ?_) | (refine Wdcx (c2) ?_) | (refine Wcgx (c2) ?_) | (refine Wdcgx (c2) ?_) | (refine Wcx (c2') ?_) | (refine Wdcx (c2') ?_) | (refine Wcgx (c2') ?_) | (refine Wdcgx (c2') ?_) | (refine Wcx (c3) ?_) | (refine Wdcx (c3) ?_) | (refine Wcgx (c3) ?_) | (refine Wdcgx (c3) ?_) | (refine Wcx (c4) ?_) | (refine Wdcx (c4) ?_) | (refine Wcgx (c4) ?_) | (refine Wdcgx (c4) ?_) | (refine Wcx (c5) ?_) | (refine Wdcx (c5) ?_) | (refine Wcgx (c5) ?_) | (refine Wdcgx (c5) ?_) | (refine Wcx (c6) ?_) | (refine Wdcx (c6) ?_) | (refine Wcgx (c6) ?_) | (refine Wdcgx (c6) ?_))
  ((first | refine endR ?_ | refine endN ?_); exact end2 (RV.cellA rfl (by repeat (first | exact List.mem_cons_self | apply List.mem_cons_of_mem)) (by (first | (simp only [List.drop_succ_cons, List.drop_zero, List.drop_nil, List.take_succ_cons, List.take_zero, List.take_nil, Nat.zero_add, Nat.add_zero, Nat.reduceAdd]; done) | (simp only [List.drop_succ_cons, List.drop_zero, List.drop_nil, List.take_succ_cons, List.take_zero, List.take_nil, Nat.zero_add, Nat.add_zero, Nat.reduceAdd]; exact rfl) | exact rfl)) rfl) (RV.tmp rfl) (Le.refl _))
def Tok.gok (a : Tok) : Prop := (a.k = 0 ∧ a.t = []) ∨ a.k = 1 ∨ (a.k = 2 ∧ allD a.t ∧ a.t ≠ [] ∧ a.t.length ≤ 4096) ∨ a.k = 3
def GOk : List Tok → Prop
  | [] => False
  | [e] => e.k = 0 ∧ e.t = []
  | a :: r => (a.k ≠ 0 ∧ a.gok) ∧ GOk r
theorem GOk.cons {ts : List Tok} (h : GOk ts) : ∃ a r, ts = a :: r ∧ a.gok := by
  match ts, h with
  | [e], h => exact ⟨e, [], rfl, .inl h⟩
  | a :: b :: r, h => exact ⟨a, b :: r, rfl, h.1.2⟩
theorem GOk.tail {a : Tok} {r : List Tok} (h : GOk (a :: r)) (h0 : a.k ≠ 0) : GOk r := by
  cases r with
  | nil => exact absurd h.1 h0
  | cons b r => exact h.2
theorem GOk.pos {ts : List Tok} (h : GOk ts) : 0 < ts.length := by
  obtain ⟨a, r, rfl, _⟩ := h.cons
  simp
theorem GOk.end {a : Tok} {r : List Tok} (h : GOk (a :: r)) (h0 : a.k = 0) : r = [] := by
  cases r with
  | nil => rfl
  | cons b r => exact absurd h0 h.1.1
def ger (k : Nat) (ts : List Tok) : Er := ⟨k, (hd ts).t, (hd ts).l, (hd ts).c⟩
def gis (ts : List Tok) (s : List UInt8) : Bool := (decide ((hd ts).k = 1) || decide ((hd ts).k = 3)) && decide ((hd ts).t = s)
theorem gis_cons (a : Tok) (r : List Tok) (w : List UInt8) : gis (a :: r) w = ((decide (a.k = 1) || decide (a.k = 3)) && decide (a.t = w)) := rfl
theorem gis_k {a : Tok} {r : List Tok} {w : List UInt8} (h : gis (a :: r) w = true) : a.k ≠ 0 ∧ a.k ≠ 2 ∧ a.t = w := by
  rw [gis_cons, Bool.and_eq_true, Bool.or_eq_true] at h
  obtain ⟨h1, h2⟩ := h
  refine ⟨?_, ?_, of_decide_eq_true h2⟩ <;>
  · rcases h1 with h1 | h1 <;> (have := of_decide_eq_true h1; omega)
theorem GOk.next {a : Tok} {r : List Tok} {w : List UInt8} (h : GOk (a :: r)) (ht : gis (a :: r) w = true) : GOk r := h.tail (gis_k ht).1
def gexpect (w : List UInt8) (ts : List Tok) : Except Er (List Tok) := if gis ts w = true then .ok ts.tail else .error (ger 1 ts)
def gname (ts : List Tok) : Except Er (List UInt8 × List Tok) := if (hd ts).k = 1 ∧ resv (hd ts).t = false then .ok ((hd ts).t, ts.tail) else .error (ger 1 ts)
def gnum (ts : List Tok) : Except Er (List UInt8 × List Tok) := if (hd ts).k = 2 then .ok ((hd ts).t, ts.tail) else .error (ger 1 ts)
def gratS (neg : Bool) (ts : List Tok) : Except Er (Rat × List Tok) := match gnum ts with
  | .error e => .error e
  | .ok (n, ts2) => if gis ts2 [47] = true then (match gnum ts2.tail with
      | .error e => .error e
      | .ok (d, ts3) => if dcv d = 0 then .error (ger 3 ts2.tail) else .ok (mkRat (sv neg (dcv n)) (dcv d), ts3))
    else .ok (mkRat (sv neg (dcv n)) 1, ts2)
def grat (ts : List Tok) : Except Er (Rat × List Tok) := if gis ts [45] = true then gratS true ts.tail else gratS false ts
def gpt (ts : List Tok) : Except Er ((Rat × Rat) × List Tok) := match gexpect [40] ts with
  | .error e => .error e
  | .ok t1 => match grat t1 with
    | .error e => .error e
    | .ok (x, t2) => match gexpect [44] t2 with
      | .error e => .error e
      | .ok t3 => match grat t3 with
        | .error e => .error e
        | .ok (y, t4) => match gexpect [41] t4 with
          | .error e => .error e
          | .ok t5 => .ok ((x, y), t5)
def gptsF : Nat → List Tok → Except Er (List (Rat × Rat) × List Tok)
  | 0, ts => .error (ger 0 ts)
  | f + 1, ts => match gpt ts with
    | .error e => .error e
    | .ok (p, t1) => if gis t1 [40] = true then (match gptsF f t1 with
        | .error e => .error e
        | .ok (ps, t2) => .ok (p :: ps, t2))
      else .ok ([p], t1)
@[irreducible] def gF : Nat := 1000000
theorem gF_eq : gF = 1000000 := by unfold gF; rfl
def gpts (ts : List Tok) : Except Er (List (Rat × Rat) × List Tok) := gptsF gF ts
def gop (lv : Nat) (ts : List Tok) : Int :=
  if lv = 1 then (if gis ts [43] = true then 1 else if gis ts [45] = true then 3 else if gis ts [94] = true then 4 else 0) else (if gis ts [42] = true then 2 else 0)
def ndH (p q : Rat × Rat) (a : Tok) : Nd := ⟨4, [], RQ.of p.1, RQ.of p.2, RQ.of q.1, RQ.of q.2, 0, 0, 0, a.l, a.c⟩
def gx : Nat → Nat → Nat → Nat → List Tok → Option (List Nd × Ex) → Except Er (List Nd × Ex × List Tok)
  | 0, _, _, _, ts, _ => .error (ger 0 ts)
  | f + 1, lv, d, i, ts, none =>
    if lv = 3 then
      if gis ts [126] = true then
        (if 200 ≤ d then .error (ger 2 ts) else match gx f 3 (d + 1) i ts.tail none with
          | .ok (A, x, ts') => .ok (A ++ [ndU ((i + A.length : Nat) - 1) (hd ts)], .un (ndU ((i + A.length : Nat) - 1) (hd ts)) x, ts')
          | .error e => .error e)
      else if gis ts [40] = true then
        (if 200 ≤ d then .error (ger 2 ts) else match gx f 1 (d + 1) i ts.tail none with
          | .ok (A, x, ts') => if gis ts' [41] = true then .ok (A, x, ts'.tail) else .error (ger 1 ts')
          | .error e => .error e)
      else if gis ts wAll = true then .ok ([ndA 2 (hd ts)], .leaf (ndA 2 (hd ts)), ts.tail)
      else if gis ts wNone = true then .ok ([ndA 3 (hd ts)], .leaf (ndA 3 (hd ts)), ts.tail)
      else if gis ts wHalf = true then (match gpt ts.tail with
        | .error e => .error e
        | .ok (p, t1) => match gpt t1 with
          | .error e => .error e
          | .ok (q, t2) => .ok ([ndH p q (hd ts)], .leaf (ndH p q (hd ts)), t2))
      else if (hd ts).k = 1 ∧ resv (hd ts).t = false then .ok ([ndN (hd ts)], .leaf (ndN (hd ts)), ts.tail)
      else .error (ger 1 ts)
    else match gx f (lv + 1) d i ts none with
      | .ok (A, x, ts') => gx f lv d i ts' (some (A, x))
      | .error e => .error e
  | f + 1, lv, d, i, ts, some (A, x) =>
    if gop lv ts = 0 then .ok (A, x, ts)
    else match gx f (lv + 1) d (i + A.length) ts.tail none with
      | .ok (B, y, ts') => gx f lv d i ts' (some (A ++ B ++ [ndB (gop lv ts) ((i + A.length : Nat) - 1) ((i + A.length + B.length : Nat) - 1) (hd ts)], .bi (ndB (gop lv ts) ((i + A.length : Nat) - 1) ((i + A.length + B.length : Nat) - 1) (hd ts)) x y))
      | .error e => .error e
def gexp (ts : List Tok) : Except Er (List Nd × Ex × List Tok) := gx gF 1 0 0 ts none
theorem gop_ne {lv : Nat} {a : Tok} {r : List Tok} (h : gop lv (a :: r) ≠ 0) : a.k ≠ 0 ∧ (lv = 1 → gop lv (a :: r) = 1 ∨ gop lv (a :: r) = 3 ∨ gop lv (a :: r) = 4) ∧ (lv ≠ 1 → gop lv (a :: r) = 2) := by
  unfold gop at *
  by_cases h1 : lv = 1
  · simp only [if_pos h1] at h ⊢
    by_cases c1 : gis (a :: r) [43] = true
    · rw [if_pos c1]; exact ⟨(gis_k c1).1, fun _ => .inl rfl, fun h => absurd h1 h⟩
    · rw [if_neg c1] at h ⊢
      by_cases c2 : gis (a :: r) [45] = true
      · rw [if_pos c2]; exact ⟨(gis_k c2).1, fun _ => .inr (.inl rfl), fun h => absurd h1 h⟩
      · rw [if_neg c2] at h ⊢
        by_cases c3 : gis (a :: r) [94] = true
        · rw [if_pos c3]; exact ⟨(gis_k c3).1, fun _ => .inr (.inr rfl), fun h => absurd h1 h⟩
        · rw [if_neg c3] at h; exact absurd rfl h
  · simp only [if_neg h1] at h ⊢
    by_cases c1 : gis (a :: r) [42] = true
    · rw [if_pos c1]; exact ⟨(gis_k c1).1, fun h => absurd h h1, fun _ => rfl⟩
    · rw [if_neg c1] at h; exact absurd rfl h
end Go.Ab
