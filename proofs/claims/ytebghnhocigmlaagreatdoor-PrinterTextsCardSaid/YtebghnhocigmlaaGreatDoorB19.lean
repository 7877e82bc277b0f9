/- Texts laid one behind the other: PTd, PTg, PTh, PTz. -/
import Derived.Test.YtebghnhocigmlaaGreatDoorB18
import Derived.Test.YtebghnhocigmlaaGreatDoorB16
set_option linter.unusedSectionVars false
set_option linter.unusedVariables false
set_option linter.unusedSimpArgs false
namespace Go.Ab
open Go.Proofs
variable [Base]
theorem nm_len {s : List UInt8} (hs : nmOk s = true) : s.length ≤ 24 := by
  obtain ⟨⟨b, r, -, -, -, h⟩, -⟩ := nmOk_wd hs
  exact h
theorem fw_len (k : Nat) : (fw k).length = 7 := by unfold fw; split <;> rfl
theorem txNs_take {ns : List (List UInt8)} {k : Nat} {x : List UInt8} (h : ns[k]? = some x) : txNs (ns.take (k + 1)) = txNs (ns.take k) ++ (32 :: x) := by
  unfold txNs
  rw [List.take_add_one, h, Option.toList_some, List.map_append, List.flatten_append]
  simp only [List.map_cons, List.map_nil, List.flatten_cons, List.flatten_nil, List.append_nil]
abbrev fws : List SV := [str [], str [32, 101, 118, 101, 110, 111, 100, 100], str [32, 110, 111, 110, 122, 101, 114, 111]]
theorem all2_lits {m : Mem} : ∀ {vs l : List Value}, All2 m (vs.map lit) l → l = vs
  | [], [], _ => rfl
  | [], _ :: _, h => h.elim
  | _ :: _, [], h => h.elim
  | v :: vs, u :: l, h => by rw [lit_p.1 h.1.1, all2_lits h.2]
theorem ov_idxV {F : Fr} {H : LH} {ty T : TypeId} {x ix : Operand} {vs : List Value} {i : Int} {res : Value} (hx : ev F x = ag (vs.map lit)) (hi : ev F ix = lit (.int .i64 i)) (hrun : ∀ w, (Instr.index T (.agg vs.toArray) (.int .i64 i)).run Tryz.prog w = .ok res w) : OpV Tryz.prog (.index T x ix) ty F H (lit res) :=
  OpV.pure fun m w o a ho _ _ _ h => by
    have e0 := h x (by simp [Op.operands]); rw [hx] at e0
    have e1 := h ix (by simp [Op.operands]); rw [hi, lit_p] at e1
    unfold ag at e0
    obtain ⟨arr, e0, hall⟩ := e0
    have ha : arr = vs.toArray := by
      have := all2_lits hall
      rw [← this]
    subst ha
    exact ⟨res, by simp [execOp, ho, e0, e1, hrun], lit_p.2 rfl⟩
set_option maxHeartbeats 16000000 in
theorem stW_pu [PowTab] {w : Nat} {l : List UInt8} {H : LH} (h : Wtr w l 0 H) {s : Stm} (hs : StB s) (hl : l.length ≤ 1000000) (hl2 : (txS s).length ≤ 1000000) :
    PuH Tryz.prog 64 [lit (.pointer (some ⟨w, 0, none⟩)), ag (stx s)] H (fun r H' => r = Ab.tup [] ∧ Wtr w (l ++ txS s) 0 H') noX := by
  have ck := chk_pu hs
  cases hs with
  | bd a n hn =>
    have e : txS { stm0 1 a with bd := n } = kw 1 ++ [32] ++ [] ++ dec n ++ [59] := rfl
    have c2 := sitoa_pu n (by omega)
    have c1 := gword_pu 1 (by decide) (by decide)
    have hk8 : (kw 1).length ≤ 8 := by decide
    rw [e] at hl2 ⊢
    simp only [List.length_append, List.length_cons, List.length_nil] at hl2
    clear e
    dsimp only [stx, stm0] at ck ⊢
    refine PuH.intro Tryz.func64 rfl (by kernel_rfl) fun C hC => ?_
    repeat (refine A1 ⟨?_⟩; intros)
    rename_i b3
    refine WfH ck ?_
    rintro _ _ ⟨rfl, rfl⟩
    simp only [List.nil_append]
    repeat (first | (refine A1 ⟨?_⟩; intros) | (refine Wcx (c1) ?_) | (refine Wdcx (c1) ?_) | (refine Wcgx (c1) ?_) | (refine Wdcgx (c1) ?_))
    refine WfH (put2W_pu h (kw 1) [32] (by simp only [List.length_append, List.length_cons, List.length_nil]; omega)) ?_
    rintro _ Hg1 ⟨rfl, g1⟩
    refine WPL.perm List.perm_append_comm ?_
    simp only [List.cons_append, List.nil_append]
    repeat (refine A1 ⟨?_⟩; intros)
    refine Wc c2 ?_
    repeat (refine A1 ⟨?_⟩; intros)
    refine WfH (putW_pu g1 (dec n) (by simp only [List.length_append, List.length_cons, List.length_nil]; omega)) ?_
    rintro _ Hg2 ⟨rfl, g2⟩
    refine WPL.perm List.perm_append_comm ?_
    simp only [List.cons_append, List.nil_append]
    repeat (refine A1 ⟨?_⟩; intros)
    refine WfH (putW_pu g2 [59] (by simp only [List.length_append, List.length_cons, List.length_nil]; omega)) ?_
    rintro _ Hgz ⟨rfl, gz⟩
    refine WPL.perm List.perm_append_comm ?_
    simp only [List.cons_append, List.nil_append]
    repeat (refine A1 ⟨?_⟩; intros)
    refine endHN _ Hgz end0 ?_ ⟨rfl, ?_⟩
    · repeat (first | exact List.Sublist.refl _ | exact List.sublist_append_left _ _ | refine List.Sublist.cons _ ?_)
    · simp only [List.append_assoc, List.cons_append, List.nil_append] at gz ⊢
      exact gz
  | ring a nm ps hn hp =>
    have e : txS { stm0 2 a with nm := nm, ps := ps } = kw 2 ++ [32] ++ (nm ++ [32, 61]) ++ txPs ps ++ [59] := rfl
    have c1 := gword_pu 2 (by decide) (by decide)
    have hk8 : (kw 2).length ≤ 8 := by decide
    rw [e] at hl2 ⊢
    simp only [List.length_append, List.length_cons, List.length_nil] at hl2
    have hnl := nm_len hn
    clear e
    dsimp only [stx, stm0] at ck ⊢
    refine PuH.intro Tryz.func64 rfl (by kernel_rfl) fun C hC => ?_
    repeat (refine A1 ⟨?_⟩; intros)
    rename_i b3
    refine WfH ck ?_
    rintro _ _ ⟨rfl, rfl⟩
    simp only [List.nil_append]
    repeat (first | (refine A1 ⟨?_⟩; intros) | (refine Wcx (c1) ?_) | (refine Wdcx (c1) ?_) | (refine Wcgx (c1) ?_) | (refine Wdcgx (c1) ?_))
    refine WfH (put2W_pu h (kw 2) [32] (by simp only [List.length_append, List.length_cons, List.length_nil]; omega)) ?_
    rintro _ Hg1 ⟨rfl, g1⟩
    refine WPL.perm List.perm_append_comm ?_
    simp only [List.cons_append, List.nil_append]
    repeat (refine A1 ⟨?_⟩; intros)
    refine WfH (nmW_pu g1 hn (by simp only [List.length_append, List.length_cons, List.length_nil]; omega)) ?_
    rintro _ Hg2 ⟨rfl, g2⟩
    refine WPL.perm List.perm_append_comm ?_
    simp only [List.cons_append, List.nil_append]
    repeat (refine A1 ⟨?_⟩; intros)
    refine WfH (putW_pu g2 [32, 61] (by simp only [List.length_append, List.length_cons, List.length_nil]; omega)) ?_
    rintro _ Hg3 ⟨rfl, g3⟩
    refine WPL.perm List.perm_append_comm ?_
    simp only [List.cons_append, List.nil_append]
    repeat (refine A1 ⟨?_⟩; intros)
    refine WfH (ptsW_pu g3 hp (by simp only [List.length_append, List.length_cons, List.length_nil]; omega)) ?_
    rintro _ Hg4 ⟨rfl, g4⟩
    refine WPL.perm List.perm_append_comm ?_
    simp only [List.cons_append, List.nil_append]
    repeat (refine A1 ⟨?_⟩; intros)
    refine WfH (putW_pu g4 [59] (by simp only [List.length_append, List.length_cons, List.length_nil]; omega)) ?_
    rintro _ Hgz ⟨rfl, gz⟩
    refine WPL.perm List.perm_append_comm ?_
    simp only [List.cons_append, List.nil_append]
    repeat (refine A1 ⟨?_⟩; intros)
    refine endHN _ Hgz end0 ?_ ⟨rfl, ?_⟩
    · repeat (first | exact List.Sublist.refl _ | exact List.sublist_append_left _ _ | refine List.Sublist.cons _ ?_)
    · simp only [List.append_assoc, List.cons_append, List.nil_append] at gz ⊢
      exact gz
  | reg a nm fl n1 ns hn hf h1 hns hnl2 =>
    have e : txS { stm0 3 a with nm := nm, fl := fl, nms := n1 :: ns } = kw 3 ++ [32] ++ (nm ++ [32, 61]) ++ (32 :: fw fl ++ txNs (n1 :: ns)) ++ [59] := rfl
    have hall : ∀ x ∈ n1 :: ns, nmOk x = true := fun x hx => (List.mem_cons.1 hx).elim (fun e => e ▸ h1) (hns x)
    have hfl := fw_len fl
    have hLl : (n1 :: ns).length = ns.length + 1 := rfl
    generalize n1 :: ns = L at *
    rcases hf with rfl | rfl
    · have c1 := gword_pu 3 (by decide) (by decide)
      have hk8 : (kw 3).length ≤ 8 := by decide
      rw [e] at hl2 ⊢
      simp only [List.length_append, List.length_cons, List.length_nil] at hl2
      have hnl := nm_len hn
      clear e
      dsimp only [stx, stm0] at ck ⊢
      refine PuH.intro Tryz.func64 rfl (by kernel_rfl) fun C hC => ?_
      repeat (refine A1 ⟨?_⟩; intros)
      rename_i b3
      refine WfH ck ?_
      rintro _ _ ⟨rfl, rfl⟩
      simp only [List.nil_append]
      repeat (first | (refine A1 ⟨?_⟩; intros) | (refine Wcx (c1) ?_) | (refine Wdcx (c1) ?_) | (refine Wcgx (c1) ?_) | (refine Wdcgx (c1) ?_))
      refine WfH (put2W_pu h (kw 3) [32] (by simp only [List.length_append, List.length_cons, List.length_nil]; omega)) ?_
      rintro _ Hg1 ⟨rfl, g1⟩
      refine WPL.perm List.perm_append_comm ?_
      simp only [List.cons_append, List.nil_append]
      repeat (refine A1 ⟨?_⟩; intros)
      refine WfH (nmW_pu g1 hn (by simp only [List.length_append, List.length_cons, List.length_nil]; omega)) ?_
      rintro _ Hg2 ⟨rfl, g2⟩
      refine WPL.perm List.perm_append_comm ?_
      simp only [List.cons_append, List.nil_append]
      repeat (refine A1 ⟨?_⟩; intros)
      refine WfH (putW_pu g2 [32, 61] (by simp only [List.length_append, List.length_cons, List.length_nil]; omega)) ?_
      rintro _ Hg3 ⟨rfl, g3⟩
      refine WPL.perm List.perm_append_comm ?_
      simp only [List.cons_append, List.nil_append]
      repeat (refine A1 ⟨?_⟩; intros)
      refine WneedT ?_
      repeat (refine A1 ⟨?_⟩; intros)
      refine WneedT ?_
      repeat (refine A1 ⟨?_⟩; intros)
      refine Wo (ov_buildA (e := 9) (len := 3) (cs := fws) (by kernel_rfl) (by repeat (first | exact Parts.nil | (apply Parts.cons; exact Eq.refl (lit _); infer_instance))) (by exact rfl)) ?_
      repeat (refine A1 ⟨?_⟩; intros)
      refine Wo (ov_idxV (vs := [.string ⟨#[]⟩, .string ⟨#[32, 101, 118, 101, 110, 111, 100, 100]⟩, .string ⟨#[32, 110, 111, 110, 122, 101, 114, 111]⟩]) (res := .string ⟨([32, 101, 118, 101, 110, 111, 100, 100] : List UInt8).toArray⟩) rfl rfl (fun w => by kernel_rfl)) ?_
      repeat (refine A1 ⟨?_⟩; intros)
      refine WfH (putW_pu g3 [32, 101, 118, 101, 110, 111, 100, 100] (by simp only [List.length_append, List.length_cons, List.length_nil]; omega)) ?_
      rintro _ Hg4 ⟨rfl, g4⟩
      refine WPL.perm List.perm_append_comm ?_
      simp only [List.cons_append, List.nil_append]
      repeat (refine A1 ⟨?_⟩; intros)
      refine WP.loopS (ι := Nat × LH) (fun z => z.1 ≤ L.length ∧ Wtr w (l ++ (kw 3 ++ [32]) ++ nm ++ [32, 61] ++ [32, 101, 118, 101, 110, 111, 100, 100] ++ txNs (L.take z.1)) 0 z.2) (fun z => L.length - z.1)
        (fun z => (fm [(0, lit (.pointer (some ⟨w, 0, none⟩))), (3, lit (.pointer (some ⟨b3, 0, none⟩))), (73, nmsS L), (74, lit (.int .i64 L.length)), (75, lit (.int .i64 z.1))])) (fun z => (b3, stT, stx { stm0 3 a with nm := nm, fl := 1, nms := L }) :: z.2) (0, Hg4)
        ⟨Nat.zero_le _, by rw [List.take_zero, show txNs [] = [] from rfl, List.append_nil]; exact g4⟩ (by (repeat (first | exact LeF.nil _ | refine LeF.cons (Le.refl _) ?_ | refine LeF.cons (Le.int (by omega)) ?_))) (by repeat (first | exact List.Sublist.refl _ | exact List.Sublist.cons_cons _ (List.Sublist.refl _) | refine List.Sublist.cons _ ?_)) ?_
      rintro ⟨k, Hx⟩ ⟨hk, hw⟩ K hK
      simp only at hk hw ⊢
      dsimp only [stx, stm0]
      have hlk : (txNs (L.take k)).length ≤ (txNs L).length := flat_take_le _ L k
      by_cases hkl : k < L.length
      · have hget := List.getElem?_eq_getElem hkl
        generalize L[k] = x at hget
        have hat := flat_at (f := nmx) (n := 1) nmx_len hget
        have hne : (L.map nmx).flatten ≠ [] := flat_ne nmx_len (by omega) (fun e => by rw [e] at hkl; simp at hkl)
        have hx := hall x (List.mem_of_getElem? hget)
        have htk := txNs_take hget
        have hxl := nm_len hx
        have hgo := fun F' H' H2 => hK F' H' (k + 1, H2)
        simp only at hgo
        clear hK hget hall ck c1 g1 g2 g3 g4 hns h1
        repeat (refine A1 ⟨?_⟩; intros)
        refine Wo (ov_idxS (cs' := nmx x) rfl rfl (by omega) (by omega) hat hne) ?_
        repeat (refine A1 ⟨?_⟩; intros)
        refine WfH (putW_pu hw [32] (by simp only [List.length_append, List.length_cons, List.length_nil]; omega)) ?_
        rintro _ Hg1 ⟨rfl, g1⟩
        refine WPL.perm List.perm_append_comm ?_
        simp only [List.cons_append, List.nil_append]
        repeat (refine A1 ⟨?_⟩; intros)
        refine WfH (nmW_pu g1 hx (by simp only [List.length_append, List.length_cons, List.length_nil]; omega)) ?_
        rintro _ Hg2 ⟨rfl, g2⟩
        refine WPL.perm List.perm_append_comm ?_
        simp only [List.cons_append, List.nil_append]
        repeat (refine A1 ⟨?_⟩; intros)
        refine hgo _ _ Hg2 ⟨by omega, ?_⟩ (by omega) (by (repeat (first | exact LeF.nil _ | refine LeF.cons (Le.refl _) ?_ | refine LeF.cons (Le.int (by omega)) ?_))) ?_
        · rw [htk]
          simp only [List.append_assoc, List.cons_append, List.nil_append] at g2 ⊢
          exact g2
        · repeat (first | exact List.Sublist.refl _ | exact List.sublist_append_left _ _ | exact List.Sublist.cons_cons _ (List.Sublist.refl _) | exact List.Sublist.cons_cons _ (List.sublist_append_left _ _) | refine List.Sublist.cons _ ?_)
      obtain rfl : k = L.length := by omega
      clear hK hkl hk g1 g2 g3 g4 ck c1
      rw [List.take_length] at hw
      repeat (refine A1 ⟨?_⟩; intros)
      refine WfH (putW_pu hw [59] (by simp only [List.length_append, List.length_cons, List.length_nil]; omega)) ?_
      rintro _ Hgz ⟨rfl, gz⟩
      refine WPL.perm List.perm_append_comm ?_
      simp only [List.cons_append, List.nil_append]
      repeat (refine A1 ⟨?_⟩; intros)
      refine endHN _ Hgz end0 ?_ ⟨rfl, ?_⟩
      · repeat (first | exact List.Sublist.refl _ | exact List.sublist_append_left _ _ | refine List.Sublist.cons _ ?_)
      · have ef : fw 1 = [101, 118, 101, 110, 111, 100, 100] := rfl
        rw [ef]
        simp only [List.append_assoc, List.cons_append, List.nil_append] at gz ⊢
        exact gz
    · have c1 := gword_pu 3 (by decide) (by decide)
      have hk8 : (kw 3).length ≤ 8 := by decide
      rw [e] at hl2 ⊢
      simp only [List.length_append, List.length_cons, List.length_nil] at hl2
      have hnl := nm_len hn
      clear e
      dsimp only [stx, stm0] at ck ⊢
      refine PuH.intro Tryz.func64 rfl (by kernel_rfl) fun C hC => ?_
      repeat (refine A1 ⟨?_⟩; intros)
      rename_i b3
      refine WfH ck ?_
      rintro _ _ ⟨rfl, rfl⟩
      simp only [List.nil_append]
      repeat (first | (refine A1 ⟨?_⟩; intros) | (refine Wcx (c1) ?_) | (refine Wdcx (c1) ?_) | (refine Wcgx (c1) ?_) | (refine Wdcgx (c1) ?_))
      refine WfH (put2W_pu h (kw 3) [32] (by simp only [List.length_append, List.length_cons, List.length_nil]; omega)) ?_
      rintro _ Hg1 ⟨rfl, g1⟩
      refine WPL.perm List.perm_append_comm ?_
      simp only [List.cons_append, List.nil_append]
      repeat (refine A1 ⟨?_⟩; intros)
      refine WfH (nmW_pu g1 hn (by simp only [List.length_append, List.length_cons, List.length_nil]; omega)) ?_
      rintro _ Hg2 ⟨rfl, g2⟩
      refine WPL.perm List.perm_append_comm ?_
      simp only [List.cons_append, List.nil_append]
      repeat (refine A1 ⟨?_⟩; intros)
      refine WfH (putW_pu g2 [32, 61] (by simp only [List.length_append, List.length_cons, List.length_nil]; omega)) ?_
      rintro _ Hg3 ⟨rfl, g3⟩
      refine WPL.perm List.perm_append_comm ?_
      simp only [List.cons_append, List.nil_append]
      repeat (refine A1 ⟨?_⟩; intros)
      refine WneedT ?_
      repeat (refine A1 ⟨?_⟩; intros)
      refine WneedT ?_
      repeat (refine A1 ⟨?_⟩; intros)
      refine Wo (ov_buildA (e := 9) (len := 3) (cs := fws) (by kernel_rfl) (by repeat (first | exact Parts.nil | (apply Parts.cons; exact Eq.refl (lit _); infer_instance))) (by exact rfl)) ?_
      repeat (refine A1 ⟨?_⟩; intros)
      refine Wo (ov_idxV (vs := [.string ⟨#[]⟩, .string ⟨#[32, 101, 118, 101, 110, 111, 100, 100]⟩, .string ⟨#[32, 110, 111, 110, 122, 101, 114, 111]⟩]) (res := .string ⟨([32, 110, 111, 110, 122, 101, 114, 111] : List UInt8).toArray⟩) rfl rfl (fun w => by kernel_rfl)) ?_
      repeat (refine A1 ⟨?_⟩; intros)
      refine WfH (putW_pu g3 [32, 110, 111, 110, 122, 101, 114, 111] (by simp only [List.length_append, List.length_cons, List.length_nil]; omega)) ?_
      rintro _ Hg4 ⟨rfl, g4⟩
      refine WPL.perm List.perm_append_comm ?_
      simp only [List.cons_append, List.nil_append]
      repeat (refine A1 ⟨?_⟩; intros)
      refine WP.loopS (ι := Nat × LH) (fun z => z.1 ≤ L.length ∧ Wtr w (l ++ (kw 3 ++ [32]) ++ nm ++ [32, 61] ++ [32, 110, 111, 110, 122, 101, 114, 111] ++ txNs (L.take z.1)) 0 z.2) (fun z => L.length - z.1)
        (fun z => (fm [(0, lit (.pointer (some ⟨w, 0, none⟩))), (3, lit (.pointer (some ⟨b3, 0, none⟩))), (73, nmsS L), (74, lit (.int .i64 L.length)), (75, lit (.int .i64 z.1))])) (fun z => (b3, stT, stx { stm0 3 a with nm := nm, fl := 2, nms := L }) :: z.2) (0, Hg4)
        ⟨Nat.zero_le _, by rw [List.take_zero, show txNs [] = [] from rfl, List.append_nil]; exact g4⟩ (by (repeat (first | exact LeF.nil _ | refine LeF.cons (Le.refl _) ?_ | refine LeF.cons (Le.int (by omega)) ?_))) (by repeat (first | exact List.Sublist.refl _ | exact List.Sublist.cons_cons _ (List.Sublist.refl _) | refine List.Sublist.cons _ ?_)) ?_
      rintro ⟨k, Hx⟩ ⟨hk, hw⟩ K hK
      simp only at hk hw ⊢
      dsimp only [stx, stm0]
      have hlk : (txNs (L.take k)).length ≤ (txNs L).length := flat_take_le _ L k
      by_cases hkl : k < L.length
      · have hget := List.getElem?_eq_getElem hkl
        generalize L[k] = x at hget
        have hat := flat_at (f := nmx) (n := 1) nmx_len hget
        have hne : (L.map nmx).flatten ≠ [] := flat_ne nmx_len (by omega) (fun e => by rw [e] at hkl; simp at hkl)
        have hx := hall x (List.mem_of_getElem? hget)
        have htk := txNs_take hget
        have hxl := nm_len hx
        have hgo := fun F' H' H2 => hK F' H' (k + 1, H2)
        simp only at hgo
        clear hK hget hall ck c1 g1 g2 g3 g4 hns h1
        repeat (refine A1 ⟨?_⟩; intros)
        refine Wo (ov_idxS (cs' := nmx x) rfl rfl (by omega) (by omega) hat hne) ?_
        repeat (refine A1 ⟨?_⟩; intros)
        refine WfH (putW_pu hw [32] (by simp only [List.length_append, List.length_cons, List.length_nil]; omega)) ?_
        rintro _ Hg1 ⟨rfl, g1⟩
        refine WPL.perm List.perm_append_comm ?_
        simp only [List.cons_append, List.nil_append]
        repeat (refine A1 ⟨?_⟩; intros)
        refine WfH (nmW_pu g1 hx (by simp only [List.length_append, List.length_cons, List.length_nil]; omega)) ?_
        rintro _ Hg2 ⟨rfl, g2⟩
        refine WPL.perm List.perm_append_comm ?_
        simp only [List.cons_append, List.nil_append]
        repeat (refine A1 ⟨?_⟩; intros)
        refine hgo _ _ Hg2 ⟨by omega, ?_⟩ (by omega) (by (repeat (first | exact LeF.nil _ | refine LeF.cons (Le.refl _) ?_ | refine LeF.cons (Le.int (by omega)) ?_))) ?_
        · rw [htk]
          simp only [List.append_assoc, List.cons_append, List.nil_append] at g2 ⊢
          exact g2
        · repeat (first | exact List.Sublist.refl _ | exact List.sublist_append_left _ _ | exact List.Sublist.cons_cons _ (List.Sublist.refl _) | exact List.Sublist.cons_cons _ (List.sublist_append_left _ _) | refine List.Sublist.cons _ ?_)
      obtain rfl : k = L.length := by omega
      clear hK hkl hk g1 g2 g3 g4 ck c1
      rw [List.take_length] at hw
      repeat (refine A1 ⟨?_⟩; intros)
      refine WfH (putW_pu hw [59] (by simp only [List.length_append, List.length_cons, List.length_nil]; omega)) ?_
      rintro _ Hgz ⟨rfl, gz⟩
      refine WPL.perm List.perm_append_comm ?_
      simp only [List.cons_append, List.nil_append]
      repeat (refine A1 ⟨?_⟩; intros)
      refine endHN _ Hgz end0 ?_ ⟨rfl, ?_⟩
      · repeat (first | exact List.Sublist.refl _ | exact List.sublist_append_left _ _ | refine List.Sublist.cons _ ?_)
      · have ef : fw 2 = [110, 111, 110, 122, 101, 114, 111] := rfl
        rw [ef]
        simp only [List.append_assoc, List.cons_append, List.nil_append] at gz ⊢
        exact gz
  | outl a nm o hn ho =>
    have e : txS { stm0 4 a with nm := nm, ol := o } = kw 4 ++ [32] ++ (nm ++ [32, 61]) ++ (32 :: txOl o) ++ [59] := rfl
    have c1 := gword_pu 4 (by decide) (by decide)
    have hk8 : (kw 4).length ≤ 8 := by decide
    rw [e] at hl2 ⊢
    simp only [List.length_append, List.length_cons, List.length_nil] at hl2
    have hnl := nm_len hn
    clear e
    dsimp only [stx, stm0] at ck ⊢
    refine PuH.intro Tryz.func64 rfl (by kernel_rfl) fun C hC => ?_
    repeat (refine A1 ⟨?_⟩; intros)
    rename_i b3
    refine WfH ck ?_
    rintro _ _ ⟨rfl, rfl⟩
    simp only [List.nil_append]
    repeat (first | (refine A1 ⟨?_⟩; intros) | (refine Wcx (c1) ?_) | (refine Wdcx (c1) ?_) | (refine Wcgx (c1) ?_) | (refine Wdcgx (c1) ?_))
    refine WfH (put2W_pu h (kw 4) [32] (by simp only [List.length_append, List.length_cons, List.length_nil]; omega)) ?_
    rintro _ Hg1 ⟨rfl, g1⟩
    refine WPL.perm List.perm_append_comm ?_
    simp only [List.cons_append, List.nil_append]
    repeat (refine A1 ⟨?_⟩; intros)
    refine WfH (nmW_pu g1 hn (by simp only [List.length_append, List.length_cons, List.length_nil]; omega)) ?_
    rintro _ Hg2 ⟨rfl, g2⟩
    refine WPL.perm List.perm_append_comm ?_
    simp only [List.cons_append, List.nil_append]
    repeat (refine A1 ⟨?_⟩; intros)
    refine WfH (putW_pu g2 [32, 61] (by simp only [List.length_append, List.length_cons, List.length_nil]; omega)) ?_
    rintro _ Hg3 ⟨rfl, g3⟩
    refine WPL.perm List.perm_append_comm ?_
    simp only [List.cons_append, List.nil_append]
    repeat (refine A1 ⟨?_⟩; intros)
    refine WfH (putW_pu g3 [32] (by simp only [List.length_append, List.length_cons, List.length_nil]; omega)) ?_
    rintro _ Hg4 ⟨rfl, g4⟩
    refine WPL.perm List.perm_append_comm ?_
    simp only [List.cons_append, List.nil_append]
    repeat (refine A1 ⟨?_⟩; intros)
    refine WfH (olW_pu g4 ho (by simp only [List.length_append, List.length_cons, List.length_nil]; omega)) ?_
    rintro _ Hg5 ⟨rfl, g5⟩
    refine WPL.perm List.perm_append_comm ?_
    simp only [List.cons_append, List.nil_append]
    repeat (refine A1 ⟨?_⟩; intros)
    refine WfH (putW_pu g5 [59] (by simp only [List.length_append, List.length_cons, List.length_nil]; omega)) ?_
    rintro _ Hgz ⟨rfl, gz⟩
    refine WPL.perm List.perm_append_comm ?_
    simp only [List.cons_append, List.nil_append]
    repeat (refine A1 ⟨?_⟩; intros)
    refine endHN _ Hgz end0 ?_ ⟨rfl, ?_⟩
    · repeat (first | exact List.Sublist.refl _ | exact List.sublist_append_left _ _ | refine List.Sublist.cons _ ?_)
    · simp only [List.append_assoc, List.cons_append, List.nil_append] at gz ⊢
      exact gz
  | lt a nm A hn hA =>
    have e : txS { stm0 5 a with nm := nm, e1 := A } = kw 5 ++ [32] ++ (nm ++ [32, 61]) ++ (32 :: (exT A).txt) ++ [59] := rfl
    have c1 := gword_pu 5 (by decide) (by decide)
    have hk8 : (kw 5).length ≤ 8 := by decide
    rw [e] at hl2 ⊢
    simp only [List.length_append, List.length_cons, List.length_nil] at hl2
    have hnl := nm_len hn
    clear e
    dsimp only [stx, stm0] at ck ⊢
    refine PuH.intro Tryz.func64 rfl (by kernel_rfl) fun C hC => ?_
    repeat (refine A1 ⟨?_⟩; intros)
    rename_i b3
    refine WfH ck ?_
    rintro _ _ ⟨rfl, rfl⟩
    simp only [List.nil_append]
    repeat (first | (refine A1 ⟨?_⟩; intros) | (refine Wcx (c1) ?_) | (refine Wdcx (c1) ?_) | (refine Wcgx (c1) ?_) | (refine Wdcgx (c1) ?_))
    refine WfH (put2W_pu h (kw 5) [32] (by simp only [List.length_append, List.length_cons, List.length_nil]; omega)) ?_
    rintro _ Hg1 ⟨rfl, g1⟩
    refine WPL.perm List.perm_append_comm ?_
    simp only [List.cons_append, List.nil_append]
    repeat (refine A1 ⟨?_⟩; intros)
    refine WfH (nmW_pu g1 hn (by simp only [List.length_append, List.length_cons, List.length_nil]; omega)) ?_
    rintro _ Hg2 ⟨rfl, g2⟩
    refine WPL.perm List.perm_append_comm ?_
    simp only [List.cons_append, List.nil_append]
    repeat (refine A1 ⟨?_⟩; intros)
    refine WfH (putW_pu g2 [32, 61] (by simp only [List.length_append, List.length_cons, List.length_nil]; omega)) ?_
    rintro _ Hg3 ⟨rfl, g3⟩
    refine WPL.perm List.perm_append_comm ?_
    simp only [List.cons_append, List.nil_append]
    repeat (refine A1 ⟨?_⟩; intros)
    refine WfH (putW_pu g3 [32] (by simp only [List.length_append, List.length_cons, List.length_nil]; omega)) ?_
    rintro _ Hg4 ⟨rfl, g4⟩
    refine WPL.perm List.perm_append_comm ?_
    simp only [List.cons_append, List.nil_append]
    repeat (refine A1 ⟨?_⟩; intros)
    refine WfH (exW_pu g4 hA (by simp only [List.length_append, List.length_cons, List.length_nil]; omega)) ?_
    rintro _ Hg5 ⟨rfl, g5⟩
    refine WPL.perm List.perm_append_comm ?_
    simp only [List.cons_append, List.nil_append]
    repeat (refine A1 ⟨?_⟩; intros)
    refine WfH (putW_pu g5 [59] (by simp only [List.length_append, List.length_cons, List.length_nil]; omega)) ?_
    rintro _ Hgz ⟨rfl, gz⟩
    refine WPL.perm List.perm_append_comm ?_
    simp only [List.cons_append, List.nil_append]
    repeat (refine A1 ⟨?_⟩; intros)
    refine endHN _ Hgz end0 ?_ ⟨rfl, ?_⟩
    · repeat (first | exact List.Sublist.refl _ | exact List.sublist_append_left _ _ | refine List.Sublist.cons _ ?_)
    · simp only [List.append_assoc, List.cons_append, List.nil_append] at gz ⊢
      exact gz
  | qry a k A hk hA =>
    have e : txS { stm0 k a with e1 := A } = kw k ++ [32] ++ [] ++ (exT A).txt ++ [59] := by
      rcases hk with rfl | rfl | rfl | rfl | rfl | rfl | rfl <;> rfl
    rcases hk with rfl | rfl | rfl | rfl | rfl | rfl | rfl
    · have c1 := gword_pu 6 (by decide) (by decide)
      have hk8 : (kw 6).length ≤ 8 := by decide
      rw [e] at hl2 ⊢
      simp only [List.length_append, List.length_cons, List.length_nil] at hl2
      clear e
      dsimp only [stx, stm0] at ck ⊢
      refine PuH.intro Tryz.func64 rfl (by kernel_rfl) fun C hC => ?_
      repeat (refine A1 ⟨?_⟩; intros)
      rename_i b3
      refine WfH ck ?_
      rintro _ _ ⟨rfl, rfl⟩
      simp only [List.nil_append]
      repeat (first | (refine A1 ⟨?_⟩; intros) | (refine Wcx (c1) ?_) | (refine Wdcx (c1) ?_) | (refine Wcgx (c1) ?_) | (refine Wdcgx (c1) ?_))
      refine WfH (put2W_pu h (kw 6) [32] (by simp only [List.length_append, List.length_cons, List.length_nil]; omega)) ?_
      rintro _ Hg1 ⟨rfl, g1⟩
      refine WPL.perm List.perm_append_comm ?_
      simp only [List.cons_append, List.nil_append]
      repeat (refine A1 ⟨?_⟩; intros)
      refine WfH (exW_pu g1 hA (by simp only [List.length_append, List.length_cons, List.length_nil]; omega)) ?_
      rintro _ Hg2 ⟨rfl, g2⟩
      refine WPL.perm List.perm_append_comm ?_
      simp only [List.cons_append, List.nil_append]
      repeat (refine A1 ⟨?_⟩; intros)
      refine WfH (putW_pu g2 [59] (by simp only [List.length_append, List.length_cons, List.length_nil]; omega)) ?_
      rintro _ Hgz ⟨rfl, gz⟩
      refine WPL.perm List.perm_append_comm ?_
      simp only [List.cons_append, List.nil_append]
      repeat (refine A1 ⟨?_⟩; intros)
      refine endHN _ Hgz end0 ?_ ⟨rfl, ?_⟩
      · repeat (first | exact List.Sublist.refl _ | exact List.sublist_append_left _ _ | refine List.Sublist.cons _ ?_)
      · simp only [List.append_assoc, List.cons_append, List.nil_append] at gz ⊢
        exact gz
    · have c1 := gword_pu 7 (by decide) (by decide)
      have hk8 : (kw 7).length ≤ 8 := by decide
      rw [e] at hl2 ⊢
      simp only [List.length_append, List.length_cons, List.length_nil] at hl2
      clear e
      dsimp only [stx, stm0] at ck ⊢
      refine PuH.intro Tryz.func64 rfl (by kernel_rfl) fun C hC => ?_
      repeat (refine A1 ⟨?_⟩; intros)
      rename_i b3
      refine WfH ck ?_
      rintro _ _ ⟨rfl, rfl⟩
      simp only [List.nil_append]
      repeat (first | (refine A1 ⟨?_⟩; intros) | (refine Wcx (c1) ?_) | (refine Wdcx (c1) ?_) | (refine Wcgx (c1) ?_) | (refine Wdcgx (c1) ?_))
      refine WfH (put2W_pu h (kw 7) [32] (by simp only [List.length_append, List.length_cons, List.length_nil]; omega)) ?_
      rintro _ Hg1 ⟨rfl, g1⟩
      refine WPL.perm List.perm_append_comm ?_
      simp only [List.cons_append, List.nil_append]
      repeat (refine A1 ⟨?_⟩; intros)
      refine WfH (exW_pu g1 hA (by simp only [List.length_append, List.length_cons, List.length_nil]; omega)) ?_
      rintro _ Hg2 ⟨rfl, g2⟩
      refine WPL.perm List.perm_append_comm ?_
      simp only [List.cons_append, List.nil_append]
      repeat (refine A1 ⟨?_⟩; intros)
      refine WfH (putW_pu g2 [59] (by simp only [List.length_append, List.length_cons, List.length_nil]; omega)) ?_
      rintro _ Hgz ⟨rfl, gz⟩
      refine WPL.perm List.perm_append_comm ?_
      simp only [List.cons_append, List.nil_append]
      repeat (refine A1 ⟨?_⟩; intros)
      refine endHN _ Hgz end0 ?_ ⟨rfl, ?_⟩
      · repeat (first | exact List.Sublist.refl _ | exact List.sublist_append_left _ _ | refine List.Sublist.cons _ ?_)
      · simp only [List.append_assoc, List.cons_append, List.nil_append] at gz ⊢
        exact gz
    · have c1 := gword_pu 9 (by decide) (by decide)
      have hk8 : (kw 9).length ≤ 8 := by decide
      rw [e] at hl2 ⊢
      simp only [List.length_append, List.length_cons, List.length_nil] at hl2
      clear e
      dsimp only [stx, stm0] at ck ⊢
      refine PuH.intro Tryz.func64 rfl (by kernel_rfl) fun C hC => ?_
      repeat (refine A1 ⟨?_⟩; intros)
      rename_i b3
      refine WfH ck ?_
      rintro _ _ ⟨rfl, rfl⟩
      simp only [List.nil_append]
      repeat (first | (refine A1 ⟨?_⟩; intros) | (refine Wcx (c1) ?_) | (refine Wdcx (c1) ?_) | (refine Wcgx (c1) ?_) | (refine Wdcgx (c1) ?_))
      refine WfH (put2W_pu h (kw 9) [32] (by simp only [List.length_append, List.length_cons, List.length_nil]; omega)) ?_
      rintro _ Hg1 ⟨rfl, g1⟩
      refine WPL.perm List.perm_append_comm ?_
      simp only [List.cons_append, List.nil_append]
      repeat (refine A1 ⟨?_⟩; intros)
      refine WfH (exW_pu g1 hA (by simp only [List.length_append, List.length_cons, List.length_nil]; omega)) ?_
      rintro _ Hg2 ⟨rfl, g2⟩
      refine WPL.perm List.perm_append_comm ?_
      simp only [List.cons_append, List.nil_append]
      repeat (refine A1 ⟨?_⟩; intros)
      refine WfH (putW_pu g2 [59] (by simp only [List.length_append, List.length_cons, List.length_nil]; omega)) ?_
      rintro _ Hgz ⟨rfl, gz⟩
      refine WPL.perm List.perm_append_comm ?_
      simp only [List.cons_append, List.nil_append]
      repeat (refine A1 ⟨?_⟩; intros)
      refine endHN _ Hgz end0 ?_ ⟨rfl, ?_⟩
      · repeat (first | exact List.Sublist.refl _ | exact List.sublist_append_left _ _ | refine List.Sublist.cons _ ?_)
      · simp only [List.append_assoc, List.cons_append, List.nil_append] at gz ⊢
        exact gz
    · have c1 := gword_pu 12 (by decide) (by decide)
      have hk8 : (kw 12).length ≤ 8 := by decide
      rw [e] at hl2 ⊢
      simp only [List.length_append, List.length_cons, List.length_nil] at hl2
      clear e
      dsimp only [stx, stm0] at ck ⊢
      refine PuH.intro Tryz.func64 rfl (by kernel_rfl) fun C hC => ?_
      repeat (refine A1 ⟨?_⟩; intros)
      rename_i b3
      refine WfH ck ?_
      rintro _ _ ⟨rfl, rfl⟩
      simp only [List.nil_append]
      repeat (first | (refine A1 ⟨?_⟩; intros) | (refine Wcx (c1) ?_) | (refine Wdcx (c1) ?_) | (refine Wcgx (c1) ?_) | (refine Wdcgx (c1) ?_))
      refine WfH (put2W_pu h (kw 12) [32] (by simp only [List.length_append, List.length_cons, List.length_nil]; omega)) ?_
      rintro _ Hg1 ⟨rfl, g1⟩
      refine WPL.perm List.perm_append_comm ?_
      simp only [List.cons_append, List.nil_append]
      repeat (refine A1 ⟨?_⟩; intros)
      refine WfH (exW_pu g1 hA (by simp only [List.length_append, List.length_cons, List.length_nil]; omega)) ?_
      rintro _ Hg2 ⟨rfl, g2⟩
      refine WPL.perm List.perm_append_comm ?_
      simp only [List.cons_append, List.nil_append]
      repeat (refine A1 ⟨?_⟩; intros)
      refine WfH (putW_pu g2 [59] (by simp only [List.length_append, List.length_cons, List.length_nil]; omega)) ?_
      rintro _ Hgz ⟨rfl, gz⟩
      refine WPL.perm List.perm_append_comm ?_
      simp only [List.cons_append, List.nil_append]
      repeat (refine A1 ⟨?_⟩; intros)
      refine endHN _ Hgz end0 ?_ ⟨rfl, ?_⟩
      · repeat (first | exact List.Sublist.refl _ | exact List.sublist_append_left _ _ | refine List.Sublist.cons _ ?_)
      · simp only [List.append_assoc, List.cons_append, List.nil_append] at gz ⊢
        exact gz
    · have c1 := gword_pu 13 (by decide) (by decide)
      have hk8 : (kw 13).length ≤ 8 := by decide
      rw [e] at hl2 ⊢
      simp only [List.length_append, List.length_cons, List.length_nil] at hl2
      clear e
      dsimp only [stx, stm0] at ck ⊢
      refine PuH.intro Tryz.func64 rfl (by kernel_rfl) fun C hC => ?_
      repeat (refine A1 ⟨?_⟩; intros)
      rename_i b3
      refine WfH ck ?_
      rintro _ _ ⟨rfl, rfl⟩
      simp only [List.nil_append]
      repeat (first | (refine A1 ⟨?_⟩; intros) | (refine Wcx (c1) ?_) | (refine Wdcx (c1) ?_) | (refine Wcgx (c1) ?_) | (refine Wdcgx (c1) ?_))
      refine WfH (put2W_pu h (kw 13) [32] (by simp only [List.length_append, List.length_cons, List.length_nil]; omega)) ?_
      rintro _ Hg1 ⟨rfl, g1⟩
      refine WPL.perm List.perm_append_comm ?_
      simp only [List.cons_append, List.nil_append]
      repeat (refine A1 ⟨?_⟩; intros)
      refine WfH (exW_pu g1 hA (by simp only [List.length_append, List.length_cons, List.length_nil]; omega)) ?_
      rintro _ Hg2 ⟨rfl, g2⟩
      refine WPL.perm List.perm_append_comm ?_
      simp only [List.cons_append, List.nil_append]
      repeat (refine A1 ⟨?_⟩; intros)
      refine WfH (putW_pu g2 [59] (by simp only [List.length_append, List.length_cons, List.length_nil]; omega)) ?_
      rintro _ Hgz ⟨rfl, gz⟩
      refine WPL.perm List.perm_append_comm ?_
      simp only [List.cons_append, List.nil_append]
      repeat (refine A1 ⟨?_⟩; intros)
      refine endHN _ Hgz end0 ?_ ⟨rfl, ?_⟩
      · repeat (first | exact List.Sublist.refl _ | exact List.sublist_append_left _ _ | refine List.Sublist.cons _ ?_)
      · simp only [List.append_assoc, List.cons_append, List.nil_append] at gz ⊢
        exact gz
    · have c1 := gword_pu 14 (by decide) (by decide)
      have hk8 : (kw 14).length ≤ 8 := by decide
      rw [e] at hl2 ⊢
      simp only [List.length_append, List.length_cons, List.length_nil] at hl2
      clear e
      dsimp only [stx, stm0] at ck ⊢
      refine PuH.intro Tryz.func64 rfl (by kernel_rfl) fun C hC => ?_
      repeat (refine A1 ⟨?_⟩; intros)
      rename_i b3
      refine WfH ck ?_
      rintro _ _ ⟨rfl, rfl⟩
      simp only [List.nil_append]
      repeat (first | (refine A1 ⟨?_⟩; intros) | (refine Wcx (c1) ?_) | (refine Wdcx (c1) ?_) | (refine Wcgx (c1) ?_) | (refine Wdcgx (c1) ?_))
      refine WfH (put2W_pu h (kw 14) [32] (by simp only [List.length_append, List.length_cons, List.length_nil]; omega)) ?_
      rintro _ Hg1 ⟨rfl, g1⟩
      refine WPL.perm List.perm_append_comm ?_
      simp only [List.cons_append, List.nil_append]
      repeat (refine A1 ⟨?_⟩; intros)
      refine WfH (exW_pu g1 hA (by simp only [List.length_append, List.length_cons, List.length_nil]; omega)) ?_
      rintro _ Hg2 ⟨rfl, g2⟩
      refine WPL.perm List.perm_append_comm ?_
      simp only [List.cons_append, List.nil_append]
      repeat (refine A1 ⟨?_⟩; intros)
      refine WfH (putW_pu g2 [59] (by simp only [List.length_append, List.length_cons, List.length_nil]; omega)) ?_
      rintro _ Hgz ⟨rfl, gz⟩
      refine WPL.perm List.perm_append_comm ?_
      simp only [List.cons_append, List.nil_append]
      repeat (refine A1 ⟨?_⟩; intros)
      refine endHN _ Hgz end0 ?_ ⟨rfl, ?_⟩
      · repeat (first | exact List.Sublist.refl _ | exact List.sublist_append_left _ _ | refine List.Sublist.cons _ ?_)
      · simp only [List.append_assoc, List.cons_append, List.nil_append] at gz ⊢
        exact gz
    · have c1 := gword_pu 15 (by decide) (by decide)
      have hk8 : (kw 15).length ≤ 8 := by decide
      rw [e] at hl2 ⊢
      simp only [List.length_append, List.length_cons, List.length_nil] at hl2
      clear e
      dsimp only [stx, stm0] at ck ⊢
      refine PuH.intro Tryz.func64 rfl (by kernel_rfl) fun C hC => ?_
      repeat (refine A1 ⟨?_⟩; intros)
      rename_i b3
      refine WfH ck ?_
      rintro _ _ ⟨rfl, rfl⟩
      simp only [List.nil_append]
      repeat (first | (refine A1 ⟨?_⟩; intros) | (refine Wcx (c1) ?_) | (refine Wdcx (c1) ?_) | (refine Wcgx (c1) ?_) | (refine Wdcgx (c1) ?_))
      refine WfH (put2W_pu h (kw 15) [32] (by simp only [List.length_append, List.length_cons, List.length_nil]; omega)) ?_
      rintro _ Hg1 ⟨rfl, g1⟩
      refine WPL.perm List.perm_append_comm ?_
      simp only [List.cons_append, List.nil_append]
      repeat (refine A1 ⟨?_⟩; intros)
      refine WfH (exW_pu g1 hA (by simp only [List.length_append, List.length_cons, List.length_nil]; omega)) ?_
      rintro _ Hg2 ⟨rfl, g2⟩
      refine WPL.perm List.perm_append_comm ?_
      simp only [List.cons_append, List.nil_append]
      repeat (refine A1 ⟨?_⟩; intros)
      refine WfH (putW_pu g2 [59] (by simp only [List.length_append, List.length_cons, List.length_nil]; omega)) ?_
      rintro _ Hgz ⟨rfl, gz⟩
      refine WPL.perm List.perm_append_comm ?_
      simp only [List.cons_append, List.nil_append]
      repeat (refine A1 ⟨?_⟩; intros)
      refine endHN _ Hgz end0 ?_ ⟨rfl, ?_⟩
      · repeat (first | exact List.Sublist.refl _ | exact List.sublist_append_left _ _ | refine List.Sublist.cons _ ?_)
      · simp only [List.append_assoc, List.cons_append, List.nil_append] at gz ⊢
        exact gz
  | cls a A p hA hp =>
    have e : txS { stm0 8 a with e1 := A, px := RQ.of p.1, py := RQ.of p.2 } = kw 8 ++ [32] ++ [] ++ ((exT A).txt ++ (32 :: txP p)) ++ [59] := by
      show kw 8 ++ [32] ++ [] ++ ((exT A).txt ++ (32 :: txP ((RQ.of p.1).v, (RQ.of p.2).v))) ++ [59] = _
      rw [RQ.of_v, RQ.of_v]
    have c1 := gword_pu 8 (by decide) (by decide)
    have hk8 : (kw 8).length ≤ 8 := by decide
    rw [e] at hl2 ⊢
    simp only [List.length_append, List.length_cons, List.length_nil] at hl2
    clear e
    dsimp only [stx, stm0] at ck ⊢
    refine PuH.intro Tryz.func64 rfl (by kernel_rfl) fun C hC => ?_
    repeat (refine A1 ⟨?_⟩; intros)
    rename_i b3
    refine WfH ck ?_
    rintro _ _ ⟨rfl, rfl⟩
    simp only [List.nil_append]
    repeat (first | (refine A1 ⟨?_⟩; intros) | (refine Wcx (c1) ?_) | (refine Wdcx (c1) ?_) | (refine Wcgx (c1) ?_) | (refine Wdcgx (c1) ?_))
    refine WfH (put2W_pu h (kw 8) [32] (by simp only [List.length_append, List.length_cons, List.length_nil]; omega)) ?_
    rintro _ Hg1 ⟨rfl, g1⟩
    refine WPL.perm List.perm_append_comm ?_
    simp only [List.cons_append, List.nil_append]
    repeat (refine A1 ⟨?_⟩; intros)
    refine WfH (exW_pu g1 hA (by simp only [List.length_append, List.length_cons, List.length_nil]; omega)) ?_
    rintro _ Hg2 ⟨rfl, g2⟩
    refine WPL.perm List.perm_append_comm ?_
    simp only [List.cons_append, List.nil_append]
    repeat (refine A1 ⟨?_⟩; intros)
    refine WfH (putW_pu g2 [32] (by simp only [List.length_append, List.length_cons, List.length_nil]; omega)) ?_
    rintro _ Hg3 ⟨rfl, g3⟩
    refine WPL.perm List.perm_append_comm ?_
    simp only [List.cons_append, List.nil_append]
    repeat (refine A1 ⟨?_⟩; intros)
    refine WfH (ptW_pu g3 hp (by simp only [List.length_append, List.length_cons, List.length_nil]; omega)) ?_
    rintro _ Hg4 ⟨rfl, g4⟩
    refine WPL.perm List.perm_append_comm ?_
    simp only [List.cons_append, List.nil_append]
    repeat (refine A1 ⟨?_⟩; intros)
    refine WfH (putW_pu g4 [59] (by simp only [List.length_append, List.length_cons, List.length_nil]; omega)) ?_
    rintro _ Hgz ⟨rfl, gz⟩
    refine WPL.perm List.perm_append_comm ?_
    simp only [List.cons_append, List.nil_append]
    repeat (refine A1 ⟨?_⟩; intros)
    refine endHN _ Hgz end0 ?_ ⟨rfl, ?_⟩
    · repeat (first | exact List.Sublist.refl _ | exact List.sublist_append_left _ _ | refine List.Sublist.cons _ ?_)
    · simp only [List.append_assoc, List.cons_append, List.nil_append] at gz ⊢
      exact gz
  | two a k A B hk hA hB =>
    have e : txS { stm0 k a with e1 := A, e2 := B } = kw k ++ [32] ++ [] ++ ((exT A).txt ++ ([44, 32] ++ (exT B).txt)) ++ [59] := by
      rcases hk with rfl | rfl <;> rfl
    rcases hk with rfl | rfl
    · have c1 := gword_pu 10 (by decide) (by decide)
      have hk8 : (kw 10).length ≤ 8 := by decide
      rw [e] at hl2 ⊢
      simp only [List.length_append, List.length_cons, List.length_nil] at hl2
      clear e
      dsimp only [stx, stm0] at ck ⊢
      refine PuH.intro Tryz.func64 rfl (by kernel_rfl) fun C hC => ?_
      repeat (refine A1 ⟨?_⟩; intros)
      rename_i b3
      refine WfH ck ?_
      rintro _ _ ⟨rfl, rfl⟩
      simp only [List.nil_append]
      repeat (first | (refine A1 ⟨?_⟩; intros) | (refine Wcx (c1) ?_) | (refine Wdcx (c1) ?_) | (refine Wcgx (c1) ?_) | (refine Wdcgx (c1) ?_))
      refine WfH (put2W_pu h (kw 10) [32] (by simp only [List.length_append, List.length_cons, List.length_nil]; omega)) ?_
      rintro _ Hg1 ⟨rfl, g1⟩
      refine WPL.perm List.perm_append_comm ?_
      simp only [List.cons_append, List.nil_append]
      repeat (refine A1 ⟨?_⟩; intros)
      refine WfH (exW_pu g1 hA (by simp only [List.length_append, List.length_cons, List.length_nil]; omega)) ?_
      rintro _ Hg2 ⟨rfl, g2⟩
      refine WPL.perm List.perm_append_comm ?_
      simp only [List.cons_append, List.nil_append]
      repeat (refine A1 ⟨?_⟩; intros)
      refine WfH (putW_pu g2 [44, 32] (by simp only [List.length_append, List.length_cons, List.length_nil]; omega)) ?_
      rintro _ Hg3 ⟨rfl, g3⟩
      refine WPL.perm List.perm_append_comm ?_
      simp only [List.cons_append, List.nil_append]
      repeat (refine A1 ⟨?_⟩; intros)
      refine WfH (exW_pu g3 hB (by simp only [List.length_append, List.length_cons, List.length_nil]; omega)) ?_
      rintro _ Hg4 ⟨rfl, g4⟩
      refine WPL.perm List.perm_append_comm ?_
      simp only [List.cons_append, List.nil_append]
      repeat (refine A1 ⟨?_⟩; intros)
      refine WfH (putW_pu g4 [59] (by simp only [List.length_append, List.length_cons, List.length_nil]; omega)) ?_
      rintro _ Hgz ⟨rfl, gz⟩
      refine WPL.perm List.perm_append_comm ?_
      simp only [List.cons_append, List.nil_append]
      repeat (refine A1 ⟨?_⟩; intros)
      refine endHN _ Hgz end0 ?_ ⟨rfl, ?_⟩
      · repeat (first | exact List.Sublist.refl _ | exact List.sublist_append_left _ _ | refine List.Sublist.cons _ ?_)
      · simp only [List.append_assoc, List.cons_append, List.nil_append] at gz ⊢
        exact gz
    · have c1 := gword_pu 11 (by decide) (by decide)
      have hk8 : (kw 11).length ≤ 8 := by decide
      rw [e] at hl2 ⊢
      simp only [List.length_append, List.length_cons, List.length_nil] at hl2
      clear e
      dsimp only [stx, stm0] at ck ⊢
      refine PuH.intro Tryz.func64 rfl (by kernel_rfl) fun C hC => ?_
      repeat (refine A1 ⟨?_⟩; intros)
      rename_i b3
      refine WfH ck ?_
      rintro _ _ ⟨rfl, rfl⟩
      simp only [List.nil_append]
      repeat (first | (refine A1 ⟨?_⟩; intros) | (refine Wcx (c1) ?_) | (refine Wdcx (c1) ?_) | (refine Wcgx (c1) ?_) | (refine Wdcgx (c1) ?_))
      refine WfH (put2W_pu h (kw 11) [32] (by simp only [List.length_append, List.length_cons, List.length_nil]; omega)) ?_
      rintro _ Hg1 ⟨rfl, g1⟩
      refine WPL.perm List.perm_append_comm ?_
      simp only [List.cons_append, List.nil_append]
      repeat (refine A1 ⟨?_⟩; intros)
      refine WfH (exW_pu g1 hA (by simp only [List.length_append, List.length_cons, List.length_nil]; omega)) ?_
      rintro _ Hg2 ⟨rfl, g2⟩
      refine WPL.perm List.perm_append_comm ?_
      simp only [List.cons_append, List.nil_append]
      repeat (refine A1 ⟨?_⟩; intros)
      refine WfH (putW_pu g2 [44, 32] (by simp only [List.length_append, List.length_cons, List.length_nil]; omega)) ?_
      rintro _ Hg3 ⟨rfl, g3⟩
      refine WPL.perm List.perm_append_comm ?_
      simp only [List.cons_append, List.nil_append]
      repeat (refine A1 ⟨?_⟩; intros)
      refine WfH (exW_pu g3 hB (by simp only [List.length_append, List.length_cons, List.length_nil]; omega)) ?_
      rintro _ Hg4 ⟨rfl, g4⟩
      refine WPL.perm List.perm_append_comm ?_
      simp only [List.cons_append, List.nil_append]
      repeat (refine A1 ⟨?_⟩; intros)
      refine WfH (putW_pu g4 [59] (by simp only [List.length_append, List.length_cons, List.length_nil]; omega)) ?_
      rintro _ Hgz ⟨rfl, gz⟩
      refine WPL.perm List.perm_append_comm ?_
      simp only [List.cons_append, List.nil_append]
      repeat (refine A1 ⟨?_⟩; intros)
      refine endHN _ Hgz end0 ?_ ⟨rfl, ?_⟩
      · repeat (first | exact List.Sublist.refl _ | exact List.sublist_append_left _ _ | refine List.Sublist.cons _ ?_)
      · simp only [List.append_assoc, List.cons_append, List.nil_append] at gz ⊢
        exact gz
structure TkB (a : Tok) : Prop where
  len : a.t.length ≤ 1000
  wd : a.k = 1 → Wd a.t
  num : a.k = 2 → allD a.t ∧ a.t ≠ []
def tkW : List Tok → Nat
  | [] => 0
  | a :: r => (a.t.length + 8) + tkW r
def Gt (ts : List Tok) : Prop := GOk ts ∧ (∀ a ∈ ts, TkB a) ∧ tkW ts ≤ 50000
theorem Gt.cons {a : Tok} {r : List Tok} (h : Gt (a :: r)) (h0 : a.k ≠ 0) : Gt r ∧ TkB a := by
  refine ⟨⟨h.1.tail h0, fun b hb => h.2.1 b (List.mem_cons_of_mem _ hb), ?_⟩, h.2.1 a List.mem_cons_self⟩
  have := h.2.2
  simp only [tkW] at this
  omega
def Gd {α : Type} (p : Rd α) (Φ : α → Nat → Prop) : Prop := ∀ ts x r, Gt ts → p ts = .ok (x, r) → Gt r ∧ ∃ k, k + tkW r = tkW ts ∧ Φ x k
section
variable {α β : Type}
theorem Gd.imp {p : Rd α} {Φ Ψ : α → Nat → Prop} (h : Gd p Φ) (hi : ∀ x k, k ≤ 50000 → Φ x k → Ψ x k) : Gd p Ψ := fun ts x r hG hp => by
  obtain ⟨h1, k, h2, h3⟩ := h ts x r hG hp
  have := hG.2.2
  exact ⟨h1, k, h2, hi x k (by omega) h3⟩
theorem Gd.bind {p : Rd α} {f : α → Rd β} {Φ : α → Nat → Prop} {Ψ : β → Nat → Prop} (hp : Gd p Φ) (hf : ∀ x k1, Φ x k1 → Gd (f x) (fun y k2 => Ψ y (k1 + k2))) : Gd (rbind p f) Ψ := fun ts y r hG h => by
  unfold rbind at h
  cases hq : p ts with
  | error e => rw [hq] at h; cases h
  | ok w =>
    obtain ⟨x, r'⟩ := w
    rw [hq] at h
    obtain ⟨g1, k1, g2, g3⟩ := hp ts x r' hG hq
    obtain ⟨g4, k2, g5, g6⟩ := hf x k1 g3 r' y r g1 h
    exact ⟨g4, k1 + k2, by omega, g6⟩
theorem Gd.fail (k : Nat) (Φ : α → Nat → Prop) : Gd (rfail k) Φ := fun _ _ _ _ h => by cases h
theorem Gd.ret {x : α} {Φ : α → Nat → Prop} (h : Φ x 0) : Gd (rret x) Φ := fun ts y r hG e => by
  cases e
  exact ⟨hG, 0, Nat.zero_add _, h⟩
theorem Gd.rif {c : Tok → Bool} {p q : Rd α} {Φ : α → Nat → Prop} (hp : Gd p Φ) (hq : Gd q Φ) : Gd (rif c p q) Φ := fun ts x r hG h => by
  unfold Ab.rif at h
  split at h
  · exact hp _ _ _ hG h
  · exact hq _ _ _ hG h
theorem Gd.tk {c : Tok → Bool} {p : Tok → Rd α} {q : Rd α} {Φ : α → Nat → Prop} (h0 : ∀ a, c a = true → a.k ≠ 0) (hp : ∀ a, c a = true → TkB a → Gd (p a) (fun y k => Φ y (a.t.length + 8 + k))) (hq : Gd q Φ) : Gd (rtk c p q) Φ := fun ts x r hG h => by
  unfold rtk at h
  by_cases hc : c (hd ts) = true
  · rw [if_pos hc] at h
    obtain ⟨a, s, rfl, -⟩ := hG.1.cons
    have hc' : c a = true := hc
    obtain ⟨g1, g2⟩ := hG.cons (h0 a hc')
    obtain ⟨g3, k, g4, g5⟩ := hp a hc' g2 s x r g1 h
    refine ⟨g3, a.t.length + 8 + k, ?_, g5⟩
    simp only [tkW]
    omega
  · rw [if_neg hc] at h
    exact hq _ _ _ hG h
end
theorem cis_t {w : List UInt8} {a : Tok} (h : cis w a = true) : a.t = w := by
  unfold cis at h
  rw [Bool.and_eq_true] at h
  exact of_decide_eq_true h.2
theorem Gd.expect (w : List UInt8) : Gd (rexpect w) (fun _ k => w.length + 8 ≤ k) :=
  Gd.tk (cis_0 w) (fun a ha _ => Gd.ret (by rw [cis_t ha]; omega)) (.fail _ _)
theorem wd_nmOk {w : List UInt8} (h : Wd w) (hr : resv w = false) : nmOk w = true := by
  obtain ⟨b, r, rfl, hb, hall, hlen⟩ := h
  unfold nmOk
  simp only [Bool.and_eq_true, decide_eq_true_eq, Bool.not_eq_true']
  refine ⟨⟨⟨⟨by simp, hlen⟩, ?_⟩, hr⟩, List.all_eq_true.2 fun c hc => ?_⟩
  · show letterN b.toNat = true
    rw [← clsN_3, decide_eq_true hb]
  · have h := hall c hc
    unfold isLD at h
    unfold okB
    rw [Bool.or_eq_true] at h ⊢
    rcases h with h | h
    · left; rw [← clsN_3]; exact h
    · right; exact decide_eq_true (cls4 (of_decide_eq_true h))
theorem Gd.name : Gd rname (fun s k => nmOk s = true ∧ s.length + 8 ≤ k) :=
  Gd.tk cnm_0 (fun a ha hb => by
    obtain ⟨h1, h2⟩ := (cnm_iff a).1 ha
    exact Gd.ret ⟨wd_nmOk (hb.wd h1) h2, by omega⟩) (.fail _ _)
def NmT (w : List UInt8) : Prop := allD w ∧ w ≠ [] ∧ w.length ≤ 1000
theorem Gd.num : Gd rnum (fun s k => NmT s ∧ s.length + 8 ≤ k) :=
  Gd.tk cnum_0 (fun a ha hb => by
    obtain ⟨h1, h2⟩ := hb.num (of_decide_eq_true ha)
    exact Gd.ret ⟨⟨h1, h2, hb.len⟩, by omega⟩) (.fail _ _)
theorem Gd.numC {α : Type} (bad : List UInt8 → Bool) (e : Nat) (f : List UInt8 → α) : Gd (rnumC bad e f) (fun y k => ∃ w, NmT w ∧ bad w = false ∧ y = f w ∧ w.length + 8 ≤ k) := fun ts x r hG h => by
  rw [rnumC_eq, rnum_eq] at h
  cases hq : rnum ts with
  | error e => rw [hq] at h; cases h
  | ok q =>
    obtain ⟨w, t1⟩ := q
    rw [hq] at h
    simp only at h
    obtain ⟨g1, k, g2, g3⟩ := Gd.num ts w t1 hG hq
    by_cases hb : bad w = true
    · rw [if_pos hb] at h; cases h
    · rw [if_neg hb] at h
      cases h
      exact ⟨g1, k, g2, w, g3.1, Bool.eq_false_iff.2 hb, rfl, g3.2⟩
theorem mk_bd (a : Int) (d : Nat) : (mkRat a d).num.natAbs ≤ a.natAbs ∧ ((mkRat a d).den = 1 ∨ (mkRat a d).den ≤ d) ∧ (0 ≤ a → 0 ≤ (mkRat a d).num) ∧ (d = 1 → (mkRat a d).den = 1) := by
  by_cases hd : d = 0
  · subst hd
    rw [Rat.mkRat_zero]
    exact ⟨Nat.zero_le _, .inl rfl, fun _ => Int.le_refl _, fun h => by omega⟩
  · rw [← Rat.normalize_eq_mkRat hd, Rat.normalize_eq]
    refine ⟨?_, .inr (Nat.div_le_self _ _), fun h => Int.ediv_nonneg h (by omega), fun h => ?_⟩
    · simp only
      rw [Int.natAbs_ediv_of_dvd (Int.ofNat_dvd_left.2 (Nat.gcd_dvd_left _ _))]
      exact Nat.div_le_self _ _
    · subst h; simp
theorem dec_tok {n : Nat} {w : List UInt8} (hw : NmT w) (h : n ≤ dcv w ∨ n = 1) : (dec n).length ≤ w.length := by
  have hl : 1 ≤ w.length := List.length_pos_iff.2 hw.2.1
  refine dec_le ?_ hl
  have h1 := dcv_lt hw.1
  have h2 : (10 : Nat) ^ 1 ≤ 10 ^ w.length := Nat.pow_le_pow_right (by omega) hl
  omega
theorem sv_natAbs (neg : Bool) (n : Nat) : (sv neg n).natAbs = n := by
  cases neg with
  | true => show (-(n : Int)).natAbs = n; omega
  | false => show ((n : Int)).natAbs = n; omega
theorem rat_bd {neg : Bool} {w v : List UInt8} (hw : NmT w) (hv : NmT v ∨ dcv v = 1) : NumB (mkRat (sv neg (dcv w)) (dcv v)) ∧ (fmt (mkRat (sv neg (dcv w)) (dcv v))).length ≤ (if neg = true then 1 else 0) + w.length + (if dcv v = 1 then 0 else v.length + 1) := by
  obtain ⟨h1, h2, h3, h4⟩ := mk_bd (sv neg (dcv w)) (dcv v)
  rw [sv_natAbs] at h1
  have g1 := dec_tok hw (.inl h1)
  have hwl := hw.2.2
  have g2 : (mkRat (sv neg (dcv w)) (dcv v)).den = 1 ∨ (dec (mkRat (sv neg (dcv w)) (dcv v)).den).length ≤ v.length := by
    rcases h2 with h | h
    · exact .inl h
    · rcases hv with hv | hv
      · exact .inr (dec_tok hv (.inl h))
      · exact .inl (h4 hv)
  refine ⟨⟨by omega, ?_⟩, ?_⟩
  · rcases hv with hv | hv
    · rcases g2 with h | h
      · rw [h]; exact Nat.le_trans (dec_le (k := 1) (by omega) (by omega)) (by omega)
      · have := hv.2.2; omega
    · rw [h4 hv]; exact Nat.le_trans (dec_le (k := 1) (by omega) (by omega)) (by omega)
  · unfold fmt
    have hneg : (mkRat (sv neg (dcv w)) (dcv v)).num < 0 → neg = true := fun h => by
      cases neg with
      | true => rfl
      | false =>
        have := h3 (by unfold sv; simp)
        omega
    generalize mkRat (sv neg (dcv w)) (dcv v) = x at *
    have e1 : (if x.num < 0 then [45] ++ dec x.num.natAbs else dec x.num.natAbs).length ≤ (if neg = true then 1 else 0) + w.length := by
      split
      · next h => rw [if_pos (hneg h), List.length_append, List.length_singleton]; omega
      · omega
    have e2 : (if x.den = 1 then [] else [47] ++ dec x.den).length ≤ (if dcv v = 1 then 0 else v.length + 1) := by
      split
      · simp
      · next h =>
        rw [if_neg (fun hh => h (h4 hh)), List.length_append, List.length_singleton]
        have := g2.resolve_left h
        omega
    rw [List.length_append]
    omega
theorem Gd.ratS (neg : Bool) : Gd (rratS neg) (fun x k => NumB x ∧ (fmt x).length + 7 ≤ (if neg = true then 1 else 0) + k) := by
  refine Gd.num.bind fun n k1 hn => Gd.tk (cis_0 _) (fun a ha _ => (Gd.numC _ _ _).imp fun y k _ h => ?_) (Gd.ret ?_)
  · obtain ⟨w, hw, -, rfl, hk⟩ := h
    obtain ⟨g1, g2⟩ := rat_bd (neg := neg) hn.1 (.inl hw)
    refine ⟨g1, ?_⟩
    have hn2 := hn.2
    have hw2 : (if dcv w = 1 then 0 else w.length + 1) ≤ w.length + 1 := by split <;> omega
    omega
  · obtain ⟨g1, g2⟩ := rat_bd (neg := neg) (v := [49]) hn.1 (.inr rfl)
    have e49 : dcv [49] = 1 := rfl
    rw [e49] at g1 g2
    rw [if_pos (rfl : (1 : Nat) = 1)] at g2
    have hn2 := hn.2
    exact ⟨g1, by omega⟩
theorem Gd.rat : Gd rrat (fun x k => NumB x ∧ (fmt x).length + 7 ≤ k) :=
  Gd.tk (cis_0 _) (fun a ha _ => (Gd.ratS true).imp fun y k _ h => ⟨h.1, by have := h.2; rw [if_pos rfl] at this; omega⟩) ((Gd.ratS false).imp fun y k _ h => ⟨h.1, by have := h.2; rw [if_neg (by decide)] at this; omega⟩)
theorem Gd.pt : Gd rpt (fun p k => PtB p ∧ (txP p).length + 8 ≤ k) :=
  (Gd.expect _).bind fun _ k1 h1 => Gd.rat.bind fun x k2 h2 => (Gd.expect _).bind fun _ k3 h3 => Gd.rat.bind fun y k4 h4 => (Gd.expect _).bind fun _ k5 h5 => Gd.ret (by
    refine ⟨⟨h2.1, h4.1⟩, ?_⟩
    have a1 := h2.2
    have a2 := h4.2
    simp only [List.length_singleton] at h1 h3 h5
    unfold txP
    simp only [List.length_append, List.length_singleton]
    omega)
theorem txPs_cons (p : Rat × Rat) (ps : List (Rat × Rat)) : (txPs (p :: ps)).length = 1 + (txP p).length + (txPs ps).length := by
  unfold txPs
  simp only [List.map_cons, List.flatten_cons, List.length_append, List.length_cons]
  omega
theorem Gd.ptsF : ∀ f, Gd (rpts f) (fun ps k => ps ≠ [] ∧ (∀ p ∈ ps, PtB p) ∧ (txPs ps).length + 7 ≤ k ∧ ps.length ≤ k)
  | 0 => .fail _ _
  | f + 1 => Gd.pt.bind fun p k1 h1 => Gd.rif ((Gd.ptsF f).bind fun ps k2 h2 => Gd.ret (by
      obtain ⟨g1, g2, g3, g4⟩ := h2
      have a1 := h1.2
      refine ⟨List.cons_ne_nil _ _, fun q hq => ?_, ?_, ?_⟩
      · rcases List.mem_cons.1 hq with rfl | hq
        · exact h1.1
        · exact g2 q hq
      · rw [txPs_cons]; omega
      · simp only [List.length_cons]; omega)) (Gd.ret (by
      have a1 := h1.2
      refine ⟨List.cons_ne_nil _ _, fun q hq => ?_, ?_, ?_⟩
      · rw [List.mem_singleton] at hq; subst hq; exact h1.1
      · rw [txPs_cons, show txPs [] = [] from rfl, List.length_nil]; omega
      · simp only [List.length_cons, List.length_nil]; omega))
theorem Gd.pts (f : Nat) : Gd (rpts f) (fun ps k => PsB ps ∧ (txPs ps).length + 7 ≤ k) := (Gd.ptsF f).imp fun ps k hk h => ⟨⟨h.1, by have := h.2.2.2; omega, h.2.1⟩, h.2.2.1⟩
def plen (lv : Int) (x : Ex) : Nat := (par (decide (rk x.top < lv)) x.txt).length
theorem plen_le (lv : Int) (x : Ex) : x.txt.length ≤ plen lv x ∧ plen lv x ≤ x.txt.length + 2 := par_len _ _
theorem plen_in {lv : Int} {x : Ex} (h : lv ≤ rk x.top) : plen lv x = x.txt.length := by
  unfold plen
  rw [decide_eq_false (by omega)]; rfl
theorem plen_mono {a b : Int} (h : a ≤ b) (x : Ex) : plen a x ≤ plen b x := by
  unfold plen
  by_cases h1 : rk x.top < a
  · rw [decide_eq_true h1, decide_eq_true (by omega)]; exact Nat.le_refl _
  · rw [decide_eq_false h1]
    exact (par_len _ _).1
structure SpE (lv d i : Nat) (p : List Nd × Ex) (k : Nat) : Prop where
  rn : Rn p.1 i p.2
  fl : clrL p.1 = p.2.fl i
  wf : p.2.wf
  dp : d + pdp lv p.2 ≤ 200
  ln : plen lv p.2 + p.2.size ≤ k
def AcB (lv d i : Nat) (k : Nat) : Option (List Nd × Ex) → Prop
  | none => k = 0 ∧ d ≤ 200
  | some p => lv ≠ 3 ∧ SpE lv d i p k
theorem SpE.leaf {n m : Nd} {d i k : Nat} (hm : m = n) (h1 : okN n = true) (h5 : n.k ≠ 5) (h6 : n.k ≠ 6) (hw : LfB n) (hd : d ≤ 200) (hl : (Ex.leaf n).txt.length + 1 ≤ k) : SpE 3 d i ([n], .leaf m) k := by
  subst hm
  have hr : rk (Ex.leaf m).top = 3 := by show rk m = 3; unfold rk; rw [if_neg h6]
  refine ⟨Rn.leaf h1 h5 h6, rfl, hw, ?_, ?_⟩
  · have : pdp ((3 : Nat) : Int) (Ex.leaf m) = 0 := by
      unfold pdp
      rw [if_neg (by omega)]
      rfl
    show d + pdp ((3 : Nat) : Int) (Ex.leaf m) ≤ 200
    omega
  · show plen ((3 : Nat) : Int) (Ex.leaf m) + (Ex.leaf m).size ≤ k
    rw [plen_in (show ((3 : Nat) : Int) ≤ rk (Ex.leaf m).top by omega)]
    exact hl
theorem Gd.leafs (d i : Nat) (hd : d ≤ 200) : Gd rleafs (SpE 3 d i) := by
  refine Gd.tk (cis_0 _) (fun a ha _ => Gd.ret (SpE.leaf rfl (okNA (.inl rfl)) (show (2 : Int) ≠ 5 by decide) (show (2 : Int) ≠ 6 by decide) (.inr (.inl rfl)) hd ?_)) (Gd.tk (cis_0 _) (fun a ha _ => Gd.ret (SpE.leaf rfl (okNA (.inr rfl)) (show (3 : Int) ≠ 5 by decide) (show (3 : Int) ≠ 6 by decide) (.inr (.inr (.inl rfl))) hd ?_))
    (Gd.tk (cis_0 _) (fun a ha _ => Gd.pt.bind fun p k1 hp => Gd.pt.bind fun q k2 hq => Gd.ret (SpE.leaf rfl ?_ (show (4 : Int) ≠ 5 by decide) (show (4 : Int) ≠ 6 by decide) (.inr (.inr (.inr ⟨p, q, hp.1, hq.1, rfl⟩))) hd ?_))
      (Gd.tk cnm_0 (fun a ha hb => Gd.ret (SpE.leaf rfl okNm (show (1 : Int) ≠ 5 by decide) (show (1 : Int) ≠ 6 by decide) (.inl ⟨a.t, ?_, rfl⟩) hd ?_)) (.fail _ _))))
  · show wAll.length + 1 ≤ _
    rw [cis_t ha]; omega
  · show wNone.length + 1 ≤ _
    rw [cis_t ha]; omega
  · unfold okN ndH; simp
  · obtain ⟨p1, p2⟩ := p
    obtain ⟨q1, q2⟩ := q
    have h1 := hp.2
    have h2 := hq.2
    show (wHalf ++ ptxt2 (RQ.of p1) (RQ.of p2) (RQ.of q1) (RQ.of q2)).length + 1 ≤ _
    unfold ptxt2
    rw [txP_ptxt, txP_ptxt, RQ.of_v, RQ.of_v, RQ.of_v, RQ.of_v, cis_t ha]
    simp only [List.length_append, List.length_singleton]
    rw [show wHalf.length = 4 from rfl]
    omega
  · obtain ⟨h1, h2⟩ := (cnm_iff a).1 ha
    exact wd_nmOk (hb.wd h1) h2
  · show a.t.length + 1 ≤ _
    omega
theorem SpE.up {lv d i k : Nat} {p : List Nd × Ex} (h : SpE (lv + 1) d i p k) : SpE lv d i p k := by
  have h1 := pdp_mono (show ((lv : Nat) : Int) ≤ ((lv + 1 : Nat) : Int) by omega) p.2
  have h2 := plen_mono (show ((lv : Nat) : Int) ≤ ((lv + 1 : Nat) : Int) by omega) p.2
  have h3 := h.dp
  have h4 := h.ln
  exact ⟨h.rn, h.fl, h.wf, by omega, by omega⟩
theorem SpE.k {lv d i k k' : Nat} {p : List Nd × Ex} (h : SpE lv d i p k) (hk : k ≤ k') : SpE lv d i p k' := ⟨h.rn, h.fl, h.wf, h.dp, Nat.le_trans h.ln hk⟩
theorem SpE.un {d i k : Nat} {A : List Nd} {x : Ex} {a : Tok} (h : SpE 3 (d + 1) i (A, x) k) : SpE 3 d i (A ++ [ndU ((i + A.length : Nat) - 1) a], .un (ndU ((i + A.length : Nat) - 1) a) x) (k + 9) := by
  have hr : rk (Ex.un (ndU ((i + A.length : Nat) - 1) a) x).top = 3 := rk_un rfl
  have h1 := h.dp
  have h2 := h.ln
  have hl := fl_length h.fl
  refine ⟨h.rn.un okNU rfl rfl, ?_, ⟨rfl, h.wf⟩, ?_, ?_⟩
  · have hf : A.map Nd.clr = x.fl i := h.fl
    show (A ++ [ndU ((i + A.length : Nat) - 1) a]).map Nd.clr = _
    rw [List.map_append, hf, hl]
    rfl
  · have e : pdp ((3 : Nat) : Int) (Ex.un (ndU ((i + A.length : Nat) - 1) a) x) = pdp ((3 : Nat) : Int) x + 1 := by
      unfold pdp
      rw [if_neg (by omega)]
      rfl
    simp only at h1 ⊢
    omega
  · have e : plen ((3 : Nat) : Int) (Ex.un (ndU ((i + A.length : Nat) - 1) a) x) = plen ((3 : Nat) : Int) x + 1 := by
      rw [plen_in (by omega)]
      show ([126] ++ par (decide (rk x.top < 3)) x.txt).length = _
      rw [List.length_append, List.length_singleton, Nat.add_comm]
      rfl
    simp only [Ex.size] at h2 ⊢
    omega
theorem SpE.paren {d i k : Nat} {p : List Nd × Ex} (h : SpE 1 (d + 1) i p k) : SpE 3 d i p (k + 2) := by
  have h1 := h.dp
  have h2 := h.ln
  have h3 := pdp_le ((1 : Nat) : Int) p.2
  have h4 := pdp_le ((3 : Nat) : Int) p.2
  have h5 := plen_le ((1 : Nat) : Int) p.2
  have h6 := plen_le ((3 : Nat) : Int) p.2
  exact ⟨h.rn, h.fl, h.wf, by omega, by omega⟩
theorem SpE.bi {lv d i k k' : Nat} {A B : List Nd} {x y : Ex} {a : Tok} (hlv : lv = 1 ∨ lv = 2) (ho : cop lv a ≠ 0) (h : SpE lv d i (A, x) k) (h' : SpE (lv + 1) d (i + A.length) (B, y) k') :
    SpE lv d i (A ++ B ++ [ndB (cop lv a) ((i + A.length : Nat) - 1) ((i + A.length + B.length : Nat) - 1) a], .bi (ndB (cop lv a) ((i + A.length : Nat) - 1) ((i + A.length + B.length : Nat) - 1) a) x y) (k + k' + 9) := by
  obtain ⟨-, g1, g2⟩ := gop_ne (lv := lv) (a := a) (r := []) ho
  change lv = 1 → (cop lv a = 1 ∨ cop lv a = 3 ∨ cop lv a = 4) at g1
  change lv ≠ 1 → cop lv a = 2 at g2
  have hop : (lv = 1 ∧ (cop lv a = 1 ∨ cop lv a = 3 ∨ cop lv a = 4)) ∨ (lv = 2 ∧ cop lv a = 2) := by
    rcases hlv with rfl | rfl
    · exact .inl ⟨rfl, g1 rfl⟩
    · exact .inr ⟨rfl, g2 (by decide)⟩
  generalize cop lv a = op at *
  have ho14 : 1 ≤ op ∧ op ≤ 4 := by omega
  have hrn : ∀ u v, rk (ndB op u v a) = (lv : Int) := fun u v => by
    rw [rk_B]
    rcases hop with ⟨rfl, hq⟩ | ⟨rfl, hq⟩
    · rw [if_neg (by omega)]; rfl
    · rw [if_pos hq]; rfl
  have h1 := h.dp
  have h2 := h.ln
  have h3 := h'.dp
  have h4 := h'.ln
  have hA := fl_length h.fl
  have hB := fl_length h'.fl
  have hn := hrn ((i + A.length : Nat) - 1) ((i + A.length + B.length : Nat) - 1)
  have htop : rk (Ex.bi (ndB op ((i + A.length : Nat) - 1) ((i + A.length + B.length : Nat) - 1) a) x y).top = (lv : Int) := hn
  refine ⟨h.rn.bi h'.rn (okNB ho14.1 ho14.2) rfl rfl rfl, ?_, ⟨rfl, ho14, h.wf, h'.wf⟩, ?_, ?_⟩
  · have f1 : A.map Nd.clr = x.fl i := h.fl
    have f2 : B.map Nd.clr = y.fl (i + A.length) := h'.fl
    show (A ++ B ++ [ndB op ((i + A.length : Nat) - 1) ((i + A.length + B.length : Nat) - 1) a]).map Nd.clr = _
    rw [List.map_append, List.map_append, f1, f2, hA, hB]
    rfl
  · have e : pdp lv (Ex.bi (ndB op ((i + A.length : Nat) - 1) ((i + A.length + B.length : Nat) - 1) a) x y) = max (pdp lv x) (pdp (lv + 1 : Nat) y) := by
      show (if rk (Ex.bi (ndB op ((i + A.length : Nat) - 1) ((i + A.length + B.length : Nat) - 1) a) x y).top < (lv : Int) then _ else _) = _
      rw [if_neg (by omega)]
      show max (if rk x.top < rk (ndB op ((i + A.length : Nat) - 1) ((i + A.length + B.length : Nat) - 1) a) then x.dep + 1 else x.dep) (if rk y.top < rk (ndB op ((i + A.length : Nat) - 1) ((i + A.length + B.length : Nat) - 1) a) + 1 then y.dep + 1 else y.dep) = _
      rw [hn]
      rfl
    simp only at h1 h3 ⊢
    omega
  · have e : plen lv (Ex.bi (ndB op ((i + A.length : Nat) - 1) ((i + A.length + B.length : Nat) - 1) a) x y) = plen lv x + 3 + plen (lv + 1 : Nat) y := by
      rw [plen_in (by omega)]
      show (par (decide (rk x.top < rk (ndB op ((i + A.length : Nat) - 1) ((i + A.length + B.length : Nat) - 1) a))) x.txt ++ sgn op ++ par (decide (rk y.top < rk (ndB op ((i + A.length : Nat) - 1) ((i + A.length + B.length : Nat) - 1) a) + 1)) y.txt).length = _
      rw [hn, List.length_append, List.length_append, sgn_len]
      rfl
    simp only [Ex.size] at h2 h4 ⊢
    omega
theorem Gd.gx : ∀ (f lv d i k0 : Nat) (acc : Option (List Nd × Ex)), (1 ≤ lv ∧ lv ≤ 3) → AcB lv d i k0 acc → Gd (gxR f lv d i acc) (fun p k => SpE lv d i p (k0 + k)) := by
  intro f
  induction f with
  | zero => intro lv d i k0 acc _ _; rw [gxR_0]; exact .fail _ _
  | succ f ih =>
    intro lv d i k0 acc hlv hacc
    cases acc with
    | none =>
      obtain ⟨rfl, hd⟩ := hacc
      by_cases l3 : lv = 3
      · subst l3
        have hleaf : Gd rleafs (fun p k => SpE 3 d i p (0 + k)) := (Gd.leafs d i hd).imp fun p k _ h => by rw [Nat.zero_add]; exact h
        rw [gxR_3]
        split
        · exact Gd.rif (.fail _ _) (Gd.rif (.fail _ _) hleaf)
        · next hd2 =>
          refine Gd.tk (cis_0 _) (fun a ha _ => (ih 3 (d + 1) i 0 none (by decide) ⟨rfl, by omega⟩).bind fun p k1 hp => Gd.ret ?_) (Gd.tk (cis_0 _) (fun a ha _ => (ih 1 (d + 1) i 0 none (by decide) ⟨rfl, by omega⟩).bind fun p k1 hp => Gd.tk (cis_0 _) (fun b hb _ => Gd.ret ?_) (.fail _ _)) hleaf)
          · rw [cis_t ha]
            exact (SpE.un hp).k (by simp only [List.length_singleton]; omega)
          · rw [cis_t ha, cis_t hb]
            exact (SpE.paren hp).k (by simp only [List.length_singleton]; omega)
      · rw [gxR_lv l3]
        refine (ih (lv + 1) d i 0 none (by omega) ⟨rfl, hd⟩).bind fun p k1 hp => (ih lv d i k1 (some p) hlv ⟨l3, (SpE.up hp).k (by omega)⟩).imp fun y k2 _ h => h.k (by omega)
    | some p =>
      obtain ⟨l3, hp⟩ := hacc
      rw [gxR_some]
      refine Gd.tk (cop_0 lv) (fun a ha _ => (ih (lv + 1) d (i + p.1.length) 0 none (by omega) ⟨rfl, by have := hp.dp; omega⟩).bind fun q k1 hq => ?_) (Gd.ret hp)
      have hc : cop lv a ≠ 0 := fun e => by
        rw [decide_eq_true e] at ha; cases ha
      have hb := SpE.bi (by omega) hc (A := p.1) (x := p.2) (B := q.1) (y := q.2) hp hq
      have ht : 1 ≤ a.t.length := by
        have : a.t = [43] ∨ a.t = [45] ∨ a.t = [94] ∨ a.t = [42] := by
          unfold cop at hc
          by_cases h1 : cis [43] a = true
          · exact .inl (cis_t h1)
          by_cases h2 : cis [45] a = true
          · exact .inr (.inl (cis_t h2))
          by_cases h3 : cis [94] a = true
          · exact .inr (.inr (.inl (cis_t h3)))
          by_cases h4 : cis [42] a = true
          · exact .inr (.inr (.inr (cis_t h4)))
          rw [if_neg h1, if_neg h2, if_neg h3, if_neg h4] at hc
          simp at hc
        rcases this with h | h | h | h <;> rw [h] <;> decide
      exact (ih lv d i _ (some _) hlv ⟨l3, hb⟩).imp fun y k2 _ h => h.k (by omega)
theorem Gd.exp : Gd rexp (fun A k => ExB A ∧ (exT A).txt.length + 1 ≤ k) := by
  refine Gd.imp (Φ := fun A k => k ≤ 50000 → ExB A ∧ (exT A).txt.length + 1 ≤ k) ?_ (fun A k hk h => h hk)
  refine (Gd.gx gF 1 0 0 0 none (by decide) ⟨rfl, by decide⟩).bind fun p k1 hp => Gd.ret fun hk => ?_
  have h1 := hp.dp
  have h2 := hp.ln
  have e1 : pdp ((1 : Nat) : Int) p.2 = p.2.dep := pdp_1 _
  have e2 := plen_le ((1 : Nat) : Int) p.2
  have e3 := p.2.size_pos
  refine ⟨⟨p.2, hp.rn, hp.fl, hp.wf, by omega, by omega⟩, ?_⟩
  rw [exT_of hp.rn]
  omega
theorem Gd.budget : Gd rbudget (fun n k => n ≤ 65536 ∧ (dec n).length + 8 ≤ k) :=
  (Gd.numC _ _ _).imp fun n k _ h => by
    obtain ⟨w, hw, hb, rfl, hk⟩ := h
    have h1 := dec_tok hw (.inl (Nat.le_refl _))
    have h2 := of_decide_eq_false hb
    exact ⟨by omega, by omega⟩
theorem Gd.fill : Gd rfill (fun n k => (n = 1 ∨ n = 2) ∧ (fw n).length + 8 ≤ k) :=
  Gd.tk (cis_0 _) (fun a ha _ => Gd.ret ⟨.inl rfl, by rw [cis_t ha]; decide⟩) ((Gd.expect _).bind fun _ k1 h1 => Gd.ret ⟨.inr rfl, by rw [show (fw 2).length = 7 from rfl]; simp only [List.length_cons, List.length_nil] at h1; omega⟩)
theorem txNs_cons (w : List UInt8) (l : List (List UInt8)) : (txNs (w :: l)).length = 1 + w.length + (txNs l).length := by
  unfold txNs
  simp only [List.map_cons, List.flatten_cons, List.length_append, List.length_cons]
  omega
theorem Gd.names : ∀ f, Gd (rnames f) (fun l k => (∀ w ∈ l, nmOk w = true) ∧ (txNs l).length ≤ k ∧ l.length ≤ k)
  | 0 => Gd.ret ⟨fun _ h => (by cases h), Nat.le_refl _, Nat.le_refl _⟩
  | f + 1 => Gd.tk cnm_0 (fun a ha hb => (Gd.names f).bind fun l k1 h1 => Gd.ret (by
      obtain ⟨g1, g2⟩ := (cnm_iff a).1 ha
      obtain ⟨g3, g4, g5⟩ := h1
      refine ⟨fun w hw => ?_, ?_, ?_⟩
      · rcases List.mem_cons.1 hw with rfl | hw
        · exact wd_nmOk (hb.wd g1) g2
        · exact g3 w hw
      · rw [txNs_cons]; omega
      · simp only [List.length_cons]; omega)) (Gd.ret ⟨fun _ h => (by cases h), by rw [show (txNs []).length = 0 from rfl]; omega, by simp⟩)
def OlP (o : Otl) : Prop := (∀ r ∈ o.rs, PsB r) ∧ (∀ c ∈ o.cs, PtB c.a ∧ PtB c.b ∧ PsB c.m)
def oln (o : Otl) : Nat := (txRs o.rs).length + (txCs o.cs).length
theorem txRs_snoc (rs : List (List (Rat × Rat))) (r : List (Rat × Rat)) : (txRs (rs ++ [r])).length = (txRs rs).length + ((txPs r).length + 6) := by
  unfold txRs
  simp only [List.map_append, List.flatten_append, List.map_cons, List.map_nil, List.flatten_cons, List.flatten_nil, List.length_append, List.length_cons, List.length_nil]
  omega
theorem txCs_snoc (cs : List Chn) (c : Chn) : (txCs (cs ++ [c])).length = (txCs cs).length + ((txP c.a).length + (txPs c.m).length + (txP c.b).length + 9) := by
  unfold txCs
  simp only [List.map_append, List.flatten_append, List.map_cons, List.map_nil, List.flatten_cons, List.flatten_nil, List.length_append, List.length_cons, List.length_nil]
  omega
theorem txPs_snoc (l : List (Rat × Rat)) (x : Rat × Rat) : (txPs (l ++ [x])).length = (txPs l).length + (1 + (txP x).length) := by
  unfold txPs
  simp only [List.map_append, List.flatten_append, List.map_cons, List.map_nil, List.flatten_cons, List.flatten_nil, List.length_append, List.length_cons, List.length_nil]
  omega
theorem pts_split' {ps : List (Rat × Rat)} (h : 2 ≤ ps.length) : ∃ l x, ps = l ++ [x] ∧ l ≠ [] ∧ ps.getLast?.getD (0, 0) = x ∧ ps.dropLast = l := by
  rcases List.eq_nil_or_concat ps with rfl | ⟨l, x, rfl⟩
  · simp at h
  · rw [List.concat_eq_append] at *
    refine ⟨l, x, rfl, fun e => by rw [e] at h; simp at h, ?_, List.dropLast_concat⟩
    rw [List.getLast?_concat]; rfl
theorem Gd.ol : ∀ (f : Nat) (o : Otl) (k0 : Nat), OlP o → oln o ≤ k0 → o.rs.length + o.cs.length ≤ k0 → Gd (rol f o) (fun o' k => o'.far = o.far ∧ OlP o' ∧ oln o' ≤ k0 + k ∧ o'.rs.length + o'.cs.length ≤ k0 + k)
  | 0, _, _, _, _, _ => .fail _ _
  | f + 1, o, k0, ho, hl, hn => by
    refine Gd.tk (cis_0 _) (fun a ha _ => Gd.ret ⟨rfl, ho, by omega, by omega⟩) (Gd.tk (cis_0 _) (fun a ha _ => (Gd.pts gF).bind fun ps k1 h1 => (Gd.expect _).bind fun _ k2 h2 => ?_)
      (Gd.tk (cis_0 _) (fun a ha _ => Gd.pt.bind fun p k1 h1 => (Gd.pts gF).bind fun ps k2 h2 => ?_) (.fail _ _)))
    · have e1 := txRs_snoc o.rs ps
      have e2 := h1.2
      have ht := congrArg List.length (cis_t ha)
      simp only [List.length_cons, List.length_nil] at ht h2
      unfold oln at hl
      refine (Gd.ol f { o with rs := o.rs ++ [ps] } (k0 + (a.t.length + 8 + (k1 + k2))) ⟨fun r hr => ?_, ho.2⟩ ?_ ?_).imp fun o' k _ h => ⟨h.1, h.2.1, by have := h.2.2.1; omega, by have := h.2.2.2; omega⟩
      · rcases List.mem_append.1 hr with hr | hr
        · exact ho.1 r hr
        · rw [List.mem_singleton] at hr; subst hr; exact h1.1
      · unfold oln
        simp only
        omega
      · simp only [List.length_append, List.length_singleton]
        omega
    · by_cases h2l : ps.length < 2
      · rw [if_pos h2l]; exact .fail _ _
      rw [if_neg h2l]
      refine (Gd.expect _).bind fun _ k3 h3 => ?_
      obtain ⟨l, x, rfl, hne, e3, e4⟩ := pts_split' (ps := ps) (by omega)
      rw [e3, e4]
      have e1 := txCs_snoc o.cs ⟨p, x, l⟩
      have e5 := txPs_snoc l x
      have e2 := h1.2
      have e6 := h2.2
      have hps := h2.1
      have ht := congrArg List.length (cis_t ha)
      simp only [List.length_cons, List.length_nil] at ht h3
      simp only at e1
      unfold oln at hl
      have hx : PtB x := hps.2.2 x (by simp)
      have hlB : PsB l := ⟨hne, by have := hps.2.1; simp only [List.length_append, List.length_singleton] at this; omega, fun q hq => hps.2.2 q (List.mem_append_left _ hq)⟩
      refine (Gd.ol f { o with cs := o.cs ++ [⟨p, x, l⟩] } (k0 + (a.t.length + 8 + (k1 + (k2 + k3)))) ⟨ho.1, fun c hc => ?_⟩ ?_ ?_).imp fun o' k _ h => ⟨h.1, h.2.1, by have := h.2.2.1; omega, by have := h.2.2.2; omega⟩
      · rcases List.mem_append.1 hc with hc | hc
        · exact ho.2 c hc
        · rw [List.mem_singleton] at hc; subst hc; exact ⟨h1.1, hx, hlB⟩
      · unfold oln
        simp only
        omega
      · simp only [List.length_append, List.length_singleton]
        omega
theorem Gd.outl : Gd routl (fun o k => OlB o ∧ (txOl o).length + 2 ≤ k) := by
  refine Gd.imp (Φ := fun o k => k ≤ 50000 → OlB o ∧ (txOl o).length + 2 ≤ k) ?_ (fun o k hk h => h hk)
  refine (Gd.expect _).bind fun _ k1 h1 => Gd.tk (cis_0 _) (fun a ha _ => (Gd.ol gF ⟨true, [], []⟩ 0 ⟨fun _ h => (by cases h), fun _ h => (by cases h)⟩ (by decide) (by decide)).imp fun o k _ h hk => ?_)
    ((Gd.ol gF ⟨false, [], []⟩ 0 ⟨fun _ h => (by cases h), fun _ h => (by cases h)⟩ (by decide) (by decide)).imp fun o k _ h hk => ?_)
  · obtain ⟨g1, g2, g3, g4⟩ := h
    have g1' : o.far = true := g1
    have ht := congrArg List.length (cis_t ha)
    simp only [List.length_cons, List.length_nil] at ht h1
    refine ⟨⟨⟨by omega, g2.1⟩, by omega, g2.2⟩, ?_⟩
    unfold oln at g3
    unfold txOl
    rw [g1']
    simp only [if_true, List.length_cons, List.length_append, List.length_nil]
    omega
  · obtain ⟨g1, g2, g3, g4⟩ := h
    have g1' : o.far = false := g1
    simp only [List.length_cons, List.length_nil] at h1
    refine ⟨⟨⟨by omega, g2.1⟩, by omega, g2.2⟩, ?_⟩
    unfold oln at g3
    unfold txOl
    rw [g1']
    simp only [Bool.false_eq_true, if_false, List.length_cons, List.length_append, List.length_nil]
    omega
def bln (s : Stm) : Nat := (if 2 ≤ s.k ∧ s.k ≤ 5 then s.nm.length + 2 else 0) + (txB s).length
def BdB (k : Nat) (s : Stm) (n : Nat) : Prop := StB s ∧ s.k = k ∧ bln s ≤ n
theorem Gd.query (k : Nat) (a : Tok) (h6 : 6 ≤ k) (h15 : k ≤ 15) : Gd (rquery (stm0 k a)) (BdB k) := by
  unfold rquery
  refine Gd.exp.bind fun A k1 hA => ?_
  by_cases h8 : (stm0 k a).k = 8
  · rw [if_pos h8]
    have h8' : k = 8 := h8
    subst h8'
    refine Gd.pt.bind fun p k2 hp => Gd.ret ⟨StB.cls a A p hA.1 hp.1, rfl, ?_⟩
    obtain ⟨p1, p2⟩ := p
    show 0 + ((exT A).txt ++ (32 :: txP ((RQ.of p1).v, (RQ.of p2).v))).length ≤ _
    rw [RQ.of_v, RQ.of_v, List.length_append, List.length_cons]
    have h1 := hA.2
    have h2 := hp.2
    omega
  rw [if_neg h8]
  have h8' : ¬ k = 8 := h8
  by_cases h10 : (stm0 k a).k = 10 ∨ (stm0 k a).k = 11
  · rw [if_pos h10]
    have h10' : k = 10 ∨ k = 11 := h10
    refine (Gd.expect _).bind fun _ k2 h2 => Gd.exp.bind fun B k3 hB => Gd.ret ⟨StB.two a k A B h10' hA.1 hB.1, rfl, ?_⟩
    have e : bln { stm0 k a with e1 := A, e2 := B } = 0 + ((exT A).txt ++ ([44, 32] ++ (exT B).txt)).length := by
      rcases h10' with rfl | rfl <;> rfl
    rw [e, List.length_append, List.length_append]
    have h1 := hA.2
    have h3 := hB.2
    simp only [List.length_cons, List.length_nil] at h2 ⊢
    omega
  rw [if_neg h10]
  have h10' : ¬ (k = 10 ∨ k = 11) := h10
  have hk : k = 6 ∨ k = 7 ∨ k = 9 ∨ k = 12 ∨ k = 13 ∨ k = 14 ∨ k = 15 := by omega
  refine Gd.ret ⟨StB.qry a k A hk hA.1, rfl, ?_⟩
  have e : bln { stm0 k a with e1 := A } = 0 + (exT A).txt.length := by
    rcases hk with rfl | rfl | rfl | rfl | rfl | rfl | rfl <;> rfl
  rw [e]
  have h1 := hA.2
  omega
theorem Gd.defn (k : Nat) (a : Tok) (h2 : 2 ≤ k) (h5 : k ≤ 5) : Gd (rdefn (stm0 k a)) (BdB k) := by
  unfold rdefn
  refine Gd.name.bind fun nm k1 hn => (Gd.expect _).bind fun _ k2 he => ?_
  have hn2 := hn.2
  simp only [List.length_cons, List.length_nil] at he
  by_cases c2 : (stm0 k a).k = 2
  · rw [if_pos c2]
    have c2' : k = 2 := c2
    subst c2'
    refine (Gd.pts gF).bind fun ps k3 hp => Gd.ret ⟨StB.ring a nm ps hn.1 hp.1, rfl, ?_⟩
    show (nm.length + 2) + (txPs ps).length ≤ _
    have := hp.2
    omega
  rw [if_neg c2]
  have c2' : ¬ k = 2 := c2
  by_cases c3 : (stm0 k a).k = 3
  · rw [if_pos c3]
    have c3' : k = 3 := c3
    subst c3'
    refine Gd.imp (Φ := fun s n => n ≤ 50000 → BdB 3 s (k1 + (k2 + n))) ?_ (fun o k hk h => h hk)
    refine Gd.fill.bind fun fl k3 hf => Gd.name.bind fun n1 k4 h4 => (Gd.names gF).bind fun l k5 h5 => Gd.ret fun hk => ⟨StB.reg a nm fl n1 l hn.1 hf.1 h4.1 h5.1 (by have := h5.2.2; omega), rfl, ?_⟩
    show (nm.length + 2) + (32 :: fw fl ++ txNs (n1 :: l)).length ≤ _
    rw [List.length_append, List.length_cons, txNs_cons]
    have g1 := hf.2
    have g2 := h4.2
    have g3 := h5.2.1
    omega
  rw [if_neg c3]
  have c3' : ¬ k = 3 := c3
  by_cases c4 : (stm0 k a).k = 4
  · rw [if_pos c4]
    have c4' : k = 4 := c4
    subst c4'
    refine Gd.outl.bind fun o k3 ho => Gd.ret ⟨StB.outl a nm o hn.1 ho.1, rfl, ?_⟩
    show (nm.length + 2) + (32 :: txOl o).length ≤ _
    rw [List.length_cons]
    have := ho.2
    omega
  rw [if_neg c4]
  have c4' : ¬ k = 4 := c4
  obtain rfl : k = 5 := by omega
  refine Gd.exp.bind fun A k3 hA => Gd.ret ⟨StB.lt a nm A hn.1 hA.1, rfl, ?_⟩
  show (nm.length + 2) + (32 :: (exT A).txt).length ≤ _
  rw [List.length_cons]
  have := hA.2
  omega
theorem kw_gk {t : List UInt8} (h : gkind t ≠ 0) : kw (gkind t) = t ∧ (gkQ t ≠ 0 → 6 ≤ gkind t ∧ gkind t ≤ 15) ∧ (gkQ t = 0 → 1 ≤ gkind t ∧ gkind t ≤ 5) := by
  by_cases e1 : t = [98, 117, 100, 103, 101, 116]
  · subst e1; exact ⟨by decide, by decide, by decide⟩
  by_cases e2 : t = [114, 105, 110, 103]
  · subst e2; exact ⟨by decide, by decide, by decide⟩
  by_cases e3 : t = [114, 101, 103, 105, 111, 110]
  · subst e3; exact ⟨by decide, by decide, by decide⟩
  by_cases e4 : t = [111, 117, 116, 108, 105, 110, 101]
  · subst e4; exact ⟨by decide, by decide, by decide⟩
  by_cases e5 : t = [108, 101, 116]
  · subst e5; exact ⟨by decide, by decide, by decide⟩
  by_cases e6 : t = [97, 114, 101, 97]
  · subst e6; exact ⟨by decide, by decide, by decide⟩
  by_cases e7 : t = [99, 101, 110, 116, 114, 111, 105, 100]
  · subst e7; exact ⟨by decide, by decide, by decide⟩
  by_cases e8 : t = [99, 108, 97, 115, 115, 105, 102, 121]
  · subst e8; exact ⟨by decide, by decide, by decide⟩
  by_cases e9 : t = [101, 109, 112, 116, 121]
  · subst e9; exact ⟨by decide, by decide, by decide⟩
  by_cases e10 : t = [101, 113, 117, 97, 108]
  · subst e10; exact ⟨by decide, by decide, by decide⟩
  by_cases e11 : t = [115, 117, 98, 115, 101, 116]
  · subst e11; exact ⟨by decide, by decide, by decide⟩
  by_cases e12 : t = [99, 101, 108, 108, 115]
  · subst e12; exact ⟨by decide, by decide, by decide⟩
  by_cases e13 : t = [110, 111, 100, 101, 115]
  · subst e13; exact ⟨by decide, by decide, by decide⟩
  by_cases e14 : t = [112, 97, 114, 116, 115]
  · subst e14; exact ⟨by decide, by decide, by decide⟩
  by_cases e15 : t = [101, 120, 112, 111, 114, 116]
  · subst e15; exact ⟨by decide, by decide, by decide⟩
  exfalso
  have hQ : gkQ t = 0 := by
    unfold gkQ
    rw [if_neg e6, if_neg e7, if_neg e9, if_neg e12, if_neg e13, if_neg e14, if_neg e15, if_neg e8, if_neg e10, if_neg e11]
  have hD : gkD t = 0 := by
    unfold gkD
    rw [if_neg e1, if_neg e2, if_neg e3, if_neg e4, if_neg e5]
  apply h
  unfold gkind
  rw [if_pos hQ, hD]
theorem Gd.body {a : Tok} (h : cword a = true) : Gd (rbody a) (BdB (gkind a.t)) := by
  have h1 : gkind a.t ≠ 0 := fun e => (cword_iff a).1 h (.inl e)
  obtain ⟨-, h2, h3⟩ := kw_gk h1
  unfold rbody
  by_cases hq : gkQ a.t ≠ 0
  · rw [if_pos hq]
    exact Gd.query _ _ (h2 hq).1 (h2 hq).2
  · rw [if_neg hq]
    have h4 := h3 (Classical.byContradiction hq)
    by_cases hb : gkind a.t = 1
    · rw [if_pos hb, hb]
      refine Gd.budget.bind fun b k hk => Gd.ret ⟨StB.bd a b hk.1, rfl, ?_⟩
      show 0 + (dec b).length ≤ _
      have := hk.2
      omega
    · rw [if_neg hb]
      exact Gd.defn _ _ (by omega) h4.2
theorem txS_len (s : Stm) : (txS s).length = (kw s.k).length + 2 + bln s := by
  unfold txS bln
  simp only [List.length_append, List.length_singleton]
  split
  · simp only [List.length_append, List.length_cons, List.length_nil]; omega
  · simp only [List.length_nil]; omega
theorem Gd.stm (n : Nat) : Gd (rstm n) (fun s k => StB s ∧ (txS s).length + 1 ≤ k) := by
  unfold rstm
  split
  · exact Gd.rif (.fail _ _) (.fail _ _)
  · refine Gd.tk cword_0 (fun a ha _ => (Gd.body ha).bind fun s k1 hs => ?_) (.fail _ _)
    unfold rsemi
    refine Gd.tk (cis_0 _) (fun b hb _ => Gd.ret ⟨hs.1, ?_⟩) (.fail _ _)
    have hk : kw s.k = a.t := by
      rw [hs.2.1]
      exact (kw_gk fun e => (cword_iff a).1 ha (.inl e)).1
    have := hs.2.2
    rw [txS_len, hk, cis_t hb]
    simp only [List.length_singleton]
    omega
theorem txSc_cons (s : Stm) (ss : List Stm) : (txSc (s :: ss)).length = (txS s).length + 1 + (txSc ss).length := by
  unfold txSc
  simp only [List.map_cons, List.flatten_cons, List.length_append, List.length_singleton]
theorem stms_good : ∀ (f n : Nat) (ts : List Tok) (ss : List Stm), Gt ts → n ≤ 1000 → gstmsF f n ts = .ok ss → (∀ s ∈ ss, StB s) ∧ n + ss.length ≤ 1000 ∧ (txSc ss).length ≤ tkW ts := by
  intro f
  induction f with
  | zero => intro n ts ss _ _ h; cases h
  | succ f ih =>
    intro n ts ss hG hn h
    rw [stms_succ] at h
    split at h
    · cases h
      exact ⟨fun s hs => (by cases hs), by simpa using hn, Nat.zero_le _⟩
    · cases hs : rstm n ts with
      | error e => rw [hs] at h; cases h
      | ok q =>
        obtain ⟨s, t1⟩ := q
        rw [hs] at h
        simp only at h
        cases hr : gstmsF f (n + 1) t1 with
        | error e => rw [hr] at h; cases h
        | ok ss' =>
          rw [hr] at h
          cases h
          obtain ⟨g1, k, g2, g3, g4⟩ := Gd.stm n ts s t1 hG hs
          have g5 := (stm_len hs).2.1
          obtain ⟨g6, g7, g8⟩ := ih (n + 1) t1 ss' g1 (by omega) hr
          refine ⟨fun q hq => ?_, by simp only [List.length_cons]; omega, ?_⟩
          · rcases List.mem_cons.1 hq with rfl | hq
            · exact g3
            · exact g6 q hq
          · rw [txSc_cons]; omega
theorem gnx_tkb {l : List UInt8} {ln cl : Nat} {t : Tok} {n : Nat} (h : gnx l ln cl = .ok (t, n)) : t.t.length ≤ n ∧ n ≤ l.length ∧ (t.k ≠ 0 → 0 < n) ∧ (t.k = 1 → Wd t.t) ∧ (t.k = 2 → allD t.t ∧ t.t ≠ []) := by
  have hb := gnx_bd h
  have ht := congrArg List.length (gnx_tok h).1
  have hg := (gnx_gok h).1
  rw [List.length_append, List.length_take, List.length_take] at ht
  refine ⟨by omega, hb.1, fun h0 => by have := hb.2.1 h0; omega, fun h1 => ?_, fun h2 => ?_⟩
  · unfold gnx at h
    generalize gsk false l ln cl = q at *
    obtain ⟨q, lq, cq⟩ := q
    simp only at h
    cases hr : l.drop q with
    | nil =>
      rw [hr] at h
      simp only [Except.ok.injEq, Prod.mk.injEq] at h
      obtain ⟨rfl, rfl⟩ := h
      cases h1
    | cons b r =>
      rw [hr] at h
      simp only at h
      by_cases h3 : clsN b.toNat = 3
      · rw [if_pos h3] at h
        split at h
        · cases h
        · next hle =>
          simp only [Except.ok.injEq, Prod.mk.injEq] at h
          obtain ⟨rfl, rfl⟩ := h
          have hall := grun_all (p := isLD) (b :: r)
          have hlen := grun_le isLD (b :: r)
          rw [grun_t (show isLD (clsN b.toNat) = true by rw [h3]; rfl)] at hall hle hlen ⊢
          exact ⟨b, r.take (grun isLD r), by rw [List.take_succ_cons], h3, hall, by simp only [List.length_take]; omega⟩
      rw [if_neg h3] at h
      by_cases h4 : clsN b.toNat = 4
      · rw [if_pos h4] at h
        split at h
        · cases h
        · simp only [Except.ok.injEq, Prod.mk.injEq] at h
          obtain ⟨rfl, rfl⟩ := h
          cases h1
      rw [if_neg h4] at h
      split at h
      · simp only [Except.ok.injEq, Prod.mk.injEq] at h
        obtain ⟨rfl, rfl⟩ := h
        cases h1
      · cases h
  · rcases hg with ⟨h0, -⟩ | h0 | ⟨h0, h3, h4, -⟩ | h0
    · omega
    · omega
    · exact ⟨h3, h4⟩
    · omega
theorem glexF_tkb : ∀ (f : Nat) (l : List UInt8) (ln cl : Nat) (ts : List Tok), l.length ≤ 1000 → glexF f l ln cl = .ok ts → (∀ a ∈ ts, TkB a) ∧ tkW ts ≤ 9 * l.length + 8 := by
  intro f
  induction f with
  | zero => intro l ln cl ts _ h; cases h
  | succ f ih =>
    intro l ln cl ts hl h
    rw [glexF_succ] at h
    cases hn : gnx l ln cl with
    | error e => rw [hn] at h; cases h
    | ok q =>
      obtain ⟨t, n⟩ := q
      rw [hn] at h
      simp only at h
      obtain ⟨g1, g2, g3, g4, g5⟩ := gnx_tkb hn
      have ht : TkB t := ⟨by omega, g4, g5⟩
      split at h
      · next h0 =>
        cases h
        have h00 := (gnx_gok hn).2 h0
        refine ⟨fun a ha => ?_, ?_⟩
        · rw [List.mem_singleton] at ha; subst ha; exact ht
        · simp only [tkW]
          rw [h00, List.length_nil]
          omega
      · next h0 =>
        split at h
        · cases h
        · next ts2 hr =>
          cases h
          obtain ⟨k1, k2⟩ := ih _ _ _ _ (by rw [List.length_drop]; omega) hr
          rw [List.length_drop] at k2
          have := g3 h0
          refine ⟨fun a ha => ?_, ?_⟩
          · rcases List.mem_cons.1 ha with rfl | ha
            · exact ht
            · exact k1 a ha
          · simp only [tkW]
            omega
theorem script_good {l : List UInt8} (hl : l.length ≤ 1000) {ss : List Stm} (h : gscript l = .ok ss) : (∀ s ∈ ss, StB s) ∧ ss.length ≤ 1000 ∧ (txSc ss).length ≤ 9008 := by
  unfold gscript at h
  cases hx : glex l with
  | error e => rw [hx] at h; cases h
  | ok ts =>
    rw [hx] at h
    obtain ⟨g1, g2⟩ := glexF_tkb _ _ _ _ _ hl hx
    obtain ⟨h1, h2, h3⟩ := stms_good gF 0 ts ss ⟨(glex_ok hx).1, g1, by omega⟩ (by decide) h
    exact ⟨h1, by omega, by omega⟩
theorem ov_sliceData0 {P : Program} {F : Fr} {H : LH} {ty : TypeId} {x : Operand} {k c : Nat} {ts : Array TypeId} (hx : ev F x = lit (.slice none k c)) : OpV P (.call ⟨.builtin .unsafeSliceData, #[x], ts⟩) ty F H (lit (.pointer none)) :=
  OpV.pure fun m w o a ho _ _ _ h => by
    have h0 := h x (by simp [Op.operands, Call.operands]); rw [hx, lit_p] at h0
    have hrun := Lib.run_unsafeSliceData_nil (P := P) (w := w) ts o.type k c
    exact ⟨_, by simp [execOp, ho, resolve, invoke, builtin, h0, hrun], lit_p.2 rfl⟩
theorem ov_unsafeStr0 {P : Program} {F : Fr} {H : LH} {ty : TypeId} {x y : Operand} {t1 t2 : TypeId} (hx : ev F x = lit (.pointer none)) (hy : ev F y = lit (.int .i64 0)) : OpV P (.call ⟨.builtin .unsafeString, #[x, y], #[t1, t2]⟩) ty F H (str []) :=
  OpV.pure fun m w o a ho _ _ _ h => by
    have h0 := h x (by simp [Op.operands, Call.operands]); rw [hx, lit_p] at h0
    have h1 := h y (by simp [Op.operands, Call.operands]); rw [hy, lit_p] at h1
    have hrun := Lib.run_unsafeString_none (P := P) (w := w) t1 t2 o.type none
    exact ⟨.string .empty, by simp [execOp, ho, resolve, invoke, builtin, h0, h1, hrun], lit_p.2 rfl⟩
theorem bstring0_pu {w d : Nat} {H : LH} (h : Wtr w [] d H) : PuH Tryz.prog 110 [lit (.pointer (some ⟨w, 0, none⟩))] H (fun r H' => r = str []) noX := by
  obtain ⟨a, s, Hb, ha, hb, rfl⟩ := h
  rcases hb with ⟨_, rfl, rfl⟩ | ⟨hne, _⟩
  · refine PuH.intro Tryz.func110 rfl (by kernel_rfl) fun C hC => ?_
    repeat (first | (refine AS ⟨?_⟩; intros) | (refine O1 ⟨?_⟩; intros))
    refine WdN 10 ?_
    repeat (refine A1 ⟨?_⟩; intros)
    refine Wdo (ov_sliceData0 rfl) ?_
    repeat (refine A1 ⟨?_⟩; intros)
    simp only [List.drop_succ_cons, List.drop_zero]
    refine Wo (ov_unsafeStr0 rfl rfl) ?_
    repeat (refine A1 ⟨?_⟩; intros)
    exact endHR _ _ (end1 (RV.tmp rfl) (Le.refl _)) (List.nil_sublist _) rfl
  · exact absurd rfl hne
theorem txSc_take {ss : List Stm} {k : Nat} {s : Stm} (h : ss[k]? = some s) : txSc (ss.take (k + 1)) = txSc (ss.take k) ++ (txS s ++ [10]) := by
  unfold txSc
  rw [List.take_add_one, h, Option.toList_some, List.map_append, List.flatten_append]
  simp only [List.map_cons, List.map_nil, List.flatten_cons, List.flatten_nil, List.append_nil]
set_option maxHeartbeats 4000000 in
theorem wscript1_pu [PowTab] {w b : Nat} {H : LH} {ss : List Stm} (h : Wtr w [] 0 H) (hs : ∀ s ∈ ss, StB s) (hl : ss.length ≤ 1000) (ht : (txSc ss).length ≤ 60000) :
    PuH Tryz.prog 62 [lit (.pointer (some ⟨w, 0, none⟩)), lit (.pointer (some ⟨b, 0, none⟩))] ((b, 23, [stsS ss]) :: H) (fun r H' => r = Ab.tup [] ∧ Wtr w (txSc ss) 0 H') noX := by
  refine PuH.intro Tryz.func62 rfl (by kernel_rfl) fun C hC => ?_
  repeat (refine A1 ⟨?_⟩; intros)
  refine WneedT ?_
  repeat (refine A1 ⟨?_⟩; intros)
  refine WP.loopS (ι := Nat × LH) (fun z => z.1 ≤ ss.length ∧ Wtr w (txSc (ss.take z.1)) 0 z.2) (fun z => ss.length - z.1)
    (fun z => (fm [(0, lit (.pointer (some ⟨w, 0, none⟩))), (9, stsS ss), (10, lit (.int .i64 ss.length)), (11, lit (.int .i64 z.1))])) (fun z => z.2) (0, H)
    ⟨Nat.zero_le _, by rw [List.take_zero]; exact h⟩ (by (repeat (first | exact LeF.nil _ | refine LeF.cons (Le.refl _) ?_ | refine LeF.cons (Le.int (by omega)) ?_))) (by repeat (first | exact List.Sublist.refl _ | refine List.Sublist.cons _ ?_)) ?_
  rintro ⟨k, Hx⟩ ⟨hk, hw⟩ K hK
  simp only at hk hw ⊢
  have hlk : (txSc (ss.take k)).length ≤ (txSc ss).length := flat_take_le _ ss k
  by_cases hkl : k < ss.length
  · have hget := List.getElem?_eq_getElem hkl
    generalize ss[k] = x at hget
    have hat := flat_at (f := stx) (n := 19) stx_len hget
    have hne : (ss.map stx).flatten ≠ [] := flat_ne stx_len (by omega) (fun e => by rw [e] at hkl; simp at hkl)
    have hx := hs x (List.mem_of_getElem? hget)
    have htk := txSc_take hget
    have hlk1 : (txSc (ss.take (k + 1))).length ≤ (txSc ss).length := flat_take_le _ ss (k + 1)
    rw [htk, List.length_append, List.length_append] at hlk1
    have hgo := fun F' H' H2 => hK F' H' (k + 1, H2)
    simp only at hgo
    clear hK hget hs h
    repeat (refine A1 ⟨?_⟩; intros)
    refine Wo (ov_idxS (cs' := stx x) rfl rfl (by omega) (by omega) hat hne) ?_
    repeat (refine A1 ⟨?_⟩; intros)
    refine WfH (stW_pu hw hx (by omega) (by omega)) ?_
    rintro _ Hg1 ⟨rfl, g1⟩
    refine WPL.perm List.perm_append_comm ?_
    simp only [List.cons_append, List.nil_append]
    repeat (refine A1 ⟨?_⟩; intros)
    refine WfH (putW_pu g1 [10] (by simp only [List.length_append, List.length_cons, List.length_nil]; omega)) ?_
    rintro _ Hg2 ⟨rfl, g2⟩
    refine WPL.perm List.perm_append_comm ?_
    simp only [List.cons_append, List.nil_append]
    repeat (refine A1 ⟨?_⟩; intros)
    refine hgo _ _ Hg2 ⟨by omega, ?_⟩ (by omega) (by (repeat (first | exact LeF.nil _ | refine LeF.cons (Le.refl _) ?_ | refine LeF.cons (Le.int (by omega)) ?_))) ?_
    · rw [htk]
      simp only [List.append_assoc] at g2 ⊢
      exact g2
    · repeat (first | exact List.Sublist.refl _ | exact List.sublist_append_left _ _ | refine List.Sublist.cons _ ?_)
  · obtain rfl : k = ss.length := by omega
    clear hK
    rw [List.take_length] at hw
    repeat (refine A1 ⟨?_⟩; intros)
    exact endHN _ Hx end0 (List.Sublist.refl _) ⟨rfl, hw⟩
theorem bstringA_pu {w d : Nat} {l : List UInt8} {H : LH} (h : Wtr w l d H) (hl : l.length ≤ 1000000000) : PuH Tryz.prog 110 [lit (.pointer (some ⟨w, 0, none⟩))] H (fun r H' => r = str l) noX := by
  by_cases hne : l = []
  · subst hne
    exact bstring0_pu h
  · exact bstring_pu h hne hl
theorem writeA_pu [Sent 2] {b : Nat} {T : TypeId} {cs : List SV} {g : FuncId} {good : Bool} {t : List UInt8} (hlen : t.length ≤ 65536)
    (hc : ∀ w, PuH Tryz.prog g [lit (.pointer (some ⟨w, 0, none⟩)), lit (.pointer (some ⟨b, 0, none⟩))] [(b, T, cs), (w, 201, wrC fresh (lit (.slice none 0 0)) 0 false)] (fun r H' => good = true ∧ r = Ab.tup [] ∧ Wtr w t 0 H') (fun pv _ => good = false ∧ pv = inval)) :
    PuH Tryz.prog 61 [fnv g [] [lit (.pointer (some ⟨b, 0, none⟩))]] [(b, T, cs)] (fun r _ => r = (if good = true then Ab.tup [str t, lit .nilIface] else Ab.tup [str [], lit (sent 2)])) noX := by
  refine PuH.introD Tryz.func61 rfl (by kernel_rfl) fun C hC0 hC1 => ?_
  refine WPT.seq hC0 ?_
  repeat (refine A1 ⟨?_⟩; intros)
  rename_i b2 b3
  refine onN.i ?_
  refine WPT.defer (cv := [.pointer (some ⟨b2, 0, none⟩), .pointer (some ⟨b3, 0, none⟩)]) (X1 := noX) rfl rfl fun C1 hC => ?_
  rw [hC1] at hC
  have hC2 : ∀ pv H, ¬ C1.pan pv H := fun pv H h => by rw [hC] at h; exact h
  refine WPT.seq hC2 ?_
  repeat (refine A1 ⟨?_⟩; intros)
  rename_i w
  refine onN.i ?_
  refine WPT.reg ?_
  refine WTL.val (op := .move _) Ov0 ?_ rfl
  refine WTL.val (op := .move _) Ov0 ?_ rfl
  refine WTL.call (s := fnv g [] [lit (.pointer (some ⟨b, 0, none⟩))]) (l := [.tmp 9]) rfl (hc w) (Tk.perm (Tk.cons (HDel.there _ (HDel.there _ (HDel.there _ (HDel.here _)))) (Tk.cons (HDel.here _) (Tk.nil _)))) rfl rfl ?_ ?_
  · rintro _ H' ⟨hg, rfl, a, s, Hb, ha, hb, rfl⟩
    refine WTL.nil ?_
    refine WPT.fin (Q := endH Tryz.prog Tryz.f61.results fun r _ => r = (if good = true then Ab.tup [str t, lit .nilIface] else Ab.tup [str [], lit (sent 2)])) ?_ (dfin ⟨_, hC⟩ (by kernel_rfl) hC2 fun w => catch_idle _ _ w)
    refine WP.perm List.perm_append_comm ?_
    simp only [List.cons_append, List.nil_append]
    repeat (refine A1 ⟨?_⟩; intros)
    refine WgE ?_
    refine WfH (len_pu ⟨a, s, Hb, ha, hb, rfl⟩) ?_
    rintro _ _ ⟨rfl, rfl⟩
    refine WPL.perm List.perm_append_comm ?_
    simp only [List.cons_append, List.nil_append]
    repeat (refine A1 ⟨?_⟩; intros)
    refine WfH (bstringA_pu ⟨a, s, Hb, ha, hb, rfl⟩ (by omega)) ?_
    rintro _ H2 rfl
    refine WPL.perm List.perm_append_comm ?_
    simp only [List.cons_append, List.nil_append]
    repeat (refine A1 ⟨?_⟩; intros)
    exact endHR _ _ (end2 (RV.cell1 (b := b2) rfl (List.mem_cons_of_mem _ List.mem_cons_self) rfl) (RV.cell1 (b := b3) rfl List.mem_cons_self rfl) (Le.refl _)) (List.nil_sublist _) (by rw [if_pos hg])
  · subst hC
    rintro v pv H' m' a' w' ⟨hg, rfl⟩ hdef hm' hH' hrel hown hpv hF
    refine dpan (g := 108) (cv := #[.pointer (some ⟨b2, 0, none⟩), .pointer (some ⟨b3, 0, none⟩)]) (by kernel_rfl) hdef ?_
    have hsub : ∀ e ∈ [(b3, 25, [lit (sent 2)]), (b2, 9, [str []])], e.1 ∈ C.ks ∨ C.w.heap.size ≤ e.1 := fun e he => by
      simp only [List.mem_cons, List.not_mem_nil, or_false] at he
      rcases he with rfl | rfl
      · exact hown (b3, 25, [lit .nilIface]) (List.mem_append_right _ (List.mem_cons_self))
      · exact hown (b2, 9, [lit (.string ⟨#[]⟩)]) (List.mem_append_right _ (List.mem_cons_of_mem _ (List.mem_cons_self)))
    refine (catch_rec hm' hpv hH'.tail).mono ?_
    rintro e u' w2 ⟨he, hu, m2, g1, g2, g3⟩
    refine ⟨he, hu, ?_⟩
    obtain ⟨v2, hv2, hp2⟩ := run_end (fn := Tryz.f61) (tmps := a'.tmps) (P := Tryz.prog) rfl (end2 (RV.cell1 (b := b2) rfl (List.mem_cons_of_mem _ List.mem_cons_self) rfl) (RV.cell1 (b := b3) rfl List.mem_cons_self rfl) (Le.refl _)) g1 g2 fun x => SV.mono _ g3.le (hF x)
    refine ⟨v2, hv2, m2, _, g1, g2, hrel.trans g3 fun x hx hk => ?_, hsub, v2, _, rfl, hp2, by rw [hg]; rfl⟩
    have : x ∈ C.ks ∨ C.w.heap.size ≤ x := by
      simp only [keys, List.map_cons, List.map_nil, List.mem_cons, List.not_mem_nil, or_false] at hk
      rcases hk with rfl | rfl
      · exact hsub _ List.mem_cons_self
      · exact hsub _ (List.mem_cons_of_mem _ List.mem_cons_self)
    rcases this with h | h
    · exact h
    · exact absurd hx (Nat.not_lt.2 h)
theorem wscript_pu [PowTab] [Sent 2] {ss : List Stm} (hs : ∀ s ∈ ss, StB s) (hl : ss.length ≤ 1000) (ht : (txSc ss).length ≤ 60000) : Pu Tryz.prog 37 [stsS ss] (Ab.tup [str (txSc ss), lit .nilIface]) := by
  have c := fun b => writeA_pu (b := b) (T := 23) (cs := [stsS ss]) (good := true) (t := txSc ss) (by omega)
    (fun w => (wscript1_pu (b := b) (wtr_new w) hs hl ht).mono (fun _ _ h => ⟨rfl, h.1, h.2⟩) fun pv _ h => h.elim)
  refine Pu.intro Tryz.func37 rfl (by kernel_rfl) fun C => ?_
  repeat (refine A1 ⟨?_⟩; intros)
  refine WfT (c _) ?_
  rintro _ H' rfl
  repeat (refine A1 ⟨?_⟩; intros)
  ((first | refine endR ?_ | refine endN ?_); exact end2 (RV.tmp rfl) (RV.tmp rfl) (Le.refl _))
theorem pscript_pu [PowTab] [Sent 2] {ss : List Stm} (hs : ∀ s ∈ ss, StB s) (hl : ss.length ≤ 1000) (ht : (txSc ss).length ≤ 60000) : Pu Tryz.prog 16 [stsS ss] (Ab.tup [str (txSc ss), lit .nilIface]) := by
  have c := wscript_pu hs hl ht
  refine Pu.intro Tryz.func16 rfl (by kernel_rfl) fun C => ?_
  repeat (first | (refine A1 ⟨?_⟩; intros) | (refine Wcx (c) ?_) | (refine Wdcx (c) ?_) | (refine Wcgx (c) ?_) | (refine Wdcgx (c) ?_))
  exact endR (end2 (RV.tmp rfl) (RV.tmp rfl) (Le.refl _))
end Go.Ab
