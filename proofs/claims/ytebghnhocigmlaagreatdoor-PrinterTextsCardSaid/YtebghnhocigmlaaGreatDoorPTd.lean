/- Package grammar: the writer writes statements that were read. -/
import Derived.Test.YtebghnhocigmlaaGreatDoorB29
namespace Go.Ab
open Go.Proofs
set_option linter.unusedSectionVars false
set_option linter.unusedVariables false
set_option linter.unusedSimpArgs false
variable [Base]
theorem nm_len {s : List UInt8} (hs : nmOk s = true) : s.length ≤ 24 := by
  obtain ⟨⟨b, r, -, -, -, h⟩, -⟩ := nmOk_wd hs
  exact h
theorem fw_len (k : Nat) : (fw k).length = 7 := by unfold fw; split <;> rfl
theorem txNs_take {ns : List (List UInt8)} {k : Nat} {x : List UInt8} (h : ns[k]? = some x) : txNs (ns.take (k + 1)) = txNs (ns.take k) ++ (32 :: x) := by
  unfold txNs
  rw [List.take_add_one, h, Option.toList_some, List.map_append, List.flatten_append]
  simp only [List.map_cons, List.map_nil, List.flatten_cons, List.flatten_nil, List.append_nil]
/-- the fills' words -/
abbrev fws : List SV := [str [], str [32, 101, 118, 101, 110, 111, 100, 100], str [32, 110, 111, 110, 122, 101, 114, 111]]
theorem all2_lits {m : Mem} : ∀ {vs l : List Value}, All2 m (vs.map lit) l → l = vs
  | [], [], _ => rfl
  | [], _ :: _, h => h.elim
  | _ :: _, [], h => h.elim
  | v :: vs, u :: l, h => by rw [lit_p.1 h.1.1, all2_lits h.2]
theorem ov_idxV {F : Fr} {H : LH} {ty T : TypeId} {x ix : Operand} {vs : List Value} {i : Int} {res : Value} (hx : ev F x = ag (vs.map lit)) (hi : ev F ix = lit (.int .i64 i)) (hrun : ∀ w, (Instr.index T (.agg vs.toArray) (.int .i64 i)).run Tryz.prog w = .ok res w) : OpV Tryz.prog (.index T x ix) ty F H (lit res) :=
  OpV.pure fun m w o a ho _ _ _ h => by
    have e0 := h x (by simp [Op.operands]); rw [hx] at e0
    have e1 := h ix (by simp [Op.operands]); rw [hi, lit_p] at e1
    unfold ag at e0
    obtain ⟨arr, e0, hall⟩ := e0
    have ha : arr = vs.toArray := by
      have := all2_lits hall
      rw [← this]
    subst ha
    exact ⟨res, by simp [execOp, ho, e0, e1, hrun], lit_p.2 rfl⟩
set_option maxHeartbeats 16000000 in
theorem stW_pu [PowTab] {w : Nat} {l : List UInt8} {H : LH} (h : Wtr w l 0 H) {s : Stm} (hs : StB s) (hl : l.length ≤ 1000000) (hl2 : (txS s).length ≤ 1000000) :
    PuH Tryz.prog 64 [lit (.pointer (some ⟨w, 0, none⟩)), ag (stx s)] H (fun r H' => r = Ab.tup [] ∧ Wtr w (l ++ txS s) 0 H') noX := by
  have ck := chk_pu hs
  cases hs with
  | bd a n hn =>
    have e : txS { stm0 1 a with bd := n } = kw 1 ++ [32] ++ [] ++ dec n ++ [59] := rfl
    have c2 := sitoa_pu n (by omega)
    have c1 := gword_pu 1 (by decide) (by decide)
    have hk8 : (kw 1).length ≤ 8 := by decide
    rw [e] at hl2 ⊢
    simp only [List.length_append, List.length_cons, List.length_nil] at hl2
    clear e
    dsimp only [stx, stm0] at ck ⊢
    refine PuH.intro Tryz.func64 rfl (by kernel_rfl) fun C hC => ?_
    repeat (refine A1 ⟨?_⟩; intros)
    rename_i b3
    refine WfH ck ?_
    rintro _ _ ⟨rfl, rfl⟩
    simp only [List.nil_append]
    repeat (first | (refine A1 ⟨?_⟩; intros) | (refine Wcx (c1) ?_) | (refine Wdcx (c1) ?_) | (refine Wcgx (c1) ?_) | (refine Wdcgx (c1) ?_))
    refine WfH (put2W_pu h (kw 1) [32] (by simp only [List.length_append, List.length_cons, List.length_nil]; omega)) ?_
    rintro _ Hg1 ⟨rfl, g1⟩
    refine WPL.perm List.perm_append_comm ?_
    simp only [List.cons_append, List.nil_append]
    repeat (refine A1 ⟨?_⟩; intros)
    refine Wc c2 ?_
    repeat (refine A1 ⟨?_⟩; intros)
    refine WfH (putW_pu g1 (dec n) (by simp only [List.length_append, List.length_cons, List.length_nil]; omega)) ?_
    rintro _ Hg2 ⟨rfl, g2⟩
    refine WPL.perm List.perm_append_comm ?_
    simp only [List.cons_append, List.nil_append]
    repeat (refine A1 ⟨?_⟩; intros)
    refine WfH (putW_pu g2 [59] (by simp only [List.length_append, List.length_cons, List.length_nil]; omega)) ?_
    rintro _ Hgz ⟨rfl, gz⟩
    refine WPL.perm List.perm_append_comm ?_
    simp only [List.cons_append, List.nil_append]
    repeat (refine A1 ⟨?_⟩; intros)
    refine endHN _ Hgz end0 ?_ ⟨rfl, ?_⟩
    · repeat (first | exact List.Sublist.refl _ | exact List.sublist_append_left _ _ | refine List.Sublist.cons _ ?_)
    · simp only [List.append_assoc, List.cons_append, List.nil_append] at gz ⊢
      exact gz
  | ring a nm ps hn hp =>
    have e : txS { stm0 2 a with nm := nm, ps := ps } = kw 2 ++ [32] ++ (nm ++ [32, 61]) ++ txPs ps ++ [59] := rfl
    have c1 := gword_pu 2 (by decide) (by decide)
    have hk8 : (kw 2).length ≤ 8 := by decide
    rw [e] at hl2 ⊢
    simp only [List.length_append, List.length_cons, List.length_nil] at hl2
    have hnl := nm_len hn
    clear e
    dsimp only [stx, stm0] at ck ⊢
    refine PuH.intro Tryz.func64 rfl (by kernel_rfl) fun C hC => ?_
    repeat (refine A1 ⟨?_⟩; intros)
    rename_i b3
    refine WfH ck ?_
    rintro _ _ ⟨rfl, rfl⟩
    simp only [List.nil_append]
    repeat (first | (refine A1 ⟨?_⟩; intros) | (refine Wcx (c1) ?_) | (refine Wdcx (c1) ?_) | (refine Wcgx (c1) ?_) | (refine Wdcgx (c1) ?_))
    refine WfH (put2W_pu h (kw 2) [32] (by simp only [List.length_append, List.length_cons, List.length_nil]; omega)) ?_
    rintro _ Hg1 ⟨rfl, g1⟩
    refine WPL.perm List.perm_append_comm ?_
    simp only [List.cons_append, List.nil_append]
    repeat (refine A1 ⟨?_⟩; intros)
    refine WfH (nmW_pu g1 hn (by simp only [List.length_append, List.length_cons, List.length_nil]; omega)) ?_
    rintro _ Hg2 ⟨rfl, g2⟩
    refine WPL.perm List.perm_append_comm ?_
    simp only [List.cons_append, List.nil_append]
    repeat (refine A1 ⟨?_⟩; intros)
    refine WfH (putW_pu g2 [32, 61] (by simp only [List.length_append, List.length_cons, List.length_nil]; omega)) ?_
    rintro _ Hg3 ⟨rfl, g3⟩
    refine WPL.perm List.perm_append_comm ?_
    simp only [List.cons_append, List.nil_append]
    repeat (refine A1 ⟨?_⟩; intros)
    refine WfH (ptsW_pu g3 hp (by simp only [List.length_append, List.length_cons, List.length_nil]; omega)) ?_
    rintro _ Hg4 ⟨rfl, g4⟩
    refine WPL.perm List.perm_append_comm ?_
    simp only [List.cons_append, List.nil_append]
    repeat (refine A1 ⟨?_⟩; intros)
    refine WfH (putW_pu g4 [59] (by simp only [List.length_append, List.length_cons, List.length_nil]; omega)) ?_
    rintro _ Hgz ⟨rfl, gz⟩
    refine WPL.perm List.perm_append_comm ?_
    simp only [List.cons_append, List.nil_append]
    repeat (refine A1 ⟨?_⟩; intros)
    refine endHN _ Hgz end0 ?_ ⟨rfl, ?_⟩
    · repeat (first | exact List.Sublist.refl _ | exact List.sublist_append_left _ _ | refine List.Sublist.cons _ ?_)
    · simp only [List.append_assoc, List.cons_append, List.nil_append] at gz ⊢
      exact gz
  | reg a nm fl n1 ns hn hf h1 hns hnl2 =>
    have e : txS { stm0 3 a with nm := nm, fl := fl, nms := n1 :: ns } = kw 3 ++ [32] ++ (nm ++ [32, 61]) ++ (32 :: fw fl ++ txNs (n1 :: ns)) ++ [59] := rfl
    have hall : ∀ x ∈ n1 :: ns, nmOk x = true := fun x hx => (List.mem_cons.1 hx).elim (fun e => e ▸ h1) (hns x)
    have hfl := fw_len fl
    have hLl : (n1 :: ns).length = ns.length + 1 := rfl
    generalize n1 :: ns = L at *
    rcases hf with rfl | rfl
    · have c1 := gword_pu 3 (by decide) (by decide)
      have hk8 : (kw 3).length ≤ 8 := by decide
      rw [e] at hl2 ⊢
      simp only [List.length_append, List.length_cons, List.length_nil] at hl2
      have hnl := nm_len hn
      clear e
      dsimp only [stx, stm0] at ck ⊢
      refine PuH.intro Tryz.func64 rfl (by kernel_rfl) fun C hC => ?_
      repeat (refine A1 ⟨?_⟩; intros)
      rename_i b3
      refine WfH ck ?_
      rintro _ _ ⟨rfl, rfl⟩
      simp only [List.nil_append]
      repeat (first | (refine A1 ⟨?_⟩; intros) | (refine Wcx (c1) ?_) | (refine Wdcx (c1) ?_) | (refine Wcgx (c1) ?_) | (refine Wdcgx (c1) ?_))
      refine WfH (put2W_pu h (kw 3) [32] (by simp only [List.length_append, List.length_cons, List.length_nil]; omega)) ?_
      rintro _ Hg1 ⟨rfl, g1⟩
      refine WPL.perm List.perm_append_comm ?_
      simp only [List.cons_append, List.nil_append]
      repeat (refine A1 ⟨?_⟩; intros)
      refine WfH (nmW_pu g1 hn (by simp only [List.length_append, List.length_cons, List.length_nil]; omega)) ?_
      rintro _ Hg2 ⟨rfl, g2⟩
      refine WPL.perm List.perm_append_comm ?_
      simp only [List.cons_append, List.nil_append]
      repeat (refine A1 ⟨?_⟩; intros)
      refine WfH (putW_pu g2 [32, 61] (by simp only [List.length_append, List.length_cons, List.length_nil]; omega)) ?_
      rintro _ Hg3 ⟨rfl, g3⟩
      refine WPL.perm List.perm_append_comm ?_
      simp only [List.cons_append, List.nil_append]
      repeat (refine A1 ⟨?_⟩; intros)
      refine WneedT ?_
      repeat (refine A1 ⟨?_⟩; intros)
      refine WneedT ?_
      repeat (refine A1 ⟨?_⟩; intros)
      refine Wo (ov_buildA (e := 9) (len := 3) (cs := fws) (by kernel_rfl) (by repeat (first | exact Parts.nil | (apply Parts.cons; exact Eq.refl (lit _); infer_instance))) (by exact rfl)) ?_
      repeat (refine A1 ⟨?_⟩; intros)
      refine Wo (ov_idxV (vs := [.string ⟨#[]⟩, .string ⟨#[32, 101, 118, 101, 110, 111, 100, 100]⟩, .string ⟨#[32, 110, 111, 110, 122, 101, 114, 111]⟩]) (res := .string ⟨([32, 101, 118, 101, 110, 111, 100, 100] : List UInt8).toArray⟩) rfl rfl (fun w => by kernel_rfl)) ?_
      repeat (refine A1 ⟨?_⟩; intros)
      refine WfH (putW_pu g3 [32, 101, 118, 101, 110, 111, 100, 100] (by simp only [List.length_append, List.length_cons, List.length_nil]; omega)) ?_
      rintro _ Hg4 ⟨rfl, g4⟩
      refine WPL.perm List.perm_append_comm ?_
      simp only [List.cons_append, List.nil_append]
      repeat (refine A1 ⟨?_⟩; intros)
      refine WP.loopS (ι := Nat × LH) (fun z => z.1 ≤ L.length ∧ Wtr w (l ++ (kw 3 ++ [32]) ++ nm ++ [32, 61] ++ [32, 101, 118, 101, 110, 111, 100, 100] ++ txNs (L.take z.1)) 0 z.2) (fun z => L.length - z.1)
        (fun z => (fm [(0, lit (.pointer (some ⟨w, 0, none⟩))), (3, lit (.pointer (some ⟨b3, 0, none⟩))), (73, nmsS L), (74, lit (.int .i64 L.length)), (75, lit (.int .i64 z.1))])) (fun z => (b3, stT, stx { stm0 3 a with nm := nm, fl := 1, nms := L }) :: z.2) (0, Hg4)
        ⟨Nat.zero_le _, by rw [List.take_zero, show txNs [] = [] from rfl, List.append_nil]; exact g4⟩ (by (repeat (first | exact LeF.nil _ | refine LeF.cons (Le.refl _) ?_ | refine LeF.cons (Le.int (by omega)) ?_))) (by repeat (first | exact List.Sublist.refl _ | exact List.Sublist.cons_cons _ (List.Sublist.refl _) | refine List.Sublist.cons _ ?_)) ?_
      rintro ⟨k, Hx⟩ ⟨hk, hw⟩ K hK
      simp only at hk hw ⊢
      dsimp only [stx, stm0]
      have hlk : (txNs (L.take k)).length ≤ (txNs L).length := flat_take_le _ L k
      by_cases hkl : k < L.length
      · have hget := List.getElem?_eq_getElem hkl
        generalize L[k] = x at hget
        have hat := flat_at (f := nmx) (n := 1) nmx_len hget
        have hne : (L.map nmx).flatten ≠ [] := flat_ne nmx_len (by omega) (fun e => by rw [e] at hkl; simp at hkl)
        have hx := hall x (List.mem_of_getElem? hget)
        have htk := txNs_take hget
        have hxl := nm_len hx
        have hgo := fun F' H' H2 => hK F' H' (k + 1, H2)
        simp only at hgo
        clear hK hget hall ck c1 g1 g2 g3 g4 hns h1
        repeat (refine A1 ⟨?_⟩; intros)
        refine Wo (ov_idxS (cs' := nmx x) rfl rfl (by omega) (by omega) hat hne) ?_
        repeat (refine A1 ⟨?_⟩; intros)
        refine WfH (putW_pu hw [32] (by simp only [List.length_append, List.length_cons, List.length_nil]; omega)) ?_
        rintro _ Hg1 ⟨rfl, g1⟩
        refine WPL.perm List.perm_append_comm ?_
        simp only [List.cons_append, List.nil_append]
        repeat (refine A1 ⟨?_⟩; intros)
        refine WfH (nmW_pu g1 hx (by simp only [List.length_append, List.length_cons, List.length_nil]; omega)) ?_
        rintro _ Hg2 ⟨rfl, g2⟩
        refine WPL.perm List.perm_append_comm ?_
        simp only [List.cons_append, List.nil_append]
        repeat (refine A1 ⟨?_⟩; intros)
        refine hgo _ _ Hg2 ⟨by omega, ?_⟩ (by omega) (by (repeat (first | exact LeF.nil _ | refine LeF.cons (Le.refl _) ?_ | refine LeF.cons (Le.int (by omega)) ?_))) ?_
        · rw [htk]
          simp only [List.append_assoc, List.cons_append, List.nil_append] at g2 ⊢
          exact g2
        · repeat (first | exact List.Sublist.refl _ | exact List.sublist_append_left _ _ | exact List.Sublist.cons_cons _ (List.Sublist.refl _) | exact List.Sublist.cons_cons _ (List.sublist_append_left _ _) | refine List.Sublist.cons _ ?_)
      obtain rfl : k = L.length := by omega
      clear hK hkl hk g1 g2 g3 g4 ck c1
      rw [List.take_length] at hw
      repeat (refine A1 ⟨?_⟩; intros)
      refine WfH (putW_pu hw [59] (by simp only [List.length_append, List.length_cons, List.length_nil]; omega)) ?_
      rintro _ Hgz ⟨rfl, gz⟩
      refine WPL.perm List.perm_append_comm ?_
      simp only [List.cons_append, List.nil_append]
      repeat (refine A1 ⟨?_⟩; intros)
      refine endHN _ Hgz end0 ?_ ⟨rfl, ?_⟩
      · repeat (first | exact List.Sublist.refl _ | exact List.sublist_append_left _ _ | refine List.Sublist.cons _ ?_)
      · have ef : fw 1 = [101, 118, 101, 110, 111, 100, 100] := rfl
        rw [ef]
        simp only [List.append_assoc, List.cons_append, List.nil_append] at gz ⊢
        exact gz
    · have c1 := gword_pu 3 (by decide) (by decide)
      have hk8 : (kw 3).length ≤ 8 := by decide
      rw [e] at hl2 ⊢
      simp only [List.length_append, List.length_cons, List.length_nil] at hl2
      have hnl := nm_len hn
      clear e
      dsimp only [stx, stm0] at ck ⊢
      refine PuH.intro Tryz.func64 rfl (by kernel_rfl) fun C hC => ?_
      repeat (refine A1 ⟨?_⟩; intros)
      rename_i b3
      refine WfH ck ?_
      rintro _ _ ⟨rfl, rfl⟩
      simp only [List.nil_append]
      repeat (first | (refine A1 ⟨?_⟩; intros) | (refine Wcx (c1) ?_) | (refine Wdcx (c1) ?_) | (refine Wcgx (c1) ?_) | (refine Wdcgx (c1) ?_))
      refine WfH (put2W_pu h (kw 3) [32] (by simp only [List.length_append, List.length_cons, List.length_nil]; omega)) ?_
      rintro _ Hg1 ⟨rfl, g1⟩
      refine WPL.perm List.perm_append_comm ?_
      simp only [List.cons_append, List.nil_append]
      repeat (refine A1 ⟨?_⟩; intros)
      refine WfH (nmW_pu g1 hn (by simp only [List.length_append, List.length_cons, List.length_nil]; omega)) ?_
      rintro _ Hg2 ⟨rfl, g2⟩
      refine WPL.perm List.perm_append_comm ?_
      simp only [List.cons_append, List.nil_append]
      repeat (refine A1 ⟨?_⟩; intros)
      refine WfH (putW_pu g2 [32, 61] (by simp only [List.length_append, List.length_cons, List.length_nil]; omega)) ?_
      rintro _ Hg3 ⟨rfl, g3⟩
      refine WPL.perm List.perm_append_comm ?_
      simp only [List.cons_append, List.nil_append]
      repeat (refine A1 ⟨?_⟩; intros)
      refine WneedT ?_
      repeat (refine A1 ⟨?_⟩; intros)
      refine WneedT ?_
      repeat (refine A1 ⟨?_⟩; intros)
      refine Wo (ov_buildA (e := 9) (len := 3) (cs := fws) (by kernel_rfl) (by repeat (first | exact Parts.nil | (apply Parts.cons; exact Eq.refl (lit _); infer_instance))) (by exact rfl)) ?_
      repeat (refine A1 ⟨?_⟩; intros)
      refine Wo (ov_idxV (vs := [.string ⟨#[]⟩, .string ⟨#[32, 101, 118, 101, 110, 111, 100, 100]⟩, .string ⟨#[32, 110, 111, 110, 122, 101, 114, 111]⟩]) (res := .string ⟨([32, 110, 111, 110, 122, 101, 114, 111] : List UInt8).toArray⟩) rfl rfl (fun w => by kernel_rfl)) ?_
      repeat (refine A1 ⟨?_⟩; intros)
      refine WfH (putW_pu g3 [32, 110, 111, 110, 122, 101, 114, 111] (by simp only [List.length_append, List.length_cons, List.length_nil]; omega)) ?_
      rintro _ Hg4 ⟨rfl, g4⟩
      refine WPL.perm List.perm_append_comm ?_
      simp only [List.cons_append, List.nil_append]
      repeat (refine A1 ⟨?_⟩; intros)
      refine WP.loopS (ι := Nat × LH) (fun z => z.1 ≤ L.length ∧ Wtr w (l ++ (kw 3 ++ [32]) ++ nm ++ [32, 61] ++ [32, 110, 111, 110, 122, 101, 114, 111] ++ txNs (L.take z.1)) 0 z.2) (fun z => L.length - z.1)
        (fun z => (fm [(0, lit (.pointer (some ⟨w, 0, none⟩))), (3, lit (.pointer (some ⟨b3, 0, none⟩))), (73, nmsS L), (74, lit (.int .i64 L.length)), (75, lit (.int .i64 z.1))])) (fun z => (b3, stT, stx { stm0 3 a with nm := nm, fl := 2, nms := L }) :: z.2) (0, Hg4)
        ⟨Nat.zero_le _, by rw [List.take_zero, show txNs [] = [] from rfl, List.append_nil]; exact g4⟩ (by (repeat (first | exact LeF.nil _ | refine LeF.cons (Le.refl _) ?_ | refine LeF.cons (Le.int (by omega)) ?_))) (by repeat (first | exact List.Sublist.refl _ | exact List.Sublist.cons_cons _ (List.Sublist.refl _) | refine List.Sublist.cons _ ?_)) ?_
      rintro ⟨k, Hx⟩ ⟨hk, hw⟩ K hK
      simp only at hk hw ⊢
      dsimp only [stx, stm0]
      have hlk : (txNs (L.take k)).length ≤ (txNs L).length := flat_take_le _ L k
      by_cases hkl : k < L.length
      · have hget := List.getElem?_eq_getElem hkl
        generalize L[k] = x at hget
        have hat := flat_at (f := nmx) (n := 1) nmx_len hget
        have hne : (L.map nmx).flatten ≠ [] := flat_ne nmx_len (by omega) (fun e => by rw [e] at hkl; simp at hkl)
        have hx := hall x (List.mem_of_getElem? hget)
        have htk := txNs_take hget
        have hxl := nm_len hx
        have hgo := fun F' H' H2 => hK F' H' (k + 1, H2)
        simp only at hgo
        clear hK hget hall ck c1 g1 g2 g3 g4 hns h1
        repeat (refine A1 ⟨?_⟩; intros)
        refine Wo (ov_idxS (cs' := nmx x) rfl rfl (by omega) (by omega) hat hne) ?_
        repeat (refine A1 ⟨?_⟩; intros)
        refine WfH (putW_pu hw [32] (by simp only [List.length_append, List.length_cons, List.length_nil]; omega)) ?_
        rintro _ Hg1 ⟨rfl, g1⟩
        refine WPL.perm List.perm_append_comm ?_
        simp only [List.cons_append, List.nil_append]
        repeat (refine A1 ⟨?_⟩; intros)
        refine WfH (nmW_pu g1 hx (by simp only [List.length_append, List.length_cons, List.length_nil]; omega)) ?_
        rintro _ Hg2 ⟨rfl, g2⟩
        refine WPL.perm List.perm_append_comm ?_
        simp only [List.cons_append, List.nil_append]
        repeat (refine A1 ⟨?_⟩; intros)
        refine hgo _ _ Hg2 ⟨by omega, ?_⟩ (by omega) (by (repeat (first | exact LeF.nil _ | refine LeF.cons (Le.refl _) ?_ | refine LeF.cons (Le.int (by omega)) ?_))) ?_
        · rw [htk]
          simp only [List.append_assoc, List.cons_append, List.nil_append] at g2 ⊢
          exact g2
        · repeat (first | exact List.Sublist.refl _ | exact List.sublist_append_left _ _ | exact List.Sublist.cons_cons _ (List.Sublist.refl _) | exact List.Sublist.cons_cons _ (List.sublist_append_left _ _) | refine List.Sublist.cons _ ?_)
      obtain rfl : k = L.length := by omega
      clear hK hkl hk g1 g2 g3 g4 ck c1
      rw [List.take_length] at hw
      repeat (refine A1 ⟨?_⟩; intros)
      refine WfH (putW_pu hw [59] (by simp only [List.length_append, List.length_cons, List.length_nil]; omega)) ?_
      rintro _ Hgz ⟨rfl, gz⟩
      refine WPL.perm List.perm_append_comm ?_
      simp only [List.cons_append, List.nil_append]
      repeat (refine A1 ⟨?_⟩; intros)
      refine endHN _ Hgz end0 ?_ ⟨rfl, ?_⟩
      · repeat (first | exact List.Sublist.refl _ | exact List.sublist_append_left _ _ | refine List.Sublist.cons _ ?_)
      · have ef : fw 2 = [110, 111, 110, 122, 101, 114, 111] := rfl
        rw [ef]
        simp only [List.append_assoc, List.cons_append, List.nil_append] at gz ⊢
        exact gz
  | outl a nm o hn ho =>
    have e : txS { stm0 4 a with nm := nm, ol := o } = kw 4 ++ [32] ++ (nm ++ [32, 61]) ++ (32 :: txOl o) ++ [59] := rfl
    have c1 := gword_pu 4 (by decide) (by decide)
    have hk8 : (kw 4).length ≤ 8 := by decide
    rw [e] at hl2 ⊢
    simp only [List.length_append, List.length_cons, List.length_nil] at hl2
    have hnl := nm_len hn
    clear e
    dsimp only [stx, stm0] at ck ⊢
    refine PuH.intro Tryz.func64 rfl (by kernel_rfl) fun C hC => ?_
    repeat (refine A1 ⟨?_⟩; intros)
    rename_i b3
    refine WfH ck ?_
    rintro _ _ ⟨rfl, rfl⟩
    simp only [List.nil_append]
    repeat (first | (refine A1 ⟨?_⟩; intros) | (refine Wcx (c1) ?_) | (refine Wdcx (c1) ?_) | (refine Wcgx (c1) ?_) | (refine Wdcgx (c1) ?_))
    refine WfH (put2W_pu h (kw 4) [32] (by simp only [List.length_append, List.length_cons, List.length_nil]; omega)) ?_
    rintro _ Hg1 ⟨rfl, g1⟩
    refine WPL.perm List.perm_append_comm ?_
    simp only [List.cons_append, List.nil_append]
    repeat (refine A1 ⟨?_⟩; intros)
    refine WfH (nmW_pu g1 hn (by simp only [List.length_append, List.length_cons, List.length_nil]; omega)) ?_
    rintro _ Hg2 ⟨rfl, g2⟩
    refine WPL.perm List.perm_append_comm ?_
    simp only [List.cons_append, List.nil_append]
    repeat (refine A1 ⟨?_⟩; intros)
    refine WfH (putW_pu g2 [32, 61] (by simp only [List.length_append, List.length_cons, List.length_nil]; omega)) ?_
    rintro _ Hg3 ⟨rfl, g3⟩
    refine WPL.perm List.perm_append_comm ?_
    simp only [List.cons_append, List.nil_append]
    repeat (refine A1 ⟨?_⟩; intros)
    refine WfH (putW_pu g3 [32] (by simp only [List.length_append, List.length_cons, List.length_nil]; omega)) ?_
    rintro _ Hg4 ⟨rfl, g4⟩
    refine WPL.perm List.perm_append_comm ?_
    simp only [List.cons_append, List.nil_append]
    repeat (refine A1 ⟨?_⟩; intros)
    refine WfH (olW_pu g4 ho (by simp only [List.length_append, List.length_cons, List.length_nil]; omega)) ?_
    rintro _ Hg5 ⟨rfl, g5⟩
    refine WPL.perm List.perm_append_comm ?_
    simp only [List.cons_append, List.nil_append]
    repeat (refine A1 ⟨?_⟩; intros)
    refine WfH (putW_pu g5 [59] (by simp only [List.length_append, List.length_cons, List.length_nil]; omega)) ?_
    rintro _ Hgz ⟨rfl, gz⟩
    refine WPL.perm List.perm_append_comm ?_
    simp only [List.cons_append, List.nil_append]
    repeat (refine A1 ⟨?_⟩; intros)
    refine endHN _ Hgz end0 ?_ ⟨rfl, ?_⟩
    · repeat (first | exact List.Sublist.refl _ | exact List.sublist_append_left _ _ | refine List.Sublist.cons _ ?_)
    · simp only [List.append_assoc, List.cons_append, List.nil_append] at gz ⊢
      exact gz
  | lt a nm A hn hA =>
    have e : txS { stm0 5 a with nm := nm, e1 := A } = kw 5 ++ [32] ++ (nm ++ [32, 61]) ++ (32 :: (exT A).txt) ++ [59] := rfl
    have c1 := gword_pu 5 (by decide) (by decide)
    have hk8 : (kw 5).length ≤ 8 := by decide
    rw [e] at hl2 ⊢
    simp only [List.length_append, List.length_cons, List.length_nil] at hl2
    have hnl := nm_len hn
    clear e
    dsimp only [stx, stm0] at ck ⊢
    refine PuH.intro Tryz.func64 rfl (by kernel_rfl) fun C hC => ?_
    repeat (refine A1 ⟨?_⟩; intros)
    rename_i b3
    refine WfH ck ?_
    rintro _ _ ⟨rfl, rfl⟩
    simp only [List.nil_append]
    repeat (first | (refine A1 ⟨?_⟩; intros) | (refine Wcx (c1) ?_) | (refine Wdcx (c1) ?_) | (refine Wcgx (c1) ?_) | (refine Wdcgx (c1) ?_))
    refine WfH (put2W_pu h (kw 5) [32] (by simp only [List.length_append, List.length_cons, List.length_nil]; omega)) ?_
    rintro _ Hg1 ⟨rfl, g1⟩
    refine WPL.perm List.perm_append_comm ?_
    simp only [List.cons_append, List.nil_append]
    repeat (refine A1 ⟨?_⟩; intros)
    refine WfH (nmW_pu g1 hn (by simp only [List.length_append, List.length_cons, List.length_nil]; omega)) ?_
    rintro _ Hg2 ⟨rfl, g2⟩
    refine WPL.perm List.perm_append_comm ?_
    simp only [List.cons_append, List.nil_append]
    repeat (refine A1 ⟨?_⟩; intros)
    refine WfH (putW_pu g2 [32, 61] (by simp only [List.length_append, List.length_cons, List.length_nil]; omega)) ?_
    rintro _ Hg3 ⟨rfl, g3⟩
    refine WPL.perm List.perm_append_comm ?_
    simp only [List.cons_append, List.nil_append]
    repeat (refine A1 ⟨?_⟩; intros)
    refine WfH (putW_pu g3 [32] (by simp only [List.length_append, List.length_cons, List.length_nil]; omega)) ?_
    rintro _ Hg4 ⟨rfl, g4⟩
    refine WPL.perm List.perm_append_comm ?_
    simp only [List.cons_append, List.nil_append]
    repeat (refine A1 ⟨?_⟩; intros)
    refine WfH (exW_pu g4 hA (by simp only [List.length_append, List.length_cons, List.length_nil]; omega)) ?_
    rintro _ Hg5 ⟨rfl, g5⟩
    refine WPL.perm List.perm_append_comm ?_
    simp only [List.cons_append, List.nil_append]
    repeat (refine A1 ⟨?_⟩; intros)
    refine WfH (putW_pu g5 [59] (by simp only [List.length_append, List.length_cons, List.length_nil]; omega)) ?_
    rintro _ Hgz ⟨rfl, gz⟩
    refine WPL.perm List.perm_append_comm ?_
    simp only [List.cons_append, List.nil_append]
    repeat (refine A1 ⟨?_⟩; intros)
    refine endHN _ Hgz end0 ?_ ⟨rfl, ?_⟩
    · repeat (first | exact List.Sublist.refl _ | exact List.sublist_append_left _ _ | refine List.Sublist.cons _ ?_)
    · simp only [List.append_assoc, List.cons_append, List.nil_append] at gz ⊢
      exact gz
  | qry a k A hk hA =>
    have e : txS { stm0 k a with e1 := A } = kw k ++ [32] ++ [] ++ (exT A).txt ++ [59] := by
      rcases hk with rfl | rfl | rfl | rfl | rfl | rfl | rfl <;> rfl
    rcases hk with rfl | rfl | rfl | rfl | rfl | rfl | rfl
    · have c1 := gword_pu 6 (by decide) (by decide)
      have hk8 : (kw 6).length ≤ 8 := by decide
      rw [e] at hl2 ⊢
      simp only [List.length_append, List.length_cons, List.length_nil] at hl2
      clear e
      dsimp only [stx, stm0] at ck ⊢
      refine PuH.intro Tryz.func64 rfl (by kernel_rfl) fun C hC => ?_
      repeat (refine A1 ⟨?_⟩; intros)
      rename_i b3
      refine WfH ck ?_
      rintro _ _ ⟨rfl, rfl⟩
      simp only [List.nil_append]
      repeat (first | (refine A1 ⟨?_⟩; intros) | (refine Wcx (c1) ?_) | (refine Wdcx (c1) ?_) | (refine Wcgx (c1) ?_) | (refine Wdcgx (c1) ?_))
      refine WfH (put2W_pu h (kw 6) [32] (by simp only [List.length_append, List.length_cons, List.length_nil]; omega)) ?_
      rintro _ Hg1 ⟨rfl, g1⟩
      refine WPL.perm List.perm_append_comm ?_
      simp only [List.cons_append, List.nil_append]
      repeat (refine A1 ⟨?_⟩; intros)
      refine WfH (exW_pu g1 hA (by simp only [List.length_append, List.length_cons, List.length_nil]; omega)) ?_
      rintro _ Hg2 ⟨rfl, g2⟩
      refine WPL.perm List.perm_append_comm ?_
      simp only [List.cons_append, List.nil_append]
      repeat (refine A1 ⟨?_⟩; intros)
      refine WfH (putW_pu g2 [59] (by simp only [List.length_append, List.length_cons, List.length_nil]; omega)) ?_
      rintro _ Hgz ⟨rfl, gz⟩
      refine WPL.perm List.perm_append_comm ?_
      simp only [List.cons_append, List.nil_append]
      repeat (refine A1 ⟨?_⟩; intros)
      refine endHN _ Hgz end0 ?_ ⟨rfl, ?_⟩
      · repeat (first | exact List.Sublist.refl _ | exact List.sublist_append_left _ _ | refine List.Sublist.cons _ ?_)
      · simp only [List.append_assoc, List.cons_append, List.nil_append] at gz ⊢
        exact gz
    · have c1 := gword_pu 7 (by decide) (by decide)
      have hk8 : (kw 7).length ≤ 8 := by decide
      rw [e] at hl2 ⊢
      simp only [List.length_append, List.length_cons, List.length_nil] at hl2
      clear e
      dsimp only [stx, stm0] at ck ⊢
      refine PuH.intro Tryz.func64 rfl (by kernel_rfl) fun C hC => ?_
      repeat (refine A1 ⟨?_⟩; intros)
      rename_i b3
      refine WfH ck ?_
      rintro _ _ ⟨rfl, rfl⟩
      simp only [List.nil_append]
      repeat (first | (refine A1 ⟨?_⟩; intros) | (refine Wcx (c1) ?_) | (refine Wdcx (c1) ?_) | (refine Wcgx (c1) ?_) | (refine Wdcgx (c1) ?_))
      refine WfH (put2W_pu h (kw 7) [32] (by simp only [List.length_append, List.length_cons, List.length_nil]; omega)) ?_
      rintro _ Hg1 ⟨rfl, g1⟩
      refine WPL.perm List.perm_append_comm ?_
      simp only [List.cons_append, List.nil_append]
      repeat (refine A1 ⟨?_⟩; intros)
      refine WfH (exW_pu g1 hA (by simp only [List.length_append, List.length_cons, List.length_nil]; omega)) ?_
      rintro _ Hg2 ⟨rfl, g2⟩
      refine WPL.perm List.perm_append_comm ?_
      simp only [List.cons_append, List.nil_append]
      repeat (refine A1 ⟨?_⟩; intros)
      refine WfH (putW_pu g2 [59] (by simp only [List.length_append, List.length_cons, List.length_nil]; omega)) ?_
      rintro _ Hgz ⟨rfl, gz⟩
      refine WPL.perm List.perm_append_comm ?_
      simp only [List.cons_append, List.nil_append]
      repeat (refine A1 ⟨?_⟩; intros)
      refine endHN _ Hgz end0 ?_ ⟨rfl, ?_⟩
      · repeat (first | exact List.Sublist.refl _ | exact List.sublist_append_left _ _ | refine List.Sublist.cons _ ?_)
      · simp only [List.append_assoc, List.cons_append, List.nil_append] at gz ⊢
        exact gz
    · have c1 := gword_pu 9 (by decide) (by decide)
      have hk8 : (kw 9).length ≤ 8 := by decide
      rw [e] at hl2 ⊢
      simp only [List.length_append, List.length_cons, List.length_nil] at hl2
      clear e
      dsimp only [stx, stm0] at ck ⊢
      refine PuH.intro Tryz.func64 rfl (by kernel_rfl) fun C hC => ?_
      repeat (refine A1 ⟨?_⟩; intros)
      rename_i b3
      refine WfH ck ?_
      rintro _ _ ⟨rfl, rfl⟩
      simp only [List.nil_append]
      repeat (first | (refine A1 ⟨?_⟩; intros) | (refine Wcx (c1) ?_) | (refine Wdcx (c1) ?_) | (refine Wcgx (c1) ?_) | (refine Wdcgx (c1) ?_))
      refine WfH (put2W_pu h (kw 9) [32] (by simp only [List.length_append, List.length_cons, List.length_nil]; omega)) ?_
      rintro _ Hg1 ⟨rfl, g1⟩
      refine WPL.perm List.perm_append_comm ?_
      simp only [List.cons_append, List.nil_append]
      repeat (refine A1 ⟨?_⟩; intros)
      refine WfH (exW_pu g1 hA (by simp only [List.length_append, List.length_cons, List.length_nil]; omega)) ?_
      rintro _ Hg2 ⟨rfl, g2⟩
      refine WPL.perm List.perm_append_comm ?_
      simp only [List.cons_append, List.nil_append]
      repeat (refine A1 ⟨?_⟩; intros)
      refine WfH (putW_pu g2 [59] (by simp only [List.length_append, List.length_cons, List.length_nil]; omega)) ?_
      rintro _ Hgz ⟨rfl, gz⟩
      refine WPL.perm List.perm_append_comm ?_
      simp only [List.cons_append, List.nil_append]
      repeat (refine A1 ⟨?_⟩; intros)
      refine endHN _ Hgz end0 ?_ ⟨rfl, ?_⟩
      · repeat (first | exact List.Sublist.refl _ | exact List.sublist_append_left _ _ | refine List.Sublist.cons _ ?_)
      · simp only [List.append_assoc, List.cons_append, List.nil_append] at gz ⊢
        exact gz
    · have c1 := gword_pu 12 (by decide) (by decide)
      have hk8 : (kw 12).length ≤ 8 := by decide
      rw [e] at hl2 ⊢
      simp only [List.length_append, List.length_cons, List.length_nil] at hl2
      clear e
      dsimp only [stx, stm0] at ck ⊢
      refine PuH.intro Tryz.func64 rfl (by kernel_rfl) fun C hC => ?_
      repeat (refine A1 ⟨?_⟩; intros)
      rename_i b3
      refine WfH ck ?_
      rintro _ _ ⟨rfl, rfl⟩
      simp only [List.nil_append]
      repeat (first | (refine A1 ⟨?_⟩; intros) | (refine Wcx (c1) ?_) | (refine Wdcx (c1) ?_) | (refine Wcgx (c1) ?_) | (refine Wdcgx (c1) ?_))
      refine WfH (put2W_pu h (kw 12) [32] (by simp only [List.length_append, List.length_cons, List.length_nil]; omega)) ?_
      rintro _ Hg1 ⟨rfl, g1⟩
      refine WPL.perm List.perm_append_comm ?_
      simp only [List.cons_append, List.nil_append]
      repeat (refine A1 ⟨?_⟩; intros)
      refine WfH (exW_pu g1 hA (by simp only [List.length_append, List.length_cons, List.length_nil]; omega)) ?_
      rintro _ Hg2 ⟨rfl, g2⟩
      refine WPL.perm List.perm_append_comm ?_
      simp only [List.cons_append, List.nil_append]
      repeat (refine A1 ⟨?_⟩; intros)
      refine WfH (putW_pu g2 [59] (by simp only [List.length_append, List.length_cons, List.length_nil]; omega)) ?_
      rintro _ Hgz ⟨rfl, gz⟩
      refine WPL.perm List.perm_append_comm ?_
      simp only [List.cons_append, List.nil_append]
      repeat (refine A1 ⟨?_⟩; intros)
      refine endHN _ Hgz end0 ?_ ⟨rfl, ?_⟩
      · repeat (first | exact List.Sublist.refl _ | exact List.sublist_append_left _ _ | refine List.Sublist.cons _ ?_)
      · simp only [List.append_assoc, List.cons_append, List.nil_append] at gz ⊢
        exact gz
    · have c1 := gword_pu 13 (by decide) (by decide)
      have hk8 : (kw 13).length ≤ 8 := by decide
      rw [e] at hl2 ⊢
      simp only [List.length_append, List.length_cons, List.length_nil] at hl2
      clear e
      dsimp only [stx, stm0] at ck ⊢
      refine PuH.intro Tryz.func64 rfl (by kernel_rfl) fun C hC => ?_
      repeat (refine A1 ⟨?_⟩; intros)
      rename_i b3
      refine WfH ck ?_
      rintro _ _ ⟨rfl, rfl⟩
      simp only [List.nil_append]
      repeat (first | (refine A1 ⟨?_⟩; intros) | (refine Wcx (c1) ?_) | (refine Wdcx (c1) ?_) | (refine Wcgx (c1) ?_) | (refine Wdcgx (c1) ?_))
      refine WfH (put2W_pu h (kw 13) [32] (by simp only [List.length_append, List.length_cons, List.length_nil]; omega)) ?_
      rintro _ Hg1 ⟨rfl, g1⟩
      refine WPL.perm List.perm_append_comm ?_
      simp only [List.cons_append, List.nil_append]
      repeat (refine A1 ⟨?_⟩; intros)
      refine WfH (exW_pu g1 hA (by simp only [List.length_append, List.length_cons, List.length_nil]; omega)) ?_
      rintro _ Hg2 ⟨rfl, g2⟩
      refine WPL.perm List.perm_append_comm ?_
      simp only [List.cons_append, List.nil_append]
      repeat (refine A1 ⟨?_⟩; intros)
      refine WfH (putW_pu g2 [59] (by simp only [List.length_append, List.length_cons, List.length_nil]; omega)) ?_
      rintro _ Hgz ⟨rfl, gz⟩
      refine WPL.perm List.perm_append_comm ?_
      simp only [List.cons_append, List.nil_append]
      repeat (refine A1 ⟨?_⟩; intros)
      refine endHN _ Hgz end0 ?_ ⟨rfl, ?_⟩
      · repeat (first | exact List.Sublist.refl _ | exact List.sublist_append_left _ _ | refine List.Sublist.cons _ ?_)
      · simp only [List.append_assoc, List.cons_append, List.nil_append] at gz ⊢
        exact gz
    · have c1 := gword_pu 14 (by decide) (by decide)
      have hk8 : (kw 14).length ≤ 8 := by decide
      rw [e] at hl2 ⊢
      simp only [List.length_append, List.length_cons, List.length_nil] at hl2
      clear e
      dsimp only [stx, stm0] at ck ⊢
      refine PuH.intro Tryz.func64 rfl (by kernel_rfl) fun C hC => ?_
      repeat (refine A1 ⟨?_⟩; intros)
      rename_i b3
      refine WfH ck ?_
      rintro _ _ ⟨rfl, rfl⟩
      simp only [List.nil_append]
      repeat (first | (refine A1 ⟨?_⟩; intros) | (refine Wcx (c1) ?_) | (refine Wdcx (c1) ?_) | (refine Wcgx (c1) ?_) | (refine Wdcgx (c1) ?_))
      refine WfH (put2W_pu h (kw 14) [32] (by simp only [List.length_append, List.length_cons, List.length_nil]; omega)) ?_
      rintro _ Hg1 ⟨rfl, g1⟩
      refine WPL.perm List.perm_append_comm ?_
      simp only [List.cons_append, List.nil_append]
      repeat (refine A1 ⟨?_⟩; intros)
      refine WfH (exW_pu g1 hA (by simp only [List.length_append, List.length_cons, List.length_nil]; omega)) ?_
      rintro _ Hg2 ⟨rfl, g2⟩
      refine WPL.perm List.perm_append_comm ?_
      simp only [List.cons_append, List.nil_append]
      repeat (refine A1 ⟨?_⟩; intros)
      refine WfH (putW_pu g2 [59] (by simp only [List.length_append, List.length_cons, List.length_nil]; omega)) ?_
      rintro _ Hgz ⟨rfl, gz⟩
      refine WPL.perm List.perm_append_comm ?_
      simp only [List.cons_append, List.nil_append]
      repeat (refine A1 ⟨?_⟩; intros)
      refine endHN _ Hgz end0 ?_ ⟨rfl, ?_⟩
      · repeat (first | exact List.Sublist.refl _ | exact List.sublist_append_left _ _ | refine List.Sublist.cons _ ?_)
      · simp only [List.append_assoc, List.cons_append, List.nil_append] at gz ⊢
        exact gz
    · have c1 := gword_pu 15 (by decide) (by decide)
      have hk8 : (kw 15).length ≤ 8 := by decide
      rw [e] at hl2 ⊢
      simp only [List.length_append, List.length_cons, List.length_nil] at hl2
      clear e
      dsimp only [stx, stm0] at ck ⊢
      refine PuH.intro Tryz.func64 rfl (by kernel_rfl) fun C hC => ?_
      repeat (refine A1 ⟨?_⟩; intros)
      rename_i b3
      refine WfH ck ?_
      rintro _ _ ⟨rfl, rfl⟩
      simp only [List.nil_append]
      repeat (first | (refine A1 ⟨?_⟩; intros) | (refine Wcx (c1) ?_) | (refine Wdcx (c1) ?_) | (refine Wcgx (c1) ?_) | (refine Wdcgx (c1) ?_))
      refine WfH (put2W_pu h (kw 15) [32] (by simp only [List.length_append, List.length_cons, List.length_nil]; omega)) ?_
      rintro _ Hg1 ⟨rfl, g1⟩
      refine WPL.perm List.perm_append_comm ?_
      simp only [List.cons_append, List.nil_append]
      repeat (refine A1 ⟨?_⟩; intros)
      refine WfH (exW_pu g1 hA (by simp only [List.length_append, List.length_cons, List.length_nil]; omega)) ?_
      rintro _ Hg2 ⟨rfl, g2⟩
      refine WPL.perm List.perm_append_comm ?_
      simp only [List.cons_append, List.nil_append]
      repeat (refine A1 ⟨?_⟩; intros)
      refine WfH (putW_pu g2 [59] (by simp only [List.length_append, List.length_cons, List.length_nil]; omega)) ?_
      rintro _ Hgz ⟨rfl, gz⟩
      refine WPL.perm List.perm_append_comm ?_
      simp only [List.cons_append, List.nil_append]
      repeat (refine A1 ⟨?_⟩; intros)
      refine endHN _ Hgz end0 ?_ ⟨rfl, ?_⟩
      · repeat (first | exact List.Sublist.refl _ | exact List.sublist_append_left _ _ | refine List.Sublist.cons _ ?_)
      · simp only [List.append_assoc, List.cons_append, List.nil_append] at gz ⊢
        exact gz
  | cls a A p hA hp =>
    have e : txS { stm0 8 a with e1 := A, px := RQ.of p.1, py := RQ.of p.2 } = kw 8 ++ [32] ++ [] ++ ((exT A).txt ++ (32 :: txP p)) ++ [59] := by
      show kw 8 ++ [32] ++ [] ++ ((exT A).txt ++ (32 :: txP ((RQ.of p.1).v, (RQ.of p.2).v))) ++ [59] = _
      rw [RQ.of_v, RQ.of_v]
    have c1 := gword_pu 8 (by decide) (by decide)
    have hk8 : (kw 8).length ≤ 8 := by decide
    rw [e] at hl2 ⊢
    simp only [List.length_append, List.length_cons, List.length_nil] at hl2
    clear e
    dsimp only [stx, stm0] at ck ⊢
    refine PuH.intro Tryz.func64 rfl (by kernel_rfl) fun C hC => ?_
    repeat (refine A1 ⟨?_⟩; intros)
    rename_i b3
    refine WfH ck ?_
    rintro _ _ ⟨rfl, rfl⟩
    simp only [List.nil_append]
    repeat (first | (refine A1 ⟨?_⟩; intros) | (refine Wcx (c1) ?_) | (refine Wdcx (c1) ?_) | (refine Wcgx (c1) ?_) | (refine Wdcgx (c1) ?_))
    refine WfH (put2W_pu h (kw 8) [32] (by simp only [List.length_append, List.length_cons, List.length_nil]; omega)) ?_
    rintro _ Hg1 ⟨rfl, g1⟩
    refine WPL.perm List.perm_append_comm ?_
    simp only [List.cons_append, List.nil_append]
    repeat (refine A1 ⟨?_⟩; intros)
    refine WfH (exW_pu g1 hA (by simp only [List.length_append, List.length_cons, List.length_nil]; omega)) ?_
    rintro _ Hg2 ⟨rfl, g2⟩
    refine WPL.perm List.perm_append_comm ?_
    simp only [List.cons_append, List.nil_append]
    repeat (refine A1 ⟨?_⟩; intros)
    refine WfH (putW_pu g2 [32] (by simp only [List.length_append, List.length_cons, List.length_nil]; omega)) ?_
    rintro _ Hg3 ⟨rfl, g3⟩
    refine WPL.perm List.perm_append_comm ?_
    simp only [List.cons_append, List.nil_append]
    repeat (refine A1 ⟨?_⟩; intros)
    refine WfH (ptW_pu g3 hp (by simp only [List.length_append, List.length_cons, List.length_nil]; omega)) ?_
    rintro _ Hg4 ⟨rfl, g4⟩
    refine WPL.perm List.perm_append_comm ?_
    simp only [List.cons_append, List.nil_append]
    repeat (refine A1 ⟨?_⟩; intros)
    refine WfH (putW_pu g4 [59] (by simp only [List.length_append, List.length_cons, List.length_nil]; omega)) ?_
    rintro _ Hgz ⟨rfl, gz⟩
    refine WPL.perm List.perm_append_comm ?_
    simp only [List.cons_append, List.nil_append]
    repeat (refine A1 ⟨?_⟩; intros)
    refine endHN _ Hgz end0 ?_ ⟨rfl, ?_⟩
    · repeat (first | exact List.Sublist.refl _ | exact List.sublist_append_left _ _ | refine List.Sublist.cons _ ?_)
    · simp only [List.append_assoc, List.cons_append, List.nil_append] at gz ⊢
      exact gz
  | two a k A B hk hA hB =>
    have e : txS { stm0 k a with e1 := A, e2 := B } = kw k ++ [32] ++ [] ++ ((exT A).txt ++ ([44, 32] ++ (exT B).txt)) ++ [59] := by
      rcases hk with rfl | rfl <;> rfl
    rcases hk with rfl | rfl
    · have c1 := gword_pu 10 (by decide) (by decide)
      have hk8 : (kw 10).length ≤ 8 := by decide
      rw [e] at hl2 ⊢
      simp only [List.length_append, List.length_cons, List.length_nil] at hl2
      clear e
      dsimp only [stx, stm0] at ck ⊢
      refine PuH.intro Tryz.func64 rfl (by kernel_rfl) fun C hC => ?_
      repeat (refine A1 ⟨?_⟩; intros)
      rename_i b3
      refine WfH ck ?_
      rintro _ _ ⟨rfl, rfl⟩
      simp only [List.nil_append]
      repeat (first | (refine A1 ⟨?_⟩; intros) | (refine Wcx (c1) ?_) | (refine Wdcx (c1) ?_) | (refine Wcgx (c1) ?_) | (refine Wdcgx (c1) ?_))
      refine WfH (put2W_pu h (kw 10) [32] (by simp only [List.length_append, List.length_cons, List.length_nil]; omega)) ?_
      rintro _ Hg1 ⟨rfl, g1⟩
      refine WPL.perm List.perm_append_comm ?_
      simp only [List.cons_append, List.nil_append]
      repeat (refine A1 ⟨?_⟩; intros)
      refine WfH (exW_pu g1 hA (by simp only [List.length_append, List.length_cons, List.length_nil]; omega)) ?_
      rintro _ Hg2 ⟨rfl, g2⟩
      refine WPL.perm List.perm_append_comm ?_
      simp only [List.cons_append, List.nil_append]
      repeat (refine A1 ⟨?_⟩; intros)
      refine WfH (putW_pu g2 [44, 32] (by simp only [List.length_append, List.length_cons, List.length_nil]; omega)) ?_
      rintro _ Hg3 ⟨rfl, g3⟩
      refine WPL.perm List.perm_append_comm ?_
      simp only [List.cons_append, List.nil_append]
      repeat (refine A1 ⟨?_⟩; intros)
      refine WfH (exW_pu g3 hB (by simp only [List.length_append, List.length_cons, List.length_nil]; omega)) ?_
      rintro _ Hg4 ⟨rfl, g4⟩
      refine WPL.perm List.perm_append_comm ?_
      simp only [List.cons_append, List.nil_append]
      repeat (refine A1 ⟨?_⟩; intros)
      refine WfH (putW_pu g4 [59] (by simp only [List.length_append, List.length_cons, List.length_nil]; omega)) ?_
      rintro _ Hgz ⟨rfl, gz⟩
      refine WPL.perm List.perm_append_comm ?_
      simp only [List.cons_append, List.nil_append]
      repeat (refine A1 ⟨?_⟩; intros)
      refine endHN _ Hgz end0 ?_ ⟨rfl, ?_⟩
      · repeat (first | exact List.Sublist.refl _ | exact List.sublist_append_left _ _ | refine List.Sublist.cons _ ?_)
      · simp only [List.append_assoc, List.cons_append, List.nil_append] at gz ⊢
        exact gz
    · have c1 := gword_pu 11 (by decide) (by decide)
      have hk8 : (kw 11).length ≤ 8 := by decide
      rw [e] at hl2 ⊢
      simp only [List.length_append, List.length_cons, List.length_nil] at hl2
      clear e
      dsimp only [stx, stm0] at ck ⊢
      refine PuH.intro Tryz.func64 rfl (by kernel_rfl) fun C hC => ?_
      repeat (refine A1 ⟨?_⟩; intros)
      rename_i b3
      refine WfH ck ?_
      rintro _ _ ⟨rfl, rfl⟩
      simp only [List.nil_append]
      repeat (first | (refine A1 ⟨?_⟩; intros) | (refine Wcx (c1) ?_) | (refine Wdcx (c1) ?_) | (refine Wcgx (c1) ?_) | (refine Wdcgx (c1) ?_))
      refine WfH (put2W_pu h (kw 11) [32] (by simp only [List.length_append, List.length_cons, List.length_nil]; omega)) ?_
      rintro _ Hg1 ⟨rfl, g1⟩
      refine WPL.perm List.perm_append_comm ?_
      simp only [List.cons_append, List.nil_append]
      repeat (refine A1 ⟨?_⟩; intros)
      refine WfH (exW_pu g1 hA (by simp only [List.length_append, List.length_cons, List.length_nil]; omega)) ?_
      rintro _ Hg2 ⟨rfl, g2⟩
      refine WPL.perm List.perm_append_comm ?_
      simp only [List.cons_append, List.nil_append]
      repeat (refine A1 ⟨?_⟩; intros)
      refine WfH (putW_pu g2 [44, 32] (by simp only [List.length_append, List.length_cons, List.length_nil]; omega)) ?_
      rintro _ Hg3 ⟨rfl, g3⟩
      refine WPL.perm List.perm_append_comm ?_
      simp only [List.cons_append, List.nil_append]
      repeat (refine A1 ⟨?_⟩; intros)
      refine WfH (exW_pu g3 hB (by simp only [List.length_append, List.length_cons, List.length_nil]; omega)) ?_
      rintro _ Hg4 ⟨rfl, g4⟩
      refine WPL.perm List.perm_append_comm ?_
      simp only [List.cons_append, List.nil_append]
      repeat (refine A1 ⟨?_⟩; intros)
      refine WfH (putW_pu g4 [59] (by simp only [List.length_append, List.length_cons, List.length_nil]; omega)) ?_
      rintro _ Hgz ⟨rfl, gz⟩
      refine WPL.perm List.perm_append_comm ?_
      simp only [List.cons_append, List.nil_append]
      repeat (refine A1 ⟨?_⟩; intros)
      refine endHN _ Hgz end0 ?_ ⟨rfl, ?_⟩
      · repeat (first | exact List.Sublist.refl _ | exact List.sublist_append_left _ _ | refine List.Sublist.cons _ ?_)
      · simp only [List.append_assoc, List.cons_append, List.nil_append] at gz ⊢
        exact gz
end Go.Ab
