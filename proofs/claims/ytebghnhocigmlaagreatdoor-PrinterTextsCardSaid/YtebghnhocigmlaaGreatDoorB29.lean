/- Texts laid one behind the other: PTw, PTv, PTk, Itoa, PTc. -/
import Derived.Test.YtebghnhocigmlaaGreatDoorB15
import Derived.Test.YtebghnhocigmlaaGreatDoorB27
import Derived.Test.YtebghnhocigmlaaGreatDoorB28
import Derived.Test.YtebghnhocigmlaaGreatDoorB12
import Derived.Shelf.Strconv.Itoa3
/- Package grammar: the writer writes points, names, outlines and expressions that were read. -/
namespace Go.Ab
open Go.Proofs
set_option linter.unusedSectionVars false
set_option linter.unusedVariables false
set_option linter.unusedSimpArgs false
variable [Base]
theorem put2W_pu {w b d : Nat} {l : List UInt8} {H : LH} (h : Wtr w l d H) (t u : List UInt8) (hl : l.length + t.length + u.length ≤ 1000000000) :
    PuH Tryz.prog 65 [lit (.pointer (some ⟨w, 0, none⟩)), lit (.slice (some ⟨b, 0, none⟩) 2 2)] ((b, 9, [str t, str u]) :: H) (fun r H' => r = Ab.tup [] ∧ Wtr w (l ++ (t ++ u)) d H') noX := by
  obtain ⟨a, s, Hb, ha, hb, rfl⟩ := h
  refine PuH.intro Tryz.func65 rfl (by kernel_rfl) fun C hC => ?_
  repeat (refine A1 ⟨?_⟩; intros)
  refine WP.unroll 3 ?_
  refine WPR.succ ?_
  repeat (refine A1 ⟨?_⟩; intros)
  refine WfT (writeString_pu ha hb t (by omega) d false) ?_
  rintro _ _ ⟨s', Hb', hb', rfl, rfl⟩
  simp only [List.cons_append, List.nil_append]
  repeat (refine A1 ⟨?_⟩; intros)
  refine WfT (writeString_pu (.inr rfl) hb' u (by rw [List.length_append]; omega) d false) ?_
  rintro _ _ ⟨s2, Hb2, hb2, rfl, rfl⟩
  simp only [List.cons_append, List.nil_append]
  repeat (refine A1 ⟨?_⟩; intros)
  rw [List.append_assoc] at hb2
  exact endHN _ _ end0 (List.Sublist.cons _ (List.Sublist.refl _)) ⟨rfl, _, _, _, .inr rfl, hb2, rfl⟩
theorem dec_dgs' {n m : Nat} (h : (dec n).length ≤ 9 * m) : (dgs n).length ≤ m := by
  have h1 := dcv_lt (dec_D n).1
  rw [dcv_dec] at h1
  have h2 : (10 : Nat) ^ (dec n).length ≤ 10 ^ (9 * m) := Nat.pow_le_pow_right (by omega) h
  have h3 : (10 : Nat) ^ (9 * m) ≤ 4294967296 ^ m := by
    rw [Nat.pow_mul]
    exact Nat.pow_le_pow_left (by omega) _
  exact len_le (Nat.lt_of_lt_of_le h1 (Nat.le_trans h2 h3))
theorem dec_dgs {n : Nat} (h : (dec n).length ≤ 1000) : (dgs n).length ≤ 112 := dec_dgs' (by omega)
theorem numB_ok {x : Rat} (h : NumB x) : (RQ.of x).ok 112 := ⟨D_dgs _, D_dgs _, dec_dgs h.1, dec_dgs h.2⟩
theorem nrmQ_ofR (x : Rat) : nrmQ (RQ.of x) = true := by
  unfold nrmQ
  rw [RQ.of_v]
  exact decide_eq_true ⟨rfl, rfl, rfl⟩
theorem ptW_pu {w d : Nat} {l : List UInt8} {H : LH} (h : Wtr w l d H) {p : Rat × Rat} (hp : PtB p) (hl : l.length ≤ 90000000) :
    PuH Tryz.prog 117 [lit (.pointer (some ⟨w, 0, none⟩)), ag (ptx p)] H (fun r H' => r = Ab.tup [] ∧ Wtr w (l ++ txP p) d H') noX := by
  have c := point_pu h (RQ.of p.1) (RQ.of p.2) (numB_ok hp.1) (numB_ok hp.2) (by omega) hl
  rw [nrmQ_ofR, nrmQ_ofR, txP_ptxt, RQ.of_v, RQ.of_v] at c
  exact c.mono (fun r H' h => ⟨h.2.1, h.2.2⟩) (fun pv H' h => by cases h.1)
theorem txPs_take {ps : List (Rat × Rat)} {k : Nat} {x : Rat × Rat} (h : ps[k]? = some x) : txPs (ps.take (k + 1)) = txPs (ps.take k) ++ (32 :: txP x) := by
  unfold txPs
  rw [List.take_add_one, h, Option.toList_some, List.map_append, List.flatten_append]
  simp only [List.map_cons, List.map_nil, List.flatten_cons, List.flatten_nil, List.append_nil]
theorem flat_take_le {α : Type} (f : α → List UInt8) (l : List α) (k : Nat) : ((l.take k).map f).flatten.length ≤ (l.map f).flatten.length := by
  conv => rhs; rw [← List.take_append_drop k l]
  rw [List.map_append, List.flatten_append, List.length_append]
  omega
theorem ptsW_pu {w d : Nat} {l : List UInt8} {H : LH} (h : Wtr w l d H) {ps : List (Rat × Rat)} (hps : PsB ps) (hl : l.length + (txPs ps).length ≤ 80000000) :
    PuH Tryz.prog 115 [lit (.pointer (some ⟨w, 0, none⟩)), ptsS ps] H (fun r H' => r = Ab.tup [] ∧ Wtr w (l ++ txPs ps) d H') noX := by
  obtain ⟨h0, h1, h2⟩ := hps
  have hpos : 0 < ps.length := List.length_pos_iff.2 h0
  refine PuH.intro Tryz.func115 rfl (by kernel_rfl) fun C hC => ?_
  repeat (refine A1 ⟨?_⟩; intros)
  refine WneedT ?_
  repeat (refine A1 ⟨?_⟩; intros)
  refine WP.loopS (ι := Nat × LH) (fun z => z.1 ≤ ps.length ∧ Wtr w (l ++ txPs (ps.take z.1)) d z.2) (fun z => ps.length - z.1)
    (fun z => (fm [(0, lit (.pointer (some ⟨w, 0, none⟩))), (10, ptsS ps), (11, lit (.int .i64 ps.length)), (12, lit (.int .i64 z.1))])) (fun z => z.2) (0, H)
    ⟨Nat.zero_le _, by rw [List.take_zero, show txPs [] = [] from rfl, List.append_nil]; exact h⟩ (by (repeat (first | exact LeF.nil _ | refine LeF.cons (Le.refl _) ?_ | refine LeF.cons (Le.int (by omega)) ?_))) (List.Sublist.refl _) ?_
  rintro ⟨k, Hx⟩ ⟨hk, hw⟩ K hK
  simp only at hk hw ⊢
  have hlk : (txPs (ps.take k)).length ≤ (txPs ps).length := flat_take_le _ ps k
  by_cases hkl : k < ps.length
  · have hget := List.getElem?_eq_getElem hkl
    generalize ps[k] = x at hget
    have hat := flat_at (f := ptx) (n := 6) ptx_len hget
    have hne : (ps.map ptx).flatten ≠ [] := flat_ne ptx_len (by omega) h0
    have hx := h2 x (List.mem_of_getElem? hget)
    have htk := txPs_take hget
    have hgo := fun F' H' H2 => hK F' H' (k + 1, H2)
    simp only at hgo
    clear hK hget
    have hlen : (l ++ txPs (ps.take k)).length = l.length + (txPs (ps.take k)).length := List.length_append
    repeat (refine A1 ⟨?_⟩; intros)
    refine Wo (ov_idxS (cs' := ptx x) rfl rfl (by omega) (by omega) hat hne) ?_
    repeat (refine A1 ⟨?_⟩; intros)
    refine WfH (putW_pu hw [32] (by show _ + 1 ≤ _; omega)) ?_
    rintro _ _ ⟨rfl, g1⟩
    refine WPL.perm List.perm_append_comm ?_
    simp only [List.cons_append, List.nil_append]
    repeat (refine A1 ⟨?_⟩; intros)
    refine WfH (ptW_pu g1 hx (by rw [List.length_append]; show _ + 1 ≤ _; omega)) ?_
    rintro _ Hg2 ⟨rfl, g2⟩
    refine WPL.perm List.perm_append_comm ?_
    simp only [List.cons_append, List.nil_append]
    repeat (refine A1 ⟨?_⟩; intros)
    refine hgo _ _ Hg2 ⟨by omega, ?_⟩ (by omega) (by (repeat (first | exact LeF.nil _ | refine LeF.cons (Le.refl _) ?_ | refine LeF.cons (Le.int (by omega)) ?_))) ?_
    · rw [htk, ← List.append_assoc]
      simp only [List.append_assoc, List.cons_append, List.nil_append] at g2 ⊢
      exact g2
    · repeat (first | exact List.Sublist.refl _ | exact List.sublist_append_left _ _ | refine List.Sublist.cons _ ?_)
  · obtain rfl : k = ps.length := by omega
    clear hK
    rw [List.take_length] at hw
    repeat (refine A1 ⟨?_⟩; intros)
    exact endHN _ _ end0 (List.Sublist.refl _) ⟨rfl, hw⟩
theorem nmW_pu {w d : Nat} {l : List UInt8} {H : LH} (h : Wtr w l d H) {s : List UInt8} (hs : nmOk s = true) (hl : l.length ≤ 100000000) :
    PuH Tryz.prog 113 [lit (.pointer (some ⟨w, 0, none⟩)), str s] H (fun r H' => r = Ab.tup [] ∧ Wtr w (l ++ s) d H') noX := by
  have hlen : s.length ≤ 24 := by
    obtain ⟨⟨b, r, -, -, -, h⟩, -⟩ := nmOk_wd hs
    exact h
  have c := nameW_pu h s (by omega) hl
  rw [hs] at c
  exact c.mono (fun r H' h => ⟨h.2.1, h.2.2⟩) (fun pv H' h => by cases h.1)
/-! expressions -/
theorem zz_ok (L : Nat) : zz.ok L := ⟨fun _ h => (by cases h), fun _ h => (by cases h), Nat.zero_le _, Nat.zero_le _⟩
theorem fl_mem {n : Nd} : ∀ {x : Ex} {i : Nat}, x.wf → n.clr ∈ x.fl i → (n.nm.length ≤ 24 ∧ n.a.ok 112 ∧ n.b.ok 112 ∧ n.c.ok 112 ∧ n.e.ok 112) := by
  have hz := zz_ok 112
  intro x
  induction x with
  | leaf m =>
    intro i hw hn
    have e : n.clr = m.clr := List.mem_singleton.1 hn
    rcases hw with ⟨w, hw, e2⟩ | e2 | e2 | ⟨p, q, hp, hq, e2⟩
    · rw [e2] at e
      obtain ⟨-, e1, e3, e4, e5, e6⟩ := clr_k e
      rw [e1, e3, e4, e5, e6]
      obtain ⟨⟨b, r, -, -, -, h⟩, -⟩ := nmOk_wd hw
      exact ⟨h, hz, hz, hz, hz⟩
    · rw [e2] at e
      obtain ⟨-, e1, e3, e4, e5, e6⟩ := clr_k e
      rw [e1, e3, e4, e5, e6]
      exact ⟨Nat.zero_le _, hz, hz, hz, hz⟩
    · rw [e2] at e
      obtain ⟨-, e1, e3, e4, e5, e6⟩ := clr_k e
      rw [e1, e3, e4, e5, e6]
      exact ⟨Nat.zero_le _, hz, hz, hz, hz⟩
    · rw [e2] at e
      obtain ⟨-, e1, e3, e4, e5, e6⟩ := clr_k e
      rw [e1, e3, e4, e5, e6]
      exact ⟨Nat.zero_le _, numB_ok hp.1, numB_ok hp.2, numB_ok hq.1, numB_ok hq.2⟩
  | un m x ih =>
    intro i hw hn
    rcases List.mem_append.1 hn with hn | hn
    · exact ih hw.2 hn
    · have e := List.mem_singleton.1 hn
      obtain ⟨-, e1, e3, e4, e5, e6⟩ := clr_k e
      rw [e1, e3, e4, e5, e6]
      exact ⟨Nat.zero_le _, hz, hz, hz, hz⟩
  | bi m x y ihx ihy =>
    intro i hw hn
    rcases List.mem_append.1 hn with hn | hn
    · rcases List.mem_append.1 hn with hn | hn
      · exact ihx hw.2.2.1 hn
      · exact ihy hw.2.2.2 hn
    · have e := List.mem_singleton.1 hn
      obtain ⟨-, e1, e3, e4, e5, e6⟩ := clr_k e
      rw [e1, e3, e4, e5, e6]
      exact ⟨Nat.zero_le _, hz, hz, hz, hz⟩
theorem wf_good : ∀ {x : Ex}, x.wf → x.good = true
  | .leaf n, h => by
    unfold Ex.good
    rcases h with ⟨w, hw, e⟩ | e | e | ⟨p, q, hp, hq, e⟩
    · obtain ⟨e1, e2, -⟩ := clr_k e
      have k1 : n.k = 1 := e1
      rw [if_pos k1, show n.nm = w from e2, hw]
    · obtain ⟨e1, -⟩ := clr_k e
      have k1 : n.k = 2 := e1
      rw [if_neg (show ¬ n.k = 1 by omega), if_neg (show ¬ n.k = 4 by omega)]
    · obtain ⟨e1, -⟩ := clr_k e
      have k1 : n.k = 3 := e1
      rw [if_neg (show ¬ n.k = 1 by omega), if_neg (show ¬ n.k = 4 by omega)]
    · obtain ⟨e1, -, e3, e4, e5, e6⟩ := clr_k e
      have k1 : n.k = 4 := e1
      rw [if_neg (show ¬ n.k = 1 by omega), if_pos k1, e3, e4, e5, e6]
      show (nrmQ (RQ.of p.1) && nrmQ (RQ.of p.2) && (nrmQ (RQ.of q.1) && nrmQ (RQ.of q.2))) = true
      rw [nrmQ_ofR, nrmQ_ofR, nrmQ_ofR, nrmQ_ofR]; rfl
  | .un n x, h => wf_good (x := x) h.2
  | .bi n l r, h => by
    show (l.good && r.good) = true
    rw [wf_good h.2.2.1, wf_good h.2.2.2]; rfl
theorem exB_ok {A : List Nd} (h : ExB A) : (∀ n ∈ A, n.ok 112) ∧ okL A = true ∧ (exT A).At A (A.length - 1) ∧ (exT A).size = A.length ∧ (exT A).good = true ∧ (exT A).dep ≤ 200 ∧ A.length ≤ 60000 := by
  obtain ⟨x, h1, h2, h3, h4, h5⟩ := h
  have hl := fl_length h2
  have hs := stk_okL A
  rw [exT_of h1]
  rw [h1.1 []] at hs
  simp only at hs
  obtain ⟨g1, g2⟩ := hs
  obtain ⟨g3, g4⟩ := g2 _ _ _ rfl
  refine ⟨fun n hn => ?_, by rw [g1]; rfl, by rw [Nat.zero_add] at g3; exact g3, hl.symm, wf_good h3, h4, by omega⟩
  have hm : n.clr ∈ x.fl 0 := by rw [← h2]; exact List.mem_map_of_mem hn
  obtain ⟨q1, q2, q3, q4, q5⟩ := fl_mem h3 hm
  exact ⟨q2, q3, q4, q5, by omega⟩
theorem exW_pu {w d : Nat} {l : List UInt8} {H : LH} (h : Wtr w l d H) {A : List Nd} (hA : ExB A) (hl : l.length + (exT A).txt.length ≤ 70000000) :
    PuH Tryz.prog 107 [lit (.pointer (some ⟨w, 0, none⟩)), exS A] H (fun r H' => r = Ab.tup [] ∧ Wtr w (l ++ (exT A).txt) 0 H') noX := by
  obtain ⟨h1, h2, h3, h4, h5, h6, h7⟩ := exB_ok hA
  have c := expr_t h1 (by omega) (by omega) h h2 h3 h4 h6 hl
  rw [h5] at c
  exact c.mono (fun r H' h => ⟨h.2.1, h.2.2⟩) (fun pv H' h => by cases h.1)
/-! outlines -/
theorem txRs_take {rs : List (List (Rat × Rat))} {k : Nat} {x : List (Rat × Rat)} (h : rs[k]? = some x) : txRs (rs.take (k + 1)) = txRs (rs.take k) ++ ([32, 114, 105, 110, 103] ++ (txPs x ++ [59])) := by
  unfold txRs
  rw [List.take_add_one, h, Option.toList_some, List.map_append, List.flatten_append]
  simp only [List.map_cons, List.map_nil, List.flatten_cons, List.flatten_nil, List.append_nil]
theorem txCs_take {cs : List Chn} {k : Nat} {c : Chn} (h : cs[k]? = some c) : txCs (cs.take (k + 1)) = txCs (cs.take k) ++ ([32, 99, 104, 97, 105, 110, 32] ++ (txP c.a ++ (txPs c.m ++ (32 :: (txP c.b ++ [59]))))) := by
  unfold txCs
  rw [List.take_add_one, h, Option.toList_some, List.map_append, List.flatten_append]
  simp only [List.map_cons, List.map_nil, List.flatten_cons, List.flatten_nil, List.append_nil]
end Go.Ab
/- Package grammar: the writer writes outlines and statements that were read. -/
namespace Go.Ab
open Go.Proofs
set_option linter.unusedSectionVars false
set_option linter.unusedVariables false
set_option linter.unusedSimpArgs false
variable [Base]
theorem txPs_sub {ps : List (Rat × Rat)} {rs : List (List (Rat × Rat))} {k : Nat} (h : rs[k]? = some ps) : (txRs (rs.take k)).length + (txPs ps).length + 6 ≤ (txRs rs).length := by
  have h1 := flat_take_le (fun r => [32, 114, 105, 110, 103] ++ (txPs r ++ [59])) rs (k + 1)
  have h2 := congrArg List.length (txRs_take h)
  unfold txRs at h2 ⊢
  simp only [List.length_append, List.length_cons, List.length_nil] at h1 h2 ⊢
  omega
theorem txCs_sub {c : Chn} {cs : List Chn} {k : Nat} (h : cs[k]? = some c) : (txCs (cs.take k)).length + ((txP c.a).length + (txPs c.m).length + (txP c.b).length + 9) ≤ (txCs cs).length := by
  have h1 := flat_take_le (fun c : Chn => [32, 99, 104, 97, 105, 110, 32] ++ (txP c.a ++ (txPs c.m ++ (32 :: (txP c.b ++ [59]))))) cs (k + 1)
  have h2 := congrArg List.length (txCs_take h)
  unfold txCs at h2 ⊢
  simp only [List.length_append, List.length_cons, List.length_nil] at h1 h2 ⊢
  omega
set_option maxHeartbeats 8000000 in
theorem olW_pu {w d : Nat} {l : List UInt8} {H : LH} (h : Wtr w l d H) {o : Otl} (ho : OlB o) (hl : l.length + (txOl o).length ≤ 70000000) :
    PuH Tryz.prog 116 [lit (.pointer (some ⟨w, 0, none⟩)), ag [lit (.bool o.far), rgsS o.rs, chsS o.cs]] H (fun r H' => r = Ab.tup [] ∧ Wtr w (l ++ txOl o) d H') noX := by
  obtain ⟨far, rs, cs⟩ := o
  obtain ⟨⟨hr1, hr2⟩, hc1, hc2⟩ := ho
  simp only at hr1 hr2 hc1 hc2 ⊢
  obtain ⟨fb, hfb⟩ : ∃ fb : Bool, fb = far := ⟨_, rfl⟩
  obtain ⟨F0, hF⟩ : ∃ F0 : List UInt8, F0 = (if far = true then [32, 102, 97, 114] else []) := ⟨_, rfl⟩
  have htx : txOl ⟨far, rs, cs⟩ = 123 :: (F0 ++ (txRs rs ++ (txCs cs ++ [32, 125]))) := by rw [hF]; rfl
  rw [htx] at hl ⊢
  simp only [List.length_cons, List.length_append, List.length_nil] at hl
  clear htx
  cases far
  all_goals
    simp only [Bool.false_eq_true, if_false, if_true] at hF
    have hF4 : F0.length ≤ 4 := by rw [hF]; decide
    refine PuH.intro Tryz.func116 rfl (by kernel_rfl) fun C hC => ?_
    repeat (refine A1 ⟨?_⟩; intros)
    rename_i b3 b4
    refine WfH (putW_pu h [123] (by simp only [List.length_append, List.length_cons, List.length_nil]; omega)) ?_
    rintro _ Hg1 ⟨rfl, g1⟩
    refine WPL.perm List.perm_append_comm ?_
    simp only [List.cons_append, List.nil_append]
    repeat (refine A1 ⟨?_⟩; intros)
    try
      refine WfH (putW_pu g1 [32, 102, 97, 114] (by simp only [List.length_append, List.length_cons, List.length_nil]; omega)) ?_
      rintro _ _ ⟨rfl, g2⟩
      refine WPL.perm List.perm_append_comm ?_
      simp only [List.cons_append, List.nil_append]
      repeat (refine A1 ⟨?_⟩; intros)
    first
      | (rw [← hF] at g2; have hw := g2; clear g2)
      | (have hw := g1; rw [show l ++ [123] = l ++ [123] ++ F0 from by rw [hF, List.append_nil]] at hw)
    clear g1
    refine WP.lenS (d := 17) rfl fun hr => ?_
    refine WP.loopS (ι := Nat × LH) (fun z => z.1 ≤ rs.length ∧ Wtr w (l ++ [123] ++ F0 ++ txRs (rs.take z.1)) d z.2) (fun z => rs.length - z.1)
      (fun z => (fm [(0, lit (.pointer (some ⟨w, 0, none⟩))), (3, lit (.pointer (some ⟨b3, 0, none⟩))), (17, rgsS rs), (18, lit (.int .i64 rs.length)), (19, lit (.int .i64 z.1))])) (fun z => (b3, olT, [lit (.bool fb), rgsS rs, chsS cs]) :: z.2) (0, _)
      ⟨Nat.zero_le _, by rw [List.take_zero, show txRs [] = [] from rfl, List.append_nil]; exact hw⟩ (by (repeat (first | exact LeF.nil _ | refine LeF.cons (Le.refl _) ?_ | refine LeF.cons (Le.int (by omega)) ?_))) (by rw [hfb]; exact List.Sublist.refl _) ?_
    clear hw
    rintro ⟨k, Hx⟩ ⟨hk, hw⟩ K hK
    simp only at hk hw ⊢
    by_cases hkl : k < rs.length
    · have hget := List.getElem?_eq_getElem hkl
      generalize rs[k] = x at hget
      have hat := flat_at (f := rgx) (n := 1) rgx_len hget
      have hne : (rs.map rgx).flatten ≠ [] := flat_ne rgx_len (by omega) (fun e => by rw [e] at hkl; simp at hkl)
      have hx := hr2 x (List.mem_of_getElem? hget)
      have htk := txRs_take hget
      have hsub := txPs_sub hget
      have hgo := fun F' H' H2 => hK F' H' (k + 1, H2)
      simp only at hgo
      clear hK hget hr2 hc2 hF
      repeat (refine A1 ⟨?_⟩; intros)
      refine Wo (ov_idxS (cs' := rgx x) rfl rfl (by omega) (by omega) hat hne) ?_
      repeat (refine A1 ⟨?_⟩; intros)
      refine WfH (putW_pu hw [32, 114, 105, 110, 103] (by simp only [List.length_append, List.length_cons, List.length_nil]; omega)) ?_
      rintro _ Hg1 ⟨rfl, g1⟩
      refine WPL.perm List.perm_append_comm ?_
      simp only [List.cons_append, List.nil_append]
      repeat (refine A1 ⟨?_⟩; intros)
      refine WfH (ptsW_pu g1 hx (by simp only [List.length_append, List.length_cons, List.length_nil]; omega)) ?_
      rintro _ Hg2 ⟨rfl, g2⟩
      refine WPL.perm List.perm_append_comm ?_
      simp only [List.cons_append, List.nil_append]
      repeat (refine A1 ⟨?_⟩; intros)
      refine WfH (putW_pu g2 [59] (by simp only [List.length_append, List.length_cons, List.length_nil]; omega)) ?_
      rintro _ Hg3 ⟨rfl, g3⟩
      refine WPL.perm List.perm_append_comm ?_
      simp only [List.cons_append, List.nil_append]
      repeat (refine A1 ⟨?_⟩; intros)
      refine hgo _ _ Hg3 ⟨by omega, ?_⟩ (by omega) (by (repeat (first | exact LeF.nil _ | refine LeF.cons (Le.refl _) ?_ | refine LeF.cons (Le.int (by omega)) ?_))) ?_
      · rw [htk]
        simp only [List.append_assoc, List.cons_append, List.nil_append] at g3 ⊢
        exact g3
      · repeat (first | exact List.Sublist.refl _ | exact List.sublist_append_left _ _ | refine List.Sublist.cons _ ?_ | refine List.Sublist.cons_cons _ ?_)
    obtain rfl : k = rs.length := by omega
    clear hK hkl hk
    rw [List.take_length] at hw
    repeat (refine A1 ⟨?_⟩; intros)
    refine WP.lenS (d := 34) rfl fun hc => ?_
    refine WP.loopS (ι := Nat × LH) (fun z => z.1 ≤ cs.length ∧ Wtr w (l ++ [123] ++ F0 ++ txRs rs ++ txCs (cs.take z.1)) d z.2) (fun z => cs.length - z.1)
      (fun z => (fm [(0, lit (.pointer (some ⟨w, 0, none⟩))), (34, chsS cs), (35, lit (.int .i64 cs.length)), (36, lit (.int .i64 z.1))])) (fun z => z.2) (0, _)
      ⟨Nat.zero_le _, by rw [List.take_zero, show txCs [] = [] from rfl, List.append_nil]; exact hw⟩ (by (repeat (first | exact LeF.nil _ | refine LeF.cons (Le.refl _) ?_ | refine LeF.cons (Le.int (by omega)) ?_))) (by repeat (first | exact List.Sublist.refl _ | refine List.Sublist.cons _ ?_)) ?_
    clear hw
    rintro ⟨k, Hx⟩ ⟨hk, hw⟩ K hK
    simp only at hk hw ⊢
    by_cases hkl : k < cs.length
    · have hget := List.getElem?_eq_getElem hkl
      generalize cs[k] = x at hget
      have hat := flat_at (f := chx) (n := 13) chx_len hget
      have hne : (cs.map chx).flatten ≠ [] := flat_ne chx_len (by omega) (fun e => by rw [e] at hkl; simp at hkl)
      obtain ⟨hxa, hxb, hxm⟩ := hc2 x (List.mem_of_getElem? hget)
      have htk := txCs_take hget
      have hsub := txCs_sub hget
      have hgo := fun F' H' H2 => hK F' H' (k + 1, H2)
      simp only at hgo
      clear hK hget hr2 hc2 hF
      repeat (refine A1 ⟨?_⟩; intros)
      refine Wo (ov_idxS (cs' := chx x) rfl rfl (by omega) (by omega) hat hne) ?_
      repeat (refine A1 ⟨?_⟩; intros)
      refine WfH (putW_pu hw [32, 99, 104, 97, 105, 110, 32] (by simp only [List.length_append, List.length_cons, List.length_nil]; omega)) ?_
      rintro _ Hg1 ⟨rfl, g1⟩
      refine WPL.perm List.perm_append_comm ?_
      simp only [List.cons_append, List.nil_append]
      repeat (refine A1 ⟨?_⟩; intros)
      refine WfH (ptW_pu g1 hxa (by simp only [List.length_append, List.length_cons, List.length_nil]; omega)) ?_
      rintro _ Hg2 ⟨rfl, g2⟩
      refine WPL.perm List.perm_append_comm ?_
      simp only [List.cons_append, List.nil_append]
      repeat (refine A1 ⟨?_⟩; intros)
      refine WfH (ptsW_pu g2 hxm (by simp only [List.length_append, List.length_cons, List.length_nil]; omega)) ?_
      rintro _ Hg3 ⟨rfl, g3⟩
      refine WPL.perm List.perm_append_comm ?_
      simp only [List.cons_append, List.nil_append]
      repeat (refine A1 ⟨?_⟩; intros)
      refine WfH (putW_pu g3 [32] (by simp only [List.length_append, List.length_cons, List.length_nil]; omega)) ?_
      rintro _ Hg4 ⟨rfl, g4⟩
      refine WPL.perm List.perm_append_comm ?_
      simp only [List.cons_append, List.nil_append]
      repeat (refine A1 ⟨?_⟩; intros)
      refine WfH (ptW_pu g4 hxb (by simp only [List.length_append, List.length_cons, List.length_nil]; omega)) ?_
      rintro _ Hg5 ⟨rfl, g5⟩
      refine WPL.perm List.perm_append_comm ?_
      simp only [List.cons_append, List.nil_append]
      repeat (refine A1 ⟨?_⟩; intros)
      refine WfH (putW_pu g5 [59] (by simp only [List.length_append, List.length_cons, List.length_nil]; omega)) ?_
      rintro _ Hg6 ⟨rfl, g6⟩
      refine WPL.perm List.perm_append_comm ?_
      simp only [List.cons_append, List.nil_append]
      repeat (refine A1 ⟨?_⟩; intros)
      refine hgo _ _ Hg6 ⟨by omega, ?_⟩ (by omega) (by (repeat (first | exact LeF.nil _ | refine LeF.cons (Le.refl _) ?_ | refine LeF.cons (Le.int (by omega)) ?_))) ?_
      · rw [htk]
        simp only [List.append_assoc, List.cons_append, List.nil_append] at g6 ⊢
        exact g6
      · repeat (first | exact List.Sublist.refl _ | exact List.sublist_append_left _ _ | refine List.Sublist.cons _ ?_)
    obtain rfl : k = cs.length := by omega
    clear hK hkl hk
    rw [List.take_length] at hw
    repeat (refine A1 ⟨?_⟩; intros)
    refine WfH (putW_pu hw [32, 125] (by simp only [List.length_append, List.length_cons, List.length_nil]; omega)) ?_
    rintro _ Hg1 ⟨rfl, g1⟩
    refine WPL.perm List.perm_append_comm ?_
    simp only [List.cons_append, List.nil_append]
    repeat (refine A1 ⟨?_⟩; intros)
    refine endHN _ Hg1 end0 ?_ ⟨rfl, ?_⟩
    · repeat (first | exact List.Sublist.refl _ | exact List.sublist_append_left _ _ | refine List.Sublist.cons _ ?_)
    · simp only [List.append_assoc, List.cons_append, List.nil_append] at g1 ⊢
      exact g1
end Go.Ab
/- Package grammar: the words of statements. -/
namespace Go.Ab
open Go.Proofs
set_option linter.unusedSectionVars false
set_option linter.unusedVariables false
set_option linter.unusedSimpArgs false
variable [Base]
/-- the words -/
abbrev kws : List SV := [str [], str (kw 1), str (kw 2), str (kw 3), str (kw 4), str (kw 5), str (kw 6), str (kw 7), str (kw 8), str (kw 9), str (kw 10), str (kw 11), str (kw 12), str (kw 13), str (kw 14), str (kw 15)]
theorem gword_pu (k : Nat) (h1 : 1 ≤ k) (h2 : k ≤ 15) : Pu Tryz.prog 112 [lit (.int .i64 (k : Nat))] (str (kw k)) := by
  have : k = 1 ∨ k = 2 ∨ k = 3 ∨ k = 4 ∨ k = 5 ∨ k = 6 ∨ k = 7 ∨ k = 8 ∨ k = 9 ∨ k = 10 ∨ k = 11 ∨ k = 12 ∨ k = 13 ∨ k = 14 ∨ k = 15 := by omega
  rcases this with rfl | rfl | rfl | rfl | rfl | rfl | rfl | rfl | rfl | rfl | rfl | rfl | rfl | rfl | rfl
  all_goals
    refine Pu.intro Tryz.func112 rfl (by kernel_rfl) fun C => ?_
    repeat (refine A1 ⟨?_⟩; intros)
    refine Wo (ov_buildA (e := 9) (len := 16) (cs := kws) (by kernel_rfl) (by repeat (first | exact Parts.nil | (apply Parts.cons; exact Eq.refl (lit _); infer_instance))) (by exact rfl)) ?_
    repeat (refine A1 ⟨?_⟩; intros)
    refine Wo (ov_idxA (e := 9) (len := 16) (by kernel_rfl) rfl rfl (by omega) (by omega)) ?_
    repeat (refine A1 ⟨?_⟩; intros)
    exact endR (end1 (RV.tmp rfl) (Le.refl _))
end Go.Ab
/- strconv.Itoa of a number that is not negative, by the kit's contract: its decimal digits. -/
namespace Go.Ab
open Go.Proofs
set_option linter.unusedSectionVars false
set_option linter.unusedVariables false
set_option linter.unusedSimpArgs false
variable [Base]
open Go.Shelf
def itoaR : Ren where
  f := fun x => match x with
    | 243 => 164
    | 246 => 215
    | 283 => 264
    | 284 => 265
    | 285 => 266
    | 286 => 267
    | 129 => 317
    | 317 => 316
    | 318 => 318
    | 319 => 319
    | 320 => 320
    | 337 => 361
    | 338 => 362
    | n => n
  t := fun x => match x with
    | 3 => 3
    | 9 => 9
    | 2 => 2
    | 4 => 4
    | 171 => 347
    | 0 => 0
    | 53 => 255
    | 37 => 197
    | 5 => 5
    | 173 => 350
    | 212 => 400
    | 51 => 65
    | 20 => 20
    | 213 => 401
    | 46 => 188
    | 232 => 460
    | 233 => 461
    | n => n
  g := fun x => match x with
    | 17 => 8
    | 18 => 10
    | 19 => 11
    | n => n
theorem itoaL : LaysM.n243 Tryz.prog itoaR where
  mixed := by kernel_rfl
  f129 := Tryz.func317.trans (congrArg some (by kernel_rfl))
  f243 := Tryz.func164.trans (congrArg some (by kernel_rfl))
  f246 := Tryz.func215.trans (congrArg some (by kernel_rfl))
  f283 := Tryz.func264.trans (congrArg some (by kernel_rfl))
  f284 := Tryz.func265.trans (congrArg some (by kernel_rfl))
  f285 := Tryz.func266.trans (congrArg some (by kernel_rfl))
  f286 := Tryz.func267.trans (congrArg some (by kernel_rfl))
  f317 := Tryz.func316.trans (congrArg some (by kernel_rfl))
  f318 := Tryz.func318.trans (congrArg some (by kernel_rfl))
  f319 := Tryz.func319.trans (congrArg some (by kernel_rfl))
  f320 := Tryz.func320.trans (congrArg some (by kernel_rfl))
  f337 := Tryz.func361.trans (congrArg some (by kernel_rfl))
  f338 := Tryz.func362.trans (congrArg some (by kernel_rfl))
  t0 := Tryz.underlying0
  a0 := Tryz.isAgg0
  z0 := Tryz.sizeOf0
  v0 := Tryz.zeroValue0
  t2 := Tryz.underlying2
  a2 := Tryz.isAgg2
  z2 := Tryz.sizeOf2
  v2 := Tryz.zeroValue2
  t3 := Tryz.underlying3
  a3 := Tryz.isAgg3
  z3 := Tryz.sizeOf3
  v3 := Tryz.zeroValue3
  t4 := Tryz.underlying4
  a4 := Tryz.isAgg4
  z4 := Tryz.sizeOf4
  v4 := Tryz.zeroValue4
  t5 := Tryz.underlying5
  a5 := Tryz.isAgg5
  z5 := Tryz.sizeOf5
  v5 := Tryz.zeroValue5
  t9 := Tryz.underlying9
  a9 := Tryz.isAgg9
  z9 := Tryz.sizeOf9
  v9 := Tryz.zeroValue9
  t20 := Tryz.underlying20
  a20 := Tryz.isAgg20
  z20 := Tryz.sizeOf20
  v20 := Tryz.zeroValue20
  t37 := Tryz.underlying197
  a37 := Tryz.isAgg197
  z37 := Tryz.sizeOf197
  v37 := Tryz.zeroValue197
  t46 := Tryz.underlying188
  a46 := Tryz.isAgg188
  z46 := Tryz.sizeOf188
  v46 := Tryz.zeroValue188
  t51 := Tryz.underlying65
  a51 := Tryz.isAgg65
  z51 := Tryz.sizeOf65
  v51 := Tryz.zeroValue65
  t53 := Tryz.underlying255
  a53 := Tryz.isAgg255
  z53 := Tryz.sizeOf255
  v53 := Tryz.zeroValue255
  t171 := Tryz.underlying347
  a171 := Tryz.isAgg347
  z171 := Tryz.sizeOf347
  v171 := Tryz.zeroValue347
  t173 := Tryz.underlying350
  a173 := Tryz.isAgg350
  z173 := Tryz.sizeOf350
  v173 := Tryz.zeroValue350
  t212 := Tryz.underlying400
  a212 := Tryz.isAgg400
  z212 := Tryz.sizeOf400
  v212 := Tryz.zeroValue400
  t213 := Tryz.underlying401
  a213 := Tryz.isAgg401
  z213 := Tryz.sizeOf401
  t232 := Tryz.underlying460
  a232 := Tryz.isAgg460
  z232 := Tryz.sizeOf460
  v232 := Tryz.zeroValue460
  t233 := Tryz.underlying461
  a233 := Tryz.isAgg461
  z233 := Tryz.sizeOf461
  v233 := Tryz.zeroValue461
  g17 := by kernel_rfl
  g18 := by kernel_rfl
  g19 := by kernel_rfl
  i0 := by kernel_rfl
  i2 := by kernel_rfl
  i3 := by kernel_rfl
  i4 := by kernel_rfl
  i5 := by kernel_rfl
  i9 := by kernel_rfl
  i20 := by kernel_rfl
  i37 := by kernel_rfl
  i46 := by kernel_rfl
  i51 := by kernel_rfl
  i53 := by kernel_rfl
  i171 := by kernel_rfl
  i173 := by kernel_rfl
  i212 := by kernel_rfl
  i232 := by kernel_rfl
  i233 := by kernel_rfl
  m17 := by kernel_rfl
  m18 := by kernel_rfl
  m19 := by kernel_rfl
class PowTab : Prop where
  h : ∃ (T : TypeId) (fz : Nat × Nat), Base.mem 8 = some (.cells (Lib.pow10Tab.map fun z => Value.int .u64 z).toArray T fz)
theorem decDigits_dec (n : Nat) : Lib.decDigits n = dec n := by
  induction n using Nat.strongRecOn with
  | _ n ih =>
    rw [Lib.decDigits]
    by_cases h : n < 10
    · rw [dif_pos h]
      unfold dec
      by_cases h0 : n = 0
      · subst h0; rfl
      · rw [if_neg h0, decR_pos h0, show n / 10 = 0 by omega, decR_zero, Nat.mod_eq_of_lt h]; rfl
    · rw [dif_neg h, ih (n / 10) (by omega)]
      unfold dec
      rw [if_neg (by omega), if_neg (by omega), decR_pos (show n ≠ 0 by omega), List.reverse_cons]
theorem itoa_pu [t : PowTab] (n : Nat) (hn : n ≤ 1000000) : Pu Tryz.prog 164 [lit (.int .i64 (n : Nat))] (str (dec n)) := by
  unfold Pu
  refine ⟨by kernel_rfl, fun m w vs hm ha => ?_⟩
  obtain ⟨v0, rfl, h0⟩ : ∃ v0, vs = [v0] ∧ (lit (.int .i64 (n : Nat))).p m v0 := by
    match vs, ha with
    | [v0], ha => exact ⟨v0, rfl, ha.1⟩
  rw [lit_p] at h0
  subst h0
  obtain ⟨T, fz, hg⟩ := t.h
  have hg' := hm _ _ (hm.base _ _ hg)
  have hG := show _ = some 8 from itoaL.m17
  have hc := Go.Proofs.Any.internal_strconv_Itoa itoaL (n : Int) (by omega) (by omega) w (by
    unfold Lib.TabIs World.var?
    rw [hG]
    simp only [Option.bind_some, hg'])
  refine hc.mono fun e w' ⟨he, k, os, hw⟩ => ?_
  subst he
  subst hw
  have hi : Lib.itoa (n : Int) = dec n := by
    unfold Lib.itoa
    rw [if_neg (by omega), Int.toNat_natCast, decDigits_dec]
  rw [hi]
  have hlt : ∀ b, b < w.heap.size → (Go.Sort.grow (w.drewN k) os).heap[b]? = w.heap[b]? := fun b hb => by
    show (w.heap ++ os)[b]? = w.heap[b]?
    rw [Array.getElem?_append_left hb]
  refine ⟨_, m, rfl, lit_p.2 rfl, ⟨fun b o hb => ?_, hm.base⟩, ⟨Mem.le_refl m, fun _ _ _ => rfl, rfl, rfl, rfl, ?_, fun b hb _ => hlt b hb⟩⟩
  · have h := hm _ _ hb
    rw [hlt b (Array.getElem?_eq_some_iff.1 h).1]; exact h
  · show w.heap.size ≤ (w.heap ++ os).size
    rw [Array.size_append]; omega
theorem sitoa_pu [PowTab] (n : Nat) (hn : n ≤ 1000000) : Pu Tryz.prog 114 [lit (.int .i64 (n : Nat))] (str (dec n)) := by
  have c := itoa_pu n hn
  refine Pu.intro Tryz.func114 rfl (by kernel_rfl) fun C => ?_
  repeat (first | (refine A1 ⟨?_⟩; intros) | (refine Wcx (c) ?_) | (refine Wdcx (c) ?_) | (refine Wcgx (c) ?_) | (refine Wdcgx (c) ?_))
  ((first | refine endR ?_ | refine endN ?_); exact end1 (RV.tmp rfl) (Le.refl _))
end Go.Ab
/- Package grammar: the writer writes statements that were read. -/
namespace Go.Ab
open Go.Proofs
set_option linter.unusedSectionVars false
set_option linter.unusedVariables false
set_option linter.unusedSimpArgs false
variable [Base]
set_option maxHeartbeats 32000000 in
/-- a statement that was read is found in order -/
theorem chk_pu {s : Stm} (hs : StB s) : PuH Tryz.prog 111 [ag (stx s)] [] (fun r H' => r = Ab.tup [] ∧ H' = []) noX := by
  have c0 : Pu Tryz.prog 161 [pr zz zz] (lit (.bool true)) := zeroPoint_pu zz zz (zz_ok 0) (zz_ok 0) (by omega)
  cases hs with
  | bd a n h =>
    have c1 := gword_pu 1 (by decide) (by decide)
    dsimp only [stx, stm0]
    refine PuH.intro Tryz.func111 rfl (by kernel_rfl) fun C hC => ?_
    repeat (first | (refine A1 ⟨?_⟩; intros) | (refine Wcx (c1) ?_) | (refine Wdcx (c1) ?_) | (refine Wcgx (c1) ?_) | (refine Wdcgx (c1) ?_))
    repeat (first | (refine A1 ⟨?_⟩; intros) | refine WneedT ?_ | refine Wc c0 ?_ | refine Wcg c0 ?_)
    exact endHN _ _ end0 (List.nil_sublist _) ⟨rfl, rfl⟩
  | ring a nm ps hn hp =>
    have c1 := gword_pu 2 (by decide) (by decide)
    dsimp only [stx, stm0]
    refine PuH.intro Tryz.func111 rfl (by kernel_rfl) fun C hC => ?_
    repeat (first | (refine A1 ⟨?_⟩; intros) | (refine Wcx (c1) ?_) | (refine Wdcx (c1) ?_) | (refine Wcgx (c1) ?_) | (refine Wdcgx (c1) ?_))
    repeat (first | (refine A1 ⟨?_⟩; intros) | refine WneedT ?_ | refine Wc c0 ?_ | refine Wcg c0 ?_)
    exact endHN _ _ end0 (List.nil_sublist _) ⟨rfl, rfl⟩
  | reg a nm fl n1 l hn hf h1 hl hll =>
    have c1 := gword_pu 3 (by decide) (by decide)
    dsimp only [stx, stm0]
    refine PuH.intro Tryz.func111 rfl (by kernel_rfl) fun C hC => ?_
    repeat (first | (refine A1 ⟨?_⟩; intros) | (refine Wcx (c1) ?_) | (refine Wdcx (c1) ?_) | (refine Wcgx (c1) ?_) | (refine Wdcgx (c1) ?_))
    repeat (first | (refine A1 ⟨?_⟩; intros) | refine WneedT ?_ | refine Wc c0 ?_ | refine Wcg c0 ?_)
    exact endHN _ _ end0 (List.nil_sublist _) ⟨rfl, rfl⟩
  | outl a nm o hn ho =>
    have c1 := gword_pu 4 (by decide) (by decide)
    dsimp only [stx, stm0]
    refine PuH.intro Tryz.func111 rfl (by kernel_rfl) fun C hC => ?_
    repeat (first | (refine A1 ⟨?_⟩; intros) | (refine Wcx (c1) ?_) | (refine Wdcx (c1) ?_) | (refine Wcgx (c1) ?_) | (refine Wdcgx (c1) ?_))
    repeat (first | (refine A1 ⟨?_⟩; intros) | refine WneedT ?_ | refine Wc c0 ?_ | refine Wcg c0 ?_)
    exact endHN _ _ end0 (List.nil_sublist _) ⟨rfl, rfl⟩
  | lt a nm A hn hA =>
    have c1 := gword_pu 5 (by decide) (by decide)
    dsimp only [stx, stm0]
    refine PuH.intro Tryz.func111 rfl (by kernel_rfl) fun C hC => ?_
    repeat (first | (refine A1 ⟨?_⟩; intros) | (refine Wcx (c1) ?_) | (refine Wdcx (c1) ?_) | (refine Wcgx (c1) ?_) | (refine Wdcgx (c1) ?_))
    repeat (first | (refine A1 ⟨?_⟩; intros) | refine WneedT ?_ | refine Wc c0 ?_ | refine Wcg c0 ?_)
    exact endHN _ _ end0 (List.nil_sublist _) ⟨rfl, rfl⟩
  | qry a k A hk hA =>
    rcases hk with rfl | rfl | rfl | rfl | rfl | rfl | rfl
    · have c1 := gword_pu 6 (by decide) (by decide)
      dsimp only [stx, stm0]
      refine PuH.intro Tryz.func111 rfl (by kernel_rfl) fun C hC => ?_
      repeat (first | (refine A1 ⟨?_⟩; intros) | (refine Wcx (c1) ?_) | (refine Wdcx (c1) ?_) | (refine Wcgx (c1) ?_) | (refine Wdcgx (c1) ?_))
      repeat (first | (refine A1 ⟨?_⟩; intros) | refine WneedT ?_ | refine Wc c0 ?_ | refine Wcg c0 ?_)
      exact endHN _ _ end0 (List.nil_sublist _) ⟨rfl, rfl⟩
    · have c1 := gword_pu 7 (by decide) (by decide)
      dsimp only [stx, stm0]
      refine PuH.intro Tryz.func111 rfl (by kernel_rfl) fun C hC => ?_
      repeat (first | (refine A1 ⟨?_⟩; intros) | (refine Wcx (c1) ?_) | (refine Wdcx (c1) ?_) | (refine Wcgx (c1) ?_) | (refine Wdcgx (c1) ?_))
      repeat (first | (refine A1 ⟨?_⟩; intros) | refine WneedT ?_ | refine Wc c0 ?_ | refine Wcg c0 ?_)
      exact endHN _ _ end0 (List.nil_sublist _) ⟨rfl, rfl⟩
    · have c1 := gword_pu 9 (by decide) (by decide)
      dsimp only [stx, stm0]
      refine PuH.intro Tryz.func111 rfl (by kernel_rfl) fun C hC => ?_
      repeat (first | (refine A1 ⟨?_⟩; intros) | (refine Wcx (c1) ?_) | (refine Wdcx (c1) ?_) | (refine Wcgx (c1) ?_) | (refine Wdcgx (c1) ?_))
      repeat (first | (refine A1 ⟨?_⟩; intros) | refine WneedT ?_ | refine Wc c0 ?_ | refine Wcg c0 ?_)
      exact endHN _ _ end0 (List.nil_sublist _) ⟨rfl, rfl⟩
    · have c1 := gword_pu 12 (by decide) (by decide)
      dsimp only [stx, stm0]
      refine PuH.intro Tryz.func111 rfl (by kernel_rfl) fun C hC => ?_
      repeat (first | (refine A1 ⟨?_⟩; intros) | (refine Wcx (c1) ?_) | (refine Wdcx (c1) ?_) | (refine Wcgx (c1) ?_) | (refine Wdcgx (c1) ?_))
      repeat (first | (refine A1 ⟨?_⟩; intros) | refine WneedT ?_ | refine Wc c0 ?_ | refine Wcg c0 ?_)
      exact endHN _ _ end0 (List.nil_sublist _) ⟨rfl, rfl⟩
    · have c1 := gword_pu 13 (by decide) (by decide)
      dsimp only [stx, stm0]
      refine PuH.intro Tryz.func111 rfl (by kernel_rfl) fun C hC => ?_
      repeat (first | (refine A1 ⟨?_⟩; intros) | (refine Wcx (c1) ?_) | (refine Wdcx (c1) ?_) | (refine Wcgx (c1) ?_) | (refine Wdcgx (c1) ?_))
      repeat (first | (refine A1 ⟨?_⟩; intros) | refine WneedT ?_ | refine Wc c0 ?_ | refine Wcg c0 ?_)
      exact endHN _ _ end0 (List.nil_sublist _) ⟨rfl, rfl⟩
    · have c1 := gword_pu 14 (by decide) (by decide)
      dsimp only [stx, stm0]
      refine PuH.intro Tryz.func111 rfl (by kernel_rfl) fun C hC => ?_
      repeat (first | (refine A1 ⟨?_⟩; intros) | (refine Wcx (c1) ?_) | (refine Wdcx (c1) ?_) | (refine Wcgx (c1) ?_) | (refine Wdcgx (c1) ?_))
      repeat (first | (refine A1 ⟨?_⟩; intros) | refine WneedT ?_ | refine Wc c0 ?_ | refine Wcg c0 ?_)
      exact endHN _ _ end0 (List.nil_sublist _) ⟨rfl, rfl⟩
    · have c1 := gword_pu 15 (by decide) (by decide)
      dsimp only [stx, stm0]
      refine PuH.intro Tryz.func111 rfl (by kernel_rfl) fun C hC => ?_
      repeat (first | (refine A1 ⟨?_⟩; intros) | (refine Wcx (c1) ?_) | (refine Wdcx (c1) ?_) | (refine Wcgx (c1) ?_) | (refine Wdcgx (c1) ?_))
      repeat (first | (refine A1 ⟨?_⟩; intros) | refine WneedT ?_ | refine Wc c0 ?_ | refine Wcg c0 ?_)
      exact endHN _ _ end0 (List.nil_sublist _) ⟨rfl, rfl⟩
  | cls a A p hA hp =>
    have c1 := gword_pu 8 (by decide) (by decide)
    dsimp only [stx, stm0]
    refine PuH.intro Tryz.func111 rfl (by kernel_rfl) fun C hC => ?_
    repeat (first | (refine A1 ⟨?_⟩; intros) | (refine Wcx (c1) ?_) | (refine Wdcx (c1) ?_) | (refine Wcgx (c1) ?_) | (refine Wdcgx (c1) ?_))
    repeat (first | (refine A1 ⟨?_⟩; intros) | refine WneedT ?_ | refine Wc c0 ?_ | refine Wcg c0 ?_)
    exact endHN _ _ end0 (List.nil_sublist _) ⟨rfl, rfl⟩
  | two a k A B hk hA hB =>
    rcases hk with rfl | rfl
    · have c1 := gword_pu 10 (by decide) (by decide)
      dsimp only [stx, stm0]
      refine PuH.intro Tryz.func111 rfl (by kernel_rfl) fun C hC => ?_
      repeat (first | (refine A1 ⟨?_⟩; intros) | (refine Wcx (c1) ?_) | (refine Wdcx (c1) ?_) | (refine Wcgx (c1) ?_) | (refine Wdcgx (c1) ?_))
      repeat (first | (refine A1 ⟨?_⟩; intros) | refine WneedT ?_ | refine Wc c0 ?_ | refine Wcg c0 ?_)
      exact endHN _ _ end0 (List.nil_sublist _) ⟨rfl, rfl⟩
    · have c1 := gword_pu 11 (by decide) (by decide)
      dsimp only [stx, stm0]
      refine PuH.intro Tryz.func111 rfl (by kernel_rfl) fun C hC => ?_
      repeat (first | (refine A1 ⟨?_⟩; intros) | (refine Wcx (c1) ?_) | (refine Wdcx (c1) ?_) | (refine Wcgx (c1) ?_) | (refine Wdcgx (c1) ?_))
      repeat (first | (refine A1 ⟨?_⟩; intros) | refine WneedT ?_ | refine Wc c0 ?_ | refine Wcg c0 ?_)
      exact endHN _ _ end0 (List.nil_sublist _) ⟨rfl, rfl⟩
end Go.Ab
