/- Texts laid one behind the other: SameE, Bal, GLexR, RExpr, PExpr, PTx. -/
import Derived.Test.YtebghnhocigmlaaGreatDoorB26
import Derived.Test.YtebghnhocigmlaaGreatDoorB24
import Derived.Test.YtebghnhocigmlaaGreatDoorB15
import Derived.Test.YtebghnhocigmlaaGreatDoorB16
import Derived.Test.YtebghnhocigmlaaGreatDoorB23
/- The reference's equality of scripts: equal ones are found equal (positions do not count). -/
namespace Go.Ab
open Go.Proofs
set_option linter.unusedSectionVars false
set_option linter.unusedVariables false
set_option linter.unusedSimpArgs false
variable [Base]
section
variable {P : Program}
attribute [local semireducible] Pu in
theorem Pu.ofLenS {f : FuncId} {cs : List SV} {n : Nat} {rest : List SV} {res : SV} (hb : bodied P f = true) (k : n ≤ 9223372036854775807 → Pu P f (sl cs n :: rest) res) : Pu P f (sl cs n :: rest) res :=
  ⟨hb, fun m w vs h1 h2 => by
    have hn : n ≤ 9223372036854775807 := by
      match vs, h2 with
      | v :: vs, h2 =>
        have h := h2.1
        unfold sl at h
        obtain ⟨a, cap, _, g1, g2, _⟩ := h
        have : maxLen = 9223372036854775807 := by decide
        omega
    exact (k hn).2 m w vs h1 h2⟩
theorem Pu.ofLen {f : FuncId} {ds : List Nat} {rest : List SV} {res : SV} (hb : bodied P f = true) (k : ds.length ≤ 9223372036854775807 → Pu P f (dg ds :: rest) res) : Pu P f (dg ds :: rest) res := by
  rw [dg_sl]
  refine Pu.ofLenS hb fun h => ?_
  rw [← dg_sl]
  exact k h
end
section
variable {P : Program} {C : Ctx} {n : Nat} {F : Fr} {H : LH} {Q : Exit → Fr → LH → Prop}
/-- a slice is no longer than a number of type int -/
theorem WP.lenS {c : Code} {d k : Nat} {cs : List SV} (hd : F d = sl cs k) (h : k ≤ 9223372036854775807 → WP P C n c Q F H) : WP P C n c Q F H := by
  unfold WP at *
  intro a w hs
  refine h ?_ a w hs
  obtain ⟨_, _, m, _, _, _, _, h5⟩ := hs
  have h0 := h5 d
  rw [hd] at h0
  unfold sl at h0
  obtain ⟨_, cap, _, g1, g2, _⟩ := h0
  have : maxLen = 9223372036854775807 := by decide
  omega
end
theorem sameN_e (xs : List Nat) : Pu Tryz.prog 158 [dg xs, dg xs] (lit (.bool true)) := by
  refine Pu.ofLen (by kernel_rfl) fun hx => ?_
  refine Pu.intro Tryz.func158 rfl (by kernel_rfl) fun C => ?_
  repeat (refine A1 ⟨?_⟩; intros)
  refine WP.loop (ι := Nat) (fun k => k ≤ xs.length) (fun k => xs.length - k) (fun k => fm [(0, dg xs), (1, dg xs), (11, dg xs), (12, lit (.int .i64 xs.length)), (13, lit (.int .i64 k))]) (fun _ => []) 0
    (Nat.zero_le _) (by (repeat (first | exact LeF.nil _ | refine LeF.cons (Le.refl _) ?_ | refine LeF.cons (Le.int (by omega)) ?_))) rfl ?_
  rintro k hk K hK
  by_cases hkl : k < xs.length
  · repeat (refine A1 ⟨?_⟩; intros)
    exact hK _ _ (k + 1) (by omega) (by omega) (by (repeat (first | exact LeF.nil _ | refine LeF.cons (Le.refl _) ?_ | refine LeF.cons (Le.int (by omega)) ?_))) rfl
  · have hke : k = xs.length := by omega
    subst hke
    repeat (refine A1 ⟨?_⟩; intros)
    exact endR (end1 (RV.tmp rfl) (Le.refl _))
theorem sameI_e (s : Bool) (xs : List Nat) : Pu Tryz.prog 157 [raw s xs, raw s xs] (lit (.bool true)) := by
  cases s <;>
  · refine Pu.intro Tryz.func157 rfl (by kernel_rfl) fun C => ?_
    repeat (first | (refine A1 ⟨?_⟩; intros) | (refine Wcx (sameN_e _) ?_) | (refine Wdcx (sameN_e _) ?_) | (refine Wcgx (sameN_e _) ?_) | (refine Wdcgx (sameN_e _) ?_))
    ((first | refine endR ?_ | refine endN ?_); exact end1 (RV.tmp rfl) (Le.refl _))
theorem sameQ_e (s : Bool) (xs ys : List Nat) : Pu Tryz.prog 105 [qraw s xs ys, qraw s xs ys] (lit (.bool true)) := by
  have c1 := sameI_e s xs
  have c2 := sameN_e ys
  refine Pu.intro Tryz.func105 rfl (by kernel_rfl) fun C => ?_
  repeat (first | (refine A1 ⟨?_⟩; intros) | (refine Wcx (c1) ?_) | (refine Wdcx (c1) ?_) | (refine Wcgx (c1) ?_) | (refine Wdcgx (c1) ?_) | (refine Wcx (c2) ?_) | (refine Wdcx (c2) ?_) | (refine Wcgx (c2) ?_) | (refine Wdcgx (c2) ?_))
  ((first | refine endR ?_ | refine endN ?_); exact end1 (RV.tmp rfl) (Le.refl _))
theorem sameP_e (a b : RQ) : Pu Tryz.prog 57 [pr a b, pr a b] (lit (.bool true)) := by
  have c1 := sameQ_e a.s a.n a.d
  have c2 := sameQ_e b.s b.n b.d
  refine Pu.intro Tryz.func57 rfl (by kernel_rfl) fun C => ?_
  repeat (first | (refine A1 ⟨?_⟩; intros) | (refine Wcx (c1) ?_) | (refine Wdcx (c1) ?_) | (refine Wcgx (c1) ?_) | (refine Wdcgx (c1) ?_) | (refine Wcx (c2) ?_) | (refine Wdcx (c2) ?_) | (refine Wcgx (c2) ?_) | (refine Wdcgx (c2) ?_))
  ((first | refine endR ?_ | refine endN ?_); exact end1 (RV.tmp rfl) (Le.refl _))
theorem ptx_len (x : Rat × Rat) : (ptx x).length = 6 := rfl
theorem samePs_e (ps : List (Rat × Rat)) : Pu Tryz.prog 54 [ptsS ps, ptsS ps] (lit (.bool true)) := by
  refine Pu.ofLenS (by kernel_rfl) fun hl => ?_
  refine Pu.intro Tryz.func54 rfl (by kernel_rfl) fun C => ?_
  repeat (refine A1 ⟨?_⟩; intros)
  refine WP.loopS (ι := Nat) (fun k => k ≤ ps.length) (fun k => ps.length - k)
    (fun k => (fm [(0, ptsS ps), (1, ptsS ps), (12, lit (.int .i64 ps.length)), (13, lit (.int .i64 k))])) (fun _ => []) 0 (Nat.zero_le _) (by (repeat (first | exact LeF.nil _ | refine LeF.cons (Le.refl _) ?_ | refine LeF.cons (Le.int (by omega)) ?_))) (List.nil_sublist _) ?_
  rintro k hk K hK
  by_cases hkl : k < ps.length
  · have hget := List.getElem?_eq_getElem hkl
    generalize ps[k] = x at hget
    have hat := flat_at (f := ptx) (n := 6) ptx_len hget
    have hne : (ps.map ptx).flatten ≠ [] := flat_ne ptx_len (by omega) (fun e => by rw [e] at hkl; simp at hkl)
    have c : Pu Tryz.prog 57 [ag (ptx x), ag (ptx x)] (lit (.bool true)) := sameP_e (RQ.of x.1) (RQ.of x.2)
    have hgo := fun F' H' => hK F' H' (k + 1) (by omega) (by omega)
    clear hK hget
    repeat (first | (refine AS ⟨?_⟩; intros) | (refine O1 ⟨?_⟩; intros))
    refine WdN 10 ?_
    repeat (refine A1 ⟨?_⟩; intros)
    refine Wdo (ov_idxS (cs' := ptx x) rfl rfl (by omega) (by omega) hat hne) ?_
    repeat (refine A1 ⟨?_⟩; intros)
    refine Wdo (ov_idxS (cs' := ptx x) rfl rfl (by omega) (by omega) hat hne) ?_
    repeat (first | (refine A1 ⟨?_⟩; intros) | (refine Wcx (c) ?_) | (refine Wdcx (c) ?_) | (refine Wcgx (c) ?_) | (refine Wdcgx (c) ?_))
    exact hgo _ _ (by (repeat (first | exact LeF.nil _ | refine LeF.cons (Le.refl _) ?_ | refine LeF.cons (Le.int (by omega)) ?_))) (List.nil_sublist _)
  · obtain rfl : k = ps.length := by omega
    clear hK
    repeat (refine A1 ⟨?_⟩; intros)
    ((first | refine endR ?_ | refine endN ?_); exact end1 (RV.tmp rfl) (Le.refl _))
theorem chx_len (c : Chn) : (chx c).length = 13 := rfl
theorem rgx_len (r : List (Rat × Rat)) : (rgx r).length = 1 := rfl
set_option maxHeartbeats 8000000 in
theorem sameOl_e (far : Bool) (rs : List (List (Rat × Rat))) (cs : List Chn) :
    Pu Tryz.prog 55 [ag [lit (.bool far), rgsS rs, chsS cs], ag [lit (.bool far), rgsS rs, chsS cs]] (lit (.bool true)) := by
  have hfar : (far != far) = false := by cases far <;> rfl
  refine Pu.intro Tryz.func55 rfl (by kernel_rfl) fun C => ?_
  repeat (refine A1 ⟨?_⟩; intros)
  rename_i b2 b3
  rw [hfar]
  repeat (refine A1 ⟨?_⟩; intros)
  refine WP.lenS (d := 33) rfl fun hr => ?_
  refine WP.loopS (ι := Nat) (fun k => k ≤ rs.length) (fun k => rs.length - k)
    (fun k => (fm [(2, lit (.pointer (some ⟨b2, 0, none⟩))), (3, lit (.pointer (some ⟨b3, 0, none⟩))), (34, lit (.int .i64 rs.length)), (35, lit (.int .i64 k))])) (fun _ => [(b3, olT, [lit (.bool far), rgsS rs, chsS cs]), (b2, olT, [lit (.bool far), rgsS rs, chsS cs])]) 0 (Nat.zero_le _) (by (repeat (first | exact LeF.nil _ | refine LeF.cons (Le.refl _) ?_ | refine LeF.cons (Le.int (by omega)) ?_))) (List.Sublist.refl _) ?_
  rintro k hk K hK
  by_cases hkl : k < rs.length
  · have hget := List.getElem?_eq_getElem hkl
    generalize rs[k] = x at hget
    have hat := flat_at (f := rgx) (n := 1) rgx_len hget
    have hne : (rs.map rgx).flatten ≠ [] := flat_ne rgx_len (by omega) (fun e => by rw [e] at hkl; simp at hkl)
    have c := samePs_e x
    have hgo := fun F' H' => hK F' H' (k + 1) (by omega) (by omega)
    clear hK hget
    repeat (first | (refine AS ⟨?_⟩; intros) | (refine O1 ⟨?_⟩; intros))
    refine WdN 12 ?_
    repeat (refine A1 ⟨?_⟩; intros)
    refine Wdo (ov_idxS (cs' := rgx x) rfl rfl (by omega) (by omega) hat hne) ?_
    repeat (refine A1 ⟨?_⟩; intros)
    refine Wdo (ov_idxS (cs' := rgx x) rfl rfl (by omega) (by omega) hat hne) ?_
    repeat (first | (refine A1 ⟨?_⟩; intros) | (refine Wcx (c) ?_) | (refine Wdcx (c) ?_) | (refine Wcgx (c) ?_) | (refine Wdcgx (c) ?_))
    exact hgo _ _ (by (repeat (first | exact LeF.nil _ | refine LeF.cons (Le.refl _) ?_ | refine LeF.cons (Le.int (by omega)) ?_))) (List.Sublist.refl _)
  obtain rfl : k = rs.length := by omega
  clear hK hkl
  repeat (refine A1 ⟨?_⟩; intros)
  refine WP.lenS (d := 52) rfl fun hc => ?_
  refine WP.loopS (ι := Nat) (fun k => k ≤ cs.length) (fun k => cs.length - k)
    (fun k => (fm [(2, lit (.pointer (some ⟨b2, 0, none⟩))), (3, lit (.pointer (some ⟨b3, 0, none⟩))), (53, lit (.int .i64 cs.length)), (54, lit (.int .i64 k))])) (fun _ => [(b3, olT, [lit (.bool far), rgsS rs, chsS cs]), (b2, olT, [lit (.bool far), rgsS rs, chsS cs])]) 0 (Nat.zero_le _) (by (repeat (first | exact LeF.nil _ | refine LeF.cons (Le.refl _) ?_ | refine LeF.cons (Le.int (by omega)) ?_))) (List.Sublist.refl _) ?_
  rintro k hk K hK
  by_cases hkl : k < cs.length
  · have hget := List.getElem?_eq_getElem hkl
    generalize cs[k] = x at hget
    have hat := flat_at (f := chx) (n := 13) chx_len hget
    have hne : (cs.map chx).flatten ≠ [] := flat_ne chx_len (by omega) (fun e => by rw [e] at hkl; simp at hkl)
    have c := samePs_e x.m
    have c1 : Pu Tryz.prog 57 [ag (ptx x.a), ag (ptx x.a)] (lit (.bool true)) := sameP_e (RQ.of x.a.1) (RQ.of x.a.2)
    have c2 : Pu Tryz.prog 57 [ag (ptx x.b), ag (ptx x.b)] (lit (.bool true)) := sameP_e (RQ.of x.b.1) (RQ.of x.b.2)
    have hgo := fun F' H' => hK F' H' (k + 1) (by omega) (by omega)
    clear hK hget
    repeat (first | (refine AS ⟨?_⟩; intros) | (refine O1 ⟨?_⟩; intros))
    refine WdL 12 1 ?_
    repeat (refine A1 ⟨?_⟩; intros)
    refine Wdo (ov_idxS (cs' := chx x) rfl rfl (by omega) (by omega) hat hne) ?_
    repeat (refine A1 ⟨?_⟩; intros)
    refine Wdo (ov_idxS (cs' := chx x) rfl rfl (by omega) (by omega) hat hne) ?_
    repeat (refine A1 ⟨?_⟩; intros)
    refine dL2 fun b7 b8 => ?_
    refine Gs (sv := ag (chx x)) (cs' := chx x) rfl rfl rfl (by first | exact .here _ | exact .there _ (.here _)) rfl rfl ?_ ?_
    · (repeat (first | exact LOk.nil | refine Lsk ?_ | refine Lcv ?_ | refine Lcv ?_ (hop := ov_idxS (cs' := chx x) rfl rfl (by omega) (by omega) hat hne)))
    refine Gn ?_ ?_
    · (repeat (first | exact LOk.nil | refine Lsk ?_ | refine Lcv ?_ | refine Lcv ?_ (hop := ov_idxS (cs' := chx x) rfl rfl (by omega) (by omega) hat hne)))
    repeat (first | (refine A1 ⟨?_⟩; intros) | (refine Wcx (c) ?_) | (refine Wdcx (c) ?_) | (refine Wcgx (c) ?_) | (refine Wdcgx (c) ?_) | (refine Wcx (c1) ?_) | (refine Wdcx (c1) ?_) | (refine Wcgx (c1) ?_) | (refine Wdcgx (c1) ?_) | (refine Wcx (c2) ?_) | (refine Wdcx (c2) ?_) | (refine Wcgx (c2) ?_) | (refine Wdcgx (c2) ?_))
    exact hgo _ _ (by (repeat (first | exact LeF.nil _ | refine LeF.cons (Le.refl _) ?_ | refine LeF.cons (Le.int (by omega)) ?_))) (by repeat (first | exact List.Sublist.refl _ | refine List.Sublist.cons _ ?_))
  obtain rfl : k = cs.length := by omega
  clear hK hkl
  repeat (refine A1 ⟨?_⟩; intros)
  ((first | refine endR ?_ | refine endN ?_); exact end1 (RV.tmp rfl) (Le.refl _))
theorem clr_eq {n m : Nd} (h : n.clr = m.clr) : m = { n with ln := m.ln, cl := m.cl } := by
  cases n; cases m
  simp only [Nd.clr, Nd.mk.injEq] at h ⊢
  simp only [h, and_self]
set_option maxHeartbeats 4000000 in
theorem sameEx_e (ns ms : List Nd) (h : clrL ns = clrL ms) : Pu Tryz.prog 56 [exS ns, exS ms, lit (.bool false)] (lit (.bool true)) := by
  have hl := clrL_len h
  refine Pu.ofLenS (by kernel_rfl) fun hl2 => ?_
  refine Pu.intro Tryz.func56 rfl (by kernel_rfl) fun C => ?_
  repeat (refine A1 ⟨?_⟩; intros)
  refine WP.loopS (ι := Nat) (fun k => k ≤ ns.length) (fun k => ns.length - k)
    (fun k => (fm [(1, exS ms), (2, lit (.bool false)), (15, exS ns), (16, lit (.int .i64 ns.length)), (17, lit (.int .i64 k))])) (fun _ => []) 0 (Nat.zero_le _) (by (repeat (first | exact LeF.nil _ | refine LeF.cons (Le.refl _) ?_ | refine LeF.cons (Le.int (by omega)) ?_))) (List.nil_sublist _) ?_
  rintro k hk K hK
  by_cases hkl : k < ns.length
  · have hget1 := List.getElem?_eq_getElem hkl
    have hget2 := List.getElem?_eq_getElem (l := ms) (i := k) (by omega)
    have hclr : (ns[k]).clr = (ms[k]'(by omega)).clr := by
      have h1 : (clrL ns)[k]? = (clrL ms)[k]? := by rw [h]
      simp only [clrL, List.getElem?_map, hget1, hget2, Option.map_some, Option.some.injEq] at h1
      exact h1
    generalize ns[k] = n at hget1 hclr
    generalize ms[k] = m at hget2 hclr
    have hm := clr_eq hclr
    have hat1 := flat_at (f := ndx) (n := 19) ndx_len hget1
    have hne1 : (ns.map ndx).flatten ≠ [] := flat_ne ndx_len (by omega) (fun e => by rw [e] at hkl; simp at hkl)
    have hat2 := flat_at (f := ndx) (n := 19) ndx_len hget2
    have hne2 : (ms.map ndx).flatten ≠ [] := flat_ne ndx_len (by omega) (fun e => by rw [e] at hget2; simp at hget2)
    have p1 := sameP_e n.a n.b
    have p2 := sameP_e n.c n.e
    have hgo := fun F' H' => hK F' H' (k + 1) (by omega) (by omega)
    generalize m.ln = ml at hm
    generalize m.cl = mc at hm
    subst hm
    clear hK hget1 hget2 hclr h
    dsimp only [ndx] at hat2
    repeat (refine A1 ⟨?_⟩; intros)
    refine Wo (ov_idxS (cs' := ndx n) rfl rfl (by omega) (by omega) hat1 hne1) ?_
    repeat (refine A1 ⟨?_⟩; intros)
    refine Wo (ov_idxS rfl rfl (by omega) (by omega) hat2 hne2) ?_
    have q2 : n.nm = n.nm := rfl
    repeat (first | (refine A1 ⟨?_⟩; intros) | (refine Wcx (p1) ?_) | (refine Wdcx (p1) ?_) | (refine Wcgx (p1) ?_) | (refine Wdcgx (p1) ?_) | (refine Wcx (p2) ?_) | (refine Wdcx (p2) ?_) | (refine Wcgx (p2) ?_) | (refine Wdcgx (p2) ?_))
    exact hgo _ _ (by (repeat (first | exact LeF.nil _ | refine LeF.cons (Le.refl _) ?_ | refine LeF.cons (Le.int (by omega)) ?_))) (List.nil_sublist _)
  · obtain rfl : k = ns.length := by omega
    clear hK
    repeat (refine A1 ⟨?_⟩; intros)
    ((first | refine endR ?_ | refine endN ?_); exact end1 (RV.tmp rfl) (Le.refl _))
theorem nmx_len (r : List UInt8) : (nmx r).length = 1 := rfl
set_option maxHeartbeats 8000000 in
theorem sameSt_e (s t : Stm) (h : SS s t) : Pu Tryz.prog 29 [ag (stx s), ag (stx t), lit (.bool false)] (lit (.bool true)) := by
  have h' : s.clr = t.clr := h
  have he1 : clrL s.e1 = clrL t.e1 := congrArg Stm.e1 h'
  have he2 : clrL s.e2 = clrL t.e2 := congrArg Stm.e2 h'
  obtain ⟨sk, sl', sc, nm, bd, ps, fl, nms, ⟨far, rs, cs⟩, e1, e2, px, py⟩ := s
  obtain ⟨tk, tl, tc, nm', bd', ps', fl', nms', ⟨far', rs', cs'⟩, f1, f2, px', py'⟩ := t
  simp only [Stm.clr, Stm.mk.injEq, Otl.mk.injEq] at h'
  obtain ⟨rfl, -, -, rfl, rfl, rfl, rfl, rfl, ⟨rfl, rfl, rfl⟩, -, -, rfl, rfl⟩ := h'
  simp only at he1 he2
  have q2 : nm = nm := rfl
  have c1 := samePs_e ps
  have c2 := sameOl_e far rs cs
  have c3 := sameEx_e e1 f1 he1
  have c4 := sameEx_e e2 f2 he2
  have c5 := sameP_e px py
  clear h he1 he2
  show Pu _ _ [ag [lit (.int .i64 (sk : Nat)), lit (.int .i64 (sl' : Nat)), lit (.int .i64 (sc : Nat)), str nm, lit (.int .i64 (bd : Nat)), ptsS ps, lit (.int .i64 (fl : Nat)), nmsS nms, lit (.bool far), rgsS rs, chsS cs, exS e1, exS e2, lit (.bool px.s), dg px.n, dg px.d, lit (.bool py.s), dg py.n, dg py.d],
    ag [lit (.int .i64 (sk : Nat)), lit (.int .i64 (tl : Nat)), lit (.int .i64 (tc : Nat)), str nm, lit (.int .i64 (bd : Nat)), ptsS ps, lit (.int .i64 (fl : Nat)), nmsS nms, lit (.bool far), rgsS rs, chsS cs, exS f1, exS f2, lit (.bool px.s), dg px.n, dg px.d, lit (.bool py.s), dg py.n, dg py.d], lit (.bool false)] _
  refine Pu.intro Tryz.func29 rfl (by kernel_rfl) fun C => ?_
  repeat (refine A1 ⟨?_⟩; intros)
  rename_i b3 b4
  refine WP.lenS (d := 61) rfl fun hn => ?_
  refine WP.loopS (ι := Nat) (fun k => k ≤ nms.length) (fun k => nms.length - k)
    (fun k => (fm [(2, lit (.bool false)), (3, lit (.pointer (some ⟨b3, 0, none⟩))), (4, lit (.pointer (some ⟨b4, 0, none⟩))), (62, lit (.int .i64 nms.length)), (63, lit (.int .i64 k))]))
    (fun _ => [(b4, stT, [lit (.int .i64 (sk : Nat)), lit (.int .i64 (tl : Nat)), lit (.int .i64 (tc : Nat)), str nm, lit (.int .i64 (bd : Nat)), ptsS ps, lit (.int .i64 (fl : Nat)), nmsS nms, lit (.bool far), rgsS rs, chsS cs, exS f1, exS f2, lit (.bool px.s), dg px.n, dg px.d, lit (.bool py.s), dg py.n, dg py.d]),
      (b3, stT, [lit (.int .i64 (sk : Nat)), lit (.int .i64 (sl' : Nat)), lit (.int .i64 (sc : Nat)), str nm, lit (.int .i64 (bd : Nat)), ptsS ps, lit (.int .i64 (fl : Nat)), nmsS nms, lit (.bool far), rgsS rs, chsS cs, exS e1, exS e2, lit (.bool px.s), dg px.n, dg px.d, lit (.bool py.s), dg py.n, dg py.d])]) 0 (Nat.zero_le _) (by (repeat (first | exact LeF.nil _ | refine LeF.cons (Le.refl _) ?_ | refine LeF.cons (Le.int (by omega)) ?_))) (List.Sublist.refl _) ?_
  rintro k hk K hK
  by_cases hkl : k < nms.length
  · have hget := List.getElem?_eq_getElem hkl
    generalize nms[k] = x at hget
    have hat := flat_at (f := nmx) (n := 1) nmx_len hget
    have hne : (nms.map nmx).flatten ≠ [] := flat_ne nmx_len (by omega) (fun e => by rw [e] at hkl; simp at hkl)
    have q3 : x = x := rfl
    have hgo := fun F' H' => hK F' H' (k + 1) (by omega) (by omega)
    clear hK hget c1 c2 c3 c4 c5
    repeat (first | (refine AS ⟨?_⟩; intros) | (refine O1 ⟨?_⟩; intros))
    refine WdN 11 ?_
    repeat (refine A1 ⟨?_⟩; intros)
    refine Wdo (ov_idxS (cs' := nmx x) rfl rfl (by omega) (by omega) hat hne) ?_
    repeat (refine A1 ⟨?_⟩; intros)
    refine Wdo (ov_idxS (cs' := nmx x) rfl rfl (by omega) (by omega) hat hne) ?_
    repeat (refine A1 ⟨?_⟩; intros)
    exact hgo _ _ (by (repeat (first | exact LeF.nil _ | refine LeF.cons (Le.refl _) ?_ | refine LeF.cons (Le.int (by omega)) ?_))) (List.Sublist.refl _)
  obtain rfl : k = nms.length := by omega
  clear hK hkl
  repeat (first | (refine A1 ⟨?_⟩; intros) | (refine Wcx (c1) ?_) | (refine Wdcx (c1) ?_) | (refine Wcgx (c1) ?_) | (refine Wdcgx (c1) ?_) | (refine Wcx (c2) ?_) | (refine Wdcx (c2) ?_) | (refine Wcgx (c2) ?_) | (refine Wdcgx (c2) ?_) | (refine Wcx (c3) ?_) | (refine Wdcx (c3) ?_) | (refine Wcgx (c3) ?_) | (refine Wdcgx (c3) ?_) | (refine Wcx (c4) ?_) | (refine Wdcx (c4) ?_) | (refine Wcgx (c4) ?_) | (refine Wdcgx (c4) ?_) | (refine Wcx (c5) ?_) | (refine Wdcx (c5) ?_) | (refine Wcgx (c5) ?_) | (refine Wdcgx (c5) ?_))
  ((first | refine endR ?_ | refine endN ?_); exact end1 (RV.tmp rfl) (Le.refl _))
set_option maxHeartbeats 4000000 in
theorem sameSts_e (a b : List Stm) (h : a.map Stm.clr = b.map Stm.clr) : Pu Tryz.prog 12 [stsS a, stsS b, lit (.bool false)] (lit (.bool true)) := by
  have hl : a.length = b.length := by
    have := congrArg List.length h
    simpa using this
  refine Pu.ofLenS (by kernel_rfl) fun hl2 => ?_
  refine Pu.intro Tryz.func12 rfl (by kernel_rfl) fun C => ?_
  repeat (refine A1 ⟨?_⟩; intros)
  refine WP.loopS (ι := Nat) (fun k => k ≤ a.length) (fun k => a.length - k)
    (fun k => (fm [(0, stsS a), (1, stsS b), (2, lit (.bool false)), (14, lit (.int .i64 a.length)), (15, lit (.int .i64 k))])) (fun _ => []) 0 (Nat.zero_le _) (by (repeat (first | exact LeF.nil _ | refine LeF.cons (Le.refl _) ?_ | refine LeF.cons (Le.int (by omega)) ?_))) (List.nil_sublist _) ?_
  rintro k hk K hK
  by_cases hkl : k < a.length
  · have hget1 := List.getElem?_eq_getElem hkl
    have hget2 := List.getElem?_eq_getElem (l := b) (i := k) (by omega)
    have hclr : SS (a[k]) (b[k]'(by omega)) := by
      have h1 : (a.map Stm.clr)[k]? = (b.map Stm.clr)[k]? := by rw [h]
      simp only [List.getElem?_map, hget1, hget2, Option.map_some, Option.some.injEq] at h1
      exact h1
    generalize a[k] = n at hget1 hclr
    generalize b[k] = m at hget2 hclr
    have hat1 := flat_at (f := stx) (n := 19) stx_len hget1
    have hne1 : (a.map stx).flatten ≠ [] := flat_ne stx_len (by omega) (fun e => by rw [e] at hkl; simp at hkl)
    have hat2 := flat_at (f := stx) (n := 19) stx_len hget2
    have hne2 : (b.map stx).flatten ≠ [] := flat_ne stx_len (by omega) (fun e => by rw [e] at hget2; simp at hget2)
    have c := sameSt_e n m hclr
    have hgo := fun F' H' => hK F' H' (k + 1) (by omega) (by omega)
    clear hK hget1 hget2 hclr h
    repeat (first | (refine AS ⟨?_⟩; intros) | (refine O1 ⟨?_⟩; intros))
    refine WdN 11 ?_
    repeat (refine A1 ⟨?_⟩; intros)
    refine Wdo (ov_idxS (cs' := stx n) rfl rfl (by omega) (by omega) hat1 hne1) ?_
    repeat (refine A1 ⟨?_⟩; intros)
    refine Wdo (ov_idxS (cs' := stx m) rfl rfl (by omega) (by omega) hat2 hne2) ?_
    repeat (first | (refine A1 ⟨?_⟩; intros) | (refine Wcx (c) ?_) | (refine Wdcx (c) ?_) | (refine Wcgx (c) ?_) | (refine Wdcgx (c) ?_))
    exact hgo _ _ (by (repeat (first | exact LeF.nil _ | refine LeF.cons (Le.refl _) ?_ | refine LeF.cons (Le.int (by omega)) ?_))) (List.nil_sublist _)
  · obtain rfl : k = a.length := by omega
    clear hK
    repeat (refine A1 ⟨?_⟩; intros)
    ((first | refine endR ?_ | refine endN ?_); exact end1 (RV.tmp rfl) (Le.refl _))
end Go.Ab
/- Balanced texts; what the printer writes is balanced. -/
namespace Go.Ab
open Go.Proofs
set_option linter.unusedSectionVars false
set_option linter.unusedVariables false
set_option linter.unusedSimpArgs false
variable [Base]
def bcnt (b : UInt8) (l : List UInt8) : Nat := (l.filter fun x => decide (x = b)).length
theorem bcnt_append (b : UInt8) (l r : List UInt8) : bcnt b (l ++ r) = bcnt b l + bcnt b r := by unfold bcnt; rw [List.filter_append, List.length_append]
theorem bcnt_none {b : UInt8} {l : List UInt8} (h : ∀ x ∈ l, x ≠ b) : bcnt b l = 0 := by
  unfold bcnt
  rw [List.filter_eq_nil_iff.2 fun x hx => by simpa using h x hx]; rfl
/-- opening brackets less closing ones -/
def lev (l : List UInt8) : Int := (bcnt 40 l : Int) - bcnt 41 l
theorem lev_append (l r : List UInt8) : lev (l ++ r) = lev l + lev r := by unfold lev; rw [bcnt_append, bcnt_append]; omega
structure Bal (l : List UInt8) : Prop where
  zero : lev l = 0
  pos : ∀ k, 0 ≤ lev (l.take k)
theorem Bal.append {l r : List UInt8} (h : Bal l) (k : Bal r) : Bal (l ++ r) := by
  refine ⟨by rw [lev_append, h.zero, k.zero]; rfl, fun n => ?_⟩
  rw [List.take_append, lev_append]
  have := h.pos n
  have := k.pos (n - l.length)
  omega
theorem Bal.plain {l : List UInt8} (h : ∀ x ∈ l, x ≠ 40 ∧ x ≠ 41) : Bal l := by
  have g : ∀ r : List UInt8, (∀ x ∈ r, x ∈ l) → lev r = 0 := fun r hr => by
    unfold lev
    rw [bcnt_none fun x hx => (h x (hr x hx)).1, bcnt_none fun x hx => (h x (hr x hx)).2]; rfl
  exact ⟨g l fun _ hx => hx, fun k => by rw [g _ fun x hx => List.mem_of_mem_take hx]; exact Int.le_refl _⟩
theorem Bal.wrap {l : List UInt8} (h : Bal l) : Bal ([40] ++ l ++ [41]) := by
  have h1 : lev [40] = 1 := by decide
  have h2 : lev [41] = -1 := by decide
  refine ⟨by rw [lev_append, lev_append, h.zero, h1, h2]; rfl, fun n => ?_⟩
  cases n with
  | zero => exact Int.le_refl _
  | succ n =>
    rw [List.append_assoc, List.singleton_append, List.take_succ_cons, show ∀ r : List UInt8, (40 : UInt8) :: r = [40] ++ r from fun _ => rfl, lev_append, h1, List.take_append, lev_append]
    have := h.pos n
    have h3 : -1 ≤ lev (([41] : List UInt8).take (n - l.length)) := by
      cases n - l.length with
      | zero => decide
      | succ m => rw [List.take_succ_cons, List.take_nil, h2]; exact Int.le_refl _
    omega
theorem Bal.par {l : List UInt8} (h : Bal l) (b : Bool) : Bal (par b l) := by
  unfold Ab.par
  split
  · exact h.wrap
  · exact h
/-- no half-plane, names of letters alone -/
def Ex.let : Ex → Bool
  | .leaf n => decide (n.k ≠ 4) && n.nm.all fun b => decide (clsN b.toNat = 3)
  | .un _ x => x.let
  | .bi _ l r => l.let && r.let
end Go.Ab
/- Tokens of a text: where they begin does not matter; a text behind a blank. -/
namespace Go.Ab
open Go.Proofs
set_option linter.unusedSectionVars false
set_option linter.unusedVariables false
set_option linter.unusedSimpArgs false
variable [Base]
inductive LexR : Except Er (List Tok) → Except Er (List Tok) → Prop
  | ok {x y : List Tok} (h : LR (fun _ _ _ _ => True) x y) : LexR (.ok x) (.ok y)
  | er {e e' : Er} : LexR (.error e) (.error e')
inductive NxR : Except Er (Tok × Nat) → Except Er (Tok × Nat) → Prop
  | ok {t t' : Tok} {k : Nat} (h : TokR (fun _ _ _ _ => True) t t') : NxR (.ok (t, k)) (.ok (t', k))
  | er {e e' : Er} : NxR (.error e) (.error e')
theorem grun_all {p : Int → Bool} : ∀ (l : List UInt8), ∀ b ∈ l.take (grun p l), p (clsN b.toNat) = true
  | [], b, h => by simp at h
  | a :: l, b, h => by
    cases ha : p (clsN a.toNat) with
    | false => rw [grun_f ha] at h; simp at h
    | true =>
      rw [grun_t ha, List.take_succ_cons] at h
      rcases List.mem_cons.1 h with rfl | h
      · exact ha
      · exact grun_all l b h
/-- the bytes of a token -/
theorem gnx_tok {l : List UInt8} {ln cl : Nat} {t : Tok} {n : Nat} (h : gnx l ln cl = .ok (t, n)) : l.take n = l.take (gsk false l ln cl).1 ++ t.t ∧ (10 : UInt8) ∉ t.t := by
  unfold gnx at h
  generalize gsk false l ln cl = q at *
  obtain ⟨q, lq, cq⟩ := q
  simp only at h ⊢
  have hall : ∀ (p : Int → Bool) (s : List UInt8), p 1 = false → (10 : UInt8) ∉ s.take (grun p s) := fun p s hp hm => by
    have := grun_all s _ hm
    rw [show clsN (10 : UInt8).toNat = 1 from by decide, hp] at this
    cases this
  cases hr : l.drop q with
  | nil =>
    rw [hr] at h
    simp only [Except.ok.injEq, Prod.mk.injEq] at h
    obtain ⟨rfl, rfl⟩ := h
    simp
  | cons b r =>
    rw [hr] at h
    simp only at h
    by_cases h3 : clsN b.toNat = 3
    · rw [if_pos h3] at h
      split at h
      · cases h
      · simp only [Except.ok.injEq, Prod.mk.injEq] at h
        obtain ⟨rfl, rfl⟩ := h
        exact ⟨by rw [List.take_add, hr], hall isLD (b :: r) rfl⟩
    rw [if_neg h3] at h
    by_cases h4 : clsN b.toNat = 4
    · rw [if_pos h4] at h
      split at h
      · cases h
      · simp only [Except.ok.injEq, Prod.mk.injEq] at h
        obtain ⟨rfl, rfl⟩ := h
        exact ⟨by rw [List.take_add, hr], hall isD (b :: r) rfl⟩
    rw [if_neg h4] at h
    split at h
    · next h5 =>
      simp only [Except.ok.injEq, Prod.mk.injEq] at h
      obtain ⟨rfl, rfl⟩ := h
      refine ⟨by rw [List.take_add, hr]; rfl, fun hm => ?_⟩
      rw [List.mem_singleton] at hm
      subst hm
      exact absurd h5 (by decide)
    · cases h
end Go.Ab
/- The reference's printer: expressions, by a stack. -/
namespace Go.Ab
open Go.Proofs
set_option linter.unusedSectionVars false
set_option linter.unusedVariables false
set_option linter.unusedSimpArgs false
variable [Base]
section
variable {P : Program} {C : Ctx} {n : Nat} {Q : Exit → Fr → LH → Prop} {F : Fr} {H : LH} {ops : Array Oper}
end
end Go.Ab
/- Printing an expression: program and reference give the same text, or refuse alike. -/
namespace Go.Ab
open Go.Proofs
set_option linter.unusedSectionVars false
set_option linter.unusedVariables false
set_option linter.unusedSimpArgs false
variable [Base]
/-- the text of a list of parts, if it is one printable expression -/
def otx (ns : List Nd) : Option (List UInt8) := match stk ns 0 [] with
  | some [(t, _)] => if t.good = true then some t.txt else none
  | _ => none
theorem otx_spec (ns : List Nd) : (okL ns = false ∧ otx ns = none) ∨ ∃ t : Ex, okL ns = true ∧ t.At ns (ns.length - 1) ∧ t.size = ns.length ∧ otx ns = if t.good = true then some t.txt else none := by
  have h := stk_okL ns
  unfold otx
  cases hst : stk ns 0 [] with
  | none => rw [hst] at h; exact .inl ⟨h, rfl⟩
  | some st =>
    rw [hst] at h
    simp only at h
    obtain ⟨h1, h2⟩ := h
    match st, h1, h2 with
    | [], h1, _ => exact .inl ⟨by rw [h1]; rfl, rfl⟩
    | [(t, j)], h1, h2 =>
      obtain ⟨a, b⟩ := h2 t j [] rfl
      obtain ⟨rfl, c⟩ := b rfl
      exact .inr ⟨t, by rw [h1]; rfl, a, c, rfl⟩
    | _ :: _ :: r, h1, _ => exact .inl ⟨by rw [h1]; simp, rfl⟩
theorem Ex.txt_ne : ∀ {t : Ex} {ns : List Nd} {i : Nat}, t.At ns i → t.good = true → t.txt ≠ []
  | .leaf n, ns, i, hat, h => by
    obtain ⟨_, h1, h4⟩ := hat
    unfold Ex.txt
    unfold Ex.good at h
    by_cases k1 : n.k = 1
    · rw [if_pos k1] at h ⊢
      intro e
      rw [e] at h
      revert h
      decide
    rw [if_neg k1]
    by_cases k2 : n.k = 2
    · rw [if_pos k2]; decide
    rw [if_neg k2]
    by_cases k3 : n.k = 3
    · rw [if_pos k3]; decide
    rw [if_neg k3]
    simp
  | .un n x, ns, i, hat, h => by
    unfold Ex.txt
    simp
  | .bi n l r, ns, i, hat, h => by
    unfold Ex.txt
    have := sgn_len n.op
    intro e
    have h2 := congrArg List.length e
    simp only [List.length_append, List.length_nil] at h2
    omega
theorem Ex.txt_len {L : Nat} (hL : L ≤ 20) {ns : List Nd} (hok : ∀ n ∈ ns, n.ok L) : ∀ {t : Ex} {i : Nat}, t.At ns i → t.txt.length ≤ 2000 * t.size
  | .leaf n, i, hat => by
    have hm := hok n (List.mem_of_getElem? hat.1)
    have h1 := ptxt_len hm.a hm.b
    have h2 := ptxt_len hm.c hm.e
    have h3 := hm.nm
    simp only [Ex.txt, Ex.size]
    split
    · omega
    split
    · simp
    split
    · simp
    · unfold ptxt2
      simp only [List.length_append, List.length_cons, List.length_nil]; omega
  | .un n x, i, hat => by
    obtain ⟨_, _, j, _, hx⟩ := hat
    have h1 := Ex.txt_len hL hok hx
    have h2 := par_len (decide (rk x.top < 3)) x.txt
    simp only [Ex.txt, Ex.size, List.length_append, List.length_cons, List.length_nil]
    omega
  | .bi n l r, i, hat => by
    obtain ⟨_, _, _, j, k, _, _, hl, hr⟩ := hat
    have h1 := Ex.txt_len hL hok hl
    have h2 := Ex.txt_len hL hok hr
    have h3 := par_len (decide (rk l.top < rk n)) l.txt
    have h4 := par_len (decide (rk r.top < rk n + 1)) r.txt
    have h5 := sgn_len n.op
    simp only [Ex.txt, Ex.size, List.length_append]
    omega
/-- the answer of the program's printer -/
def pans (g : Nat) : Option (List UInt8) → SV
  | some t => Ab.tup [str t, lit .nilIface]
  | none => Ab.tup [str [], lit (sent g)]
theorem txt_len {L : Nat} (hL : L ≤ 20) {ns : List Nd} (hok : ∀ n ∈ ns, n.ok L) (hns : ns.length ≤ 30) {t : Ex} {i : Nat} (hat : t.At ns i) (hs : t.size = ns.length) : t.rtxt.length ≤ 65536 := by
  have := Ex.rtxt_len hL hok hat
  omega
theorem writeExpr_pu [Sent 2] (ns : List Nd) {L : Nat} (hok : ∀ n ∈ ns, n.ok L) (hL : L ≤ 20) (hns : ns.length ≤ 30) : Pu Tryz.prog 60 [sl (ns.map ndx).flatten ns.length] (pans 2 (otx ns)) := by
  rcases otx_spec ns with ⟨h1, h2⟩ | ⟨t, h1, h2, h3, h4⟩
  · rw [h2]
    show Pu _ _ _ (Ab.tup [str [], lit (sent 2)])
    have c := fun b => write_pu (b := b) (T := 52) (cs := [sl (ns.map ndx).flatten ns.length]) (good := false) (t := []) (fun h => by cases h) (by simp) (fun w => (wexpr1_f (b := b) hok (by omega) (by omega) (wtr_new w) h1).mono (fun _ _ h => h.elim) fun pv _ h => ⟨rfl, h⟩)
    refine Pu.intro Tryz.func60 rfl (by kernel_rfl) fun C => ?_
    repeat (refine A1 ⟨?_⟩; intros)
    refine WfT (c _) ?_
    rintro _ H' rfl
    repeat (refine A1 ⟨?_⟩; intros)
    ((first | refine endR ?_ | refine endN ?_); exact end2 (RV.tmp rfl) (RV.tmp rfl) (Le.refl _))
  · have hl := txt_len hL hok hns h2 h3
    rw [h4]
    cases hg : t.good with
    | true =>
      rw [Ex.rtxt_good hg ns _ h2] at hl
      rw [if_pos rfl]
      show Pu _ _ _ (Ab.tup [str t.txt, lit .nilIface])
      have c := fun b => write_pu (b := b) (T := 52) (cs := [sl (ns.map ndx).flatten ns.length]) (good := true) (t := t.txt) (fun _ => Ex.txt_ne h2 hg) hl
        (fun w => (wexpr1_t (b := b) hok (by omega) (by omega) (wtr_new w) h1 h2 h3 (by simp; omega)).mono (fun _ _ h => ⟨rfl, h.2.1, h.2.2⟩) fun pv _ h => by rw [hg] at h; exact absurd h.1 (by decide))
      refine Pu.intro Tryz.func60 rfl (by kernel_rfl) fun C => ?_
      repeat (refine A1 ⟨?_⟩; intros)
      refine WfT (c _) ?_
      rintro _ H' rfl
      repeat (refine A1 ⟨?_⟩; intros)
      ((first | refine endR ?_ | refine endN ?_); exact end2 (RV.tmp rfl) (RV.tmp rfl) (Le.refl _))
    | false =>
      rw [if_neg (by decide)]
      show Pu _ _ _ (Ab.tup [str [], lit (sent 2)])
      have c := fun b => write_pu (b := b) (T := 52) (cs := [sl (ns.map ndx).flatten ns.length]) (good := false) (t := []) (fun h => by cases h) (by simp)
        (fun w => (wexpr1_t (b := b) hok (by omega) (by omega) (wtr_new w) h1 h2 h3 (by simp; exact Nat.le_trans (Ex.txt_len hL hok h2) (by omega))).mono (fun _ _ h => by rw [hg] at h; exact absurd h.1 (by decide)) fun pv _ h => ⟨rfl, h.2⟩)
      refine Pu.intro Tryz.func60 rfl (by kernel_rfl) fun C => ?_
      repeat (refine A1 ⟨?_⟩; intros)
      refine WfT (c _) ?_
      rintro _ H' rfl
      repeat (refine A1 ⟨?_⟩; intros)
      ((first | refine endR ?_ | refine endN ?_); exact end2 (RV.tmp rfl) (RV.tmp rfl) (Le.refl _))
theorem pexpr_pu [Sent 2] (ns : List Nd) {L : Nat} (hok : ∀ n ∈ ns, n.ok L) (hL : L ≤ 20) (hns : ns.length ≤ 30) : Pu Tryz.prog 36 [sl (ns.map ndx).flatten ns.length] (pans 2 (otx ns)) := by
  have c := writeExpr_pu ns hok hL hns
  cases h : otx ns with
  | some t =>
    rw [h] at c
    unfold pans at c ⊢
    refine Pu.intro Tryz.func36 rfl (by kernel_rfl) fun C => ?_
    repeat (first | (refine A1 ⟨?_⟩; intros) | (refine Wcx (c) ?_) | (refine Wdcx (c) ?_) | (refine Wcgx (c) ?_) | (refine Wdcgx (c) ?_))
    ((first | refine endR ?_ | refine endN ?_); exact end2 (RV.tmp rfl) (RV.tmp rfl) (Le.refl _))
  | none =>
    rw [h] at c
    unfold pans at c ⊢
    refine Pu.intro Tryz.func36 rfl (by kernel_rfl) fun C => ?_
    repeat (first | (refine A1 ⟨?_⟩; intros) | (refine Wcx (c) ?_) | (refine Wdcx (c) ?_) | (refine Wcgx (c) ?_) | (refine Wdcgx (c) ?_))
    ((first | refine endR ?_ | refine endN ?_); exact end2 (RV.tmp rfl) (RV.tmp rfl) (Le.refl _))
end Go.Ab
/- Printed scripts: their texts, and the tokens of these texts. -/
namespace Go.Ab
open Go.Proofs
set_option linter.unusedSectionVars false
set_option linter.unusedVariables false
set_option linter.unusedSimpArgs false
variable [Base]
/-! tokens without places -/
abbrev t0 : Tok := ⟨0, [], 0, 0⟩
abbrev tkN (w : List UInt8) : Tok := ⟨1, w, 0, 0⟩
abbrev tkD (w : List UInt8) : Tok := ⟨2, w, 0, 0⟩
abbrev tkS (b : UInt8) : Tok := ⟨3, [b], 0, 0⟩
/-- a text gives these tokens, wherever it stands -/
def LexTo (l : List UInt8) (ts : List Tok) : Prop := ∀ f ln cl, l.length < f → ∃ us, glexF f l ln cl = .ok us ∧ LR (fun _ _ _ _ => True) us ts
/-- what may follow a word or a number -/
def Stp (l : List UInt8) : Prop := ∀ b r, l = b :: r → clsN b.toNat ≠ 3 ∧ clsN b.toNat ≠ 4
theorem Stp.nil : Stp [] := fun _ _ h => by cases h
theorem Stp.cons {b : UInt8} (h : clsN b.toNat ≠ 3 ∧ clsN b.toNat ≠ 4) (l : List UInt8) : Stp (b :: l) := fun c r e => by
  obtain ⟨rfl, -⟩ := List.cons.inj e
  exact h
theorem LexTo.nil : LexTo [] [t0] := fun f ln cl hf => by
  obtain ⟨g, rfl⟩ : ∃ g, f = g + 1 := ⟨f - 1, by simp at hf; omega⟩
  exact ⟨[⟨0, [], ln, cl⟩], rfl, .cons ⟨rfl, rfl, trivial⟩ .nil⟩
theorem gnx_blank {b : UInt8} (hb : clsN b.toNat = 1) (l : List UInt8) (ln cl : Nat) : ∃ ln' cl', gnx (b :: l) ln cl = match gnx l ln' cl' with
    | .error e => .error e
    | .ok (t, k) => .ok (t, k + 1) := by
  have key : ∀ ln' cl', gsk false (b :: l) ln cl = ((gsk false l ln' cl').1 + 1, (gsk false l ln' cl').2) → gnx (b :: l) ln cl = match gnx l ln' cl' with
    | .error e => .error e
    | .ok (t, k) => .ok (t, k + 1) := by
    intro ln' cl' h
    unfold gnx
    rw [h]
    generalize gsk false l ln' cl' = w
    obtain ⟨w, lw, cw⟩ := w
    simp only [List.drop_succ_cons]
    cases l.drop w with
    | nil => rfl
    | cons c r =>
      simp only
      by_cases h3 : clsN c.toNat = 3
      · simp only [if_pos h3]
        split
        · rfl
        · rw [Nat.add_right_comm]
      simp only [if_neg h3]
      by_cases h4 : clsN c.toNat = 4
      · simp only [if_pos h4]
        split
        · rfl
        · rw [Nat.add_right_comm]
      simp only [if_neg h4]
      split
      · rfl
      · rfl
  by_cases h10 : b.toNat = 10
  · exact ⟨_, _, key (ln + 1) 1 (gsk_nl h10 ln cl)⟩
  · exact ⟨_, _, key ln (cl + 1) (gsk_sp h10 hb ln cl)⟩
theorem LexTo.blank {l : List UInt8} {ts : List Tok} (h : LexTo l ts) {b : UInt8} (hb : clsN b.toNat = 1) : LexTo (b :: l) ts := fun f ln cl hf => by
  obtain ⟨g, rfl⟩ : ∃ g, f = g + 1 := ⟨f - 1, by simp at hf; omega⟩
  obtain ⟨ln', cl', e⟩ := gnx_blank hb l ln cl
  obtain ⟨us, h1, h2⟩ := h (g + 1) ln' cl' (by simp at hf; omega)
  refine ⟨us, ?_, h2⟩
  rw [glexF_succ] at h1 ⊢
  rw [e]
  cases hn : gnx l ln' cl' with
  | error e => rw [hn] at h1; exact h1
  | ok q =>
    obtain ⟨t, k⟩ := q
    rw [hn] at h1
    simp only [List.drop_succ_cons] at h1 ⊢
    exact h1
/-- one token at the head -/
theorem LexTo.tok {l w : List UInt8} {ts : List Tok} {k : Nat} (h : LexTo l ts) (hk : k ≠ 0) (hw : w ≠ []) (hn : ∀ ln cl, gnx (w ++ l) ln cl = .ok (⟨k, w, ln, cl⟩, w.length)) : LexTo (w ++ l) (⟨k, w, 0, 0⟩ :: ts) := fun f ln cl hf => by
  have hwl : 0 < w.length := List.length_pos_iff.2 hw
  rw [List.length_append] at hf
  obtain ⟨g, rfl⟩ : ∃ g, f = g + 1 := ⟨f - 1, by omega⟩
  obtain ⟨us, h1, h2⟩ := h g ln (cl + w.length) (by omega)
  refine ⟨⟨k, w, ln, cl⟩ :: us, ?_, .cons ⟨rfl, rfl, trivial⟩ h2⟩
  rw [glexF_succ, hn]
  simp only [if_neg hk]
  rw [List.drop_left, h1]
theorem grun_take {p : Int → Bool} {l : List UInt8} : ∀ {w : List UInt8}, (∀ b ∈ w, p (clsN b.toNat) = true) → (∀ b r, l = b :: r → p (clsN b.toNat) = false) → grun p (w ++ l) = w.length
  | [], _, h => by
    cases l with
    | nil => rfl
    | cons b r => exact grun_f (h b r rfl) r
  | a :: w, h1, h2 => by
    rw [List.cons_append, grun_t (h1 a List.mem_cons_self), grun_take (fun b hb => h1 b (List.mem_cons_of_mem _ hb)) h2]
    rfl
theorem LexTo.sgn {l : List UInt8} {ts : List Tok} (h : LexTo l ts) {b : UInt8} (hb : clsN b.toNat = 5) : LexTo (b :: l) (tkS b :: ts) :=
  h.tok (k := 3) (w := [b]) (by decide) (by simp) fun ln cl => by
    have h10 : b.toNat ≠ 10 := fun e => by rw [e] at hb; exact absurd hb (by decide)
    unfold gnx
    rw [show [b] ++ l = b :: l from rfl, gsk_stop (by rw [hb]; decide) (by rw [hb]; decide) h10]
    simp only [List.drop_zero]
    rw [if_neg (by rw [hb]; decide), if_neg (by rw [hb]; decide), if_pos hb]
    rfl
/-- a word -/
def Wd (w : List UInt8) : Prop := ∃ b r, w = b :: r ∧ clsN b.toNat = 3 ∧ (∀ c ∈ w, isLD (clsN c.toNat) = true) ∧ w.length ≤ 24
theorem LexTo.word {l w : List UInt8} {ts : List Tok} (h : LexTo l ts) (hw : Wd w) (hl : Stp l) : LexTo (w ++ l) (tkN w :: ts) := by
  obtain ⟨b, r, rfl, hb, hall, hlen⟩ := hw
  refine h.tok (k := 1) (by decide) (by simp) fun ln cl => ?_
  have h10 : b.toNat ≠ 10 := fun e => by rw [e] at hb; exact absurd hb (by decide)
  have hg : grun isLD ((b :: r) ++ l) = (b :: r).length := grun_take hall fun c s e => by
    obtain ⟨h3, h4⟩ := hl c s e
    unfold isLD
    rw [decide_eq_false h3, decide_eq_false h4]; rfl
  unfold gnx
  rw [show (b :: r) ++ l = b :: (r ++ l) from rfl] at hg ⊢
  rw [gsk_stop (by rw [hb]; decide) (by rw [hb]; decide) h10]
  simp only [List.drop_zero]
  rw [if_pos hb, hg, if_neg (by omega), Nat.zero_add, show b :: (r ++ l) = (b :: r) ++ l from rfl, List.take_left]
theorem LexTo.num {l w : List UInt8} {ts : List Tok} (h : LexTo l ts) (hw : allD w) (hne : w ≠ []) (hlen : w.length ≤ 4096) (hl : Stp l) : LexTo (w ++ l) (tkD w :: ts) := by
  obtain ⟨b, r, rfl⟩ : ∃ b r, w = b :: r := List.exists_cons_of_ne_nil hne
  refine h.tok (k := 2) (by decide) hne fun ln cl => ?_
  have c4 : ∀ c ∈ b :: r, clsN c.toNat = 4 := fun c hc => by
    obtain ⟨h1, h2⟩ := hw c hc
    unfold clsN
    rw [if_neg (by omega), if_neg (by omega), if_pos ⟨h1, h2⟩]
  have hb := c4 b List.mem_cons_self
  have h10 : b.toNat ≠ 10 := fun e => by rw [e] at hb; exact absurd hb (by decide)
  have hg : grun isD ((b :: r) ++ l) = (b :: r).length := grun_take (fun c hc => decide_eq_true (c4 c hc)) fun c s e => decide_eq_false (hl c s e).2
  unfold gnx
  rw [show (b :: r) ++ l = b :: (r ++ l) from rfl] at hg ⊢
  rw [gsk_stop (by rw [hb]; decide) (by rw [hb]; decide) h10]
  simp only [List.drop_zero]
  rw [if_neg (by rw [hb]; decide), if_pos hb, hg, if_neg (by omega), Nat.zero_add, show b :: (r ++ l) = (b :: r) ++ l from rfl, List.take_left]
/-! numbers -/
theorem decR_D : ∀ (n : Nat), allD (decR n) := by
  intro n
  induction n using Nat.strongRecOn with
  | _ n ih =>
    by_cases h : n = 0
    · subst h; rw [decR_zero]; intro b hb; cases hb
    · rw [decR_pos h]
      intro b hb
      rcases List.mem_cons.1 hb with rfl | hb
      · have : (UInt8.ofNat (48 + n % 10)).toNat = 48 + n % 10 := by rw [UInt8.toNat_ofNat']; omega
        rw [this]; omega
      · exact ih (n / 10) (by omega) b hb
theorem dec_D (n : Nat) : allD (dec n) ∧ dec n ≠ [] := by
  unfold dec
  by_cases h : n = 0
  · rw [if_pos h]; exact ⟨fun b hb => by rw [List.mem_singleton] at hb; subst hb; decide, by simp⟩
  · rw [if_neg h]
    refine ⟨fun b hb => decR_D n b (List.mem_reverse.1 hb), ?_⟩
    rw [decR_pos h]
    simp
theorem dcv_decR : ∀ (n : Nat), dcv (decR n).reverse = n := by
  intro n
  induction n using Nat.strongRecOn with
  | _ n ih =>
    by_cases h : n = 0
    · subst h; rw [decR_zero]; rfl
    · rw [decR_pos h, List.reverse_cons, dcv_snoc, ih (n / 10) (by omega)]
      have : (UInt8.ofNat (48 + n % 10)).toNat = 48 + n % 10 := by rw [UInt8.toNat_ofNat']; omega
      rw [this]; omega
theorem dcv_dec (n : Nat) : dcv (dec n) = n := by
  unfold dec
  by_cases h : n = 0
  · rw [if_pos h, h]; rfl
  · rw [if_neg h, dcv_decR]
/-- a number has no more digits than a text that reads as no less -/
theorem dec_le {n k : Nat} (h : n < 10 ^ k) (hk : 1 ≤ k) : (dec n).length ≤ k := by
  unfold dec
  by_cases h0 : n = 0
  · rw [if_pos h0]; simpa using hk
  · rw [if_neg h0, List.length_reverse]; exact decR_lt k n h
def tkQ (x : Rat) : List Tok := (if x.num < 0 then [tkS 45] else []) ++ (tkD (dec x.num.natAbs) :: (if x.den = 1 then [] else [tkS 47, tkD (dec x.den)]))
/-- a number that is not too long -/
def NumB (x : Rat) : Prop := (dec x.num.natAbs).length ≤ 1000 ∧ (dec x.den).length ≤ 1000
theorem LexTo.fmt {l : List UInt8} {ts : List Tok} (h : LexTo l ts) {x : Rat} (hx : NumB x) (hl : Stp l) : LexTo (fmt x ++ l) (tkQ x ++ ts) := by
  obtain ⟨h1, h2⟩ := hx
  have k1 := dec_D x.num.natAbs
  have k2 := dec_D x.den
  have hn : ∀ {l' : List UInt8} {ts' : List Tok}, LexTo l' ts' → Stp l' → LexTo ((if x.num < 0 then [45] ++ dec x.num.natAbs else dec x.num.natAbs) ++ l') ((if x.num < 0 then [tkS 45] else []) ++ (tkD (dec x.num.natAbs) :: ts')) := by
    intro l' ts' h' hs
    have := h'.num k1.1 k1.2 (by omega) hs
    split
    · exact this.sgn (b := 45) (by decide)
    · exact this
  unfold Ab.fmt tkQ
  rw [List.append_assoc, List.append_assoc]
  by_cases hd : x.den = 1
  · rw [if_pos hd, if_pos hd]
    exact hn h hl
  · rw [if_neg hd, if_neg hd]
    refine hn (l' := [47] ++ dec x.den ++ l) (ts' := [tkS 47, tkD (dec x.den)] ++ ts) ?_ (Stp.cons (by decide) _)
    exact (h.num k2.1 k2.2 (by omega) hl).sgn (b := 47) (by decide)
def txP (p : Rat × Rat) : List UInt8 := [40] ++ fmt p.1 ++ [44] ++ fmt p.2 ++ [41]
def tkP (p : Rat × Rat) : List Tok := tkS 40 :: (tkQ p.1 ++ (tkS 44 :: (tkQ p.2 ++ [tkS 41])))
def PtB (p : Rat × Rat) : Prop := NumB p.1 ∧ NumB p.2
theorem LexTo.pt {l : List UInt8} {ts : List Tok} (h : LexTo l ts) {p : Rat × Rat} (hp : PtB p) : LexTo (txP p ++ l) (tkP p ++ ts) := by
  unfold txP tkP
  simp only [List.append_assoc, List.cons_append, List.nil_append]
  exact (((h.sgn (b := 41) (by decide)).fmt hp.2 (Stp.cons (by decide) _)).sgn (b := 44) (by decide)).fmt hp.1 (Stp.cons (by decide) _) |>.sgn (b := 40) (by decide)
def txPs (ps : List (Rat × Rat)) : List UInt8 := (ps.map fun p => 32 :: txP p).flatten
def tkPs (ps : List (Rat × Rat)) : List Tok := (ps.map tkP).flatten
theorem LexTo.pts {l : List UInt8} {ts : List Tok} (h : LexTo l ts) : ∀ {ps : List (Rat × Rat)}, (∀ p ∈ ps, PtB p) → LexTo (txPs ps ++ l) (tkPs ps ++ ts)
  | [], _ => h
  | p :: ps, hp => by
    have ih := LexTo.pts h (ps := ps) fun q hq => hp q (List.mem_cons_of_mem _ hq)
    unfold txPs tkPs at ih ⊢
    simp only [List.map_cons, List.flatten_cons, List.append_assoc, List.cons_append]
    exact (ih.pt (hp p List.mem_cons_self)).blank (by decide)
/-! names -/
theorem nmOk_wd {w : List UInt8} (h : nmOk w = true) : Wd w ∧ resv w = false := by
  unfold nmOk at h
  simp only [Bool.and_eq_true, decide_eq_true_eq, Bool.not_eq_true'] at h
  obtain ⟨⟨⟨⟨h1, h2⟩, h3⟩, h4⟩, h5⟩ := h
  refine ⟨?_, h4⟩
  obtain ⟨b, r, rfl⟩ : ∃ b r, w = b :: r := List.exists_cons_of_ne_nil (fun e => by rw [e] at h1; simp at h1)
  have h3' : letterN b.toNat = true := h3
  have hb : clsN b.toNat = 3 := by
    have := clsN_3 b.toNat
    rw [h3'] at this
    exact of_decide_eq_true this
  refine ⟨b, r, rfl, hb, fun c hc => ?_, h2⟩
  have := List.all_eq_true.1 h5 c hc
  unfold okB at this
  rw [Bool.or_eq_true, decide_eq_true_eq] at this
  unfold isLD
  rw [Bool.or_eq_true, decide_eq_true_eq, decide_eq_true_eq]
  rcases this with h | h
  · left
    have e := clsN_3 c.toNat
    rw [h] at e
    exact of_decide_eq_true e
  · right
    unfold clsN
    rw [if_neg (by omega), if_neg (by omega), if_pos h]
theorem Wd.of {w : List UInt8} (h : (match w with | [] => false | b :: _ => decide (clsN b.toNat = 3)) && w.all (fun c => isLD (clsN c.toNat)) && decide (w.length ≤ 24) = true) : Wd w := by
  cases w with
  | nil => simp at h
  | cons b r =>
    simp only [Bool.and_eq_true, decide_eq_true_eq] at h
    exact ⟨b, r, rfl, h.1.1, fun c hc => List.all_eq_true.1 h.1.2 c hc, h.2⟩
/-! expressions -/
def opS (op : Int) : UInt8 := if op = 1 then 43 else if op = 2 then 42 else if op = 3 then 45 else 94
def tpar (b : Bool) (s : List Tok) : List Tok := if b = true then tkS 40 :: (s ++ [tkS 41]) else s
def Ex.tks : Ex → List Tok
  | .leaf n => if n.k = 1 then [tkN n.nm] else if n.k = 2 then [tkN wAll] else if n.k = 3 then [tkN wNone] else tkN wHalf :: (tkP (n.a.v, n.b.v) ++ tkP (n.c.v, n.e.v))
  | .un _ x => tkS 126 :: tpar (decide (rk x.top < 3)) x.tks
  | .bi n l r => tpar (decide (rk l.top < rk n)) l.tks ++ tkS (opS n.op) :: tpar (decide (rk r.top < rk n + 1)) r.tks
theorem txP_ptxt (a b : RQ) : ptxt a b = txP (a.v, b.v) := rfl
/-- a leaf that was read -/
def LfB (n : Nd) : Prop := (∃ w, nmOk w = true ∧ n.clr = ndN (tkN w)) ∨ n.clr = ndA 2 t0 ∨ n.clr = ndA 3 t0 ∨ ∃ p q, PtB p ∧ PtB q ∧ n.clr = ndH p q t0
/-- a tree that was read -/
def Ex.wf : Ex → Prop
  | .leaf n => LfB n
  | .un n x => n.k = 5 ∧ x.wf
  | .bi n l r => n.k = 6 ∧ (1 ≤ n.op ∧ n.op ≤ 4) ∧ l.wf ∧ r.wf
theorem LexTo.par {l : List UInt8} {ts : List Tok} {s : List UInt8} {u : List Tok} (hs : ∀ {l' : List UInt8} {ts' : List Tok}, LexTo l' ts' → Stp l' → LexTo (s ++ l') (u ++ ts')) (b : Bool) (h : LexTo l ts) (hl : Stp l) : LexTo (par b s ++ l) (tpar b u ++ ts) := by
  unfold Ab.par tpar
  cases b with
  | false => exact hs h hl
  | true =>
    simp only [if_true, List.append_assoc, List.cons_append, List.nil_append]
    exact (hs (h.sgn (b := 41) (by decide)) (Stp.cons (by decide) _)).sgn (b := 40) (by decide)
theorem clr_k {n m : Nd} (h : n.clr = m) : n.k = m.k ∧ n.nm = m.nm ∧ n.a = m.a ∧ n.b = m.b ∧ n.c = m.c ∧ n.e = m.e := by
  subst h; exact ⟨rfl, rfl, rfl, rfl, rfl, rfl⟩
theorem LexTo.ex : ∀ {x : Ex}, x.wf → ∀ {l : List UInt8} {ts : List Tok}, LexTo l ts → Stp l → LexTo (x.txt ++ l) (x.tks ++ ts)
  | .leaf n, hw, l, ts, h, hl => by
    rcases hw with ⟨w, hw, e⟩ | e | e | ⟨p, q, hp, hq, e⟩
    · obtain ⟨e1, e2, -⟩ := clr_k e
      have k1 : n.k = 1 := e1
      rw [show (Ex.leaf n).txt = n.nm from by unfold Ex.txt; rw [if_pos k1], show (Ex.leaf n).tks = [tkN n.nm] from by unfold Ex.tks; rw [if_pos k1], show n.nm = w from e2]
      exact h.word (nmOk_wd hw).1 hl
    · obtain ⟨e1, -⟩ := clr_k e
      have k2 : n.k = 2 := e1
      have k1 : ¬ n.k = 1 := by omega
      rw [show (Ex.leaf n).txt = wAll from by unfold Ex.txt; rw [if_neg k1, if_pos k2], show (Ex.leaf n).tks = [tkN wAll] from by unfold Ex.tks; rw [if_neg k1, if_pos k2]]
      exact h.word (w := wAll) (Wd.of (by decide)) hl
    · obtain ⟨e1, -⟩ := clr_k e
      have k3 : n.k = 3 := e1
      have k1 : ¬ n.k = 1 := by omega
      have k2 : ¬ n.k = 2 := by omega
      rw [show (Ex.leaf n).txt = wNone from by unfold Ex.txt; rw [if_neg k1, if_neg k2, if_pos k3], show (Ex.leaf n).tks = [tkN wNone] from by unfold Ex.tks; rw [if_neg k1, if_neg k2, if_pos k3]]
      exact h.word (w := wNone) (Wd.of (by decide)) hl
    · obtain ⟨e1, -, e3, e4, e5, e6⟩ := clr_k e
      have k4 : n.k = 4 := e1
      have k1 : ¬ n.k = 1 := by omega
      have k2 : ¬ n.k = 2 := by omega
      have k3 : ¬ n.k = 3 := by omega
      rw [show (Ex.leaf n).txt = wHalf ++ ptxt2 n.a n.b n.c n.e from by unfold Ex.txt; rw [if_neg k1, if_neg k2, if_neg k3],
        show (Ex.leaf n).tks = tkN wHalf :: (tkP (n.a.v, n.b.v) ++ tkP (n.c.v, n.e.v)) from by unfold Ex.tks; rw [if_neg k1, if_neg k2, if_neg k3], e3, e4, e5, e6]
      show LexTo (wHalf ++ ptxt2 (RQ.of p.1) (RQ.of p.2) (RQ.of q.1) (RQ.of q.2) ++ l) (tkN wHalf :: (tkP ((RQ.of p.1).v, (RQ.of p.2).v) ++ tkP ((RQ.of q.1).v, (RQ.of q.2).v)) ++ ts)
      unfold ptxt2
      rw [txP_ptxt, txP_ptxt, RQ.of_v, RQ.of_v, RQ.of_v, RQ.of_v]
      rw [show wHalf ++ ([32] ++ txP (p.1, p.2) ++ ([32] ++ txP (q.1, q.2))) ++ l = wHalf ++ (32 :: (txP (p.1, p.2) ++ (32 :: (txP (q.1, q.2) ++ l)))) from by simp only [List.append_assoc, List.cons_append, List.nil_append],
        show tkN wHalf :: (tkP (p.1, p.2) ++ tkP (q.1, q.2)) ++ ts = tkN wHalf :: (tkP (p.1, p.2) ++ (tkP (q.1, q.2) ++ ts)) from by simp only [List.append_assoc, List.cons_append]]
      exact LexTo.word (w := wHalf) ((((h.pt hq).blank (b := 32) (by decide)).pt hp).blank (b := 32) (by decide)) (Wd.of (by decide)) (Stp.cons (by decide) _)
  | .un n x, hw, l, ts, h, hl => by
    show LexTo ([126] ++ Ab.par (decide (rk x.top < 3)) x.txt ++ l) (tkS 126 :: tpar (decide (rk x.top < 3)) x.tks ++ ts)
    rw [List.append_assoc]
    exact (LexTo.par (fun h' hl' => LexTo.ex hw.2 h' hl') _ h hl).sgn (b := 126) (by decide)
  | .bi n x y, hw, l, ts, h, hl => by
    obtain ⟨-, ⟨h1, h4⟩, hx, hy⟩ := hw
    show LexTo (Ab.par (decide (rk x.top < rk n)) x.txt ++ Ab.sgn n.op ++ Ab.par (decide (rk y.top < rk n + 1)) y.txt ++ l) (tpar (decide (rk x.top < rk n)) x.tks ++ tkS (opS n.op) :: tpar (decide (rk y.top < rk n + 1)) y.tks ++ ts)
    simp only [List.append_assoc, List.cons_append]
    refine LexTo.par (fun h' hl' => LexTo.ex hx h' hl') _ ?_ ?_
    · have h5 := LexTo.par (fun h' hl' => LexTo.ex hy h' hl') (decide (rk y.top < rk n + 1)) h hl
      have ho : n.op = 1 ∨ n.op = 2 ∨ n.op = 3 ∨ n.op = 4 := by omega
      have key : ∀ b : UInt8, clsN b.toNat = 5 → LexTo ([32, b, 32] ++ (Ab.par (decide (rk y.top < rk n + 1)) y.txt ++ l)) (tkS b :: (tpar (decide (rk y.top < rk n + 1)) y.tks ++ ts)) := fun b hb =>
        ((h5.blank (b := 32) (by decide)).sgn hb).blank (b := 32) (by decide)
      rcases ho with ho | ho | ho | ho <;> rw [ho]
      · exact key 43 (by decide)
      · exact key 42 (by decide)
      · exact key 45 (by decide)
      · exact key 94 (by decide)
    · have : ∃ b r, Ab.sgn n.op ++ (Ab.par (decide (rk y.top < rk n + 1)) y.txt ++ l) = 32 :: (b :: r) := by
        unfold Ab.sgn
        split
        · exact ⟨_, _, rfl⟩
        split
        · exact ⟨_, _, rfl⟩
        split
        · exact ⟨_, _, rfl⟩
        · exact ⟨_, _, rfl⟩
      obtain ⟨b, r, e⟩ := this
      rw [e]
      exact Stp.cons (by decide) _
end Go.Ab
