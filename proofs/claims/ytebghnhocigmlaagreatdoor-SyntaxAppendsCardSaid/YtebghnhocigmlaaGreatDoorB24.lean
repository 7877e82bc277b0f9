/- Texts laid one behind the other: SameE, Bal, GLexR, SynLaw, ParU, Count, SynB. -/
import Derived.Test.YtebghnhocigmlaaGreatDoorB23
import Derived.Test.YtebghnhocigmlaaGreatDoorB21
import Derived.Test.YtebghnhocigmlaaGreatDoorB11
import Derived.Test.YtebghnhocigmlaaGreatDoorB12
import Derived.Test.YtebghnhocigmlaaGreatDoorB14
import Derived.Lib.Bytealg
namespace Go.Ab
open Go.Proofs
set_option linter.unusedSectionVars false
set_option linter.unusedVariables false
set_option linter.unusedSimpArgs false
variable [Base]
section
variable {P : Program}
attribute [local semireducible] Pu in
theorem Pu.ofLenS {f : FuncId} {cs : List SV} {n : Nat} {rest : List SV} {res : SV} (hb : bodied P f = true) (k : n ≤ 9223372036854775807 → Pu P f (sl cs n :: rest) res) : Pu P f (sl cs n :: rest) res :=
  ⟨hb, fun m w vs h1 h2 => by
    have hn : n ≤ 9223372036854775807 := by
      match vs, h2 with
      | v :: vs, h2 =>
        have h := h2.1
        unfold sl at h
        obtain ⟨a, cap, _, g1, g2, _⟩ := h
        have : maxLen = 9223372036854775807 := by decide
        omega
    exact (k hn).2 m w vs h1 h2⟩
theorem Pu.ofLen {f : FuncId} {ds : List Nat} {rest : List SV} {res : SV} (hb : bodied P f = true) (k : ds.length ≤ 9223372036854775807 → Pu P f (dg ds :: rest) res) : Pu P f (dg ds :: rest) res := by
  rw [dg_sl]
  refine Pu.ofLenS hb fun h => ?_
  rw [← dg_sl]
  exact k h
end
section
variable {P : Program} {C : Ctx} {n : Nat} {F : Fr} {H : LH} {Q : Exit → Fr → LH → Prop}
theorem WP.lenS {c : Code} {d k : Nat} {cs : List SV} (hd : F d = sl cs k) (h : k ≤ 9223372036854775807 → WP P C n c Q F H) : WP P C n c Q F H := by
  unfold WP at *
  intro a w hs
  refine h ?_ a w hs
  obtain ⟨_, _, m, _, _, _, _, h5⟩ := hs
  have h0 := h5 d
  rw [hd] at h0
  unfold sl at h0
  obtain ⟨_, cap, _, g1, g2, _⟩ := h0
  have : maxLen = 9223372036854775807 := by decide
  omega
end
theorem sameN_e (xs : List Nat) : Pu Tryz.prog 158 [dg xs, dg xs] (lit (.bool true)) := by
  refine Pu.ofLen (by kernel_rfl) fun hx => ?_
  refine Pu.intro Tryz.func158 rfl (by kernel_rfl) fun C => ?_
  repeat (refine A1 ⟨?_⟩; intros)
  refine WP.loop (ι := Nat) (fun k => k ≤ xs.length) (fun k => xs.length - k) (fun k => fm [(0, dg xs), (1, dg xs), (11, dg xs), (12, lit (.int .i64 xs.length)), (13, lit (.int .i64 k))]) (fun _ => []) 0
    (Nat.zero_le _) (by (repeat (first | exact LeF.nil _ | refine LeF.cons (Le.refl _) ?_ | refine LeF.cons (Le.int (by omega)) ?_))) rfl ?_
  rintro k hk K hK
  by_cases hkl : k < xs.length
  · repeat (refine A1 ⟨?_⟩; intros)
    exact hK _ _ (k + 1) (by omega) (by omega) (by (repeat (first | exact LeF.nil _ | refine LeF.cons (Le.refl _) ?_ | refine LeF.cons (Le.int (by omega)) ?_))) rfl
  · have hke : k = xs.length := by omega
    subst hke
    repeat (refine A1 ⟨?_⟩; intros)
    exact endR (end1 (RV.tmp rfl) (Le.refl _))
theorem sameI_e (s : Bool) (xs : List Nat) : Pu Tryz.prog 157 [raw s xs, raw s xs] (lit (.bool true)) := by
  cases s <;>
  · refine Pu.intro Tryz.func157 rfl (by kernel_rfl) fun C => ?_
    repeat (first | (refine A1 ⟨?_⟩; intros) | (refine Wcx (sameN_e _) ?_) | (refine Wdcx (sameN_e _) ?_) | (refine Wcgx (sameN_e _) ?_) | (refine Wdcgx (sameN_e _) ?_))
    ((first | refine endR ?_ | refine endN ?_); exact end1 (RV.tmp rfl) (Le.refl _))
theorem sameQ_e (s : Bool) (xs ys : List Nat) : Pu Tryz.prog 105 [qraw s xs ys, qraw s xs ys] (lit (.bool true)) := by
  have c1 := sameI_e s xs
  have c2 := sameN_e ys
  refine Pu.intro Tryz.func105 rfl (by kernel_rfl) fun C => ?_
  repeat (first | (refine A1 ⟨?_⟩; intros) | (refine Wcx (c1) ?_) | (refine Wdcx (c1) ?_) | (refine Wcgx (c1) ?_) | (refine Wdcgx (c1) ?_) | (refine Wcx (c2) ?_) | (refine Wdcx (c2) ?_) | (refine Wcgx (c2) ?_) | (refine Wdcgx (c2) ?_))
  ((first | refine endR ?_ | refine endN ?_); exact end1 (RV.tmp rfl) (Le.refl _))
theorem sameP_e (a b : RQ) : Pu Tryz.prog 57 [pr a b, pr a b] (lit (.bool true)) := by
  have c1 := sameQ_e a.s a.n a.d
  have c2 := sameQ_e b.s b.n b.d
  refine Pu.intro Tryz.func57 rfl (by kernel_rfl) fun C => ?_
  repeat (first | (refine A1 ⟨?_⟩; intros) | (refine Wcx (c1) ?_) | (refine Wdcx (c1) ?_) | (refine Wcgx (c1) ?_) | (refine Wdcgx (c1) ?_) | (refine Wcx (c2) ?_) | (refine Wdcx (c2) ?_) | (refine Wcgx (c2) ?_) | (refine Wdcgx (c2) ?_))
  ((first | refine endR ?_ | refine endN ?_); exact end1 (RV.tmp rfl) (Le.refl _))
theorem ptx_len (x : Rat × Rat) : (ptx x).length = 6 := rfl
theorem samePs_e (ps : List (Rat × Rat)) : Pu Tryz.prog 54 [ptsS ps, ptsS ps] (lit (.bool true)) := by
  refine Pu.ofLenS (by kernel_rfl) fun hl => ?_
  refine Pu.intro Tryz.func54 rfl (by kernel_rfl) fun C => ?_
  repeat (refine A1 ⟨?_⟩; intros)
  refine WP.loopS (ι := Nat) (fun k => k ≤ ps.length) (fun k => ps.length - k)
    (fun k => (fm [(0, ptsS ps), (1, ptsS ps), (12, lit (.int .i64 ps.length)), (13, lit (.int .i64 k))])) (fun _ => []) 0 (Nat.zero_le _) (by (repeat (first | exact LeF.nil _ | refine LeF.cons (Le.refl _) ?_ | refine LeF.cons (Le.int (by omega)) ?_))) (List.nil_sublist _) ?_
  rintro k hk K hK
  by_cases hkl : k < ps.length
  · have hget := List.getElem?_eq_getElem hkl
    generalize ps[k] = x at hget
    have hat := flat_at (f := ptx) (n := 6) ptx_len hget
    have hne : (ps.map ptx).flatten ≠ [] := flat_ne ptx_len (by omega) (fun e => by rw [e] at hkl; simp at hkl)
    have c : Pu Tryz.prog 57 [ag (ptx x), ag (ptx x)] (lit (.bool true)) := sameP_e (RQ.of x.1) (RQ.of x.2)
    have hgo := fun F' H' => hK F' H' (k + 1) (by omega) (by omega)
    clear hK hget
    repeat (first | (refine AS ⟨?_⟩; intros) | (refine O1 ⟨?_⟩; intros))
    refine WdN 10 ?_
    repeat (refine A1 ⟨?_⟩; intros)
    refine Wdo (ov_idxS (cs' := ptx x) rfl rfl (by omega) (by omega) hat hne) ?_
    repeat (refine A1 ⟨?_⟩; intros)
    refine Wdo (ov_idxS (cs' := ptx x) rfl rfl (by omega) (by omega) hat hne) ?_
    repeat (first | (refine A1 ⟨?_⟩; intros) | (refine Wcx (c) ?_) | (refine Wdcx (c) ?_) | (refine Wcgx (c) ?_) | (refine Wdcgx (c) ?_))
    exact hgo _ _ (by (repeat (first | exact LeF.nil _ | refine LeF.cons (Le.refl _) ?_ | refine LeF.cons (Le.int (by omega)) ?_))) (List.nil_sublist _)
  · obtain rfl : k = ps.length := by omega
    clear hK
    repeat (refine A1 ⟨?_⟩; intros)
    ((first | refine endR ?_ | refine endN ?_); exact end1 (RV.tmp rfl) (Le.refl _))
theorem chx_len (c : Chn) : (chx c).length = 13 := rfl
theorem rgx_len (r : List (Rat × Rat)) : (rgx r).length = 1 := rfl
set_option maxHeartbeats 8000000 in
theorem sameOl_e (far : Bool) (rs : List (List (Rat × Rat))) (cs : List Chn) :
    Pu Tryz.prog 55 [ag [lit (.bool far), rgsS rs, chsS cs], ag [lit (.bool far), rgsS rs, chsS cs]] (lit (.bool true)) := by
  have hfar : (far != far) = false := by cases far <;> rfl
  refine Pu.intro Tryz.func55 rfl (by kernel_rfl) fun C => ?_
  repeat (refine A1 ⟨?_⟩; intros)
  rename_i b2 b3
  rw [hfar]
  repeat (refine A1 ⟨?_⟩; intros)
  refine WP.lenS (d := 33) rfl fun hr => ?_
  refine WP.loopS (ι := Nat) (fun k => k ≤ rs.length) (fun k => rs.length - k)
    (fun k => (fm [(2, lit (.pointer (some ⟨b2, 0, none⟩))), (3, lit (.pointer (some ⟨b3, 0, none⟩))), (34, lit (.int .i64 rs.length)), (35, lit (.int .i64 k))])) (fun _ => [(b3, olT, [lit (.bool far), rgsS rs, chsS cs]), (b2, olT, [lit (.bool far), rgsS rs, chsS cs])]) 0 (Nat.zero_le _) (by (repeat (first | exact LeF.nil _ | refine LeF.cons (Le.refl _) ?_ | refine LeF.cons (Le.int (by omega)) ?_))) (List.Sublist.refl _) ?_
  rintro k hk K hK
  by_cases hkl : k < rs.length
  · have hget := List.getElem?_eq_getElem hkl
    generalize rs[k] = x at hget
    have hat := flat_at (f := rgx) (n := 1) rgx_len hget
    have hne : (rs.map rgx).flatten ≠ [] := flat_ne rgx_len (by omega) (fun e => by rw [e] at hkl; simp at hkl)
    have c := samePs_e x
    have hgo := fun F' H' => hK F' H' (k + 1) (by omega) (by omega)
    clear hK hget
    repeat (first | (refine AS ⟨?_⟩; intros) | (refine O1 ⟨?_⟩; intros))
    refine WdN 12 ?_
    repeat (refine A1 ⟨?_⟩; intros)
    refine Wdo (ov_idxS (cs' := rgx x) rfl rfl (by omega) (by omega) hat hne) ?_
    repeat (refine A1 ⟨?_⟩; intros)
    refine Wdo (ov_idxS (cs' := rgx x) rfl rfl (by omega) (by omega) hat hne) ?_
    repeat (first | (refine A1 ⟨?_⟩; intros) | (refine Wcx (c) ?_) | (refine Wdcx (c) ?_) | (refine Wcgx (c) ?_) | (refine Wdcgx (c) ?_))
    exact hgo _ _ (by (repeat (first | exact LeF.nil _ | refine LeF.cons (Le.refl _) ?_ | refine LeF.cons (Le.int (by omega)) ?_))) (List.Sublist.refl _)
  obtain rfl : k = rs.length := by omega
  clear hK hkl
  repeat (refine A1 ⟨?_⟩; intros)
  refine WP.lenS (d := 52) rfl fun hc => ?_
  refine WP.loopS (ι := Nat) (fun k => k ≤ cs.length) (fun k => cs.length - k)
    (fun k => (fm [(2, lit (.pointer (some ⟨b2, 0, none⟩))), (3, lit (.pointer (some ⟨b3, 0, none⟩))), (53, lit (.int .i64 cs.length)), (54, lit (.int .i64 k))])) (fun _ => [(b3, olT, [lit (.bool far), rgsS rs, chsS cs]), (b2, olT, [lit (.bool far), rgsS rs, chsS cs])]) 0 (Nat.zero_le _) (by (repeat (first | exact LeF.nil _ | refine LeF.cons (Le.refl _) ?_ | refine LeF.cons (Le.int (by omega)) ?_))) (List.Sublist.refl _) ?_
  rintro k hk K hK
  by_cases hkl : k < cs.length
  · have hget := List.getElem?_eq_getElem hkl
    generalize cs[k] = x at hget
    have hat := flat_at (f := chx) (n := 13) chx_len hget
    have hne : (cs.map chx).flatten ≠ [] := flat_ne chx_len (by omega) (fun e => by rw [e] at hkl; simp at hkl)
    have c := samePs_e x.m
    have c1 : Pu Tryz.prog 57 [ag (ptx x.a), ag (ptx x.a)] (lit (.bool true)) := sameP_e (RQ.of x.a.1) (RQ.of x.a.2)
    have c2 : Pu Tryz.prog 57 [ag (ptx x.b), ag (ptx x.b)] (lit (.bool true)) := sameP_e (RQ.of x.b.1) (RQ.of x.b.2)
    have hgo := fun F' H' => hK F' H' (k + 1) (by omega) (by omega)
    clear hK hget
    repeat (first | (refine AS ⟨?_⟩; intros) | (refine O1 ⟨?_⟩; intros))
    refine WdL 12 1 ?_
    repeat (refine A1 ⟨?_⟩; intros)
    refine Wdo (ov_idxS (cs' := chx x) rfl rfl (by omega) (by omega) hat hne) ?_
    repeat (refine A1 ⟨?_⟩; intros)
    refine Wdo (ov_idxS (cs' := chx x) rfl rfl (by omega) (by omega) hat hne) ?_
    repeat (refine A1 ⟨?_⟩; intros)
    refine dL2 fun b7 b8 => ?_
    refine Gs (sv := ag (chx x)) (cs' := chx x) rfl rfl rfl (by first | exact .here _ | exact .there _ (.here _)) rfl rfl ?_ ?_
    · (repeat (first | exact LOk.nil | refine Lsk ?_ | refine Lcv ?_ | refine Lcv ?_ (hop := ov_idxS (cs' := chx x) rfl rfl (by omega) (by omega) hat hne)))
    refine Gn ?_ ?_
    · (repeat (first | exact LOk.nil | refine Lsk ?_ | refine Lcv ?_ | refine Lcv ?_ (hop := ov_idxS (cs' := chx x) rfl rfl (by omega) (by omega) hat hne)))
    repeat (first | (refine A1 ⟨?_⟩; intros) | (refine Wcx (c) ?_) | (refine Wdcx (c) ?_) | (refine Wcgx (c) ?_) | (refine Wdcgx (c) ?_) | (refine Wcx (c1) ?_) | (refine Wdcx (c1) ?_) | (refine Wcgx (c1) ?_) | (refine Wdcgx (c1) ?_) | (refine Wcx (c2) ?_) | (refine Wdcx (c2) ?_) | (refine Wcgx (c2) ?_) | (refine Wdcgx (c2) ?_))
    exact hgo _ _ (by (repeat (first | exact LeF.nil _ | refine LeF.cons (Le.refl _) ?_ | refine LeF.cons (Le.int (by omega)) ?_))) (by repeat (first | exact List.Sublist.refl _ | refine List.Sublist.cons _ ?_))
  obtain rfl : k = cs.length := by omega
  clear hK hkl
  repeat (refine A1 ⟨?_⟩; intros)
  ((first | refine endR ?_ | refine endN ?_); exact end1 (RV.tmp rfl) (Le.refl _))
theorem clr_eq {n m : Nd} (h : n.clr = m.clr) : m = { n with ln := m.ln, cl := m.cl } := by
  cases n; cases m
  simp only [Nd.clr, Nd.mk.injEq] at h ⊢
  simp only [h, and_self]
set_option maxHeartbeats 4000000 in
theorem sameEx_e (ns ms : List Nd) (h : clrL ns = clrL ms) : Pu Tryz.prog 56 [exS ns, exS ms, lit (.bool false)] (lit (.bool true)) := by
  have hl := clrL_len h
  refine Pu.ofLenS (by kernel_rfl) fun hl2 => ?_
  refine Pu.intro Tryz.func56 rfl (by kernel_rfl) fun C => ?_
  repeat (refine A1 ⟨?_⟩; intros)
  refine WP.loopS (ι := Nat) (fun k => k ≤ ns.length) (fun k => ns.length - k)
    (fun k => (fm [(1, exS ms), (2, lit (.bool false)), (15, exS ns), (16, lit (.int .i64 ns.length)), (17, lit (.int .i64 k))])) (fun _ => []) 0 (Nat.zero_le _) (by (repeat (first | exact LeF.nil _ | refine LeF.cons (Le.refl _) ?_ | refine LeF.cons (Le.int (by omega)) ?_))) (List.nil_sublist _) ?_
  rintro k hk K hK
  by_cases hkl : k < ns.length
  · have hget1 := List.getElem?_eq_getElem hkl
    have hget2 := List.getElem?_eq_getElem (l := ms) (i := k) (by omega)
    have hclr : (ns[k]).clr = (ms[k]'(by omega)).clr := by
      have h1 : (clrL ns)[k]? = (clrL ms)[k]? := by rw [h]
      simp only [clrL, List.getElem?_map, hget1, hget2, Option.map_some, Option.some.injEq] at h1
      exact h1
    generalize ns[k] = n at hget1 hclr
    generalize ms[k] = m at hget2 hclr
    have hm := clr_eq hclr
    have hat1 := flat_at (f := ndx) (n := 19) ndx_len hget1
    have hne1 : (ns.map ndx).flatten ≠ [] := flat_ne ndx_len (by omega) (fun e => by rw [e] at hkl; simp at hkl)
    have hat2 := flat_at (f := ndx) (n := 19) ndx_len hget2
    have hne2 : (ms.map ndx).flatten ≠ [] := flat_ne ndx_len (by omega) (fun e => by rw [e] at hget2; simp at hget2)
    have p1 := sameP_e n.a n.b
    have p2 := sameP_e n.c n.e
    have hgo := fun F' H' => hK F' H' (k + 1) (by omega) (by omega)
    generalize m.ln = ml at hm
    generalize m.cl = mc at hm
    subst hm
    clear hK hget1 hget2 hclr h
    dsimp only [ndx] at hat2
    repeat (refine A1 ⟨?_⟩; intros)
    refine Wo (ov_idxS (cs' := ndx n) rfl rfl (by omega) (by omega) hat1 hne1) ?_
    repeat (refine A1 ⟨?_⟩; intros)
    refine Wo (ov_idxS rfl rfl (by omega) (by omega) hat2 hne2) ?_
    have q2 : n.nm = n.nm := rfl
    repeat (first | (refine A1 ⟨?_⟩; intros) | (refine Wcx (p1) ?_) | (refine Wdcx (p1) ?_) | (refine Wcgx (p1) ?_) | (refine Wdcgx (p1) ?_) | (refine Wcx (p2) ?_) | (refine Wdcx (p2) ?_) | (refine Wcgx (p2) ?_) | (refine Wdcgx (p2) ?_))
    exact hgo _ _ (by (repeat (first | exact LeF.nil _ | refine LeF.cons (Le.refl _) ?_ | refine LeF.cons (Le.int (by omega)) ?_))) (List.nil_sublist _)
  · obtain rfl : k = ns.length := by omega
    clear hK
    repeat (refine A1 ⟨?_⟩; intros)
    ((first | refine endR ?_ | refine endN ?_); exact end1 (RV.tmp rfl) (Le.refl _))
theorem nmx_len (r : List UInt8) : (nmx r).length = 1 := rfl
set_option maxHeartbeats 8000000 in
theorem sameSt_e (s t : Stm) (h : SS s t) : Pu Tryz.prog 29 [ag (stx s), ag (stx t), lit (.bool false)] (lit (.bool true)) := by
  have h' : s.clr = t.clr := h
  have he1 : clrL s.e1 = clrL t.e1 := congrArg Stm.e1 h'
  have he2 : clrL s.e2 = clrL t.e2 := congrArg Stm.e2 h'
  obtain ⟨sk, sl', sc, nm, bd, ps, fl, nms, ⟨far, rs, cs⟩, e1, e2, px, py⟩ := s
  obtain ⟨tk, tl, tc, nm', bd', ps', fl', nms', ⟨far', rs', cs'⟩, f1, f2, px', py'⟩ := t
  simp only [Stm.clr, Stm.mk.injEq, Otl.mk.injEq] at h'
  obtain ⟨rfl, -, -, rfl, rfl, rfl, rfl, rfl, ⟨rfl, rfl, rfl⟩, -, -, rfl, rfl⟩ := h'
  simp only at he1 he2
  have q2 : nm = nm := rfl
  have c1 := samePs_e ps
  have c2 := sameOl_e far rs cs
  have c3 := sameEx_e e1 f1 he1
  have c4 := sameEx_e e2 f2 he2
  have c5 := sameP_e px py
  clear h he1 he2
  show Pu _ _ [ag [lit (.int .i64 (sk : Nat)), lit (.int .i64 (sl' : Nat)), lit (.int .i64 (sc : Nat)), str nm, lit (.int .i64 (bd : Nat)), ptsS ps, lit (.int .i64 (fl : Nat)), nmsS nms, lit (.bool far), rgsS rs, chsS cs, exS e1, exS e2, lit (.bool px.s), dg px.n, dg px.d, lit (.bool py.s), dg py.n, dg py.d],
    ag [lit (.int .i64 (sk : Nat)), lit (.int .i64 (tl : Nat)), lit (.int .i64 (tc : Nat)), str nm, lit (.int .i64 (bd : Nat)), ptsS ps, lit (.int .i64 (fl : Nat)), nmsS nms, lit (.bool far), rgsS rs, chsS cs, exS f1, exS f2, lit (.bool px.s), dg px.n, dg px.d, lit (.bool py.s), dg py.n, dg py.d], lit (.bool false)] _
  refine Pu.intro Tryz.func29 rfl (by kernel_rfl) fun C => ?_
  repeat (refine A1 ⟨?_⟩; intros)
  rename_i b3 b4
  refine WP.lenS (d := 61) rfl fun hn => ?_
  refine WP.loopS (ι := Nat) (fun k => k ≤ nms.length) (fun k => nms.length - k)
    (fun k => (fm [(2, lit (.bool false)), (3, lit (.pointer (some ⟨b3, 0, none⟩))), (4, lit (.pointer (some ⟨b4, 0, none⟩))), (62, lit (.int .i64 nms.length)), (63, lit (.int .i64 k))]))
    (fun _ => [(b4, stT, [lit (.int .i64 (sk : Nat)), lit (.int .i64 (tl : Nat)), lit (.int .i64 (tc : Nat)), str nm, lit (.int .i64 (bd : Nat)), ptsS ps, lit (.int .i64 (fl : Nat)), nmsS nms, lit (.bool far), rgsS rs, chsS cs, exS f1, exS f2, lit (.bool px.s), dg px.n, dg px.d, lit (.bool py.s), dg py.n, dg py.d]),
      (b3, stT, [lit (.int .i64 (sk : Nat)), lit (.int .i64 (sl' : Nat)), lit (.int .i64 (sc : Nat)), str nm, lit (.int .i64 (bd : Nat)), ptsS ps, lit (.int .i64 (fl : Nat)), nmsS nms, lit (.bool far), rgsS rs, chsS cs, exS e1, exS e2, lit (.bool px.s), dg px.n, dg px.d, lit (.bool py.s), dg py.n, dg py.d])]) 0 (Nat.zero_le _) (by (repeat (first | exact LeF.nil _ | refine LeF.cons (Le.refl _) ?_ | refine LeF.cons (Le.int (by omega)) ?_))) (List.Sublist.refl _) ?_
  rintro k hk K hK
  by_cases hkl : k < nms.length
  · have hget := List.getElem?_eq_getElem hkl
    generalize nms[k] = x at hget
    have hat := flat_at (f := nmx) (n := 1) nmx_len hget
    have hne : (nms.map nmx).flatten ≠ [] := flat_ne nmx_len (by omega) (fun e => by rw [e] at hkl; simp at hkl)
    have q3 : x = x := rfl
    have hgo := fun F' H' => hK F' H' (k + 1) (by omega) (by omega)
    clear hK hget c1 c2 c3 c4 c5
    repeat (first | (refine AS ⟨?_⟩; intros) | (refine O1 ⟨?_⟩; intros))
    refine WdN 11 ?_
    repeat (refine A1 ⟨?_⟩; intros)
    refine Wdo (ov_idxS (cs' := nmx x) rfl rfl (by omega) (by omega) hat hne) ?_
    repeat (refine A1 ⟨?_⟩; intros)
    refine Wdo (ov_idxS (cs' := nmx x) rfl rfl (by omega) (by omega) hat hne) ?_
    repeat (refine A1 ⟨?_⟩; intros)
    exact hgo _ _ (by (repeat (first | exact LeF.nil _ | refine LeF.cons (Le.refl _) ?_ | refine LeF.cons (Le.int (by omega)) ?_))) (List.Sublist.refl _)
  obtain rfl : k = nms.length := by omega
  clear hK hkl
  repeat (first | (refine A1 ⟨?_⟩; intros) | (refine Wcx (c1) ?_) | (refine Wdcx (c1) ?_) | (refine Wcgx (c1) ?_) | (refine Wdcgx (c1) ?_) | (refine Wcx (c2) ?_) | (refine Wdcx (c2) ?_) | (refine Wcgx (c2) ?_) | (refine Wdcgx (c2) ?_) | (refine Wcx (c3) ?_) | (refine Wdcx (c3) ?_) | (refine Wcgx (c3) ?_) | (refine Wdcgx (c3) ?_) | (refine Wcx (c4) ?_) | (refine Wdcx (c4) ?_) | (refine Wcgx (c4) ?_) | (refine Wdcgx (c4) ?_) | (refine Wcx (c5) ?_) | (refine Wdcx (c5) ?_) | (refine Wcgx (c5) ?_) | (refine Wdcgx (c5) ?_))
  ((first | refine endR ?_ | refine endN ?_); exact end1 (RV.tmp rfl) (Le.refl _))
set_option maxHeartbeats 4000000 in
theorem sameSts_e (a b : List Stm) (h : a.map Stm.clr = b.map Stm.clr) : Pu Tryz.prog 12 [stsS a, stsS b, lit (.bool false)] (lit (.bool true)) := by
  have hl : a.length = b.length := by
    have := congrArg List.length h
    simpa using this
  refine Pu.ofLenS (by kernel_rfl) fun hl2 => ?_
  refine Pu.intro Tryz.func12 rfl (by kernel_rfl) fun C => ?_
  repeat (refine A1 ⟨?_⟩; intros)
  refine WP.loopS (ι := Nat) (fun k => k ≤ a.length) (fun k => a.length - k)
    (fun k => (fm [(0, stsS a), (1, stsS b), (2, lit (.bool false)), (14, lit (.int .i64 a.length)), (15, lit (.int .i64 k))])) (fun _ => []) 0 (Nat.zero_le _) (by (repeat (first | exact LeF.nil _ | refine LeF.cons (Le.refl _) ?_ | refine LeF.cons (Le.int (by omega)) ?_))) (List.nil_sublist _) ?_
  rintro k hk K hK
  by_cases hkl : k < a.length
  · have hget1 := List.getElem?_eq_getElem hkl
    have hget2 := List.getElem?_eq_getElem (l := b) (i := k) (by omega)
    have hclr : SS (a[k]) (b[k]'(by omega)) := by
      have h1 : (a.map Stm.clr)[k]? = (b.map Stm.clr)[k]? := by rw [h]
      simp only [List.getElem?_map, hget1, hget2, Option.map_some, Option.some.injEq] at h1
      exact h1
    generalize a[k] = n at hget1 hclr
    generalize b[k] = m at hget2 hclr
    have hat1 := flat_at (f := stx) (n := 19) stx_len hget1
    have hne1 : (a.map stx).flatten ≠ [] := flat_ne stx_len (by omega) (fun e => by rw [e] at hkl; simp at hkl)
    have hat2 := flat_at (f := stx) (n := 19) stx_len hget2
    have hne2 : (b.map stx).flatten ≠ [] := flat_ne stx_len (by omega) (fun e => by rw [e] at hget2; simp at hget2)
    have c := sameSt_e n m hclr
    have hgo := fun F' H' => hK F' H' (k + 1) (by omega) (by omega)
    clear hK hget1 hget2 hclr h
    repeat (first | (refine AS ⟨?_⟩; intros) | (refine O1 ⟨?_⟩; intros))
    refine WdN 11 ?_
    repeat (refine A1 ⟨?_⟩; intros)
    refine Wdo (ov_idxS (cs' := stx n) rfl rfl (by omega) (by omega) hat1 hne1) ?_
    repeat (refine A1 ⟨?_⟩; intros)
    refine Wdo (ov_idxS (cs' := stx m) rfl rfl (by omega) (by omega) hat2 hne2) ?_
    repeat (first | (refine A1 ⟨?_⟩; intros) | (refine Wcx (c) ?_) | (refine Wdcx (c) ?_) | (refine Wcgx (c) ?_) | (refine Wdcgx (c) ?_))
    exact hgo _ _ (by (repeat (first | exact LeF.nil _ | refine LeF.cons (Le.refl _) ?_ | refine LeF.cons (Le.int (by omega)) ?_))) (List.nil_sublist _)
  · obtain rfl : k = a.length := by omega
    clear hK
    repeat (refine A1 ⟨?_⟩; intros)
    ((first | refine endR ?_ | refine endN ?_); exact end1 (RV.tmp rfl) (Le.refl _))
def bcnt (b : UInt8) (l : List UInt8) : Nat := (l.filter fun x => decide (x = b)).length
theorem bcnt_append (b : UInt8) (l r : List UInt8) : bcnt b (l ++ r) = bcnt b l + bcnt b r := by unfold bcnt; rw [List.filter_append, List.length_append]
theorem bcnt_cons (b a : UInt8) (l : List UInt8) : bcnt b (a :: l) = (if a = b then 1 else 0) + bcnt b l := by
  unfold bcnt
  rw [List.filter_cons]
  by_cases h : a = b
  · rw [if_pos h, if_pos (by simpa using h)]; simp; omega
  · rw [if_neg h, if_neg (by simpa using h)]; omega
theorem bcnt_none {b : UInt8} {l : List UInt8} (h : ∀ x ∈ l, x ≠ b) : bcnt b l = 0 := by
  unfold bcnt
  rw [List.filter_eq_nil_iff.2 fun x hx => by simpa using h x hx]; rfl
theorem bcnt_take_drop (b : UInt8) (l : List UInt8) (k : Nat) : bcnt b (l.take k) + bcnt b (l.drop k) = bcnt b l := by
  rw [← bcnt_append, List.take_append_drop]
def lev (l : List UInt8) : Int := (bcnt 40 l : Int) - bcnt 41 l
theorem lev_append (l r : List UInt8) : lev (l ++ r) = lev l + lev r := by unfold lev; rw [bcnt_append, bcnt_append]; omega
structure Bal (l : List UInt8) : Prop where
  zero : lev l = 0
  pos : ∀ k, 0 ≤ lev (l.take k)
theorem Bal.append {l r : List UInt8} (h : Bal l) (k : Bal r) : Bal (l ++ r) := by
  refine ⟨by rw [lev_append, h.zero, k.zero]; rfl, fun n => ?_⟩
  rw [List.take_append, lev_append]
  have := h.pos n
  have := k.pos (n - l.length)
  omega
theorem Bal.plain {l : List UInt8} (h : ∀ x ∈ l, x ≠ 40 ∧ x ≠ 41) : Bal l := by
  have g : ∀ r : List UInt8, (∀ x ∈ r, x ∈ l) → lev r = 0 := fun r hr => by
    unfold lev
    rw [bcnt_none fun x hx => (h x (hr x hx)).1, bcnt_none fun x hx => (h x (hr x hx)).2]; rfl
  exact ⟨g l fun _ hx => hx, fun k => by rw [g _ fun x hx => List.mem_of_mem_take hx]; exact Int.le_refl _⟩
theorem Bal.wrap {l : List UInt8} (h : Bal l) : Bal ([40] ++ l ++ [41]) := by
  have h1 : lev [40] = 1 := by decide
  have h2 : lev [41] = -1 := by decide
  refine ⟨by rw [lev_append, lev_append, h.zero, h1, h2]; rfl, fun n => ?_⟩
  cases n with
  | zero => exact Int.le_refl _
  | succ n =>
    rw [List.append_assoc, List.singleton_append, List.take_succ_cons, show ∀ r : List UInt8, (40 : UInt8) :: r = [40] ++ r from fun _ => rfl, lev_append, h1, List.take_append, lev_append]
    have := h.pos n
    have h3 : -1 ≤ lev (([41] : List UInt8).take (n - l.length)) := by
      cases n - l.length with
      | zero => decide
      | succ m => rw [List.take_succ_cons, List.take_nil, h2]; exact Int.le_refl _
    omega
def Ex.let : Ex → Bool
  | .leaf n => decide (n.k ≠ 4) && n.nm.all fun b => decide (clsN b.toNat = 3)
  | .un _ x => x.let
  | .bi _ l r => l.let && r.let
def shE (n : Nat) (e : Er) : Er := { e with l := e.l + n }
def shT (n : Nat) (t : Tok) : Tok := { t with l := t.l + n }
theorem gsk_sh (n : Nat) : ∀ (cm : Bool) (l : List UInt8) (ln cl : Nat), gsk cm l (ln + n) cl = ((gsk cm l ln cl).1, (gsk cm l ln cl).2.1 + n, (gsk cm l ln cl).2.2)
  | _, [], _, _ => rfl
  | cm, b :: r, ln, cl => by
    rw [gsk, gsk]
    split
    · rw [show ln + n + 1 = ln + 1 + n by omega, gsk_sh n false r]
    · split
      · rw [gsk_sh n true r]
      · split
        · rw [gsk_sh n false r]
        · rfl
theorem gnx_sh (n : Nat) (l : List UInt8) (ln cl : Nat) : gnx l (ln + n) cl = match gnx l ln cl with
    | .error e => .error (shE n e)
    | .ok (t, k) => .ok (shT n t, k) := by
  unfold gnx
  rw [gsk_sh n]
  generalize gsk false l ln cl = q
  obtain ⟨q, lq, cq⟩ := q
  simp only
  cases l.drop q with
  | nil => rfl
  | cons b r =>
    simp only
    by_cases h3 : clsN b.toNat = 3
    · simp only [if_pos h3]
      split <;> rfl
    simp only [if_neg h3]
    by_cases h4 : clsN b.toNat = 4
    · simp only [if_pos h4]
      split <;> rfl
    simp only [if_neg h4]
    split <;> rfl
theorem glexF_sh (n : Nat) : ∀ (f : Nat) (l : List UInt8) (ln cl : Nat), 0 < f → l.length < f → glexF f l (ln + n) cl = match glexF f l ln cl with
    | .error e => .error (shE n e)
    | .ok ts => .ok (ts.map (shT n)) := by
  intro f
  induction f with
  | zero => intro l ln cl h; omega
  | succ f ih =>
    intro l ln cl _ hl
    rw [glexF_succ, glexF_succ, gnx_sh n]
    cases hn : gnx l ln cl with
    | error e => rfl
    | ok q =>
      obtain ⟨t, k⟩ := q
      simp only
      by_cases h0 : t.k = 0
      · rw [if_pos (show (shT n t).k = 0 from h0), if_pos h0]; rfl
      · rw [if_neg (show ¬ (shT n t).k = 0 from h0), if_neg h0]
        have hb := gnx_bd hn
        have hk := hb.2.1 h0
        have e1 : glexF f (l.drop k) (shT n t).l ((shT n t).c + (shT n t).t.length) = glexF f (l.drop k) (t.l + n) (t.c + t.t.length) := rfl
        by_cases hf : f = 0
        · have := hb.1; omega
        rw [e1, ih (l.drop k) t.l _ (by omega) (by rw [List.length_drop]; omega)]
        cases glexF f (l.drop k) t.l (t.c + t.t.length) with
        | error e => rfl
        | ok ts => rfl
inductive LexR : Except Er (List Tok) → Except Er (List Tok) → Prop
  | ok {x y : List Tok} (h : LR (fun _ _ _ _ => True) x y) : LexR (.ok x) (.ok y)
  | er {e e' : Er} : LexR (.error e) (.error e')
inductive NxR : Except Er (Tok × Nat) → Except Er (Tok × Nat) → Prop
  | ok {t t' : Tok} {k : Nat} (h : TokR (fun _ _ _ _ => True) t t') : NxR (.ok (t, k)) (.ok (t', k))
  | er {e e' : Er} : NxR (.error e) (.error e')
theorem glexF_fuel : ∀ (f f' : Nat) (l : List UInt8) (ln cl : Nat), l.length < f → l.length < f' → glexF f l ln cl = glexF f' l ln cl := by
  intro f
  induction f with
  | zero => intro f' l ln cl h; omega
  | succ f ih =>
    intro f' l ln cl h h'
    obtain ⟨f', rfl⟩ : ∃ g, f' = g + 1 := ⟨f' - 1, by omega⟩
    rw [glexF_succ, glexF_succ]
    cases hn : gnx l ln cl with
    | error e => rfl
    | ok q =>
      obtain ⟨t, k⟩ := q
      simp only
      split
      · rfl
      · next h0 =>
        have hb := gnx_bd hn
        have hk := hb.2.1 h0
        rw [ih f' (l.drop k) t.l (t.c + t.t.length) (by rw [List.length_drop]; omega) (by rw [List.length_drop]; omega)]
def sepP (x : UInt8) (p : Nat × Nat) : Nat × Nat := if x.toNat = 10 then (p.1 + 1, 1) else (p.1, p.2 + 1)
theorem cls2 {b : Nat} (h : clsN b = 2) : b = 35 := by
  unfold clsN at h
  split at h
  · exact absurd h (by decide)
  · split at h
    · assumption
    · split at h
      · exact absurd h (by decide)
      · split at h
        · exact absurd h (by decide)
        · split at h <;> exact absurd h (by decide)
theorem gsk_full {x : UInt8} {y : List UInt8} (hx : clsN x.toNat = 1) : ∀ (cm : Bool) (l : List UInt8) (ln cl : Nat), (x.toNat = 10 ∨ (cm = false ∧ (35 : UInt8) ∉ l)) → (gsk cm l ln cl).1 = l.length →
    gsk cm (l ++ x :: y) ln cl = ((gsk false y (sepP x (gsk cm l ln cl).2).1 (sepP x (gsk cm l ln cl).2).2).1 + (l.length + 1), (gsk false y (sepP x (gsk cm l ln cl).2).1 (sepP x (gsk cm l ln cl).2).2).2)
  | cm, [], ln, cl, h, _ => by
    have e0 : (gsk cm [] ln cl).2 = (ln, cl) := by rw [gsk]
    rw [e0, List.nil_append, gsk]
    unfold sepP
    by_cases h10 : x.toNat = 10
    · rw [if_pos h10, if_pos h10]; rfl
    · obtain ⟨hcm, -⟩ := h.resolve_left h10
      rw [if_neg h10, if_neg h10, if_neg (by rintro (e | e); rw [hcm] at e; cases e; rw [hx] at e; exact absurd e (by decide)), if_pos hx]
      rfl
  | cm, b :: r, ln, cl, h, hl => by
    have hr : (35 : UInt8) ∉ b :: r → (35 : UInt8) ∉ r := fun h k => h (List.mem_cons_of_mem _ k)
    rw [List.cons_append]
    rw [gsk] at hl ⊢
    rw [gsk]
    by_cases h10 : b.toNat = 10
    · rw [if_pos h10] at hl ⊢
      rw [if_pos h10]
      simp only [List.length_cons] at hl ⊢
      rw [gsk_full hx false r (ln + 1) 1 (h.imp id fun h => ⟨rfl, hr h.2⟩) (by omega)]
      simp only [Nat.add_assoc]
    · rw [if_neg h10] at hl ⊢
      rw [if_neg h10]
      by_cases hc : cm = true ∨ clsN b.toNat = 2
      · rw [if_pos hc] at hl ⊢
        rw [if_pos hc]
        simp only [List.length_cons] at hl ⊢
        have hx10 : x.toNat = 10 := by
          rcases h with h | ⟨h1, h2⟩
          · exact h
          · exfalso
            rcases hc with hc | hc
            · rw [h1] at hc; cases hc
            · have hb := cls2 hc
              exact h2 (by rw [show b = 35 from UInt8.toNat_inj.1 hb]; simp)
        rw [gsk_full hx true r ln (cl + 1) (.inl hx10) (by omega)]
        simp only [Nat.add_assoc]
      · rw [if_neg hc] at hl ⊢
        rw [if_neg hc]
        by_cases h1 : clsN b.toNat = 1
        · rw [if_pos h1] at hl ⊢
          rw [if_pos h1]
          simp only [List.length_cons] at hl ⊢
          rw [gsk_full hx false r ln (cl + 1) (h.imp id fun h => ⟨rfl, hr h.2⟩) (by omega)]
          simp only [Nat.add_assoc]
        · rw [if_neg h1] at hl
          simp at hl
theorem gsk_part {y : List UInt8} : ∀ (cm : Bool) (l : List UInt8) (ln cl : Nat), (gsk cm l ln cl).1 < l.length → gsk cm (l ++ y) ln cl = gsk cm l ln cl
  | cm, [], _, _, h => by simp at h
  | cm, b :: r, ln, cl, h => by
    rw [List.cons_append]
    rw [gsk] at h ⊢
    rw [gsk]
    simp only [List.length_cons] at h
    by_cases h10 : b.toNat = 10
    · rw [if_pos h10] at h ⊢
      rw [if_pos h10, gsk_part false r _ _ (by simp only at h; omega)]
    · rw [if_neg h10] at h ⊢
      rw [if_neg h10]
      by_cases hc : cm = true ∨ clsN b.toNat = 2
      · rw [if_pos hc] at h ⊢
        rw [if_pos hc, gsk_part true r _ _ (by simp only at h; omega)]
      · rw [if_neg hc] at h ⊢
        rw [if_neg hc]
        by_cases h1 : clsN b.toNat = 1
        · rw [if_pos h1] at h ⊢
          rw [if_pos h1, gsk_part false r _ _ (by simp only at h; omega)]
        · rw [if_neg h1, if_neg h1]
theorem grun_app {p : Int → Bool} {x : UInt8} (hp : p (clsN x.toNat) = false) (y : List UInt8) : ∀ l : List UInt8, grun p (l ++ x :: y) = grun p l
  | [] => by rw [List.nil_append, grun_f hp]; rfl
  | a :: l => by
    rw [List.cons_append]
    cases h : p (clsN a.toNat) with
    | true => rw [grun_t h, grun_t h, grun_app hp y l]
    | false => rw [grun_f h, grun_f h]
theorem gsk_line : ∀ (cm : Bool) (l : List UInt8) (ln cl : Nat), (gsk cm l ln cl).2.1 = ln + bcnt 10 (l.take (gsk cm l ln cl).1)
  | _, [], ln, _ => by simp [gsk, bcnt]
  | cm, b :: r, ln, cl => by
    have hb : b.toNat = 10 ↔ b = 10 := ⟨fun h => UInt8.toNat_inj.1 h, fun h => by rw [h]; rfl⟩
    rw [gsk]
    by_cases h10 : b.toNat = 10
    · rw [if_pos h10]
      simp only [List.take_succ_cons, bcnt_cons]
      rw [if_pos (hb.1 h10), gsk_line false r]
      omega
    · have hne : ¬ b = 10 := fun e => h10 (hb.2 e)
      rw [if_neg h10]
      split
      · simp only [List.take_succ_cons, bcnt_cons]
        rw [if_neg hne, gsk_line true r]
        omega
      · split
        · simp only [List.take_succ_cons, bcnt_cons]
          rw [if_neg hne, gsk_line false r]
          omega
        · simp [bcnt]
theorem gnx_part {x : UInt8} {y l : List UInt8} (hx : clsN x.toNat = 1) {ln cl : Nat} (h : (gsk false l ln cl).1 < l.length) : gnx (l ++ x :: y) ln cl = gnx l ln cl := by
  unfold gnx
  rw [gsk_part false l ln cl h]
  generalize gsk false l ln cl = q at h ⊢
  obtain ⟨q, lq, cq⟩ := q
  simp only at h ⊢
  rw [List.drop_append_of_le_length (by omega), List.drop_eq_getElem_cons h]
  simp only [List.cons_append]
  generalize l[q] = b
  generalize l.drop (q + 1) = r
  have e1 : grun isLD (b :: (r ++ x :: y)) = grun isLD (b :: r) := grun_app (by rw [hx]; rfl) y (b :: r)
  have e2 : grun isD (b :: (r ++ x :: y)) = grun isD (b :: r) := grun_app (by rw [hx]; rfl) y (b :: r)
  have t1 : (b :: (r ++ x :: y)).take (grun isLD (b :: r)) = (b :: r).take (grun isLD (b :: r)) := List.take_append_of_le_length (l₁ := b :: r) (grun_le _ _)
  have t2 : (b :: (r ++ x :: y)).take (grun isD (b :: r)) = (b :: r).take (grun isD (b :: r)) := List.take_append_of_le_length (l₁ := b :: r) (grun_le _ _)
  rw [e1, e2, t1, t2]
theorem gnx_end {l : List UInt8} {ln cl : Nat} (h : (gsk false l ln cl).1 = l.length) : gnx l ln cl = .ok (⟨0, [], (gsk false l ln cl).2.1, (gsk false l ln cl).2.2⟩, (gsk false l ln cl).1) := by
  unfold gnx
  rw [h, List.drop_length]
theorem gnx_full {x : UInt8} {y l : List UInt8} (hx : clsN x.toNat = 1) (hc : x.toNat = 10 ∨ (35 : UInt8) ∉ l) {ln cl : Nat} (h : (gsk false l ln cl).1 = l.length) :
    gnx (l ++ x :: y) ln cl = match gnx y (sepP x (gsk false l ln cl).2).1 (sepP x (gsk false l ln cl).2).2 with
      | .error e => .error e
      | .ok (t, k) => .ok (t, k + (l.length + 1)) := by
  have hf := gsk_full (y := y) hx false l ln cl (hc.imp id fun h => ⟨rfl, h⟩) h
  unfold gnx
  rw [hf]
  generalize gsk false y (sepP x (gsk false l ln cl).2).1 (sepP x (gsk false l ln cl).2).2 = q
  obtain ⟨q, lq, cq⟩ := q
  simp only
  have hdrop : (l ++ x :: y).drop (q + (l.length + 1)) = y.drop q := by
    rw [Nat.add_comm q, show l ++ x :: y = (l ++ [x]) ++ y by simp, show l.length + 1 = (l ++ [x]).length by simp, List.drop_length_add_append]
  rw [hdrop]
  cases y.drop q with
  | nil => rfl
  | cons b r =>
    simp only
    by_cases h3 : clsN b.toNat = 3
    · simp only [if_pos h3]
      split
      · rfl
      · rw [Nat.add_right_comm]
    simp only [if_neg h3]
    by_cases h4 : clsN b.toNat = 4
    · simp only [if_pos h4]
      split
      · rfl
      · rw [Nat.add_right_comm]
    simp only [if_neg h4]
    split
    · rw [Nat.add_right_comm]
    · rfl
theorem grun_all {p : Int → Bool} : ∀ (l : List UInt8), ∀ b ∈ l.take (grun p l), p (clsN b.toNat) = true
  | [], b, h => by simp at h
  | a :: l, b, h => by
    cases ha : p (clsN a.toNat) with
    | false => rw [grun_f ha] at h; simp at h
    | true =>
      rw [grun_t ha, List.take_succ_cons] at h
      rcases List.mem_cons.1 h with rfl | h
      · exact ha
      · exact grun_all l b h
theorem gnx_tok {l : List UInt8} {ln cl : Nat} {t : Tok} {n : Nat} (h : gnx l ln cl = .ok (t, n)) : l.take n = l.take (gsk false l ln cl).1 ++ t.t ∧ (10 : UInt8) ∉ t.t := by
  unfold gnx at h
  generalize gsk false l ln cl = q at *
  obtain ⟨q, lq, cq⟩ := q
  simp only at h ⊢
  have hall : ∀ (p : Int → Bool) (s : List UInt8), p 1 = false → (10 : UInt8) ∉ s.take (grun p s) := fun p s hp hm => by
    have := grun_all s _ hm
    rw [show clsN (10 : UInt8).toNat = 1 from by decide, hp] at this
    cases this
  cases hr : l.drop q with
  | nil =>
    rw [hr] at h
    simp only [Except.ok.injEq, Prod.mk.injEq] at h
    obtain ⟨rfl, rfl⟩ := h
    simp
  | cons b r =>
    rw [hr] at h
    simp only at h
    by_cases h3 : clsN b.toNat = 3
    · rw [if_pos h3] at h
      split at h
      · cases h
      · simp only [Except.ok.injEq, Prod.mk.injEq] at h
        obtain ⟨rfl, rfl⟩ := h
        exact ⟨by rw [List.take_add, hr], hall isLD (b :: r) rfl⟩
    rw [if_neg h3] at h
    by_cases h4 : clsN b.toNat = 4
    · rw [if_pos h4] at h
      split at h
      · cases h
      · simp only [Except.ok.injEq, Prod.mk.injEq] at h
        obtain ⟨rfl, rfl⟩ := h
        exact ⟨by rw [List.take_add, hr], hall isD (b :: r) rfl⟩
    rw [if_neg h4] at h
    split at h
    · next h5 =>
      simp only [Except.ok.injEq, Prod.mk.injEq] at h
      obtain ⟨rfl, rfl⟩ := h
      refine ⟨by rw [List.take_add, hr]; rfl, fun hm => ?_⟩
      rw [List.mem_singleton] at hm
      subst hm
      exact absurd h5 (by decide)
    · cases h
theorem lex_app {x : UInt8} {y : List UInt8} (hx : clsN x.toNat = 1) : ∀ (f : Nat) (p : List UInt8) (ln cl : Nat), p.length < f → (x.toNat = 10 ∨ (35 : UInt8) ∉ p) →
    ∃ L C, (x.toNat = 10 → L = ln + bcnt 10 p + 1 ∧ C = 1) ∧ ∀ F G, (p ++ x :: y).length < F → y.length < G → glexF F (p ++ x :: y) ln cl = match glexF f p ln cl with
      | .error e => .error e
      | .ok ts => match glexF G y L C with
        | .error e => .error e
        | .ok v => .ok (ts.dropLast ++ v) := by
  intro f
  induction f with
  | zero => intro p ln cl h; omega
  | succ f ih =>
    intro p ln cl hp hc
    have hle := gsk_le false p ln cl
    by_cases hfull : (gsk false p ln cl).1 = p.length
    · refine ⟨(sepP x (gsk false p ln cl).2).1, (sepP x (gsk false p ln cl).2).2, fun h10 => ?_, fun F G hF hG => ?_⟩
      · have := gsk_line false p ln cl
        rw [hfull, List.take_length] at this
        unfold sepP
        rw [if_pos h10]
        exact ⟨by rw [this], rfl⟩
      · obtain ⟨F, rfl⟩ : ∃ g, F = g + 1 := ⟨F - 1, by omega⟩
        rw [glexF_succ f, gnx_end hfull]
        simp only [if_true, List.dropLast_singleton, List.nil_append]
        have hyl : y.length < F + 1 := by simp only [List.length_append, List.length_cons] at hF; omega
        rw [glexF_fuel G (F + 1) y _ _ hG hyl, glexF_succ F, glexF_succ F, gnx_full hx hc hfull]
        cases gnx y (sepP x (gsk false p ln cl).2).1 (sepP x (gsk false p ln cl).2).2 with
        | error e => rfl
        | ok q =>
          obtain ⟨t, k⟩ := q
          simp only
          have hdrop : (p ++ x :: y).drop (k + (p.length + 1)) = y.drop k := by
            rw [Nat.add_comm k, show p ++ x :: y = (p ++ [x]) ++ y by simp, show p.length + 1 = (p ++ [x]).length by simp, List.drop_length_add_append]
          rw [hdrop]
          split
          · rfl
          · cases glexF F (y.drop k) t.l (t.c + t.t.length) with
            | error e => rfl
            | ok ts => rfl
    · have hlt : (gsk false p ln cl).1 < p.length := by omega
      have hg := gnx_part (y := y) hx hlt
      cases hn : gnx p ln cl with
      | error e =>
        refine ⟨ln + bcnt 10 p + 1, 1, fun _ => ⟨rfl, rfl⟩, fun F G hF hG => ?_⟩
        obtain ⟨F, rfl⟩ : ∃ g, F = g + 1 := ⟨F - 1, by omega⟩
        rw [glexF_succ f, glexF_succ F, hg, hn]
      | ok q =>
        obtain ⟨t, k⟩ := q
        have hb := gnx_bd hn
        have hnz : t.k ≠ 0 := fun h0 => by
          unfold gnx at hn
          generalize gsk false p ln cl = q at *
          obtain ⟨q, lq, cq⟩ := q
          simp only at hn hlt
          rw [List.drop_eq_getElem_cons hlt] at hn
          simp only at hn
          split at hn
          · split at hn
            · cases hn
            · cases hn; cases h0
          · split at hn
            · split at hn
              · cases hn
              · cases hn; cases h0
            · split at hn
              · cases hn; cases h0
              · cases hn
        have hk := hb.2.1 hnz
        have hkl : (p.drop k).length < f := by rw [List.length_drop]; omega
        obtain ⟨L, C, h1, h2⟩ := ih (p.drop k) t.l (t.c + t.t.length) hkl (hc.imp id fun h m => h (List.mem_of_mem_drop m))
        refine ⟨L, C, fun h10 => ?_, fun F G hF hG => ?_⟩
        · obtain ⟨e1, e2⟩ := h1 h10
          refine ⟨?_, e2⟩
          rw [e1, hb.2.2.2.1, gsk_line]
          have h3 := bcnt_take_drop 10 p k
          have h4 : bcnt 10 (p.take k) = bcnt 10 (p.take (gsk false p ln cl).1) := by
            obtain ⟨g1, g2⟩ := gnx_tok hn
            have g3 : bcnt 10 t.t = 0 := bcnt_none fun z hz (e : z = 10) => g2 (by rw [← e]; exact hz)
            rw [g1, bcnt_append, g3, Nat.add_zero]
          omega
        · obtain ⟨F, rfl⟩ : ∃ g, F = g + 1 := ⟨F - 1, by omega⟩
          rw [glexF_succ f, glexF_succ F, hg, hn]
          simp only [if_neg hnz]
          rw [List.drop_append_of_le_length hb.1, h2 F G (by simp only [List.length_append, List.length_drop, List.length_cons] at hF ⊢; omega) hG]
          cases hr : glexF f (p.drop k) t.l (t.c + t.t.length) with
          | error e => rfl
          | ok ts =>
            have hts : ts ≠ [] := fun e => by
              have := (glexF_ok _ _ _ _ _ hr).1.pos
              rw [e] at this; simp at this
            simp only
            rw [List.dropLast_cons_of_ne_nil hts]
            cases glexF G y L C with
            | error e => rfl
            | ok v => rfl
theorem GOk.last : ∀ {ts : List Tok}, GOk ts → ∃ e, ts = ts.dropLast ++ [e] ∧ e.k = 0
  | [e], h => ⟨e, rfl, h.1⟩
  | a :: b :: r, h => by
    obtain ⟨e, h1, h2⟩ := GOk.last (ts := b :: r) h.2
    refine ⟨e, ?_, h2⟩
    rw [List.dropLast_cons_of_ne_nil (by simp), List.cons_append, ← h1]
theorem LR.app {R : PosR} {a b c d : List Tok} (h : LR R a b) (k : LR R c d) : LR R (a ++ c) (b ++ d) := by
  induction h with
  | nil => exact k
  | cons h _ ih => exact .cons h ih
def dwn (n : Nat) : PosR := fun l c l' c' => l' = l + n ∧ c' = c
theorem LR.sh (n : Nat) : ∀ ts, LR (dwn n) ts (ts.map (shT n))
  | [] => .nil
  | a :: r => .cons ⟨rfl, rfl, rfl, rfl⟩ (LR.sh n r)
theorem GOk.sh (n : Nat) : ∀ {ts : List Tok}, GOk ts → GOk (ts.map (shT n))
  | [e], h => h
  | a :: b :: r, h => ⟨h.1, GOk.sh n (ts := b :: r) h.2⟩
theorem appends_law {s t : List UInt8} (hs : s.length ≤ 900) (ht : t.length ≤ 900) {a : List Stm} (h : gscript s = .ok a) : (∀ b, gscript t = .ok b → ∃ b', gscript (s ++ 10 :: t) = .ok (a ++ b') ∧ b.map Stm.clr = b'.map Stm.clr) ∧
    ∀ e, gscript t = .error e → ∃ e', gscript (s ++ 10 :: t) = .error e' ∧ e'.k = e.k ∧ e'.t = e.t ∧ e'.l = e.l + (bcnt 10 s + 1) ∧ e'.c = e.c := by
  obtain ⟨L, C, h0, h1⟩ := lex_app (x := 10) (y := t) (by decide) (s.length + 1) s 1 1 (Nat.lt_succ_self _) (.inl (by decide))
  obtain ⟨rfl, rfl⟩ := h0 (by decide)
  have e1 := h1 ((s ++ 10 :: t).length + 1) (t.length + 1) (Nat.lt_succ_self _) (Nat.lt_succ_self _)
  rw [show 1 + bcnt 10 s + 1 = 1 + (bcnt 10 s + 1) from by omega, glexF_sh _ _ _ _ _ (by omega) (Nat.lt_succ_self _)] at e1
  generalize bcnt 10 s + 1 = n at e1 ⊢
  unfold gscript at h ⊢
  unfold glex at h ⊢
  cases hp : glexF (s.length + 1) s 1 1 with
  | error e => rw [hp] at h; cases h
  | ok u =>
    rw [hp] at e1 h
    simp only at e1 h
    have hu := glex_ok (l := s) hp
    obtain ⟨e, hue, he0⟩ := hu.1.last
    cases hq : glexF (t.length + 1) t 1 1 with
    | error e' =>
      rw [hq] at e1
      rw [e1]
      simp only
      exact ⟨fun b hb => (by cases hb), fun e2 h2 => (by cases h2; exact ⟨_, rfl, rfl, rfl, rfl, rfl⟩)⟩
    | ok v =>
      rw [hq] at e1
      have hv := glex_ok (l := t) hq
      rw [e1]
      simp only
      have hG := hu.1
      rw [hue] at hG h
      obtain ⟨k1, k2, k3⟩ := stms_app he0 gF 0 u.dropLast a hG h
      have hul : u.dropLast.length ≤ 900 := by rw [List.length_dropLast]; omega
      have hF := gF_eq
      rw [k3 _ (hv.1.sh n), stms_fuel (gF - a.length) gF (0 + a.length) _ (by rw [List.length_map]; omega) (by rw [List.length_map]; omega),
        stms_n gF (0 + a.length) 0 _ (by rw [List.length_map]; omega) (by rw [List.length_map]; omega)]
      have hr := stms_nat gF 0 v _ hv.1 (LR.sh n v)
      generalize gstmsF gF 0 (v.map (shT n)) = c at hr
      generalize gstmsF gF 0 v = d at hr
      cases hr with
      | ok h => exact ⟨fun b hb => (by cases hb; exact ⟨_, rfl, h⟩), fun e2 h2 => (by cases h2)⟩
      | er h => exact ⟨fun b hb => (by cases hb), fun e2 h2 => (by cases h2; exact ⟨_, rfl, h.k.symm, h.t.symm, h.p.1, h.p.2⟩)⟩
theorem prsAll_rnU {ts : List Tok} {A : List Nd} {x : Ex} (hT : TOk ts) (h : prsAll ts = some (A, x)) : Rn A 0 x := by
  unfold prsAll at h
  cases hp : prs (8 * ts.length + 8) 1 0 0 ts none with
  | none => rw [hp] at h; cases h
  | some q =>
    obtain ⟨B, z, t'⟩ := q
    rw [hp] at h
    simp only at h
    split at h
    · simp only [Option.some.injEq, Prod.mk.injEq] at h
      obtain ⟨rfl, rfl⟩ := h
      exact (prs_ok _ _ _ _ _ _ _ _ _ (by omega) (fun h => by omega) hT trivial hp).1
    · cases h
def prU (l : List UInt8) : SV := match lexT l with
  | none => Ab.tup [lit (.slice none 0 0), errE]
  | some ts => match prsAll ts with
    | some (A, _) => Ab.tup [sl (A.map ndx).flatten A.length, lit .nilIface]
    | none => Ab.tup [lit (.slice none 0 0), errE]
theorem parseU_pu [Sent 4] [Sent 3] (l : List UInt8) (hok : ∀ b ∈ l, okC b = true) (hl : l.length ≤ 65536) : Pu Tryz.prog 24 [str l] (prU l) := by
  have c := gexpr_pu l hok hl
  unfold prU
  unfold prR at c
  cases hlx : lexT l with
  | none =>
    rw [hlx] at c
    simp only at c ⊢
    refine Pu.intro Tryz.func24 rfl (by kernel_rfl) fun C => ?_
    repeat (refine A1 ⟨?_⟩; intros)
    refine WfT c ?_
    rintro _ H' rfl
    repeat (refine A1 ⟨?_⟩; intros)
    ((first | refine endR ?_ | refine endN ?_); exact end2 (RV.tmp rfl) (RV.tmp rfl) (Le.refl _))
  | some ts =>
    rw [hlx] at c
    simp only at c ⊢
    cases hp : prsAll ts with
    | none =>
      rw [hp] at c
      simp only at c ⊢
      refine Pu.intro Tryz.func24 rfl (by kernel_rfl) fun C => ?_
      repeat (refine A1 ⟨?_⟩; intros)
      refine WfT c ?_
      rintro _ H' rfl
      repeat (refine A1 ⟨?_⟩; intros)
      ((first | refine endR ?_ | refine endN ?_); exact end2 (RV.tmp rfl) (RV.tmp rfl) (Le.refl _))
    | some q =>
      obtain ⟨A, x⟩ := q
      rw [hp] at c
      simp only at c ⊢
      have hr := prsAll_rnU (lexF_ok _ _ _ _ hlx).1 hp
      refine Pu.intro Tryz.func24 rfl (by kernel_rfl) fun C => ?_
      repeat (refine A1 ⟨?_⟩; intros)
      refine WfT c ?_
      rintro _ H' ⟨s, rfl, hown⟩
      obtain ⟨b, c1, hnc, hcm, rfl, rfl⟩ := hown.blk hr.2
      simp only [List.nil_append]
      clear hown
      (refine O1 ⟨?_⟩; intros)
      refine WPL.pub (d := 6) (s' := sl (A.map ndx).flatten A.length) (HDel.here _) rfl (fun m arr h1 h2 => pub_ownL h1 h2 hnc hcm) ?_
      repeat (refine A1 ⟨?_⟩; intros)
      ((first | refine endR ?_ | refine endN ?_); exact end2 (RV.tmp rfl) (RV.tmp rfl) (Le.refl _))
theorem run_count (l : List UInt8) {b : Nat} (hb : b < 256) (w : World) : (Extern.BytealgCount.count #[.string ⟨l.toArray⟩, .int .u8 (b : Int)]).run Tryz.prog w = .ok (.int .i64 (bcnt (UInt8.ofNat b) l)) w := by
  have e : Go.Lib.countByte (⟨l.toArray⟩ : ByteArray).data.toList ((b : Int).toNat.toUInt8) = bcnt (UInt8.ofNat b) l := by
    unfold Go.Lib.countByte bcnt
    rw [List.count_eq_length_filter]
    refine congrArg List.length (List.filter_congr fun x _ => ?_)
    rfl
  rw [Go.Lib.run_countString, e]
section
variable {F : Fr} {H : LH} {ty : TypeId}
theorem ov_count {x y : Operand} {l : List UInt8} {b : Nat} {tys : Array TypeId} (hx : ev F x = str l) (hy : ev F y = u8 b) (hb : b < 256) : OpV Tryz.prog (.call ⟨.value (.func 27), [x, y].toArray, tys⟩) ty F H (lit (.int .i64 (bcnt (UInt8.ofNat b) l))) :=
  OpV.pure fun m w o a ho _ _ _ h => by
    have h0 := h x (by simp [Op.operands, Call.operands]); rw [hx, lit_p] at h0
    have h1 := h y (by simp [Op.operands, Call.operands]); rw [hy, lit_p] at h1
    have h8 := @run_callFunc_extern Tryz.prog 27 _ Extern.BytealgCount.count Tryz.func27 (by kernel_rfl) (by kernel_rfl) (by kernel_rfl) (by kernel_rfl)
    refine ⟨_, ?_, lit_p.2 rfl⟩
    have := h8 #[a.eval x, a.eval y] w
    rw [h0, h1, run_count l hb] at this
    simp only [execOp, ho, resolve, Sem.run_bind, Sem.run_pure, Result.andThen_ok]
    have e1 : a.eval (.func 27) = .func (.func 27) #[] #[] := rfl
    simp only [e1, Deferred.ofValue, Sem.run_pure, Result.andThen_ok, invoke, List.map_toArray, List.map_cons, List.map_nil, Array.empty_append, Array.append_empty, h0, h1, this]
end
theorem scount_pu (l : List UInt8) {b : Nat} (hb : b < 256) : Pu Tryz.prog 10 [str l, str [UInt8.ofNat b]] (lit (.int .i64 (bcnt (UInt8.ofNat b) l))) := by
  refine Pu.intro Tryz.func10 rfl (by kernel_rfl) fun C => ?_
  repeat (refine A1 ⟨?_⟩; intros)
  refine Wo (ov_sidx (i := 0) rfl rfl (by show 0 < 1; omega)) ?_
  have e : (([UInt8.ofNat b].getD 0 0).toNat : Int) = (b : Int) := by
    show ((UInt8.ofNat b).toNat : Int) = b
    rw [UInt8.toNat_ofNat', Nat.mod_eq_of_lt hb]
  rw [e]
  refine Wo (ov_count rfl rfl hb) ?_
  repeat (refine A1 ⟨?_⟩; intros)
  ((first | refine endR ?_ | refine endN ?_); exact end1 (RV.tmp rfl) (Le.refl _))
def k12T : List UInt8 := [97, 32, 43, 32, 98, 32, 42, 32, 126, 97]
def k12Ts : List Tok := [⟨1, [97], 1, 1⟩, ⟨3, [43], 1, 3⟩, ⟨1, [98], 1, 5⟩, ⟨3, [42], 1, 7⟩, ⟨3, [126], 1, 9⟩, ⟨1, [97], 1, 10⟩, ⟨0, [], 1, 11⟩]
def k12Ns : List Nd := [ndN ⟨1, [97], 1, 1⟩, ndN ⟨1, [98], 1, 5⟩, ndN ⟨1, [97], 1, 10⟩, ndU 2 ⟨3, [126], 1, 9⟩, ndB 2 1 3 ⟨3, [42], 1, 7⟩, ndB 1 0 4 ⟨3, [43], 1, 3⟩]
theorem k12Lex : lexT k12T = some k12Ts := by kernel_rfl
theorem k12Prs : ∃ x, prsAll k12Ts = some (k12Ns, x) := ⟨.bi (ndB 1 0 4 ⟨3, [43], 1, 3⟩) (.leaf (ndN ⟨1, [97], 1, 1⟩)) (.bi (ndB 2 1 3 ⟨3, [42], 1, 7⟩) (.leaf (ndN ⟨1, [98], 1, 5⟩)) (.un (ndU 2 ⟨3, [126], 1, 9⟩) (.leaf (ndN ⟨1, [97], 1, 10⟩)))), by kernel_rfl⟩
theorem known12 [Sent 4] [Sent 3] : Pu Tryz.prog 8 [] (lit (.bool true)) := by
  have c := parseU_pu k12T (by decide) (by decide)
  obtain ⟨x, hp⟩ := k12Prs
  unfold prU at c
  rw [k12Lex] at c
  simp only [hp] at c
  have h3 := flat_at (f := ndx) (n := 19) ndx_len (show k12Ns[3]? = some (ndU 2 ⟨3, [126], 1, 9⟩) from rfl)
  have h5 := flat_at (f := ndx) (n := 19) ndx_len (show k12Ns[5]? = some (ndB 1 0 4 ⟨3, [43], 1, 3⟩) from rfl)
  have hne : (k12Ns.map ndx).flatten ≠ [] := flat_ne ndx_len (by omega) (by decide)
  have hl : k12Ns.length = 6 := rfl
  rw [hl] at c
  generalize (k12Ns.map ndx).flatten = fl at *
  clear hp
  refine Pu.intro Tryz.func8 rfl (by kernel_rfl) fun C => ?_
  repeat (first | (refine A1 ⟨?_⟩; intros) | (refine Wcx (c) ?_) | (refine Wdcx (c) ?_) | (refine Wcgx (c) ?_) | (refine Wdcgx (c) ?_))
  repeat (first | (refine A1 ⟨?_⟩; intros) | (refine WgE ?_; refine Wo (ov_idxS (i := 3) rfl rfl (by omega) (by omega) h3 hne) ?_) | (refine WgE ?_; refine Wo (ov_idxS (i := 5) rfl rfl (by omega) (by omega) h5 hne) ?_))
  ((first | refine endR ?_ | refine endN ?_); exact end1 (RV.tmp rfl) (Le.refl _))
end Go.Ab
