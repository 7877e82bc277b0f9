/- Texts laid one behind the other: RowD, BndG. -/
import Derived.Test.YtijejidpcfgioaaGreatDoorB19
import Derived.Test.YtijejidpcfgioaaGreatDoorB27
/- Appending a whole finished slice to an empty one. -/
namespace Go.Ab
open Go.Proofs
set_option linter.unusedSectionVars false
set_option linter.unusedVariables false
set_option linter.unusedSimpArgs false
variable [Base]
section
variable {P : Program} {C : Ctx} {n : Nat} {F : Fr} {H : LH} {ops : Array Oper} {K : Fr → LH → Prop} {rest : List Oper} {ty : TypeId} {pos : String} {aft : Array Edge}
theorem WPL.appAllS {T e : TypeId} {sz by_ : Nat} {z : List SV} {g : Bool} [hS : TSl P T e] [hT : TY P e sz by_ z g] {d : Nat} {x y : Operand} {b0 k0 : Nat} {ds : List SV}
    (hx : ev F x = lit (.slice (some ⟨b0, 0, none⟩) 0 0)) (hy : ev F y = sl ds k0) (hds : ds.length = k0 * sz) (hpos : 0 < k0 * sz) (hl : k0 ≤ 1000000000) (hby : by_ ≤ 10000)
    (k : ∀ s' H', Own e sz k0 ds s' H' → WPL P C n ops rest K (upd F d s') (H' ++ H)) (hd : Nat.blt d n = true := by exact rfl) :
    WPL P C n ops (⟨some d, .call ⟨.builtin .append, #[x, y], #[T, T]⟩, ty, pos, aft, none⟩ :: rest) K F H := by
  unfold WPL
  intro a w hs Q hq
  have hk0 : 0 < k0 := Nat.pos_of_ne_zero fun e => by rw [e, Nat.zero_mul] at hpos; omega
  refine wpList_plain rfl fun K' hK' => ?_
  obtain ⟨hdef, hn, m0, h10, h20, h30, h40, h50⟩ := id hs
  have hp0 : ∀ x, (ev F x).p m0 (a.eval x) := fun x => by
    cases x with
    | tmp t => exact h50 t
    | const v => unfold ev lit; rfl
    | global g => unfold ev lit; rfl
    | func f => unfold ev lit; rfl
  have e0 := hp0 x; rw [hx, lit_p] at e0
  have e1 := hp0 y; rw [hy] at e1
  obtain ⟨ad2, c2, e1, hc1, hc2, hcb⟩ := sl_cells e1
  obtain ⟨b2, off2, rfl, arr2, T2, fz2, hbm2, hall2⟩ := hcb.resolve_left (fun h => by rw [h] at hds; simp at hds; omega)
  have hb2 := h10 _ _ hbm2
  rw [hds] at hall2
  generalize hl2 : (arr2.toList.drop off2).take (k0 * sz) = l2 at hall2
  obtain ⟨i, v, hi, hsz, hbyt, hz, hzl, hfl, hvs⟩ := hT.run_bytes
  have hlen2 := hall2.length
  have hys : ∀ j u, l2[j]? = some u → w.cell? ((⟨b2, off2, none⟩ : Addr).add j) = some u := fun j u hj => by
    rw [add_none, cell_of w b2 _ arr2 _ _ hb2]
    rw [← hl2, List.getElem?_take] at hj
    split at hj
    · rw [List.getElem?_drop] at hj; simpa using hj
    · cases hj
  have hexec : execOp a.eval (⟨some d, .call ⟨.builtin .append, #[x, y], #[T, T]⟩, ty, pos, aft, none⟩ : Oper) = (do let v ← Builtin.append_ #[T, T] ty #[a.eval x, a.eval y]; pure (.value v)) := by
    simp [execOp, resolve, invoke, builtin]
  have hmul : ∀ q, q ≤ 1000000001 → q * by_ ≤ 140737488355328 := fun q hq => Nat.le_trans (Nat.mul_le_mul hq hby) (by decide)
  have get2 : ∀ m, MemIn m w → (ev F y).p m (a.eval y) → All2 m ds l2 := fun m h1 h2 => by
    rw [hy, e1] at h2
    obtain ⟨ad3, c3, e3, _, _, hcb3⟩ := sl_cells h2
    obtain ⟨b3, off3, rfl, arr3, T3, fz3, hbm3, hall3⟩ := hcb3.resolve_left (fun h => by rw [h] at hds; simp at hds; omega)
    have hb3 := h1 _ _ hbm3
    simp only [Value.slice.injEq, Option.some.injEq, Addr.mk.injEq, and_true, true_and] at e3
    obtain ⟨⟨rfl, rfl⟩, _⟩ := e3
    rw [hb2] at hb3
    simp only [Option.some.injEq, Obj.cells.injEq] at hb3
    obtain ⟨rfl, _⟩ := hb3
    rw [hds, hl2] at hall3
    exact hall3
  unfold Oper.wp
  rw [hexec, e1, e0]
  have hrun := run_append_grow (P := P) w T ty e i v hS.h hi hz ⟨b0, 0, none⟩ 0 0 [] (by simp) (by intro j u hj; simp at hj) ⟨b2, off2, none⟩ k0 c2 l2 (by rw [hlen2, hsz, hds]) hys (by omega) (by omega) (growslice_fits (by omega) (by rw [hbyt]; exact hmul _ (by omega)))
  simp only [Sem.run_bind, hrun, Result.andThen_ok, Sem.run_pure]
  have hge := grownCap_ge w (0 + k0) 0 e
  have hle := grownCap_le_maxLen w (0 + k0) 0 e (by simp only [maxLen]; omega)
  have h := k (lit (.slice (some ⟨w.heap.size, 0, none⟩) (0 + k0) (grownCap w (0 + k0) 0 e))) [(w.heap.size, e, ds ++ List.replicate (grownCap w (0 + k0) 0 e * sz - k0 * sz) top)]
    ⟨hds, .inr ⟨w.heap.size, grownCap w (0 + k0) 0 e, by omega, hle, by rw [Nat.zero_add], rfl⟩⟩
  unfold WPL at h
  refine hK' _ _ (h _ _ (St.pushD (Nat.blt_eq.mp hd) hs fun m h1 h2 h3 => ?_) Q hq)
  simp only [Array.toList_append, List.toList_toArray, List.nil_append]
  refine (get2 m h1 (h3 y)).append (All2.topL ?_ (zeroCells_one hfl))
  rw [Array.length_toList, size_zeroCells, hvs, Nat.zero_add, Nat.sub_mul]
end
end Go.Ab
/- The law BoundGrows, walked. -/
namespace Go.Ab
open Go.Proofs
set_option linter.unusedSectionVars false
set_option linter.unusedVariables false
set_option linter.unusedSimpArgs false
variable [Base]
def abcd4 : List (List UInt8) := [[97], [98], [99], [100]]
theorem brun_some {env : List UInt8 → Option Nat} : ∀ {ns : List Nd} {st : List (Ex × Nat)} {vs out : List Nat} {i : Nat}, (∀ n ∈ ns, n.k = 1 → (env n.nm).isSome = true) → BS out st vs → out.length = i → (stk ns i st).isSome = true → ∃ o, brun env ns vs out = some o
  | [], st, vs, out, i, _, _, _, _ => ⟨out, rfl⟩
  | n :: ns, st, vs, out, i, hE, hbs, hi, hs => by
    rw [stk_cons] at hs
    cases h : stp i n st with
    | none => rw [h] at hs; cases hs
    | some st' =>
      rw [h] at hs
      have hb := bstep_stk (env := env) h hbs hi
      rw [brun_cons]
      cases hq : bstep env n vs with
      | none =>
        rw [hq] at hb
        have := hE n (by simp) hb.1
        rw [hb.2] at this
        cases this
      | some q =>
        obtain ⟨v, r⟩ := q
        rw [hq] at hb
        exact brun_some (fun m hm => hE m (by simp [hm])) hb (by simp [hi]) hs
theorem envOf_mono {names : List (List UInt8)} {zs zs' : List Int} (h : ∀ i, zs.getD i 0 ≤ zs'.getD i 0) (s : List UInt8) (v : Nat) (he : envOf names zs s = some v) : ∃ v', envOf names zs' s = some v' ∧ v ≤ v' := by
  unfold envOf at *
  split at he
  · cases he
  · rename_i hn
    rw [if_neg hn]
    refine ⟨_, rfl, ?_⟩
    obtain rfl := Option.some.inj he
    have := h (fpos names s).toNat
    omega
theorem envOf_abcd (zs : List Int) {s : List UInt8} (h : ∃ k, k < 4 ∧ s = [UInt8.ofNat (97 + k)]) : (envOf abcd4 zs s).isSome = true := by
  obtain ⟨k, hk, rfl⟩ := h
  have : k = 0 ∨ k = 1 ∨ k = 2 ∨ k = 3 := by omega
  unfold envOf
  rcases this with rfl | rfl | rfl | rfl
  all_goals
    rw [if_neg (by decide)]
    rfl
theorem LeS.length : ∀ {l m : List Nat}, LeS l m → l.length = m.length
  | [], [], _ => rfl
  | _ :: _, _ :: _, h => by simp [LeS.length h.2]
  | [], _ :: _, h => h.elim
  | _ :: _, [], h => h.elim
/-- the last sixteen digits of a word -/
def m16 (z : Int) : Nat := (BitVec.ofInt 64 z &&& BitVec.ofInt 64 65535).toNat
theorem m16_le (z : Int) : m16 z ≤ 65535 := by
  unfold m16
  rw [BitVec.toNat_and]
  exact Nat.le_trans Nat.and_le_right (by decide)
theorem m16_and (z : Int) : IntKind.i64.wrap ((BitVec.ofInt (IntKind.bits .i64) z &&& BitVec.ofInt (IntKind.bits .i64) 65535).toNat : Int) = (m16 z : Nat) := by
  have := m16_le z
  show IntKind.i64.wrap (m16 z : Int) = _
  exact wi64 (by omega) (by omega)
theorem nsl_ints (l : List Nat) : nsl .i64 (l.map Int.ofNat) = sl (ints l) l.length := by
  unfold nsl ints
  rw [List.map_map, List.length_map]
  rfl
def cK (w : Nat → Nat) (k : Nat) : List SV := [lit (.int .i64 (if 0 < k then w 0 else 0 : Nat)), lit (.int .i64 (if 1 < k then w 1 else 0 : Nat)), lit (.int .i64 (if 2 < k then w 2 else 0 : Nat)), lit (.int .i64 (if 3 < k then w 3 else 0 : Nat))]
set_option maxHeartbeats 4000000 in
theorem bgrows_pu [Sent 0] [Sent 1] [Sent 5] [Sent 4] (zs : List Int) (hz : zs.length ≤ 9223372036854775807) (sizes : List Int) (hr : ∀ z ∈ sizes, i64R z) (hs : sizes.length ≤ 9223372036854775807) (more : Int) (hm : 0 ≤ more ∧ more ≤ 255) : Pu Tryz.prog 7 [nsl .i64 zs, nsl .i64 sizes, lit (.int .u8 more)] (lit (.bool true)) := by
  have hk : (zs.take (min zs.length 400)).length ≤ 400 := by simp; omega
  have hnew := new_pu zs hz
  generalize zs.take (min zs.length 400) = ys at *
  have kn := known31
  clear hz hr
  obtain ⟨w, hw⟩ : ∃ w : Nat → Nat, w = fun i => if i < sizes.length then m16 (sizes.getD i 0) else 0 := ⟨_, rfl⟩
  have hwle : ∀ i, w i ≤ 65535 := by
    intro i
    rw [hw]
    simp only
    split
    · exact m16_le _
    · omega
  obtain ⟨hm0, hm1⟩ := hm
  refine Pu.intro Tryz.func7 rfl (by kernel_rfl) fun C => ?_
  repeat (refine A1 ⟨?_⟩; intros)
  refine WPL.callN hnew rfl rfl fun b => ?_
  repeat (refine A1 ⟨?_⟩; intros)
  refine WfT (expression_pu ys hk b) ?_
  rintro s _ ⟨t, ns, H1, rfl, hown, hwr, hl⟩
  simp only [List.cons_append, List.nil_append]
  obtain ⟨hcl, ⟨h0, rfl, rfl⟩ | ⟨b2, c, hnc, hcm, rfl, rfl⟩⟩ := hown
  · have := hwr.pos
    omega
  refine WPL.pub (d := 20) (s' := sl (ns.map ndx).flatten ns.length) (HDel.there _ (HDel.here _)) rfl (fun m arr h1 h2 => pub_ownL h1 h2 hnc hcm) ?_
  clear hcl hnc hcm
  (refine O1 ⟨?_⟩; intros)
  repeat (refine AS ⟨?_⟩; intros)
  refine Sl ?_
  refine Wl fun b3 => ?_
  refine WpubS 21 rfl (HDel.here _) (by omega) (by omega) ?_
  (refine O1 ⟨?_⟩; intros)
  repeat (refine AS ⟨?_⟩; intros)
  refine WPL.make (k := 4) rfl rfl (by omega) (by omega) rfl fun bs => ?_
  repeat (refine A1 ⟨?_⟩; intros)
  refine WP.loopS (ι := Nat) (fun k => k ≤ 4) (fun k => 4 - k)
    (fun k => (fm [(1, nsl .i64 sizes), (2, lit (.int .u8 more)), (7, sl (ns.map ndx).flatten ns.length), (8, sl (abcd4.map str) abcd4.length), (9, lit (.slice (some ⟨bs, 0, none⟩) 4 4)), (23, lit (.slice (some ⟨bs, 0, none⟩) 4 4)), (24, lit (.int .i64 (4 : Nat))), (25, lit (.int .i64 k))]))
    (fun k => [(bs, itT, cK w k)]) 0 (Nat.zero_le _) (by (repeat (first | exact LeF.nil _ | refine LeF.cons (Le.refl _) ?_ | refine LeF.cons (Le.int (by omega)) ?_))) (List.Sublist.cons_cons _ (List.nil_sublist _)) ?_
  rintro k hk4 K hK
  by_cases hk4' : k = 4
  case neg =>
    have hgo : ∀ F' H', LeF F' (fm [(1, nsl .i64 sizes), (2, lit (.int .u8 more)), (7, sl (ns.map ndx).flatten ns.length), (8, sl (abcd4.map str) abcd4.length), (9, lit (.slice (some ⟨bs, 0, none⟩) 4 4)), (23, lit (.slice (some ⟨bs, 0, none⟩) 4 4)), (24, lit (.int .i64 (4 : Nat))), (25, lit (.int .i64 (k + 1 : Nat)))]) → [(bs, itT, cK w (k + 1))].Sublist H' → K F' H' := fun F' H' h h2 => hK F' H' (k + 1) (by omega) (by omega) h h2
    clear hK
    by_cases hks : k < sizes.length
    · have hwk : w k = m16 (sizes.getD k 0) := by rw [hw]; exact if_pos hks
      have hmm := m16_and (sizes.getD k 0)
      have : k = 0 ∨ k = 1 ∨ k = 2 ∨ k = 3 := by omega
      clear hw hwle
      rcases this with rfl | rfl | rfl | rfl
      all_goals
        simp only [cK] at hgo ⊢
        simp only [Nat.reduceAdd, Nat.reduceLT, if_true, if_false, Nat.lt_irrefl, hwk] at hgo ⊢
        repeat (refine A1 ⟨?_⟩; intros)
        refine Wo (ov_and rfl rfl hmm) ?_
        repeat (refine A1 ⟨?_⟩; intros)
        exact hgo _ _ (by (repeat (first | exact LeF.nil _ | refine LeF.cons (Le.refl _) ?_ | refine LeF.cons (Le.int (by omega)) ?_))) (List.Sublist.refl _)
    · have hwk : w k = 0 := by rw [hw]; exact if_neg hks
      have : k = 0 ∨ k = 1 ∨ k = 2 ∨ k = 3 := by omega
      clear hw hwle
      rcases this with rfl | rfl | rfl | rfl
      all_goals
        simp only [cK] at hgo ⊢
        simp only [Nat.reduceAdd, Nat.reduceLT, if_true, if_false, Nat.lt_irrefl, hwk] at hgo ⊢
        repeat (refine A1 ⟨?_⟩; intros)
        exact hgo _ _ (by (repeat (first | exact LeF.nil _ | refine LeF.cons (Le.refl _) ?_ | refine LeF.cons (Le.int (by omega)) ?_))) (List.Sublist.refl _)
  subst hk4'
  clear hK hk4
  obtain ⟨out, hout⟩ := brun_some (env := envOf abcd4 (([w 0, w 1, w 2, w 3] : List Nat).map Int.ofNat)) (fun n hn h1 => envOf_abcd _ (hwr.nq n hn h1)) (.nil (out := [])) rfl (by show (stk ns 0 []).isSome = true; rw [hwr.st]; rfl)
  have i64w : ∀ l : List Nat, (∀ x ∈ l, x ≤ 100000) → ∀ z ∈ l.map Int.ofNat, i64R z := by
    intro l hl z hz
    obtain ⟨x, hx, rfl⟩ := List.mem_map.1 hz
    have := hl x hx
    unfold i64R
    simp only [Int.ofNat_eq_natCast]
    omega
  have hw0 := hwle 0
  have hw1 := hwle 1
  have hw2 := hwle 2
  have hw3 := hwle 3
  have hws : ∀ x ∈ ([w 0, w 1, w 2, w 3] : List Nat), x ≤ 100000 := by
    intro x hx
    simp only [List.mem_cons, List.not_mem_nil, or_false] at hx
    omega
  have c1 := bexpr_pu ns hwr.ok (by omega) (by omega) abcd4 (by decide) (([w 0, w 1, w 2, w 3] : List Nat).map Int.ofNat) (by simp) (i64w _ hws)
  have c2 := bpeak_pu ns hwr.ok (by omega) (by omega) abcd4 (by decide) (([w 0, w 1, w 2, w 3] : List Nat).map Int.ofNat) (by simp) (i64w _ hws)
  have ha := allB_of hwr.otx (show abcd4.length = (([w 0, w 1, w 2, w 3] : List Nat).map Int.ofNat).length from rfl)
  obtain ⟨o1, o2, o3⟩ := allB_out (i64w _ hws) (ha.trans (congrArg some hout))
  rw [ha, hout] at c1 c2
  unfold exR at c1
  unfold pkR at c2
  simp only at c1 c2
  have step : ∀ ws' : List Nat, ws'.length = 4 → (∀ x ∈ ws', x ≤ 100000) → LeS [w 0, w 1, w 2, w 3] ws' → ∃ q : Nat, out.getD (out.length - 1) 0 ≤ q ∧ q ≤ 9223372036854775807 ∧
      Pu Tryz.prog 17 [sl (ns.map ndx).flatten ns.length, sl (abcd4.map str) abcd4.length, nsl .i64 (ws'.map Int.ofNat)] (Ab.tup [lit (.int .i64 (q : Nat)), lit .nilIface]) := by
    intro ws' h4 hb hle
    have hmono : ∀ i, (([w 0, w 1, w 2, w 3] : List Nat).map Int.ofNat).getD i 0 ≤ (ws'.map Int.ofNat).getD i 0 := fun i => by
      have h := hle.getD i
      have e : ∀ l : List Nat, (l.map Int.ofNat).getD i 0 = ((l.getD i 0 : Nat) : Int) := fun l => by simp [List.getD, List.getElem?_map]; cases l[i]? <;> rfl
      rw [e, e]
      omega
    obtain ⟨out', ho', hlo⟩ := brun_mono (st := []) (st' := []) (out := []) (out' := []) (envOf_mono hmono) trivial trivial hout
    have c3 := bexpr_pu ns hwr.ok (by omega) (by omega) abcd4 (by decide) (ws'.map Int.ofNat) (by rw [List.length_map, h4]; omega) (i64w _ hb)
    have ha' := allB_of hwr.otx (show abcd4.length = (ws'.map Int.ofNat).length by rw [List.length_map, h4]; rfl)
    obtain ⟨p1, p2, p3⟩ := allB_out (i64w _ hb) (ha'.trans (congrArg some ho'))
    rw [ha', ho'] at c3
    unfold exR at c3
    simp only at c3
    refine ⟨_, ?_, p3 _ ?_, c3⟩
    · rw [← hlo.length]; exact hlo.getD _
    · rw [List.getD, List.getElem?_eq_getElem (show out'.length - 1 < out'.length by omega)]
      exact List.getElem_mem _
  have hlm : out.getD (out.length - 1) 0 ≤ lmax out := lmax_ge (by
    rw [List.getD, List.getElem?_eq_getElem (show out.length - 1 < out.length by omega)]
    exact List.getElem_mem _)
  have hlm2 : lmax out ≤ 9223372036854775807 := lmax_le o3
  clear hout o1 o2 o3 ha i64w hwle hw hws hwr hl
  generalize out.getD (out.length - 1) 0 = av at *
  generalize lmax out = pv at *
  repeat (refine AS ⟨?_⟩; intros)
  (refine O1 ⟨?_⟩; intros)
  repeat (refine AS ⟨?_⟩; intros)
  refine WPL.pub (d := 9) (s' := nsl .i64 (([w 0, w 1, w 2, w 3] : List Nat).map Int.ofNat)) (HDel.here _) rfl (fun m arr h1 h2 => ints_pub (c := 4) (l := [w 0, w 1, w 2, w 3]) h1 h2 (Nat.le_refl _) (by decide)) ?_
  have hr4 : more.tmod 4 = 0 ∨ more.tmod 4 = 1 ∨ more.tmod 4 = 2 ∨ more.tmod 4 = 3 := by
    rw [Int.tmod_eq_emod_of_nonneg hm0]
    omega
  rcases hr4 with hr | hr | hr | hr
  · obtain ⟨q, q1, q2, c3⟩ := step [w 0 + more.toNat, w 1, w 2, w 3] rfl (by
      intro x hx
      simp only [List.mem_cons, List.not_mem_nil, or_false] at hx
      omega) ⟨by omega, by omega, by omega, by omega, trivial⟩
    clear step
    repeat (first | (refine A1 ⟨?_⟩; intros) | (refine Wcx (c1) ?_) | (refine Wdcx (c1) ?_) | (refine Wcgx (c1) ?_) | (refine Wdcgx (c1) ?_) | (refine Wcx (c2) ?_) | (refine Wdcx (c2) ?_) | (refine Wcgx (c2) ?_) | (refine Wdcgx (c2) ?_))
    refine WPL.appAllS (ds := ints [w 0, w 1, w 2, w 3]) (k0 := 4) rfl (nsl_ints _) rfl (by decide) (by decide) (by decide) (fun s' H' hown' => ?_)
    obtain ⟨b9, c9, hnc, hcm, rfl, rfl⟩ := hown'.blk (by decide)
    clear hown'
    have hnc' : 4 ≤ c9 := hnc
    simp only [ints, List.map_cons, List.map_nil, List.cons_append, List.nil_append]
    (refine O1 ⟨?_⟩; intros)
    repeat (refine AS ⟨?_⟩; intros)
    (refine O1 ⟨?_⟩; intros)
    (refine O1 ⟨?_⟩; intros)
    (refine O1 ⟨?_⟩; intros)
    refine Wo (ov_rem rfl rfl (by omega) hr) ?_
    repeat (refine A1 ⟨?_⟩; intros)
    rw [show ((w 0 : Int) + more) = ((w 0 + more.toNat : Nat) : Int) by omega]
    refine WPL.pub (d := 71) (s' := nsl .i64 (([w 0 + more.toNat, w 1, w 2, w 3] : List Nat).map Int.ofNat)) (HDel.here _) rfl (fun m arr h1 h2 => ints_pub (c := c9) (l := [w 0 + more.toNat, w 1, w 2, w 3]) h1 h2 hnc' hcm) ?_
    repeat (first | (refine A1 ⟨?_⟩; intros) | (refine Wcx (c3) ?_) | (refine Wdcx (c3) ?_) | (refine Wcgx (c3) ?_) | (refine Wdcgx (c3) ?_) | (refine Wcx (kn) ?_) | (refine Wdcx (kn) ?_) | (refine Wcgx (kn) ?_) | (refine Wdcgx (kn) ?_))
    ((first | refine endR ?_ | refine endN ?_); exact end1 (RV.tmp rfl) (Le.refl _))
  · obtain ⟨q, q1, q2, c3⟩ := step [w 0, w 1 + more.toNat, w 2, w 3] rfl (by
      intro x hx
      simp only [List.mem_cons, List.not_mem_nil, or_false] at hx
      omega) ⟨by omega, by omega, by omega, by omega, trivial⟩
    clear step
    repeat (first | (refine A1 ⟨?_⟩; intros) | (refine Wcx (c1) ?_) | (refine Wdcx (c1) ?_) | (refine Wcgx (c1) ?_) | (refine Wdcgx (c1) ?_) | (refine Wcx (c2) ?_) | (refine Wdcx (c2) ?_) | (refine Wcgx (c2) ?_) | (refine Wdcgx (c2) ?_))
    refine WPL.appAllS (ds := ints [w 0, w 1, w 2, w 3]) (k0 := 4) rfl (nsl_ints _) rfl (by decide) (by decide) (by decide) (fun s' H' hown' => ?_)
    obtain ⟨b9, c9, hnc, hcm, rfl, rfl⟩ := hown'.blk (by decide)
    clear hown'
    have hnc' : 4 ≤ c9 := hnc
    simp only [ints, List.map_cons, List.map_nil, List.cons_append, List.nil_append]
    (refine O1 ⟨?_⟩; intros)
    repeat (refine AS ⟨?_⟩; intros)
    (refine O1 ⟨?_⟩; intros)
    (refine O1 ⟨?_⟩; intros)
    (refine O1 ⟨?_⟩; intros)
    refine Wo (ov_rem rfl rfl (by omega) hr) ?_
    repeat (refine A1 ⟨?_⟩; intros)
    rw [show ((w 1 : Int) + more) = ((w 1 + more.toNat : Nat) : Int) by omega]
    refine WPL.pub (d := 71) (s' := nsl .i64 (([w 0, w 1 + more.toNat, w 2, w 3] : List Nat).map Int.ofNat)) (HDel.here _) rfl (fun m arr h1 h2 => ints_pub (c := c9) (l := [w 0, w 1 + more.toNat, w 2, w 3]) h1 h2 hnc' hcm) ?_
    repeat (first | (refine A1 ⟨?_⟩; intros) | (refine Wcx (c3) ?_) | (refine Wdcx (c3) ?_) | (refine Wcgx (c3) ?_) | (refine Wdcgx (c3) ?_) | (refine Wcx (kn) ?_) | (refine Wdcx (kn) ?_) | (refine Wcgx (kn) ?_) | (refine Wdcgx (kn) ?_))
    ((first | refine endR ?_ | refine endN ?_); exact end1 (RV.tmp rfl) (Le.refl _))
  · obtain ⟨q, q1, q2, c3⟩ := step [w 0, w 1, w 2 + more.toNat, w 3] rfl (by
      intro x hx
      simp only [List.mem_cons, List.not_mem_nil, or_false] at hx
      omega) ⟨by omega, by omega, by omega, by omega, trivial⟩
    clear step
    repeat (first | (refine A1 ⟨?_⟩; intros) | (refine Wcx (c1) ?_) | (refine Wdcx (c1) ?_) | (refine Wcgx (c1) ?_) | (refine Wdcgx (c1) ?_) | (refine Wcx (c2) ?_) | (refine Wdcx (c2) ?_) | (refine Wcgx (c2) ?_) | (refine Wdcgx (c2) ?_))
    refine WPL.appAllS (ds := ints [w 0, w 1, w 2, w 3]) (k0 := 4) rfl (nsl_ints _) rfl (by decide) (by decide) (by decide) (fun s' H' hown' => ?_)
    obtain ⟨b9, c9, hnc, hcm, rfl, rfl⟩ := hown'.blk (by decide)
    clear hown'
    have hnc' : 4 ≤ c9 := hnc
    simp only [ints, List.map_cons, List.map_nil, List.cons_append, List.nil_append]
    (refine O1 ⟨?_⟩; intros)
    repeat (refine AS ⟨?_⟩; intros)
    (refine O1 ⟨?_⟩; intros)
    (refine O1 ⟨?_⟩; intros)
    (refine O1 ⟨?_⟩; intros)
    refine Wo (ov_rem rfl rfl (by omega) hr) ?_
    repeat (refine A1 ⟨?_⟩; intros)
    rw [show ((w 2 : Int) + more) = ((w 2 + more.toNat : Nat) : Int) by omega]
    refine WPL.pub (d := 71) (s' := nsl .i64 (([w 0, w 1, w 2 + more.toNat, w 3] : List Nat).map Int.ofNat)) (HDel.here _) rfl (fun m arr h1 h2 => ints_pub (c := c9) (l := [w 0, w 1, w 2 + more.toNat, w 3]) h1 h2 hnc' hcm) ?_
    repeat (first | (refine A1 ⟨?_⟩; intros) | (refine Wcx (c3) ?_) | (refine Wdcx (c3) ?_) | (refine Wcgx (c3) ?_) | (refine Wdcgx (c3) ?_) | (refine Wcx (kn) ?_) | (refine Wdcx (kn) ?_) | (refine Wcgx (kn) ?_) | (refine Wdcgx (kn) ?_))
    ((first | refine endR ?_ | refine endN ?_); exact end1 (RV.tmp rfl) (Le.refl _))
  · obtain ⟨q, q1, q2, c3⟩ := step [w 0, w 1, w 2, w 3 + more.toNat] rfl (by
      intro x hx
      simp only [List.mem_cons, List.not_mem_nil, or_false] at hx
      omega) ⟨by omega, by omega, by omega, by omega, trivial⟩
    clear step
    repeat (first | (refine A1 ⟨?_⟩; intros) | (refine Wcx (c1) ?_) | (refine Wdcx (c1) ?_) | (refine Wcgx (c1) ?_) | (refine Wdcgx (c1) ?_) | (refine Wcx (c2) ?_) | (refine Wdcx (c2) ?_) | (refine Wcgx (c2) ?_) | (refine Wdcgx (c2) ?_))
    refine WPL.appAllS (ds := ints [w 0, w 1, w 2, w 3]) (k0 := 4) rfl (nsl_ints _) rfl (by decide) (by decide) (by decide) (fun s' H' hown' => ?_)
    obtain ⟨b9, c9, hnc, hcm, rfl, rfl⟩ := hown'.blk (by decide)
    clear hown'
    have hnc' : 4 ≤ c9 := hnc
    simp only [ints, List.map_cons, List.map_nil, List.cons_append, List.nil_append]
    (refine O1 ⟨?_⟩; intros)
    repeat (refine AS ⟨?_⟩; intros)
    (refine O1 ⟨?_⟩; intros)
    (refine O1 ⟨?_⟩; intros)
    (refine O1 ⟨?_⟩; intros)
    refine Wo (ov_rem rfl rfl (by omega) hr) ?_
    repeat (refine A1 ⟨?_⟩; intros)
    rw [show ((w 3 : Int) + more) = ((w 3 + more.toNat : Nat) : Int) by omega]
    refine WPL.pub (d := 71) (s' := nsl .i64 (([w 0, w 1, w 2, w 3 + more.toNat] : List Nat).map Int.ofNat)) (HDel.here _) rfl (fun m arr h1 h2 => ints_pub (c := c9) (l := [w 0, w 1, w 2, w 3 + more.toNat]) h1 h2 hnc' hcm) ?_
    repeat (first | (refine A1 ⟨?_⟩; intros) | (refine Wcx (c3) ?_) | (refine Wdcx (c3) ?_) | (refine Wcgx (c3) ?_) | (refine Wdcgx (c3) ?_) | (refine Wcx (kn) ?_) | (refine Wdcx (kn) ?_) | (refine Wcgx (kn) ?_) | (refine Wdcgx (kn) ?_))
    ((first | refine endR ?_ | refine endN ?_); exact end1 (RV.tmp rfl) (Le.refl _))
end Go.Ab
