/- Texts laid one behind the other: BndR, ImM, AffC, LnC, RLn, Ex, TapeB. -/
import Derived.Test.YtijejidpcfgioaaGreatDoorB24
import Derived.Test.YtijejidpcfgioaaGreatDoorB14
import Derived.Test.YtijejidpcfgioaaGreatDoorB13
import Derived.Test.YtijejidpcfgioaaGreatDoorB03
import Derived.Test.YtijejidpcfgioaaGreatDoorB04
import Derived.Test.YtijejidpcfgioaaGreatDoorB05
/- The reference's bounds of all parts, walked. -/
namespace Go.Ab
open Go.Proofs
set_option linter.unusedSectionVars false
set_option linter.unusedVariables false
set_option linter.unusedSimpArgs false
variable [Base]
/-- what the reference's Bounds gives -/
def rbR (o : Option (List Nat)) : SV → LH → Prop := fun r H' => match o with
  | none => (∃ i : Nat, i < 1000000 ∧ r = Ab.tup [lit (.slice none 0 0), lit (.int .i64 (i : Int))]) ∧ H' = []
  | some out => ∃ s, r = Ab.tup [s, lit (.int .i64 (-1))] ∧ Own itT 1 out.length (ints out) s H'
structure RSt where
  k : Nat
  vs : List Nat
  out : List Nat
  s2 : SV
  H2 : LH
def RSt.ok (ns : List Nd) (env : List UInt8 → Option Nat) (x : RSt) : Prop :=
  x.k ≤ ns.length ∧ x.out.length = x.k ∧ (∃ st, BS x.out st x.vs ∧ (stk (ns.drop x.k) x.k st).isSome = true) ∧ brun env (ns.drop x.k) x.vs x.out = brun env ns [] [] ∧
    Own itT 1 x.out.length (ints x.out) x.s2 x.H2 ∧ (∀ v ∈ x.vs, v ≤ 9223372036854775807)
theorem BS.head {out : List Nat} {st : List (Ex × Nat)} {v : Nat} {r : List Nat} (h : BS out st (v :: r)) : ∃ x j st', st = (x, j) :: st' ∧ out[j]? = some v ∧ BS out st' r := by
  cases h with
  | cons h k => exact ⟨_, _, _, rfl, h, k⟩
theorem stp_x {i : Nat} {n : Nd} {x : Ex} {j : Nat} {st st' : List (Ex × Nat)} (h5 : n.k = 5) (h : stp i n ((x, j) :: st) = some st') : n.x = (j : Nat) := by
  unfold stp at h
  split at h
  · simp only at h
    split at h
    · assumption
    · cases h
  · cases h
theorem stp_xy {i : Nat} {n : Nd} {x y : Ex} {j k : Nat} {st st' : List (Ex × Nat)} (h6 : n.k = 6) (h : stp i n ((y, k) :: (x, j) :: st) = some st') : n.x = (j : Nat) ∧ n.y = (k : Nat) := by
  unfold stp at h
  split at h
  · simp only [show ¬n.k = 5 by omega, if_false] at h
    split at h
    · assumption
    · cases h
  · cases h
theorem ints_at {out : List Nat} {j v c : Nat} (h : out[j]? = some v) : (ints out ++ List.replicate c top)[j]? = some (lit (.int .i64 (v : Int))) := by
  rw [List.getElem?_append_left (by rw [ints_len]; exact (List.getElem?_eq_some_iff.1 h).1)]
  unfold ints
  rw [List.getElem?_map, h]
  rfl
set_option maxHeartbeats 4000000 in
theorem rbounds_pu (ns : List Nd) {L : Nat} (hok : ∀ n ∈ ns, n.ok L) (hL : L ≤ 20) (hns : ns.length ≤ 30) {t : List UInt8} (ho : otx ns = some t) (names : List (List UInt8)) (hnl : names.length ≤ 1000000) (zs : List Int) (hl : names.length = zs.length) (hz : ∀ z ∈ zs, i64R z) :
    PuH Tryz.prog 23 [sl (ns.map ndx).flatten ns.length, sl (names.map str) names.length, nsl .i64 zs] [] (rbR (brun (envOf names zs) ns [] [])) noX := by
  generalize hB : brun (envOf names zs) ns [] [] = B
  refine PuH.intro Tryz.func23 rfl (by kernel_rfl) fun C hC => ?_
  repeat (refine A1 ⟨?_⟩; intros)
  refine WP.loopS (ι := RSt) (RSt.ok ns (envOf names zs)) (fun x => ns.length - x.k)
    (fun x => fm [(1, sl (names.map str) names.length), (2, nsl .i64 zs), (8, x.s2), (13, sl (ns.map ndx).flatten ns.length), (14, lit (.int .i64 ns.length)), (15, lit (.int .i64 x.k))])
    (fun x => x.H2) ⟨0, [], [], lit (.slice none 0 0), []⟩ ?_ (by (repeat (first | exact LeF.nil _ | refine LeF.cons (Le.refl _) ?_ | refine LeF.cons (Le.int (by omega)) ?_))) (List.nil_sublist _) ?_
  · refine ⟨Nat.zero_le _, rfl, ⟨[], .nil, ?_⟩, by rw [List.drop_zero], Own.nil _ _, (fun v h => by cases h)⟩
    rw [List.drop_zero]
    unfold otx at ho
    cases hs : stk ns 0 [] with
    | none => rw [hs] at ho; cases ho
    | some st => rfl
  rintro ⟨k, vs, out, s2, H2⟩ ⟨hk, hol, ⟨st, hbs, hst⟩, hrun, hown2, hv1⟩ K hK
  simp only at hk hol hbs hst hrun hown2 hv1
  simp only
  clear ho
  by_cases hkl : k < ns.length
  · have hget := List.getElem?_eq_getElem hkl
    have hdrop := List.drop_eq_getElem_cons hkl
    generalize ns[k] = nd at hget hdrop
    have hat := flat_at (f := ndx) (n := 19) ndx_len hget
    have hne : (ns.map ndx).flatten ≠ [] := flat_ne ndx_len (by omega) (fun e => by rw [e] at hkl; simp at hkl)
    rw [hdrop] at hst hrun
    rw [stk_cons] at hst
    cases hs : stp k nd st with
    | none => rw [hs] at hst; cases hst
    | some st' =>
    rw [hs] at hst
    simp only at hst
    have hstep := bstep_stk (env := envOf names zs) hs hbs hol
    rw [brun_cons] at hrun
    have hcont : ∀ v r s2' H2' F' H', bstep (envOf names zs) nd vs = some (v, r) → v ≤ 9223372036854775807 → (∀ u ∈ r, u ≤ 9223372036854775807) → Own itT 1 (out.length + 1) (ints out ++ [lit (.int .i64 (v : Int))]) s2' H2' →
        LeF F' (fm [(1, sl (names.map str) names.length), (2, nsl .i64 zs), (8, s2'), (13, sl (ns.map ndx).flatten ns.length), (14, lit (.int .i64 ns.length)), (15, lit (.int .i64 (k + 1 : Nat)))]) → H2'.Sublist H' → K F' H' := by
      intro v r s2' H2' F' H' hb hv hr h2 hF hH
      rw [hb] at hstep hrun
      simp only at hstep hrun
      refine hK F' H' ⟨k + 1, v :: r, out ++ [v], s2', H2'⟩ ⟨by simp only; omega, by simp only [List.length_append, List.length_singleton]; omega, ⟨st', hstep, hst⟩, hrun, ?_, ?_⟩ (by simp only; omega) hF hH
      · simp only [List.length_append, List.length_singleton, ints, List.map_append, List.map_cons, List.map_nil]; exact h2
      · intro u hu
        rcases List.mem_cons.1 hu with rfl | hu
        · exact hv
        · exact hr u hu
    clear hK
    have hkr : 1 ≤ nd.k ∧ nd.k ≤ 6 := by
      unfold stp at hs
      split at hs
      · rename_i e; exact (okN_k e).1
      · cases hs
    obtain ⟨hk1, hk6⟩ := hkr
    have hco2 := hown2.co
    rw [show H2 = H2 ++ [] from (List.append_nil H2).symm]
    by_cases k1 : nd.k = 1
    · have hnl1 : nd.nm.length ≤ 100 := (hok nd (List.mem_of_getElem? hget)).nm
      have cx := rfind_pu names nd.nm (by omega)
      rcases fpos_lt names nd.nm with ⟨hf, hf'⟩ | ⟨i, hf, hi⟩
      · have hbs' : bstep (envOf names zs) nd vs = none := by unfold bstep envOf; rw [if_pos k1, if_pos hf]
        rw [hbs'] at hrun
        simp only at hrun
        have hB' : B = none := by rw [← hB, ← hrun]
        subst hB'
        rw [hf'] at cx
        clear hstep hrun hv1 hs hst hbs' hbs hdrop hget hcont hB
        repeat (refine A1 ⟨?_⟩; intros)
        refine Wo (ov_idxS (cs' := ndx nd) rfl rfl (by omega) (by omega) hat hne) ?_
        repeat (first | (refine A1 ⟨?_⟩; intros) | (refine Wcx (cx) ?_) | (refine Wdcx (cx) ?_) | (refine Wcgx (cx) ?_) | (refine Wdcgx (cx) ?_))
        exact endHR _ [] (end2 (RV.tmp rfl) (RV.tmp rfl) (Le.refl _)) (List.nil_sublist _) ⟨⟨k, by omega, rfl⟩, rfl⟩
      · have hz1 := hz (zs.getD i 0) (by rw [List.getD, List.getElem?_eq_getElem (by omega)]; exact List.getElem_mem (by omega))
        have hbs' : bstep (envOf names zs) nd vs = some ((zs.getD i 0).toNat, vs) := by unfold bstep envOf; rw [if_pos k1, hf, if_neg (by omega)]; rfl
        obtain ⟨z1, z2⟩ := hz1
        have cx2 : i < zs.length := by omega
        rw [hf] at cx
        replace hcont := fun s2' H2' F' H' => hcont _ vs s2' H2' F' H' hbs' (by omega) hv1
        clear hstep hrun hv1 hs hst hbs' hbs hdrop hget hf
        obtain ⟨z, hzz⟩ : ∃ z, zs.getD i 0 = z := ⟨_, rfl⟩
        rw [hzz] at z1 z2 hcont
        repeat (refine A1 ⟨?_⟩; intros)
        refine Wo (ov_idxS (cs' := ndx nd) rfl rfl (by omega) (by omega) hat hne) ?_
        repeat (first | (refine A1 ⟨?_⟩; intros) | (refine Wcx (cx) ?_) | (refine Wdcx (cx) ?_) | (refine Wcgx (cx) ?_) | (refine Wdcgx (cx) ?_))
        rw [hzz]
        refine Wo (ov_max rfl rfl (r := ((z.toNat : Nat) : Int)) (by rw [if_max]; omega)) ?_
        repeat (refine A1 ⟨?_⟩; intros)
        rename_i bE b9
        refine WownP hown2 (perm3 [(b9, _, _), (bE, _, _)] H2 []) (by omega) (fun s2' H2' hown2' => ?_) (List.mem_append_left _ List.mem_cons_self)
        have hco2' := hown2'.co
        repeat (refine A1 ⟨?_⟩; intros)
        exact hcont s2' H2' _ _ hown2' (by (repeat (first | exact LeF.nil _ | refine LeF.cons (Le.refl _) ?_ | refine LeF.cons (Le.int (by omega)) ?_))) (List.sublist_append_left _ _)
    by_cases k4 : nd.k = 4
    · have hbs' : bstep (envOf names zs) nd vs = some (1, vs) := by unfold bstep; rw [if_neg k1, if_pos k4]
      replace hcont := fun s2' H2' F' H' => hcont 1 vs s2' H2' F' H' hbs' (by omega) hv1
      clear hstep hrun hv1 hs hst hbs' hbs hdrop hget
      repeat (refine A1 ⟨?_⟩; intros)
      refine Wo (ov_idxS (cs' := ndx nd) rfl rfl (by omega) (by omega) hat hne) ?_
      repeat (refine A1 ⟨?_⟩; intros)
      rename_i bE b9
      refine WownP hown2 (perm3 [(b9, _, _), (bE, _, _)] H2 []) (by omega) (fun s2' H2' hown2' => ?_) (List.mem_append_left _ List.mem_cons_self)
      have hco2' := hown2'.co
      repeat (refine A1 ⟨?_⟩; intros)
      exact hcont s2' H2' _ _ hown2' (by (repeat (first | exact LeF.nil _ | refine LeF.cons (Le.refl _) ?_ | refine LeF.cons (Le.int (by omega)) ?_))) (List.sublist_append_left _ _)
    by_cases k5 : nd.k = 5
    · cases vs with
      | nil =>
        have : bstep (envOf names zs) nd [] = none := by unfold bstep; rw [if_neg k1, if_neg k4, if_pos k5]
        rw [this] at hstep
        exact absurd hstep.1 k1
      | cons v r =>
      have hbs' : bstep (envOf names zs) nd (v :: r) = some (v, r) := by unfold bstep; rw [if_neg k1, if_neg k4, if_pos k5]
      have hvm := hv1 v (by simp)
      replace hcont := fun s2' H2' F' H' => hcont v r s2' H2' F' H' hbs' hvm (fun u hu => hv1 u (by simp [hu]))
      obtain ⟨x, j, st1, rfl, hj, _⟩ := hbs.head
      have hx := stp_x k5 hs
      have hjl := (List.getElem?_eq_some_iff.1 hj).1
      obtain ⟨b1, c1, hnc, hcm, rfl, rfl⟩ := hown2.blk (by omega)
      have hgt := ints_at (c := c1 * 1 - out.length * 1) hj
      clear hstep hrun hv1 hs hst hbs' hbs hdrop hget hj
      simp only [List.cons_append, List.nil_append, List.append_nil]
      repeat (refine A1 ⟨?_⟩; intros)
      refine Wo (ov_idxS (cs' := ndx nd) rfl rfl (by omega) (by omega) hat hne) ?_
      repeat (refine A1 ⟨?_⟩; intros)
      rw [show nd.x.toNat * 1 = j by omega]
      refine Wo (ov_loadL rfl (by (first | exact List.mem_cons_self | exact (List.mem_cons_of_mem _ List.mem_cons_self) | exact (List.mem_cons_of_mem _ (List.mem_cons_of_mem _ List.mem_cons_self)) | exact (List.mem_cons_of_mem _ (List.mem_cons_of_mem _ (List.mem_cons_of_mem _ List.mem_cons_self))) | exact (List.mem_cons_of_mem _ (List.mem_cons_of_mem _ (List.mem_cons_of_mem _ (List.mem_cons_of_mem _ List.mem_cons_self)))) | exact (List.mem_cons_of_mem _ (List.mem_cons_of_mem _ (List.mem_cons_of_mem _ (List.mem_cons_of_mem _ (List.mem_cons_of_mem _ List.mem_cons_self))))) | exact (List.mem_cons_of_mem _ (List.mem_cons_of_mem _ (List.mem_cons_of_mem _ (List.mem_cons_of_mem _ (List.mem_cons_of_mem _ (List.mem_cons_of_mem _ List.mem_cons_self)))))) | exact (List.mem_cons_of_mem _ (List.mem_cons_of_mem _ (List.mem_cons_of_mem _ (List.mem_cons_of_mem _ (List.mem_cons_of_mem _ (List.mem_cons_of_mem _ (List.mem_cons_of_mem _ List.mem_cons_self))))))))) hgt) ?_
      repeat (refine A1 ⟨?_⟩; intros)
      rename_i bE b9
      refine WownP hown2 (perm3 [(b9, _, _), (bE, _, _)] [(b1, _, _)] []) (by omega) (fun s2' H2' hown2' => ?_) (List.mem_append_left _ List.mem_cons_self)
      have hco2' := hown2'.co
      repeat (refine A1 ⟨?_⟩; intros)
      exact hcont s2' H2' _ _ hown2' (by (repeat (first | exact LeF.nil _ | refine LeF.cons (Le.refl _) ?_ | refine LeF.cons (Le.int (by omega)) ?_))) (List.sublist_append_left _ _)
    by_cases k6 : nd.k = 6
    · cases vs with
      | nil =>
        have : bstep (envOf names zs) nd [] = none := by unfold bstep; rw [if_neg k1, if_neg k4, if_neg k5, if_pos k6]
        rw [this] at hstep
        exact absurd hstep.1 k1
      | cons v vs1 =>
      cases vs1 with
      | nil =>
        have : bstep (envOf names zs) nd [v] = none := by unfold bstep; rw [if_neg k1, if_neg k4, if_neg k5, if_pos k6]
        rw [this] at hstep
        exact absurd hstep.1 k1
      | cons u r =>
      have hbs' : bstep (envOf names zs) nd (v :: u :: r) = some (bnd u v, r) := by unfold bstep; rw [if_neg k1, if_neg k4, if_neg k5, if_pos k6]
      have hvm := hv1 v (by simp)
      have hum := hv1 u (by simp)
      have hbm : bnd u v ≤ 9223372036854775807 := bnd_le u v
      replace hcont := fun s2' H2' F' H' => hcont (bnd u v) r s2' H2' F' H' hbs' hbm (fun x hx => hv1 x (by simp [hx]))
      have cm := rbound_pu u v ⟨by omega, by omega⟩ ⟨by omega, by omega⟩
      rw [Int.toNat_natCast, Int.toNat_natCast] at cm
      generalize bnd u v = q at *
      obtain ⟨y, jy, st1, rfl, hjy, hbs1⟩ := hbs.head
      obtain ⟨x, jx, st2, rfl, hjx, _⟩ := hbs1.head
      obtain ⟨hx, hy⟩ := stp_xy k6 hs
      have hjl := (List.getElem?_eq_some_iff.1 hjy).1
      have hjl2 := (List.getElem?_eq_some_iff.1 hjx).1
      obtain ⟨b1, c1, hnc, hcm, rfl, rfl⟩ := hown2.blk (by omega)
      have hgt := ints_at (c := c1 * 1 - out.length * 1) hjx
      have hgt2 := ints_at (c := c1 * 1 - out.length * 1) hjy
      clear hstep hrun hv1 hs hst hbs' hbs hdrop hget hjx hjy hbs1
      simp only [List.cons_append, List.nil_append, List.append_nil]
      repeat (refine A1 ⟨?_⟩; intros)
      refine Wo (ov_idxS (cs' := ndx nd) rfl rfl (by omega) (by omega) hat hne) ?_
      repeat (first | (refine A1 ⟨?_⟩; intros) | (refine Wcx (cm) ?_) | (refine Wdcx (cm) ?_) | (refine Wcgx (cm) ?_) | (refine Wdcgx (cm) ?_))
      rw [show nd.x.toNat * 1 = jx by omega]
      refine Wdo (ov_loadL rfl (by (first | exact List.mem_cons_self | exact (List.mem_cons_of_mem _ List.mem_cons_self) | exact (List.mem_cons_of_mem _ (List.mem_cons_of_mem _ List.mem_cons_self)) | exact (List.mem_cons_of_mem _ (List.mem_cons_of_mem _ (List.mem_cons_of_mem _ List.mem_cons_self))) | exact (List.mem_cons_of_mem _ (List.mem_cons_of_mem _ (List.mem_cons_of_mem _ (List.mem_cons_of_mem _ List.mem_cons_self)))) | exact (List.mem_cons_of_mem _ (List.mem_cons_of_mem _ (List.mem_cons_of_mem _ (List.mem_cons_of_mem _ (List.mem_cons_of_mem _ List.mem_cons_self))))) | exact (List.mem_cons_of_mem _ (List.mem_cons_of_mem _ (List.mem_cons_of_mem _ (List.mem_cons_of_mem _ (List.mem_cons_of_mem _ (List.mem_cons_of_mem _ List.mem_cons_self)))))) | exact (List.mem_cons_of_mem _ (List.mem_cons_of_mem _ (List.mem_cons_of_mem _ (List.mem_cons_of_mem _ (List.mem_cons_of_mem _ (List.mem_cons_of_mem _ (List.mem_cons_of_mem _ List.mem_cons_self))))))))) hgt) ?_
      repeat (first | (refine A1 ⟨?_⟩; intros) | (refine Wcx (cm) ?_) | (refine Wdcx (cm) ?_) | (refine Wcgx (cm) ?_) | (refine Wdcgx (cm) ?_))
      rw [show nd.y.toNat * 1 = jy by omega]
      refine Wdo (ov_loadL rfl (by (first | exact List.mem_cons_self | exact (List.mem_cons_of_mem _ List.mem_cons_self) | exact (List.mem_cons_of_mem _ (List.mem_cons_of_mem _ List.mem_cons_self)) | exact (List.mem_cons_of_mem _ (List.mem_cons_of_mem _ (List.mem_cons_of_mem _ List.mem_cons_self))) | exact (List.mem_cons_of_mem _ (List.mem_cons_of_mem _ (List.mem_cons_of_mem _ (List.mem_cons_of_mem _ List.mem_cons_self)))) | exact (List.mem_cons_of_mem _ (List.mem_cons_of_mem _ (List.mem_cons_of_mem _ (List.mem_cons_of_mem _ (List.mem_cons_of_mem _ List.mem_cons_self))))) | exact (List.mem_cons_of_mem _ (List.mem_cons_of_mem _ (List.mem_cons_of_mem _ (List.mem_cons_of_mem _ (List.mem_cons_of_mem _ (List.mem_cons_of_mem _ List.mem_cons_self)))))) | exact (List.mem_cons_of_mem _ (List.mem_cons_of_mem _ (List.mem_cons_of_mem _ (List.mem_cons_of_mem _ (List.mem_cons_of_mem _ (List.mem_cons_of_mem _ (List.mem_cons_of_mem _ List.mem_cons_self))))))))) hgt2) ?_
      repeat (first | (refine A1 ⟨?_⟩; intros) | (refine Wcx (cm) ?_) | (refine Wdcx (cm) ?_) | (refine Wcgx (cm) ?_) | (refine Wdcgx (cm) ?_))
      rename_i bE b9
      refine WownP hown2 (perm3 [(b9, _, _), (bE, _, _)] [(b1, _, _)] []) (by omega) (fun s2' H2' hown2' => ?_) (List.mem_append_left _ List.mem_cons_self)
      have hco2' := hown2'.co
      repeat (refine A1 ⟨?_⟩; intros)
      exact hcont s2' H2' _ _ hown2' (by (repeat (first | exact LeF.nil _ | refine LeF.cons (Le.refl _) ?_ | refine LeF.cons (Le.int (by omega)) ?_))) (List.sublist_append_left _ _)
    have hbs' : bstep (envOf names zs) nd vs = some (0, vs) := by unfold bstep; rw [if_neg k1, if_neg k4, if_neg k5, if_neg k6]
    replace hcont := fun s2' H2' F' H' => hcont 0 vs s2' H2' F' H' hbs' (by omega) hv1
    clear hstep hrun hv1 hs hst hbs' hbs hdrop hget
    repeat (refine A1 ⟨?_⟩; intros)
    refine Wo (ov_idxS (cs' := ndx nd) rfl rfl (by omega) (by omega) hat hne) ?_
    repeat (refine A1 ⟨?_⟩; intros)
    rename_i bE b9
    refine WownP hown2 (perm3 [(b9, _, _), (bE, _, _)] H2 []) (by omega) (fun s2' H2' hown2' => ?_) (List.mem_append_left _ List.mem_cons_self)
    have hco2' := hown2'.co
    repeat (refine A1 ⟨?_⟩; intros)
    exact hcont s2' H2' _ _ hown2' (by (repeat (first | exact LeF.nil _ | refine LeF.cons (Le.refl _) ?_ | refine LeF.cons (Le.int (by omega)) ?_))) (List.sublist_append_left _ _)
  · obtain rfl : k = ns.length := by omega
    rw [List.drop_length] at hrun
    have hB' : B = some out := by rw [← hB, ← hrun]; rfl
    have hco2 := hown2.co
    clear hK hrun hB
    subst hB'
    repeat (refine A1 ⟨?_⟩; intros)
    exact endHR _ H2 (end2 (RV.tmp rfl) (RV.tmp rfl) (Le.refl _)) (List.Sublist.refl _) ⟨s2, rfl, hown2⟩
end Go.Ab
/- Lines: coprime integers out of integers; the image of a line as the reference makes it: plain laws. -/
namespace Go.Ab
open Go.Proofs
set_option linter.unusedSectionVars false
set_option linter.unusedVariables false
set_option linter.unusedSimpArgs false
variable [Base]
def Li.neg (l : Li) : Li := ⟨-l.a, -l.b, -l.c⟩
end Go.Ab
/- Package affine: Invert; the reference's After, Invert. -/
namespace Go.Ab
open Go.Proofs
set_option linter.unusedSectionVars false
set_option linter.unusedVariables false
set_option linter.unusedSimpArgs false
variable [Base]
end Go.Ab
/- Packages geo, affine: lines made, lines read, images of lines. -/
namespace Go.Ab
open Go.Proofs
set_option linter.unusedSectionVars false
set_option linter.unusedVariables false
set_option linter.unusedSimpArgs false
variable [Base]
end Go.Ab
/- The reference of layers 4 and 5: lines. -/
namespace Go.Ab
open Go.Proofs
set_option linter.unusedSectionVars false
set_option linter.unusedVariables false
set_option linter.unusedSimpArgs false
variable [Base]
end Go.Ab
/- Values of which only the kind is known, in regions that draw their order. -/
namespace Go.Ab
open Go.Proofs
set_option linter.unusedSectionVars false
set_option linter.unusedVariables false
set_option linter.unusedSimpArgs false
variable [Base]
section
variable {P : Program} {F : Fr} {H : LH} {ty : TypeId}
theorem ArgsOk.exAt {m : Mem} {α : Type} {g : α → SV} : ∀ {pre post : List SV} {vs : List Value}, ArgsOk m (pre ++ ex g :: post) vs → ∃ x, ArgsOk m (pre ++ g x :: post) vs
  | [], _, [], h => h.elim
  | [], _, v :: vs, h => by
    have h1 := h.1
    unfold ex at h1
    obtain ⟨x, hx⟩ := h1
    exact ⟨x, hx, h.2⟩
  | _ :: _, _, [], h => h.elim
  | s :: pre, post, v :: vs, h => by
    obtain ⟨x, hx⟩ := ArgsOk.exAt (pre := pre) (post := post) h.2
    exact ⟨x, h.1, hx⟩
theorem ex_mk {α : Type} {m : Mem} {v : Value} {g : α → SV} (x : α) (h : (g x).p m v) : (ex g).p m v := by unfold ex; exact ⟨x, h⟩
/-- a function over a value of which only the kind is known -/
theorem Pu.exAt {f : FuncId} {α : Type} (pre post : List SV) {g r : α → SV} (x0 : α) (h : ∀ x, Pu P f (pre ++ g x :: post) (r x)) : Pu P f (pre ++ ex g :: post) (ex r) := by
  unfold Pu at *
  exact ⟨(h x0).1, fun m w vs hm ha => by
    obtain ⟨x, hx⟩ := ha.exAt
    exact ((h x).2 m w vs hm hx).mono fun _ _ ⟨v, m', e, hp, k⟩ => ⟨v, m', e, ex_mk x hp, k⟩⟩
/-- .. that makes no difference to the result -/
theorem Pu.exAt' {f : FuncId} {α : Type} (pre post : List SV) {g : α → SV} {r : SV} (x0 : α) (h : ∀ x, Pu P f (pre ++ g x :: post) r) : Pu P f (pre ++ ex g :: post) r := by
  unfold Pu at *
  exact ⟨(h x0).1, fun m w vs hm ha => by
    obtain ⟨x, hx⟩ := ha.exAt
    exact (h x).2 m w vs hm hx⟩
theorem OpV.mono' {op : Op} {s s' : SV} (h : OpV P op ty F H s) (k : Le s s') : OpV P op ty F H s' := by
  unfold OpV at *
  exact fun m w o a ho hty h1 h2 h3 K Q hK => h m w o a ho hty h1 h2 h3 K Q fun v m' w' hp => hK v m' w' (k _ _ hp)
theorem OpV.exc {op : Op} {α : Type} (t : Nat) {f : α → SV} {s : SV} (x0 : α) (hf : F t = ex f) (h : ∀ x, OpV P op ty (upd F t (f x)) H s) : OpV P op ty F H s := by
    unfold OpV at *
    intro m w o a ho hty h1 h2 h3 K Q hK
    have key : ∃ x : α, (.tmp t ∈ op.operands → (f x).p m (a.eval (.tmp t))) := by
      by_cases ht : .tmp t ∈ op.operands
      · have h0 := h3 t ht
        rw [hf] at h0
        unfold ex at h0
        obtain ⟨x, hx⟩ := h0
        exact ⟨x, fun _ => hx⟩
      · exact ⟨x0, fun k => (ht k).elim⟩
    obtain ⟨x, hx⟩ := key
    refine h x m w o a ho hty h1 h2 (fun t' ht' => ?_) K Q hK
    by_cases e : t' = t
    · subst e; rw [upd_eq]; exact hx ht'
    · rw [upd_ne e]; exact h3 t' ht'
/-- an operation over a value of which only the kind is known -/
theorem OpV.exd {op : Op} {α : Type} (t : Nat) {f g : α → SV} (x0 : α) (hf : F t = ex f) (h : ∀ x, OpV P op ty (upd F t (f x)) H (g x)) : OpV P op ty F H (ex g) :=
  OpV.exc t x0 hf fun x => (h x).mono' fun _ _ hp => ex_mk x hp
end
end Go.Ab
/- The scenes' tape: points, vectors, lines, trees. -/
namespace Go.Ab
open Go.Proofs
set_option linter.unusedSectionVars false
set_option linter.unusedVariables false
set_option linter.unusedSimpArgs false
variable [Base]
theorem rsame_pu (x y u v : Rat) (hx : ht x ≤ 3000000) (hy : ht y ≤ 3000000) (hu : ht u ≤ 3000000) (hv : ht v ≤ 3000000) : Pu Tryz.prog 101 [rp x y, rp u v] (lit (.bool (decide (x = u ∧ y = v)))) := by
  have c1 := rc_pu x u hx hu
  have c2 := rc_pu y v hy hv
  have e1 := sub_sign_zero (x := x) (y := u)
  have e2 := sub_sign_zero (x := y) (y := v)
  generalize (x - u).num.sign = s at *
  generalize (y - v).num.sign = t at *
  clear hx hy hu hv
  by_cases h1 : x = u
  · have hs := e1.2 h1
    by_cases h2 : y = v
    · have ht := e2.2 h2
      rw [decide_eq_true ⟨h1, h2⟩]
      clear e1 e2
      subst hs ht
      refine Pu.intro Tryz.func101 rfl (by kernel_rfl) fun C => ?_
      repeat (first | (refine A1 ⟨?_⟩; intros) | (refine Wcx (c1) ?_) | (refine Wdcx (c1) ?_) | (refine Wcgx (c1) ?_) | (refine Wdcgx (c1) ?_) | (refine Wcx (c2) ?_) | (refine Wdcx (c2) ?_) | (refine Wcgx (c2) ?_) | (refine Wdcgx (c2) ?_))
      ((first | refine endR ?_ | refine endN ?_); exact end1 (RV.tmp rfl) (Le.refl _))
    · have ht : t ≠ 0 := fun e => h2 (e2.1 e)
      rw [decide_eq_false (fun h => h2 h.2)]
      clear e1 e2
      subst hs
      refine Pu.intro Tryz.func101 rfl (by kernel_rfl) fun C => ?_
      repeat (first | (refine A1 ⟨?_⟩; intros) | (refine Wcx (c1) ?_) | (refine Wdcx (c1) ?_) | (refine Wcgx (c1) ?_) | (refine Wdcgx (c1) ?_) | (refine Wcx (c2) ?_) | (refine Wdcx (c2) ?_) | (refine Wcgx (c2) ?_) | (refine Wdcgx (c2) ?_))
      ((first | refine endR ?_ | refine endN ?_); exact end1 (RV.tmp rfl) (Le.refl _))
  · have hs : s ≠ 0 := fun e => h1 (e1.1 e)
    rw [decide_eq_false (fun h => h1 h.1)]
    clear e1 e2
    refine Pu.intro Tryz.func101 rfl (by kernel_rfl) fun C => ?_
    repeat (first | (refine A1 ⟨?_⟩; intros) | (refine Wcx (c1) ?_) | (refine Wdcx (c1) ?_) | (refine Wcgx (c1) ?_) | (refine Wdcgx (c1) ?_) | (refine Wcx (c2) ?_) | (refine Wdcx (c2) ?_) | (refine Wcgx (c2) ?_) | (refine Wdcgx (c2) ?_))
    ((first | refine endR ?_ | refine endN ?_); exact end1 (RV.tmp rfl) (Le.refl _))
/-- a point with small integer coordinates -/
abbrev intP : SV := ex fun p : { p : Int × Int // p.1.natAbs ≤ 4 ∧ p.2.natAbs ≤ 4 } => rp (p.1.1 : Rat) (p.1.2 : Rat)
/-- such a vector other than 0 -/
abbrev intV : SV := ex fun p : { p : Int × Int // (p.1.natAbs ≤ 4 ∧ p.2.natAbs ≤ 4) ∧ (p.1 ≠ 0 ∨ p.2 ≠ 0) } => rp (p.1.1 : Rat) (p.1.2 : Rat)
theorem tp_pu (zs : List Int) (hz : zs.length ≤ 400) : PuT 66 zs [] intP := by
  refine PuM.intro Tryz.func66 rfl (by kernel_rfl) fun C b => ?_
  repeat (refine A1 ⟨?_⟩; intros)
  refine Wtx (next_pu zs hz 9 (by omega) (by omega)) (by (first | exact List.mem_cons_self | exact (List.mem_cons_of_mem _ List.mem_cons_self) | exact (List.mem_cons_of_mem _ (List.mem_cons_of_mem _ List.mem_cons_self)) | exact (List.mem_cons_of_mem _ (List.mem_cons_of_mem _ (List.mem_cons_of_mem _ List.mem_cons_self))) | exact (List.mem_cons_of_mem _ (List.mem_cons_of_mem _ (List.mem_cons_of_mem _ (List.mem_cons_of_mem _ List.mem_cons_self)))) | exact (List.mem_cons_of_mem _ (List.mem_cons_of_mem _ (List.mem_cons_of_mem _ (List.mem_cons_of_mem _ (List.mem_cons_of_mem _ List.mem_cons_self))))) | exact (List.mem_cons_of_mem _ (List.mem_cons_of_mem _ (List.mem_cons_of_mem _ (List.mem_cons_of_mem _ (List.mem_cons_of_mem _ (List.mem_cons_of_mem _ List.mem_cons_self)))))) | exact (List.mem_cons_of_mem _ (List.mem_cons_of_mem _ (List.mem_cons_of_mem _ (List.mem_cons_of_mem _ (List.mem_cons_of_mem _ (List.mem_cons_of_mem _ (List.mem_cons_of_mem _ List.mem_cons_self))))))))) fun x => ?_
  obtain ⟨x, hx⟩ := x
  simp only []
  repeat (refine A1 ⟨?_⟩; intros)
  refine Wtx (next_pu zs hz 9 (by omega) (by omega)) (by (first | exact List.mem_cons_self | exact (List.mem_cons_of_mem _ List.mem_cons_self) | exact (List.mem_cons_of_mem _ (List.mem_cons_of_mem _ List.mem_cons_self)) | exact (List.mem_cons_of_mem _ (List.mem_cons_of_mem _ (List.mem_cons_of_mem _ List.mem_cons_self))) | exact (List.mem_cons_of_mem _ (List.mem_cons_of_mem _ (List.mem_cons_of_mem _ (List.mem_cons_of_mem _ List.mem_cons_self)))) | exact (List.mem_cons_of_mem _ (List.mem_cons_of_mem _ (List.mem_cons_of_mem _ (List.mem_cons_of_mem _ (List.mem_cons_of_mem _ List.mem_cons_self))))) | exact (List.mem_cons_of_mem _ (List.mem_cons_of_mem _ (List.mem_cons_of_mem _ (List.mem_cons_of_mem _ (List.mem_cons_of_mem _ (List.mem_cons_of_mem _ List.mem_cons_self)))))) | exact (List.mem_cons_of_mem _ (List.mem_cons_of_mem _ (List.mem_cons_of_mem _ (List.mem_cons_of_mem _ (List.mem_cons_of_mem _ (List.mem_cons_of_mem _ (List.mem_cons_of_mem _ List.mem_cons_self))))))))) fun y => ?_
  obtain ⟨y, hy⟩ := y
  simp only []
  repeat (first | (refine A1 ⟨?_⟩; intros) | (refine Wcx (xy_pu ((x : Int) - 4) ((y : Int) - 4) (by omega) (by omega) (by omega) (by omega)) ?_) | (refine Wdcx (xy_pu ((x : Int) - 4) ((y : Int) - 4) (by omega) (by omega) (by omega) (by omega)) ?_) | (refine Wcgx (xy_pu ((x : Int) - 4) ((y : Int) - 4) (by omega) (by omega) (by omega) (by omega)) ?_) | (refine Wdcgx (xy_pu ((x : Int) - 4) ((y : Int) - 4) (by omega) (by omega) (by omega) (by omega)) ?_))
  exact endMR () _ (end1 (RV.cellA rfl (by (first | exact List.mem_cons_self | exact (List.mem_cons_of_mem _ List.mem_cons_self) | exact (List.mem_cons_of_mem _ (List.mem_cons_of_mem _ List.mem_cons_self)) | exact (List.mem_cons_of_mem _ (List.mem_cons_of_mem _ (List.mem_cons_of_mem _ List.mem_cons_self))) | exact (List.mem_cons_of_mem _ (List.mem_cons_of_mem _ (List.mem_cons_of_mem _ (List.mem_cons_of_mem _ List.mem_cons_self)))) | exact (List.mem_cons_of_mem _ (List.mem_cons_of_mem _ (List.mem_cons_of_mem _ (List.mem_cons_of_mem _ (List.mem_cons_of_mem _ List.mem_cons_self))))) | exact (List.mem_cons_of_mem _ (List.mem_cons_of_mem _ (List.mem_cons_of_mem _ (List.mem_cons_of_mem _ (List.mem_cons_of_mem _ (List.mem_cons_of_mem _ List.mem_cons_self)))))) | exact (List.mem_cons_of_mem _ (List.mem_cons_of_mem _ (List.mem_cons_of_mem _ (List.mem_cons_of_mem _ (List.mem_cons_of_mem _ (List.mem_cons_of_mem _ (List.mem_cons_of_mem _ List.mem_cons_self))))))))) rfl rfl) (Le.ex ⟨((x : Int) - 4, (y : Int) - 4), by simp only; omega, by simp only; omega⟩ (Le.refl _))) (by (first | exact List.mem_cons_self | exact (List.mem_cons_of_mem _ List.mem_cons_self) | exact (List.mem_cons_of_mem _ (List.mem_cons_of_mem _ List.mem_cons_self)) | exact (List.mem_cons_of_mem _ (List.mem_cons_of_mem _ (List.mem_cons_of_mem _ List.mem_cons_self))) | exact (List.mem_cons_of_mem _ (List.mem_cons_of_mem _ (List.mem_cons_of_mem _ (List.mem_cons_of_mem _ List.mem_cons_self)))) | exact (List.mem_cons_of_mem _ (List.mem_cons_of_mem _ (List.mem_cons_of_mem _ (List.mem_cons_of_mem _ (List.mem_cons_of_mem _ List.mem_cons_self))))) | exact (List.mem_cons_of_mem _ (List.mem_cons_of_mem _ (List.mem_cons_of_mem _ (List.mem_cons_of_mem _ (List.mem_cons_of_mem _ (List.mem_cons_of_mem _ List.mem_cons_self)))))) | exact (List.mem_cons_of_mem _ (List.mem_cons_of_mem _ (List.mem_cons_of_mem _ (List.mem_cons_of_mem _ (List.mem_cons_of_mem _ (List.mem_cons_of_mem _ (List.mem_cons_of_mem _ List.mem_cons_self))))))))) (LeL.refl _)
theorem ht_i (z : Int) (h : z.natAbs ≤ 1000) : ht (z : Rat) ≤ 1 := ht_int z (by omega)
theorem leZP : LeL [ag [lit (.bool false), lit (.slice none 0 0), lit (.slice none 0 0), lit (.bool false), lit (.slice none 0 0), lit (.slice none 0 0)]] [rp 0 0] :=
  ⟨Le.ag (by repeat (first | exact trivial | refine ⟨?_, ?_⟩ | exact Le.refl _ | exact leN0 | exact leD0)), trivial⟩
theorem int_zero {z : Int} : ((z : Rat) = 0) ↔ z = 0 := by constructor <;> intro h <;> exact_mod_cast h
theorem tv_pu (zs : List Int) (hz : zs.length ≤ 400) : PuT 70 zs [] intV := by
  refine PuM.intro Tryz.func70 rfl (by kernel_rfl) fun C b => ?_
  repeat (refine A1 ⟨?_⟩; intros)
  refine Wtx (tp_pu zs hz) (by (first | exact List.mem_cons_self | exact (List.mem_cons_of_mem _ List.mem_cons_self) | exact (List.mem_cons_of_mem _ (List.mem_cons_of_mem _ List.mem_cons_self)) | exact (List.mem_cons_of_mem _ (List.mem_cons_of_mem _ (List.mem_cons_of_mem _ List.mem_cons_self))) | exact (List.mem_cons_of_mem _ (List.mem_cons_of_mem _ (List.mem_cons_of_mem _ (List.mem_cons_of_mem _ List.mem_cons_self)))) | exact (List.mem_cons_of_mem _ (List.mem_cons_of_mem _ (List.mem_cons_of_mem _ (List.mem_cons_of_mem _ (List.mem_cons_of_mem _ List.mem_cons_self))))) | exact (List.mem_cons_of_mem _ (List.mem_cons_of_mem _ (List.mem_cons_of_mem _ (List.mem_cons_of_mem _ (List.mem_cons_of_mem _ (List.mem_cons_of_mem _ List.mem_cons_self)))))) | exact (List.mem_cons_of_mem _ (List.mem_cons_of_mem _ (List.mem_cons_of_mem _ (List.mem_cons_of_mem _ (List.mem_cons_of_mem _ (List.mem_cons_of_mem _ (List.mem_cons_of_mem _ List.mem_cons_self))))))))) fun p => ?_
  obtain ⟨⟨x, y⟩, hx, hy⟩ := p
  simp only at hx hy
  simp only []
  have h0 := ht_zero
  have hx' := ht_i x (by omega)
  have hy' := ht_i y (by omega)
  have c1 := (rsame_pu x y 0 0 (by omega) (by omega) (by omega) (by omega)).arg (l' := [rp x y, ag [lit (.bool false), lit (.slice none 0 0), lit (.slice none 0 0), lit (.bool false), lit (.slice none 0 0), lit (.slice none 0 0)]]) ⟨Le.refl _, leZP⟩
  have c2 := xy_pu 1 0 (by omega) (by omega) (by omega) (by omega)
  by_cases h : x = 0 ∧ y = 0
  · rw [decide_eq_true (show (x : Rat) = 0 ∧ (y : Rat) = 0 from ⟨int_zero.2 h.1, int_zero.2 h.2⟩)] at c1
    clear h hx' hy' h0
    repeat (first | (refine A1 ⟨?_⟩; intros) | (refine Wcx (c1) ?_) | (refine Wdcx (c1) ?_) | (refine Wcgx (c1) ?_) | (refine Wdcgx (c1) ?_) | (refine Wcx (c2) ?_) | (refine Wdcx (c2) ?_) | (refine Wcgx (c2) ?_) | (refine Wdcgx (c2) ?_))
    exact endMR () _ (end1 (RV.cellA rfl (by (first | exact List.mem_cons_self | exact (List.mem_cons_of_mem _ List.mem_cons_self) | exact (List.mem_cons_of_mem _ (List.mem_cons_of_mem _ List.mem_cons_self)) | exact (List.mem_cons_of_mem _ (List.mem_cons_of_mem _ (List.mem_cons_of_mem _ List.mem_cons_self))) | exact (List.mem_cons_of_mem _ (List.mem_cons_of_mem _ (List.mem_cons_of_mem _ (List.mem_cons_of_mem _ List.mem_cons_self)))) | exact (List.mem_cons_of_mem _ (List.mem_cons_of_mem _ (List.mem_cons_of_mem _ (List.mem_cons_of_mem _ (List.mem_cons_of_mem _ List.mem_cons_self))))) | exact (List.mem_cons_of_mem _ (List.mem_cons_of_mem _ (List.mem_cons_of_mem _ (List.mem_cons_of_mem _ (List.mem_cons_of_mem _ (List.mem_cons_of_mem _ List.mem_cons_self)))))) | exact (List.mem_cons_of_mem _ (List.mem_cons_of_mem _ (List.mem_cons_of_mem _ (List.mem_cons_of_mem _ (List.mem_cons_of_mem _ (List.mem_cons_of_mem _ (List.mem_cons_of_mem _ List.mem_cons_self))))))))) rfl rfl) (Le.ex ⟨(1, 0), by decide, by decide⟩ (Le.refl _))) (by (first | exact List.mem_cons_self | exact (List.mem_cons_of_mem _ List.mem_cons_self) | exact (List.mem_cons_of_mem _ (List.mem_cons_of_mem _ List.mem_cons_self)) | exact (List.mem_cons_of_mem _ (List.mem_cons_of_mem _ (List.mem_cons_of_mem _ List.mem_cons_self))) | exact (List.mem_cons_of_mem _ (List.mem_cons_of_mem _ (List.mem_cons_of_mem _ (List.mem_cons_of_mem _ List.mem_cons_self)))) | exact (List.mem_cons_of_mem _ (List.mem_cons_of_mem _ (List.mem_cons_of_mem _ (List.mem_cons_of_mem _ (List.mem_cons_of_mem _ List.mem_cons_self))))) | exact (List.mem_cons_of_mem _ (List.mem_cons_of_mem _ (List.mem_cons_of_mem _ (List.mem_cons_of_mem _ (List.mem_cons_of_mem _ (List.mem_cons_of_mem _ List.mem_cons_self)))))) | exact (List.mem_cons_of_mem _ (List.mem_cons_of_mem _ (List.mem_cons_of_mem _ (List.mem_cons_of_mem _ (List.mem_cons_of_mem _ (List.mem_cons_of_mem _ (List.mem_cons_of_mem _ List.mem_cons_self))))))))) (LeL.refl _)
  · rw [decide_eq_false (show ¬((x : Rat) = 0 ∧ (y : Rat) = 0) from fun e => h ⟨int_zero.1 e.1, int_zero.1 e.2⟩)] at c1
    have hv : x ≠ 0 ∨ y ≠ 0 := by omega
    clear h hx' hy' h0
    repeat (first | (refine A1 ⟨?_⟩; intros) | (refine Wcx (c1) ?_) | (refine Wdcx (c1) ?_) | (refine Wcgx (c1) ?_) | (refine Wdcgx (c1) ?_) | (refine Wcx (c2) ?_) | (refine Wdcx (c2) ?_) | (refine Wcgx (c2) ?_) | (refine Wdcgx (c2) ?_))
    exact endMR () _ (end1 (RV.cellA rfl (by (first | exact List.mem_cons_self | exact (List.mem_cons_of_mem _ List.mem_cons_self) | exact (List.mem_cons_of_mem _ (List.mem_cons_of_mem _ List.mem_cons_self)) | exact (List.mem_cons_of_mem _ (List.mem_cons_of_mem _ (List.mem_cons_of_mem _ List.mem_cons_self))) | exact (List.mem_cons_of_mem _ (List.mem_cons_of_mem _ (List.mem_cons_of_mem _ (List.mem_cons_of_mem _ List.mem_cons_self)))) | exact (List.mem_cons_of_mem _ (List.mem_cons_of_mem _ (List.mem_cons_of_mem _ (List.mem_cons_of_mem _ (List.mem_cons_of_mem _ List.mem_cons_self))))) | exact (List.mem_cons_of_mem _ (List.mem_cons_of_mem _ (List.mem_cons_of_mem _ (List.mem_cons_of_mem _ (List.mem_cons_of_mem _ (List.mem_cons_of_mem _ List.mem_cons_self)))))) | exact (List.mem_cons_of_mem _ (List.mem_cons_of_mem _ (List.mem_cons_of_mem _ (List.mem_cons_of_mem _ (List.mem_cons_of_mem _ (List.mem_cons_of_mem _ (List.mem_cons_of_mem _ List.mem_cons_self))))))))) rfl rfl) (Le.ex ⟨(x, y), ⟨hx, hy⟩, hv⟩ (Le.refl _))) (by (first | exact List.mem_cons_self | exact (List.mem_cons_of_mem _ List.mem_cons_self) | exact (List.mem_cons_of_mem _ (List.mem_cons_of_mem _ List.mem_cons_self)) | exact (List.mem_cons_of_mem _ (List.mem_cons_of_mem _ (List.mem_cons_of_mem _ List.mem_cons_self))) | exact (List.mem_cons_of_mem _ (List.mem_cons_of_mem _ (List.mem_cons_of_mem _ (List.mem_cons_of_mem _ List.mem_cons_self)))) | exact (List.mem_cons_of_mem _ (List.mem_cons_of_mem _ (List.mem_cons_of_mem _ (List.mem_cons_of_mem _ (List.mem_cons_of_mem _ List.mem_cons_self))))) | exact (List.mem_cons_of_mem _ (List.mem_cons_of_mem _ (List.mem_cons_of_mem _ (List.mem_cons_of_mem _ (List.mem_cons_of_mem _ (List.mem_cons_of_mem _ List.mem_cons_self)))))) | exact (List.mem_cons_of_mem _ (List.mem_cons_of_mem _ (List.mem_cons_of_mem _ (List.mem_cons_of_mem _ (List.mem_cons_of_mem _ (List.mem_cons_of_mem _ (List.mem_cons_of_mem _ List.mem_cons_self))))))))) (LeL.refl _)
end Go.Ab
