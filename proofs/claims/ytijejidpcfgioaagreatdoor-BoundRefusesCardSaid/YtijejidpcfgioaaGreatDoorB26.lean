/- Texts laid one behind the other: BndR, BndF, Open, RowKit, LaidKit, ExprOpen. -/
import Derived.Test.YtijejidpcfgioaaGreatDoorB25
import Derived.Test.YtijejidpcfgioaaGreatDoorB03
import Derived.ProofKit
import Derived.OpenShut
import Derived.ChangeOld
import Derived.Below
import Derived.OpenVars
import Derived.Deep.Slices
import Derived.Test.YtijejidpcfgioaaGreatDoorB13
import Derived.WalkKit
import Derived.Stop.LaidErr
import Derived.LaidMore
import Derived.Deep.DeepHandedRow
import Derived.Deep.DeepWitnessRowRef
import Derived.Test.YtijejidpcfgioaaGreatDoorB14
/- The reference's bounds of all parts, walked. -/
namespace Go.Ab
open Go.Proofs
set_option linter.unusedSectionVars false
set_option linter.unusedVariables false
set_option linter.unusedSimpArgs false
variable [Base]
/-- what the reference's Bounds gives -/
def rbR (o : Option (List Nat)) : SV → LH → Prop := fun r H' => match o with
  | none => (∃ i : Nat, i < 1000000 ∧ r = Ab.tup [lit (.slice none 0 0), lit (.int .i64 (i : Int))]) ∧ H' = []
  | some out => ∃ s, r = Ab.tup [s, lit (.int .i64 (-1))] ∧ Own itT 1 out.length (ints out) s H'
structure RSt where
  k : Nat
  vs : List Nat
  out : List Nat
  s2 : SV
  H2 : LH
def RSt.ok (ns : List Nd) (env : List UInt8 → Option Nat) (x : RSt) : Prop :=
  x.k ≤ ns.length ∧ x.out.length = x.k ∧ (∃ st, BS x.out st x.vs ∧ (stk (ns.drop x.k) x.k st).isSome = true) ∧ brun env (ns.drop x.k) x.vs x.out = brun env ns [] [] ∧
    Own itT 1 x.out.length (ints x.out) x.s2 x.H2 ∧ (∀ v ∈ x.vs, v ≤ 9223372036854775807)
theorem BS.head {out : List Nat} {st : List (Ex × Nat)} {v : Nat} {r : List Nat} (h : BS out st (v :: r)) : ∃ x j st', st = (x, j) :: st' ∧ out[j]? = some v ∧ BS out st' r := by
  cases h with
  | cons h k => exact ⟨_, _, _, rfl, h, k⟩
theorem stp_x {i : Nat} {n : Nd} {x : Ex} {j : Nat} {st st' : List (Ex × Nat)} (h5 : n.k = 5) (h : stp i n ((x, j) :: st) = some st') : n.x = (j : Nat) := by
  unfold stp at h
  split at h
  · simp only at h
    split at h
    · assumption
    · cases h
  · cases h
theorem stp_xy {i : Nat} {n : Nd} {x y : Ex} {j k : Nat} {st st' : List (Ex × Nat)} (h6 : n.k = 6) (h : stp i n ((y, k) :: (x, j) :: st) = some st') : n.x = (j : Nat) ∧ n.y = (k : Nat) := by
  unfold stp at h
  split at h
  · simp only [show ¬n.k = 5 by omega, if_false] at h
    split at h
    · assumption
    · cases h
  · cases h
theorem ints_at {out : List Nat} {j v c : Nat} (h : out[j]? = some v) : (ints out ++ List.replicate c top)[j]? = some (lit (.int .i64 (v : Int))) := by
  rw [List.getElem?_append_left (by rw [ints_len]; exact (List.getElem?_eq_some_iff.1 h).1)]
  unfold ints
  rw [List.getElem?_map, h]
  rfl
set_option maxHeartbeats 4000000 in
theorem rbounds_pu (ns : List Nd) {L : Nat} (hok : ∀ n ∈ ns, n.ok L) (hL : L ≤ 20) (hns : ns.length ≤ 30) {t : List UInt8} (ho : otx ns = some t) (names : List (List UInt8)) (hnl : names.length ≤ 1000000) (zs : List Int) (hl : names.length = zs.length) (hz : ∀ z ∈ zs, i64R z) :
    PuH Tryz.prog 23 [sl (ns.map ndx).flatten ns.length, sl (names.map str) names.length, nsl .i64 zs] [] (rbR (brun (envOf names zs) ns [] [])) noX := by
  generalize hB : brun (envOf names zs) ns [] [] = B
  refine PuH.intro Tryz.func23 rfl (by kernel_rfl) fun C hC => ?_
  repeat (refine A1 ⟨?_⟩; intros)
  refine WP.loopS (ι := RSt) (RSt.ok ns (envOf names zs)) (fun x => ns.length - x.k)
    (fun x => fm [(1, sl (names.map str) names.length), (2, nsl .i64 zs), (8, x.s2), (13, sl (ns.map ndx).flatten ns.length), (14, lit (.int .i64 ns.length)), (15, lit (.int .i64 x.k))])
    (fun x => x.H2) ⟨0, [], [], lit (.slice none 0 0), []⟩ ?_ (by (repeat (first | exact LeF.nil _ | refine LeF.cons (Le.refl _) ?_ | refine LeF.cons (Le.int (by omega)) ?_))) (List.nil_sublist _) ?_
  · refine ⟨Nat.zero_le _, rfl, ⟨[], .nil, ?_⟩, by rw [List.drop_zero], Own.nil _ _, (fun v h => by cases h)⟩
    rw [List.drop_zero]
    unfold otx at ho
    cases hs : stk ns 0 [] with
    | none => rw [hs] at ho; cases ho
    | some st => rfl
  rintro ⟨k, vs, out, s2, H2⟩ ⟨hk, hol, ⟨st, hbs, hst⟩, hrun, hown2, hv1⟩ K hK
  simp only at hk hol hbs hst hrun hown2 hv1
  simp only
  clear ho
  by_cases hkl : k < ns.length
  · have hget := List.getElem?_eq_getElem hkl
    have hdrop := List.drop_eq_getElem_cons hkl
    generalize ns[k] = nd at hget hdrop
    have hat := flat_at (f := ndx) (n := 19) ndx_len hget
    have hne : (ns.map ndx).flatten ≠ [] := flat_ne ndx_len (by omega) (fun e => by rw [e] at hkl; simp at hkl)
    rw [hdrop] at hst hrun
    rw [stk_cons] at hst
    cases hs : stp k nd st with
    | none => rw [hs] at hst; cases hst
    | some st' =>
    rw [hs] at hst
    simp only at hst
    have hstep := bstep_stk (env := envOf names zs) hs hbs hol
    rw [brun_cons] at hrun
    have hcont : ∀ v r s2' H2' F' H', bstep (envOf names zs) nd vs = some (v, r) → v ≤ 9223372036854775807 → (∀ u ∈ r, u ≤ 9223372036854775807) → Own itT 1 (out.length + 1) (ints out ++ [lit (.int .i64 (v : Int))]) s2' H2' →
        LeF F' (fm [(1, sl (names.map str) names.length), (2, nsl .i64 zs), (8, s2'), (13, sl (ns.map ndx).flatten ns.length), (14, lit (.int .i64 ns.length)), (15, lit (.int .i64 (k + 1 : Nat)))]) → H2'.Sublist H' → K F' H' := by
      intro v r s2' H2' F' H' hb hv hr h2 hF hH
      rw [hb] at hstep hrun
      simp only at hstep hrun
      refine hK F' H' ⟨k + 1, v :: r, out ++ [v], s2', H2'⟩ ⟨by simp only; omega, by simp only [List.length_append, List.length_singleton]; omega, ⟨st', hstep, hst⟩, hrun, ?_, ?_⟩ (by simp only; omega) hF hH
      · simp only [List.length_append, List.length_singleton, ints, List.map_append, List.map_cons, List.map_nil]; exact h2
      · intro u hu
        rcases List.mem_cons.1 hu with rfl | hu
        · exact hv
        · exact hr u hu
    clear hK
    have hkr : 1 ≤ nd.k ∧ nd.k ≤ 6 := by
      unfold stp at hs
      split at hs
      · rename_i e; exact (okN_k e).1
      · cases hs
    obtain ⟨hk1, hk6⟩ := hkr
    have hco2 := hown2.co
    rw [show H2 = H2 ++ [] from (List.append_nil H2).symm]
    by_cases k1 : nd.k = 1
    · have hnl1 : nd.nm.length ≤ 100 := (hok nd (List.mem_of_getElem? hget)).nm
      have cx := rfind_pu names nd.nm (by omega)
      rcases fpos_lt names nd.nm with ⟨hf, hf'⟩ | ⟨i, hf, hi⟩
      · have hbs' : bstep (envOf names zs) nd vs = none := by unfold bstep envOf; rw [if_pos k1, if_pos hf]
        rw [hbs'] at hrun
        simp only at hrun
        have hB' : B = none := by rw [← hB, ← hrun]
        subst hB'
        rw [hf'] at cx
        clear hstep hrun hv1 hs hst hbs' hbs hdrop hget hcont hB
        repeat (refine A1 ⟨?_⟩; intros)
        refine Wo (ov_idxS (cs' := ndx nd) rfl rfl (by omega) (by omega) hat hne) ?_
        repeat (first | (refine A1 ⟨?_⟩; intros) | (refine Wcx (cx) ?_) | (refine Wdcx (cx) ?_) | (refine Wcgx (cx) ?_) | (refine Wdcgx (cx) ?_))
        exact endHR _ [] (end2 (RV.tmp rfl) (RV.tmp rfl) (Le.refl _)) (List.nil_sublist _) ⟨⟨k, by omega, rfl⟩, rfl⟩
      · have hz1 := hz (zs.getD i 0) (by rw [List.getD, List.getElem?_eq_getElem (by omega)]; exact List.getElem_mem (by omega))
        have hbs' : bstep (envOf names zs) nd vs = some ((zs.getD i 0).toNat, vs) := by unfold bstep envOf; rw [if_pos k1, hf, if_neg (by omega)]; rfl
        obtain ⟨z1, z2⟩ := hz1
        have cx2 : i < zs.length := by omega
        rw [hf] at cx
        replace hcont := fun s2' H2' F' H' => hcont _ vs s2' H2' F' H' hbs' (by omega) hv1
        clear hstep hrun hv1 hs hst hbs' hbs hdrop hget hf
        obtain ⟨z, hzz⟩ : ∃ z, zs.getD i 0 = z := ⟨_, rfl⟩
        rw [hzz] at z1 z2 hcont
        repeat (refine A1 ⟨?_⟩; intros)
        refine Wo (ov_idxS (cs' := ndx nd) rfl rfl (by omega) (by omega) hat hne) ?_
        repeat (first | (refine A1 ⟨?_⟩; intros) | (refine Wcx (cx) ?_) | (refine Wdcx (cx) ?_) | (refine Wcgx (cx) ?_) | (refine Wdcgx (cx) ?_))
        rw [hzz]
        refine Wo (ov_max rfl rfl (r := ((z.toNat : Nat) : Int)) (by rw [if_max]; omega)) ?_
        repeat (refine A1 ⟨?_⟩; intros)
        rename_i bE b9
        refine WownP hown2 (perm3 [(b9, _, _), (bE, _, _)] H2 []) (by omega) (fun s2' H2' hown2' => ?_) (List.mem_append_left _ List.mem_cons_self)
        have hco2' := hown2'.co
        repeat (refine A1 ⟨?_⟩; intros)
        exact hcont s2' H2' _ _ hown2' (by (repeat (first | exact LeF.nil _ | refine LeF.cons (Le.refl _) ?_ | refine LeF.cons (Le.int (by omega)) ?_))) (List.sublist_append_left _ _)
    by_cases k4 : nd.k = 4
    · have hbs' : bstep (envOf names zs) nd vs = some (1, vs) := by unfold bstep; rw [if_neg k1, if_pos k4]
      replace hcont := fun s2' H2' F' H' => hcont 1 vs s2' H2' F' H' hbs' (by omega) hv1
      clear hstep hrun hv1 hs hst hbs' hbs hdrop hget
      repeat (refine A1 ⟨?_⟩; intros)
      refine Wo (ov_idxS (cs' := ndx nd) rfl rfl (by omega) (by omega) hat hne) ?_
      repeat (refine A1 ⟨?_⟩; intros)
      rename_i bE b9
      refine WownP hown2 (perm3 [(b9, _, _), (bE, _, _)] H2 []) (by omega) (fun s2' H2' hown2' => ?_) (List.mem_append_left _ List.mem_cons_self)
      have hco2' := hown2'.co
      repeat (refine A1 ⟨?_⟩; intros)
      exact hcont s2' H2' _ _ hown2' (by (repeat (first | exact LeF.nil _ | refine LeF.cons (Le.refl _) ?_ | refine LeF.cons (Le.int (by omega)) ?_))) (List.sublist_append_left _ _)
    by_cases k5 : nd.k = 5
    · cases vs with
      | nil =>
        have : bstep (envOf names zs) nd [] = none := by unfold bstep; rw [if_neg k1, if_neg k4, if_pos k5]
        rw [this] at hstep
        exact absurd hstep.1 k1
      | cons v r =>
      have hbs' : bstep (envOf names zs) nd (v :: r) = some (v, r) := by unfold bstep; rw [if_neg k1, if_neg k4, if_pos k5]
      have hvm := hv1 v (by simp)
      replace hcont := fun s2' H2' F' H' => hcont v r s2' H2' F' H' hbs' hvm (fun u hu => hv1 u (by simp [hu]))
      obtain ⟨x, j, st1, rfl, hj, _⟩ := hbs.head
      have hx := stp_x k5 hs
      have hjl := (List.getElem?_eq_some_iff.1 hj).1
      obtain ⟨b1, c1, hnc, hcm, rfl, rfl⟩ := hown2.blk (by omega)
      have hgt := ints_at (c := c1 * 1 - out.length * 1) hj
      clear hstep hrun hv1 hs hst hbs' hbs hdrop hget hj
      simp only [List.cons_append, List.nil_append, List.append_nil]
      repeat (refine A1 ⟨?_⟩; intros)
      refine Wo (ov_idxS (cs' := ndx nd) rfl rfl (by omega) (by omega) hat hne) ?_
      repeat (refine A1 ⟨?_⟩; intros)
      rw [show nd.x.toNat * 1 = j by omega]
      refine Wo (ov_loadL rfl (by (first | exact List.mem_cons_self | exact (List.mem_cons_of_mem _ List.mem_cons_self) | exact (List.mem_cons_of_mem _ (List.mem_cons_of_mem _ List.mem_cons_self)) | exact (List.mem_cons_of_mem _ (List.mem_cons_of_mem _ (List.mem_cons_of_mem _ List.mem_cons_self))) | exact (List.mem_cons_of_mem _ (List.mem_cons_of_mem _ (List.mem_cons_of_mem _ (List.mem_cons_of_mem _ List.mem_cons_self)))) | exact (List.mem_cons_of_mem _ (List.mem_cons_of_mem _ (List.mem_cons_of_mem _ (List.mem_cons_of_mem _ (List.mem_cons_of_mem _ List.mem_cons_self))))) | exact (List.mem_cons_of_mem _ (List.mem_cons_of_mem _ (List.mem_cons_of_mem _ (List.mem_cons_of_mem _ (List.mem_cons_of_mem _ (List.mem_cons_of_mem _ List.mem_cons_self)))))) | exact (List.mem_cons_of_mem _ (List.mem_cons_of_mem _ (List.mem_cons_of_mem _ (List.mem_cons_of_mem _ (List.mem_cons_of_mem _ (List.mem_cons_of_mem _ (List.mem_cons_of_mem _ List.mem_cons_self))))))))) hgt) ?_
      repeat (refine A1 ⟨?_⟩; intros)
      rename_i bE b9
      refine WownP hown2 (perm3 [(b9, _, _), (bE, _, _)] [(b1, _, _)] []) (by omega) (fun s2' H2' hown2' => ?_) (List.mem_append_left _ List.mem_cons_self)
      have hco2' := hown2'.co
      repeat (refine A1 ⟨?_⟩; intros)
      exact hcont s2' H2' _ _ hown2' (by (repeat (first | exact LeF.nil _ | refine LeF.cons (Le.refl _) ?_ | refine LeF.cons (Le.int (by omega)) ?_))) (List.sublist_append_left _ _)
    by_cases k6 : nd.k = 6
    · cases vs with
      | nil =>
        have : bstep (envOf names zs) nd [] = none := by unfold bstep; rw [if_neg k1, if_neg k4, if_neg k5, if_pos k6]
        rw [this] at hstep
        exact absurd hstep.1 k1
      | cons v vs1 =>
      cases vs1 with
      | nil =>
        have : bstep (envOf names zs) nd [v] = none := by unfold bstep; rw [if_neg k1, if_neg k4, if_neg k5, if_pos k6]
        rw [this] at hstep
        exact absurd hstep.1 k1
      | cons u r =>
      have hbs' : bstep (envOf names zs) nd (v :: u :: r) = some (bnd u v, r) := by unfold bstep; rw [if_neg k1, if_neg k4, if_neg k5, if_pos k6]
      have hvm := hv1 v (by simp)
      have hum := hv1 u (by simp)
      have hbm : bnd u v ≤ 9223372036854775807 := bnd_le u v
      replace hcont := fun s2' H2' F' H' => hcont (bnd u v) r s2' H2' F' H' hbs' hbm (fun x hx => hv1 x (by simp [hx]))
      have cm := rbound_pu u v ⟨by omega, by omega⟩ ⟨by omega, by omega⟩
      rw [Int.toNat_natCast, Int.toNat_natCast] at cm
      generalize bnd u v = q at *
      obtain ⟨y, jy, st1, rfl, hjy, hbs1⟩ := hbs.head
      obtain ⟨x, jx, st2, rfl, hjx, _⟩ := hbs1.head
      obtain ⟨hx, hy⟩ := stp_xy k6 hs
      have hjl := (List.getElem?_eq_some_iff.1 hjy).1
      have hjl2 := (List.getElem?_eq_some_iff.1 hjx).1
      obtain ⟨b1, c1, hnc, hcm, rfl, rfl⟩ := hown2.blk (by omega)
      have hgt := ints_at (c := c1 * 1 - out.length * 1) hjx
      have hgt2 := ints_at (c := c1 * 1 - out.length * 1) hjy
      clear hstep hrun hv1 hs hst hbs' hbs hdrop hget hjx hjy hbs1
      simp only [List.cons_append, List.nil_append, List.append_nil]
      repeat (refine A1 ⟨?_⟩; intros)
      refine Wo (ov_idxS (cs' := ndx nd) rfl rfl (by omega) (by omega) hat hne) ?_
      repeat (first | (refine A1 ⟨?_⟩; intros) | (refine Wcx (cm) ?_) | (refine Wdcx (cm) ?_) | (refine Wcgx (cm) ?_) | (refine Wdcgx (cm) ?_))
      rw [show nd.x.toNat * 1 = jx by omega]
      refine Wdo (ov_loadL rfl (by (first | exact List.mem_cons_self | exact (List.mem_cons_of_mem _ List.mem_cons_self) | exact (List.mem_cons_of_mem _ (List.mem_cons_of_mem _ List.mem_cons_self)) | exact (List.mem_cons_of_mem _ (List.mem_cons_of_mem _ (List.mem_cons_of_mem _ List.mem_cons_self))) | exact (List.mem_cons_of_mem _ (List.mem_cons_of_mem _ (List.mem_cons_of_mem _ (List.mem_cons_of_mem _ List.mem_cons_self)))) | exact (List.mem_cons_of_mem _ (List.mem_cons_of_mem _ (List.mem_cons_of_mem _ (List.mem_cons_of_mem _ (List.mem_cons_of_mem _ List.mem_cons_self))))) | exact (List.mem_cons_of_mem _ (List.mem_cons_of_mem _ (List.mem_cons_of_mem _ (List.mem_cons_of_mem _ (List.mem_cons_of_mem _ (List.mem_cons_of_mem _ List.mem_cons_self)))))) | exact (List.mem_cons_of_mem _ (List.mem_cons_of_mem _ (List.mem_cons_of_mem _ (List.mem_cons_of_mem _ (List.mem_cons_of_mem _ (List.mem_cons_of_mem _ (List.mem_cons_of_mem _ List.mem_cons_self))))))))) hgt) ?_
      repeat (first | (refine A1 ⟨?_⟩; intros) | (refine Wcx (cm) ?_) | (refine Wdcx (cm) ?_) | (refine Wcgx (cm) ?_) | (refine Wdcgx (cm) ?_))
      rw [show nd.y.toNat * 1 = jy by omega]
      refine Wdo (ov_loadL rfl (by (first | exact List.mem_cons_self | exact (List.mem_cons_of_mem _ List.mem_cons_self) | exact (List.mem_cons_of_mem _ (List.mem_cons_of_mem _ List.mem_cons_self)) | exact (List.mem_cons_of_mem _ (List.mem_cons_of_mem _ (List.mem_cons_of_mem _ List.mem_cons_self))) | exact (List.mem_cons_of_mem _ (List.mem_cons_of_mem _ (List.mem_cons_of_mem _ (List.mem_cons_of_mem _ List.mem_cons_self)))) | exact (List.mem_cons_of_mem _ (List.mem_cons_of_mem _ (List.mem_cons_of_mem _ (List.mem_cons_of_mem _ (List.mem_cons_of_mem _ List.mem_cons_self))))) | exact (List.mem_cons_of_mem _ (List.mem_cons_of_mem _ (List.mem_cons_of_mem _ (List.mem_cons_of_mem _ (List.mem_cons_of_mem _ (List.mem_cons_of_mem _ List.mem_cons_self)))))) | exact (List.mem_cons_of_mem _ (List.mem_cons_of_mem _ (List.mem_cons_of_mem _ (List.mem_cons_of_mem _ (List.mem_cons_of_mem _ (List.mem_cons_of_mem _ (List.mem_cons_of_mem _ List.mem_cons_self))))))))) hgt2) ?_
      repeat (first | (refine A1 ⟨?_⟩; intros) | (refine Wcx (cm) ?_) | (refine Wdcx (cm) ?_) | (refine Wcgx (cm) ?_) | (refine Wdcgx (cm) ?_))
      rename_i bE b9
      refine WownP hown2 (perm3 [(b9, _, _), (bE, _, _)] [(b1, _, _)] []) (by omega) (fun s2' H2' hown2' => ?_) (List.mem_append_left _ List.mem_cons_self)
      have hco2' := hown2'.co
      repeat (refine A1 ⟨?_⟩; intros)
      exact hcont s2' H2' _ _ hown2' (by (repeat (first | exact LeF.nil _ | refine LeF.cons (Le.refl _) ?_ | refine LeF.cons (Le.int (by omega)) ?_))) (List.sublist_append_left _ _)
    have hbs' : bstep (envOf names zs) nd vs = some (0, vs) := by unfold bstep; rw [if_neg k1, if_neg k4, if_neg k5, if_neg k6]
    replace hcont := fun s2' H2' F' H' => hcont 0 vs s2' H2' F' H' hbs' (by omega) hv1
    clear hstep hrun hv1 hs hst hbs' hbs hdrop hget
    repeat (refine A1 ⟨?_⟩; intros)
    refine Wo (ov_idxS (cs' := ndx nd) rfl rfl (by omega) (by omega) hat hne) ?_
    repeat (refine A1 ⟨?_⟩; intros)
    rename_i bE b9
    refine WownP hown2 (perm3 [(b9, _, _), (bE, _, _)] H2 []) (by omega) (fun s2' H2' hown2' => ?_) (List.mem_append_left _ List.mem_cons_self)
    have hco2' := hown2'.co
    repeat (refine A1 ⟨?_⟩; intros)
    exact hcont s2' H2' _ _ hown2' (by (repeat (first | exact LeF.nil _ | refine LeF.cons (Le.refl _) ?_ | refine LeF.cons (Le.int (by omega)) ?_))) (List.sublist_append_left _ _)
  · obtain rfl : k = ns.length := by omega
    rw [List.drop_length] at hrun
    have hB' : B = some out := by rw [← hB, ← hrun]; rfl
    have hco2 := hown2.co
    clear hK hrun hB
    subst hB'
    repeat (refine A1 ⟨?_⟩; intros)
    exact endHR _ H2 (end2 (RV.tmp rfl) (RV.tmp rfl) (Le.refl _)) (List.Sublist.refl _) ⟨s2, rfl, hown2⟩
end Go.Ab
/- The law BoundRefuses, walked. -/
namespace Go.Ab
open Go.Proofs
set_option linter.unusedSectionVars false
set_option linter.unusedVariables false
set_option linter.unusedSimpArgs false
variable [Base]
def ab1 (more : Bool) : List (List UInt8) := if more = true then [[97], [98]] else [[97]]
theorem i64_2 : ∀ z ∈ [(2 : Int)], i64R z := by
  intro z hz
  simp only [List.mem_cons, List.not_mem_nil, or_false] at hz
  unfold i64R
  omega
set_option maxHeartbeats 4000000 in
theorem brefuses_pu [Sent 0] [Sent 1] [Sent 5] [Sent 4] (ns : List Nd) (hlen : ns.length ≤ 9223372036854775807) (hD : ∀ n ∈ ns, (D n.a.n ∧ D n.a.d) ∧ (D n.b.n ∧ D n.b.d) ∧ (D n.c.n ∧ D n.c.d) ∧ (D n.e.n ∧ D n.e.d)) (hnm : ∀ n ∈ ns, n.nm.length ≤ 9223372036854775807) (more : Bool) :
    Pu Tryz.prog 5 [sl (ns.map ndx).flatten ns.length, lit (.bool more)] (lit (.bool true)) := by
  have kn := known31
  by_cases h12 : ns.length ≤ 8
  case neg =>
    refine Pu.intro Tryz.func5 rfl (by kernel_rfl) fun C => ?_
    repeat (first | (refine A1 ⟨?_⟩; intros) | (refine Wcx (kn) ?_) | (refine Wdcx (kn) ?_) | (refine Wcgx (kn) ?_) | (refine Wdcgx (kn) ?_))
    ((first | refine endR ?_ | refine endN ?_); exact end1 (RV.tmp rfl) (Le.refl _))
  refine Pu.intro Tryz.func5 rfl (by kernel_rfl) fun C => ?_
  repeat (refine A1 ⟨?_⟩; intros)
  refine WP.loopS (ι := Nat) (fun k => k ≤ ns.length ∧ ∀ n ∈ ns.take k, n.ok 4) (fun k => ns.length - k)
    (fun k => fm [(0, sl (ns.map ndx).flatten ns.length), (1, lit (.bool more)), (20, sl (ns.map ndx).flatten ns.length), (21, lit (.int .i64 ns.length)), (22, lit (.int .i64 k))])
    (fun _ => []) 0 ⟨Nat.zero_le _, by simp⟩ (by (repeat (first | exact LeF.nil _ | refine LeF.cons (Le.refl _) ?_ | refine LeF.cons (Le.int (by omega)) ?_))) (List.nil_sublist _) ?_
  rintro k ⟨hk, hok⟩ K hK
  by_cases hkl : k < ns.length
  · have hget := List.getElem?_eq_getElem hkl
    generalize ns[k] = n at hget
    have hmem : n ∈ ns := List.mem_of_getElem? hget
    have hat := flat_at (f := ndx) (n := 19) ndx_len hget
    have hne : (ns.map ndx).flatten ≠ [] := flat_ne ndx_len (by omega) (fun e => by rw [e] at hkl; simp at hkl)
    obtain ⟨d1, d2, d3, d4⟩ := hD n hmem
    have hn1 := hnm n hmem
    by_cases h40 : n.nm.length ≤ 40
    case neg =>
      clear hK hok hD hnm
      repeat (refine A1 ⟨?_⟩; intros)
      refine Wo (ov_idxS (cs' := ndx n) rfl rfl (by omega) (by omega) hat hne) ?_
      repeat (first | (refine A1 ⟨?_⟩; intros) | (refine Wcx (kn) ?_) | (refine Wdcx (kn) ?_) | (refine Wcgx (kn) ?_) | (refine Wdcgx (kn) ?_))
      ((first | refine endR ?_ | refine endN ?_); exact end1 (RV.tmp rfl) (Le.refl _))
    by_cases hsm : ∀ p ∈ [(n.a, n.b), (n.c, n.e)], p.1.short 4 ∧ p.2.short 4
    case neg =>
      have c := smallP_f 4 (by omega) [(n.a, n.b), (n.c, n.e)] (by simp) hsm
      clear hK hok hD hnm hsm
      repeat (refine A1 ⟨?_⟩; intros)
      refine Wo (ov_idxS (cs' := ndx n) rfl rfl (by omega) (by omega) hat hne) ?_
      repeat (refine A1 ⟨?_⟩; intros)
      refine WgE ?_
      refine Sl ?_
      refine Wl fun _ => ?_
      refine WpubS 35 rfl (HDel.here _) (by omega) (by omega) ?_
      refine Wcgx c ?_
      repeat (first | (refine A1 ⟨?_⟩; intros) | (refine Wcx (kn) ?_) | (refine Wdcx (kn) ?_) | (refine Wcgx (kn) ?_) | (refine Wdcgx (kn) ?_))
      ((first | refine endR ?_ | refine endN ?_); exact end1 (RV.tmp rfl) (Le.refl _))
    have c := smallP_t 4 (by omega) [(n.a, n.b), (n.c, n.e)] (by simp) hsm
    obtain ⟨s1, s2⟩ := hsm (n.a, n.b) (by simp)
    obtain ⟨s3, s4⟩ := hsm (n.c, n.e) (by simp)
    have hn : n.ok 4 := ⟨⟨d1.1, d1.2, s1.1, s1.2⟩, ⟨d2.1, d2.2, s2.1, s2.2⟩, ⟨d3.1, d3.2, s3.1, s3.2⟩, ⟨d4.1, d4.2, s4.1, s4.2⟩, by omega⟩
    have hgo : ∀ F' H', LeF F' (fm [(0, sl (ns.map ndx).flatten ns.length), (1, lit (.bool more)), (20, sl (ns.map ndx).flatten ns.length), (21, lit (.int .i64 ns.length)), (22, lit (.int .i64 (k + 1 : Nat)))]) → K F' H' := fun F' H' h =>
      hK F' H' (k + 1) ⟨by omega, fun x hx => by
        rw [List.take_add_one, hget] at hx
        rcases List.mem_append.1 hx with h | h
        · exact hok x h
        · simp at h; subst h; exact hn⟩ (by omega) h (List.nil_sublist _)
    clear hK hok hD hnm hsm
    repeat (refine A1 ⟨?_⟩; intros)
    refine Wo (ov_idxS (cs' := ndx n) rfl rfl (by omega) (by omega) hat hne) ?_
    repeat (refine A1 ⟨?_⟩; intros)
    refine WgE ?_
    refine Sl ?_
    refine Wl fun _ => ?_
    refine WpubS 35 rfl (HDel.here _) (by omega) (by omega) ?_
    refine Wcgx c ?_
    repeat (refine A1 ⟨?_⟩; intros)
    exact hgo _ _ (by (repeat (first | exact LeF.nil _ | refine LeF.cons (Le.refl _) ?_ | refine LeF.cons (Le.int (by omega)) ?_)))
  · have hke : k = ns.length := by omega
    subst hke
    rw [List.take_length] at hok
    have c1 := bexpr_pu ns hok (by omega) (by omega) (ab1 more) (by cases more <;> decide) [2] (by decide) i64_2
    have c2 := bpeak_pu ns hok (by omega) (by omega) (ab1 more) (by cases more <;> decide) [2] (by decide) i64_2
    have c3 := rExpr_pu ns hok (by omega) (by omega)
    have ci := is_pu 0
    cases more with
    | true =>
      have ha : allB ns (ab1 true) [2] = none := if_pos (.inr (by decide))
      rw [ha] at c1 c2
      unfold exR at c1
      unfold pkR at c2
      simp only at c1 c2
      clear hK hD hnm
      cases ho : otx ns with
      | none =>
        rw [ho] at c3
        unfold rans at c3
        simp only at c3
        repeat (refine AS ⟨?_⟩; intros)
        (refine O1 ⟨?_⟩; intros)
        repeat (refine AS ⟨?_⟩; intros)
        refine Sl ?_
        refine Wl fun b0 => ?_
        (refine O1 ⟨?_⟩; intros)
        repeat (refine AS ⟨?_⟩; intros)
        (refine O1 ⟨?_⟩; intros)
        repeat (refine AS ⟨?_⟩; intros)
        (refine O1 ⟨?_⟩; intros)
        refine Sl ?_
        refine Wl fun b1 => ?_
        have hown0 : Own 9 1 1 [str [97]] (lit (.slice (some ⟨b0, 0, none⟩) 1 1)) [(b0, 9, [str [97]])] := ⟨rfl, .inr ⟨b0, 1, Nat.le_refl _, by decide, rfl, rfl⟩⟩
        refine Wown hown0 (by omega) (fun s' H' hown' => ?_)
        obtain ⟨b2, c2', hnc, hcm, rfl, rfl⟩ := hown'.blk (by omega)
        simp only [List.cons_append, List.nil_append]
        (refine O1 ⟨?_⟩; intros)
        repeat (refine AS ⟨?_⟩; intros)
        refine WPL.pub (d := 7) (s' := sl ((ab1 true).map str) (ab1 true).length) (HDel.there _ (HDel.here _)) rfl (fun m arr h1 h2 => pub_ownL h1 h2 hnc hcm) ?_
        repeat (refine A1 ⟨?_⟩; intros)
        refine WpubS 49 rfl (HDel.here _) (by omega) (by omega) ?_
        refine WPL.low 49 rfl (s' := nsl .i64 [2]) (Le.of_eq (by unfold nsl; rfl)) ?_
        refine Wcx c1 ?_
        repeat (refine A1 ⟨?_⟩; intros)
        refine WpubS 56 rfl (HDel.here _) (by omega) (by omega) ?_
        refine WPL.low 56 rfl (s' := nsl .i64 [2]) (Le.of_eq (by unfold nsl; rfl)) ?_
        refine Wcx c2 ?_
        repeat (first | (refine A1 ⟨?_⟩; intros) | (refine Wcx (c3) ?_) | (refine Wdcx (c3) ?_) | (refine Wcgx (c3) ?_) | (refine Wdcgx (c3) ?_) | (refine Wcx (kn) ?_) | (refine Wdcx (kn) ?_) | (refine Wcgx (kn) ?_) | (refine Wdcgx (kn) ?_) | (refine Wcx (ci) ?_) | (refine Wdcx (ci) ?_) | (refine Wcgx (ci) ?_) | (refine Wdcgx (ci) ?_))
        ((first | refine endR ?_ | refine endN ?_); exact end1 (RV.tmp rfl) (Le.refl _))
      | some t =>
        rw [ho] at c3
        unfold rans at c3
        simp only at c3
        repeat (refine AS ⟨?_⟩; intros)
        (refine O1 ⟨?_⟩; intros)
        repeat (refine AS ⟨?_⟩; intros)
        refine Sl ?_
        refine Wl fun b0 => ?_
        (refine O1 ⟨?_⟩; intros)
        repeat (refine AS ⟨?_⟩; intros)
        (refine O1 ⟨?_⟩; intros)
        repeat (refine AS ⟨?_⟩; intros)
        (refine O1 ⟨?_⟩; intros)
        refine Sl ?_
        refine Wl fun b1 => ?_
        have hown0 : Own 9 1 1 [str [97]] (lit (.slice (some ⟨b0, 0, none⟩) 1 1)) [(b0, 9, [str [97]])] := ⟨rfl, .inr ⟨b0, 1, Nat.le_refl _, by decide, rfl, rfl⟩⟩
        refine Wown hown0 (by omega) (fun s' H' hown' => ?_)
        obtain ⟨b2, c2', hnc, hcm, rfl, rfl⟩ := hown'.blk (by omega)
        simp only [List.cons_append, List.nil_append]
        (refine O1 ⟨?_⟩; intros)
        repeat (refine AS ⟨?_⟩; intros)
        refine WPL.pub (d := 7) (s' := sl ((ab1 true).map str) (ab1 true).length) (HDel.there _ (HDel.here _)) rfl (fun m arr h1 h2 => pub_ownL h1 h2 hnc hcm) ?_
        repeat (refine A1 ⟨?_⟩; intros)
        refine WpubS 49 rfl (HDel.here _) (by omega) (by omega) ?_
        refine WPL.low 49 rfl (s' := nsl .i64 [2]) (Le.of_eq (by unfold nsl; rfl)) ?_
        refine Wcx c1 ?_
        repeat (refine A1 ⟨?_⟩; intros)
        refine WpubS 56 rfl (HDel.here _) (by omega) (by omega) ?_
        refine WPL.low 56 rfl (s' := nsl .i64 [2]) (Le.of_eq (by unfold nsl; rfl)) ?_
        refine Wcx c2 ?_
        repeat (first | (refine A1 ⟨?_⟩; intros) | (refine Wcx (c3) ?_) | (refine Wdcx (c3) ?_) | (refine Wcgx (c3) ?_) | (refine Wdcgx (c3) ?_) | (refine Wcx (kn) ?_) | (refine Wdcx (kn) ?_) | (refine Wcgx (kn) ?_) | (refine Wdcgx (kn) ?_) | (refine Wcx (ci) ?_) | (refine Wdcx (ci) ?_) | (refine Wcgx (ci) ?_) | (refine Wdcgx (ci) ?_))
        ((first | refine endR ?_ | refine endN ?_); exact end1 (RV.tmp rfl) (Le.refl _))
    | false =>
      clear hK hD hnm
      cases ho : otx ns with
      | none =>
        have ha : allB ns (ab1 false) [2] = none := if_pos (.inl ho)
        rw [ha] at c1 c2
        unfold exR at c1
        unfold pkR at c2
        rw [ho] at c3
        unfold rans at c3
        simp only at c1 c2 c3
        repeat (refine AS ⟨?_⟩; intros)
        (refine O1 ⟨?_⟩; intros)
        repeat (refine AS ⟨?_⟩; intros)
        refine Sl ?_
        refine Wl fun b0 => ?_
        (refine O1 ⟨?_⟩; intros)
        repeat (refine AS ⟨?_⟩; intros)
        (refine O1 ⟨?_⟩; intros)
        repeat (refine AS ⟨?_⟩; intros)
        refine WpubS 7 rfl (HDel.here _) (by omega) (by omega) ?_
        repeat (refine A1 ⟨?_⟩; intros)
        refine WpubS 49 rfl (HDel.here _) (by omega) (by omega) ?_
        refine WPL.low 49 rfl (s' := nsl .i64 [2]) (Le.of_eq (by unfold nsl; rfl)) ?_
        refine Wcx c1 ?_
        repeat (refine A1 ⟨?_⟩; intros)
        refine WpubS 56 rfl (HDel.here _) (by omega) (by omega) ?_
        refine WPL.low 56 rfl (s' := nsl .i64 [2]) (Le.of_eq (by unfold nsl; rfl)) ?_
        refine Wcx c2 ?_
        repeat (first | (refine A1 ⟨?_⟩; intros) | (refine Wcx (c3) ?_) | (refine Wdcx (c3) ?_) | (refine Wcgx (c3) ?_) | (refine Wdcgx (c3) ?_) | (refine Wcx (kn) ?_) | (refine Wdcx (kn) ?_) | (refine Wcgx (kn) ?_) | (refine Wdcgx (kn) ?_) | (refine Wcx (ci) ?_) | (refine Wdcx (ci) ?_) | (refine Wcgx (ci) ?_) | (refine Wdcgx (ci) ?_))
        ((first | refine endR ?_ | refine endN ?_); exact end1 (RV.tmp rfl) (Le.refl _))
      | some t =>
        have c4 := rbounds_pu ns hok (by omega) (by omega) ho (ab1 false) (by decide) [2] (by decide) i64_2
        have ha : allB ns (ab1 false) [2] = some (brun (envOf (ab1 false) [2]) ns [] []) := if_neg (by rw [ho]; simp [ab1])
        have hout := fun out h => allB_out (out := out) i64_2 (ha.trans (congrArg some h))
        rw [ha] at c1 c2
        rw [ho] at c3
        unfold rans at c3
        simp only at c3
        cases hb : brun (envOf (ab1 false) [2]) ns [] [] with
        | none =>
          rw [hb] at c1 c2 c4
          unfold exR at c1
          unfold pkR at c2
          simp only at c1 c2
          repeat (refine AS ⟨?_⟩; intros)
          (refine O1 ⟨?_⟩; intros)
          repeat (refine AS ⟨?_⟩; intros)
          refine Sl ?_
          refine Wl fun b0 => ?_
          (refine O1 ⟨?_⟩; intros)
          repeat (refine AS ⟨?_⟩; intros)
          (refine O1 ⟨?_⟩; intros)
          repeat (refine AS ⟨?_⟩; intros)
          refine WpubS 7 rfl (HDel.here _) (by omega) (by omega) ?_
          repeat (refine A1 ⟨?_⟩; intros)
          refine WpubS 49 rfl (HDel.here _) (by omega) (by omega) ?_
          refine WPL.low 49 rfl (s' := nsl .i64 [2]) (Le.of_eq (by unfold nsl; rfl)) ?_
          refine Wcx c1 ?_
          repeat (refine A1 ⟨?_⟩; intros)
          refine WpubS 56 rfl (HDel.here _) (by omega) (by omega) ?_
          refine WPL.low 56 rfl (s' := nsl .i64 [2]) (Le.of_eq (by unfold nsl; rfl)) ?_
          refine Wcx c2 ?_
          repeat (first | (refine A1 ⟨?_⟩; intros) | (refine Wcx (c3) ?_) | (refine Wdcx (c3) ?_) | (refine Wcgx (c3) ?_) | (refine Wdcgx (c3) ?_))
          refine WpubS 88 rfl (HDel.here _) (by omega) (by omega) ?_
          refine WPL.low 88 rfl (s' := nsl .i64 [2]) (Le.of_eq (by unfold nsl; rfl)) ?_
          refine WfT c4 ?_
          rintro _ _ ⟨⟨i, hi, rfl⟩, rfl⟩
          repeat (first | (refine A1 ⟨?_⟩; intros) | (refine Wcx (kn) ?_) | (refine Wdcx (kn) ?_) | (refine Wcgx (kn) ?_) | (refine Wdcgx (kn) ?_))
          ((first | refine endR ?_ | refine endN ?_); exact end1 (RV.tmp rfl) (Le.refl _))
        | some out =>
          obtain ⟨o1, o2, o3⟩ := hout out hb
          rw [hb] at c1 c2 c4
          unfold exR at c1
          unfold pkR at c2
          simp only at c1 c2
          repeat (refine AS ⟨?_⟩; intros)
          (refine O1 ⟨?_⟩; intros)
          repeat (refine AS ⟨?_⟩; intros)
          refine Sl ?_
          refine Wl fun b0 => ?_
          (refine O1 ⟨?_⟩; intros)
          repeat (refine AS ⟨?_⟩; intros)
          (refine O1 ⟨?_⟩; intros)
          repeat (refine AS ⟨?_⟩; intros)
          refine WpubS 7 rfl (HDel.here _) (by omega) (by omega) ?_
          repeat (refine A1 ⟨?_⟩; intros)
          refine WpubS 49 rfl (HDel.here _) (by omega) (by omega) ?_
          refine WPL.low 49 rfl (s' := nsl .i64 [2]) (Le.of_eq (by unfold nsl; rfl)) ?_
          refine Wcx c1 ?_
          repeat (refine A1 ⟨?_⟩; intros)
          refine WpubS 56 rfl (HDel.here _) (by omega) (by omega) ?_
          refine WPL.low 56 rfl (s' := nsl .i64 [2]) (Le.of_eq (by unfold nsl; rfl)) ?_
          refine Wcx c2 ?_
          repeat (first | (refine A1 ⟨?_⟩; intros) | (refine Wcx (c3) ?_) | (refine Wdcx (c3) ?_) | (refine Wcgx (c3) ?_) | (refine Wdcgx (c3) ?_))
          refine WpubS 88 rfl (HDel.here _) (by omega) (by omega) ?_
          refine WPL.low 88 rfl (s' := nsl .i64 [2]) (Le.of_eq (by unfold nsl; rfl)) ?_
          refine WfT c4 ?_
          rintro _ H3 ⟨s3, rfl, hown3⟩
          have hco3 := hown3.co
          repeat (first | (refine A1 ⟨?_⟩; intros) | (refine Wcx (kn) ?_) | (refine Wdcx (kn) ?_) | (refine Wcgx (kn) ?_) | (refine Wdcgx (kn) ?_))
          ((first | refine endR ?_ | refine endN ?_); exact end1 (RV.tmp rfl) (Le.refl _))
end Go.Ab
/- From the reading of a law's arguments to what the abstract machine says of them; the frame of a law's row. -/
namespace Go.Ab
open Go.Proofs
set_option linter.unusedSectionVars false
set_option linter.unusedVariables false
set_option linter.unusedSimpArgs false
variable [Base]
open Go.ChangeShapes Go.WideShapes Go.ChangeAt Go.RowKit
section
variable {H : Type} {enc : TypeId × Value → H} {P : Program} {w : World} {sp : Nat → Bool} {held : Bool}
/-- the memory that lies there when a law is called -/
def memOf (w : World) : Mem := fun b => w.heap[b]?
theorem memOf_in (w : World) (h : Base.mem.le (memOf w)) : MemIn (memOf w) w := ⟨fun _ _ h => h, h⟩
/-- whatever reads as a datum of this type has cells of one of these shapes -/
def Opn (enc : TypeId × Value → H) (P : Program) (w : World) (sp : Nat → Bool) (held : Bool) (T : TypeId) (G : List SV → Prop) : Prop :=
  ∀ fuel cs x, DataW.trod enc P w 0 sp held fuel T cs = some x → ∃ svs, G svs ∧ All2 (memOf w) svs cs
/-- shapes laid one behind the other -/
inductive Cat : List (List SV → Prop) → List SV → Prop
  | nil : Cat [] []
  | cons {G : List SV → Prop} {Gs : List (List SV → Prop)} {a b : List SV} (h : G a) (k : Cat Gs b) : Cat (G :: Gs) (a ++ b)
def GBool : List SV → Prop := fun l => ∃ b, l = [lit (.bool b)]
def GInt (k : IntKind) : List SV → Prop := fun l => ∃ n, (Lit.int k n).wf = true ∧ l = [lit (.int k n)]
def GStr : List SV → Prop := fun l => ∃ s : ByteArray, s.size ≤ maxLen ∧ l = [lit (.string s)]
def GNat : List SV → Prop := fun l => ∃ xs, D xs ∧ l = [dg xs]
def GInts (k : IntKind) : List SV → Prop := fun l => ∃ zs : List Int, (∀ z ∈ zs, (Lit.int k z).wf = true) ∧ zs.length ≤ maxLen ∧ l = [nsl k zs]
def GSl (k : Nat) (G : List SV → Prop) : List SV → Prop := fun l => ∃ es : List (List SV), (∀ e ∈ es, G e ∧ e.length = k) ∧ es.length ≤ maxLen ∧ l = [sl es.flatten es.length]
theorem all2_one {m : Mem} {s : SV} {v : Value} (h : s.p m v) (f : v.oneCell' = true) : All2 m [s] [v] := ⟨⟨h, f⟩, trivial⟩
theorem opn_bool {T : TypeId} [hT : TBo P T] : Opn enc P w sp held T GBool := fun fuel cs x h => by
  obtain ⟨b, rfl, _⟩ := DataW.trod_bool hT.h h
  exact ⟨_, ⟨b, rfl⟩, all2_one (lit_p.2 rfl) rfl⟩
theorem opn_int {T : TypeId} {k : IntKind} [hT : TIn P T k] : Opn enc P w sp held T (GInt k) := fun fuel cs x h => by
  obtain ⟨n, rfl, _, hw⟩ := DataW.trod_int hT.h h
  exact ⟨_, ⟨n, hw, rfl⟩, all2_one (lit_p.2 rfl) rfl⟩
theorem opn_str {T : TypeId} [hT : TSr P T] : Opn enc P w sp held T GStr := fun fuel cs x h => by
  obtain ⟨s, rfl, _, hw⟩ := DataW.trod_string hT.h h
  exact ⟨_, ⟨s, hw, rfl⟩, all2_one (lit_p.2 rfl) rfl⟩
/-- the cells of a struct's fields, one behind the other -/
def laid (P : Program) : List Field → Nat → Nat → Bool
  | [], o, n => Nat.beq o n
  | f :: fs, o, n => Nat.beq f.offset o && laid P fs (o + P.cellsOf f.type) n
inductive Opns (enc : TypeId × Value → H) (P : Program) (w : World) (sp : Nat → Bool) (held : Bool) : List TypeId → List (List SV → Prop) → Prop
  | nil : Opns enc P w sp held [] []
  | cons {T : TypeId} {G : List SV → Prop} {Ts : List TypeId} {Gs : List (List SV → Prop)} (h : Opn enc P w sp held T G) (k : Opns enc P w sp held Ts Gs) : Opns enc P w sp held (T :: Ts) (G :: Gs)
theorem opn_cat {n : Nat} : ∀ {fs : List Field} {Gs : List (List SV → Prop)} {o : Nat} {cs : List Value}, Opns enc P w sp held (fs.map (·.type)) Gs → laid P fs o cs.length = true →
    (∀ (i : Nat) (f : Field), fs[i]? = some f → ∃ x, DataW.trod enc P w 0 sp held n f.type ((cs.drop f.offset).take (P.cellsOf f.type)) = some x) →
    ∃ svs, Cat Gs svs ∧ All2 (memOf w) svs (cs.drop o)
  | [], _, o, cs, h, hl, _ => by
    cases h
    simp only [laid] at hl
    have := Nat.eq_of_beq_eq_true hl
    subst this
    exact ⟨[], .nil, by rw [List.drop_length]; trivial⟩
  | f :: fs, _, o, cs, h, hl, hx => by
    cases h with
    | cons h k =>
      simp only [laid, Bool.and_eq_true] at hl
      have ho := Nat.eq_of_beq_eq_true hl.1
      obtain ⟨x, hx0⟩ := hx 0 f rfl
      rw [ho] at hx0
      obtain ⟨s0, g0, a0⟩ := h _ _ _ hx0
      obtain ⟨s1, g1, a1⟩ := opn_cat k hl.2 fun i f' hf => hx (i + 1) f' (by simpa using hf)
      refine ⟨s0 ++ s1, .cons g0 g1, ?_⟩
      have := a0.append a1
      rwa [← List.drop_drop, List.take_append_drop] at this
theorem opn_struct {T : TypeId} {fs : Array Field} {Gs : List (List SV → Prop)} (hT : P.underlying T = some (.struct fs)) (hl : laid P fs.toList 0 (P.cellsOf T) = true) (ho : Opns enc P w sp held (fs.toList.map (·.type)) Gs) : Opn enc P w sp held T (Cat Gs) := fun fuel cs x h => by
  obtain ⟨xs, n, _, _, hc, hlen, hf⟩ := DataW.trod_struct hT h
  have := opn_cat (n := n) (cs := cs) ho (by rw [hc]; exact hl) fun i f hi => by
    have h1 := hf i f (by simpa using hi)
    have h2 : i < xs.length := by
      have := (List.getElem?_eq_some_iff.1 hi).1
      simp at this; omega
    rw [List.getElem?_eq_getElem h2] at h1
    exact ⟨_, h1⟩
  simpa using this
theorem cells_get {a : Addr} {n : Nat} {cs : List Value} (h : w.cells? 0 a n = some cs) : cs.length = n ∧ ∀ j, j < n → w.cell? (a.add j) = cs[j]? := by
  unfold World.cells? at h
  rw [if_pos (Nat.zero_le _)] at h
  have hl := mapM_some_length h
  refine ⟨by simpa using hl, fun j hj => ?_⟩
  have := mapM_some_get h j j (by simp [hj])
  simpa using this
theorem flat_range {m : Mem} {f : Nat → List SV} {k : Nat} {vs : List Value} : ∀ {n : Nat}, (∀ i, i < n → (f i).length = k ∧ All2 m (f i) ((vs.drop (i * k)).take k)) → All2 m ((List.range n).map f).flatten (vs.take (n * k))
  | 0, _ => by simp [All2]
  | n + 1, h => by
    have h1 := flat_range (n := n) fun i hi => h i (by omega)
    have h2 := (h n (by omega)).2
    have := h1.append h2
    rw [List.range_succ, List.map_append, List.flatten_append, show (n + 1) * k = n * k + k from by rw [Nat.add_mul, Nat.one_mul], List.take_add]
    simpa using this
theorem opn_slice {T e : TypeId} {k : Nat} {G : List SV → Prop} [hT : TSl P T e] (hk : P.cellsOf e = k) (hk0 : 0 < k) (hG : Opn enc P w sp held e G) : Opn enc P w sp held T (GSl k G) := fun fuel cs x h => by
  rcases Deep.open_slice hT.h h with ⟨rfl, _⟩ | ⟨a, len, cap, m, n, Dd, Pl, rfl, _, hlc, hcm, hm, _, hx⟩
  · exact ⟨_, ⟨[], by simp, by simp, rfl⟩, all2_one (sl_mk (by simp) (by simp [maxLen]) (.inl rfl)) rfl⟩
  · have hlm : len ≤ m := by rw [hm]; split <;> omega
    have hcell : ∀ i, i < len → ∃ l, G l ∧ l.length = k ∧ ∃ cs', w.cells? 0 (a.add (i * k)) k = some cs' ∧ All2 (memOf w) l cs' := fun i hi => by
      obtain ⟨cs', h1, h2⟩ := hx i (by omega)
      rw [hk] at h1
      obtain ⟨l, g1, g2⟩ := hG _ _ _ h2
      exact ⟨l, g1, by rw [← g2.length, (cells_get h1).1], cs', h1, g2⟩
    have hch : ∀ i : Nat, ∃ l, i < len → G l ∧ l.length = k ∧ ∃ cs', w.cells? 0 (a.add (i * k)) k = some cs' ∧ All2 (memOf w) l cs' := fun i => by
      by_cases hi : i < len
      · obtain ⟨l, hl⟩ := hcell i hi
        exact ⟨l, fun _ => hl⟩
      · exact ⟨[], fun h => absurd h hi⟩
    obtain ⟨f, hf⟩ := Classical.axiomOfChoice hch
    refine ⟨_, ⟨(List.range len).map f, fun l hl => ?_, by simp; omega, rfl⟩, all2_one (v := .slice (some a) len cap) ?_ rfl⟩
    · obtain ⟨i, hi, rfl⟩ := List.mem_map.1 hl
      have := hf i (by simpa using hi)
      exact ⟨this.1, this.2.1⟩
    · rw [List.length_map, List.length_range]
      refine sl_mk hlc hcm ?_
      rcases Nat.eq_zero_or_pos len with h0 | h0
      · left; subst h0; rfl
      · right
        obtain ⟨_, hl0, cs0, hc0, _⟩ := hf 0 h0
        have hcc := (cells_get hc0).2 0 hk0
        rw [Nat.zero_mul] at hcc
        have hcl := (cells_get hc0).1
        rw [List.getElem?_eq_getElem (by omega)] at hcc
        obtain ⟨b, off, spot⟩ := a
        have hs : spot = none := by simpa [Addr.add] using World.cell?_spot hcc
        subst hs
        simp only [add_none, Nat.add_zero] at hcc
        have hb : ∃ arr T fz, w.heap[b]? = some (.cells arr T fz) := by
          unfold World.cell? at hcc
          cases hbb : w.heap[b]? with
          | none => simp [hbb] at hcc
          | some o => cases o with
            | cells arr T fz => exact ⟨arr, T, fz, rfl⟩
            | _ => simp [hbb] at hcc
        obtain ⟨arr, T', fz, hb⟩ := hb
        refine ⟨b, off, rfl, arr, T', fz, hb, ?_⟩
        have hfl : ((List.range len).map f).flatten.length = len * k := by
          have : ∀ n, n ≤ len → ((List.range n).map f).flatten.length = n * k := by
            intro n
            induction n with
            | zero => intro _; simp
            | succ n ih => intro hn; rw [List.range_succ, List.map_append, List.flatten_append, List.length_append, ih (by omega)]; simp [(hf n (by omega)).2.1, Nat.add_mul]
          exact this len (Nat.le_refl _)
        rw [hfl]
        refine flat_range fun i hi => ?_
        obtain ⟨_, hl, cs', hc, ha⟩ := hf i hi
        refine ⟨hl, ?_⟩
        have hcs : cs' = ((arr.toList.drop off).drop (i * k)).take k := by
          obtain ⟨g1, g2⟩ := cells_get hc
          apply List.ext_getElem?
          intro j
          by_cases hj : j < k
          · have h1 := g2 j hj
            simp only [add_none] at h1
            rw [cell_of w b _ arr _ _ hb] at h1
            rw [List.getElem?_take_of_lt hj, List.getElem?_drop, List.getElem?_drop, ← h1]
            simp [Nat.add_assoc]
          · rw [List.getElem?_eq_none (by omega), List.getElem?_eq_none (by rw [List.length_take]; omega)]
        rw [← hcs]; exact ha
theorem opn_ints {T e : TypeId} {k : IntKind} [hT : TSl P T e] [hE : TIn P e k] (hk : P.cellsOf e = 1) : Opn enc P w sp held T (GInts k) := fun fuel cs x h => by
  obtain ⟨svs, ⟨es, hes, hl, rfl⟩, ha⟩ := opn_slice (k := 1) hk (by omega) (opn_int (k := k)) fuel cs x h
  refine ⟨_, ?_, ha⟩
  have : ∃ zs : List Int, (∀ z ∈ zs, (Lit.int k z).wf = true) ∧ es = zs.map fun z => [lit (.int k z)] := by
    clear ha hl
    induction es with
    | nil => exact ⟨[], by simp, rfl⟩
    | cons e es ih =>
      obtain ⟨zs, h1, h2⟩ := ih fun x hx => hes x (by simp [hx])
      obtain ⟨⟨z, hz, rfl⟩, _⟩ := hes e (by simp)
      exact ⟨z :: zs, by simpa using ⟨hz, h1⟩, by rw [h2]; rfl⟩
  obtain ⟨zs, h1, rfl⟩ := this
  refine ⟨zs, h1, by simpa using hl, ?_⟩
  have hfl : (zs.map fun z => [lit (.int k z)]).flatten = zs.map fun z => lit (.int k z) := by
    clear hl hes ha h1
    induction zs with
    | nil => rfl
    | cons z zs ih => simp [ih]
  rw [hfl, List.length_map]
  unfold nsl; rfl
theorem opn_nat {T e : TypeId} [hT : TSl P T e] [hE : TIn P e .u32] (hk : P.cellsOf e = 1) : Opn enc P w sp held T GNat := fun fuel cs x h => by
  obtain ⟨svs, ⟨zs, hz, hl, rfl⟩, ha⟩ := opn_ints (k := .u32) hk fuel cs x h
  have : ∃ xs : List Nat, D xs ∧ zs = xs.map fun d : Nat => (d : Int) := by
    clear ha hl
    induction zs with
    | nil => exact ⟨[], D.nil, rfl⟩
    | cons z zs ih =>
      obtain ⟨xs, h1, h2⟩ := ih fun x hx => hz x (by simp [hx])
      have := hz z (by simp)
      simp only [Lit.wf, IntKind.min, IntKind.max, IntKind.signed, IntKind.bits, Bool.and_eq_true, decide_eq_true_eq] at this
      simp at this
      exact ⟨z.toNat :: xs, D.cons (by omega) h1, by rw [h2]; simp; omega⟩
  obtain ⟨xs, hD, rfl⟩ := this
  exact ⟨_, ⟨xs, hD, (dg_nsl xs).symm ▸ rfl⟩, ha⟩
end
end Go.Ab
/- The rows of this seat's laws: what is common to them. -/
namespace Go.Ab
open Go.Proofs
set_option linter.unusedSectionVars false
set_option linter.unusedVariables false
set_option linter.unusedSimpArgs false
variable [Base]
open Go.ChangeShapes Go.WideShapes Go.ChangeAt Go.RowKit
theorem calls_of {P : Program} {f : FuncId} {args : List SV} {W : World} {vs : List Value} (hB : Base.mem.le (memOf W)) (h : Pu P f args (lit (.bool true))) (ha : ArgsOk (memOf W) args vs) :
    Calls P f vs.toArray W fun e w' => e = .returned (.bool true) ∧ Below W.heap.size W w' := by
  unfold Pu at h
  refine (h.2 _ W vs (memOf_in W hB) ha).mono ?_
  rintro e w' ⟨v, m', rfl, hv, _, hr⟩
  rw [lit_p] at hv
  subst hv
  exact ⟨rfl, hr.os, hr.tape, hr.output, hr.size, fun k hk => hr.block k hk (by simp)⟩
theorem own0 : ownKnob Tryz.prog.godebug = none := by kernel_rfl
theorem laidOut0 : laidOutB Tryz.prog = true := by kernel_rfl
section
variable {H : Type} {enc : TypeId × Value → H} {W : World} {sp : Nat → Bool} {held : Bool}
abbrev GI : List SV → Prop := Cat [GBool, GNat]
abbrev GR : List SV → Prop := Cat [GI, GNat]
theorem opn_nat0 : Opn enc Tryz.prog W sp held 27 GNat := opn_nat (by kernel_rfl)
theorem opn_int0 : Opn enc Tryz.prog W sp held 29 GI := opn_struct Tryz.underlying29 (by kernel_rfl) (.cons opn_bool (.cons opn_nat0 .nil))
theorem opn_rat0 : Opn enc Tryz.prog W sp held 31 GR := opn_struct Tryz.underlying31 (by kernel_rfl) (.cons opn_int0 (.cons opn_nat0 .nil))
end
theorem cat_rat {l : List SV} (h : GR l) : ∃ r : RQ, (D r.n ∧ D r.d) ∧ l = qcells r := by
  cases h with
  | cons h k => cases h with
    | cons hb hk => cases hk with
      | cons hn hz => cases hz; cases k with
        | cons hd hz => cases hz
                        obtain ⟨b, rfl⟩ := hb
                        obtain ⟨xs, hx, rfl⟩ := hn
                        obtain ⟨ys, hy, rfl⟩ := hd
                        exact ⟨⟨b, xs, ys⟩, ⟨hx, hy⟩, rfl⟩
end Go.Ab
/- Rows that list package variables: what the list says to the abstract machine. -/
namespace Go.Ab
open Go.Proofs
set_option linter.unusedSectionVars false
set_option linter.unusedVariables false
set_option linter.unusedSimpArgs false
variable [Base]
open Go.ChangeShapes Go.WideShapes Go.ChangeAt Go.RowKit
theorem starE : "*" ++ "errors.errorString" = "*errors.errorString" := by decide
theorem rowE (u : TypeId) (h : (Tryz.prog).typeName? 3 u = some "*errors.errorString") : u = 330 :=
  typeName_ptr_named (nm := "errors.errorString") (by rw [starE]; kernel_rfl) (by kernel_rfl) (by decide) u (by rw [starE]; exact h)
/-- a listed sentinel, at the head of a list -/
theorem sent_head {n : String} {text : List UInt8} {r : List (String × DataW Unit)} {W : World} {g : Nat} (h : laidMet Tryz.prog ((n, .iface "*errors.errorString" (.ptr (.agg [.lit (.string text)]))) :: r) W)
    (hg : (Tryz.prog).globalNamed n = some g) (ht : ((Tryz.prog).globals[g]?).map (·.type) = some 38) : ∃ (a : Addr) (T : TypeId) (fz : Nat × Nat), W.heap[g]? = some (.cells #[.iface 330 (.pointer (some a))] T fz) := by
  obtain ⟨a, s, hv, _⟩ := laid_sentinel (tp := 330) h hg ht Tryz.underlying38 rowE Tryz.underlying330 Tryz.underlying332 rfl rfl Tryz.underlying9 (by kernel_rfl) (by kernel_rfl)
  unfold World.var? at hv
  rw [hg] at hv
  simp only [Option.bind_some] at hv
  cases hh : W.heap[g]? with
  | none => rw [hh] at hv; cases hv
  | some o =>
    rw [hh] at hv
    cases o with
    | cells cs T fz =>
      simp only [Option.some.injEq] at hv
      subst hv
      exact ⟨a, T, fz, rfl⟩
    | _ => cases hv
/-- the memory of a call, for a whole law -/
abbrev baseOf (W : World) : Base := ⟨memOf W⟩
end Go.Ab
/- Reading a list of parts of expressions: what the abstract machine says of it. -/
namespace Go.Ab
open Go.Proofs
set_option linter.unusedSectionVars false
set_option linter.unusedVariables false
set_option linter.unusedSimpArgs false
variable [Base]
open Go.ChangeShapes Go.WideShapes Go.ChangeAt Go.RowKit
section
variable {H : Type} {enc : TypeId × Value → H} {W : World} {sp : Nat → Bool} {held : Bool}
abbrev GPt : List SV → Prop := Cat [GR, GR]
abbrev GEx : List SV → Prop := Cat [GInt .i64, GStr, GPt, GPt, GInt .i64, GInt .i64, GInt .i64, GInt .i64, GInt .i64]
theorem opn_pt : Opn enc Tryz.prog W sp held 33 GPt := opn_struct Tryz.underlying33 (by kernel_rfl) (.cons opn_rat0 (.cons opn_rat0 .nil))
theorem opn_expr : Opn enc Tryz.prog W sp held 35 GEx :=
  opn_struct Tryz.underlying35 (by kernel_rfl) (.cons opn_int (.cons opn_str (.cons opn_pt (.cons opn_pt (.cons opn_int (.cons opn_int (.cons opn_int (.cons opn_int (.cons opn_int .nil)))))))))
theorem opn_exprs : Opn enc Tryz.prog W sp held 36 (GSl 19 GEx) := opn_slice (by kernel_rfl) (by omega) opn_expr
end
theorem cat_pt {l : List SV} (h : GPt l) : ∃ x y : RQ, (D x.n ∧ D x.d) ∧ (D y.n ∧ D y.d) ∧ l = qcells x ++ (qcells y ++ []) := by
  cases h with
  | cons h1 k => cases k with
    | cons h2 k => cases k
                   obtain ⟨x, hx, rfl⟩ := cat_rat h1
                   obtain ⟨y, hy, rfl⟩ := cat_rat h2
                   exact ⟨x, y, hx, hy, rfl⟩
/-- a part as it may be read -/
def Nd.raw (n : Nd) : Prop := ((D n.a.n ∧ D n.a.d) ∧ (D n.b.n ∧ D n.b.d) ∧ (D n.c.n ∧ D n.c.d) ∧ (D n.e.n ∧ D n.e.d)) ∧ n.nm.length ≤ 9223372036854775807 ∧ (i64R n.k ∧ i64R n.op ∧ i64R n.x ∧ i64R n.y)
theorem gint_i64 {l : List SV} (h : GInt .i64 l) : ∃ z, i64R z ∧ l = [lit (.int .i64 z)] := by
  obtain ⟨z, hz, rfl⟩ := h
  refine ⟨z, ?_, rfl⟩
  simp only [Lit.wf, IntKind.min, IntKind.max, IntKind.signed, IntKind.bits, Bool.and_eq_true, decide_eq_true_eq] at hz
  unfold i64R
  simp at hz
  omega
theorem gstr_l {l : List SV} (h : GStr l) : ∃ s : List UInt8, s.length ≤ 9223372036854775807 ∧ l = [str s] := by
  obtain ⟨s, hs, rfl⟩ := h
  refine ⟨s.data.toList, ?_, ?_⟩
  · have : s.data.toList.length = s.size := by rw [Array.length_toList]; rfl
    rw [this]
    simp only [maxLen] at hs
    omega
  · show _ = [lit (.string ⟨s.data.toList.toArray⟩)]
    rw [Array.toArray_toList]
theorem cat_expr {l : List SV} (h : GEx l) : ∃ n : Nd, n.raw ∧ l = ndx n := by
  cases h with
  | cons h1 k => cases k with
    | cons h2 k => cases k with
      | cons h3 k => cases k with
        | cons h4 k => cases k with
          | cons h5 k => cases k with
            | cons h6 k => cases k with
              | cons h7 k => cases k with
                | cons h8 k => cases k with
                  | cons h9 k => cases k
                                 obtain ⟨z1, r1, rfl⟩ := gint_i64 h1
                                 obtain ⟨s, r2, rfl⟩ := gstr_l h2
                                 obtain ⟨a, b, ha, hb, rfl⟩ := cat_pt h3
                                 obtain ⟨c, e, hc, he, rfl⟩ := cat_pt h4
                                 obtain ⟨z5, r5, rfl⟩ := gint_i64 h5
                                 obtain ⟨z6, r6, rfl⟩ := gint_i64 h6
                                 obtain ⟨z7, r7, rfl⟩ := gint_i64 h7
                                 obtain ⟨z8, r8, rfl⟩ := gint_i64 h8
                                 obtain ⟨z9, r9, rfl⟩ := gint_i64 h9
                                 exact ⟨⟨z1, s, a, b, c, e, z5, z6, z7, z8, z9⟩, ⟨⟨ha, hb, hc, he⟩, r2, r1, r5, r6, r7⟩, rfl⟩
theorem map_of {α β : Type} {p : α → Prop} {f : α → β} : ∀ (es : List β), (∀ e ∈ es, ∃ n, p n ∧ e = f n) → ∃ ns : List α, (∀ n ∈ ns, p n) ∧ es = ns.map f
  | [], _ => ⟨[], by simp, rfl⟩
  | e :: es, h => by
    obtain ⟨n, h1, rfl⟩ := h e (by simp)
    obtain ⟨ns, h2, rfl⟩ := map_of es fun x hx => h x (by simp [hx])
    exact ⟨n :: ns, by simpa using ⟨h1, h2⟩, rfl⟩
theorem gsl_exprs {l : List SV} (h : GSl 19 GEx l) : ∃ ns : List Nd, (∀ n ∈ ns, n.raw) ∧ ns.length ≤ 9223372036854775807 ∧ l = [sl (ns.map ndx).flatten ns.length] := by
  obtain ⟨es, hes, hl, rfl⟩ := h
  obtain ⟨ns, h1, rfl⟩ := map_of (f := ndx) es fun e he => cat_expr (hes e he).1
  rw [List.length_map] at hl ⊢
  exact ⟨ns, h1, by simp only [maxLen] at hl; omega, rfl⟩
end Go.Ab
