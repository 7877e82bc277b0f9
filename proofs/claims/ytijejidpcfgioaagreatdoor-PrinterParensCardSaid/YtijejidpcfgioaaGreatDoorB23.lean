/- Texts laid one behind the other: ParseC, ParensL, Open, RowKit, LaidKit, ExprOpen, OpenB. -/
import Derived.Test.YtijejidpcfgioaaGreatDoorB16
import Derived.Test.YtijejidpcfgioaaGreatDoorB22
import Derived.Test.YtijejidpcfgioaaGreatDoorB21
import Derived.Test.YtijejidpcfgioaaGreatDoorB03
import Derived.ProofKit
import Derived.OpenShut
import Derived.ChangeOld
import Derived.Below
import Derived.OpenVars
import Derived.Deep.Slices
import Derived.Test.YtijejidpcfgioaaGreatDoorB11
import Derived.WalkKit
import Derived.Stop.LaidErr
import Derived.LaidMore
import Derived.Deep.DeepHandedRow
import Derived.Deep.DeepWitnessRowRef
import Derived.Test.YtijejidpcfgioaaGreatDoorB14
/- What is read has no more parts than tokens, and no points. -/
namespace Go.Ab
open Go.Proofs
set_option linter.unusedSectionVars false
set_option linter.unusedVariables false
set_option linter.unusedSimpArgs false
variable [Base]
abbrev Nd.zz4 (n : Nd) : Prop := n.a = zz ∧ n.b = zz ∧ n.c = zz ∧ n.e = zz
theorem hd_ne {ts : List Tok} (h : (hd ts).k ≠ 0) : ts.tail.length + 1 = ts.length := by
  cases ts with
  | nil => exact absurd rfl h
  | cons a r => simp
theorem tis_tail {ts : List Tok} {s : List UInt8} (h : tis ts s = true) : ts.tail.length + 1 = ts.length := by
  obtain ⟨a, r, rfl, _⟩ := tis_ne h
  simp
theorem prs_bd : ∀ (f lv d i : Nat) (ts : List Tok) (acc : Option (List Nd × Ex)) (A : List Nd) (x : Ex) (ts' : List Tok), (1 ≤ lv ∧ lv ≤ 3) → (lv = 3 → acc = none) → prs f lv d i ts acc = some (A, x, ts') →
    A.length + ts'.length ≤ ts.length + (match acc with
      | some (A0, _) => A0.length
      | none => 0) ∧ ((match acc with
      | some (A0, _) => ∀ n ∈ A0, n.zz4
      | none => True) → ∀ n ∈ A, n.zz4) := by
  intro f
  induction f with
  | zero => intro lv d i ts acc A x ts' _ _ h; unfold prs at h; cases h
  | succ f ih =>
    intro lv d i ts acc A x ts' hlv h3 h
    cases acc with
    | none =>
      simp only [Nat.add_zero]
      unfold prs at h
      by_cases l3 : lv = 3
      · subst l3
        rw [if_pos rfl] at h
        by_cases c1 : tis ts [126] = true
        · rw [if_pos c1] at h
          by_cases hd' : 200 ≤ d
          · rw [if_pos hd'] at h; cases h
          · rw [if_neg hd'] at h
            cases hp : prs f 3 (d + 1) i ts.tail none with
            | none => rw [hp] at h; cases h
            | some q =>
              obtain ⟨A1, x1, t1⟩ := q
              rw [hp] at h
              simp only [Option.some.injEq, Prod.mk.injEq] at h
              obtain ⟨rfl, rfl, rfl⟩ := h
              obtain ⟨h4, h5⟩ := ih 3 _ _ _ _ _ _ _ (by omega) (fun _ => rfl) hp
              have h6 := tis_tail c1
              simp only at h4
              refine ⟨by simp; omega, fun _ n hn => ?_⟩
              rcases List.mem_append.1 hn with hn | hn
              · exact h5 trivial n hn
              · rw [List.mem_singleton.1 hn]; exact ⟨rfl, rfl, rfl, rfl⟩
        · rw [if_neg c1] at h
          by_cases c2 : tis ts [40] = true
          · rw [if_pos c2] at h
            by_cases hd' : 200 ≤ d
            · rw [if_pos hd'] at h; cases h
            · rw [if_neg hd'] at h
              cases hp : prs f 1 (d + 1) i ts.tail none with
              | none => rw [hp] at h; cases h
              | some q =>
                obtain ⟨A1, x1, t1⟩ := q
                rw [hp] at h
                simp only at h
                by_cases c3 : tis t1 [41] = true
                · rw [if_pos c3] at h
                  simp only [Option.some.injEq, Prod.mk.injEq] at h
                  obtain ⟨rfl, rfl, rfl⟩ := h
                  obtain ⟨h4, h5⟩ := ih 1 _ _ _ _ _ _ _ (by omega) (fun h => by omega) hp
                  have h6 := tis_tail c2
                  have h7 := tis_tail c3
                  simp only at h4
                  exact ⟨by omega, fun _ => h5 trivial⟩
                · rw [if_neg c3] at h; cases h
          · rw [if_neg c2] at h
            have leafc : ∀ n : Nd, n.zz4 → ts.tail.length + 1 = ts.length → (A, x, ts') = ([n], Ex.leaf n, ts.tail) → A.length + ts'.length ≤ ts.length ∧ (True → ∀ n ∈ A, n.zz4) := fun n hz hl e => by
              simp only [Prod.mk.injEq] at e
              obtain ⟨rfl, rfl, rfl⟩ := e
              refine ⟨by simp; omega, fun _ m hm => ?_⟩
              rw [List.mem_singleton.1 hm]; exact hz
            by_cases c3 : tis ts wAll = true
            · rw [if_pos c3] at h; exact leafc _ ⟨rfl, rfl, rfl, rfl⟩ (tis_tail c3) (Option.some.inj h).symm
            rw [if_neg c3] at h
            by_cases c4 : tis ts wNone = true
            · rw [if_pos c4] at h; exact leafc _ ⟨rfl, rfl, rfl, rfl⟩ (tis_tail c4) (Option.some.inj h).symm
            rw [if_neg c4] at h
            by_cases c5 : tis ts wHalf = true
            · rw [if_pos c5] at h; cases h
            rw [if_neg c5] at h
            by_cases c6 : (hd ts).k = 1 ∧ resv (hd ts).t = false
            · rw [if_pos c6] at h; exact leafc _ ⟨rfl, rfl, rfl, rfl⟩ (hd_ne (by omega)) (Option.some.inj h).symm
            rw [if_neg c6] at h; cases h
      · rw [if_neg l3] at h
        cases hp : prs f (lv + 1) d i ts none with
        | none => rw [hp] at h; cases h
        | some q =>
          obtain ⟨A1, x1, t1⟩ := q
          rw [hp] at h
          simp only at h
          obtain ⟨h4, h5⟩ := ih (lv + 1) _ _ _ _ _ _ _ (by omega) (fun _ => rfl) hp
          obtain ⟨h6, h7⟩ := ih lv _ _ _ _ _ _ _ hlv (fun h => absurd h l3) h
          simp only at h4 h6 h7
          exact ⟨by omega, fun _ => h7 (h5 trivial)⟩
    | some q =>
      obtain ⟨A0, x0⟩ := q
      have l3 : lv ≠ 3 := fun e => by have := h3 e; cases this
      simp only
      unfold prs at h
      by_cases ho : opAt lv ts = 0
      · rw [if_pos ho] at h
        simp only [Option.some.injEq, Prod.mk.injEq] at h
        obtain ⟨rfl, rfl, rfl⟩ := h
        exact ⟨by omega, fun h => h⟩
      · rw [if_neg ho] at h
        obtain ⟨⟨a, r, rfl, ha⟩, o1, o2⟩ := opAt_ne ho
        rw [List.tail_cons] at h
        cases hp : prs f (lv + 1) d (i + A0.length) r none with
        | none => rw [hp] at h; cases h
        | some q =>
          obtain ⟨B, y, t1⟩ := q
          rw [hp] at h
          simp only at h
          obtain ⟨h4, h5⟩ := ih (lv + 1) _ _ _ _ _ _ _ (by omega) (fun _ => rfl) hp
          obtain ⟨h6, h7⟩ := ih lv _ _ _ _ _ _ _ hlv (fun h => absurd h l3) h
          simp only [List.length_append, List.length_singleton] at h4 h6 h7
          refine ⟨by simp only [List.length_cons]; omega, fun hz => h7 fun n hn => ?_⟩
          rcases List.mem_append.1 hn with hn | hn
          · rcases List.mem_append.1 hn with hn | hn
            · exact hz n hn
            · exact h5 trivial n hn
          · rw [List.mem_singleton.1 hn]; exact ⟨rfl, rfl, rfl, rfl⟩
theorem prsAll_bd {ts : List Tok} {A : List Nd} {x : Ex} (h : prsAll ts = some (A, x)) : A.length ≤ ts.length ∧ ∀ n ∈ A, n.zz4 := by
  unfold prsAll at h
  cases hp : prs (8 * ts.length + 8) 1 0 0 ts none with
  | none => rw [hp] at h; cases h
  | some q =>
    obtain ⟨B, z, t'⟩ := q
    rw [hp] at h
    simp only at h
    split at h
    · simp only [Option.some.injEq, Prod.mk.injEq] at h
      obtain ⟨rfl, rfl⟩ := h
      obtain ⟨h1, h2⟩ := prs_bd _ _ _ _ _ _ _ _ _ (by omega) (fun h => by omega) hp
      simp only at h1
      exact ⟨by omega, h2 trivial⟩
    · cases h
end Go.Ab
/- The law PrinterParens, walked: it returns true. -/
namespace Go.Ab
open Go.Proofs
set_option linter.unusedSectionVars false
set_option linter.unusedVariables false
set_option linter.unusedSimpArgs false
variable [Base]
set_option maxHeartbeats 8000000 in
theorem pparens_pu [Sent 0] [Sent 5] [Sent 4] (zs : List Int) (hz : zs.length ≤ 9223372036854775807) (at_ : Int) (hat_ : i64R at_) : Pu Tryz.prog 8 [nsl .i64 zs, lit (.int .i64 at_)] (lit (.bool true)) := by
  have hk : (zs.take (min zs.length 400)).length ≤ 400 := by simp; omega
  have hnew := new_pu zs hz
  generalize zs.take (min zs.length 400) = ys at *
  have kn := known13
  clear hz
  obtain ⟨ha1, ha2⟩ := hat_
  refine Pu.intro Tryz.func8 rfl (by kernel_rfl) fun C => ?_
  repeat (refine A1 ⟨?_⟩; intros)
  refine WPL.callN hnew rfl rfl fun b => ?_
  repeat (refine A1 ⟨?_⟩; intros)
  refine WfT (expression_pu ys hk b) ?_
  rintro s _ ⟨t, ns, H1, rfl, hown, hw, hl⟩
  simp only [List.cons_append, List.nil_append]
  have c1 := pexpr_pu ns hw.ok (by omega) (by omega)
  rw [hw.otx] at c1
  unfold pans at c1
  simp only at c1
  have hokl := stk_okL ns
  rw [hw.st []] at hokl
  obtain ⟨_, hokl⟩ := hokl
  obtain ⟨hatt, _⟩ := hokl _ _ _ rfl
  have htl : t.txt.length ≤ 65000 := by
    have := Ex.txt_len (L := 20) (by omega) hw.ok hatt
    have h2 := (hokl _ _ _ rfl).2 rfl
    omega
  have hrn : Rn ns 0 t := ⟨fun s => hw.st s, hw.pos⟩
  have hnm := hw.nm
  have hsh : ∀ n ∈ ns, n.sh := fun n hn => by
    have h := hw.ok n hn
    exact ⟨⟨by have := h.a.2.2.1; omega, by have := h.a.2.2.2; omega⟩, ⟨by have := h.b.2.2.1; omega, by have := h.b.2.2.2; omega⟩, ⟨by have := h.c.2.2.1; omega, by have := h.c.2.2.2; omega⟩, ⟨by have := h.e.2.2.1; omega, by have := h.e.2.2.2; omega⟩⟩
  obtain ⟨hcl, ⟨h0, rfl, rfl⟩ | ⟨b2, c, hnc, hcm, rfl, rfl⟩⟩ := hown
  · have := hw.pos
    omega
  refine WPL.pub (d := 20) (s' := sl (ns.map ndx).flatten ns.length) (HDel.there _ (HDel.here _)) rfl (fun m arr h1 h2 => pub_ownL h1 h2 hnc hcm) ?_
  clear hw hcl hnc hcm hokl
  repeat (refine A1 ⟨?_⟩; intros)
  refine WP.loopS (ι := Nat) (fun k => k ≤ ns.length ∧ ∀ j n, j < k → ns[j]? = some n → n.k ≠ 4) (fun k => ns.length - k)
    (fun k => fm [(1, lit (.int .i64 at_)), (6, sl (ns.map ndx).flatten ns.length), (21, sl (ns.map ndx).flatten ns.length), (22, lit (.int .i64 ns.length)), (23, lit (.int .i64 k))]) (fun _ => []) 0 ⟨Nat.zero_le _, fun j n hj => by omega⟩ (by (repeat (first | exact LeF.nil _ | refine LeF.cons (Le.refl _) ?_ | refine LeF.cons (Le.int (by omega)) ?_))) (List.nil_sublist _) ?_
  rintro k ⟨hk, hno⟩ K hK
  by_cases hkl : k < ns.length
  · have hget := List.getElem?_eq_getElem hkl
    generalize ns[k] = nd at hget
    have hat := flat_at (f := ndx) (n := 19) ndx_len hget
    have hne : (ns.map ndx).flatten ≠ [] := flat_ne ndx_len (by omega) (fun e => by rw [e] at hkl; simp at hkl)
    by_cases h4 : nd.k = 4
    · clear hK hno hnm hsh hrn hatt hget c1
      repeat (refine A1 ⟨?_⟩; intros)
      refine Wo (ov_idxS (cs' := ndx nd) rfl rfl (by omega) (by omega) hat hne) ?_
      repeat (first | (refine A1 ⟨?_⟩; intros) | (refine Wcx (kn) ?_) | (refine Wdcx (kn) ?_) | (refine Wcgx (kn) ?_) | (refine Wdcgx (kn) ?_))
      ((first | refine endR ?_ | refine endN ?_); exact end1 (RV.tmp rfl) (Le.refl _))
    · have hgo : ∀ F' H', LeF F' (fm [(1, lit (.int .i64 at_)), (6, sl (ns.map ndx).flatten ns.length), (21, sl (ns.map ndx).flatten ns.length), (22, lit (.int .i64 ns.length)), (23, lit (.int .i64 (k + 1 : Nat)))]) → K F' H' := fun F' H' h =>
        hK F' H' (k + 1) ⟨by omega, fun j n hj hn => by
          rcases Nat.lt_succ_iff_lt_or_eq.1 hj with h | rfl
          · exact hno j n h hn
          · rw [hget] at hn
            obtain rfl := Option.some.inj hn
            exact h4⟩ (by omega) h (List.nil_sublist _)
      clear hK hno hnm hsh hrn hatt hget c1
      repeat (refine A1 ⟨?_⟩; intros)
      refine Wo (ov_idxS (cs' := ndx nd) rfl rfl (by omega) (by omega) hat hne) ?_
      repeat (refine A1 ⟨?_⟩; intros)
      exact hgo _ _ (by (repeat (first | exact LeF.nil _ | refine LeF.cons (Le.refl _) ?_ | refine LeF.cons (Le.int (by omega)) ?_)))
  obtain rfl : k = ns.length := by omega
  have hlet := let_of (fun n hn => ⟨by obtain ⟨j, hj⟩ := List.mem_iff_getElem?.1 hn; exact hno j n (List.getElem?_eq_some_iff.1 hj).1 hj, hnm n hn⟩) hatt
  obtain ⟨hbal, hcnt, hokc⟩ := txt_bal hatt hlet
  clear hK hno hnm hlet hatt hkl hk
  generalize t.txt = tx at *
  have c2 := scount_pu tx (b := 40) (by omega)
  rw [show UInt8.ofNat 40 = 40 from rfl, hcnt] at c2
  have hple : pc t ≤ tx.length := by rw [← hcnt]; unfold bcnt; exact List.length_filter_le _ _
  by_cases hn0 : pc t = 0
  · rw [hn0] at c2
    repeat (first | (refine A1 ⟨?_⟩; intros) | (refine Wcx (c1) ?_) | (refine Wdcx (c1) ?_) | (refine Wcgx (c1) ?_) | (refine Wdcgx (c1) ?_) | (refine Wcx (c2) ?_) | (refine Wdcx (c2) ?_) | (refine Wcgx (c2) ?_) | (refine Wdcgx (c2) ?_) | (refine Wcx (kn) ?_) | (refine Wdcx (kn) ?_) | (refine Wcgx (kn) ?_) | (refine Wdcgx (kn) ?_))
    ((first | refine endR ?_ | refine endN ?_); exact end1 (RV.tmp rfl) (Le.refl _))
  have hp0 : 0 < pc t := Nat.pos_of_ne_zero hn0
  have cut : ∀ i k, i < k → k < tx.length → tx.getD i 0 = 40 → Pu Tryz.prog 29 [str (cut2 tx i k)] (prS (cut2 tx i k)) ∧ (cut2 tx i k).length ≤ 65536 ∧ bcnt 40 (cut2 tx i k) < pc t := by
    intro i k hik hkl h40
    obtain ⟨g1, g2, g3⟩ := cut2_sub tx hik hkl
    exact ⟨parseS_pu _ (fun b hb => hokc b (g2 b hb)) (by omega), by omega, by rw [← hcnt]; exact g3 h40⟩
  generalize hpt : pc t = p at *
  have t1 := Int.tmod_lt_of_pos at_ (show (0 : Int) < p by omega)
  have t2 := Int.lt_tmod_of_pos at_ (show (0 : Int) < p by omega)
  obtain ⟨a, hr2, ha⟩ : ∃ a : Nat, (at_.tmod p + p) % p = a ∧ a < p := by
    have := Int.emod_lt_of_pos (at_.tmod p + p) (show (0 : Int) < p by omega)
    have h0 := Int.emod_nonneg (at_.tmod p + p) (show (p : Int) ≠ 0 by omega)
    exact ⟨((at_.tmod p + p) % p).toNat, (Int.toNat_of_nonneg h0).symm, by omega⟩
  repeat (first | (refine A1 ⟨?_⟩; intros) | (refine Wcx (c1) ?_) | (refine Wdcx (c1) ?_) | (refine Wcgx (c1) ?_) | (refine Wdcgx (c1) ?_) | (refine Wcx (c2) ?_) | (refine Wdcx (c2) ?_) | (refine Wcgx (c2) ?_) | (refine Wdcgx (c2) ?_))
  rw [hr2]
  clear hr2 t1 t2 ha1 ha2 c1 c2
  refine WP.loopS (ι := Nat) (fun i => i ≤ tx.length ∧ bcnt 40 (tx.take i) ≤ a) (fun i => tx.length - i)
    (fun II => (fm [(1, lit (.int .i64 ((a - bcnt 40 (tx.take II) : Nat) : Int))), (6, sl (ns.map ndx).flatten ns.length), (9, str tx), (12, lit (.int .i64 (II : Nat)))])) (fun _ => []) 0 ⟨Nat.zero_le _, Nat.zero_le _⟩ (by rw [List.take_zero, bcnt_nil]; (repeat (first | exact LeF.nil _ | refine LeF.cons (Le.refl _) ?_ | refine LeF.cons (Le.int (by omega)) ?_))) (List.nil_sublist _) ?_
  rintro i ⟨hi, hic⟩ K hK
  by_cases hil : i < tx.length
  case neg =>
    obtain rfl : i = tx.length := by omega
    rw [List.take_length, hcnt] at hic
    omega
  have hs := bcnt_take_succ 40 hil
  have hgo : bcnt 40 (tx.take (i + 1)) ≤ a → ∀ F' H', LeF F' (fm [(1, lit (.int .i64 ((a - bcnt 40 (tx.take (i + 1)) : Nat) : Int))), (6, sl (ns.map ndx).flatten ns.length), (9, str tx), (12, lit (.int .i64 ((i + 1) : Nat)))]) → K F' H' := fun hle F' H' h => hK F' H' (i + 1) ⟨by omega, hle⟩ (by omega) h (List.nil_sublist _)
  clear hK
  have hu : tx.getD i 0 = 40 ↔ (tx.getD i 0).toNat = 40 := ⟨fun h => by rw [h]; rfl, fun h => UInt8.toNat_inj.1 h⟩
  by_cases h40 : tx.getD i 0 = 40
  case neg =>
    have hn : ¬ (tx.getD i 0).toNat = 40 := fun h => h40 (hu.2 h)
    rw [if_neg h40] at hs
    rw [hs] at hgo
    replace hgo := hgo (by omega)
    clear hu hs hokc hbal cut
    repeat (refine A1 ⟨?_⟩; intros)
    exact hgo _ _ (by (repeat (first | exact LeF.nil _ | refine LeF.cons (Le.refl _) ?_ | refine LeF.cons (Le.int (by omega)) ?_)))
  have hn := hu.1 h40
  rw [if_pos h40] at hs
  by_cases hz : bcnt 40 (tx.take i) = a
  case neg =>
    rw [hs] at hgo
    replace hgo := hgo (by omega)
    clear hu hs hokc hbal cut
    generalize bcnt 40 (tx.take i) = q at *
    repeat (refine A1 ⟨?_⟩; intros)
    exact hgo _ _ (by (repeat (first | exact LeF.nil _ | refine LeF.cons (Le.refl _) ?_ | refine LeF.cons (Le.int (by omega)) ?_)))
  clear hgo hs hu
  rw [hz, Nat.sub_self]
  repeat (refine A1 ⟨?_⟩; intros)
  refine WP.loopS (ι := Nat) (fun j => (i ≤ j ∧ j < tx.length) ∧ (j = i ∨ 1 ≤ lev ((tx.drop i).take (j - i)))) (fun j => tx.length - j)
    (fun JJ => (fm [(6, sl (ns.map ndx).flatten ns.length), (9, str tx), (12, lit (.int .i64 (i : Nat))), (13, lit (.int .i64 (JJ : Nat))), (14, lit (.int .i64 (lev ((tx.drop i).take (JJ - i)))))])) (fun _ => []) i ⟨⟨Nat.le_refl _, hil⟩, .inl rfl⟩ (by rw [Nat.sub_self, List.take_zero]; (repeat (first | exact LeF.nil _ | refine LeF.cons (Le.refl _) ?_ | refine LeF.cons (Le.int (by omega)) ?_))) (List.nil_sublist _) ?_
  rintro j ⟨⟨hij, hjl⟩, hdeep⟩ K hK
  have hs := lev_step hij hjl
  have hle := lev_end hbal i (by omega)
  have hub : lev ((tx.drop i).take (j - i)) ≤ 65000 := by
    have : bcnt 40 ((tx.drop i).take (j - i)) ≤ tx.length := by
      unfold bcnt
      refine Nat.le_trans (List.length_filter_le _ _) ?_
      rw [List.length_take, List.length_drop]
      omega
    unfold lev
    omega
  have h0 : j = i → lev ((tx.drop i).take (j - i)) = 0 := fun e => by rw [e, Nat.sub_self, List.take_zero]; rfl
  have hgo : 1 ≤ lev ((tx.drop i).take (j + 1 - i)) → ∀ F' H', LeF F' (fm [(6, sl (ns.map ndx).flatten ns.length), (9, str tx), (12, lit (.int .i64 (i : Nat))), (13, lit (.int .i64 (j + 1 : Nat))), (14, lit (.int .i64 (lev ((tx.drop i).take (j + 1 - i)))))]) → K F' H' := fun h1 F' H' h => hK F' H' (j + 1) ⟨⟨by omega, by
      rcases Nat.lt_or_ge (j + 1) tx.length with hh | hh
      · exact hh
      · rw [show tx.length = j + 1 by omega] at hle
        omega⟩, .inr h1⟩ (by omega) h (List.nil_sublist _)
  clear hK hle
  have hu : ∀ c : UInt8, tx.getD j 0 = c ↔ (tx.getD j 0).toNat = c.toNat := fun c => ⟨fun h => by rw [h], fun h => UInt8.toNat_inj.1 h⟩
  have u1 := hu 40
  have u2 := hu 41
  rw [show (40 : UInt8).toNat = 40 from rfl] at u1
  rw [show (41 : UInt8).toNat = 41 from rfl] at u2
  clear hu
  obtain ⟨d, hd⟩ : ∃ d, lev ((tx.drop i).take (j - i)) = d := ⟨_, rfl⟩
  obtain ⟨d', hd'⟩ : ∃ d, lev ((tx.drop i).take (j + 1 - i)) = d := ⟨_, rfl⟩
  simp only [hd, hd'] at hs hub h0 hgo hdeep ⊢
  clear hd hd'
  by_cases c40 : tx.getD j 0 = 40
  · have n40 := u1.1 c40
    rw [if_pos c40, if_neg (by rw [c40]; decide)] at hs
    replace hgo := hgo (by omega)
    have hdd : d' = d + 1 := by omega
    subst hdd
    have hdd : 0 ≤ d := by
      rcases hdeep with h | h
      · have := h0 h; omega
      · omega
    clear u1 u2 hokc hbal cut hs hdeep h0
    repeat (refine A1 ⟨?_⟩; intros)
    exact hgo _ _ (by (repeat (first | exact LeF.nil _ | refine LeF.cons (Le.refl _) ?_ | refine LeF.cons (Le.int (by omega)) ?_)))
  have m40 : ¬ (tx.getD j 0).toNat = 40 := fun h => c40 (u1.2 h)
  have hji : j ≠ i := fun e => c40 (by rw [e]; exact h40)
  have hd1 : 1 ≤ d := hdeep.resolve_left hji
  rw [if_neg c40] at hs
  by_cases c41 : tx.getD j 0 = 41
  case neg =>
    have m41 : ¬ (tx.getD j 0).toNat = 41 := fun h => c41 (u2.2 h)
    rw [if_neg c41] at hs
    have hdd : d' = d := by omega
    subst hdd
    replace hgo := hgo (by omega)
    clear u1 u2 hokc hbal cut hs hdeep h0
    repeat (refine A1 ⟨?_⟩; intros)
    exact hgo _ _ (by (repeat (first | exact LeF.nil _ | refine LeF.cons (Le.refl _) ?_ | refine LeF.cons (Le.int (by omega)) ?_)))
  have n41 := u2.1 c41
  rw [if_pos c41] at hs
  have hdd : d' = d - 1 := by omega
  subst hdd
  by_cases hz0 : d = 1
  case neg =>
    replace hgo := hgo (by omega)
    clear u1 u2 hokc hbal cut hs hdeep h0
    repeat (refine A1 ⟨?_⟩; intros)
    exact hgo _ _ (by (repeat (first | exact LeF.nil _ | refine LeF.cons (Le.refl _) ?_ | refine LeF.cons (Le.int (by omega)) ?_)))
  subst hz0
  obtain ⟨g1, g2, g3⟩ := cut i j (by omega) hjl h40
  clear u1 u2 hokc hbal cut hs hdeep h0 hgo
  have hl1 : (tx.take i).length = i := by rw [List.length_take]; omega
  have hl2 : ((tx.take j).drop (i + 1)).length = j - (i + 1) := by rw [List.length_drop, List.length_take]; omega
  have hl3 : (tx.drop (j + 1)).length = tx.length - (j + 1) := List.length_drop
  have hl12 : (tx.take i ++ (tx.take j).drop (i + 1)).length = i + (j - (i + 1)) := by rw [List.length_append, hl1, hl2]
  unfold prS at g1
  cases hlx : lexT (cut2 tx i j) with
  | none =>
    rw [hlx] at g1
    simp only at g1
    repeat (refine A1 ⟨?_⟩; intros)
    refine Wdo (ov_ssl (i := 0) (j := i) rfl (fun _ h => by cases h) (fun _ => rfl) (fun y h => ⟨_, _, by cases h; exact rfl, rfl⟩) (fun h => by cases h) (by omega) (by omega)) ?_
    rw [List.drop_zero]
    repeat (refine A1 ⟨?_⟩; intros)
    refine Wdo (ov_ssl (i := i + 1) (j := j) rfl (fun y h => ⟨_, _, by cases h; exact rfl, by omega⟩) (fun h => by cases h) (fun y h => ⟨_, _, by cases h; exact rfl, rfl⟩) (fun h => by cases h) (by omega) (by omega)) ?_
    repeat (refine A1 ⟨?_⟩; intros)
    refine Wdo (ov_ssl (i := j + 1) (j := tx.length) rfl (fun y h => ⟨_, _, by cases h; exact rfl, by omega⟩) (fun h => by cases h) (fun _ h => by cases h) (fun _ => rfl) (by omega) (by omega)) ?_
    rw [List.take_length]
    repeat (first | (refine A1 ⟨?_⟩; intros) | (refine Wcx (g1) ?_) | (refine Wdcx (g1) ?_) | (refine Wcgx (g1) ?_) | (refine Wdcgx (g1) ?_))
    repeat (first | (refine A1 ⟨?_⟩; intros) | (refine Wcx (kn) ?_) | (refine Wdcx (kn) ?_) | (refine Wcgx (kn) ?_) | (refine Wdcgx (kn) ?_))
    refine Wog (ov_ineF (s := Ab.top) (by kernel_rfl) rfl) ?_
    repeat (first | (refine A1 ⟨?_⟩; intros) | (refine Wcx (kn) ?_) | (refine Wdcx (kn) ?_) | (refine Wcgx (kn) ?_) | (refine Wdcgx (kn) ?_))
    ((first | refine endR ?_ | refine endN ?_); exact end1 (RV.tmp rfl) (Le.refl _))
  | some ts =>
    rw [hlx] at g1
    simp only at g1
    cases hp : prsAll ts with
    | none =>
      rw [hp] at g1
      simp only at g1
      repeat (refine A1 ⟨?_⟩; intros)
      refine Wdo (ov_ssl (i := 0) (j := i) rfl (fun _ h => by cases h) (fun _ => rfl) (fun y h => ⟨_, _, by cases h; exact rfl, rfl⟩) (fun h => by cases h) (by omega) (by omega)) ?_
      rw [List.drop_zero]
      repeat (refine A1 ⟨?_⟩; intros)
      refine Wdo (ov_ssl (i := i + 1) (j := j) rfl (fun y h => ⟨_, _, by cases h; exact rfl, by omega⟩) (fun h => by cases h) (fun y h => ⟨_, _, by cases h; exact rfl, rfl⟩) (fun h => by cases h) (by omega) (by omega)) ?_
      repeat (refine A1 ⟨?_⟩; intros)
      refine Wdo (ov_ssl (i := j + 1) (j := tx.length) rfl (fun y h => ⟨_, _, by cases h; exact rfl, by omega⟩) (fun h => by cases h) (fun _ h => by cases h) (fun _ => rfl) (by omega) (by omega)) ?_
      rw [List.take_length]
      repeat (first | (refine A1 ⟨?_⟩; intros) | (refine Wcx (g1) ?_) | (refine Wdcx (g1) ?_) | (refine Wcgx (g1) ?_) | (refine Wdcgx (g1) ?_))
      repeat (first | (refine A1 ⟨?_⟩; intros) | (refine Wcx (kn) ?_) | (refine Wdcx (kn) ?_) | (refine Wcgx (kn) ?_) | (refine Wdcgx (kn) ?_))
      refine Wog (ov_ineF (s := Ab.top) (by kernel_rfl) rfl) ?_
      repeat (first | (refine A1 ⟨?_⟩; intros) | (refine Wcx (kn) ?_) | (refine Wdcx (kn) ?_) | (refine Wcgx (kn) ?_) | (refine Wdcgx (kn) ?_))
      ((first | refine endR ?_ | refine endN ?_); exact end1 (RV.tmp rfl) (Le.refl _))
    | some q =>
      obtain ⟨A, y⟩ := q
      rw [hp] at g1
      simp only at g1
      have hsame := parens_cut hrn (by rw [hpt]; exact g3) hlx hp
      obtain ⟨b1, b2⟩ := prsAll_bd hp
      have b3 := lexF_len _ _ _ _ hlx
      have hAl : A.length ≤ 1000000 := by omega
      have hAs : ∀ n ∈ A, n.sh := fun n hn => by
        obtain ⟨e1, e2, e3, e4⟩ := b2 n hn
        refine ⟨?_, ?_, ?_, ?_⟩ <;> simp only [e1, e2, e3, e4] <;> exact ⟨Nat.zero_le _, Nat.zero_le _⟩
      have c5 := same_pu ns A (by omega) hAl hsh hAs
      rw [hsame] at c5
      repeat (refine A1 ⟨?_⟩; intros)
      refine Wdo (ov_ssl (i := 0) (j := i) rfl (fun _ h => by cases h) (fun _ => rfl) (fun y h => ⟨_, _, by cases h; exact rfl, rfl⟩) (fun h => by cases h) (by omega) (by omega)) ?_
      rw [List.drop_zero]
      repeat (refine A1 ⟨?_⟩; intros)
      refine Wdo (ov_ssl (i := i + 1) (j := j) rfl (fun y h => ⟨_, _, by cases h; exact rfl, by omega⟩) (fun h => by cases h) (fun y h => ⟨_, _, by cases h; exact rfl, rfl⟩) (fun h => by cases h) (by omega) (by omega)) ?_
      repeat (refine A1 ⟨?_⟩; intros)
      refine Wdo (ov_ssl (i := j + 1) (j := tx.length) rfl (fun y h => ⟨_, _, by cases h; exact rfl, by omega⟩) (fun h => by cases h) (fun _ h => by cases h) (fun _ => rfl) (by omega) (by omega)) ?_
      rw [List.take_length]
      repeat (first | (refine A1 ⟨?_⟩; intros) | (refine Wcx (g1) ?_) | (refine Wdcx (g1) ?_) | (refine Wcgx (g1) ?_) | (refine Wdcgx (g1) ?_))
      repeat (first | (refine A1 ⟨?_⟩; intros) | (refine Wcx (kn) ?_) | (refine Wdcx (kn) ?_) | (refine Wcgx (kn) ?_) | (refine Wdcgx (kn) ?_) | (refine Wcx (c5) ?_) | (refine Wdcx (c5) ?_) | (refine Wcgx (c5) ?_) | (refine Wdcgx (c5) ?_))
      ((first | refine endR ?_ | refine endN ?_); exact end1 (RV.tmp rfl) (Le.refl _))
end Go.Ab
/- From the reading of a law's arguments to what the abstract machine says of them; the frame of a law's row. -/
namespace Go.Ab
open Go.Proofs
set_option linter.unusedSectionVars false
set_option linter.unusedVariables false
set_option linter.unusedSimpArgs false
variable [Base]
open Go.ChangeShapes Go.WideShapes Go.ChangeAt Go.RowKit
section
variable {H : Type} {enc : TypeId × Value → H} {P : Program} {w : World} {sp : Nat → Bool} {held : Bool}
/-- the memory that lies there when a law is called -/
def memOf (w : World) : Mem := fun b => w.heap[b]?
theorem memOf_in (w : World) (h : Base.mem.le (memOf w)) : MemIn (memOf w) w := ⟨fun _ _ h => h, h⟩
/-- whatever reads as a datum of this type has cells of one of these shapes -/
def Opn (enc : TypeId × Value → H) (P : Program) (w : World) (sp : Nat → Bool) (held : Bool) (T : TypeId) (G : List SV → Prop) : Prop :=
  ∀ fuel cs x, DataW.trod enc P w 0 sp held fuel T cs = some x → ∃ svs, G svs ∧ All2 (memOf w) svs cs
/-- shapes laid one behind the other -/
inductive Cat : List (List SV → Prop) → List SV → Prop
  | nil : Cat [] []
  | cons {G : List SV → Prop} {Gs : List (List SV → Prop)} {a b : List SV} (h : G a) (k : Cat Gs b) : Cat (G :: Gs) (a ++ b)
def GInt (k : IntKind) : List SV → Prop := fun l => ∃ n, (Lit.int k n).wf = true ∧ l = [lit (.int k n)]
def GInts (k : IntKind) : List SV → Prop := fun l => ∃ zs : List Int, (∀ z ∈ zs, (Lit.int k z).wf = true) ∧ zs.length ≤ maxLen ∧ l = [nsl k zs]
def GSl (k : Nat) (G : List SV → Prop) : List SV → Prop := fun l => ∃ es : List (List SV), (∀ e ∈ es, G e ∧ e.length = k) ∧ es.length ≤ maxLen ∧ l = [sl es.flatten es.length]
theorem all2_one {m : Mem} {s : SV} {v : Value} (h : s.p m v) (f : v.oneCell' = true) : All2 m [s] [v] := ⟨⟨h, f⟩, trivial⟩
theorem opn_int {T : TypeId} {k : IntKind} [hT : TIn P T k] : Opn enc P w sp held T (GInt k) := fun fuel cs x h => by
  obtain ⟨n, rfl, _, hw⟩ := DataW.trod_int hT.h h
  exact ⟨_, ⟨n, hw, rfl⟩, all2_one (lit_p.2 rfl) rfl⟩
/-- the cells of a struct's fields, one behind the other -/
def laid (P : Program) : List Field → Nat → Nat → Bool
  | [], o, n => Nat.beq o n
  | f :: fs, o, n => Nat.beq f.offset o && laid P fs (o + P.cellsOf f.type) n
inductive Opns (enc : TypeId × Value → H) (P : Program) (w : World) (sp : Nat → Bool) (held : Bool) : List TypeId → List (List SV → Prop) → Prop
  | nil : Opns enc P w sp held [] []
  | cons {T : TypeId} {G : List SV → Prop} {Ts : List TypeId} {Gs : List (List SV → Prop)} (h : Opn enc P w sp held T G) (k : Opns enc P w sp held Ts Gs) : Opns enc P w sp held (T :: Ts) (G :: Gs)
theorem cells_get {a : Addr} {n : Nat} {cs : List Value} (h : w.cells? 0 a n = some cs) : cs.length = n ∧ ∀ j, j < n → w.cell? (a.add j) = cs[j]? := by
  unfold World.cells? at h
  rw [if_pos (Nat.zero_le _)] at h
  have hl := mapM_some_length h
  refine ⟨by simpa using hl, fun j hj => ?_⟩
  have := mapM_some_get h j j (by simp [hj])
  simpa using this
theorem flat_range {m : Mem} {f : Nat → List SV} {k : Nat} {vs : List Value} : ∀ {n : Nat}, (∀ i, i < n → (f i).length = k ∧ All2 m (f i) ((vs.drop (i * k)).take k)) → All2 m ((List.range n).map f).flatten (vs.take (n * k))
  | 0, _ => by simp [All2]
  | n + 1, h => by
    have h1 := flat_range (n := n) fun i hi => h i (by omega)
    have h2 := (h n (by omega)).2
    have := h1.append h2
    rw [List.range_succ, List.map_append, List.flatten_append, show (n + 1) * k = n * k + k from by rw [Nat.add_mul, Nat.one_mul], List.take_add]
    simpa using this
theorem opn_slice {T e : TypeId} {k : Nat} {G : List SV → Prop} [hT : TSl P T e] (hk : P.cellsOf e = k) (hk0 : 0 < k) (hG : Opn enc P w sp held e G) : Opn enc P w sp held T (GSl k G) := fun fuel cs x h => by
  rcases Deep.open_slice hT.h h with ⟨rfl, _⟩ | ⟨a, len, cap, m, n, Dd, Pl, rfl, _, hlc, hcm, hm, _, hx⟩
  · exact ⟨_, ⟨[], by simp, by simp, rfl⟩, all2_one (sl_mk (by simp) (by simp [maxLen]) (.inl rfl)) rfl⟩
  · have hlm : len ≤ m := by rw [hm]; split <;> omega
    have hcell : ∀ i, i < len → ∃ l, G l ∧ l.length = k ∧ ∃ cs', w.cells? 0 (a.add (i * k)) k = some cs' ∧ All2 (memOf w) l cs' := fun i hi => by
      obtain ⟨cs', h1, h2⟩ := hx i (by omega)
      rw [hk] at h1
      obtain ⟨l, g1, g2⟩ := hG _ _ _ h2
      exact ⟨l, g1, by rw [← g2.length, (cells_get h1).1], cs', h1, g2⟩
    have hch : ∀ i : Nat, ∃ l, i < len → G l ∧ l.length = k ∧ ∃ cs', w.cells? 0 (a.add (i * k)) k = some cs' ∧ All2 (memOf w) l cs' := fun i => by
      by_cases hi : i < len
      · obtain ⟨l, hl⟩ := hcell i hi
        exact ⟨l, fun _ => hl⟩
      · exact ⟨[], fun h => absurd h hi⟩
    obtain ⟨f, hf⟩ := Classical.axiomOfChoice hch
    refine ⟨_, ⟨(List.range len).map f, fun l hl => ?_, by simp; omega, rfl⟩, all2_one (v := .slice (some a) len cap) ?_ rfl⟩
    · obtain ⟨i, hi, rfl⟩ := List.mem_map.1 hl
      have := hf i (by simpa using hi)
      exact ⟨this.1, this.2.1⟩
    · rw [List.length_map, List.length_range]
      refine sl_mk hlc hcm ?_
      rcases Nat.eq_zero_or_pos len with h0 | h0
      · left; subst h0; rfl
      · right
        obtain ⟨_, hl0, cs0, hc0, _⟩ := hf 0 h0
        have hcc := (cells_get hc0).2 0 hk0
        rw [Nat.zero_mul] at hcc
        have hcl := (cells_get hc0).1
        rw [List.getElem?_eq_getElem (by omega)] at hcc
        obtain ⟨b, off, spot⟩ := a
        have hs : spot = none := by simpa [Addr.add] using World.cell?_spot hcc
        subst hs
        simp only [add_none, Nat.add_zero] at hcc
        have hb : ∃ arr T fz, w.heap[b]? = some (.cells arr T fz) := by
          unfold World.cell? at hcc
          cases hbb : w.heap[b]? with
          | none => simp [hbb] at hcc
          | some o => cases o with
            | cells arr T fz => exact ⟨arr, T, fz, rfl⟩
            | _ => simp [hbb] at hcc
        obtain ⟨arr, T', fz, hb⟩ := hb
        refine ⟨b, off, rfl, arr, T', fz, hb, ?_⟩
        have hfl : ((List.range len).map f).flatten.length = len * k := by
          have : ∀ n, n ≤ len → ((List.range n).map f).flatten.length = n * k := by
            intro n
            induction n with
            | zero => intro _; simp
            | succ n ih => intro hn; rw [List.range_succ, List.map_append, List.flatten_append, List.length_append, ih (by omega)]; simp [(hf n (by omega)).2.1, Nat.add_mul]
          exact this len (Nat.le_refl _)
        rw [hfl]
        refine flat_range fun i hi => ?_
        obtain ⟨_, hl, cs', hc, ha⟩ := hf i hi
        refine ⟨hl, ?_⟩
        have hcs : cs' = ((arr.toList.drop off).drop (i * k)).take k := by
          obtain ⟨g1, g2⟩ := cells_get hc
          apply List.ext_getElem?
          intro j
          by_cases hj : j < k
          · have h1 := g2 j hj
            simp only [add_none] at h1
            rw [cell_of w b _ arr _ _ hb] at h1
            rw [List.getElem?_take_of_lt hj, List.getElem?_drop, List.getElem?_drop, ← h1]
            simp [Nat.add_assoc]
          · rw [List.getElem?_eq_none (by omega), List.getElem?_eq_none (by rw [List.length_take]; omega)]
        rw [← hcs]; exact ha
theorem opn_ints {T e : TypeId} {k : IntKind} [hT : TSl P T e] [hE : TIn P e k] (hk : P.cellsOf e = 1) : Opn enc P w sp held T (GInts k) := fun fuel cs x h => by
  obtain ⟨svs, ⟨es, hes, hl, rfl⟩, ha⟩ := opn_slice (k := 1) hk (by omega) (opn_int (k := k)) fuel cs x h
  refine ⟨_, ?_, ha⟩
  have : ∃ zs : List Int, (∀ z ∈ zs, (Lit.int k z).wf = true) ∧ es = zs.map fun z => [lit (.int k z)] := by
    clear ha hl
    induction es with
    | nil => exact ⟨[], by simp, rfl⟩
    | cons e es ih =>
      obtain ⟨zs, h1, h2⟩ := ih fun x hx => hes x (by simp [hx])
      obtain ⟨⟨z, hz, rfl⟩, _⟩ := hes e (by simp)
      exact ⟨z :: zs, by simpa using ⟨hz, h1⟩, by rw [h2]; rfl⟩
  obtain ⟨zs, h1, rfl⟩ := this
  refine ⟨zs, h1, by simpa using hl, ?_⟩
  have hfl : (zs.map fun z => [lit (.int k z)]).flatten = zs.map fun z => lit (.int k z) := by
    clear hl hes ha h1
    induction zs with
    | nil => rfl
    | cons z zs ih => simp [ih]
  rw [hfl, List.length_map]
  unfold nsl; rfl
end
end Go.Ab
/- The rows of this seat's laws: what is common to them. -/
namespace Go.Ab
open Go.Proofs
set_option linter.unusedSectionVars false
set_option linter.unusedVariables false
set_option linter.unusedSimpArgs false
variable [Base]
open Go.ChangeShapes Go.WideShapes Go.ChangeAt Go.RowKit
theorem calls_of {P : Program} {f : FuncId} {args : List SV} {W : World} {vs : List Value} (hB : Base.mem.le (memOf W)) (h : Pu P f args (lit (.bool true))) (ha : ArgsOk (memOf W) args vs) :
    Calls P f vs.toArray W fun e w' => e = .returned (.bool true) ∧ Below W.heap.size W w' := by
  unfold Pu at h
  refine (h.2 _ W vs (memOf_in W hB) ha).mono ?_
  rintro e w' ⟨v, m', rfl, hv, _, hr⟩
  rw [lit_p] at hv
  subst hv
  exact ⟨rfl, hr.os, hr.tape, hr.output, hr.size, fun k hk => hr.block k hk (by simp)⟩
theorem own0 : ownKnob Tryz.prog.godebug = none := by kernel_rfl
theorem laidOut0 : laidOutB Tryz.prog = true := by kernel_rfl
section
variable {H : Type} {enc : TypeId × Value → H} {W : World} {sp : Nat → Bool} {held : Bool}
end
end Go.Ab
/- Rows that list package variables: what the list says to the abstract machine. -/
namespace Go.Ab
open Go.Proofs
set_option linter.unusedSectionVars false
set_option linter.unusedVariables false
set_option linter.unusedSimpArgs false
variable [Base]
open Go.ChangeShapes Go.WideShapes Go.ChangeAt Go.RowKit
theorem starE : "*" ++ "errors.errorString" = "*errors.errorString" := by decide
theorem rowE (u : TypeId) (h : (Tryz.prog).typeName? 3 u = some "*errors.errorString") : u = 330 :=
  typeName_ptr_named (nm := "errors.errorString") (by rw [starE]; kernel_rfl) (by kernel_rfl) (by decide) u (by rw [starE]; exact h)
/-- a listed sentinel, at the head of a list -/
theorem sent_head {n : String} {text : List UInt8} {r : List (String × DataW Unit)} {W : World} {g : Nat} (h : laidMet Tryz.prog ((n, .iface "*errors.errorString" (.ptr (.agg [.lit (.string text)]))) :: r) W)
    (hg : (Tryz.prog).globalNamed n = some g) (ht : ((Tryz.prog).globals[g]?).map (·.type) = some 38) : ∃ (a : Addr) (T : TypeId) (fz : Nat × Nat), W.heap[g]? = some (.cells #[.iface 330 (.pointer (some a))] T fz) := by
  obtain ⟨a, s, hv, _⟩ := laid_sentinel (tp := 330) h hg ht Tryz.underlying38 rowE Tryz.underlying330 Tryz.underlying332 rfl rfl Tryz.underlying9 (by kernel_rfl) (by kernel_rfl)
  unfold World.var? at hv
  rw [hg] at hv
  simp only [Option.bind_some] at hv
  cases hh : W.heap[g]? with
  | none => rw [hh] at hv; cases hv
  | some o =>
    rw [hh] at hv
    cases o with
    | cells cs T fz =>
      simp only [Option.some.injEq] at hv
      subst hv
      exact ⟨a, T, fz, rfl⟩
    | _ => cases hv
/-- the memory of a call, for a whole law -/
abbrev baseOf (W : World) : Base := ⟨memOf W⟩
end Go.Ab
/- Reading a list of parts of expressions: what the abstract machine says of it. -/
namespace Go.Ab
open Go.Proofs
set_option linter.unusedSectionVars false
set_option linter.unusedVariables false
set_option linter.unusedSimpArgs false
variable [Base]
open Go.ChangeShapes Go.WideShapes Go.ChangeAt Go.RowKit
section
variable {H : Type} {enc : TypeId × Value → H} {W : World} {sp : Nat → Bool} {held : Bool}
end
/-- a part as it may be read -/
def Nd.raw (n : Nd) : Prop := ((D n.a.n ∧ D n.a.d) ∧ (D n.b.n ∧ D n.b.d) ∧ (D n.c.n ∧ D n.c.d) ∧ (D n.e.n ∧ D n.e.d)) ∧ n.nm.length ≤ 9223372036854775807 ∧ (i64R n.k ∧ i64R n.op ∧ i64R n.x ∧ i64R n.y)
theorem gint_i64 {l : List SV} (h : GInt .i64 l) : ∃ z, i64R z ∧ l = [lit (.int .i64 z)] := by
  obtain ⟨z, hz, rfl⟩ := h
  refine ⟨z, ?_, rfl⟩
  simp only [Lit.wf, IntKind.min, IntKind.max, IntKind.signed, IntKind.bits, Bool.and_eq_true, decide_eq_true_eq] at hz
  unfold i64R
  simp at hz
  omega
end Go.Ab
/- Reading bytes and lists of ints: their bounds. -/
namespace Go.Ab
open Go.Proofs
set_option linter.unusedSectionVars false
set_option linter.unusedVariables false
set_option linter.unusedSimpArgs false
variable [Base]
open Go.ChangeShapes Go.WideShapes Go.ChangeAt Go.RowKit
end Go.Ab
