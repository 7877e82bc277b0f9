/- Texts laid one behind the other: AfRL, Open, RowKit, LaidKit, RingOpen. -/
import Derived.Test.YtjdnfbhbdfokcaaGreatDoorB21
import Derived.Test.YtjdnfbhbdfokcaaGreatDoorB16
import Derived.Test.YtjdnfbhbdfokcaaGreatDoorB03
import Derived.Test.YtjdnfbhbdfokcaaGreatDoorB04
import Derived.ProofKit
import Derived.OpenShut
import Derived.ChangeOld
import Derived.Below
import Derived.OpenVars
import Derived.Deep.Slices
import Derived.Test.YtjdnfbhbdfokcaaGreatDoorB13
import Derived.WalkKit
import Derived.Test.YtjdnfbhbdfokcaaGreatDoorB10
import Derived.Stop.LaidErr
import Derived.LaidMore
import Derived.Deep.DeepHandedRow
import Derived.Deep.DeepWitnessRowRef
import Derived.Test.YtjdnfbhbdfokcaaGreatDoorB17
set_option linter.unusedSectionVars false
set_option linter.unusedVariables false
set_option linter.unusedSimpArgs false
namespace Go.Ab
open Go.Proofs
variable [Base]
theorem bs1l {P : Program} {F : Fr} {H : LH} {ty T e : TypeId} {by_ : Nat} {z : List SV} {g : Bool} [hS : TSl P T e] [hT : TY P e 1 by_ z g] {x : Operand} (hx : ev F x = lit (.slice none 0 0)) : OpV P (.buildSlice T 1 [(0, x)].toArray) ty F H (sl [lit (.slice none 0 0)] 1) :=
  ov_bs1 (Parts.cons hx inferInstance Parts.nil)
theorem RL.sh_ok {l : RL} (h1 : D l.x) (h2 : D l.y) (h3 : D l.z) (h : l.sh) : l.ok 3 := ⟨h1, h2, h3, h l.x (by simp), h l.y (by simp), h l.z (by simp)⟩
theorem chk_cases {ps : List (RQ × RQ)} : (ps.all nrmP = false ∧ chk ps = 2) ∨ (ps.all nrmP = true ∧ (srt (ps.map rvl)).length < 3 ∧ chk ps = 3) ∨ (ps.all nrmP = true ∧ 3 ≤ (srt (ps.map rvl)).length ∧ (∃ i, i < (ps.map rvl).length ∧ badE (ps.map rvl) i = true) ∧ chk ps = 3) ∨
    (ps.all nrmP = true ∧ 3 ≤ (srt (ps.map rvl)).length ∧ (∀ i, i < (ps.map rvl).length → badE (ps.map rvl) i = false) ∧ chk ps = 0) := by
  unfold chk
  cases h : ps.all nrmP with
  | false => exact .inl ⟨rfl, if_pos rfl⟩
  | true =>
    right
    rw [if_neg (by decide)]
    by_cases h3 : (srt (ps.map rvl)).length < 3
    · exact .inl ⟨rfl, h3, if_pos h3⟩
    · right
      rw [if_neg h3]
      have hl : (ps.map rvl).length = ps.length := List.length_map ..
      cases ha : (List.range ps.length).any (badE (ps.map rvl)) with
      | true =>
        refine .inl ⟨rfl, by omega, ?_, if_pos rfl⟩
        obtain ⟨i, hi, hb⟩ := List.any_eq_true.1 ha
        exact ⟨i, by rw [hl]; exact List.mem_range.1 hi, hb⟩
      | false =>
        refine .inr ⟨rfl, by omega, fun i hi => ?_, if_neg (by decide)⟩
        have := List.any_eq_false.1 ha i (List.mem_range.2 (by rw [← hl]; exact hi))
        simpa using this
theorem ringAns [PowTab] [Sent 0] [Sent 3] (ms : List SV) (ps : List (RQ × RQ)) (hl : ps.length ≤ 8) (hh : ∀ p ∈ ps, p.1.ok 3 ∧ p.2.ok 3) (hn : chk ps ≠ 0) :
    ∃ g, Pu Tryz.prog 8 [ag ms, raws ps] (noRg g) ∧ Pu Tryz.prog 14 [lit (.int .i64 (chk ps : Nat))] (lit (sent g)) := by
  have hht : ∀ p ∈ ps.map rvl, ht p.1 ≤ 100000 ∧ ht p.2 ≤ 100000 := fun p hp => by
    obtain ⟨q, hq, rfl⟩ := List.mem_map.1 hp
    obtain ⟨h1, h2⟩ := hh q hq
    have := ht_v h1
    have := ht_v h2
    simp only [rvl]
    omega
  have hlm : (ps.map rvl).length = ps.length := List.length_map ..
  rcases chk_cases (ps := ps) with ⟨h1, h2⟩ | ⟨h1, h2, h3⟩ | ⟨h1, h2, h3, h4⟩ | ⟨_, _, _, h4⟩
  · rw [h2]
    exact ⟨_, aRing_bad (ringOf_bad ps (by omega) hh (by omega) h1), ringKind_pu.1⟩
  · rw [h3, all_nrm hh h1]
    exact ⟨_, aRing_bad (ringOf_few _ (by omega) hht h2), ringKind_pu.2⟩
  · rw [h4, all_nrm hh h1]
    exact ⟨_, aRing_bad (ringOf_edge _ (by omega) hht h2 h3), ringKind_pu.2⟩
  · exact absurd h4 hn
abbrev mId : M6 Rat := ⟨1, 0, 0, 0, 1, 0⟩
abbrev mSg (sg : Bool) : List SV := if sg then mzc else mqc mId
theorem mId_le : mId.le 5 := by
  have h0 := ht_zero
  have h1 := ht_one
  exact ⟨by show ht (1 : Rat) ≤ 5; omega, by show ht (0 : Rat) ≤ 5; omega, by show ht (0 : Rat) ≤ 5; omega, by show ht (0 : Rat) ≤ 5; omega, by show ht (1 : Rat) ≤ 5; omega, by show ht (0 : Rat) ≤ 5; omega⟩
theorem mId_det : mId.det ≠ 0 := by unfold M6.det; decide +kernel
theorem lineAns [Sent 0] [Sent 1] (l : RL) (hok : l.ok 3) (sg : Bool) : ∃ y1 y2 y3 y4 y5 y6 f z1 z2 z3 z4 z5 z6 b, Pu Tryz.prog 9 [ag (mSg sg), lraw l] (Ab.tup [ag [y1, y2, y3, y4, y5, y6], f]) ∧ Pu Tryz.prog 15 [lraw l] (Ab.tup [ag [z1, z2, z3, z4, z5, z6], lit (.bool b)]) ∧
    ((b = false ∧ f = lit (sent 0)) ∨ (b = true ∧ f = if sg then lit (sent 1) else lit .nilIface)) := by
  have hle := RL.le hok
  cases hn : l.nrm with
  | false => exact ⟨_, _, _, _, _, _, _, _, _, _, _, _, _, _, aLine_bad (lnOf_raw l hok (by omega) hn), rln_bad l hok (by omega) hn, .inl ⟨rfl, rfl⟩⟩
  | true =>
    have r := rln_pu l hok (by omega) hn
    have e := RL.eq hok hn
    by_cases ho : l.v.ok
    · rw [decide_eq_true ho] at r
      cases sg with
      | false => exact ⟨_, _, _, _, _, _, _, _, _, _, _, _, _, _, by rw [e]; exact aLine_t mId_le (hle.to (by omega)) (by omega) (by omega) mId_det ho, r, .inr ⟨rfl, rfl⟩⟩
      | true => exact ⟨_, _, _, _, _, _, _, _, _, _, _, _, _, _, by rw [e]; exact aLine_s regular_z ho (hle.to (by omega)), r, .inr ⟨rfl, rfl⟩⟩
    · rw [decide_eq_false ho] at r
      exact ⟨_, _, _, _, _, _, _, _, _, _, _, _, _, _, by rw [e]; exact aLine_bad (lnOf_bad ho (hle.to (by omega))), r, .inl ⟨rfl, rfl⟩⟩
theorem ringAns2 [PowTab] [Sent 0] [Sent 3] [Sent 1] (ps : List (RQ × RQ)) (hl : ps.length ≤ 8) (hh : ∀ p ∈ ps, p.1.ok 3 ∧ p.2.ok 3) (sg : Bool) : ∃ x e, Pu Tryz.prog 8 [ag (mSg sg), raws ps] (Ab.tup [x, e]) ∧
    ((chk ps = 0 ∧ e = if sg then lit (sent 1) else lit .nilIface) ∨ (chk ps ≠ 0 ∧ ∃ g, e = erx g ∧ Pu Tryz.prog 14 [lit (.int .i64 (chk ps : Nat))] (lit (sent g)))) := by
  by_cases h0 : chk ps = 0
  · have hht : ∀ p ∈ ps.map rvl, ht p.1 ≤ 5 ∧ ht p.2 ≤ 5 := fun p hp => by
      obtain ⟨q, hq, rfl⟩ := List.mem_map.1 hp
      obtain ⟨h1, h2⟩ := hh q hq
      have := ht_v h1
      have := ht_v h2
      simp only [rvl]
      omega
    have hlm : (ps.map rvl).length = ps.length := List.length_map ..
    rcases chk_cases (ps := ps) with ⟨_, h⟩ | ⟨_, _, h⟩ | ⟨_, _, _, h⟩ | ⟨h1, h2, h3, _⟩
    · rw [h] at h0; cases h0
    · rw [h] at h0; cases h0
    · rw [h] at h0; cases h0
    · cases sg with
      | false => exact ⟨_, _, by rw [all_nrm hh h1]; exact aRing_t mId_le (by omega) mId_det (by omega) hht h2 h3, .inl ⟨h0, rfl⟩⟩
      | true => exact ⟨_, _, by rw [all_nrm hh h1]; exact aRing_s regular_z (by omega) (fun p hp => by have := hht p hp; omega) h2 h3, .inl ⟨h0, rfl⟩⟩
  · obtain ⟨g, h1, h2⟩ := ringAns (mSg sg) ps hl hh h0
    exact ⟨_, _, h1, .inr ⟨h0, g, rfl, h2⟩⟩
set_option maxRecDepth 20000 in
set_option maxHeartbeats 4000000 in
theorem refuses26_pu [PowTab] [Sent 0] [Sent 3] [Sent 1] (ps : List (RQ × RQ)) (hps : ps.length ≤ 9223372036854775807) (hD : ∀ p ∈ ps, (D p.1.n ∧ D p.1.d) ∧ D p.2.n ∧ D p.2.d) (l : RL) (d1 : D l.x) (d2 : D l.y) (d3 : D l.z) (sg : Bool) :
    Pu Tryz.prog 3 [raws ps, lraw l, lit (.bool sg)] (lit (.bool true)) := by
  by_cases h8 : ps.length ≤ 8
  case neg =>
    refine Pu.intro Tryz.func3 rfl (by kernel_rfl) fun C => ?_
    repeat (first | (refine A1 ⟨?_⟩; intros) | (refine Wcx (known26) ?_) | (refine Wdcx (known26) ?_) | (refine Wcgx (known26) ?_) | (refine Wdcgx (known26) ?_))
    ((first | refine endR ?_ | refine endN ?_); exact end1 (RV.tmp rfl) (Le.refl _))
  by_cases hsh : ∀ p ∈ ps, p.1.short 3 ∧ p.2.short 3
  case neg =>
    have c := smallP_f 3 (by omega) ps (by omega) hsh
    refine Pu.intro Tryz.func3 rfl (by kernel_rfl) fun C => ?_
    repeat (first | (refine A1 ⟨?_⟩; intros) | (refine Wcx (c) ?_) | (refine Wdcx (c) ?_) | (refine Wcgx (c) ?_) | (refine Wdcgx (c) ?_) | (refine Wcx (known26) ?_) | (refine Wdcx (known26) ?_) | (refine Wcgx (known26) ?_) | (refine Wdcgx (known26) ?_))
    ((first | refine endR ?_ | refine endN ?_); exact end1 (RV.tmp rfl) (Le.refl _))
  have c1 := smallP_t 3 (by omega) ps (by omega) hsh
  have c2 := smallL_pu l
  by_cases hls : l.sh
  case neg =>
    rw [decide_eq_false hls] at c2
    refine Pu.intro Tryz.func3 rfl (by kernel_rfl) fun C => ?_
    repeat (first | (refine Wo (bs1l rfl) ?_) | (refine Wdo (bs1l rfl) ?_) | (refine A1 ⟨?_⟩; intros) | (refine Wo (ov_bsN (s := lraw l) (ds := lrx l) rfl inferInstance) ?_) | (refine Wdo (ov_bsN (s := lraw l) (ds := lrx l) rfl inferInstance) ?_) | (refine Wog (ov_bsN (s := lraw l) (ds := lrx l) rfl inferInstance) ?_) | (refine Wdog (ov_bsN (s := lraw l) (ds := lrx l) rfl inferInstance) ?_) | (refine Wcx (c1) ?_) | (refine Wdcx (c1) ?_) | (refine Wcgx (c1) ?_) | (refine Wdcgx (c1) ?_) | (refine Wcx (c2) ?_) | (refine Wdcx (c2) ?_) | (refine Wcgx (c2) ?_) | (refine Wdcgx (c2) ?_) | (refine Wcx (known26) ?_) | (refine Wdcx (known26) ?_) | (refine Wcgx (known26) ?_) | (refine Wdcgx (known26) ?_))
    ((first | refine endR ?_ | refine endN ?_); exact end1 (RV.tmp rfl) (Le.refl _))
  rw [decide_eq_true hls] at c2
  have hok := RL.sh_ok d1 d2 d3 hls
  have hh : ∀ p ∈ ps, p.1.ok 3 ∧ p.2.ok 3 := fun p hp => ⟨⟨(hD p hp).1.1, (hD p hp).1.2, (hsh p hp).1.1, (hsh p hp).1.2⟩, (hD p hp).2.1, (hD p hp).2.2, (hsh p hp).2.1, (hsh p hp).2.2⟩
  have c3 := check_pu ps (by omega) hh (by omega)
  have c4 := identity_pu
  have i1 := is_pu 0
  have i2 := is_pu 1
  have i3 := isNilA_pu 1
  obtain ⟨x, e, r1, rr⟩ := ringAns2 ps h8 hh sg
  obtain ⟨y1, y2, y3, y4, y5, y6, f, z1, z2, z3, z4, z5, z6, b, l1, l2, ll⟩ := lineAns l hok sg
  have t1 := aTree0_pu (mSg sg)
  have t2 := aOut0_pu (mSg sg)
  clear hh hsh hls hok hD d1 d2 d3
  generalize hc : chk ps = n at *
  clear hc
  rcases rr with ⟨rfl, rfl⟩ | ⟨hn, g, rfl, r2⟩
  · rcases ll with ⟨rfl, rfl⟩ | ⟨rfl, rfl⟩
    all_goals
      cases sg
      all_goals
        refine Pu.intro Tryz.func3 rfl (by kernel_rfl) fun C => ?_
        repeat (first | (refine Wo (bs1l rfl) ?_) | (refine Wdo (bs1l rfl) ?_) | (refine A1 ⟨?_⟩; intros) | (refine Wo (ov_bsN (s := lraw l) (ds := lrx l) rfl inferInstance) ?_) | (refine Wdo (ov_bsN (s := lraw l) (ds := lrx l) rfl inferInstance) ?_) | (refine Wog (ov_bsN (s := lraw l) (ds := lrx l) rfl inferInstance) ?_) | (refine Wdog (ov_bsN (s := lraw l) (ds := lrx l) rfl inferInstance) ?_) | (refine Wcx (c1) ?_) | (refine Wdcx (c1) ?_) | (refine Wcgx (c1) ?_) | (refine Wdcgx (c1) ?_) | (refine Wcx (c2) ?_) | (refine Wdcx (c2) ?_) | (refine Wcgx (c2) ?_) | (refine Wdcgx (c2) ?_) | (refine Wcx (c3) ?_) | (refine Wdcx (c3) ?_) | (refine Wcgx (c3) ?_) | (refine Wdcgx (c3) ?_) | (refine Wcx (c4) ?_) | (refine Wdcx (c4) ?_) | (refine Wcgx (c4) ?_) | (refine Wdcgx (c4) ?_) | (refine Wcx (i1) ?_) | (refine Wdcx (i1) ?_) | (refine Wcgx (i1) ?_) | (refine Wdcgx (i1) ?_) | (refine Wcx (i2) ?_) | (refine Wdcx (i2) ?_) | (refine Wcgx (i2) ?_) | (refine Wdcgx (i2) ?_) | (refine Wcx (i3) ?_) | (refine Wdcx (i3) ?_) | (refine Wcgx (i3) ?_) | (refine Wdcgx (i3) ?_) | (refine Wcx (r1) ?_) | (refine Wdcx (r1) ?_) | (refine Wcgx (r1) ?_) | (refine Wdcgx (r1) ?_) | (refine Wcx (l1) ?_) | (refine Wdcx (l1) ?_) | (refine Wcgx (l1) ?_) | (refine Wdcgx (l1) ?_) | (refine Wcx (l2) ?_) | (refine Wdcx (l2) ?_) | (refine Wcgx (l2) ?_) | (refine Wdcgx (l2) ?_) | (refine Wcx (t1) ?_) | (refine Wdcx (t1) ?_) | (refine Wcgx (t1) ?_) | (refine Wdcgx (t1) ?_) | (refine Wcx (t2) ?_) | (refine Wdcx (t2) ?_) | (refine Wcgx (t2) ?_) | (refine Wdcgx (t2) ?_) | (refine Wcx (known26) ?_) | (refine Wdcx (known26) ?_) | (refine Wcgx (known26) ?_) | (refine Wdcgx (known26) ?_))
        ((first | refine endR ?_ | refine endN ?_); exact end1 (RV.tmp rfl) (Le.refl _))
  · have r3 := isX_pu g
    rcases ll with ⟨rfl, rfl⟩ | ⟨rfl, rfl⟩
    all_goals
      cases sg
      all_goals
        refine Pu.intro Tryz.func3 rfl (by kernel_rfl) fun C => ?_
        repeat (first | (refine Wo (bs1l rfl) ?_) | (refine Wdo (bs1l rfl) ?_) | (refine A1 ⟨?_⟩; intros) | (refine Wo (ov_bsN (s := lraw l) (ds := lrx l) rfl inferInstance) ?_) | (refine Wdo (ov_bsN (s := lraw l) (ds := lrx l) rfl inferInstance) ?_) | (refine Wog (ov_bsN (s := lraw l) (ds := lrx l) rfl inferInstance) ?_) | (refine Wdog (ov_bsN (s := lraw l) (ds := lrx l) rfl inferInstance) ?_) | (refine Wcx (c1) ?_) | (refine Wdcx (c1) ?_) | (refine Wcgx (c1) ?_) | (refine Wdcgx (c1) ?_) | (refine Wcx (c2) ?_) | (refine Wdcx (c2) ?_) | (refine Wcgx (c2) ?_) | (refine Wdcgx (c2) ?_) | (refine Wcx (c3) ?_) | (refine Wdcx (c3) ?_) | (refine Wcgx (c3) ?_) | (refine Wdcgx (c3) ?_) | (refine Wcx (c4) ?_) | (refine Wdcx (c4) ?_) | (refine Wcgx (c4) ?_) | (refine Wdcgx (c4) ?_) | (refine Wcx (i1) ?_) | (refine Wdcx (i1) ?_) | (refine Wcgx (i1) ?_) | (refine Wdcgx (i1) ?_) | (refine Wcx (i2) ?_) | (refine Wdcx (i2) ?_) | (refine Wcgx (i2) ?_) | (refine Wdcgx (i2) ?_) | (refine Wcx (i3) ?_) | (refine Wdcx (i3) ?_) | (refine Wcgx (i3) ?_) | (refine Wdcgx (i3) ?_) | (refine Wcx (r1) ?_) | (refine Wdcx (r1) ?_) | (refine Wcgx (r1) ?_) | (refine Wdcgx (r1) ?_) | (refine Wcx (r2) ?_) | (refine Wdcx (r2) ?_) | (refine Wcgx (r2) ?_) | (refine Wdcgx (r2) ?_) | (refine Wcx (r3) ?_) | (refine Wdcx (r3) ?_) | (refine Wcgx (r3) ?_) | (refine Wdcgx (r3) ?_) | (refine Wcx (l1) ?_) | (refine Wdcx (l1) ?_) | (refine Wcgx (l1) ?_) | (refine Wdcgx (l1) ?_) | (refine Wcx (l2) ?_) | (refine Wdcx (l2) ?_) | (refine Wcgx (l2) ?_) | (refine Wdcgx (l2) ?_) | (refine Wcx (t1) ?_) | (refine Wdcx (t1) ?_) | (refine Wcgx (t1) ?_) | (refine Wdcgx (t1) ?_) | (refine Wcx (t2) ?_) | (refine Wdcx (t2) ?_) | (refine Wcgx (t2) ?_) | (refine Wdcgx (t2) ?_) | (refine Wcx (known26) ?_) | (refine Wdcx (known26) ?_) | (refine Wcgx (known26) ?_) | (refine Wdcgx (known26) ?_))
        ((first | refine endR ?_ | refine endN ?_); exact end1 (RV.tmp rfl) (Le.refl _))
open Go.ChangeShapes Go.WideShapes Go.ChangeAt Go.RowKit
section
variable {H : Type} {enc : TypeId × Value → H} {P : Program} {w : World} {sp : Nat → Bool} {held : Bool}
def memOf (w : World) : Mem := fun b => w.heap[b]?
theorem memOf_in (w : World) (h : Base.mem.le (memOf w)) : MemIn (memOf w) w := ⟨fun _ _ h => h, h⟩
def Opn (enc : TypeId × Value → H) (P : Program) (w : World) (sp : Nat → Bool) (held : Bool) (T : TypeId) (G : List SV → Prop) : Prop :=
  ∀ fuel cs x, DataW.trod enc P w 0 sp held fuel T cs = some x → ∃ svs, G svs ∧ All2 (memOf w) svs cs
inductive Cat : List (List SV → Prop) → List SV → Prop
  | nil : Cat [] []
  | cons {G : List SV → Prop} {Gs : List (List SV → Prop)} {a b : List SV} (h : G a) (k : Cat Gs b) : Cat (G :: Gs) (a ++ b)
def GBool : List SV → Prop := fun l => ∃ b, l = [lit (.bool b)]
def GInt (k : IntKind) : List SV → Prop := fun l => ∃ n, (Lit.int k n).wf = true ∧ l = [lit (.int k n)]
def GNat : List SV → Prop := fun l => ∃ xs, D xs ∧ l = [dg xs]
def GInts (k : IntKind) : List SV → Prop := fun l => ∃ zs : List Int, (∀ z ∈ zs, (Lit.int k z).wf = true) ∧ zs.length ≤ maxLen ∧ l = [nsl k zs]
def GSl (k : Nat) (G : List SV → Prop) : List SV → Prop := fun l => ∃ es : List (List SV), (∀ e ∈ es, G e ∧ e.length = k) ∧ es.length ≤ maxLen ∧ l = [sl es.flatten es.length]
theorem all2_one {m : Mem} {s : SV} {v : Value} (h : s.p m v) (f : v.oneCell' = true) : All2 m [s] [v] := ⟨⟨h, f⟩, trivial⟩
theorem opn_bool {T : TypeId} [hT : TBo P T] : Opn enc P w sp held T GBool := fun fuel cs x h => by
  obtain ⟨b, rfl, _⟩ := DataW.trod_bool hT.h h
  exact ⟨_, ⟨b, rfl⟩, all2_one (lit_p.2 rfl) rfl⟩
theorem opn_int {T : TypeId} {k : IntKind} [hT : TIn P T k] : Opn enc P w sp held T (GInt k) := fun fuel cs x h => by
  obtain ⟨n, rfl, _, hw⟩ := DataW.trod_int hT.h h
  exact ⟨_, ⟨n, hw, rfl⟩, all2_one (lit_p.2 rfl) rfl⟩
def laid (P : Program) : List Field → Nat → Nat → Bool
  | [], o, n => Nat.beq o n
  | f :: fs, o, n => Nat.beq f.offset o && laid P fs (o + P.cellsOf f.type) n
inductive Opns (enc : TypeId × Value → H) (P : Program) (w : World) (sp : Nat → Bool) (held : Bool) : List TypeId → List (List SV → Prop) → Prop
  | nil : Opns enc P w sp held [] []
  | cons {T : TypeId} {G : List SV → Prop} {Ts : List TypeId} {Gs : List (List SV → Prop)} (h : Opn enc P w sp held T G) (k : Opns enc P w sp held Ts Gs) : Opns enc P w sp held (T :: Ts) (G :: Gs)
theorem opn_cat {n : Nat} : ∀ {fs : List Field} {Gs : List (List SV → Prop)} {o : Nat} {cs : List Value}, Opns enc P w sp held (fs.map (·.type)) Gs → laid P fs o cs.length = true →
    (∀ (i : Nat) (f : Field), fs[i]? = some f → ∃ x, DataW.trod enc P w 0 sp held n f.type ((cs.drop f.offset).take (P.cellsOf f.type)) = some x) →
    ∃ svs, Cat Gs svs ∧ All2 (memOf w) svs (cs.drop o)
  | [], _, o, cs, h, hl, _ => by
    cases h
    simp only [laid] at hl
    have := Nat.eq_of_beq_eq_true hl
    subst this
    exact ⟨[], .nil, by rw [List.drop_length]; trivial⟩
  | f :: fs, _, o, cs, h, hl, hx => by
    cases h with
    | cons h k =>
      simp only [laid, Bool.and_eq_true] at hl
      have ho := Nat.eq_of_beq_eq_true hl.1
      obtain ⟨x, hx0⟩ := hx 0 f rfl
      rw [ho] at hx0
      obtain ⟨s0, g0, a0⟩ := h _ _ _ hx0
      obtain ⟨s1, g1, a1⟩ := opn_cat k hl.2 fun i f' hf => hx (i + 1) f' (by simpa using hf)
      refine ⟨s0 ++ s1, .cons g0 g1, ?_⟩
      have := a0.append a1
      rwa [← List.drop_drop, List.take_append_drop] at this
theorem opn_struct {T : TypeId} {fs : Array Field} {Gs : List (List SV → Prop)} (hT : P.underlying T = some (.struct fs)) (hl : laid P fs.toList 0 (P.cellsOf T) = true) (ho : Opns enc P w sp held (fs.toList.map (·.type)) Gs) : Opn enc P w sp held T (Cat Gs) := fun fuel cs x h => by
  obtain ⟨xs, n, _, _, hc, hlen, hf⟩ := DataW.trod_struct hT h
  have := opn_cat (n := n) (cs := cs) ho (by rw [hc]; exact hl) fun i f hi => by
    have h1 := hf i f (by simpa using hi)
    have h2 : i < xs.length := by
      have := (List.getElem?_eq_some_iff.1 hi).1
      simp at this; omega
    rw [List.getElem?_eq_getElem h2] at h1
    exact ⟨_, h1⟩
  simpa using this
theorem cells_get {a : Addr} {n : Nat} {cs : List Value} (h : w.cells? 0 a n = some cs) : cs.length = n ∧ ∀ j, j < n → w.cell? (a.add j) = cs[j]? := by
  unfold World.cells? at h
  rw [if_pos (Nat.zero_le _)] at h
  have hl := mapM_some_length h
  refine ⟨by simpa using hl, fun j hj => ?_⟩
  have := mapM_some_get h j j (by simp [hj])
  simpa using this
theorem flat_range {m : Mem} {f : Nat → List SV} {k : Nat} {vs : List Value} : ∀ {n : Nat}, (∀ i, i < n → (f i).length = k ∧ All2 m (f i) ((vs.drop (i * k)).take k)) → All2 m ((List.range n).map f).flatten (vs.take (n * k))
  | 0, _ => by simp [All2]
  | n + 1, h => by
    have h1 := flat_range (n := n) fun i hi => h i (by omega)
    have h2 := (h n (by omega)).2
    have := h1.append h2
    rw [List.range_succ, List.map_append, List.flatten_append, show (n + 1) * k = n * k + k from by rw [Nat.add_mul, Nat.one_mul], List.take_add]
    simpa using this
theorem opn_slice {T e : TypeId} {k : Nat} {G : List SV → Prop} [hT : TSl P T e] (hk : P.cellsOf e = k) (hk0 : 0 < k) (hG : Opn enc P w sp held e G) : Opn enc P w sp held T (GSl k G) := fun fuel cs x h => by
  rcases Deep.open_slice hT.h h with ⟨rfl, _⟩ | ⟨a, len, cap, m, n, Dd, Pl, rfl, _, hlc, hcm, hm, _, hx⟩
  · exact ⟨_, ⟨[], by simp, by simp, rfl⟩, all2_one (sl_mk (by simp) (by simp [maxLen]) (.inl rfl)) rfl⟩
  · have hlm : len ≤ m := by rw [hm]; split <;> omega
    have hcell : ∀ i, i < len → ∃ l, G l ∧ l.length = k ∧ ∃ cs', w.cells? 0 (a.add (i * k)) k = some cs' ∧ All2 (memOf w) l cs' := fun i hi => by
      obtain ⟨cs', h1, h2⟩ := hx i (by omega)
      rw [hk] at h1
      obtain ⟨l, g1, g2⟩ := hG _ _ _ h2
      exact ⟨l, g1, by rw [← g2.length, (cells_get h1).1], cs', h1, g2⟩
    have hch : ∀ i : Nat, ∃ l, i < len → G l ∧ l.length = k ∧ ∃ cs', w.cells? 0 (a.add (i * k)) k = some cs' ∧ All2 (memOf w) l cs' := fun i => by
      by_cases hi : i < len
      · obtain ⟨l, hl⟩ := hcell i hi
        exact ⟨l, fun _ => hl⟩
      · exact ⟨[], fun h => absurd h hi⟩
    obtain ⟨f, hf⟩ := Classical.axiomOfChoice hch
    refine ⟨_, ⟨(List.range len).map f, fun l hl => ?_, by simp; omega, rfl⟩, all2_one (v := .slice (some a) len cap) ?_ rfl⟩
    · obtain ⟨i, hi, rfl⟩ := List.mem_map.1 hl
      have := hf i (by simpa using hi)
      exact ⟨this.1, this.2.1⟩
    · rw [List.length_map, List.length_range]
      refine sl_mk hlc hcm ?_
      rcases Nat.eq_zero_or_pos len with h0 | h0
      · left; subst h0; rfl
      · right
        obtain ⟨_, hl0, cs0, hc0, _⟩ := hf 0 h0
        have hcc := (cells_get hc0).2 0 hk0
        rw [Nat.zero_mul] at hcc
        have hcl := (cells_get hc0).1
        rw [List.getElem?_eq_getElem (by omega)] at hcc
        obtain ⟨b, off, spot⟩ := a
        have hs : spot = none := by simpa [Addr.add] using World.cell?_spot hcc
        subst hs
        simp only [add_none, Nat.add_zero] at hcc
        have hb : ∃ arr T fz, w.heap[b]? = some (.cells arr T fz) := by
          unfold World.cell? at hcc
          cases hbb : w.heap[b]? with
          | none => simp [hbb] at hcc
          | some o => cases o with
            | cells arr T fz => exact ⟨arr, T, fz, rfl⟩
            | _ => simp [hbb] at hcc
        obtain ⟨arr, T', fz, hb⟩ := hb
        refine ⟨b, off, rfl, arr, T', fz, hb, ?_⟩
        have hfl : ((List.range len).map f).flatten.length = len * k := by
          have : ∀ n, n ≤ len → ((List.range n).map f).flatten.length = n * k := by
            intro n
            induction n with
            | zero => intro _; simp
            | succ n ih => intro hn; rw [List.range_succ, List.map_append, List.flatten_append, List.length_append, ih (by omega)]; simp [(hf n (by omega)).2.1, Nat.add_mul]
          exact this len (Nat.le_refl _)
        rw [hfl]
        refine flat_range fun i hi => ?_
        obtain ⟨_, hl, cs', hc, ha⟩ := hf i hi
        refine ⟨hl, ?_⟩
        have hcs : cs' = ((arr.toList.drop off).drop (i * k)).take k := by
          obtain ⟨g1, g2⟩ := cells_get hc
          apply List.ext_getElem?
          intro j
          by_cases hj : j < k
          · have h1 := g2 j hj
            simp only [add_none] at h1
            rw [cell_of w b _ arr _ _ hb] at h1
            rw [List.getElem?_take_of_lt hj, List.getElem?_drop, List.getElem?_drop, ← h1]
            simp [Nat.add_assoc]
          · rw [List.getElem?_eq_none (by omega), List.getElem?_eq_none (by rw [List.length_take]; omega)]
        rw [← hcs]; exact ha
theorem opn_ints {T e : TypeId} {k : IntKind} [hT : TSl P T e] [hE : TIn P e k] (hk : P.cellsOf e = 1) : Opn enc P w sp held T (GInts k) := fun fuel cs x h => by
  obtain ⟨svs, ⟨es, hes, hl, rfl⟩, ha⟩ := opn_slice (k := 1) hk (by omega) (opn_int (k := k)) fuel cs x h
  refine ⟨_, ?_, ha⟩
  have : ∃ zs : List Int, (∀ z ∈ zs, (Lit.int k z).wf = true) ∧ es = zs.map fun z => [lit (.int k z)] := by
    clear ha hl
    induction es with
    | nil => exact ⟨[], by simp, rfl⟩
    | cons e es ih =>
      obtain ⟨zs, h1, h2⟩ := ih fun x hx => hes x (by simp [hx])
      obtain ⟨⟨z, hz, rfl⟩, _⟩ := hes e (by simp)
      exact ⟨z :: zs, by simpa using ⟨hz, h1⟩, by rw [h2]; rfl⟩
  obtain ⟨zs, h1, rfl⟩ := this
  refine ⟨zs, h1, by simpa using hl, ?_⟩
  have hfl : (zs.map fun z => [lit (.int k z)]).flatten = zs.map fun z => lit (.int k z) := by
    clear hl hes ha h1
    induction zs with
    | nil => rfl
    | cons z zs ih => simp [ih]
  rw [hfl, List.length_map]
  unfold nsl; rfl
theorem opn_nat {T e : TypeId} [hT : TSl P T e] [hE : TIn P e .u32] (hk : P.cellsOf e = 1) : Opn enc P w sp held T GNat := fun fuel cs x h => by
  obtain ⟨svs, ⟨zs, hz, hl, rfl⟩, ha⟩ := opn_ints (k := .u32) hk fuel cs x h
  have : ∃ xs : List Nat, D xs ∧ zs = xs.map fun d : Nat => (d : Int) := by
    clear ha hl
    induction zs with
    | nil => exact ⟨[], D.nil, rfl⟩
    | cons z zs ih =>
      obtain ⟨xs, h1, h2⟩ := ih fun x hx => hz x (by simp [hx])
      have := hz z (by simp)
      simp only [Lit.wf, IntKind.min, IntKind.max, IntKind.signed, IntKind.bits, Bool.and_eq_true, decide_eq_true_eq] at this
      simp at this
      exact ⟨z.toNat :: xs, D.cons (by omega) h1, by rw [h2]; simp; omega⟩
  obtain ⟨xs, hD, rfl⟩ := this
  exact ⟨_, ⟨xs, hD, (dg_nsl xs).symm ▸ rfl⟩, ha⟩
end
end Go.Ab
namespace Go.Ab
open Go.Proofs
variable [Base]
open Go.ChangeShapes Go.WideShapes Go.ChangeAt Go.RowKit
theorem agg_of {m : Mem} {svs : List SV} {v : Value} (h : All2 m svs v.cells.toList) (hl : 2 ≤ svs.length) : (ag svs).p m v := by
  have hlen := h.length
  unfold ag
  cases v with
  | agg arr => exact ⟨arr, rfl, h⟩
  | _ => simp [Value.cells] at hlen; omega
theorem calls_of {P : Program} {f : FuncId} {args : List SV} {W : World} {vs : List Value} (hB : Base.mem.le (memOf W)) (h : Pu P f args (lit (.bool true))) (ha : ArgsOk (memOf W) args vs) :
    Calls P f vs.toArray W fun e w' => e = .returned (.bool true) ∧ Below W.heap.size W w' := by
  unfold Pu at h
  refine (h.2 _ W vs (memOf_in W hB) ha).mono ?_
  rintro e w' ⟨v, m', rfl, hv, _, hr⟩
  rw [lit_p] at hv
  subst hv
  exact ⟨rfl, hr.os, hr.tape, hr.output, hr.size, fun k hk => hr.block k hk (by simp)⟩
theorem own0 : ownKnob Tryz.prog.godebug = none := by kernel_rfl
theorem laidOut0 : laidOutB Tryz.prog = true := by kernel_rfl
section
variable {H : Type} {enc : TypeId × Value → H} {W : World} {sp : Nat → Bool} {held : Bool}
abbrev GI : List SV → Prop := Cat [GBool, GNat]
abbrev GR : List SV → Prop := Cat [GI, GNat]
theorem opn_nat0 : Opn enc Tryz.prog W sp held 25 GNat := opn_nat (by kernel_rfl)
theorem opn_int0 : Opn enc Tryz.prog W sp held 27 GI := opn_struct Tryz.underlying27 (by kernel_rfl) (.cons opn_bool (.cons opn_nat0 .nil))
theorem opn_rat0 : Opn enc Tryz.prog W sp held 34 GR := opn_struct Tryz.underlying34 (by kernel_rfl) (.cons opn_int0 (.cons opn_nat0 .nil))
end
theorem cat_rat {l : List SV} (h : GR l) : ∃ r : RQ, (D r.n ∧ D r.d) ∧ l = qcells r := by
  cases h with
  | cons h k => cases h with
    | cons hb hk => cases hk with
      | cons hn hz => cases hz; cases k with
        | cons hd hz => cases hz
                        obtain ⟨b, rfl⟩ := hb
                        obtain ⟨xs, hx, rfl⟩ := hn
                        obtain ⟨ys, hy, rfl⟩ := hd
                        exact ⟨⟨b, xs, ys⟩, ⟨hx, hy⟩, rfl⟩
end Go.Ab
namespace Go.Ab
open Go.Proofs
variable [Base]
open Go.ChangeShapes Go.WideShapes Go.ChangeAt Go.RowKit
theorem starE : "*" ++ "errors.errorString" = "*errors.errorString" := by decide
theorem rowE (u : TypeId) (h : (Tryz.prog).typeName? 3 u = some "*errors.errorString") : u = 457 :=
  typeName_ptr_named (nm := "errors.errorString") (by rw [starE]; kernel_rfl) (by kernel_rfl) (by decide) u (by rw [starE]; exact h)
theorem sent_head {n : String} {text : List UInt8} {r : List (String × DataW Unit)} {W : World} {g : Nat} (h : laidMet Tryz.prog ((n, .iface "*errors.errorString" (.ptr (.agg [.lit (.string text)]))) :: r) W)
    (hg : (Tryz.prog).globalNamed n = some g) (ht : ((Tryz.prog).globals[g]?).map (·.type) = some 39) : ∃ (a : Addr) (T : TypeId) (fz : Nat × Nat), W.heap[g]? = some (.cells #[.iface 457 (.pointer (some a))] T fz) := by
  obtain ⟨a, s, hv, _⟩ := laid_sentinel (tp := 457) h hg ht Tryz.underlying39 rowE Tryz.underlying457 Tryz.underlying482 rfl rfl Tryz.underlying9 (by kernel_rfl) (by kernel_rfl)
  unfold World.var? at hv
  rw [hg] at hv
  simp only [Option.bind_some] at hv
  cases hh : W.heap[g]? with
  | none => rw [hh] at hv; cases hv
  | some o =>
    rw [hh] at hv
    cases o with
    | cells cs T fz =>
      simp only [Option.some.injEq] at hv
      subst hv
      exact ⟨a, T, fz, rfl⟩
    | _ => cases hv
abbrev baseOf (W : World) : Base := ⟨memOf W⟩
end Go.Ab
namespace Go.Ab
open Go.Proofs
variable [Base]
open Go.ChangeShapes Go.WideShapes Go.ChangeAt Go.RowKit
section
variable {H : Type} {enc : TypeId × Value → H} {W : World} {sp : Nat → Bool} {held : Bool}
abbrev GPr : List SV → Prop := Cat [GR, GR]
abbrev GLn : List SV → Prop := Cat [GI, GI, GI]
theorem opn_ptr : Opn enc Tryz.prog W sp held 67 GPr := opn_struct Tryz.underlying67 (by kernel_rfl) (.cons opn_rat0 (.cons opn_rat0 .nil))
theorem opn_ring : Opn enc Tryz.prog W sp held 23 (GSl 6 GPr) := opn_slice (by kernel_rfl) (by omega) opn_ptr
theorem opn_line : Opn enc Tryz.prog W sp held 29 GLn := opn_struct Tryz.underlying29 (by kernel_rfl) (.cons opn_int0 (.cons opn_int0 (.cons opn_int0 .nil)))
end
theorem cat_ptr {l : List SV} (h : GPr l) : ∃ p : RQ × RQ, ((D p.1.n ∧ D p.1.d) ∧ D p.2.n ∧ D p.2.d) ∧ l = pcells p := by
  cases h with
  | cons h1 k => cases k with
    | cons h2 k => cases k
                   obtain ⟨x, hx, rfl⟩ := cat_rat h1
                   obtain ⟨y, hy, rfl⟩ := cat_rat h2
                   exact ⟨(x, y), ⟨hx, hy⟩, rfl⟩
theorem map_ofR {α β : Type} {p : α → Prop} {f : α → β} : ∀ (es : List β), (∀ e ∈ es, ∃ n, p n ∧ e = f n) → ∃ ns : List α, (∀ n ∈ ns, p n) ∧ es = ns.map f
  | [], _ => ⟨[], by simp, rfl⟩
  | e :: es, h => by
    obtain ⟨n, h1, rfl⟩ := h e (by simp)
    obtain ⟨ns, h2, rfl⟩ := map_ofR es fun x hx => h x (by simp [hx])
    exact ⟨n :: ns, by simpa using ⟨h1, h2⟩, rfl⟩
theorem gsl_ring {l : List SV} (h : GSl 6 GPr l) : ∃ ps : List (RQ × RQ), (∀ p ∈ ps, (D p.1.n ∧ D p.1.d) ∧ D p.2.n ∧ D p.2.d) ∧ ps.length ≤ 9223372036854775807 ∧ l = [raws ps] := by
  obtain ⟨es, hes, hl, rfl⟩ := h
  obtain ⟨ns, h1, rfl⟩ := map_ofR (f := pcells) es fun e he => cat_ptr (hes e he).1
  rw [List.length_map] at hl ⊢
  exact ⟨ns, h1, by simp only [maxLen] at hl; omega, rfl⟩
theorem cat_int1 {l : List SV} (h : GI l) : ∃ b xs, D xs ∧ l = [lit (.bool b), dg xs] := by
  cases h with
  | cons h1 k => cases k with
    | cons h2 k => cases k
                   obtain ⟨b, rfl⟩ := h1
                   obtain ⟨xs, hx, rfl⟩ := h2
                   exact ⟨b, xs, hx, rfl⟩
theorem cat_line {l : List SV} (h : GLn l) : ∃ r : RL, D r.x ∧ D r.y ∧ D r.z ∧ l = lrx r := by
  cases h with
  | cons h1 k => cases k with
    | cons h2 k => cases k with
      | cons h3 k => cases k
                     obtain ⟨a, x, hx, rfl⟩ := cat_int1 h1
                     obtain ⟨b, y, hy, rfl⟩ := cat_int1 h2
                     obtain ⟨c, z, hz, rfl⟩ := cat_int1 h3
                     exact ⟨⟨a, x, b, y, c, z⟩, hx, hy, hz, rfl⟩
end Go.Ab
