/- Texts laid one behind the other: SynB, Open, RowKit, LaidKit, ExprOpen, OpenB. -/
import Derived.Test.YtebghnhocigmlaaGreatDoorB26
import Derived.Test.YtebghnhocigmlaaGreatDoorB03
import Derived.ProofKit
import Derived.OpenShut
import Derived.ChangeOld
import Derived.Below
import Derived.OpenVars
import Derived.Deep.Slices
import Derived.Test.YtebghnhocigmlaaGreatDoorB11
import Derived.WalkKit
import Derived.Stop.LaidErr
import Derived.LaidMore
import Derived.Deep.DeepHandedRow
import Derived.Deep.DeepWitnessRowRef
/- The law SyntaxBlanks, walked: it returns true. -/
namespace Go.Ab
open Go.Proofs
set_option linter.unusedSectionVars false
set_option linter.unusedVariables false
set_option linter.unusedSimpArgs false
variable [Base]
def k12T : List UInt8 := [97, 32, 43, 32, 98, 32, 42, 32, 126, 97]
def k12Ts : List Tok := [⟨1, [97], 1, 1⟩, ⟨3, [43], 1, 3⟩, ⟨1, [98], 1, 5⟩, ⟨3, [42], 1, 7⟩, ⟨3, [126], 1, 9⟩, ⟨1, [97], 1, 10⟩, ⟨0, [], 1, 11⟩]
def k12Ns : List Nd := [ndN ⟨1, [97], 1, 1⟩, ndN ⟨1, [98], 1, 5⟩, ndN ⟨1, [97], 1, 10⟩, ndU 2 ⟨3, [126], 1, 9⟩, ndB 2 1 3 ⟨3, [42], 1, 7⟩, ndB 1 0 4 ⟨3, [43], 1, 3⟩]
theorem k12Lex : lexT k12T = some k12Ts := by kernel_rfl
theorem k12Prs : ∃ x, prsAll k12Ts = some (k12Ns, x) := ⟨.bi (ndB 1 0 4 ⟨3, [43], 1, 3⟩) (.leaf (ndN ⟨1, [97], 1, 1⟩)) (.bi (ndB 2 1 3 ⟨3, [42], 1, 7⟩) (.leaf (ndN ⟨1, [98], 1, 5⟩)) (.un (ndU 2 ⟨3, [126], 1, 9⟩) (.leaf (ndN ⟨1, [97], 1, 10⟩)))), by kernel_rfl⟩
theorem known12 [Sent 4] [Sent 3] : Pu Tryz.prog 8 [] (lit (.bool true)) := by
  have c := parseU_pu k12T (by decide) (by decide)
  obtain ⟨x, hp⟩ := k12Prs
  unfold prU at c
  rw [k12Lex] at c
  simp only [hp] at c
  have h3 := flat_at (f := ndx) (n := 19) ndx_len (show k12Ns[3]? = some (ndU 2 ⟨3, [126], 1, 9⟩) from rfl)
  have h5 := flat_at (f := ndx) (n := 19) ndx_len (show k12Ns[5]? = some (ndB 1 0 4 ⟨3, [43], 1, 3⟩) from rfl)
  have hne : (k12Ns.map ndx).flatten ≠ [] := flat_ne ndx_len (by omega) (by decide)
  have hl : k12Ns.length = 6 := rfl
  rw [hl] at c
  generalize (k12Ns.map ndx).flatten = fl at *
  clear hp
  refine Pu.intro Tryz.func8 rfl (by kernel_rfl) fun C => ?_
  repeat (first | (refine A1 ⟨?_⟩; intros) | (refine Wcx (c) ?_) | (refine Wdcx (c) ?_) | (refine Wcgx (c) ?_) | (refine Wdcgx (c) ?_))
  repeat (first | (refine A1 ⟨?_⟩; intros) | (refine WgE ?_; refine Wo (ov_idxS (i := 3) rfl rfl (by omega) (by omega) h3 hne) ?_) | (refine WgE ?_; refine Wo (ov_idxS (i := 5) rfl rfl (by omega) (by omega) h5 hne) ?_))
  ((first | refine endR ?_ | refine endN ?_); exact end1 (RV.tmp rfl) (Le.refl _))
theorem idxB_35 : idxB [35] 35 = 0 := by kernel_rfl
theorem slIndex_pu (l : List UInt8) (hl : l.length ≤ 1000000) : Pu Tryz.prog 53 [str l, str [35]] (lit (.int .i64 (idxB l 35))) := by
  have c := sliteIdx_pu l (b := 35) (by omega)
  by_cases h : l = [35]
  · rw [h, idxB_35]
    have q : ([35] : List UInt8) = [35] := rfl
    refine Pu.intro Tryz.func53 rfl (by kernel_rfl) fun C => ?_
    repeat (refine A1 ⟨?_⟩; intros)
    ((first | refine endR ?_ | refine endN ?_); exact end1 (RV.tmp rfl) (Le.refl _))
  · have q : ¬ ([35] : List UInt8) = l := fun e => h e.symm
    refine Pu.intro Tryz.func53 rfl (by kernel_rfl) fun C => ?_
    repeat (refine A1 ⟨?_⟩; intros)
    refine Wo (ov_sidx (i := 0) rfl rfl (by show 0 < 1; omega)) ?_
    repeat (first | (refine A1 ⟨?_⟩; intros) | (refine Wcx (c) ?_) | (refine Wdcx (c) ?_) | (refine Wcgx (c) ?_) | (refine Wdcgx (c) ?_))
    ((first | refine endR ?_ | refine endN ?_); exact end1 (RV.tmp rfl) (Le.refl _))
theorem scont_pu (l : List UInt8) (hl : l.length ≤ 1000000) : Pu Tryz.prog 11 [str l, str [35]] (lit (.bool (decide ((35 : UInt8) ∈ l)))) := by
  have c := slIndex_pu l hl
  have hs := idxB_spec l (b := 35) (by omega)
  rw [show UInt8.ofNat 35 = 35 from rfl] at hs
  have c1 : Pu Tryz.prog 28 [str l, str [35]] (lit (.int .i64 (idxB l 35))) := by
    refine Pu.intro Tryz.func28 rfl (by kernel_rfl) fun C => ?_
    repeat (first | (refine A1 ⟨?_⟩; intros) | (refine Wcx (c) ?_) | (refine Wdcx (c) ?_) | (refine Wcgx (c) ?_) | (refine Wdcgx (c) ?_))
    ((first | refine endR ?_ | refine endN ?_); exact end1 (RV.tmp rfl) (Le.refl _))
  rcases hs with ⟨h1, h2⟩ | ⟨m, h1, h2, h3, -⟩
  · rw [h1] at c1
    rw [decide_eq_false fun h => by
      obtain ⟨i, hi, hx⟩ := List.mem_iff_getElem.1 h
      have := h2 i hi
      rw [List.getD, List.getElem?_eq_getElem hi] at this
      exact this hx]
    refine Pu.intro Tryz.func11 rfl (by kernel_rfl) fun C => ?_
    repeat (first | (refine A1 ⟨?_⟩; intros) | (refine Wcx (c1) ?_) | (refine Wdcx (c1) ?_) | (refine Wcgx (c1) ?_) | (refine Wdcgx (c1) ?_))
    ((first | refine endR ?_ | refine endN ?_); exact end1 (RV.tmp rfl) (Le.refl _))
  · rw [h1] at c1
    rw [decide_eq_true (show (35 : UInt8) ∈ l by
      rw [List.getD, List.getElem?_eq_getElem h2] at h3
      exact h3 ▸ List.getElem_mem h2)]
    refine Pu.intro Tryz.func11 rfl (by kernel_rfl) fun C => ?_
    repeat (first | (refine A1 ⟨?_⟩; intros) | (refine Wcx (c1) ?_) | (refine Wdcx (c1) ?_) | (refine Wcgx (c1) ?_) | (refine Wdcgx (c1) ?_))
    ((first | refine endR ?_ | refine endN ?_); exact end1 (RV.tmp rfl) (Le.refl _))
set_option maxHeartbeats 8000000 in
theorem sblanks_pu [Sent 4] [Sent 3] [Sent 5] [Sent 7] (s : List UInt8) (hs : s.length ≤ 9223372036854775807) (at_ : Int) (hat_ : i64R at_) : Pu Tryz.prog 3 [str s, lit (.int .i64 at_)] (lit (.bool true)) := by
  have kn := known12
  obtain ⟨ha1, ha2⟩ := hat_
  by_cases hl : 1500 < s.length
  · refine Pu.intro Tryz.func3 rfl (by kernel_rfl) fun C => ?_
    repeat (first | (refine A1 ⟨?_⟩; intros) | (refine Wcx (kn) ?_) | (refine Wdcx (kn) ?_) | (refine Wcgx (kn) ?_) | (refine Wdcgx (kn) ?_))
    ((first | refine endR ?_ | refine endN ?_); exact end1 (RV.tmp rfl) (Le.refl _))
  have c0 := parseT_pu s (by omega)
  unfold gpS at c0
  cases hp : gscript s with
  | error e =>
    rw [hp] at c0
    simp only at c0
    refine Pu.intro Tryz.func3 rfl (by kernel_rfl) fun C => ?_
    repeat (first | (refine A1 ⟨?_⟩; intros) | (refine Wcx (c0) ?_) | (refine Wdcx (c0) ?_) | (refine Wcgx (c0) ?_) | (refine Wdcgx (c0) ?_))
    refine Wo (ov_ineF (s := pt _) (by kernel_rfl) rfl) ?_
    repeat (first | (refine A1 ⟨?_⟩; intros) | (refine Wcx (kn) ?_) | (refine Wdcx (kn) ?_) | (refine Wcgx (kn) ?_) | (refine Wdcgx (kn) ?_))
    ((first | refine endR ?_ | refine endN ?_); exact end1 (RV.tmp rfl) (Le.refl _))
  | ok ss =>
    rw [hp] at c0
    simp only at c0
    have c2 := scount_pu s (b := 32) (by omega)
    rw [show UInt8.ofNat 32 = 32 from rfl] at c2
    by_cases hn0 : bcnt 32 s = 0
    · rw [hn0] at c2
      refine Pu.intro Tryz.func3 rfl (by kernel_rfl) fun C => ?_
      repeat (first | (refine A1 ⟨?_⟩; intros) | (refine Wcx (c0) ?_) | (refine Wdcx (c0) ?_) | (refine Wcgx (c0) ?_) | (refine Wdcgx (c0) ?_) | (refine Wcx (c2) ?_) | (refine Wdcx (c2) ?_) | (refine Wcgx (c2) ?_) | (refine Wdcgx (c2) ?_) | (refine Wcx (kn) ?_) | (refine Wdcx (kn) ?_) | (refine Wcgx (kn) ?_) | (refine Wdcgx (kn) ?_))
      ((first | refine endR ?_ | refine endN ?_); exact end1 (RV.tmp rfl) (Le.refl _))
    have hple : bcnt 32 s ≤ s.length := by unfold bcnt; exact List.length_filter_le _ _
    obtain ⟨p, hp32⟩ : ∃ p, bcnt 32 s = p := ⟨_, rfl⟩
    rw [hp32] at c2 hn0 hple
    have t1 := Int.tmod_lt_of_pos at_ (show (0 : Int) < p by omega)
    have t2 := Int.lt_tmod_of_pos at_ (show (0 : Int) < p by omega)
    obtain ⟨a, hr2, ha⟩ : ∃ a : Nat, (at_.tmod p + p) % p = a ∧ a < p := by
      have := Int.emod_lt_of_pos (at_.tmod p + p) (show (0 : Int) < p by omega)
      have h0 := Int.emod_nonneg (at_.tmod p + p) (show (p : Int) ≠ 0 by omega)
      exact ⟨((at_.tmod p + p) % p).toNat, (Int.toNat_of_nonneg h0).symm, by omega⟩
    refine Pu.intro Tryz.func3 rfl (by kernel_rfl) fun C => ?_
    repeat (first | (refine A1 ⟨?_⟩; intros) | (refine Wcx (c0) ?_) | (refine Wdcx (c0) ?_) | (refine Wcgx (c0) ?_) | (refine Wdcgx (c0) ?_) | (refine Wcx (c2) ?_) | (refine Wdcx (c2) ?_) | (refine Wcgx (c2) ?_) | (refine Wdcgx (c2) ?_))
    rw [hr2]
    clear hr2 t1 t2 ha1 ha2 c0 c2
    refine WP.loopS (ι := Nat) (fun i => i ≤ s.length ∧ bcnt 32 (s.take i) ≤ a) (fun i => s.length - i)
      (fun II => (fm [(0, str s), (1, lit (.int .i64 ((a - bcnt 32 (s.take II) : Nat) : Int))), (5, stsS ss), (8, lit (.int .i64 (II : Nat)))])) (fun _ => []) 0 ⟨Nat.zero_le _, Nat.zero_le _⟩ (by rw [List.take_zero, bcnt_nil]; (repeat (first | exact LeF.nil _ | refine LeF.cons (Le.refl _) ?_ | refine LeF.cons (Le.int (by omega)) ?_))) (List.nil_sublist _) ?_
    rintro i ⟨hi, hic⟩ K hK
    by_cases hil : i < s.length
    case neg =>
      obtain rfl : i = s.length := by omega
      rw [List.take_length, hp32] at hic
      omega
    have hsx : bcnt 32 (s.take (i + 1)) = bcnt 32 (s.take i) + (if s.getD i 0 = 32 then 1 else 0) := by
      rw [List.take_add_one, List.getElem?_eq_getElem hil, Option.toList_some, bcnt_append, List.getD, List.getElem?_eq_getElem hil, bcnt_cons, bcnt_nil]
      simp
    have hgo : bcnt 32 (s.take (i + 1)) ≤ a → ∀ F' H', LeF F' (fm [(0, str s), (1, lit (.int .i64 ((a - bcnt 32 (s.take (i + 1)) : Nat) : Int))), (5, stsS ss), (8, lit (.int .i64 ((i + 1) : Nat)))]) → K F' H' := fun hle F' H' h => hK F' H' (i + 1) ⟨by omega, hle⟩ (by omega) h (List.nil_sublist _)
    clear hK
    have hu : s.getD i 0 = 32 ↔ (s.getD i 0).toNat = 32 := ⟨fun h => by rw [h]; rfl, fun h => UInt8.toNat_inj.1 h⟩
    by_cases h32 : s.getD i 0 = 32
    case neg =>
      have hn : ¬ (s.getD i 0).toNat = 32 := fun h => h32 (hu.2 h)
      rw [if_neg h32] at hsx
      rw [hsx] at hgo
      replace hgo := hgo (by omega)
      clear hu hsx
      repeat (refine A1 ⟨?_⟩; intros)
      exact hgo _ _ (by (repeat (first | exact LeF.nil _ | refine LeF.cons (Le.refl _) ?_ | refine LeF.cons (Le.int (by omega)) ?_)))
    have hn := hu.1 h32
    rw [if_pos h32] at hsx
    by_cases hz : bcnt 32 (s.take i) = a
    case neg =>
      rw [hsx] at hgo
      replace hgo := hgo (by omega)
      clear hu hsx
      generalize bcnt 32 (s.take i) = q at *
      repeat (refine A1 ⟨?_⟩; intros)
      exact hgo _ _ (by (repeat (first | exact LeF.nil _ | refine LeF.cons (Le.refl _) ?_ | refine LeF.cons (Le.int (by omega)) ?_)))
    clear hgo hsx hu
    rw [hz, Nat.sub_self]
    have hsplit : s = s.take i ++ 32 :: s.drop (i + 1) := by
      have h1 := List.take_append_drop i s
      rw [List.drop_eq_getElem_cons hil] at h1
      have h2 : s[i] = 32 := by
        rw [List.getD, List.getElem?_eq_getElem hil] at h32
        exact h32
      rw [h2] at h1
      exact h1.symm
    have c5 := scont_pu s (by omega)
    have hl1 : (s.take i).length = i := by rw [List.length_take]; omega
    have hl3 : (s.drop (i + 1)).length = s.length - (i + 1) := List.length_drop
    have hlB : ([10, 9, 32, 35, 32, 120, 32, 59, 32, 123, 10, 32] : List UInt8).length = 12 := rfl
    have hl12 : (s.take i ++ [10, 9, 32, 35, 32, 120, 32, 59, 32, 123, 10, 32]).length = i + 12 := by rw [List.length_append, hl1, hlB]
    have g1 := parseT_pu ((s.take i ++ [10, 9, 32, 35, 32, 120, 32, 59, 32, 123, 10, 32]) ++ s.drop (i + 1)) (by rw [List.length_append]; omega)
    have hX : (s.take i ++ [10, 9, 32, 35, 32, 120, 32, 59, 32, 123, 10, 32]) ++ s.drop (i + 1) = s.take i ++ 10 :: (blB ++ s.drop (i + 1)) := by
      rw [List.append_assoc]; rfl
    unfold gpS at g1
    by_cases h35 : (35 : UInt8) ∈ s
    · rw [decide_eq_true h35] at c5
      cases hq : gscript ((s.take i ++ [10, 9, 32, 35, 32, 120, 32, 59, 32, 123, 10, 32]) ++ s.drop (i + 1)) with
      | error e =>
        rw [hq] at g1
        simp only at g1
        clear hsplit hX h35 hp hq
        repeat (refine A1 ⟨?_⟩; intros)
        refine Wdo (ov_ssl (i := 0) (j := i) rfl (fun _ h => by cases h) (fun _ => rfl) (fun y h => ⟨_, _, by cases h; exact rfl, rfl⟩) (fun h => by cases h) (by omega) (by omega)) ?_
        rw [List.drop_zero]
        repeat (refine A1 ⟨?_⟩; intros)
        refine Wdo (ov_ssl (i := i + 1) (j := s.length) rfl (fun y h => ⟨_, _, by cases h; exact rfl, by omega⟩) (fun h => by cases h) (fun _ h => by cases h) (fun _ => rfl) (by omega) (by omega)) ?_
        rw [List.take_length]
        repeat (first | (refine A1 ⟨?_⟩; intros) | (refine Wcx (g1) ?_) | (refine Wdcx (g1) ?_) | (refine Wcgx (g1) ?_) | (refine Wdcgx (g1) ?_) | (refine Wcx (c5) ?_) | (refine Wdcx (c5) ?_) | (refine Wcgx (c5) ?_) | (refine Wdcgx (c5) ?_))
        repeat (first | (refine A1 ⟨?_⟩; intros) | (refine Wcx (kn) ?_) | (refine Wdcx (kn) ?_) | (refine Wcgx (kn) ?_) | (refine Wdcgx (kn) ?_))
        ((first | refine endR ?_ | refine endN ?_); exact end1 (RV.tmp rfl) (Le.refl _))
      | ok ss' =>
        rw [hq] at g1
        simp only at g1
        clear hsplit hX h35 hp hq
        repeat (refine A1 ⟨?_⟩; intros)
        refine Wdo (ov_ssl (i := 0) (j := i) rfl (fun _ h => by cases h) (fun _ => rfl) (fun y h => ⟨_, _, by cases h; exact rfl, rfl⟩) (fun h => by cases h) (by omega) (by omega)) ?_
        rw [List.drop_zero]
        repeat (refine A1 ⟨?_⟩; intros)
        refine Wdo (ov_ssl (i := i + 1) (j := s.length) rfl (fun y h => ⟨_, _, by cases h; exact rfl, by omega⟩) (fun h => by cases h) (fun _ h => by cases h) (fun _ => rfl) (by omega) (by omega)) ?_
        rw [List.take_length]
        repeat (first | (refine A1 ⟨?_⟩; intros) | (refine Wcx (g1) ?_) | (refine Wdcx (g1) ?_) | (refine Wcgx (g1) ?_) | (refine Wdcgx (g1) ?_) | (refine Wcx (c5) ?_) | (refine Wdcx (c5) ?_) | (refine Wcgx (c5) ?_) | (refine Wdcgx (c5) ?_))
        repeat (first | (refine A1 ⟨?_⟩; intros) | (refine Wcx (kn) ?_) | (refine Wdcx (kn) ?_) | (refine Wcgx (kn) ?_) | (refine Wdcgx (kn) ?_))
        ((first | refine endR ?_ | refine endN ?_); exact end1 (RV.tmp rfl) (Le.refl _))
    · rw [decide_eq_false h35] at c5
      rw [hsplit] at hp
      obtain ⟨ss', hq, hsame⟩ := blanks_law (p := s.take i) (q := s.drop (i + 1)) (fun h => h35 (List.mem_of_mem_take h)) hp
      rw [hX, hq] at g1
      simp only at g1
      rw [← hX] at g1
      have c6 := sameSts_e ss ss' hsame
      clear hsplit hX h35 hp hq
      repeat (refine A1 ⟨?_⟩; intros)
      refine Wdo (ov_ssl (i := 0) (j := i) rfl (fun _ h => by cases h) (fun _ => rfl) (fun y h => ⟨_, _, by cases h; exact rfl, rfl⟩) (fun h => by cases h) (by omega) (by omega)) ?_
      rw [List.drop_zero]
      repeat (refine A1 ⟨?_⟩; intros)
      refine Wdo (ov_ssl (i := i + 1) (j := s.length) rfl (fun y h => ⟨_, _, by cases h; exact rfl, by omega⟩) (fun h => by cases h) (fun _ h => by cases h) (fun _ => rfl) (by omega) (by omega)) ?_
      rw [List.take_length]
      repeat (first | (refine A1 ⟨?_⟩; intros) | (refine Wcx (g1) ?_) | (refine Wdcx (g1) ?_) | (refine Wcgx (g1) ?_) | (refine Wdcgx (g1) ?_) | (refine Wcx (c5) ?_) | (refine Wdcx (c5) ?_) | (refine Wcgx (c5) ?_) | (refine Wdcgx (c5) ?_))
      repeat (first | (refine A1 ⟨?_⟩; intros) | (refine Wcx (kn) ?_) | (refine Wdcx (kn) ?_) | (refine Wcgx (kn) ?_) | (refine Wdcgx (kn) ?_) | (refine Wcx (c6) ?_) | (refine Wdcx (c6) ?_) | (refine Wcgx (c6) ?_) | (refine Wdcgx (c6) ?_))
      ((first | refine endR ?_ | refine endN ?_); exact end1 (RV.tmp rfl) (Le.refl _))
end Go.Ab
/- From the reading of a law's arguments to what the abstract machine says of them; the frame of a law's row. -/
namespace Go.Ab
open Go.Proofs
set_option linter.unusedSectionVars false
set_option linter.unusedVariables false
set_option linter.unusedSimpArgs false
variable [Base]
open Go.ChangeShapes Go.WideShapes Go.ChangeAt Go.RowKit
section
variable {H : Type} {enc : TypeId × Value → H} {P : Program} {w : World} {sp : Nat → Bool} {held : Bool}
/-- the memory that lies there when a law is called -/
def memOf (w : World) : Mem := fun b => w.heap[b]?
theorem memOf_in (w : World) (h : Base.mem.le (memOf w)) : MemIn (memOf w) w := ⟨fun _ _ h => h, h⟩
/-- whatever reads as a datum of this type has cells of one of these shapes -/
def Opn (enc : TypeId × Value → H) (P : Program) (w : World) (sp : Nat → Bool) (held : Bool) (T : TypeId) (G : List SV → Prop) : Prop :=
  ∀ fuel cs x, DataW.trod enc P w 0 sp held fuel T cs = some x → ∃ svs, G svs ∧ All2 (memOf w) svs cs
/-- shapes laid one behind the other -/
inductive Cat : List (List SV → Prop) → List SV → Prop
  | nil : Cat [] []
  | cons {G : List SV → Prop} {Gs : List (List SV → Prop)} {a b : List SV} (h : G a) (k : Cat Gs b) : Cat (G :: Gs) (a ++ b)
def GInt (k : IntKind) : List SV → Prop := fun l => ∃ n, (Lit.int k n).wf = true ∧ l = [lit (.int k n)]
def GStr : List SV → Prop := fun l => ∃ s : ByteArray, s.size ≤ maxLen ∧ l = [lit (.string s)]
theorem all2_one {m : Mem} {s : SV} {v : Value} (h : s.p m v) (f : v.oneCell' = true) : All2 m [s] [v] := ⟨⟨h, f⟩, trivial⟩
theorem opn_int {T : TypeId} {k : IntKind} [hT : TIn P T k] : Opn enc P w sp held T (GInt k) := fun fuel cs x h => by
  obtain ⟨n, rfl, _, hw⟩ := DataW.trod_int hT.h h
  exact ⟨_, ⟨n, hw, rfl⟩, all2_one (lit_p.2 rfl) rfl⟩
theorem opn_str {T : TypeId} [hT : TSr P T] : Opn enc P w sp held T GStr := fun fuel cs x h => by
  obtain ⟨s, rfl, _, hw⟩ := DataW.trod_string hT.h h
  exact ⟨_, ⟨s, hw, rfl⟩, all2_one (lit_p.2 rfl) rfl⟩
/-- the cells of a struct's fields, one behind the other -/
def laid (P : Program) : List Field → Nat → Nat → Bool
  | [], o, n => Nat.beq o n
  | f :: fs, o, n => Nat.beq f.offset o && laid P fs (o + P.cellsOf f.type) n
inductive Opns (enc : TypeId × Value → H) (P : Program) (w : World) (sp : Nat → Bool) (held : Bool) : List TypeId → List (List SV → Prop) → Prop
  | nil : Opns enc P w sp held [] []
  | cons {T : TypeId} {G : List SV → Prop} {Ts : List TypeId} {Gs : List (List SV → Prop)} (h : Opn enc P w sp held T G) (k : Opns enc P w sp held Ts Gs) : Opns enc P w sp held (T :: Ts) (G :: Gs)
end
end Go.Ab
/- The rows of this seat's laws: what is common to them. -/
namespace Go.Ab
open Go.Proofs
set_option linter.unusedSectionVars false
set_option linter.unusedVariables false
set_option linter.unusedSimpArgs false
variable [Base]
open Go.ChangeShapes Go.WideShapes Go.ChangeAt Go.RowKit
theorem calls_of {P : Program} {f : FuncId} {args : List SV} {W : World} {vs : List Value} (hB : Base.mem.le (memOf W)) (h : Pu P f args (lit (.bool true))) (ha : ArgsOk (memOf W) args vs) :
    Calls P f vs.toArray W fun e w' => e = .returned (.bool true) ∧ Below W.heap.size W w' := by
  unfold Pu at h
  refine (h.2 _ W vs (memOf_in W hB) ha).mono ?_
  rintro e w' ⟨v, m', rfl, hv, _, hr⟩
  rw [lit_p] at hv
  subst hv
  exact ⟨rfl, hr.os, hr.tape, hr.output, hr.size, fun k hk => hr.block k hk (by simp)⟩
theorem own0 : ownKnob Tryz.prog.godebug = none := by kernel_rfl
theorem laidOut0 : laidOutB Tryz.prog = true := by kernel_rfl
section
variable {H : Type} {enc : TypeId × Value → H} {W : World} {sp : Nat → Bool} {held : Bool}
end
end Go.Ab
/- Rows that list package variables: what the list says to the abstract machine. -/
namespace Go.Ab
open Go.Proofs
set_option linter.unusedSectionVars false
set_option linter.unusedVariables false
set_option linter.unusedSimpArgs false
variable [Base]
open Go.ChangeShapes Go.WideShapes Go.ChangeAt Go.RowKit
theorem starE : "*" ++ "errors.errorString" = "*errors.errorString" := by decide
theorem rowE (u : TypeId) (h : (Tryz.prog).typeName? 3 u = some "*errors.errorString") : u = 442 :=
  typeName_ptr_named (nm := "errors.errorString") (by rw [starE]; kernel_rfl) (by kernel_rfl) (by decide) u (by rw [starE]; exact h)
/-- a listed sentinel, at the head of a list -/
theorem sent_head {n : String} {text : List UInt8} {r : List (String × DataW Unit)} {W : World} {g : Nat} (h : laidMet Tryz.prog ((n, .iface "*errors.errorString" (.ptr (.agg [.lit (.string text)]))) :: r) W)
    (hg : (Tryz.prog).globalNamed n = some g) (ht : ((Tryz.prog).globals[g]?).map (·.type) = some 25) : ∃ (a : Addr) (T : TypeId) (fz : Nat × Nat), W.heap[g]? = some (.cells #[.iface 442 (.pointer (some a))] T fz) := by
  obtain ⟨a, s, hv, _⟩ := laid_sentinel (tp := 442) h hg ht Tryz.underlying25 rowE Tryz.underlying442 Tryz.underlying444 rfl rfl Tryz.underlying9 (by kernel_rfl) (by kernel_rfl)
  unfold World.var? at hv
  rw [hg] at hv
  simp only [Option.bind_some] at hv
  cases hh : W.heap[g]? with
  | none => rw [hh] at hv; cases hv
  | some o =>
    rw [hh] at hv
    cases o with
    | cells cs T fz =>
      simp only [Option.some.injEq] at hv
      subst hv
      exact ⟨a, T, fz, rfl⟩
    | _ => cases hv
/-- the memory of a call, for a whole law -/
abbrev baseOf (W : World) : Base := ⟨memOf W⟩
end Go.Ab
/- Reading a list of parts of expressions: what the abstract machine says of it. -/
namespace Go.Ab
open Go.Proofs
set_option linter.unusedSectionVars false
set_option linter.unusedVariables false
set_option linter.unusedSimpArgs false
variable [Base]
open Go.ChangeShapes Go.WideShapes Go.ChangeAt Go.RowKit
section
variable {H : Type} {enc : TypeId × Value → H} {W : World} {sp : Nat → Bool} {held : Bool}
end
/-- a part as it may be read -/
def Nd.raw (n : Nd) : Prop := ((D n.a.n ∧ D n.a.d) ∧ (D n.b.n ∧ D n.b.d) ∧ (D n.c.n ∧ D n.c.d) ∧ (D n.e.n ∧ D n.e.d)) ∧ n.nm.length ≤ 9223372036854775807 ∧ (i64R n.k ∧ i64R n.op ∧ i64R n.x ∧ i64R n.y)
theorem gint_i64 {l : List SV} (h : GInt .i64 l) : ∃ z, i64R z ∧ l = [lit (.int .i64 z)] := by
  obtain ⟨z, hz, rfl⟩ := h
  refine ⟨z, ?_, rfl⟩
  simp only [Lit.wf, IntKind.min, IntKind.max, IntKind.signed, IntKind.bits, Bool.and_eq_true, decide_eq_true_eq] at hz
  unfold i64R
  simp at hz
  omega
theorem gstr_l {l : List SV} (h : GStr l) : ∃ s : List UInt8, s.length ≤ 9223372036854775807 ∧ l = [str s] := by
  obtain ⟨s, hs, rfl⟩ := h
  refine ⟨s.data.toList, ?_, ?_⟩
  · have : s.data.toList.length = s.size := by rw [Array.length_toList]; rfl
    rw [this]
    simp only [maxLen] at hs
    omega
  · show _ = [lit (.string ⟨s.data.toList.toArray⟩)]
    rw [Array.toArray_toList]
end Go.Ab
/- Reading bytes and lists of ints: their bounds. -/
namespace Go.Ab
open Go.Proofs
set_option linter.unusedSectionVars false
set_option linter.unusedVariables false
set_option linter.unusedSimpArgs false
variable [Base]
open Go.ChangeShapes Go.WideShapes Go.ChangeAt Go.RowKit
end Go.Ab
