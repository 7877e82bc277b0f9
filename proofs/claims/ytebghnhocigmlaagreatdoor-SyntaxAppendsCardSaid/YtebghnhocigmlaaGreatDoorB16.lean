/- Texts laid one behind the other: LexW, LexX, LexY, RName, RNum, RPoint, RRes, RNode, Shape, RPart, StkP, ParseB. -/
import Derived.Test.YtebghnhocigmlaaGreatDoorB15
import Derived.Test.YtebghnhocigmlaaGreatDoorB12
import Derived.Test.YtebghnhocigmlaaGreatDoorB14
import Derived.Test.YtebghnhocigmlaaGreatDoorB04
import Derived.Test.YtebghnhocigmlaaGreatDoorB13
import Derived.Test.YtebghnhocigmlaaGreatDoorB05
/- The lexer, walked over texts of letters, blanks and signs. -/
namespace Go.Ab
open Go.Proofs
set_option linter.unusedSectionVars false
set_option linter.unusedVariables false
set_option linter.unusedSimpArgs false
variable [Base]
abbrev rdT : TypeId := 236
abbrev tkT : TypeId := 119
abbrev rdC (l : List UInt8) (k : Nat) : List SV := [str l, lit (.int .i64 k), lit (.int .i64 1), lit (.int .i64 (k + 1 : Nat))]
abbrev tkx (a : Tok) : List SV := [lit (.int .i64 a.k), str a.t, lit (.int .i64 a.l), lit (.int .i64 a.c)]
/-- some error of the package -/
abbrev errE : SV := ifc 32 Ab.top
theorem Le.ifcT {t : TypeId} {s : SV} : Le (ifc t s) (ifc t Ab.top) := fun m v h => by
  unfold ifc at *
  obtain ⟨u, rfl, _⟩ := h
  exact ⟨u, rfl, by unfold Ab.top; trivial⟩
theorem Le.ifcL {t : TypeId} {u : Value} : Le (lit (.iface t u)) (ifc t Ab.top) := fun m v h => by
  rw [lit_p] at h
  unfold ifc
  exact ⟨u, h, by unfold Ab.top; trivial⟩
section
variable {P : Program} {F : Fr} {H : LH} {ty : TypeId}
theorem ov_ineF {T T' u : TypeId} {s : SV} {x : Operand} (hT : P.isIface T = true) (hx : ev F x = ifc u s) : OpV P (.binOp .neq T x (.const .nilIface) T') ty F H (lit (.bool true)) :=
  OpV.pure fun m w o a ho _ _ _ h => by
    have h0 := h x (by simp [Op.operands]); rw [hx] at h0
    unfold ifc at h0
    obtain ⟨v, h0, _⟩ := h0
    have e1 : a.eval (.const .nilIface) = .nilIface := rfl
    exact ⟨.bool true, by simp [execOp, ho, h0, e1, run_neq_iface_nil w T hT u v, Go.eqGuard], lit_p.2 rfl⟩
theorem ov_ieqF {T T' u : TypeId} {s : SV} {x : Operand} (hT : P.isIface T = true) (hx : ev F x = ifc u s) : OpV P (.binOp .eql T x (.const .nilIface) T') ty F H (lit (.bool false)) :=
  OpV.pure fun m w o a ho _ _ _ h => by
    have h0 := h x (by simp [Op.operands]); rw [hx] at h0
    unfold ifc at h0
    obtain ⟨v, h0, _⟩ := h0
    have e1 : a.eval (.const .nilIface) = .nilIface := rfl
    exact ⟨.bool false, by simp [execOp, ho, h0, e1, run_eql_iface_nil w T hT u v, Go.eqGuard], lit_p.2 rfl⟩
end
theorem take_drop_eq (l : List UInt8) (k n : Nat) : (l.take (k + n)).drop k = (l.drop k).take n := by
  rw [List.drop_take, Nat.add_sub_cancel_left]
theorem rdC_add (l : List UInt8) (k n : Nat) : rdC l (k + n) = [str l, lit (.int .i64 ((k : Int) + n)), lit (.int .i64 1), lit (.int .i64 (((k + 1 : Nat) : Int) + n))] := by
  show [str l, lit (.int .i64 ((k + n : Nat) : Int)), lit (.int .i64 1), lit (.int .i64 ((k + n + 1 : Nat) : Int))] = _
  rw [show ((k + n : Nat) : Int) = (k : Int) + n by omega, show ((k + n + 1 : Nat) : Int) = ((k + 1 : Nat) : Int) + n by omega]
theorem rtake_pu (r : Nat) (l : List UInt8) (k n : Nat) (h : k + n ≤ l.length) (hl : l.length ≤ 100000) :
    PuH Tryz.prog 203 [lit (.pointer (some ⟨r, 0, none⟩)), lit (.int .i64 n)] [(r, rdT, rdC l k)] (fun v H => v = str ((l.drop k).take n) ∧ H = [(r, rdT, rdC l (k + n))]) noX := by
  rw [← take_drop_eq]
  refine PuH.intro Tryz.func203 rfl (by kernel_rfl) fun C hC => ?_
  repeat (refine A1 ⟨?_⟩; intros)
  refine Wdo (ov_ssl (i := k) (j := k + n) rfl (fun y hy => by cases hy; exact ⟨_, _, rfl, rfl⟩) (fun h => by cases h) (fun y hy => by cases hy; exact ⟨_, _, rfl, by omega⟩) (fun h => by cases h) (by omega) h) ?_
  repeat (refine A1 ⟨?_⟩; intros)
  exact endHR _ _ (end1 (RV.tmp rfl) (Le.refl _)) (List.Sublist.refl _) ⟨rfl, by rw [rdC_add]⟩
theorem skipN_32 {b : UInt8} (h : b.toNat = 32) (r : List UInt8) : skipN (b :: r) = skipN r + 1 := by
  unfold skipN; rw [List.takeWhile_cons, if_pos (by simpa using h)]; rfl
theorem skipN_ne {b : UInt8} (h : b.toNat ≠ 32) (r : List UInt8) : skipN (b :: r) = 0 := by
  unfold skipN; rw [List.takeWhile_cons, if_neg (by simpa using h)]; rfl
theorem runN_3 {b : UInt8} (h : clsN b.toNat = 3) (r : List UInt8) : runN (b :: r) = runN r + 1 := by
  unfold runN; rw [List.takeWhile_cons, if_pos (by simpa using h)]; rfl
theorem runN_ne {b : UInt8} (h : clsN b.toNat ≠ 3) (r : List UInt8) : runN (b :: r) = 0 := by
  unfold runN; rw [List.takeWhile_cons, if_neg (by simpa using h)]; rfl
theorem cls_ok {b : UInt8} (h : okC b = true) : (b.toNat = 32 ∧ clsN b.toNat = 1) ∨ (b.toNat ≠ 32 ∧ clsN b.toNat = 3) ∨ (b.toNat ≠ 32 ∧ clsN b.toNat = 5) := by
  have h32 : clsN 32 = 1 := by decide +kernel
  by_cases e : b.toNat = 32
  · exact .inl ⟨e, by rw [e]; exact h32⟩
  · unfold okC at h
    rw [decide_eq_false e, Bool.false_or, Bool.or_eq_true] at h
    rcases h with h | h
    · exact .inr (.inl ⟨e, of_decide_eq_true h⟩)
    · exact .inr (.inr ⟨e, of_decide_eq_true h⟩)
theorem at_byte {l : List UInt8} {j : Nat} (h : j < l.length) : ∃ b, l.drop j = b :: l.drop (j + 1) ∧ b ∈ l ∧ l.getD j 0 = b :=
  ⟨l[j], List.drop_eq_getElem_cons h, List.getElem_mem h, by simp [List.getD, h]⟩
theorem skip_pu (r : Nat) (l : List UInt8) (k : Nat) (hok : ∀ b ∈ l, okC b = true) (hk : k ≤ l.length) (hl : l.length ≤ 100000) :
    PuH Tryz.prog 201 [lit (.pointer (some ⟨r, 0, none⟩))] [(r, rdT, rdC l k)] (fun v H => v = Ab.tup [] ∧ H = [(r, rdT, rdC l (k + skipN (l.drop k)))]) noX := by
  refine PuH.intro Tryz.func201 rfl (by kernel_rfl) fun C hC => ?_
  refine WP.block ?_
  refine WP.loopS (ι := Nat) (fun j => j ≤ l.length ∧ j + skipN (l.drop j) = k + skipN (l.drop k)) (fun j => l.length - j) (fun j => fm [(0, lit (.pointer (some ⟨r, 0, none⟩)))]) (fun j => [(r, rdT, rdC l j)]) k ⟨hk, rfl⟩ (by (repeat (first | exact LeF.nil _ | refine LeF.cons (Le.refl _) ?_ | refine LeF.cons (Le.int (by omega)) ?_))) (List.Sublist.refl _) ?_
  rintro j ⟨hj, hs⟩ K hK
  by_cases hjl : j < l.length
  · obtain ⟨b, hd, hm, hg⟩ := at_byte hjl
    have hb := b.toNat_lt
    have c1 := classOf_pu (b := b.toNat) (by omega)
    rcases cls_ok (hok b hm) with ⟨h32, hc⟩ | ⟨h32, hc⟩ | ⟨h32, hc⟩
    · rw [hc, ← hg] at c1
      have c2 := rtake_pu r l j 1 (by omega) hl
      rw [show ((1 : Nat) : Int) = 1 from rfl] at c2
      rw [hd, List.take_succ_cons, List.take_zero, show b = 32 from UInt8.toNat_inj.1 h32] at c2
      rw [hd, skipN_32 h32] at hs
      have hgo := fun F' H' => hK F' H' (j + 1) ⟨by omega, by omega⟩ (by omega)
      clear hK hs
      repeat (first | (refine A1 ⟨?_⟩; intros) | (refine Wcx (c1) ?_) | (refine Wdcx (c1) ?_) | (refine Wcgx (c1) ?_) | (refine Wdcgx (c1) ?_))
      refine WfT c2 ?_
      rintro _ _ ⟨rfl, rfl⟩
      simp only [List.cons_append, List.nil_append]
      repeat (refine A1 ⟨?_⟩; intros)
      exact hgo _ _ (by (repeat (first | exact LeF.nil _ | refine LeF.cons (Le.refl _) ?_ | refine LeF.cons (Le.int (by omega)) ?_))) (List.Sublist.refl _)
    · rw [hc, ← hg] at c1
      rw [hd, skipN_ne h32] at hs
      clear hK
      have hj' : j = k + skipN (l.drop k) := by omega
      subst hj'
      repeat (first | (refine A1 ⟨?_⟩; intros) | (refine Wcx (c1) ?_) | (refine Wdcx (c1) ?_) | (refine Wcgx (c1) ?_) | (refine Wdcgx (c1) ?_))
      exact endHR _ _ end0 (List.Sublist.refl _) ⟨rfl, rfl⟩
    · rw [hc, ← hg] at c1
      rw [hd, skipN_ne h32] at hs
      clear hK
      have hj' : j = k + skipN (l.drop k) := by omega
      subst hj'
      repeat (first | (refine A1 ⟨?_⟩; intros) | (refine Wcx (c1) ?_) | (refine Wdcx (c1) ?_) | (refine Wcgx (c1) ?_) | (refine Wdcgx (c1) ?_))
      exact endHR _ _ end0 (List.Sublist.refl _) ⟨rfl, rfl⟩
  · rw [List.drop_eq_nil_of_le (by omega)] at hs
    have hj' : j = k + skipN (l.drop k) := by unfold skipN at hs ⊢; simpa using hs
    subst hj'
    clear hK
    repeat (refine A1 ⟨?_⟩; intros)
    exact endHN _ _ end0 (List.Sublist.refl _) ⟨rfl, rfl⟩
theorem rrun_pu (r : Nat) (l : List UInt8) (k : Nat) (hok : ∀ b ∈ l, okC b = true) (hk : k ≤ l.length) (hl : l.length ≤ 100000) :
    PuH Tryz.prog 204 [lit (.pointer (some ⟨r, 0, none⟩)), sl [lit (.int .i64 3), lit (.int .i64 4)] 2] [(r, rdT, rdC l k)] (fun v H => v = lit (.int .i64 (runN (l.drop k) : Nat)) ∧ H = [(r, rdT, rdC l k)]) noX := by
  refine PuH.intro Tryz.func204 rfl (by kernel_rfl) fun C hC => ?_
  repeat (refine A1 ⟨?_⟩; intros)
  refine WP.loopS (ι := Nat) (fun j => k + j ≤ l.length ∧ j + runN (l.drop (k + j)) = runN (l.drop k)) (fun j => l.length - (k + j))
    (fun j => fm [(0, lit (.pointer (some ⟨r, 0, none⟩))), (1, sl [lit (.int .i64 3), lit (.int .i64 4)] 2), (5, lit (.int .i64 j))]) (fun j => [(r, rdT, rdC l k)]) 0 ⟨hk, by rw [Nat.add_zero, Nat.zero_add]⟩ (by (repeat (first | exact LeF.nil _ | refine LeF.cons (Le.refl _) ?_ | refine LeF.cons (Le.int (by omega)) ?_))) (List.Sublist.refl _) ?_
  rintro j ⟨hj, hs⟩ K hK
  by_cases hjl : k + j < l.length
  · obtain ⟨b, hd, hm, hg⟩ := at_byte hjl
    have hb := b.toNat_lt
    have c1 := classOf_pu (b := b.toNat) (by omega)
    rcases cls_ok (hok b hm) with ⟨h32, hc⟩ | ⟨h32, hc⟩ | ⟨h32, hc⟩
    · rw [hc, ← hg] at c1
      rw [hd, runN_ne (by omega)] at hs
      clear hK
      have hj' : j = runN (l.drop k) := by omega
      subst hj'
      repeat (first | (refine A1 ⟨?_⟩; intros) | (refine Wcx (c1) ?_) | (refine Wdcx (c1) ?_) | (refine Wcgx (c1) ?_) | (refine Wdcgx (c1) ?_))
      refine WP.unroll 3 ?_
      refine WPR.succ ?_
      repeat (refine A1 ⟨?_⟩; intros)
      refine Wo (ov_idxS (cs' := [lit (.int .i64 3)]) rfl rfl (by omega) (by omega) rfl (by simp)) ?_
      repeat (refine A1 ⟨?_⟩; intros)
      refine Wo (ov_idxS (cs' := [lit (.int .i64 4)]) rfl rfl (by omega) (by omega) rfl (by simp)) ?_
      repeat (refine A1 ⟨?_⟩; intros)
      exact endHR _ _ (end1 (RV.tmp rfl) (Le.refl _)) (List.Sublist.refl _) ⟨rfl, rfl⟩
    · rw [hc, ← hg] at c1
      rw [hd, runN_3 hc] at hs
      have hgo := fun F' H' => hK F' H' (j + 1) ⟨by omega, by rw [show k + (j + 1) = k + j + 1 by omega]; omega⟩ (by omega)
      clear hK hs
      repeat (first | (refine A1 ⟨?_⟩; intros) | (refine Wcx (c1) ?_) | (refine Wdcx (c1) ?_) | (refine Wcgx (c1) ?_) | (refine Wdcgx (c1) ?_))
      refine WP.unroll 3 ?_
      refine WPR.succ ?_
      repeat (refine A1 ⟨?_⟩; intros)
      refine Wo (ov_idxS (cs' := [lit (.int .i64 3)]) rfl rfl (by omega) (by omega) rfl (by simp)) ?_
      repeat (refine A1 ⟨?_⟩; intros)
      exact hgo _ _ (by (repeat (first | exact LeF.nil _ | refine LeF.cons (Le.refl _) ?_ | refine LeF.cons (Le.int (by omega)) ?_))) (List.Sublist.refl _)
    · rw [hc, ← hg] at c1
      rw [hd, runN_ne (by omega)] at hs
      clear hK
      have hj' : j = runN (l.drop k) := by omega
      subst hj'
      repeat (first | (refine A1 ⟨?_⟩; intros) | (refine Wcx (c1) ?_) | (refine Wdcx (c1) ?_) | (refine Wcgx (c1) ?_) | (refine Wdcgx (c1) ?_))
      refine WP.unroll 3 ?_
      refine WPR.succ ?_
      repeat (refine A1 ⟨?_⟩; intros)
      refine Wo (ov_idxS (cs' := [lit (.int .i64 3)]) rfl rfl (by omega) (by omega) rfl (by simp)) ?_
      repeat (refine A1 ⟨?_⟩; intros)
      refine Wo (ov_idxS (cs' := [lit (.int .i64 4)]) rfl rfl (by omega) (by omega) rfl (by simp)) ?_
      repeat (refine A1 ⟨?_⟩; intros)
      exact endHR _ _ (end1 (RV.tmp rfl) (Le.refl _)) (List.Sublist.refl _) ⟨rfl, rfl⟩
  · rw [List.drop_eq_nil_of_le (by omega)] at hs
    have hj' : j = runN (l.drop k) := by unfold runN at hs ⊢; simpa using hs
    subst hj'
    clear hK
    repeat (refine A1 ⟨?_⟩; intros)
    exact endHR _ _ (end1 (RV.tmp rfl) (Le.refl _)) (List.Sublist.refl _) ⟨rfl, rfl⟩
end Go.Ab
/- The lexer, walked: tokens. -/
namespace Go.Ab
open Go.Proofs
set_option linter.unusedSectionVars false
set_option linter.unusedVariables false
set_option linter.unusedSimpArgs false
variable [Base]
/-- the next token at place k, and the place behind it -/
def nx (l : List UInt8) (k : Nat) : Option (Tok × Nat) := match l.drop (k + skipN (l.drop k)) with
  | [] => some (⟨0, [], 1, k + skipN (l.drop k) + 1⟩, k + skipN (l.drop k))
  | b :: r => if clsN b.toNat = 3 then (if 24 < runN (b :: r) then none else some (⟨1, (b :: r).take (runN (b :: r)), 1, k + skipN (l.drop k) + 1⟩, k + skipN (l.drop k) + runN (b :: r)))
    else some (⟨3, [b], 1, k + skipN (l.drop k) + 1⟩, k + skipN (l.drop k) + 1)
theorem lexF_succ (f : Nat) (l : List UInt8) (c : Nat) : lexF (f + 1) l c = match l.drop (skipN l) with
    | [] => some [⟨0, [], 1, c + skipN l⟩]
    | b :: r => if clsN b.toNat = 3 then
        (if 24 < runN (b :: r) then none else match lexF f ((b :: r).drop (runN (b :: r))) (c + skipN l + runN (b :: r)) with
          | some ts => some (⟨1, (b :: r).take (runN (b :: r)), 1, c + skipN l⟩ :: ts)
          | none => none)
      else match lexF f r (c + skipN l + 1) with
        | some ts => some (⟨3, [b], 1, c + skipN l⟩ :: ts)
        | none => none := rfl
theorem lexF_nx (f : Nat) (l : List UInt8) (k : Nat) : lexF (f + 1) (l.drop k) (k + 1) = match nx l k with
    | none => none
    | some (t, k') => if t.k = 0 then some [t] else match lexF f (l.drop k') (k' + 1) with
      | some ts => some (t :: ts)
      | none => none := by
  have hdd : (l.drop k).drop (skipN (l.drop k)) = l.drop (k + skipN (l.drop k)) := by rw [List.drop_drop]
  rw [lexF_succ]
  unfold nx
  rw [hdd]
  generalize hr : l.drop (k + skipN (l.drop k)) = R
  cases R with
  | nil => simp only [if_true]; rw [show k + 1 + skipN (l.drop k) = k + skipN (l.drop k) + 1 by omega]
  | cons b r =>
    simp only
    by_cases h3 : clsN b.toNat = 3
    · rw [if_pos h3, if_pos h3]
      by_cases h24 : 24 < runN (b :: r)
      · rw [if_pos h24, if_pos h24]
      · rw [if_neg h24, if_neg h24]
        simp only
        rw [if_neg (by decide), show (b :: r).drop (runN (b :: r)) = l.drop (k + skipN (l.drop k) + runN (b :: r)) by rw [← hr, List.drop_drop], show k + 1 + skipN (l.drop k) + runN (b :: r) = k + skipN (l.drop k) + runN (b :: r) + 1 by omega, show k + 1 + skipN (l.drop k) = k + skipN (l.drop k) + 1 by omega]
    · rw [if_neg h3, if_neg h3]
      simp only
      rw [if_neg (by decide), show r = l.drop (k + skipN (l.drop k) + 1) by rw [← List.drop_drop, hr]; rfl, show k + 1 + skipN (l.drop k) + 1 = k + skipN (l.drop k) + 1 + 1 by omega, show k + 1 + skipN (l.drop k) = k + skipN (l.drop k) + 1 by omega]
theorem skip_head : ∀ (l : List UInt8) (b : UInt8) (r : List UInt8), l.drop (skipN l) = b :: r → b.toNat ≠ 32
  | [], _, _, h => by simp at h
  | c :: l, b, r, h => by
    by_cases h32 : c.toNat = 32
    · rw [skipN_32 h32] at h
      exact skip_head l b r h
    · rw [skipN_ne h32] at h
      rw [List.drop_zero] at h
      obtain ⟨rfl, _⟩ := List.cons.inj h
      exact h32
set_option maxHeartbeats 4000000 in
theorem rnext_pu [Sent 3] (r : Nat) (l : List UInt8) (k : Nat) (hok : ∀ b ∈ l, okC b = true) (hk : k ≤ l.length) (hl : l.length ≤ 100000) :
    PuH Tryz.prog 145 [lit (.pointer (some ⟨r, 0, none⟩))] [(r, rdT, rdC l k)] (fun v H => match nx l k with
      | some (t, k') => v = Ab.tup [ag (tkx t), lit .nilIface] ∧ H = [(r, rdT, rdC l k')]
      | none => v = Ab.tup [ag (tkx ⟨0, [], 0, 0⟩), errE]) noX := by
  have hsk := skipN_le (l.drop k)
  rw [List.length_drop] at hsk
  have c0 := skip_pu r l k hok hk hl
  unfold nx
  have ha : k + skipN (l.drop k) ≤ l.length := by omega
  clear hsk
  have hns : ∀ b r, l.drop (k + skipN (l.drop k)) = b :: r → b.toNat ≠ 32 := fun b r h => skip_head (l.drop k) b r (by rw [List.drop_drop]; exact h)
  generalize k + skipN (l.drop k) = a at *
  by_cases hal : a < l.length
  · obtain ⟨b, hd, hm, hg⟩ := at_byte hal
    have hb := b.toNat_lt
    have c1 := classOf_pu (b := b.toNat) (by omega)
    rcases cls_ok (hok b hm) with ⟨h32, hc⟩ | ⟨h32, hc⟩ | ⟨h32, hc⟩
    · exact absurd h32 (hns b _ hd)
    · rw [hd]
      simp only
      rw [if_pos hc, ← hd]
      rw [hc, ← hg] at c1
      have c2 := rrun_pu r l a hok ha hl
      have hn1 := runN_pos (r := l.drop (a + 1)) hc
      have hn2 := runN_le (l.drop a)
      rw [← hd] at hn1
      rw [List.length_drop] at hn2
      have c3 := rtake_pu r l a (runN (l.drop a)) (by omega) hl
      have hlen : ((l.drop a).take (runN (l.drop a))).length = runN (l.drop a) := by rw [List.length_take, List.length_drop]; omega
      generalize runN (l.drop a) = n at *
      generalize (l.drop a).take n = tx at *
      clear hd hg
      by_cases h24 : 24 < n
      · rw [if_pos h24]
        simp only
        refine PuH.intro Tryz.func145 rfl (by kernel_rfl) fun C hC => ?_
        repeat (refine A1 ⟨?_⟩; intros)
        refine WfT c0 ?_
        rintro _ _ ⟨rfl, rfl⟩
        simp only [List.cons_append, List.nil_append]
        repeat (first | (refine A1 ⟨?_⟩; intros) | (refine Wcx (c1) ?_) | (refine Wdcx (c1) ?_) | (refine Wcgx (c1) ?_) | (refine Wdcgx (c1) ?_))
        refine WpubS 46 rfl (HDel.here _) (by omega) (by omega) ?_
        refine WfT c2 ?_
        rintro _ _ ⟨rfl, rfl⟩
        simp only [List.cons_append, List.nil_append]
        refine WfT c3 ?_
        rintro _ _ ⟨rfl, rfl⟩
        simp only [List.cons_append, List.nil_append]
        repeat (first | (refine AS ⟨?_⟩; intros) | (refine O1 ⟨?_⟩; intros))
        rename_i b2 b4 b46
        refine WP.perm (List.Perm.swap _ _ _) ?_
        refine WdM [11] [(b4, tkT, [lit (.int .i64 1), str tx, lit (.int .i64 1), lit (.int .i64 (a + 1 : Nat))]), (r, rdT, rdC l (a + n))] (fun _ => [(b2, tkT, tkx ⟨0, [], 0, 0⟩)]) ?_
        refine MkD 11 ?_
        repeat (refine A1 ⟨?_⟩; intros)
        refine Wdo (ov_boxP (sv := ag _) rfl) ?_
        refine Wdo (ov_makeIface (s := pt _) (by kernel_rfl) rfl) ?_
        repeat (refine A1 ⟨?_⟩; intros)
        refine mkD0 ?_
        refine MkR (sv := top) (TS.store (sv := ag (tkx ⟨0, [], 0, 0⟩)) (ds := tkx ⟨0, [], 0, 0⟩) rfl rfl rfl rfl (HUpd.here _) rfl rfl) ?_
        refine MkD 1 ?_
        repeat (refine A1 ⟨?_⟩; intros)
        refine mkD0 ?_
        refine MkN ?_
        repeat (refine A1 ⟨?_⟩; intros)
        exact endHR (Ab.tup [ag (tkx ⟨0, [], 0, 0⟩), errE]) [] (end2 (RV.cellA rfl (by (first | exact List.mem_cons_self | exact (List.mem_cons_of_mem _ List.mem_cons_self) | exact (List.mem_cons_of_mem _ (List.mem_cons_of_mem _ List.mem_cons_self)) | exact (List.mem_cons_of_mem _ (List.mem_cons_of_mem _ (List.mem_cons_of_mem _ List.mem_cons_self))) | exact (List.mem_cons_of_mem _ (List.mem_cons_of_mem _ (List.mem_cons_of_mem _ (List.mem_cons_of_mem _ List.mem_cons_self)))) | exact (List.mem_cons_of_mem _ (List.mem_cons_of_mem _ (List.mem_cons_of_mem _ (List.mem_cons_of_mem _ (List.mem_cons_of_mem _ List.mem_cons_self))))) | exact (List.mem_cons_of_mem _ (List.mem_cons_of_mem _ (List.mem_cons_of_mem _ (List.mem_cons_of_mem _ (List.mem_cons_of_mem _ (List.mem_cons_of_mem _ List.mem_cons_self)))))) | exact (List.mem_cons_of_mem _ (List.mem_cons_of_mem _ (List.mem_cons_of_mem _ (List.mem_cons_of_mem _ (List.mem_cons_of_mem _ (List.mem_cons_of_mem _ (List.mem_cons_of_mem _ List.mem_cons_self))))))))) rfl rfl) (RV.tmp rfl) (Le.tup2 (Le.refl _) Le.ifcT)) (List.nil_sublist _) rfl
      · rw [if_neg h24]
        simp only
        refine PuH.intro Tryz.func145 rfl (by kernel_rfl) fun C hC => ?_
        repeat (refine A1 ⟨?_⟩; intros)
        refine WfT c0 ?_
        rintro _ _ ⟨rfl, rfl⟩
        simp only [List.cons_append, List.nil_append]
        repeat (first | (refine A1 ⟨?_⟩; intros) | (refine Wcx (c1) ?_) | (refine Wdcx (c1) ?_) | (refine Wcgx (c1) ?_) | (refine Wdcgx (c1) ?_))
        refine WpubS 46 rfl (HDel.here _) (by omega) (by omega) ?_
        refine WfT c2 ?_
        rintro _ _ ⟨rfl, rfl⟩
        simp only [List.cons_append, List.nil_append]
        refine WfT c3 ?_
        rintro _ _ ⟨rfl, rfl⟩
        simp only [List.cons_append, List.nil_append]
        repeat (refine A1 ⟨?_⟩; intros)
        exact endHR _ _ (end2 (RV.cellA rfl (by (first | exact List.mem_cons_self | exact (List.mem_cons_of_mem _ List.mem_cons_self) | exact (List.mem_cons_of_mem _ (List.mem_cons_of_mem _ List.mem_cons_self)) | exact (List.mem_cons_of_mem _ (List.mem_cons_of_mem _ (List.mem_cons_of_mem _ List.mem_cons_self))) | exact (List.mem_cons_of_mem _ (List.mem_cons_of_mem _ (List.mem_cons_of_mem _ (List.mem_cons_of_mem _ List.mem_cons_self)))) | exact (List.mem_cons_of_mem _ (List.mem_cons_of_mem _ (List.mem_cons_of_mem _ (List.mem_cons_of_mem _ (List.mem_cons_of_mem _ List.mem_cons_self))))) | exact (List.mem_cons_of_mem _ (List.mem_cons_of_mem _ (List.mem_cons_of_mem _ (List.mem_cons_of_mem _ (List.mem_cons_of_mem _ (List.mem_cons_of_mem _ List.mem_cons_self)))))) | exact (List.mem_cons_of_mem _ (List.mem_cons_of_mem _ (List.mem_cons_of_mem _ (List.mem_cons_of_mem _ (List.mem_cons_of_mem _ (List.mem_cons_of_mem _ (List.mem_cons_of_mem _ List.mem_cons_self))))))))) rfl rfl) (RV.tmp rfl) (Le.refl _)) (by repeat (first | exact List.Sublist.refl _ | refine List.Sublist.cons _ ?_)) ⟨rfl, rfl⟩
    · rw [hd]
      simp only
      rw [if_neg (by omega)]
      rw [hc, ← hg] at c1
      have c3 := rtake_pu r l a 1 (by omega) hl
      rw [hd, List.take_succ_cons, List.take_zero, show ((1 : Nat) : Int) = 1 from rfl] at c3
      clear hd hg
      refine PuH.intro Tryz.func145 rfl (by kernel_rfl) fun C hC => ?_
      repeat (refine A1 ⟨?_⟩; intros)
      refine WfT c0 ?_
      rintro _ _ ⟨rfl, rfl⟩
      simp only [List.cons_append, List.nil_append]
      repeat (first | (refine A1 ⟨?_⟩; intros) | (refine Wcx (c1) ?_) | (refine Wdcx (c1) ?_) | (refine Wcgx (c1) ?_) | (refine Wdcgx (c1) ?_))
      refine WfT c3 ?_
      rintro _ _ ⟨rfl, rfl⟩
      simp only [List.cons_append, List.nil_append]
      repeat (refine A1 ⟨?_⟩; intros)
      exact endHR _ _ (end2 (RV.cellA rfl (by (first | exact List.mem_cons_self | exact (List.mem_cons_of_mem _ List.mem_cons_self) | exact (List.mem_cons_of_mem _ (List.mem_cons_of_mem _ List.mem_cons_self)) | exact (List.mem_cons_of_mem _ (List.mem_cons_of_mem _ (List.mem_cons_of_mem _ List.mem_cons_self))) | exact (List.mem_cons_of_mem _ (List.mem_cons_of_mem _ (List.mem_cons_of_mem _ (List.mem_cons_of_mem _ List.mem_cons_self)))) | exact (List.mem_cons_of_mem _ (List.mem_cons_of_mem _ (List.mem_cons_of_mem _ (List.mem_cons_of_mem _ (List.mem_cons_of_mem _ List.mem_cons_self))))) | exact (List.mem_cons_of_mem _ (List.mem_cons_of_mem _ (List.mem_cons_of_mem _ (List.mem_cons_of_mem _ (List.mem_cons_of_mem _ (List.mem_cons_of_mem _ List.mem_cons_self)))))) | exact (List.mem_cons_of_mem _ (List.mem_cons_of_mem _ (List.mem_cons_of_mem _ (List.mem_cons_of_mem _ (List.mem_cons_of_mem _ (List.mem_cons_of_mem _ (List.mem_cons_of_mem _ List.mem_cons_self))))))))) rfl rfl) (RV.tmp rfl) (Le.refl _)) (by repeat (first | exact List.Sublist.refl _ | refine List.Sublist.cons _ ?_)) ⟨rfl, rfl⟩
  · rw [List.drop_eq_nil_of_le (by omega)]
    refine PuH.intro Tryz.func145 rfl (by kernel_rfl) fun C hC => ?_
    repeat (refine A1 ⟨?_⟩; intros)
    refine WfT c0 ?_
    rintro _ _ ⟨rfl, rfl⟩
    simp only [List.cons_append, List.nil_append]
    repeat (refine A1 ⟨?_⟩; intros)
    exact endHR _ _ (end2 (RV.cellA rfl (by (first | exact List.mem_cons_self | exact (List.mem_cons_of_mem _ List.mem_cons_self) | exact (List.mem_cons_of_mem _ (List.mem_cons_of_mem _ List.mem_cons_self)) | exact (List.mem_cons_of_mem _ (List.mem_cons_of_mem _ (List.mem_cons_of_mem _ List.mem_cons_self))) | exact (List.mem_cons_of_mem _ (List.mem_cons_of_mem _ (List.mem_cons_of_mem _ (List.mem_cons_of_mem _ List.mem_cons_self)))) | exact (List.mem_cons_of_mem _ (List.mem_cons_of_mem _ (List.mem_cons_of_mem _ (List.mem_cons_of_mem _ (List.mem_cons_of_mem _ List.mem_cons_self))))) | exact (List.mem_cons_of_mem _ (List.mem_cons_of_mem _ (List.mem_cons_of_mem _ (List.mem_cons_of_mem _ (List.mem_cons_of_mem _ (List.mem_cons_of_mem _ List.mem_cons_self)))))) | exact (List.mem_cons_of_mem _ (List.mem_cons_of_mem _ (List.mem_cons_of_mem _ (List.mem_cons_of_mem _ (List.mem_cons_of_mem _ (List.mem_cons_of_mem _ (List.mem_cons_of_mem _ List.mem_cons_self))))))))) rfl rfl) (RV.tmp rfl) (Le.refl _)) (by repeat (first | exact List.Sublist.refl _ | refine List.Sublist.cons _ ?_)) ⟨rfl, rfl⟩
end Go.Ab
/- The lexer, walked: all tokens of a text. -/
namespace Go.Ab
open Go.Proofs
set_option linter.unusedSectionVars false
set_option linter.unusedVariables false
set_option linter.unusedSimpArgs false
variable [Base]
abbrev toks (ts : List Tok) : SV := sl (ts.map tkx).flatten ts.length
theorem nx_some {l : List UInt8} {k k' : Nat} {t : Tok} (hk : k ≤ l.length) (h : nx l k = some (t, k')) : k' ≤ l.length ∧ (t.k ≠ 0 → k < k') ∧ t.t.length ≤ 24 := by
  have hsk := skipN_le (l.drop k)
  rw [List.length_drop] at hsk
  have ha : k + skipN (l.drop k) ≤ l.length := by omega
  unfold nx at h
  have hka : k ≤ k + skipN (l.drop k) := Nat.le_add_right _ _
  generalize k + skipN (l.drop k) = a at *
  cases hr : l.drop a with
  | nil =>
    rw [hr] at h
    simp only [Option.some.injEq, Prod.mk.injEq] at h
    obtain ⟨rfl, rfl⟩ := h
    exact ⟨ha, fun h => absurd rfl h, by simp⟩
  | cons b r =>
    rw [hr] at h
    simp only at h
    have hlen : l.length - a = r.length + 1 := by rw [← List.length_drop, hr]; rfl
    by_cases h3 : clsN b.toNat = 3
    · rw [if_pos h3] at h
      have h1 := runN_pos (r := r) h3
      have h2 := runN_le (b :: r)
      simp only [List.length_cons] at h2
      by_cases h24 : 24 < runN (b :: r)
      · rw [if_pos h24] at h; cases h
      · rw [if_neg h24] at h
        simp only [Option.some.injEq, Prod.mk.injEq] at h
        obtain ⟨rfl, rfl⟩ := h
        exact ⟨by omega, fun _ => by omega, by simp only [List.length_take, List.length_cons]; omega⟩
    · rw [if_neg h3] at h
      simp only [Option.some.injEq, Prod.mk.injEq] at h
      obtain ⟨rfl, rfl⟩ := h
      exact ⟨by omega, fun _ => by omega, by simp⟩
theorem toks_snoc (A : List Tok) (t : Tok) : ((A ++ [t]).map tkx).flatten = (A.map tkx).flatten ++ tkx t := by
  rw [List.map_append, List.flatten_append]; simp only [List.map_cons, List.map_nil, List.flatten_cons, List.flatten_nil, List.append_nil]
def ttsR (o : Option (List Tok)) : SV := match o with
  | some ts => Ab.tup [toks ts, lit .nilIface]
  | none => Ab.tup [lit (.slice none 0 0), errE]
set_option maxHeartbeats 4000000 in
theorem tokens_pu [Sent 3] (l : List UInt8) (hok : ∀ b ∈ l, okC b = true) (hl : l.length ≤ 65536) : Pu Tryz.prog 91 [str l] (ttsR (lexT l)) := by
  refine Pu.intro Tryz.func91 rfl (by kernel_rfl) fun C => ?_
  repeat (refine A1 ⟨?_⟩; intros)
  rename_i r
  refine WP.loopS (ι := Nat × Nat × List Tok × SV × LH) (fun x => x.2.1 ≤ l.length ∧ l.length + 1 ≤ x.1 + x.2.1 ∧ x.2.2.1.length ≤ x.2.1 ∧ Own tkT 4 x.2.2.1.length (x.2.2.1.map tkx).flatten x.2.2.2.1 x.2.2.2.2 ∧ lexT l = (match lexF x.1 (l.drop x.2.1) (x.2.1 + 1) with
      | some ts => some (x.2.2.1 ++ ts)
      | none => none)) (fun x => l.length - x.2.1)
    (fun x => fm [(4, lit (.pointer (some ⟨r, 0, none⟩))), (5, x.2.2.2.1)]) (fun x => (r, rdT, rdC l x.2.1) :: x.2.2.2.2) (l.length + 1, 0, [], lit (.slice none 0 0), [])
    ⟨Nat.zero_le _, by simp, Nat.le_refl _, Own.nil _ _, by simp only [List.drop_zero, List.nil_append]; unfold lexT; split <;> (rename_i h; exact h)⟩ (by (repeat (first | exact LeF.nil _ | refine LeF.cons (Le.refl _) ?_ | refine LeF.cons (Le.int (by omega)) ?_))) (List.Sublist.refl _) ?_
  rintro ⟨f, k, A, s, Hs⟩ ⟨hk, hf, hA, hown, hlex⟩ K hK
  simp only at hk hf hA hown hlex ⊢
  obtain ⟨f, rfl⟩ : ∃ f', f = f' + 1 := ⟨f - 1, by omega⟩
  rw [lexF_nx] at hlex
  have hco := hown.co
  have c := rnext_pu r l k hok hk (by omega)
  cases hn : nx l k with
  | none =>
    rw [hn] at c hlex
    simp only at c hlex
    rw [hlex]
    clear hK
    repeat (refine A1 ⟨?_⟩; intros)
    refine WfT c ?_
    rintro _ H' rfl
    repeat (refine A1 ⟨?_⟩; intros)
    refine Wo (ov_ineF (s := top) (by kernel_rfl) rfl) ?_
    repeat (refine A1 ⟨?_⟩; intros)
    refine endR (end2 (RV.tmp rfl) (RV.tmp rfl) (Le.of_eq rfl))
  | some q =>
    obtain ⟨t, k'⟩ := q
    rw [hn] at c hlex
    simp only at c hlex
    obtain ⟨g1, g2, g3⟩ := nx_some hk hn
    repeat (refine A1 ⟨?_⟩; intros)
    refine WfT c ?_
    rintro _ _ ⟨rfl, rfl⟩
    refine WPL.perm List.perm_append_comm ?_
    simp only [List.cons_append, List.nil_append]
    repeat (refine A1 ⟨?_⟩; intros)
    refine Wown hown (by omega) (fun s' H' hown' => ?_)
    simp only [List.cons_append, List.nil_append]
    have hown'' : Own tkT 4 (A ++ [t]).length ((A ++ [t]).map tkx).flatten s' H' := by
      rw [toks_snoc, List.length_append, List.length_singleton]; exact hown'
    by_cases h0 : t.k = 0
    · rw [if_pos h0] at hlex
      simp only at hlex
      rw [hlex]
      clear hK hown'
      obtain ⟨hcl, ⟨h0', _⟩ | ⟨b2, c2, hnc, hcm, rfl, rfl⟩⟩ := hown''
      · simp at h0'
      refine WPL.pub (d := 29) (s' := toks (A ++ [t])) (HDel.there _ (HDel.there _ (HDel.there _ (HDel.here _)))) rfl (fun m arr h1 h2 => pub_ownL h1 h2 hnc hcm) ?_
      repeat (refine A1 ⟨?_⟩; intros)
      refine endR (end2 (RV.tmp rfl) (RV.tmp rfl) (Le.of_eq rfl))
    · rw [if_neg h0] at hlex
      have hgo := fun F' H'' => hK F' H'' (f, k', A ++ [t], s', H') ⟨g1, by have := g2 h0; simp only; omega, by have := g2 h0; simp only [List.length_append, List.length_singleton]; omega, hown'', by
        simp only
        rw [hlex]
        cases lexF f (l.drop k') (k' + 1) with
        | none => rfl
        | some ts => simp⟩ (by have := g2 h0; simp only; omega)
      have hco' := hown''.co
      clear hK hlex hown hown'
      repeat (refine A1 ⟨?_⟩; intros)
      exact hgo _ _ (by (repeat (first | exact LeF.nil _ | refine LeF.cons (Le.refl _) ?_ | refine LeF.cons (Le.int (by omega)) ?_))) (List.Sublist.cons _ (List.Sublist.cons _ (List.Sublist.refl _)))
end Go.Ab
/- Names, as the reference takes them. -/
namespace Go.Ab
open Go.Proofs
set_option linter.unusedSectionVars false
set_option linter.unusedVariables false
set_option linter.unusedSimpArgs false
variable [Base]
end Go.Ab
/- Numbers and points of the reference's printer. -/
namespace Go.Ab
open Go.Proofs
set_option linter.unusedSectionVars false
set_option linter.unusedVariables false
set_option linter.unusedSimpArgs false
variable [Base]
/-- a number's text, nothing where it is not in normal form -/
def numT (r : RQ) : List UInt8 := if nrmQ r = true then fmt r.v else []
theorem numT_t {r : RQ} (h : nrmQ r = true) : numT r = fmt r.v := by unfold numT; rw [if_pos h]
theorem numT_len {r : RQ} {L : Nat} (h : r.ok L) : (numT r).length ≤ 20 * L + 24 := by
  unfold numT
  split
  · have := fmt_len (ht_v h); omega
  · simp
end Go.Ab
/- The reference's printer: points. -/
namespace Go.Ab
open Go.Proofs
set_option linter.unusedSectionVars false
set_option linter.unusedVariables false
set_option linter.unusedSimpArgs false
variable [Base]
/-- a point's text, as the reference writes it -/
def rpT (a b : RQ) : List UInt8 := [40] ++ numT a ++ [44] ++ numT b ++ [41]
theorem rpT_good {a b : RQ} (h : (nrmQ a && nrmQ b) = true) : rpT a b = ptxt a b := by
  rw [Bool.and_eq_true] at h
  unfold rpT ptxt
  rw [numT_t h.1, numT_t h.2]
theorem rpT_len {a b : RQ} {L : Nat} (ha : a.ok L) (hb : b.ok L) : (rpT a b).length ≤ 40 * L + 60 := by
  have h1 := numT_len ha
  have h2 := numT_len hb
  unfold rpT
  simp only [List.length_append, List.length_cons, List.length_nil]
  omega
end Go.Ab
/- The reference's printer: brackets and the result. -/
namespace Go.Ab
open Go.Proofs
set_option linter.unusedSectionVars false
set_option linter.unusedVariables false
set_option linter.unusedSimpArgs false
variable [Base]
end Go.Ab
/- Parts of an expression: the reference's check of one part. -/
namespace Go.Ab
open Go.Proofs
set_option linter.unusedSectionVars false
set_option linter.unusedVariables false
set_option linter.unusedSimpArgs false
variable [Base]
end Go.Ab
/- Parts of an expression: the reference's check of one part. -/
namespace Go.Ab
open Go.Proofs
set_option linter.unusedSectionVars false
set_option linter.unusedVariables false
set_option linter.unusedSimpArgs false
variable [Base]
end Go.Ab
/- The reference's printer: parts. -/
namespace Go.Ab
open Go.Proofs
set_option linter.unusedSectionVars false
set_option linter.unusedVariables false
set_option linter.unusedSimpArgs false
variable [Base]
/-- the text of a tree, as the reference writes it -/
def Ex.rtxt : Ex → List UInt8
  | .leaf n => if n.k = 1 then n.nm else if n.k = 2 then [97, 108, 108] else if n.k = 3 then [110, 111, 110, 101] else [104, 97, 108, 102, 32] ++ rpT n.a n.b ++ [32] ++ rpT n.c n.e
  | .un _ x => [126] ++ par (decide (rk x.top < 3)) x.rtxt
  | .bi n l r => par (decide (rk l.top < rk n)) l.rtxt ++ sgn n.op ++ par (decide (rk r.top < rk n + 1)) r.rtxt
theorem Ex.rtxt_good : ∀ {t : Ex}, t.good = true → (∀ (ns : List Nd) (i : Nat), t.At ns i → t.rtxt = t.txt)
  | .leaf n, h, ns, i, hat => by
    obtain ⟨_, h1, h4⟩ := hat
    unfold Ex.rtxt Ex.txt
    unfold Ex.good at h
    by_cases k1 : n.k = 1
    · rw [if_pos k1, if_pos k1]
    rw [if_neg k1] at h ⊢
    rw [if_neg k1]
    by_cases k2 : n.k = 2
    · rw [if_pos k2, if_pos k2]
    rw [if_neg k2, if_neg k2]
    by_cases k3 : n.k = 3
    · rw [if_pos k3, if_pos k3]
    rw [if_neg k3, if_neg k3]
    rw [if_pos (by omega : n.k = 4)] at h
    rw [Bool.and_eq_true] at h
    rw [rpT_good h.1, rpT_good h.2]
    unfold ptxt2
    simp only [List.append_assoc, List.cons_append, List.nil_append]
  | .un n x, h, ns, i, hat => by
    obtain ⟨_, _, j, _, hx⟩ := hat
    unfold Ex.rtxt Ex.txt
    rw [Ex.rtxt_good (t := x) h ns j hx]
  | .bi n l r, h, ns, i, hat => by
    obtain ⟨_, _, _, j, k, _, _, hl, hr⟩ := hat
    have h' : (l.good && r.good) = true := h
    rw [Bool.and_eq_true] at h'
    unfold Ex.rtxt Ex.txt
    rw [Ex.rtxt_good h'.1 ns j hl, Ex.rtxt_good h'.2 ns k hr]
theorem Ex.rtxt_len {L : Nat} (hL : L ≤ 20) {ns : List Nd} (hok : ∀ n ∈ ns, n.ok L) : ∀ {t : Ex} {i : Nat}, t.At ns i → t.rtxt.length ≤ 2000 * t.size
  | .leaf n, i, hat => by
    have hm := hok n (List.mem_of_getElem? hat.1)
    have h1 := rpT_len hm.a hm.b
    have h2 := rpT_len hm.c hm.e
    have h3 := hm.nm
    simp only [Ex.rtxt, Ex.size]
    split
    · omega
    split
    · simp
    split
    · simp
    · simp only [List.length_append, List.length_cons, List.length_nil]; omega
  | .un n x, i, hat => by
    obtain ⟨_, _, j, _, hx⟩ := hat
    have h1 := Ex.rtxt_len hL hok hx
    have h2 := par_len (decide (rk x.top < 3)) x.rtxt
    simp only [Ex.rtxt, Ex.size, List.length_append, List.length_cons, List.length_nil]
    omega
  | .bi n l r, i, hat => by
    obtain ⟨_, _, _, j, k, _, _, hl, hr⟩ := hat
    have h1 := Ex.rtxt_len hL hok hl
    have h2 := Ex.rtxt_len hL hok hr
    have h3 := par_len (decide (rk l.top < rk n)) l.rtxt
    have h4 := par_len (decide (rk r.top < rk n + 1)) r.rtxt
    have h5 := sgn_len n.op
    simp only [Ex.rtxt, Ex.size, List.length_append]
    omega
end Go.Ab
/- The reference's stack of expressions, as a plain function; it accepts what the program's check accepts. -/
namespace Go.Ab
open Go.Proofs
set_option linter.unusedSectionVars false
set_option linter.unusedVariables false
set_option linter.unusedSimpArgs false
variable [Base]
/-- the stack, its top first, behind part number i -/
def stp (i : Nat) (n : Nd) (st : List (Ex × Nat)) : Option (List (Ex × Nat)) :=
  if okN n = true then
    if n.k = 5 then (match st with
      | (x, j) :: r => if n.x = (j : Nat) then some ((.un n x, i) :: r) else none
      | [] => none)
    else if n.k = 6 then (match st with
      | (y, k) :: (x, j) :: r => if n.x = (j : Nat) ∧ n.y = (k : Nat) then some ((.bi n x y, i) :: r) else none
      | _ => none)
    else some ((.leaf n, i) :: st)
  else none
def stk : List Nd → Nat → List (Ex × Nat) → Option (List (Ex × Nat))
  | [], _, st => some st
  | n :: ns, i, st => match stp i n st with
    | some st' => stk ns (i + 1) st'
    | none => none
theorem stk_cons (n : Nd) (ns : List Nd) (i : Nat) (st : List (Ex × Nat)) : stk (n :: ns) i st = match stp i n st with
    | some st' => stk ns (i + 1) st'
    | none => none := rfl
/-- the trees of a stack stand one behind the other -/
inductive Sk (ns : List Nd) (ss : List Nat) : Nat → List (Ex × Nat) → Prop
  | nil : Sk ns ss 0 []
  | cons {i : Nat} {t : Ex} {st : List (Ex × Nat)} (h1 : t.At ns i) (h2 : t.size = ss.getD i 0) (h3 : t.size ≤ i + 1) (h : Sk ns ss (i + 1 - t.size) st) : Sk ns ss (i + 1) ((t, i) :: st)
theorem Sk.more {ns : List Nd} {ss : List Nat} {i s : Nat} {st : List (Ex × Nat)} (h : Sk ns ss i st) : i ≤ ss.length → Sk ns (ss ++ [s]) i st := by
  induction h with
  | nil => exact fun _ => .nil
  | @cons i t st h1 h2 h3 _ ih =>
    intro hi
    refine .cons h1 ?_ h3 (ih (by have := t.size_pos; omega))
    rw [h2]
    simp [List.getD, List.getElem?_append_left (show i < ss.length by omega)]
theorem Sk.all {ns : List Nd} {ss : List Nat} {i : Nat} {st : List (Ex × Nat)} (h : Sk ns ss i st) : ∀ e ∈ st, e.1.At ns e.2 ∧ e.1.size ≤ i ∧ e.2 < i := by
  induction h with
  | nil => intro e he; cases he
  | @cons i t st h1 h2 h3 _ ih =>
    intro e he
    have := t.size_pos
    rcases List.mem_cons.1 he with rfl | he
    · exact ⟨h1, h3, Nat.lt_succ_self _⟩
    · obtain ⟨a, b, c⟩ := ih e he
      exact ⟨a, by omega, by omega⟩
/-- the stack's numbers are no more than the parts -/
theorem Sk.len {ns : List Nd} {ss : List Nat} {i : Nat} {st : List (Ex × Nat)} (h : Sk ns ss i st) : st.length ≤ i := by
  induction h with
  | nil => exact Nat.le_refl _
  | @cons i t st h1 h2 h3 _ ih =>
    have := t.size_pos
    simp only [List.length_cons]; omega
theorem getD_snoc (ss : List Nat) (s : Nat) : (ss ++ [s]).getD ss.length 0 = s := by simp [List.getD]
/-- both machines take the same parts -/
theorem stp_step {ns : List Nd} {ss : List Nat} {n : Nd} {st : List (Ex × Nat)} (hat : ns[ss.length]? = some n) (h : Sk ns ss ss.length st) :
    match stp ss.length n st with
    | some st' => ∃ s, step1 ss n = some s ∧ Sk ns (ss ++ [s]) (ss.length + 1) st'
    | none => step1 ss n = none := by
  generalize hi : ss.length = i at *
  unfold stp step1
  rw [hi]
  by_cases e : okN n = true
  · rw [if_pos e, if_pos e]
    obtain ⟨hk, ho⟩ := okN_k e
    by_cases k5 : n.k = 5
    · rw [if_pos k5, if_pos k5]
      cases h with
      | nil => simp only; rw [if_neg (by omega)]
      | @cons j t st' h1 h2 h3 h4 =>
        simp only [Nat.add_sub_cancel]
        by_cases hx : n.x = (j : Nat)
        · rw [if_pos hx, if_pos (by omega)]
          refine ⟨_, rfl, .cons ⟨hat, k5, j, hx, h1⟩ ?_ ?_ ?_⟩
          · rw [← hi, getD_snoc]; simp only [Ex.size]; omega
          · simp only [Ex.size]; omega
          · have := (Sk.more (s := 1 + ss.getD j 0) h4 (by omega))
            simp only [Ex.size]
            rw [show j + 1 + 1 - (1 + t.size) = j + 1 - t.size by omega]
            exact this
        · rw [if_neg hx, if_neg (by omega)]
    · rw [if_neg k5, if_neg k5]
      by_cases k6 : n.k = 6
      · rw [if_pos k6, if_pos k6]
        cases h with
        | nil => simp only; rw [if_neg (by omega)]
        | @cons k y st' h1 h2 h3 h4 =>
          simp only [Nat.add_sub_cancel]
          rw [← h2]
          have hy1 := y.size_pos
          generalize hm : k + 1 - y.size = m at h4
          cases h4 with
          | nil => simp only; rw [if_neg (by omega)]
          | @cons j x r g1 g2 g3 g4 =>
            simp only
            have hj : k - y.size = j := by omega
            rw [hj, ← g2]
            by_cases hx : n.x = (j : Nat) ∧ n.y = (k : Nat)
            · rw [if_pos hx, if_pos (by omega)]
              refine ⟨_, rfl, .cons ⟨hat, k6, ho k6, j, k, hx.1, hx.2, g1, h1⟩ ?_ ?_ ?_⟩
              · rw [← hi, getD_snoc]; simp only [Ex.size]; omega
              · simp only [Ex.size]; omega
              · have := (Sk.more (s := 1 + y.size + x.size) g4 (by omega))
                simp only [Ex.size]
                rw [show k + 1 + 1 - (1 + x.size + y.size) = j + 1 - x.size by omega]
                exact this
            · rw [if_neg hx, if_neg (by omega)]
      · rw [if_neg k6, if_neg k6]
        refine ⟨1, rfl, .cons ⟨hat, hk.1, by omega⟩ ?_ ?_ ?_⟩
        · rw [← hi, getD_snoc]; rfl
        · simp only [Ex.size]; omega
        · have := (Sk.more (s := 1) h (by omega))
          simpa [Ex.size] using this
  · rw [if_neg e, if_neg e]
theorem stk_sizes {ns : List Nd} : ∀ (rest : List Nd) (ss : List Nat) (st : List (Ex × Nat)), ns.drop ss.length = rest → ss.length ≤ ns.length → Sk ns ss ss.length st →
    match stk rest ss.length st with
    | some st' => ∃ out, sizes rest ss = some out ∧ out.length = ns.length ∧ Sk ns out ns.length st'
    | none => sizes rest ss = none
  | [], ss, st, hd, hl, h => by
    have hlen : ss.length = ns.length := by
      have := congrArg List.length hd
      simp at this
      omega
    unfold stk sizes
    exact ⟨ss, rfl, hlen, hlen ▸ h⟩
  | n :: rest, ss, st, hd, hl, h => by
    rw [stk_cons, sizes_cons]
    have hat : ns[ss.length]? = some n := by
      have := congrArg (·[0]?) hd
      simpa using this
    have hlt : ss.length < ns.length := (List.getElem?_eq_some_iff.1 hat).1
    have hs := stp_step hat h
    cases hst : stp ss.length n st with
    | none => rw [hst] at hs; simp only at hs ⊢; rw [hs]
    | some st' =>
      rw [hst] at hs
      obtain ⟨s, hs1, hs2⟩ := hs
      simp only
      rw [hs1]
      have hrec := stk_sizes rest (ss ++ [s]) st' (by
        rw [List.length_append, List.length_singleton]
        have := drop_cons hat
        rw [hd] at this
        exact ((List.cons.inj this).2).symm) (by simp; omega) (by rw [List.length_append, List.length_singleton]; exact hs2)
      rw [List.length_append, List.length_singleton] at hrec
      exact hrec
/-- the reference accepts what the program accepts, with the same tree -/
theorem stk_okL (ns : List Nd) : match stk ns 0 [] with
    | some st => okL ns = decide (st.length = 1) ∧ ∀ t j r, st = (t, j) :: r → t.At ns j ∧ (r = [] → j = ns.length - 1 ∧ t.size = ns.length)
    | none => okL ns = false := by
  have h := stk_sizes (ns := ns) ns [] [] rfl (Nat.zero_le _) .nil
  simp only [List.length_nil] at h
  cases hst : stk ns 0 [] with
  | none =>
    rw [hst] at h
    exact okL_none h
  | some st =>
    rw [hst] at h
    obtain ⟨out, h1, h2, h3⟩ := h
    simp only
    unfold okL
    rw [h1]
    simp only
    generalize hN : ns.length = N at *
    cases h3 with
    | nil => exact ⟨rfl, fun _ _ _ h => by cases h⟩
    | @cons i t st' g1 g2 g3 g4 =>
      simp only [Nat.add_sub_cancel]
      rw [← g2]
      have hp := t.size_pos
      generalize hm : i + 1 - t.size = m at g4
      cases g4 with
      | nil =>
        refine ⟨by simp; omega, fun t' j r he => ?_⟩
        cases he
        exact ⟨g1, fun _ => ⟨rfl, by omega⟩⟩
      | @cons i' t' st'' q1 q2 q3 q4 =>
        refine ⟨by simp; omega, fun t' j r he => ?_⟩
        cases he
        exact ⟨g1, fun hr => by cases hr⟩
end Go.Ab
/- What is read is one expression; two lists that are alike have trees that are alike. -/
namespace Go.Ab
open Go.Proofs
set_option linter.unusedSectionVars false
set_option linter.unusedVariables false
set_option linter.unusedSimpArgs false
variable [Base]
theorem stk_app (A B : List Nd) : ∀ (i : Nat) (st : List (Ex × Nat)), stk (A ++ B) i st = match stk A i st with
    | some st' => stk B (i + A.length) st'
    | none => none := by
  induction A with
  | nil => intro i st; rfl
  | cons n A ih =>
    intro i st
    rw [List.cons_append, stk_cons, stk_cons]
    cases stp i n st with
    | none => rfl
    | some st' =>
      simp only
      rw [ih, List.length_cons, show i + 1 + A.length = i + (A.length + 1) by omega]
/-- a list of parts is one tree, wherever it begins -/
def Rn (A : List Nd) (i : Nat) (x : Ex) : Prop := (∀ s, stk A i s = some ((x, i + A.length - 1) :: s)) ∧ 1 ≤ A.length
theorem okNB {op x y : Int} {a : Tok} (h1 : 1 ≤ op) (h4 : op ≤ 4) : okN (ndB op x y a) = true := by
  unfold okN ndB; simp [zp, zq, h1, h4]
theorem okNU {x : Int} {a : Tok} : okN (ndU x a) = true := by
  unfold okN ndU; simp [zp, zq]
theorem okNA {k : Int} {a : Tok} (h : k = 2 ∨ k = 3) : okN (ndA k a) = true := by
  rcases h with rfl | rfl <;> rfl
theorem okNm {a : Tok} : okN (ndN a) = true := by
  unfold okN ndN; simp [zp, zq]
theorem Rn.leaf {n : Nd} {i : Nat} (h1 : okN n = true) (h5 : n.k ≠ 5) (h6 : n.k ≠ 6) : Rn [n] i (.leaf n) :=
  ⟨fun s => by rw [stk_cons, show stp i n s = some ((.leaf n, i) :: s) from by unfold stp; rw [if_pos h1, if_neg h5, if_neg h6]]; rfl, Nat.le_refl _⟩
theorem Rn.un {A : List Nd} {n : Nd} {i : Nat} {x : Ex} (h : Rn A i x) (h1 : okN n = true) (h5 : n.k = 5) (hx : n.x = (i + A.length : Nat) - 1) : Rn (A ++ [n]) i (.un n x) := by
  obtain ⟨hs, hp⟩ := h
  refine ⟨fun s => ?_, by simp⟩
  rw [stk_app, hs]
  simp only
  rw [stk_cons, show stp (i + A.length) n ((x, i + A.length - 1) :: s) = some ((.un n x, i + A.length) :: s) from by unfold stp; rw [if_pos h1, if_pos h5]; simp only; rw [if_pos (by omega)]]
  rw [List.length_append, List.length_singleton, show i + (A.length + 1) - 1 = i + A.length by omega]
  rfl
theorem Rn.bi {A B : List Nd} {n : Nd} {i : Nat} {x y : Ex} (h : Rn A i x) (k : Rn B (i + A.length) y) (h1 : okN n = true) (h6 : n.k = 6) (hx : n.x = (i + A.length : Nat) - 1) (hy : n.y = (i + A.length + B.length : Nat) - 1) : Rn (A ++ B ++ [n]) i (.bi n x y) := by
  obtain ⟨hs, hp⟩ := h
  obtain ⟨ks, kp⟩ := k
  refine ⟨fun s => ?_, by simp; omega⟩
  rw [stk_app, stk_app, hs]
  simp only
  rw [ks]
  simp only
  rw [List.length_append, stk_cons, show stp (i + (A.length + B.length)) n ((y, i + A.length + B.length - 1) :: (x, i + A.length - 1) :: s) = some ((.bi n x y, i + (A.length + B.length)) :: s) from by unfold stp; rw [if_pos h1, if_neg (by omega), if_pos h6]; simp only; rw [if_pos ⟨by omega, by omega⟩]]
  rw [List.length_append, List.length_append, List.length_singleton, show i + (A.length + B.length + 1) - 1 = i + (A.length + B.length) by omega]
  rfl
theorem prs_ok : ∀ (f lv d i : Nat) (ts : List Tok) (acc : Option (List Nd × Ex)) (A : List Nd) (x : Ex) (ts' : List Tok), (1 ≤ lv ∧ lv ≤ 3) → (lv = 3 → acc = none) → TOk ts → (match acc with
      | some (A0, x0) => Rn A0 i x0
      | none => True) → prs f lv d i ts acc = some (A, x, ts') → Rn A i x ∧ TOk ts' ∧ ts'.length + (if acc.isNone then 1 else 0) ≤ ts.length := by
  intro f
  induction f with
  | zero => intro lv d i ts acc A x ts' _ _ _ _ h; unfold prs at h; cases h
  | succ f ih =>
    intro lv d i ts acc A x ts' hlv h3 hT hacc h
    cases acc with
    | none =>
      unfold prs at h
      simp only [Option.isNone_none, if_true]
      by_cases l3 : lv = 3
      · subst l3
        rw [if_pos rfl] at h
        have tl : ∀ s, tis ts s = true → TOk ts.tail ∧ ts.tail.length + 1 = ts.length := fun s hs => by
          obtain ⟨a, r, rfl, ha, _⟩ := tis_ne hs
          exact ⟨(hT.tail ha).1, by simp⟩
        by_cases c1 : tis ts [126] = true
        · rw [if_pos c1] at h
          obtain ⟨hT', hl'⟩ := tl _ c1
          by_cases hd' : 200 ≤ d
          · rw [if_pos hd'] at h; cases h
          · rw [if_neg hd'] at h
            cases hp : prs f 3 (d + 1) i ts.tail none with
            | none => rw [hp] at h; cases h
            | some q =>
              obtain ⟨A1, x1, t1⟩ := q
              rw [hp] at h
              simp only [Option.some.injEq, Prod.mk.injEq] at h
              obtain ⟨rfl, rfl, rfl⟩ := h
              obtain ⟨g1, g2, g3⟩ := ih 3 _ _ _ _ _ _ _ (by omega) (fun _ => rfl) hT' trivial hp
              simp only [Option.isNone_none, if_true] at g3
              exact ⟨g1.un okNU rfl rfl, g2, by omega⟩
        · rw [if_neg c1] at h
          by_cases c2 : tis ts [40] = true
          · rw [if_pos c2] at h
            obtain ⟨hT', hl'⟩ := tl _ c2
            by_cases hd' : 200 ≤ d
            · rw [if_pos hd'] at h; cases h
            · rw [if_neg hd'] at h
              cases hp : prs f 1 (d + 1) i ts.tail none with
              | none => rw [hp] at h; cases h
              | some q =>
                obtain ⟨A1, x1, t1⟩ := q
                rw [hp] at h
                simp only at h
                obtain ⟨g1, g2, g3⟩ := ih 1 _ _ _ _ _ _ _ (by omega) (fun _ => rfl) hT' trivial hp
                simp only [Option.isNone_none, if_true] at g3
                by_cases c3 : tis t1 [41] = true
                · rw [if_pos c3] at h
                  simp only [Option.some.injEq, Prod.mk.injEq] at h
                  obtain ⟨rfl, rfl, rfl⟩ := h
                  obtain ⟨a, r, rfl, ha, _⟩ := tis_ne c3
                  exact ⟨g1, (g2.tail ha).1, by simp at g3 ⊢; omega⟩
                · rw [if_neg c3] at h; cases h
          · rw [if_neg c2] at h
            by_cases c3 : tis ts wAll = true
            · rw [if_pos c3] at h
              obtain ⟨hT', hl'⟩ := tl _ c3
              simp only [Option.some.injEq, Prod.mk.injEq] at h
              obtain ⟨rfl, rfl, rfl⟩ := h
              exact ⟨.leaf (okNA (.inl rfl)) (show (2 : Int) ≠ 5 by decide) (show (2 : Int) ≠ 6 by decide), hT', by omega⟩
            rw [if_neg c3] at h
            by_cases c4 : tis ts wNone = true
            · rw [if_pos c4] at h
              obtain ⟨hT', hl'⟩ := tl _ c4
              simp only [Option.some.injEq, Prod.mk.injEq] at h
              obtain ⟨rfl, rfl, rfl⟩ := h
              exact ⟨.leaf (okNA (.inr rfl)) (show (3 : Int) ≠ 5 by decide) (show (3 : Int) ≠ 6 by decide), hT', by omega⟩
            rw [if_neg c4] at h
            by_cases c5 : tis ts wHalf = true
            · rw [if_pos c5] at h; cases h
            rw [if_neg c5] at h
            by_cases c6 : (hd ts).k = 1 ∧ resv (hd ts).t = false
            · rw [if_pos c6] at h
              simp only [Option.some.injEq, Prod.mk.injEq] at h
              obtain ⟨rfl, rfl, rfl⟩ := h
              cases ts with
              | nil => exact hT.elim
              | cons a r =>
                have ha : a.k = 1 := c6.1
                exact ⟨.leaf okNm (show (1 : Int) ≠ 5 by decide) (show (1 : Int) ≠ 6 by decide), (hT.tail (by omega)).1, by simp⟩
            rw [if_neg c6] at h; cases h
      · rw [if_neg l3] at h
        cases hp : prs f (lv + 1) d i ts none with
        | none => rw [hp] at h; cases h
        | some q =>
          obtain ⟨A1, x1, t1⟩ := q
          rw [hp] at h
          simp only at h
          obtain ⟨g1, g2, g3⟩ := ih (lv + 1) _ _ _ _ _ _ _ (by omega) (fun _ => rfl) hT trivial hp
          obtain ⟨k1, k2, k3⟩ := ih lv _ _ _ _ _ _ _ hlv (fun e => absurd e l3) g2 (by exact g1) h
          simp at g3 k3
          exact ⟨k1, k2, by omega⟩
    | some q =>
      obtain ⟨A0, x0⟩ := q
      simp only at hacc
      unfold prs at h
      simp only [Option.isNone_some, Bool.false_eq_true, if_false, Nat.add_zero]
      by_cases ho : opAt lv ts = 0
      · rw [if_pos ho] at h
        simp only [Option.some.injEq, Prod.mk.injEq] at h
        obtain ⟨rfl, rfl, rfl⟩ := h
        exact ⟨hacc, hT, Nat.le_refl _⟩
      · rw [if_neg ho] at h
        obtain ⟨⟨a, r, rfl, ha⟩, o1, o2⟩ := opAt_ne ho
        cases hp : prs f (lv + 1) d (i + A0.length) r none with
        | none => simp only [List.tail_cons] at h; rw [hp] at h; cases h
        | some q =>
          obtain ⟨B, y, t1⟩ := q
          simp only [List.tail_cons] at h
          rw [hp] at h
          simp only at h
          have l3 : lv ≠ 3 := fun e => by have := h3 e; cases this
          obtain ⟨g1, g2, g3⟩ := ih (lv + 1) _ _ _ _ _ _ _ (by omega) (fun _ => rfl) (hT.tail ha).1 trivial hp
          simp at g3
          have hop : 1 ≤ opAt lv (a :: r) ∧ opAt lv (a :: r) ≤ 4 := by
            by_cases h1 : lv = 1
            · rcases o1 h1 with e | e | e <;> rw [e] <;> decide
            · rw [o2 h1]; decide
          obtain ⟨k1, k2, k3⟩ := ih lv _ _ _ _ _ _ _ hlv (fun e => absurd e l3) g2 (hacc.bi g1 (okNB hop.1 hop.2) rfl rfl rfl) h
          simp at k3
          exact ⟨k1, k2, by simp; omega⟩
/-- alike but for names, numbers and positions -/
def Like (n m : Nd) : Prop := n.k = m.k ∧ n.op = m.op ∧ n.x = m.x ∧ n.y = m.y
inductive LikeT : Ex → Ex → Prop
  | leaf {n m : Nd} (h : Like n m) : LikeT (.leaf n) (.leaf m)
  | un {n m : Nd} {x y : Ex} (h : Like n m) (k : LikeT x y) : LikeT (.un n x) (.un m y)
  | bi {n m : Nd} {x y u v : Ex} (h : Like n m) (k : LikeT x u) (l : LikeT y v) : LikeT (.bi n x y) (.bi m u v)
inductive LikeS : List (Ex × Nat) → List (Ex × Nat) → Prop
  | nil : LikeS [] []
  | cons {x y : Ex} {j : Nat} {s t : List (Ex × Nat)} (h : LikeT x y) (k : LikeS s t) : LikeS ((x, j) :: s) ((y, j) :: t)
theorem LikeS.head {x y : Ex} {j k : Nat} {s t : List (Ex × Nat)} (h : LikeS ((x, j) :: s) ((y, k) :: t)) : LikeT x y := by
  cases h with
  | cons g _ => exact g
theorem Like.rk {n m : Nd} (h : Like n m) : rk n = rk m := by
  obtain ⟨h1, h2, _, _⟩ := h
  unfold Ab.rk
  rw [h1, h2]
theorem LikeT.rk {x y : Ex} (h : LikeT x y) : rk x.top = rk y.top := by
  cases h with
  | leaf h => exact h.rk
  | un h _ => exact h.rk
  | bi h _ _ => exact h.rk
end Go.Ab
