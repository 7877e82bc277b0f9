/- Texts laid one behind the other: List, Same, Deep, Arr, Chr, Res. -/
import Derived.Test.YtijejidpcfgioaaGreatDoorB14
import Derived.Test.YtijejidpcfgioaaGreatDoorB11
import Derived.Test.YtijejidpcfgioaaGreatDoorB12
/- An expression's list: the program's check of its shape. -/
namespace Go.Ab
open Go.Proofs
set_option linter.unusedSectionVars false
set_option linter.unusedVariables false
set_option linter.unusedSimpArgs false
variable [Base]
def ics (l : List Nat) : List SV := l.map fun s => lit (.int .i64 (s : Nat))
theorem ics_len (l : List Nat) : (ics l).length = l.length := by simp [ics]
theorem ics_get {l : List Nat} {i : Nat} (h : i < l.length) : (ics l)[i]? = some (lit (.int .i64 (l.getD i 0 : Nat))) := by simp [ics, List.getD, h]
theorem ics_set {l : List Nat} {i : Nat} (x : Nat) : spl (ics l) i [lit (.int .i64 (x : Nat))] = ics (l.set i x) := by
  unfold ics
  simp only [spl, List.map_set]
theorem ics_rep (k : Nat) : List.replicate k (lit (.int .i64 0)) = ics (List.replicate k 0) := by simp [ics]
theorem ble_ics {l : List Nat} {i : Nat} (h : i < l.length) : Nat.ble (i + 1) (ics l).length = true := by
  apply Nat.ble_eq_true_of_le
  rw [ics_len]; omega
/-- the size of the part that ends in n, behind parts of the sizes ss -/
def step1 (ss : List Nat) (n : Nd) : Option Nat :=
  if okN n = true then
    if n.k = 5 then (if 0 < ss.length ∧ n.x = (ss.length : Int) - 1 then some (1 + ss.getD (ss.length - 1) 0) else none)
    else if n.k = 6 then
      (if (0 < ss.length ∧ n.y = (ss.length : Int) - 1) ∧ ss.getD (ss.length - 1) 0 + 1 ≤ ss.length ∧ n.x = (ss.length : Int) - 1 - (ss.getD (ss.length - 1) 0 : Nat) then some (1 + ss.getD (ss.length - 1) 0 + ss.getD (ss.length - 1 - ss.getD (ss.length - 1) 0) 0) else none)
    else some 1
  else none
def sizes : List Nd → List Nat → Option (List Nat)
  | [], ss => some ss
  | n :: ns, ss => match step1 ss n with
    | some s => sizes ns (ss ++ [s])
    | none => none
def okL (ns : List Nd) : Bool := match sizes ns [] with
  | some ss => decide (0 < ns.length) && decide (ss.getD (ns.length - 1) 0 = ns.length)
  | none => false
theorem sizes_cons (n : Nd) (ns : List Nd) (ss : List Nat) : sizes (n :: ns) ss = match step1 ss n with
    | some s => sizes ns (ss ++ [s])
    | none => none := rfl
theorem ics_set' {l : List Nat} {i : Nat} {z : Int} (x : Nat) (h : z = (x : Nat)) : spl (ics l) i [lit (.int .i64 z)] = ics (l.set i x) := by subst h; exact ics_set x
theorem okL_none {ns : List Nd} (h : sizes ns [] = none) : okL ns = false := by unfold okL; rw [h]
theorem ndx_len (n : Nd) : (ndx n).length = 19 := rfl
theorem drop_cons {α : Type} {l : List α} {k : Nat} {x : α} (h : l[k]? = some x) : l.drop k = x :: l.drop (k + 1) := by
  obtain ⟨hk, rfl⟩ := List.getElem?_eq_some_iff.1 h
  exact List.drop_eq_getElem_cons hk
theorem take_set1 {os : List Nat} {k x : Nat} (h : k < os.length) : (os.set k x).take (k + 1) = os.take k ++ [x] := by
  rw [List.take_add_one]
  congr 1
  · rw [List.take_set]; apply List.set_eq_of_length_le; rw [List.length_take]; omega
  · simp [h]
theorem take_getD {os : List Nat} {k j : Nat} (h : j < k) : (os.take k).getD j 0 = os.getD j 0 := by
  simp only [List.getD, List.getElem?_take, if_pos h]
set_option maxHeartbeats 1000000 in
theorem checkList_pu (ns : List Nd) {L : Nat} (hok : ∀ n ∈ ns, n.ok L) (hL : L ≤ 1000) (hlen : ns.length ≤ 100000) : PuH Tryz.prog 105 [sl (ns.map ndx).flatten ns.length] [] (fun r H => okL ns = true ∧ r = Ab.tup [] ∧ H = []) (fun pv _ => okL ns = false ∧ pv = inval) := by
  by_cases h0 : ns.length = 0
  · refine PuH.intro Tryz.func105 rfl (by kernel_rfl) fun C hC => ?_
    repeat (refine A1 ⟨?_⟩; intros)
    refine WneedF ?_
    rw [hC]
    have e : ns = [] := List.eq_nil_of_length_eq_zero h0
    subst e
    exact ⟨rfl, rfl⟩
  · refine PuH.intro Tryz.func105 rfl (by kernel_rfl) fun C hC => ?_
    repeat (refine A1 ⟨?_⟩; intros)
    refine WneedT ?_
    repeat (refine A1 ⟨?_⟩; intros)
    refine WPL.make (k := ns.length) rfl rfl (by omega) (by omega) rfl fun bb => ?_
    rw [ics_rep]
    repeat (refine A1 ⟨?_⟩; intros)
    refine WP.loopS (ι := Nat × List Nat) (fun x => x.1 ≤ ns.length ∧ x.2.length = ns.length ∧ sizes (ns.drop x.1) (x.2.take x.1) = sizes ns [] ∧ ∀ j, j < x.1 → x.2.getD j 0 ≤ j + 1) (fun x => ns.length - x.1)
      (fun x => fm [(0, sl (ns.map ndx).flatten ns.length), (2, lit (.slice (some ⟨bb, 0, none⟩) ns.length ns.length)), (13, sl (ns.map ndx).flatten ns.length), (14, lit (.int .i64 ns.length)), (15, lit (.int .i64 x.1))]) (fun x => [(bb, 3, ics x.2)]) (0, List.replicate ns.length 0)
      ⟨Nat.zero_le _, by simp, by simp, fun j hj => by omega⟩ (by (repeat (first | exact LeF.nil _ | refine LeF.cons (Le.refl _) ?_ | refine LeF.cons (Le.int (by omega)) ?_))) (List.Sublist.refl _) ?_
    rintro ⟨k, os⟩ ⟨hk, hol, hsz, hb⟩ K hK
    simp only at hk hol hsz hb ⊢
    by_cases hkl : k < ns.length
    · have hget := List.getElem?_eq_getElem hkl
      generalize ns[k] = n at hget
      have hmem : n ∈ ns := List.mem_of_getElem? hget
      have hat := flat_at (f := ndx) (n := 19) ndx_len hget
      have hne : (ns.map ndx).flatten ≠ [] := flat_ne ndx_len (by omega) (fun e => by rw [e] at hkl; simp at hkl)
      have c0 := checkExpr_pu n (hok n hmem) hL
      have hlt : (os.take k).length = k := by rw [List.length_take]; omega
      rw [drop_cons hget, sizes_cons] at hsz
      have hfail : step1 (os.take k) n = none → okL ns = false := fun h => okL_none (by rw [h] at hsz; exact hsz.symm)
      have hgo : ∀ s, step1 (os.take k) n = some s → s ≤ k + 1 → ∀ F' H', LeF F' (fm [(0, sl (ns.map ndx).flatten ns.length), (2, lit (.slice (some ⟨bb, 0, none⟩) ns.length ns.length)), (13, sl (ns.map ndx).flatten ns.length), (14, lit (.int .i64 ns.length)), (15, lit (.int .i64 (k + 1 : Nat)))]) → [(bb, 3, ics (os.set k s))].Sublist H' → K F' H' := fun s hs hle F' H' h1 h2 =>
        hK F' H' (k + 1, os.set k s) ⟨by simp only; omega, by simp only; rw [List.length_set]; exact hol, by
          simp only
          rw [hs] at hsz
          rw [take_set1 (by omega)]; exact hsz, fun j hj => by
          simp only at hj ⊢
          by_cases hjk : j = k
          · subst hjk; simp only [List.getD, List.getElem?_set_self (show j < os.length by omega), Option.getD_some]; exact hle
          · have := hb j (by omega)
            simp only [List.getD, List.getElem?_set_ne (Ne.symm hjk)] at this ⊢
            exact this⟩ (by simp only; omega) h1 h2
      clear hK hsz
      repeat (refine A1 ⟨?_⟩; intros)
      refine Wo (ov_idxS (cs' := ndx n) rfl rfl (by omega) (by omega) hat hne) ?_
      repeat (refine A1 ⟨?_⟩; intros)
      refine WfX c0 ?_ ?_
      case refine_2 =>
        rintro _ _ ⟨e, rfl⟩
        rw [hC]
        exact ⟨hfail (by unfold step1; rw [if_neg (by rw [e]; decide)]), rfl⟩
      rintro _ _ ⟨e, rfl, rfl⟩
      simp only [List.cons_append, List.nil_append, List.append_nil]
      by_cases k5 : n.k = 5
      case pos =>
        by_cases hk0 : 0 < k
        case neg =>
          repeat (refine A1 ⟨?_⟩; intros)
          refine WneedF ?_
          rw [hC]
          exact ⟨hfail (by unfold step1; rw [if_pos e, if_pos k5, hlt, if_neg (fun h => hk0 h.1)]), rfl⟩
        by_cases hx : n.x = (k : Int) - 1
        case neg =>
          repeat (refine A1 ⟨?_⟩; intros)
          refine WneedF ?_
          rw [hC]
          exact ⟨hfail (by unfold step1; rw [if_pos e, if_pos k5, hlt, if_neg (fun h => hx h.2)]), rfl⟩
        have hs : step1 (os.take k) n = some (1 + os.getD (k - 1) 0) := by
          unfold step1; rw [if_pos e, if_pos k5, hlt, if_pos ⟨hk0, hx⟩, take_getD (by omega)]
        have hb1 := hb (k - 1) (by omega)
        have hgo' := hgo _ hs (by omega)
        clear hgo hfail hs hb
        repeat (refine A1 ⟨?_⟩; intros)
        refine WneedT ?_
        repeat (refine A1 ⟨?_⟩; intros)
        refine Wo (ov_loadL rfl (by (first | exact List.mem_cons_self | exact (List.mem_cons_of_mem _ List.mem_cons_self) | exact (List.mem_cons_of_mem _ (List.mem_cons_of_mem _ List.mem_cons_self)) | exact (List.mem_cons_of_mem _ (List.mem_cons_of_mem _ (List.mem_cons_of_mem _ List.mem_cons_self))) | exact (List.mem_cons_of_mem _ (List.mem_cons_of_mem _ (List.mem_cons_of_mem _ (List.mem_cons_of_mem _ List.mem_cons_self)))) | exact (List.mem_cons_of_mem _ (List.mem_cons_of_mem _ (List.mem_cons_of_mem _ (List.mem_cons_of_mem _ (List.mem_cons_of_mem _ List.mem_cons_self))))) | exact (List.mem_cons_of_mem _ (List.mem_cons_of_mem _ (List.mem_cons_of_mem _ (List.mem_cons_of_mem _ (List.mem_cons_of_mem _ (List.mem_cons_of_mem _ List.mem_cons_self)))))) | exact (List.mem_cons_of_mem _ (List.mem_cons_of_mem _ (List.mem_cons_of_mem _ (List.mem_cons_of_mem _ (List.mem_cons_of_mem _ (List.mem_cons_of_mem _ (List.mem_cons_of_mem _ List.mem_cons_self))))))))) (ics_get (by omega))) ?_
        repeat (refine A1 ⟨?_⟩; intros)
        refine WPL.store (b := bb) (o := k) (sv := lit (.int .i64 (1 + (os.getD (k - 1) 0 : Nat)))) (cs' := ics (os.set k (1 + os.getD (k - 1) 0))) rfl rfl rfl (.there _ (.here _)) (ics_set' _ (by omega)) (ble_ics (by omega)) ?_
        repeat (refine A1 ⟨?_⟩; intros)
        exact hgo' _ _ (by (repeat (first | exact LeF.nil _ | refine LeF.cons (Le.refl _) ?_ | refine LeF.cons (Le.int (by omega)) ?_))) (List.Sublist.cons _ (List.Sublist.refl _))
      by_cases k6 : n.k = 6
      case pos =>
        by_cases hk0 : 0 < k
        case neg =>
          repeat (refine A1 ⟨?_⟩; intros)
          refine WneedF ?_
          rw [hC]
          exact ⟨hfail (by unfold step1; rw [if_pos e, if_neg k5, if_pos k6, hlt, if_neg (fun h => hk0 h.1.1)]), rfl⟩
        by_cases hy : n.y = (k : Int) - 1
        case neg =>
          repeat (refine A1 ⟨?_⟩; intros)
          refine WneedF ?_
          rw [hC]
          exact ⟨hfail (by unfold step1; rw [if_pos e, if_neg k5, if_pos k6, hlt, if_neg (fun h => hy h.1.2)]), rfl⟩
        have hb1 := hb (k - 1) (by omega)
        have hs0 : step1 (os.take k) n = (if (0 < k ∧ n.y = (k : Int) - 1) ∧ os.getD (k - 1) 0 + 1 ≤ k ∧ n.x = (k : Int) - 1 - (os.getD (k - 1) 0 : Nat) then some (1 + os.getD (k - 1) 0 + (os.take k).getD (k - 1 - os.getD (k - 1) 0) 0) else none) := by
          unfold step1; rw [if_pos e, if_neg k5, if_pos k6, hlt, take_getD (by omega)]
        repeat (refine A1 ⟨?_⟩; intros)
        refine WneedT ?_
        repeat (refine A1 ⟨?_⟩; intros)
        refine Wo (ov_loadL rfl (by (first | exact List.mem_cons_self | exact (List.mem_cons_of_mem _ List.mem_cons_self) | exact (List.mem_cons_of_mem _ (List.mem_cons_of_mem _ List.mem_cons_self)) | exact (List.mem_cons_of_mem _ (List.mem_cons_of_mem _ (List.mem_cons_of_mem _ List.mem_cons_self))) | exact (List.mem_cons_of_mem _ (List.mem_cons_of_mem _ (List.mem_cons_of_mem _ (List.mem_cons_of_mem _ List.mem_cons_self)))) | exact (List.mem_cons_of_mem _ (List.mem_cons_of_mem _ (List.mem_cons_of_mem _ (List.mem_cons_of_mem _ (List.mem_cons_of_mem _ List.mem_cons_self))))) | exact (List.mem_cons_of_mem _ (List.mem_cons_of_mem _ (List.mem_cons_of_mem _ (List.mem_cons_of_mem _ (List.mem_cons_of_mem _ (List.mem_cons_of_mem _ List.mem_cons_self)))))) | exact (List.mem_cons_of_mem _ (List.mem_cons_of_mem _ (List.mem_cons_of_mem _ (List.mem_cons_of_mem _ (List.mem_cons_of_mem _ (List.mem_cons_of_mem _ (List.mem_cons_of_mem _ List.mem_cons_self))))))))) (ics_get (by omega))) ?_
        generalize hs1 : os.getD (k - 1) 0 = s1 at *
        by_cases hl : s1 + 1 ≤ k
        case neg =>
          repeat (refine A1 ⟨?_⟩; intros)
          refine WneedF ?_
          rw [hC]
          exact ⟨hfail (by rw [hs0, if_neg (fun h => hl h.2.1)]), rfl⟩
        by_cases hx : n.x = (k : Int) - 1 - (s1 : Nat)
        case neg =>
          repeat (refine A1 ⟨?_⟩; intros)
          refine WneedF ?_
          rw [hC]
          exact ⟨hfail (by rw [hs0, if_neg (fun h => hx h.2.2)]), rfl⟩
        rw [if_pos ⟨⟨hk0, hy⟩, hl, hx⟩, take_getD (by omega)] at hs0
        have hb2 := hb (k - 1 - s1) (by omega)
        have hgo' := hgo _ hs0 (by omega)
        clear hgo hfail hs0 hb
        repeat (refine A1 ⟨?_⟩; intros)
        refine WneedT ?_
        repeat (refine A1 ⟨?_⟩; intros)
        refine Wdo (ov_loadL rfl (by (first | exact List.mem_cons_self | exact (List.mem_cons_of_mem _ List.mem_cons_self) | exact (List.mem_cons_of_mem _ (List.mem_cons_of_mem _ List.mem_cons_self)) | exact (List.mem_cons_of_mem _ (List.mem_cons_of_mem _ (List.mem_cons_of_mem _ List.mem_cons_self))) | exact (List.mem_cons_of_mem _ (List.mem_cons_of_mem _ (List.mem_cons_of_mem _ (List.mem_cons_of_mem _ List.mem_cons_self)))) | exact (List.mem_cons_of_mem _ (List.mem_cons_of_mem _ (List.mem_cons_of_mem _ (List.mem_cons_of_mem _ (List.mem_cons_of_mem _ List.mem_cons_self))))) | exact (List.mem_cons_of_mem _ (List.mem_cons_of_mem _ (List.mem_cons_of_mem _ (List.mem_cons_of_mem _ (List.mem_cons_of_mem _ (List.mem_cons_of_mem _ List.mem_cons_self)))))) | exact (List.mem_cons_of_mem _ (List.mem_cons_of_mem _ (List.mem_cons_of_mem _ (List.mem_cons_of_mem _ (List.mem_cons_of_mem _ (List.mem_cons_of_mem _ (List.mem_cons_of_mem _ List.mem_cons_self))))))))) (ics_get (by omega))) ?_
        rw [hs1]
        repeat (refine A1 ⟨?_⟩; intros)
        rw [show ((k : Int) - 1 - (s1 : Int)).toNat * 1 = k - 1 - s1 by omega]
        refine Wdo (ov_loadL rfl (by (first | exact List.mem_cons_self | exact (List.mem_cons_of_mem _ List.mem_cons_self) | exact (List.mem_cons_of_mem _ (List.mem_cons_of_mem _ List.mem_cons_self)) | exact (List.mem_cons_of_mem _ (List.mem_cons_of_mem _ (List.mem_cons_of_mem _ List.mem_cons_self))) | exact (List.mem_cons_of_mem _ (List.mem_cons_of_mem _ (List.mem_cons_of_mem _ (List.mem_cons_of_mem _ List.mem_cons_self)))) | exact (List.mem_cons_of_mem _ (List.mem_cons_of_mem _ (List.mem_cons_of_mem _ (List.mem_cons_of_mem _ (List.mem_cons_of_mem _ List.mem_cons_self))))) | exact (List.mem_cons_of_mem _ (List.mem_cons_of_mem _ (List.mem_cons_of_mem _ (List.mem_cons_of_mem _ (List.mem_cons_of_mem _ (List.mem_cons_of_mem _ List.mem_cons_self)))))) | exact (List.mem_cons_of_mem _ (List.mem_cons_of_mem _ (List.mem_cons_of_mem _ (List.mem_cons_of_mem _ (List.mem_cons_of_mem _ (List.mem_cons_of_mem _ (List.mem_cons_of_mem _ List.mem_cons_self))))))))) (ics_get (by omega))) ?_
        repeat (refine A1 ⟨?_⟩; intros)
        refine WPL.store (b := bb) (o := k) (sv := lit (.int .i64 (1 + s1 + (os.getD (k - 1 - s1) 0 : Nat)))) (cs' := ics (os.set k (1 + s1 + os.getD (k - 1 - s1) 0))) rfl rfl rfl (.there _ (.here _)) (ics_set' _ (by omega)) (ble_ics (by omega)) ?_
        repeat (refine A1 ⟨?_⟩; intros)
        exact hgo' _ _ (by (repeat (first | exact LeF.nil _ | refine LeF.cons (Le.refl _) ?_ | refine LeF.cons (Le.int (by omega)) ?_))) (List.Sublist.cons _ (List.Sublist.refl _))
      have hs : step1 (os.take k) n = some 1 := by
        unfold step1; rw [if_pos e, if_neg k5, if_neg k6]
      have hgo' := hgo _ hs (by omega)
      clear hgo hfail hs hb
      repeat (refine A1 ⟨?_⟩; intros)
      refine WPL.store (b := bb) (o := k) (sv := lit (.int .i64 1)) (cs' := ics (os.set k 1)) rfl rfl rfl (.there _ (.here _)) (ics_set' _ rfl) (ble_ics (by omega)) ?_
      repeat (refine A1 ⟨?_⟩; intros)
      exact hgo' _ _ (by (repeat (first | exact LeF.nil _ | refine LeF.cons (Le.refl _) ?_ | refine LeF.cons (Le.int (by omega)) ?_))) (List.Sublist.cons _ (List.Sublist.refl _))
    · have hke : k = ns.length := by omega
      subst hke
      rw [List.drop_length, List.take_of_length_le (by omega)] at hsz
      have hz : okL ns = (decide (0 < ns.length) && decide (os.getD (ns.length - 1) 0 = ns.length)) := by unfold okL; rw [← hsz]; rfl
      clear hK
      have hb1 := hb (ns.length - 1) (by omega)
      clear hb hsz
      repeat (refine A1 ⟨?_⟩; intros)
      refine Wo (ov_loadL rfl (by (first | exact List.mem_cons_self | exact (List.mem_cons_of_mem _ List.mem_cons_self) | exact (List.mem_cons_of_mem _ (List.mem_cons_of_mem _ List.mem_cons_self)) | exact (List.mem_cons_of_mem _ (List.mem_cons_of_mem _ (List.mem_cons_of_mem _ List.mem_cons_self))) | exact (List.mem_cons_of_mem _ (List.mem_cons_of_mem _ (List.mem_cons_of_mem _ (List.mem_cons_of_mem _ List.mem_cons_self)))) | exact (List.mem_cons_of_mem _ (List.mem_cons_of_mem _ (List.mem_cons_of_mem _ (List.mem_cons_of_mem _ (List.mem_cons_of_mem _ List.mem_cons_self))))) | exact (List.mem_cons_of_mem _ (List.mem_cons_of_mem _ (List.mem_cons_of_mem _ (List.mem_cons_of_mem _ (List.mem_cons_of_mem _ (List.mem_cons_of_mem _ List.mem_cons_self)))))) | exact (List.mem_cons_of_mem _ (List.mem_cons_of_mem _ (List.mem_cons_of_mem _ (List.mem_cons_of_mem _ (List.mem_cons_of_mem _ (List.mem_cons_of_mem _ (List.mem_cons_of_mem _ List.mem_cons_self))))))))) (ics_get (by omega))) ?_
      by_cases hf : os.getD (ns.length - 1) 0 = ns.length
      · repeat (refine A1 ⟨?_⟩; intros)
        refine WneedT ?_
        repeat (refine A1 ⟨?_⟩; intros)
        exact endHN _ _ end0 (List.nil_sublist _) ⟨by rw [hz, decide_eq_true hf, decide_eq_true (by omega)]; rfl, rfl, rfl⟩
      · repeat (refine A1 ⟨?_⟩; intros)
        refine WneedF ?_
        rw [hC]
        exact ⟨by rw [hz, decide_eq_false hf, Bool.and_false], rfl⟩
end Go.Ab
/- The reference's equality of expressions, walked (positions do not count). -/
namespace Go.Ab
open Go.Proofs
set_option linter.unusedSectionVars false
set_option linter.unusedVariables false
set_option linter.unusedSimpArgs false
variable [Base]
def samePt (a b c d : RQ) : Bool := decide ((a.s = c.s ∧ a.n = c.n) ∧ a.d = c.d) && decide ((b.s = d.s ∧ b.n = d.n) ∧ b.d = d.d)
def sameN (n m : Nd) : Bool := decide (n.k = m.k) && (decide (n.nm = m.nm) && (decide (n.op = m.op) && (decide (n.x = m.x) && (decide (n.y = m.y) && (samePt n.a n.b m.a m.b && samePt n.c n.e m.c m.e)))))
def sameL : List Nd → List Nd → Bool
  | [], [] => true
  | n :: ns, m :: ms => sameN n m && sameL ns ms
  | _, _ => false
theorem sameL_len : ∀ {ns ms : List Nd}, sameL ns ms = true → ns.length = ms.length
  | [], [], _ => rfl
  | _ :: _, _ :: _, h => by
    unfold sameL at h
    rw [Bool.and_eq_true] at h
    simp [sameL_len h.2]
  | [], _ :: _, h => by cases h
  | _ :: _, [], h => by cases h
theorem sameL_at : ∀ {ns ms : List Nd}, sameL ns ms = true → ∀ {j : Nat} {n m : Nd}, ns[j]? = some n → ms[j]? = some m → sameN n m = true
  | [], [], _, j, n, m, h1, _ => by simp at h1
  | a :: ns, b :: ms, h, 0, n, m, h1, h2 => by
    unfold sameL at h
    rw [Bool.and_eq_true] at h
    simp at h1 h2
    rw [← h1, ← h2]; exact h.1
  | a :: ns, b :: ms, h, j + 1, n, m, h1, h2 => by
    unfold sameL at h
    rw [Bool.and_eq_true] at h
    exact sameL_at h.2 (by simpa using h1) (by simpa using h2)
  | [], _ :: _, h, _, _, _, _, _ => by cases h
  | _ :: _, [], h, _, _, _, _, _ => by cases h
theorem sameL_of : ∀ {ns ms : List Nd}, ns.length = ms.length → (∀ (j : Nat) (n m : Nd), ns[j]? = some n → ms[j]? = some m → sameN n m = true) → sameL ns ms = true
  | [], [], _, _ => rfl
  | a :: ns, b :: ms, hl, h => by
    unfold sameL
    rw [Bool.and_eq_true]
    exact ⟨h 0 a b rfl rfl, sameL_of (by simpa using hl) fun j n m h1 h2 => h (j + 1) n m (by simpa using h1) (by simpa using h2)⟩
  | [], _ :: _, hl, _ => by simp at hl
  | _ :: _, [], hl, _ => by simp at hl
abbrev RQ.sh (r : RQ) : Prop := r.n.length ≤ 1000000 ∧ r.d.length ≤ 1000000
theorem samePt_pu (a b c d : RQ) (ha : a.sh) (hb : b.sh) (hc : c.sh) (hd : d.sh) : Pu Tryz.prog 54 [pr a b, pr c d] (lit (.bool (samePt a b c d))) := by
  have c1 := sameQ_g a.s c.s a.n a.d c.n c.d ha.1 ha.2 hc.1 hc.2
  have c2 := sameQ_g b.s d.s b.n b.d d.n d.d hb.1 hb.2 hd.1 hd.2
  unfold samePt
  cases h1 : decide ((a.s = c.s ∧ a.n = c.n) ∧ a.d = c.d) with
  | true =>
    rw [h1] at c1
    cases h2 : decide ((b.s = d.s ∧ b.n = d.n) ∧ b.d = d.d) with
    | true =>
      rw [h2] at c2
      refine Pu.intro Tryz.func54 rfl (by kernel_rfl) fun C => ?_
      repeat (first | (refine A1 ⟨?_⟩; intros) | (refine Wcx (c1) ?_) | (refine Wdcx (c1) ?_) | (refine Wcgx (c1) ?_) | (refine Wdcgx (c1) ?_) | (refine Wcx (c2) ?_) | (refine Wdcx (c2) ?_) | (refine Wcgx (c2) ?_) | (refine Wdcgx (c2) ?_))
      ((first | refine endR ?_ | refine endN ?_); exact end1 (RV.tmp rfl) (Le.refl _))
    | false =>
      rw [h2] at c2
      refine Pu.intro Tryz.func54 rfl (by kernel_rfl) fun C => ?_
      repeat (first | (refine A1 ⟨?_⟩; intros) | (refine Wcx (c1) ?_) | (refine Wdcx (c1) ?_) | (refine Wcgx (c1) ?_) | (refine Wdcgx (c1) ?_) | (refine Wcx (c2) ?_) | (refine Wdcx (c2) ?_) | (refine Wcgx (c2) ?_) | (refine Wdcgx (c2) ?_))
      ((first | refine endR ?_ | refine endN ?_); exact end1 (RV.tmp rfl) (Le.refl _))
  | false =>
    rw [h1] at c1
    refine Pu.intro Tryz.func54 rfl (by kernel_rfl) fun C => ?_
    repeat (first | (refine A1 ⟨?_⟩; intros) | (refine Wcx (c1) ?_) | (refine Wdcx (c1) ?_) | (refine Wcgx (c1) ?_) | (refine Wdcgx (c1) ?_) | (refine Wcx (c2) ?_) | (refine Wdcx (c2) ?_) | (refine Wcgx (c2) ?_) | (refine Wdcgx (c2) ?_))
    ((first | refine endR ?_ | refine endN ?_); exact end1 (RV.tmp rfl) (Le.refl _))
abbrev Nd.sh (n : Nd) : Prop := n.a.sh ∧ n.b.sh ∧ n.c.sh ∧ n.e.sh
set_option maxHeartbeats 4000000 in
theorem same_pu (ns ms : List Nd) (hn : ns.length ≤ 1000000) (hm : ms.length ≤ 1000000) (h1 : ∀ n ∈ ns, n.sh) (h2 : ∀ n ∈ ms, n.sh) :
    Pu Tryz.prog 30 [sl (ns.map ndx).flatten ns.length, sl (ms.map ndx).flatten ms.length, lit (.bool false)] (lit (.bool (sameL ns ms))) := by
  by_cases hl : ns.length = ms.length
  case neg =>
    rw [show sameL ns ms = false from Bool.eq_false_iff.2 fun h => hl (sameL_len h)]
    refine Pu.intro Tryz.func30 rfl (by kernel_rfl) fun C => ?_
    repeat (refine A1 ⟨?_⟩; intros)
    ((first | refine endR ?_ | refine endN ?_); exact end1 (RV.tmp rfl) (Le.refl _))
  refine Pu.intro Tryz.func30 rfl (by kernel_rfl) fun C => ?_
  repeat (refine A1 ⟨?_⟩; intros)
  refine WP.loopS (ι := Nat) (fun k => k ≤ ns.length ∧ ∀ j n m, j < k → ns[j]? = some n → ms[j]? = some m → sameN n m = true) (fun k => ns.length - k)
    (fun k => (fm [(1, sl (ms.map ndx).flatten ms.length), (2, lit (.bool false)), (15, sl (ns.map ndx).flatten ns.length), (16, lit (.int .i64 ns.length)), (17, lit (.int .i64 k))])) (fun _ => []) 0 ⟨Nat.zero_le _, fun j n m hj => by omega⟩ (by (repeat (first | exact LeF.nil _ | refine LeF.cons (Le.refl _) ?_ | refine LeF.cons (Le.int (by omega)) ?_))) (List.nil_sublist _) ?_
  rintro k ⟨hk, hall⟩ K hK
  by_cases hkl : k < ns.length
  · have hget1 := List.getElem?_eq_getElem hkl
    have hget2 := List.getElem?_eq_getElem (l := ms) (i := k) (by omega)
    generalize ns[k] = n at hget1
    generalize ms[k] = m at hget2
    have hat1 := flat_at (f := ndx) (n := 19) ndx_len hget1
    have hne1 : (ns.map ndx).flatten ≠ [] := flat_ne ndx_len (by omega) (fun e => by rw [e] at hkl; simp at hkl)
    have hat2 := flat_at (f := ndx) (n := 19) ndx_len hget2
    have hne2 : (ms.map ndx).flatten ≠ [] := flat_ne ndx_len (by omega) (fun e => by rw [e] at hget2; simp at hget2)
    obtain ⟨na, nb, nc, ne⟩ := h1 n (List.mem_of_getElem? hget1)
    obtain ⟨ma, mb, mc, me⟩ := h2 m (List.mem_of_getElem? hget2)
    have p1 := samePt_pu n.a n.b m.a m.b na nb ma mb
    have p2 := samePt_pu n.c n.e m.c m.e nc ne mc me
    cases hs : sameN n m with
    | true =>
      have hgo : ∀ F' H', LeF F' (fm [(1, sl (ms.map ndx).flatten ms.length), (2, lit (.bool false)), (15, sl (ns.map ndx).flatten ns.length), (16, lit (.int .i64 ns.length)), (17, lit (.int .i64 (k + 1 : Nat)))]) → K F' H' := fun F' H' h => hK F' H' (k + 1) ⟨by omega, fun j a b hj ha hb => by
        rcases Nat.lt_succ_iff_lt_or_eq.1 hj with h | rfl
        · exact hall j a b h ha hb
        · rw [hget1] at ha; rw [hget2] at hb
          obtain rfl := Option.some.inj ha
          obtain rfl := Option.some.inj hb
          exact hs⟩ (by omega) h (List.nil_sublist _)
      unfold sameN at hs
      simp only [Bool.and_eq_true, decide_eq_true_eq] at hs
      obtain ⟨q1, q2, q3, q4, q5, q6, q7⟩ := hs
      rw [q6] at p1
      rw [q7] at p2
      clear hK hall h1 h2 hget1 hget2 q6 q7
      repeat (refine A1 ⟨?_⟩; intros)
      refine Wo (ov_idxS (cs' := ndx n) rfl rfl (by omega) (by omega) hat1 hne1) ?_
      repeat (refine A1 ⟨?_⟩; intros)
      refine Wo (ov_idxS (cs' := ndx m) rfl rfl (by omega) (by omega) hat2 hne2) ?_
      repeat (first | (refine A1 ⟨?_⟩; intros) | (refine Wcx (p1) ?_) | (refine Wdcx (p1) ?_) | (refine Wcgx (p1) ?_) | (refine Wdcgx (p1) ?_) | (refine Wcx (p2) ?_) | (refine Wdcx (p2) ?_) | (refine Wcgx (p2) ?_) | (refine Wdcgx (p2) ?_))
      exact hgo _ _ (by (repeat (first | exact LeF.nil _ | refine LeF.cons (Le.refl _) ?_ | refine LeF.cons (Le.int (by omega)) ?_)))
    | false =>
      have hf : sameL ns ms = false := Bool.eq_false_iff.2 fun h => by
        have := sameL_at h hget1 hget2
        rw [hs] at this; cases this
      rw [hf]
      unfold sameN at hs
      clear hK hall h1 h2 hget1 hget2 hf
      by_cases q1 : n.k = m.k
      case neg =>
        repeat (refine A1 ⟨?_⟩; intros)
        refine Wo (ov_idxS (cs' := ndx n) rfl rfl (by omega) (by omega) hat1 hne1) ?_
        repeat (refine A1 ⟨?_⟩; intros)
        refine Wo (ov_idxS (cs' := ndx m) rfl rfl (by omega) (by omega) hat2 hne2) ?_
        repeat (first | (refine A1 ⟨?_⟩; intros) | (refine Wcx (p1) ?_) | (refine Wdcx (p1) ?_) | (refine Wcgx (p1) ?_) | (refine Wdcgx (p1) ?_) | (refine Wcx (p2) ?_) | (refine Wdcx (p2) ?_) | (refine Wcgx (p2) ?_) | (refine Wdcgx (p2) ?_))
        ((first | refine endR ?_ | refine endN ?_); exact end1 (RV.tmp rfl) (Le.refl _))
      by_cases q2 : n.nm = m.nm
      case neg =>
        repeat (refine A1 ⟨?_⟩; intros)
        refine Wo (ov_idxS (cs' := ndx n) rfl rfl (by omega) (by omega) hat1 hne1) ?_
        repeat (refine A1 ⟨?_⟩; intros)
        refine Wo (ov_idxS (cs' := ndx m) rfl rfl (by omega) (by omega) hat2 hne2) ?_
        repeat (first | (refine A1 ⟨?_⟩; intros) | (refine Wcx (p1) ?_) | (refine Wdcx (p1) ?_) | (refine Wcgx (p1) ?_) | (refine Wdcgx (p1) ?_) | (refine Wcx (p2) ?_) | (refine Wdcx (p2) ?_) | (refine Wcgx (p2) ?_) | (refine Wdcgx (p2) ?_))
        ((first | refine endR ?_ | refine endN ?_); exact end1 (RV.tmp rfl) (Le.refl _))
      by_cases q3 : n.op = m.op
      case neg =>
        repeat (refine A1 ⟨?_⟩; intros)
        refine Wo (ov_idxS (cs' := ndx n) rfl rfl (by omega) (by omega) hat1 hne1) ?_
        repeat (refine A1 ⟨?_⟩; intros)
        refine Wo (ov_idxS (cs' := ndx m) rfl rfl (by omega) (by omega) hat2 hne2) ?_
        repeat (first | (refine A1 ⟨?_⟩; intros) | (refine Wcx (p1) ?_) | (refine Wdcx (p1) ?_) | (refine Wcgx (p1) ?_) | (refine Wdcgx (p1) ?_) | (refine Wcx (p2) ?_) | (refine Wdcx (p2) ?_) | (refine Wcgx (p2) ?_) | (refine Wdcgx (p2) ?_))
        ((first | refine endR ?_ | refine endN ?_); exact end1 (RV.tmp rfl) (Le.refl _))
      by_cases q4 : n.x = m.x
      case neg =>
        repeat (refine A1 ⟨?_⟩; intros)
        refine Wo (ov_idxS (cs' := ndx n) rfl rfl (by omega) (by omega) hat1 hne1) ?_
        repeat (refine A1 ⟨?_⟩; intros)
        refine Wo (ov_idxS (cs' := ndx m) rfl rfl (by omega) (by omega) hat2 hne2) ?_
        repeat (first | (refine A1 ⟨?_⟩; intros) | (refine Wcx (p1) ?_) | (refine Wdcx (p1) ?_) | (refine Wcgx (p1) ?_) | (refine Wdcgx (p1) ?_) | (refine Wcx (p2) ?_) | (refine Wdcx (p2) ?_) | (refine Wcgx (p2) ?_) | (refine Wdcgx (p2) ?_))
        ((first | refine endR ?_ | refine endN ?_); exact end1 (RV.tmp rfl) (Le.refl _))
      by_cases q5 : n.y = m.y
      case neg =>
        repeat (refine A1 ⟨?_⟩; intros)
        refine Wo (ov_idxS (cs' := ndx n) rfl rfl (by omega) (by omega) hat1 hne1) ?_
        repeat (refine A1 ⟨?_⟩; intros)
        refine Wo (ov_idxS (cs' := ndx m) rfl rfl (by omega) (by omega) hat2 hne2) ?_
        repeat (first | (refine A1 ⟨?_⟩; intros) | (refine Wcx (p1) ?_) | (refine Wdcx (p1) ?_) | (refine Wcgx (p1) ?_) | (refine Wdcgx (p1) ?_) | (refine Wcx (p2) ?_) | (refine Wdcx (p2) ?_) | (refine Wcgx (p2) ?_) | (refine Wdcgx (p2) ?_))
        ((first | refine endR ?_ | refine endN ?_); exact end1 (RV.tmp rfl) (Le.refl _))
      cases q6 : samePt n.a n.b m.a m.b with
      | false =>
        rw [q6] at p1
        repeat (refine A1 ⟨?_⟩; intros)
        refine Wo (ov_idxS (cs' := ndx n) rfl rfl (by omega) (by omega) hat1 hne1) ?_
        repeat (refine A1 ⟨?_⟩; intros)
        refine Wo (ov_idxS (cs' := ndx m) rfl rfl (by omega) (by omega) hat2 hne2) ?_
        repeat (first | (refine A1 ⟨?_⟩; intros) | (refine Wcx (p1) ?_) | (refine Wdcx (p1) ?_) | (refine Wcgx (p1) ?_) | (refine Wdcgx (p1) ?_) | (refine Wcx (p2) ?_) | (refine Wdcx (p2) ?_) | (refine Wcgx (p2) ?_) | (refine Wdcgx (p2) ?_))
        ((first | refine endR ?_ | refine endN ?_); exact end1 (RV.tmp rfl) (Le.refl _))
      | true =>
        rw [q6] at p1
        cases q7 : samePt n.c n.e m.c m.e with
        | false =>
          rw [q7] at p2
          repeat (refine A1 ⟨?_⟩; intros)
          refine Wo (ov_idxS (cs' := ndx n) rfl rfl (by omega) (by omega) hat1 hne1) ?_
          repeat (refine A1 ⟨?_⟩; intros)
          refine Wo (ov_idxS (cs' := ndx m) rfl rfl (by omega) (by omega) hat2 hne2) ?_
          repeat (first | (refine A1 ⟨?_⟩; intros) | (refine Wcx (p1) ?_) | (refine Wdcx (p1) ?_) | (refine Wcgx (p1) ?_) | (refine Wdcgx (p1) ?_) | (refine Wcx (p2) ?_) | (refine Wdcx (p2) ?_) | (refine Wcgx (p2) ?_) | (refine Wdcgx (p2) ?_))
          ((first | refine endR ?_ | refine endN ?_); exact end1 (RV.tmp rfl) (Le.refl _))
        | true =>
          rw [decide_eq_true q1, decide_eq_true q2, decide_eq_true q3, decide_eq_true q4, decide_eq_true q5, q6, q7] at hs
          cases hs
  · obtain rfl : k = ns.length := by omega
    have hs := sameL_of hl fun j n m ha hb => hall j n m (List.getElem?_eq_some_iff.1 ha).1 ha hb
    rw [hs]
    clear hK hall h1 h2
    repeat (refine A1 ⟨?_⟩; intros)
    ((first | refine endR ?_ | refine endN ?_); exact end1 (RV.tmp rfl) (Le.refl _))
end Go.Ab
/- Package grammar: one level deeper. -/
namespace Go.Ab
open Go.Proofs
set_option linter.unusedSectionVars false
set_option linter.unusedVariables false
set_option linter.unusedSimpArgs false
variable [Base]
section
variable {P : Program} {C : Ctx} {n : Nat} {F : Fr} {H : LH} {ops : Array Oper} {K : Fr → LH → Prop} {rest : List Oper} {ty : TypeId} {pos : String} {aft : Array Edge}
/-- a call of a function value that may panic -/
theorem WvX {x : Operand} {f : FuncId} {first caps : List SV} {d : Nat} {l : List Operand} {tys : Array TypeId} {svs : List SV} {Hin Rs : LH} {R X : SV → LH → Prop} (hc : PuH P f svs Hin R X) (k : ∀ res H', R res H' → WPL P C n ops rest K (upd F d res) (Rs ++ H')) (kx : ∀ pv H', X pv H' → C.pan pv (H' ++ Rs))
    (hs : Tk H Hin Rs) (hx : ev F x = fnv f first caps := by exact rfl) (ha : first ++ l.map (ev F) ++ caps = svs := by exact rfl) (hd : Nat.blt d n = true := by exact rfl) :
    WPL P C n ops (⟨some d, .call ⟨.value x, l.toArray, tys⟩, ty, pos, aft, none⟩ :: rest) K F H :=
  .perm hs.perm (.callH hx hc (Spl.app _ _) ha hd (fun res H' h => .perm List.perm_append_comm (k res H' h)) fun pv H' h => kx pv H' h)
end
theorem deeper_pu {w d f : Nat} {l l' : List UInt8} {H Hc : LH} {caps : List SV} {good : Bool} (h : Wtr w l d H) (hd : d < 200)
    (hc : ∀ H1, Wtr w l (d + 1) H1 → PuH Tryz.prog f caps (Hc ++ H1) (fun r H' => good = true ∧ r = Ab.tup [] ∧ ∃ H2, H' = Hc ++ H2 ∧ Wtr w l' (d + 1) H2) (fun pv _ => good = false ∧ pv = inval)) :
    PuH Tryz.prog 148 [lit (.pointer (some ⟨w, 0, none⟩)), fnv f [] caps] (H ++ Hc) (fun r H' => good = true ∧ r = Ab.tup [] ∧ ∃ H2, H' = H2 ++ Hc ∧ Wtr w l' d H2) (fun pv _ => good = false ∧ pv = inval) := by
  obtain ⟨a, s, Hb, ha, hb, rfl⟩ := h
  refine PuH.intro Tryz.func148 rfl (by kernel_rfl) fun C hC => ?_
  simp only [List.cons_append]
  repeat (refine A1 ⟨?_⟩; intros)
  refine WneedT ?_
  repeat (refine A1 ⟨?_⟩; intros)
  refine WPL.perm (List.perm_append_comm (l₁ := (w, 190, wrC a s (d + 1) false) :: Hb) (l₂ := Hc)) ?_
  refine WvX (hc _ ⟨a, s, Hb, ha, hb, rfl⟩) ?_ ?_ (Tk.same _)
  · rintro _ _ ⟨g, rfl, _, rfl, a', s', Hb', ha', hb', rfl⟩
    simp only [List.nil_append]
    refine WPL.perm List.perm_append_comm ?_
    simp only [List.cons_append]
    repeat (refine A1 ⟨?_⟩; intros)
    exact endHN _ _ end0 (List.Sublist.refl _) ⟨g, rfl, (w, 190, wrC a' s' d false) :: Hb', by rw [show ((d + 1 : Nat) : Int) - 1 = (d : Int) by omega]; rfl, a', s', Hb', ha', hb', rfl⟩
  · rintro _ _ ⟨g, rfl⟩
    rw [hC]
    exact ⟨g, rfl⟩
end Go.Ab
/- Arrays: building one, an element's address; the signs of the operators. -/
namespace Go.Ab
open Go.Proofs
set_option linter.unusedSectionVars false
set_option linter.unusedVariables false
set_option linter.unusedSimpArgs false
variable [Base]
section
variable {P : Program} {F : Fr} {H : LH} {ty : TypeId}
theorem ov_buildA {T e : TypeId} {len k sz by_ by2 : Nat} {z z2 : List SV} {g g2 : Bool} [hE : TY P e k by2 z2 g2] [hT : TY P T sz by_ z g] (hA : P.underlying T = some (.array len e)) {l : List (Nat × Operand)} {r : List (Nat × List SV)} {cs : List SV}
    (hp : Parts F l r) (hf : fillS ((List.range len).map fun i => (i * k, k)) z r = some cs) : OpV P (.build T l.toArray) ty F H (ag cs) :=
  OpV.pure fun m w o a ho _ _ _ h => by
    obtain ⟨v, hz, hall⟩ := hT.run_zero w
    have hv : ∀ p ∈ l, (ev F p.2).p m (a.eval p.2) := fun p hp' => h p.2 (by simp only [Op.operands, List.mem_toArray, List.mem_map]; exact ⟨p, hp', rfl⟩)
    obtain ⟨arr', hfill, hall'⟩ := fill_all' (m := m) (ρ := a.eval) (fun i => some (i * k, k)) (fun i p h => by
      simp only [List.getElem?_map, Option.map_eq_some_iff] at h
      obtain ⟨j, hj, rfl⟩ := h
      obtain ⟨hlt, rfl⟩ := List.getElem?_eq_some_iff.1 hj
      simp) hp hv z v.cells cs (hall m) hf
    refine ⟨.agg arr', ?_, by unfold ag; exact ⟨arr', rfl, hall'⟩⟩
    simp only [execOp, ho, Instr.build, Sem.run_bind, hz, Result.andThen_ok, underlying, run_program, hA, Sem.run_pure, hE.run_size, List.map_toArray]
    rw [hfill]
    rfl
theorem ov_idxA {x ix : Operand} {T e : TypeId} {len k by2 : Nat} {z2 : List SV} {g2 : Bool} [hE : TY P e k by2 z2 g2] (hA : P.underlying T = some (.array len e)) {ki : IntKind} {b : Nat} {i : Int}
    (hx : ev F x = lit (.pointer (some ⟨b, 0, none⟩))) (hi : ev F ix = lit (.int ki i)) (h0 : 0 ≤ i) (h1 : i < len) : OpV P (.indexAddr T x ix) ty F H (lit (.pointer (some ⟨b, i.toNat * k, none⟩))) :=
  OpV.pure fun m w o a hop _ _ _ h => by
    have e0 := h x (by simp [Op.operands]); rw [hx, lit_p] at e0
    have e1 := h ix (by simp [Op.operands]); rw [hi, lit_p] at e1
    refine ⟨.pointer (some ⟨b, i.toNat * k, none⟩), ?_, lit_p.2 rfl⟩
    simp [execOp, hop, e0, e1, Instr.indexAt, Instr.sureAddr, asIntOf, underlying, hA, h0, h1, hE.run_size, add_none]
end
end Go.Ab
/- Letters; reserved words. -/
namespace Go.Ab
open Go.Proofs
set_option linter.unusedSectionVars false
set_option linter.unusedVariables false
set_option linter.unusedSimpArgs false
variable [Base]
/-- a name may begin with this byte -/
def letterN (b : Nat) : Bool := decide (97 ≤ b ∧ b ≤ 122 ∨ 65 ≤ b ∧ b ≤ 90 ∨ b = 95)
abbrev u8 (b : Nat) : SV := lit (.int .u8 (b : Int))
/-- the place of a byte in a text -/
def idxB (l : List UInt8) (b : Nat) : Int := match (List.range (⟨l.toArray⟩ : ByteArray).size).find? fun i => (⟨l.toArray⟩ : ByteArray)[i]! == (b : Int).toNat.toUInt8 with
  | some i => (i : Int)
  | none => -1
theorem run_idxB (l : List UInt8) {b : Nat} (hb : b < 256) (w : World) : (Extern.BytealgIndexByte.indexByte #[.string ⟨l.toArray⟩, .int .u8 (b : Int)]).run Tryz.prog w = .ok (.int .i64 (idxB l b)) w := by
  have hdef : Extern.BytealgIndexByte.indexByte #[.string ⟨l.toArray⟩, .int .u8 (b : Int)] = (match (List.range (⟨l.toArray⟩ : ByteArray).size).find? fun i => (⟨l.toArray⟩ : ByteArray)[i]! == (b : Int).toNat.toUInt8 with
    | some i => pure (goInt i)
    | none => pure (goInt (-1))) := rfl
  rw [hdef]
  unfold idxB
  split <;> rfl
section
variable {F : Fr} {H : LH} {ty : TypeId}
theorem ov_idxB {x y : Operand} {l : List UInt8} {b : Nat} {tys : Array TypeId} (hx : ev F x = str l) (hy : ev F y = u8 b) (hb : b < 256) : OpV Tryz.prog (.call ⟨.value (.func 152), [x, y].toArray, tys⟩) ty F H (lit (.int .i64 (idxB l b))) :=
  OpV.pure fun m w o a ho _ _ _ h => by
    have h0 := h x (by simp [Op.operands, Call.operands]); rw [hx, lit_p] at h0
    have h1 := h y (by simp [Op.operands, Call.operands]); rw [hy, lit_p] at h1
    have h8 := @run_callFunc_extern Tryz.prog 152 _ Extern.BytealgIndexByte.indexByte Tryz.func152 (by kernel_rfl) (by kernel_rfl) (by kernel_rfl) (by kernel_rfl)
    refine ⟨_, ?_, lit_p.2 rfl⟩
    have := h8 #[a.eval x, a.eval y] w
    rw [h0, h1, run_idxB l hb] at this
    simp only [execOp, ho, resolve, Sem.run_bind, Sem.run_pure, Result.andThen_ok]
    have e1 : a.eval (.func 152) = .func (.func 152) #[] #[] := rfl
    simp only [e1, Deferred.ofValue, Sem.run_pure, Result.andThen_ok, invoke, List.map_toArray, List.map_cons, List.map_nil, Array.empty_append, Array.append_empty, h0, h1, this]
end
theorem sliteIdx_pu (l : List UInt8) {b : Nat} (hb : b < 256) : Pu Tryz.prog 107 [str l, u8 b] (lit (.int .i64 (idxB l b))) := by
  refine Pu.intro Tryz.func107 rfl (by kernel_rfl) fun C => ?_
  repeat (refine A1 ⟨?_⟩; intros)
  refine Wo (ov_idxB rfl rfl hb) ?_
  repeat (refine A1 ⟨?_⟩; intros)
  ((first | refine endR ?_ | refine endN ?_); exact end1 (RV.tmp rfl) (Le.refl _))
theorem sIdx_pu (l : List UInt8) {b : Nat} (hb : b < 256) : Pu Tryz.prog 214 [str l, u8 b] (lit (.int .i64 (idxB l b))) := by
  refine Pu.intro Tryz.func214 rfl (by kernel_rfl) fun C => ?_
  repeat (first | (refine A1 ⟨?_⟩; intros) | (refine Wcx (sliteIdx_pu l hb) ?_) | (refine Wdcx (sliteIdx_pu l hb) ?_) | (refine Wcgx (sliteIdx_pu l hb) ?_) | (refine Wdcgx (sliteIdx_pu l hb) ?_))
  ((first | refine endR ?_ | refine endN ?_); exact end1 (RV.tmp rfl) (Le.refl _))
def signs : List UInt8 := [40, 41, 123, 125, 44, 59, 61, 43, 45, 42, 47, 94, 126]
/-- the class of a byte -/
def clsN (b : Nat) : Int :=
  if b = 32 ∨ b = 9 ∨ b = 13 ∨ b = 10 then 1 else if b = 35 then 2 else if 48 ≤ b ∧ b ≤ 57 then 4 else if 97 ≤ b ∧ b ≤ 122 ∨ 65 ≤ b ∧ b ≤ 90 ∨ b = 95 then 3 else if 0 ≤ idxB signs b then 5 else 0
set_option maxHeartbeats 4000000 in
theorem classOf_pu {b : Nat} (hb : b < 256) : Pu Tryz.prog 187 [u8 b] (lit (.int .i64 (clsN b))) := by
  unfold clsN
  by_cases h1 : b = 32 ∨ b = 9 ∨ b = 13 ∨ b = 10
  · rw [if_pos h1]
    rcases h1 with rfl | rfl | rfl | rfl <;>
    · refine Pu.intro Tryz.func187 rfl (by kernel_rfl) fun C => ?_
      repeat (refine A1 ⟨?_⟩; intros)
      ((first | refine endR ?_ | refine endN ?_); exact end1 (RV.tmp rfl) (Le.refl _))
  · rw [if_neg h1]
    by_cases h2 : b = 35
    · rw [if_pos h2]
      subst h2
      refine Pu.intro Tryz.func187 rfl (by kernel_rfl) fun C => ?_
      repeat (refine A1 ⟨?_⟩; intros)
      ((first | refine endR ?_ | refine endN ?_); exact end1 (RV.tmp rfl) (Le.refl _))
    · rw [if_neg h2]
      have ha : b ≠ 32 := by omega
      have hc : b ≠ 9 := by omega
      have hd : b ≠ 13 := by omega
      have he : b ≠ 10 := by omega
      clear h1
      by_cases h3 : 48 ≤ b ∧ b ≤ 57
      · rw [if_pos h3]
        obtain ⟨h3, h4⟩ := h3
        refine Pu.intro Tryz.func187 rfl (by kernel_rfl) fun C => ?_
        repeat (refine A1 ⟨?_⟩; intros)
        ((first | refine endR ?_ | refine endN ?_); exact end1 (RV.tmp rfl) (Le.refl _))
      · rw [if_neg h3]
        by_cases h4 : 97 ≤ b ∧ b ≤ 122
        · rw [if_pos (.inl h4)]
          obtain ⟨h4, h5⟩ := h4
          clear h3
          refine Pu.intro Tryz.func187 rfl (by kernel_rfl) fun C => ?_
          repeat (refine A1 ⟨?_⟩; intros)
          ((first | refine endR ?_ | refine endN ?_); exact end1 (RV.tmp rfl) (Le.refl _))
        · by_cases h5 : 65 ≤ b ∧ b ≤ 90
          · rw [if_pos (.inr (.inl h5))]
            obtain ⟨h5, h6⟩ := h5
            clear h3 h4
            refine Pu.intro Tryz.func187 rfl (by kernel_rfl) fun C => ?_
            repeat (refine A1 ⟨?_⟩; intros)
            ((first | refine endR ?_ | refine endN ?_); exact end1 (RV.tmp rfl) (Le.refl _))
          · by_cases h6 : b = 95
            · rw [if_pos (.inr (.inr h6))]
              subst h6
              clear h3 h4 h5
              refine Pu.intro Tryz.func187 rfl (by kernel_rfl) fun C => ?_
              repeat (refine A1 ⟨?_⟩; intros)
              ((first | refine endR ?_ | refine endN ?_); exact end1 (RV.tmp rfl) (Le.refl _))
            · rw [if_neg (by omega)]
              have key : b < 48 ∨ (57 < b ∧ b < 65) ∨ (90 < b ∧ b < 97) ∨ 122 < b := by omega
              have c := sIdx_pu signs hb
              clear h3 h4 h5
              generalize idxB signs b = z at *
              by_cases hz : 0 ≤ z
              · rw [if_pos hz]
                rcases key with P1 | ⟨P1, P2⟩ | ⟨P1, P2⟩ | P1
                all_goals
                  refine Pu.intro Tryz.func187 rfl (by kernel_rfl) fun C => ?_
                  repeat (first | (refine A1 ⟨?_⟩; intros) | (refine Wcx (c) ?_) | (refine Wdcx (c) ?_) | (refine Wcgx (c) ?_) | (refine Wdcgx (c) ?_))
                  ((first | refine endR ?_ | refine endN ?_); exact end1 (RV.tmp rfl) (Le.refl _))
              · rw [if_neg hz]
                rcases key with P1 | ⟨P1, P2⟩ | ⟨P1, P2⟩ | P1
                all_goals
                  refine Pu.intro Tryz.func187 rfl (by kernel_rfl) fun C => ?_
                  repeat (first | (refine A1 ⟨?_⟩; intros) | (refine Wcx (c) ?_) | (refine Wdcx (c) ?_) | (refine Wcgx (c) ?_) | (refine Wdcgx (c) ?_))
                  ((first | refine endR ?_ | refine endN ?_); exact end1 (RV.tmp rfl) (Le.refl _))
end Go.Ab
/- Letters, reserved words: the program's and the reference's. -/
namespace Go.Ab
open Go.Proofs
set_option linter.unusedSectionVars false
set_option linter.unusedVariables false
set_option linter.unusedSimpArgs false
variable [Base]
theorem clsN_3 (b : Nat) : decide (clsN b = 3) = letterN b := by
  unfold clsN letterN
  by_cases h1 : b = 32 ∨ b = 9 ∨ b = 13 ∨ b = 10
  · rw [if_pos h1, decide_eq_false (by omega), decide_eq_false (by omega)]
  · rw [if_neg h1]
    by_cases h2 : b = 35
    · rw [if_pos h2, decide_eq_false (by omega), decide_eq_false (by omega)]
    · rw [if_neg h2]
      by_cases h3 : 48 ≤ b ∧ b ≤ 57
      · rw [if_pos h3, decide_eq_false (by omega), decide_eq_false (by omega)]
      · rw [if_neg h3]
        by_cases h4 : 97 ≤ b ∧ b ≤ 122 ∨ 65 ≤ b ∧ b ≤ 90 ∨ b = 95
        · rw [if_pos h4, decide_eq_true rfl, decide_eq_true h4]
        · rw [if_neg h4, decide_eq_false h4]
          split <;> rfl
theorem letter_pu {b : Nat} (hb : b < 256) : Pu Tryz.prog 168 [u8 b] (lit (.bool (letterN b))) := by
  rw [← clsN_3]
  have c := classOf_pu hb
  generalize clsN b = z at *
  refine Pu.intro Tryz.func168 rfl (by kernel_rfl) fun C => ?_
  repeat (first | (refine A1 ⟨?_⟩; intros) | (refine Wcx (c) ?_) | (refine Wdcx (c) ?_) | (refine Wcgx (c) ?_) | (refine Wdcgx (c) ?_))
  ((first | refine endR ?_ | refine endN ?_); exact end1 (RV.tmp rfl) (Le.refl _))
/-- the reserved words -/
def words : List (List UInt8) := [[98, 117, 100, 103, 101, 116], [114, 105, 110, 103], [114, 101, 103, 105, 111, 110], [101, 118, 101, 110, 111, 100, 100], [110, 111, 110, 122, 101, 114, 111], [111, 117, 116, 108, 105, 110, 101], [102, 97, 114], [99, 104, 97, 105, 110], [108, 101, 116], [97, 114, 101, 97], [99, 101, 110, 116, 114, 111, 105, 100], [99, 108, 97, 115, 115, 105, 102, 121], [101, 109, 112, 116, 121], [101, 113, 117, 97, 108], [115, 117, 98, 115, 101, 116], [99, 101, 108, 108, 115], [110, 111, 100, 101, 115], [112, 97, 114, 116, 115], [101, 120, 112, 111, 114, 116], [97, 108, 108], [110, 111, 110, 101], [104, 97, 108, 102]]
def resv (s : List UInt8) : Bool := decide (s ∈ words)
theorem resv_t {s w : List UInt8} (h : s = w) (hw : decide (w ∈ words) = true := by decide +kernel) : lit (.bool true) = lit (.bool (resv s)) := by subst h; unfold resv; rw [hw]
theorem resv_f {s : List UInt8} (h0 : ¬s = [98, 117, 100, 103, 101, 116]) (h1 : ¬s = [114, 105, 110, 103]) (h2 : ¬s = [114, 101, 103, 105, 111, 110]) (h3 : ¬s = [101, 118, 101, 110, 111, 100, 100]) (h4 : ¬s = [110, 111, 110, 122, 101, 114, 111]) (h5 : ¬s = [111, 117, 116, 108, 105, 110, 101]) (h6 : ¬s = [102, 97, 114]) (h7 : ¬s = [99, 104, 97, 105, 110]) (h8 : ¬s = [108, 101, 116]) (h9 : ¬s = [97, 114, 101, 97]) (h10 : ¬s = [99, 101, 110, 116, 114, 111, 105, 100]) (h11 : ¬s = [99, 108, 97, 115, 115, 105, 102, 121]) (h12 : ¬s = [101, 109, 112, 116, 121]) (h13 : ¬s = [101, 113, 117, 97, 108]) (h14 : ¬s = [115, 117, 98, 115, 101, 116]) (h15 : ¬s = [99, 101, 108, 108, 115]) (h16 : ¬s = [110, 111, 100, 101, 115]) (h17 : ¬s = [112, 97, 114, 116, 115]) (h18 : ¬s = [101, 120, 112, 111, 114, 116]) (h19 : ¬s = [97, 108, 108]) (h20 : ¬s = [110, 111, 110, 101]) (h21 : ¬s = [104, 97, 108, 102]) : lit (.bool false) = lit (.bool (resv s)) := by
  unfold resv words
  rw [decide_eq_false (by simp only [List.mem_cons, List.not_mem_nil, or_false, not_or]; exact ⟨h0, h1, h2, h3, h4, h5, h6, h7, h8, h9, h10, h11, h12, h13, h14, h15, h16, h17, h18, h19, h20, h21⟩)]
set_option maxHeartbeats 4000000 in
theorem reserved_pu (s : List UInt8) : Pu Tryz.prog 169 [str s] (lit (.bool (resv s))) := by
  refine Pu.intro Tryz.func169 rfl (by kernel_rfl) fun C => ?_
  repeat (refine A1 ⟨?_⟩; intros)
  by_cases h0 : s = [98, 117, 100, 103, 101, 116]
  · refine Wo (ov_seql (b := [98, 117, 100, 103, 101, 116]) rfl rfl (decide_eq_true h0)) ?_
    repeat (refine A1 ⟨?_⟩; intros)
    ((first | refine endR ?_ | refine endN ?_); refine end1 (RV.tmp rfl) (Le.of_eq ?_))
    exact resv_t h0
  refine Wo (ov_seql (b := [98, 117, 100, 103, 101, 116]) rfl rfl (decide_eq_false h0)) ?_
  repeat (refine A1 ⟨?_⟩; intros)
  by_cases h1 : s = [114, 105, 110, 103]
  · refine Wo (ov_seql (b := [114, 105, 110, 103]) rfl rfl (decide_eq_true h1)) ?_
    repeat (refine A1 ⟨?_⟩; intros)
    ((first | refine endR ?_ | refine endN ?_); refine end1 (RV.tmp rfl) (Le.of_eq ?_))
    exact resv_t h1
  refine Wo (ov_seql (b := [114, 105, 110, 103]) rfl rfl (decide_eq_false h1)) ?_
  repeat (refine A1 ⟨?_⟩; intros)
  by_cases h2 : s = [114, 101, 103, 105, 111, 110]
  · refine Wo (ov_seql (b := [114, 101, 103, 105, 111, 110]) rfl rfl (decide_eq_true h2)) ?_
    repeat (refine A1 ⟨?_⟩; intros)
    ((first | refine endR ?_ | refine endN ?_); refine end1 (RV.tmp rfl) (Le.of_eq ?_))
    exact resv_t h2
  refine Wo (ov_seql (b := [114, 101, 103, 105, 111, 110]) rfl rfl (decide_eq_false h2)) ?_
  repeat (refine A1 ⟨?_⟩; intros)
  by_cases h3 : s = [101, 118, 101, 110, 111, 100, 100]
  · refine Wo (ov_seql (b := [101, 118, 101, 110, 111, 100, 100]) rfl rfl (decide_eq_true h3)) ?_
    repeat (refine A1 ⟨?_⟩; intros)
    ((first | refine endR ?_ | refine endN ?_); refine end1 (RV.tmp rfl) (Le.of_eq ?_))
    exact resv_t h3
  refine Wo (ov_seql (b := [101, 118, 101, 110, 111, 100, 100]) rfl rfl (decide_eq_false h3)) ?_
  repeat (refine A1 ⟨?_⟩; intros)
  by_cases h4 : s = [110, 111, 110, 122, 101, 114, 111]
  · refine Wo (ov_seql (b := [110, 111, 110, 122, 101, 114, 111]) rfl rfl (decide_eq_true h4)) ?_
    repeat (refine A1 ⟨?_⟩; intros)
    ((first | refine endR ?_ | refine endN ?_); refine end1 (RV.tmp rfl) (Le.of_eq ?_))
    exact resv_t h4
  refine Wo (ov_seql (b := [110, 111, 110, 122, 101, 114, 111]) rfl rfl (decide_eq_false h4)) ?_
  repeat (refine A1 ⟨?_⟩; intros)
  by_cases h5 : s = [111, 117, 116, 108, 105, 110, 101]
  · refine Wo (ov_seql (b := [111, 117, 116, 108, 105, 110, 101]) rfl rfl (decide_eq_true h5)) ?_
    repeat (refine A1 ⟨?_⟩; intros)
    ((first | refine endR ?_ | refine endN ?_); refine end1 (RV.tmp rfl) (Le.of_eq ?_))
    exact resv_t h5
  refine Wo (ov_seql (b := [111, 117, 116, 108, 105, 110, 101]) rfl rfl (decide_eq_false h5)) ?_
  repeat (refine A1 ⟨?_⟩; intros)
  by_cases h6 : s = [102, 97, 114]
  · refine Wo (ov_seql (b := [102, 97, 114]) rfl rfl (decide_eq_true h6)) ?_
    repeat (refine A1 ⟨?_⟩; intros)
    ((first | refine endR ?_ | refine endN ?_); refine end1 (RV.tmp rfl) (Le.of_eq ?_))
    exact resv_t h6
  refine Wo (ov_seql (b := [102, 97, 114]) rfl rfl (decide_eq_false h6)) ?_
  repeat (refine A1 ⟨?_⟩; intros)
  by_cases h7 : s = [99, 104, 97, 105, 110]
  · refine Wo (ov_seql (b := [99, 104, 97, 105, 110]) rfl rfl (decide_eq_true h7)) ?_
    repeat (refine A1 ⟨?_⟩; intros)
    ((first | refine endR ?_ | refine endN ?_); refine end1 (RV.tmp rfl) (Le.of_eq ?_))
    exact resv_t h7
  refine Wo (ov_seql (b := [99, 104, 97, 105, 110]) rfl rfl (decide_eq_false h7)) ?_
  repeat (refine A1 ⟨?_⟩; intros)
  by_cases h8 : s = [108, 101, 116]
  · refine Wo (ov_seql (b := [108, 101, 116]) rfl rfl (decide_eq_true h8)) ?_
    repeat (refine A1 ⟨?_⟩; intros)
    ((first | refine endR ?_ | refine endN ?_); refine end1 (RV.tmp rfl) (Le.of_eq ?_))
    exact resv_t h8
  refine Wo (ov_seql (b := [108, 101, 116]) rfl rfl (decide_eq_false h8)) ?_
  repeat (refine A1 ⟨?_⟩; intros)
  by_cases h9 : s = [97, 114, 101, 97]
  · refine Wo (ov_seql (b := [97, 114, 101, 97]) rfl rfl (decide_eq_true h9)) ?_
    repeat (refine A1 ⟨?_⟩; intros)
    ((first | refine endR ?_ | refine endN ?_); refine end1 (RV.tmp rfl) (Le.of_eq ?_))
    exact resv_t h9
  refine Wo (ov_seql (b := [97, 114, 101, 97]) rfl rfl (decide_eq_false h9)) ?_
  repeat (refine A1 ⟨?_⟩; intros)
  by_cases h10 : s = [99, 101, 110, 116, 114, 111, 105, 100]
  · refine Wo (ov_seql (b := [99, 101, 110, 116, 114, 111, 105, 100]) rfl rfl (decide_eq_true h10)) ?_
    repeat (refine A1 ⟨?_⟩; intros)
    ((first | refine endR ?_ | refine endN ?_); refine end1 (RV.tmp rfl) (Le.of_eq ?_))
    exact resv_t h10
  refine Wo (ov_seql (b := [99, 101, 110, 116, 114, 111, 105, 100]) rfl rfl (decide_eq_false h10)) ?_
  repeat (refine A1 ⟨?_⟩; intros)
  by_cases h11 : s = [99, 108, 97, 115, 115, 105, 102, 121]
  · refine Wo (ov_seql (b := [99, 108, 97, 115, 115, 105, 102, 121]) rfl rfl (decide_eq_true h11)) ?_
    repeat (refine A1 ⟨?_⟩; intros)
    ((first | refine endR ?_ | refine endN ?_); refine end1 (RV.tmp rfl) (Le.of_eq ?_))
    exact resv_t h11
  refine Wo (ov_seql (b := [99, 108, 97, 115, 115, 105, 102, 121]) rfl rfl (decide_eq_false h11)) ?_
  repeat (refine A1 ⟨?_⟩; intros)
  by_cases h12 : s = [101, 109, 112, 116, 121]
  · refine Wo (ov_seql (b := [101, 109, 112, 116, 121]) rfl rfl (decide_eq_true h12)) ?_
    repeat (refine A1 ⟨?_⟩; intros)
    ((first | refine endR ?_ | refine endN ?_); refine end1 (RV.tmp rfl) (Le.of_eq ?_))
    exact resv_t h12
  refine Wo (ov_seql (b := [101, 109, 112, 116, 121]) rfl rfl (decide_eq_false h12)) ?_
  repeat (refine A1 ⟨?_⟩; intros)
  by_cases h13 : s = [101, 113, 117, 97, 108]
  · refine Wo (ov_seql (b := [101, 113, 117, 97, 108]) rfl rfl (decide_eq_true h13)) ?_
    repeat (refine A1 ⟨?_⟩; intros)
    ((first | refine endR ?_ | refine endN ?_); refine end1 (RV.tmp rfl) (Le.of_eq ?_))
    exact resv_t h13
  refine Wo (ov_seql (b := [101, 113, 117, 97, 108]) rfl rfl (decide_eq_false h13)) ?_
  repeat (refine A1 ⟨?_⟩; intros)
  by_cases h14 : s = [115, 117, 98, 115, 101, 116]
  · refine Wo (ov_seql (b := [115, 117, 98, 115, 101, 116]) rfl rfl (decide_eq_true h14)) ?_
    repeat (refine A1 ⟨?_⟩; intros)
    ((first | refine endR ?_ | refine endN ?_); refine end1 (RV.tmp rfl) (Le.of_eq ?_))
    exact resv_t h14
  refine Wo (ov_seql (b := [115, 117, 98, 115, 101, 116]) rfl rfl (decide_eq_false h14)) ?_
  repeat (refine A1 ⟨?_⟩; intros)
  by_cases h15 : s = [99, 101, 108, 108, 115]
  · refine Wo (ov_seql (b := [99, 101, 108, 108, 115]) rfl rfl (decide_eq_true h15)) ?_
    repeat (refine A1 ⟨?_⟩; intros)
    ((first | refine endR ?_ | refine endN ?_); refine end1 (RV.tmp rfl) (Le.of_eq ?_))
    exact resv_t h15
  refine Wo (ov_seql (b := [99, 101, 108, 108, 115]) rfl rfl (decide_eq_false h15)) ?_
  repeat (refine A1 ⟨?_⟩; intros)
  by_cases h16 : s = [110, 111, 100, 101, 115]
  · refine Wo (ov_seql (b := [110, 111, 100, 101, 115]) rfl rfl (decide_eq_true h16)) ?_
    repeat (refine A1 ⟨?_⟩; intros)
    ((first | refine endR ?_ | refine endN ?_); refine end1 (RV.tmp rfl) (Le.of_eq ?_))
    exact resv_t h16
  refine Wo (ov_seql (b := [110, 111, 100, 101, 115]) rfl rfl (decide_eq_false h16)) ?_
  repeat (refine A1 ⟨?_⟩; intros)
  by_cases h17 : s = [112, 97, 114, 116, 115]
  · refine Wo (ov_seql (b := [112, 97, 114, 116, 115]) rfl rfl (decide_eq_true h17)) ?_
    repeat (refine A1 ⟨?_⟩; intros)
    ((first | refine endR ?_ | refine endN ?_); refine end1 (RV.tmp rfl) (Le.of_eq ?_))
    exact resv_t h17
  refine Wo (ov_seql (b := [112, 97, 114, 116, 115]) rfl rfl (decide_eq_false h17)) ?_
  repeat (refine A1 ⟨?_⟩; intros)
  by_cases h18 : s = [101, 120, 112, 111, 114, 116]
  · refine Wo (ov_seql (b := [101, 120, 112, 111, 114, 116]) rfl rfl (decide_eq_true h18)) ?_
    repeat (refine A1 ⟨?_⟩; intros)
    ((first | refine endR ?_ | refine endN ?_); refine end1 (RV.tmp rfl) (Le.of_eq ?_))
    exact resv_t h18
  refine Wo (ov_seql (b := [101, 120, 112, 111, 114, 116]) rfl rfl (decide_eq_false h18)) ?_
  repeat (refine A1 ⟨?_⟩; intros)
  by_cases h19 : s = [97, 108, 108]
  · refine Wo (ov_seql (b := [97, 108, 108]) rfl rfl (decide_eq_true h19)) ?_
    repeat (refine A1 ⟨?_⟩; intros)
    ((first | refine endR ?_ | refine endN ?_); refine end1 (RV.tmp rfl) (Le.of_eq ?_))
    exact resv_t h19
  refine Wo (ov_seql (b := [97, 108, 108]) rfl rfl (decide_eq_false h19)) ?_
  repeat (refine A1 ⟨?_⟩; intros)
  by_cases h20 : s = [110, 111, 110, 101]
  · refine Wo (ov_seql (b := [110, 111, 110, 101]) rfl rfl (decide_eq_true h20)) ?_
    repeat (refine A1 ⟨?_⟩; intros)
    ((first | refine endR ?_ | refine endN ?_); refine end1 (RV.tmp rfl) (Le.of_eq ?_))
    exact resv_t h20
  refine Wo (ov_seql (b := [110, 111, 110, 101]) rfl rfl (decide_eq_false h20)) ?_
  repeat (refine A1 ⟨?_⟩; intros)
  by_cases h21 : s = [104, 97, 108, 102]
  · refine Wo (ov_seql (b := [104, 97, 108, 102]) rfl rfl (decide_eq_true h21)) ?_
    repeat (refine A1 ⟨?_⟩; intros)
    ((first | refine endR ?_ | refine endN ?_); refine end1 (RV.tmp rfl) (Le.of_eq ?_))
    exact resv_t h21
  refine Wo (ov_seql (b := [104, 97, 108, 102]) rfl rfl (decide_eq_false h21)) ?_
  repeat (refine A1 ⟨?_⟩; intros)
  ((first | refine endR ?_ | refine endN ?_); refine end1 (RV.tmp rfl) (Le.of_eq ?_))
  exact resv_f h0 h1 h2 h3 h4 h5 h6 h7 h8 h9 h10 h11 h12 h13 h14 h15 h16 h17 h18 h19 h20 h21
end Go.Ab
