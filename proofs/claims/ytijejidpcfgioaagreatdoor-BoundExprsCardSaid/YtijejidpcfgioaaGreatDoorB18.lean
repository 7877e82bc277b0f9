/- Texts laid one behind the other: StkP, StkA, RExpr, PExpr, Add64, BndP, BndN, Bnd. -/
import Derived.Test.YtijejidpcfgioaaGreatDoorB17
import Derived.Test.YtijejidpcfgioaaGreatDoorB16
import Derived.Test.YtijejidpcfgioaaGreatDoorB03
import Derived.Test.YtijejidpcfgioaaGreatDoorB09
import Derived.Laws.Externs
/- The reference's stack of expressions, as a plain function; it accepts what the program's check accepts. -/
namespace Go.Ab
open Go.Proofs
set_option linter.unusedSectionVars false
set_option linter.unusedVariables false
set_option linter.unusedSimpArgs false
variable [Base]
/-- the stack, its top first, behind part number i -/
def stp (i : Nat) (n : Nd) (st : List (Ex × Nat)) : Option (List (Ex × Nat)) :=
  if okN n = true then
    if n.k = 5 then (match st with
      | (x, j) :: r => if n.x = (j : Nat) then some ((.un n x, i) :: r) else none
      | [] => none)
    else if n.k = 6 then (match st with
      | (y, k) :: (x, j) :: r => if n.x = (j : Nat) ∧ n.y = (k : Nat) then some ((.bi n x y, i) :: r) else none
      | _ => none)
    else some ((.leaf n, i) :: st)
  else none
def stk : List Nd → Nat → List (Ex × Nat) → Option (List (Ex × Nat))
  | [], _, st => some st
  | n :: ns, i, st => match stp i n st with
    | some st' => stk ns (i + 1) st'
    | none => none
theorem stk_cons (n : Nd) (ns : List Nd) (i : Nat) (st : List (Ex × Nat)) : stk (n :: ns) i st = match stp i n st with
    | some st' => stk ns (i + 1) st'
    | none => none := rfl
/-- the trees of a stack stand one behind the other -/
inductive Sk (ns : List Nd) (ss : List Nat) : Nat → List (Ex × Nat) → Prop
  | nil : Sk ns ss 0 []
  | cons {i : Nat} {t : Ex} {st : List (Ex × Nat)} (h1 : t.At ns i) (h2 : t.size = ss.getD i 0) (h3 : t.size ≤ i + 1) (h : Sk ns ss (i + 1 - t.size) st) : Sk ns ss (i + 1) ((t, i) :: st)
theorem Sk.more {ns : List Nd} {ss : List Nat} {i s : Nat} {st : List (Ex × Nat)} (h : Sk ns ss i st) : i ≤ ss.length → Sk ns (ss ++ [s]) i st := by
  induction h with
  | nil => exact fun _ => .nil
  | @cons i t st h1 h2 h3 _ ih =>
    intro hi
    refine .cons h1 ?_ h3 (ih (by have := t.size_pos; omega))
    rw [h2]
    simp [List.getD, List.getElem?_append_left (show i < ss.length by omega)]
theorem Sk.all {ns : List Nd} {ss : List Nat} {i : Nat} {st : List (Ex × Nat)} (h : Sk ns ss i st) : ∀ e ∈ st, e.1.At ns e.2 ∧ e.1.size ≤ i ∧ e.2 < i := by
  induction h with
  | nil => intro e he; cases he
  | @cons i t st h1 h2 h3 _ ih =>
    intro e he
    have := t.size_pos
    rcases List.mem_cons.1 he with rfl | he
    · exact ⟨h1, h3, Nat.lt_succ_self _⟩
    · obtain ⟨a, b, c⟩ := ih e he
      exact ⟨a, by omega, by omega⟩
/-- the stack's numbers are no more than the parts -/
theorem Sk.len {ns : List Nd} {ss : List Nat} {i : Nat} {st : List (Ex × Nat)} (h : Sk ns ss i st) : st.length ≤ i := by
  induction h with
  | nil => exact Nat.le_refl _
  | @cons i t st h1 h2 h3 _ ih =>
    have := t.size_pos
    simp only [List.length_cons]; omega
theorem getD_snoc (ss : List Nat) (s : Nat) : (ss ++ [s]).getD ss.length 0 = s := by simp [List.getD]
/-- both machines take the same parts -/
theorem stp_step {ns : List Nd} {ss : List Nat} {n : Nd} {st : List (Ex × Nat)} (hat : ns[ss.length]? = some n) (h : Sk ns ss ss.length st) :
    match stp ss.length n st with
    | some st' => ∃ s, step1 ss n = some s ∧ Sk ns (ss ++ [s]) (ss.length + 1) st'
    | none => step1 ss n = none := by
  generalize hi : ss.length = i at *
  unfold stp step1
  rw [hi]
  by_cases e : okN n = true
  · rw [if_pos e, if_pos e]
    obtain ⟨hk, ho⟩ := okN_k e
    by_cases k5 : n.k = 5
    · rw [if_pos k5, if_pos k5]
      cases h with
      | nil => simp only; rw [if_neg (by omega)]
      | @cons j t st' h1 h2 h3 h4 =>
        simp only [Nat.add_sub_cancel]
        by_cases hx : n.x = (j : Nat)
        · rw [if_pos hx, if_pos (by omega)]
          refine ⟨_, rfl, .cons ⟨hat, k5, j, hx, h1⟩ ?_ ?_ ?_⟩
          · rw [← hi, getD_snoc]; simp only [Ex.size]; omega
          · simp only [Ex.size]; omega
          · have := (Sk.more (s := 1 + ss.getD j 0) h4 (by omega))
            simp only [Ex.size]
            rw [show j + 1 + 1 - (1 + t.size) = j + 1 - t.size by omega]
            exact this
        · rw [if_neg hx, if_neg (by omega)]
    · rw [if_neg k5, if_neg k5]
      by_cases k6 : n.k = 6
      · rw [if_pos k6, if_pos k6]
        cases h with
        | nil => simp only; rw [if_neg (by omega)]
        | @cons k y st' h1 h2 h3 h4 =>
          simp only [Nat.add_sub_cancel]
          rw [← h2]
          have hy1 := y.size_pos
          generalize hm : k + 1 - y.size = m at h4
          cases h4 with
          | nil => simp only; rw [if_neg (by omega)]
          | @cons j x r g1 g2 g3 g4 =>
            simp only
            have hj : k - y.size = j := by omega
            rw [hj, ← g2]
            by_cases hx : n.x = (j : Nat) ∧ n.y = (k : Nat)
            · rw [if_pos hx, if_pos (by omega)]
              refine ⟨_, rfl, .cons ⟨hat, k6, ho k6, j, k, hx.1, hx.2, g1, h1⟩ ?_ ?_ ?_⟩
              · rw [← hi, getD_snoc]; simp only [Ex.size]; omega
              · simp only [Ex.size]; omega
              · have := (Sk.more (s := 1 + y.size + x.size) g4 (by omega))
                simp only [Ex.size]
                rw [show k + 1 + 1 - (1 + x.size + y.size) = j + 1 - x.size by omega]
                exact this
            · rw [if_neg hx, if_neg (by omega)]
      · rw [if_neg k6, if_neg k6]
        refine ⟨1, rfl, .cons ⟨hat, hk.1, by omega⟩ ?_ ?_ ?_⟩
        · rw [← hi, getD_snoc]; rfl
        · simp only [Ex.size]; omega
        · have := (Sk.more (s := 1) h (by omega))
          simpa [Ex.size] using this
  · rw [if_neg e, if_neg e]
theorem stk_sizes {ns : List Nd} : ∀ (rest : List Nd) (ss : List Nat) (st : List (Ex × Nat)), ns.drop ss.length = rest → ss.length ≤ ns.length → Sk ns ss ss.length st →
    match stk rest ss.length st with
    | some st' => ∃ out, sizes rest ss = some out ∧ out.length = ns.length ∧ Sk ns out ns.length st'
    | none => sizes rest ss = none
  | [], ss, st, hd, hl, h => by
    have hlen : ss.length = ns.length := by
      have := congrArg List.length hd
      simp at this
      omega
    unfold stk sizes
    exact ⟨ss, rfl, hlen, hlen ▸ h⟩
  | n :: rest, ss, st, hd, hl, h => by
    rw [stk_cons, sizes_cons]
    have hat : ns[ss.length]? = some n := by
      have := congrArg (·[0]?) hd
      simpa using this
    have hlt : ss.length < ns.length := (List.getElem?_eq_some_iff.1 hat).1
    have hs := stp_step hat h
    cases hst : stp ss.length n st with
    | none => rw [hst] at hs; simp only at hs ⊢; rw [hs]
    | some st' =>
      rw [hst] at hs
      obtain ⟨s, hs1, hs2⟩ := hs
      simp only
      rw [hs1]
      have hrec := stk_sizes rest (ss ++ [s]) st' (by
        rw [List.length_append, List.length_singleton]
        have := drop_cons hat
        rw [hd] at this
        exact ((List.cons.inj this).2).symm) (by simp; omega) (by rw [List.length_append, List.length_singleton]; exact hs2)
      rw [List.length_append, List.length_singleton] at hrec
      exact hrec
/-- the reference accepts what the program accepts, with the same tree -/
theorem stk_okL (ns : List Nd) : match stk ns 0 [] with
    | some st => okL ns = decide (st.length = 1) ∧ ∀ t j r, st = (t, j) :: r → t.At ns j ∧ (r = [] → j = ns.length - 1 ∧ t.size = ns.length)
    | none => okL ns = false := by
  have h := stk_sizes (ns := ns) ns [] [] rfl (Nat.zero_le _) .nil
  simp only [List.length_nil] at h
  cases hst : stk ns 0 [] with
  | none =>
    rw [hst] at h
    exact okL_none h
  | some st =>
    rw [hst] at h
    obtain ⟨out, h1, h2, h3⟩ := h
    simp only
    unfold okL
    rw [h1]
    simp only
    generalize hN : ns.length = N at *
    cases h3 with
    | nil => exact ⟨rfl, fun _ _ _ h => by cases h⟩
    | @cons i t st' g1 g2 g3 g4 =>
      simp only [Nat.add_sub_cancel]
      rw [← g2]
      have hp := t.size_pos
      generalize hm : i + 1 - t.size = m at g4
      cases g4 with
      | nil =>
        refine ⟨by simp; omega, fun t' j r he => ?_⟩
        cases he
        exact ⟨g1, fun _ => ⟨rfl, by omega⟩⟩
      | @cons i' t' st'' q1 q2 q3 q4 =>
        refine ⟨by simp; omega, fun t' j r he => ?_⟩
        cases he
        exact ⟨g1, fun hr => by cases hr⟩
end Go.Ab
/- Slices of exact capacity; appending one element to them makes a new row, at once finished. -/
namespace Go.Ab
open Go.Proofs
set_option linter.unusedSectionVars false
set_option linter.unusedVariables false
set_option linter.unusedSimpArgs false
variable [Base]
section
variable {P : Program} {C : Ctx} {n : Nat} {F : Fr} {H : LH} {ty : TypeId}
/-- a new block that is finished at once -/
theorem pub_new {m : Mem} {w w' : World} {arr : Array Value} {e : TypeId} (h1 : MemIn m w) (hw : w' = w.alloc (.cells arr e) ∨ w' = w.drew.alloc (.cells arr e)) :
    ∃ m', MemIn m' w' ∧ Rel [] m w m' w' ∧ m' w.heap.size = some (.cells arr e (0, 0)) := by
  have hnone : m w.heap.size = none := by
    cases hmm : m w.heap.size with
    | none => rfl
    | some o => have := h1 _ _ hmm; rw [Array.getElem?_eq_none (Nat.le_refl _)] at this; cases this
  have hsize : w'.heap.size = w.heap.size + 1 := by rcases hw with rfl | rfl <;> exact World.size_alloc ..
  have hold : ∀ b, b < w.heap.size → w'.heap[b]? = w.heap[b]? := by
    rcases hw with rfl | rfl
    · exact fun b hb => heap_alloc_old w _ b hb
    · exact fun b hb => heap_alloc_old w.drew _ b hb
  have hnew : w'.heap[w.heap.size]? = some (.cells arr e (0, 0)) := by
    rcases hw with rfl | rfl
    · exact heap_alloc_new w _
    · exact heap_alloc_new w.drew _
  have hos : w'.os = w.os ∧ w'.tape = w.tape ∧ w'.output = w.output := by rcases hw with rfl | rfl <;> exact ⟨rfl, rfl, rfl⟩
  have hle : m.le fun b => if b = w.heap.size then some (.cells arr e (0, 0)) else m b := fun b o hb => by
    have : b ≠ w.heap.size := fun e => by rw [e, hnone] at hb; cases hb
    simp only [if_neg this]; exact hb
  refine ⟨fun b => if b = w.heap.size then some (.cells arr e (0, 0)) else m b, ⟨fun b o hb => ?_, Mem.le_trans h1.base hle⟩, ⟨hle, fun b hb _ => ?_, hos.1, hos.2.1, hos.2.2, by omega, fun b hb _ => hold b hb⟩, by simp⟩
  · by_cases hbe : b = w.heap.size
    · subst hbe
      simp only [if_true] at hb
      obtain rfl := Option.some.inj hb
      exact hnew
    · simp only [if_neg hbe] at hb
      have := h1 b o hb
      rw [hold b (Array.getElem?_eq_some_iff.1 this).1]; exact this
  · simp only [if_neg (Nat.ne_of_lt hb)]
theorem OpV.pubN {op : Op} {T : TypeId} {z : List SV} {mk : Nat → Value} {sv : SV} (hn : NewOk P op F T z mk) (hsv : ∀ (m : Mem) (b : Nat) (arr : Array Value), m b = some (.cells arr T (0, 0)) → All2 m z arr.toList → sv.p m (mk b)) : OpV P op ty F H sv := by
  refine OpV.of0 ?_
  intro m w o a ho hty h1 h2 h3 K Q hK
  obtain ⟨arr, hrun, hall⟩ := hn w o a ho ⟨m, h3⟩
  obtain ⟨m', g1, g2, g3⟩ := pub_new (w' := w.alloc (.cells arr T)) h1 (.inl rfl)
  unfold Oper.wp
  rw [hrun]
  exact hK _ m' _ (hsv m' _ arr g3 ((hall m h3).mono g2.le)) g1 g2
theorem sl_new {m : Mem} {b k : Nat} {arr : Array Value} {T : TypeId} {cs : List SV} (hb : m b = some (.cells arr T (0, 0))) (h : All2 m cs arr.toList) (hk : k ≤ maxLen) : (sl cs k).p m (.slice (some ⟨b, 0, none⟩) k k) :=
  sl_mk (Nat.le_refl _) hk (.inr ⟨b, 0, rfl, arr, T, (0, 0), hb, by rw [List.drop_zero, ← h.length, List.take_length]; exact h⟩)
theorem run_bound {P : Program} {w : World} {v : Value} (l u : Nat) {ki : IntKind} (code : BoundsCode) (hy : v = .int ki l) (hle : l ≤ u) : (Instr.sliceBound v u code).run P w = .ok l w := by
  have h1 : (l : Int) ≤ (u : Int) := by omega
  subst hy
  simp [Instr.sliceBound, asIntOf, h1]
end
end Go.Ab
/- The reference's printer: expressions, by a stack. -/
namespace Go.Ab
open Go.Proofs
set_option linter.unusedSectionVars false
set_option linter.unusedVariables false
set_option linter.unusedSimpArgs false
variable [Base]
section
variable {P : Program} {C : Ctx} {n : Nat} {Q : Exit → Fr → LH → Prop} {F : Fr} {H : LH} {ops : Array Oper}
end
end Go.Ab
/- Printing an expression: program and reference give the same text, or refuse alike. -/
namespace Go.Ab
open Go.Proofs
set_option linter.unusedSectionVars false
set_option linter.unusedVariables false
set_option linter.unusedSimpArgs false
variable [Base]
/-- the text of a list of parts, if it is one printable expression -/
def otx (ns : List Nd) : Option (List UInt8) := match stk ns 0 [] with
  | some [(t, _)] => if t.good = true then some t.txt else none
  | _ => none
theorem otx_spec (ns : List Nd) : (okL ns = false ∧ otx ns = none) ∨ ∃ t : Ex, okL ns = true ∧ t.At ns (ns.length - 1) ∧ t.size = ns.length ∧ otx ns = if t.good = true then some t.txt else none := by
  have h := stk_okL ns
  unfold otx
  cases hst : stk ns 0 [] with
  | none => rw [hst] at h; exact .inl ⟨h, rfl⟩
  | some st =>
    rw [hst] at h
    simp only at h
    obtain ⟨h1, h2⟩ := h
    match st, h1, h2 with
    | [], h1, _ => exact .inl ⟨by rw [h1]; rfl, rfl⟩
    | [(t, j)], h1, h2 =>
      obtain ⟨a, b⟩ := h2 t j [] rfl
      obtain ⟨rfl, c⟩ := b rfl
      exact .inr ⟨t, by rw [h1]; rfl, a, c, rfl⟩
    | _ :: _ :: r, h1, _ => exact .inl ⟨by rw [h1]; simp, rfl⟩
theorem Ex.txt_ne : ∀ {t : Ex} {ns : List Nd} {i : Nat}, t.At ns i → t.good = true → t.txt ≠ []
  | .leaf n, ns, i, hat, h => by
    obtain ⟨_, h1, h4⟩ := hat
    unfold Ex.txt
    unfold Ex.good at h
    by_cases k1 : n.k = 1
    · rw [if_pos k1] at h ⊢
      intro e
      rw [e] at h
      revert h
      decide
    rw [if_neg k1]
    by_cases k2 : n.k = 2
    · rw [if_pos k2]; decide
    rw [if_neg k2]
    by_cases k3 : n.k = 3
    · rw [if_pos k3]; decide
    rw [if_neg k3]
    simp
  | .un n x, ns, i, hat, h => by
    unfold Ex.txt
    simp
  | .bi n l r, ns, i, hat, h => by
    unfold Ex.txt
    have := sgn_len n.op
    intro e
    have h2 := congrArg List.length e
    simp only [List.length_append, List.length_nil] at h2
    omega
theorem Ex.txt_len {L : Nat} (hL : L ≤ 20) {ns : List Nd} (hok : ∀ n ∈ ns, n.ok L) : ∀ {t : Ex} {i : Nat}, t.At ns i → t.txt.length ≤ 2000 * t.size
  | .leaf n, i, hat => by
    have hm := hok n (List.mem_of_getElem? hat.1)
    have h1 := ptxt_len hm.a hm.b
    have h2 := ptxt_len hm.c hm.e
    have h3 := hm.nm
    simp only [Ex.txt, Ex.size]
    split
    · omega
    split
    · simp
    split
    · simp
    · unfold ptxt2
      simp only [List.length_append, List.length_cons, List.length_nil]; omega
  | .un n x, i, hat => by
    obtain ⟨_, _, j, _, hx⟩ := hat
    have h1 := Ex.txt_len hL hok hx
    have h2 := par_len (decide (rk x.top < 3)) x.txt
    simp only [Ex.txt, Ex.size, List.length_append, List.length_cons, List.length_nil]
    omega
  | .bi n l r, i, hat => by
    obtain ⟨_, _, _, j, k, _, _, hl, hr⟩ := hat
    have h1 := Ex.txt_len hL hok hl
    have h2 := Ex.txt_len hL hok hr
    have h3 := par_len (decide (rk l.top < rk n)) l.txt
    have h4 := par_len (decide (rk r.top < rk n + 1)) r.txt
    have h5 := sgn_len n.op
    simp only [Ex.txt, Ex.size, List.length_append]
    omega
/-- the answer of the program's printer -/
def pans (g : Nat) : Option (List UInt8) → SV
  | some t => Ab.tup [str t, lit .nilIface]
  | none => Ab.tup [str [], lit (sent g)]
theorem txt_len {L : Nat} (hL : L ≤ 20) {ns : List Nd} (hok : ∀ n ∈ ns, n.ok L) (hns : ns.length ≤ 30) {t : Ex} {i : Nat} (hat : t.At ns i) (hs : t.size = ns.length) : t.rtxt.length ≤ 65536 := by
  have := Ex.rtxt_len hL hok hat
  omega
theorem writeExpr_pu [Sent 0] (ns : List Nd) {L : Nat} (hok : ∀ n ∈ ns, n.ok L) (hL : L ≤ 20) (hns : ns.length ≤ 30) : Pu Tryz.prog 49 [sl (ns.map ndx).flatten ns.length] (pans 0 (otx ns)) := by
  rcases otx_spec ns with ⟨h1, h2⟩ | ⟨t, h1, h2, h3, h4⟩
  · rw [h2]
    show Pu _ _ _ (Ab.tup [str [], lit (sent 0)])
    have c := fun b => write_pu (b := b) (T := 36) (cs := [sl (ns.map ndx).flatten ns.length]) (good := false) (t := []) (fun h => by cases h) (by simp) (fun w => (wexpr1_f (b := b) hok (by omega) (by omega) (wtr_new w) h1).mono (fun _ _ h => h.elim) fun pv _ h => ⟨rfl, h⟩)
    refine Pu.intro Tryz.func49 rfl (by kernel_rfl) fun C => ?_
    repeat (refine A1 ⟨?_⟩; intros)
    refine WfT (c _) ?_
    rintro _ H' rfl
    repeat (refine A1 ⟨?_⟩; intros)
    ((first | refine endR ?_ | refine endN ?_); exact end2 (RV.tmp rfl) (RV.tmp rfl) (Le.refl _))
  · have hl := txt_len hL hok hns h2 h3
    rw [h4]
    cases hg : t.good with
    | true =>
      rw [Ex.rtxt_good hg ns _ h2] at hl
      rw [if_pos rfl]
      show Pu _ _ _ (Ab.tup [str t.txt, lit .nilIface])
      have c := fun b => write_pu (b := b) (T := 36) (cs := [sl (ns.map ndx).flatten ns.length]) (good := true) (t := t.txt) (fun _ => Ex.txt_ne h2 hg) hl
        (fun w => (wexpr1_t (b := b) hok (by omega) (by omega) (wtr_new w) h1 h2 h3 (by simp; omega)).mono (fun _ _ h => ⟨rfl, h.2.1, h.2.2⟩) fun pv _ h => by rw [hg] at h; exact absurd h.1 (by decide))
      refine Pu.intro Tryz.func49 rfl (by kernel_rfl) fun C => ?_
      repeat (refine A1 ⟨?_⟩; intros)
      refine WfT (c _) ?_
      rintro _ H' rfl
      repeat (refine A1 ⟨?_⟩; intros)
      ((first | refine endR ?_ | refine endN ?_); exact end2 (RV.tmp rfl) (RV.tmp rfl) (Le.refl _))
    | false =>
      rw [if_neg (by decide)]
      show Pu _ _ _ (Ab.tup [str [], lit (sent 0)])
      have c := fun b => write_pu (b := b) (T := 36) (cs := [sl (ns.map ndx).flatten ns.length]) (good := false) (t := []) (fun h => by cases h) (by simp)
        (fun w => (wexpr1_t (b := b) hok (by omega) (by omega) (wtr_new w) h1 h2 h3 (by simp; exact Nat.le_trans (Ex.txt_len hL hok h2) (by omega))).mono (fun _ _ h => by rw [hg] at h; exact absurd h.1 (by decide)) fun pv _ h => ⟨rfl, h.2⟩)
      refine Pu.intro Tryz.func49 rfl (by kernel_rfl) fun C => ?_
      repeat (refine A1 ⟨?_⟩; intros)
      refine WfT (c _) ?_
      rintro _ H' rfl
      repeat (refine A1 ⟨?_⟩; intros)
      ((first | refine endR ?_ | refine endN ?_); exact end2 (RV.tmp rfl) (RV.tmp rfl) (Le.refl _))
theorem pexpr_pu [Sent 0] (ns : List Nd) {L : Nat} (hok : ∀ n ∈ ns, n.ok L) (hL : L ≤ 20) (hns : ns.length ≤ 30) : Pu Tryz.prog 27 [sl (ns.map ndx).flatten ns.length] (pans 0 (otx ns)) := by
  have c := writeExpr_pu ns hok hL hns
  cases h : otx ns with
  | some t =>
    rw [h] at c
    unfold pans at c ⊢
    refine Pu.intro Tryz.func27 rfl (by kernel_rfl) fun C => ?_
    repeat (first | (refine A1 ⟨?_⟩; intros) | (refine Wcx (c) ?_) | (refine Wdcx (c) ?_) | (refine Wcgx (c) ?_) | (refine Wdcgx (c) ?_))
    ((first | refine endR ?_ | refine endN ?_); exact end2 (RV.tmp rfl) (RV.tmp rfl) (Le.refl _))
  | none =>
    rw [h] at c
    unfold pans at c ⊢
    refine Pu.intro Tryz.func27 rfl (by kernel_rfl) fun C => ?_
    repeat (first | (refine A1 ⟨?_⟩; intros) | (refine Wcx (c) ?_) | (refine Wdcx (c) ?_) | (refine Wcgx (c) ?_) | (refine Wdcgx (c) ?_))
    ((first | refine endR ?_ | refine endN ?_); exact end2 (RV.tmp rfl) (RV.tmp rfl) (Le.refl _))
end Go.Ab
/- Package math/bits: the sum of two words. -/
namespace Go.Ab
open Go.Proofs
set_option linter.unusedSectionVars false
set_option linter.unusedVariables false
set_option linter.unusedSimpArgs false
variable [Base]
section
variable {F : Fr} {H : LH} {ty : TypeId}
theorem ov_add64 {x y z : Operand} {X Y : Nat} {tys : Array TypeId} (hx : ev F x = lit (.int .u64 X)) (hy : ev F y = lit (.int .u64 Y)) (hz : ev F z = lit (.int .u64 0)) :
    OpV Tryz.prog (.call ⟨.value (.func 39), [x, y, z].toArray, tys⟩) ty F H (tup [lit (.int .u64 ((X + Y) % 18446744073709551616 : Nat)), lit (.int .u64 ((X + Y) / 18446744073709551616 : Nat))]) :=
  OpV.pure fun m w o a ho _ _ _ h => by
    have h0 := h x (by simp [Op.operands, Call.operands]); rw [hx, lit_p] at h0
    have h1 := h y (by simp [Op.operands, Call.operands]); rw [hy, lit_p] at h1
    have h2 := h z (by simp [Op.operands, Call.operands]); rw [hz, lit_p] at h2
    have h8 := @run_callFunc_extern Tryz.prog 39 _ add64Entry Tryz.func39 (by kernel_rfl) (by kernel_rfl) (by kernel_rfl) (by kernel_rfl)
    refine ⟨.tuple #[.int .u64 ((X + Y) % 18446744073709551616 : Nat), .int .u64 ((X + Y) / 18446744073709551616 : Nat)], ?_, ?_⟩
    · have := h8 #[a.eval x, a.eval y, a.eval z] w
      rw [h0, h1, h2, run_add64 _ _ _ (by omega) (by omega) (by omega) (by omega)] at this
      have q1 : ((X : Int) + Y + 0) % 18446744073709551616 = ((X + Y) % 18446744073709551616 : Nat) := by omega
      have q2 : ((X : Int) + Y + 0) / 18446744073709551616 = ((X + Y) / 18446744073709551616 : Nat) := by omega
      rw [q1, q2] at this
      simp only [execOp, ho, resolve, Sem.run_bind, Sem.run_pure, Result.andThen_ok]
      have e1 : a.eval (.func 39) = .func (.func 39) #[] #[] := rfl
      simp only [e1, Deferred.ofValue, Sem.run_pure, Result.andThen_ok, invoke, List.map_toArray, List.map_cons, List.map_nil, Array.empty_append, Array.append_empty, h0, h1, h2, this]
    · unfold tup
      exact ⟨_, rfl, lit_p.2 rfl, lit_p.2 rfl, trivial⟩
end
end Go.Ab
/- Bounds of the parts of an expression, as plain functions. -/
namespace Go.Ab
open Go.Proofs
set_option linter.unusedSectionVars false
set_option linter.unusedVariables false
set_option linter.unusedSimpArgs false
variable [Base]
abbrev maxI : Nat := 9223372036854775807
/-- the bound of an operator -/
def bnd (m n : Nat) : Nat := min (m + (m + 1) * n) maxI
def tri (n : Nat) : Nat := min (n * (n + 1) / 2) maxI
theorem bnd_le (m n : Nat) : bnd m n ≤ maxI := Nat.min_le_right _ _
theorem bnd_mono {m n m' n' : Nat} (h : m ≤ m') (k : n ≤ n') : bnd m n ≤ bnd m' n' := by
  unfold bnd
  have : (m + 1) * n ≤ (m' + 1) * n' := Nat.mul_le_mul (by omega) k
  omega
/-- the value of a part, and what is left of the stack below it -/
def bstep (env : List UInt8 → Option Nat) (n : Nd) (st : List Nat) : Option (Nat × List Nat) :=
  if n.k = 1 then (match env n.nm with
    | some v => some (v, st)
    | none => none)
  else if n.k = 4 then some (1, st)
  else if n.k = 5 then (match st with
    | a :: r => some (a, r)
    | [] => none)
  else if n.k = 6 then (match st with
    | b :: a :: r => some (bnd a b, r)
    | _ => none)
  else some (0, st)
/-- the values of all parts, behind those that stand already -/
def brun (env : List UInt8 → Option Nat) : List Nd → List Nat → List Nat → Option (List Nat)
  | [], _, out => some out
  | n :: ns, st, out => match bstep env n st with
    | some (v, r) => brun env ns (v :: r) (out ++ [v])
    | none => none
theorem brun_cons (env : List UInt8 → Option Nat) (n : Nd) (ns : List Nd) (st out : List Nat) : brun env (n :: ns) st out = match bstep env n st with
    | some (v, r) => brun env ns (v :: r) (out ++ [v])
    | none => none := rfl
/-- the values on the stack are those of the trees there -/
inductive BS (out : List Nat) : List (Ex × Nat) → List Nat → Prop
  | nil : BS out [] []
  | cons {x : Ex} {j v : Nat} {st : List (Ex × Nat)} {vs : List Nat} (h : out[j]? = some v) (k : BS out st vs) : BS out ((x, j) :: st) (v :: vs)
theorem BS.more {out : List Nat} {st : List (Ex × Nat)} {vs : List Nat} (h : BS out st vs) (v : Nat) : BS (out ++ [v]) st vs := by
  induction h with
  | nil => exact .nil
  | cons h _ ih => exact .cons (by rw [List.getElem?_append_left (List.getElem?_eq_some_iff.1 h).1]; exact h) ih
theorem BS.len {out : List Nat} {st : List (Ex × Nat)} {vs : List Nat} (h : BS out st vs) : vs.length = st.length := by
  induction h with
  | nil => rfl
  | cons _ _ ih => simp [ih]
/-- where the list is an expression, only an unknown name stops -/
theorem bstep_stk {env : List UInt8 → Option Nat} {n : Nd} {st st' : List (Ex × Nat)} {vs out : List Nat} {i : Nat} (h : stp i n st = some st') (hb : BS out st vs) (hi : out.length = i) :
    match bstep env n vs with
    | some (v, r) => BS (out ++ [v]) st' (v :: r)
    | none => n.k = 1 ∧ env n.nm = none := by
  have hlast : ∀ v, (out ++ [v])[i]? = some v := fun v => by rw [← hi]; simp
  unfold stp at h
  by_cases e : okN n = true
  case neg => rw [if_neg e] at h; cases h
  rw [if_pos e] at h
  obtain ⟨hk, _⟩ := okN_k e
  unfold bstep
  by_cases k5 : n.k = 5
  · rw [if_neg (by omega), if_neg (by omega), if_pos k5]
    rw [if_pos k5] at h
    cases hb with
    | nil => cases h
    | cons h1 h2 =>
      simp only at h ⊢
      split at h
      · obtain rfl := Option.some.inj h
        exact .cons (hlast _) (h2.more _)
      · cases h
  rw [if_neg k5] at h
  by_cases k6 : n.k = 6
  · rw [if_neg (by omega), if_neg (by omega), if_neg k5, if_pos k6]
    rw [if_pos k6] at h
    cases hb with
    | nil => cases h
    | cons h1 h2 =>
      cases h2 with
      | nil => cases h
      | cons h3 h4 =>
        simp only at h ⊢
        split at h
        · obtain rfl := Option.some.inj h
          exact .cons (hlast _) (h4.more _)
        · cases h
  rw [if_neg k6] at h
  obtain rfl := Option.some.inj h
  by_cases k1 : n.k = 1
  · rw [if_pos k1]
    cases he : env n.nm with
    | none => exact ⟨k1, rfl⟩
    | some v => exact .cons (hlast _) (hb.more _)
  rw [if_neg k1]
  by_cases k4 : n.k = 4
  · rw [if_pos k4]; exact .cons (hlast _) (hb.more _)
  · rw [if_neg k4, if_neg k5, if_neg k6]; exact .cons (hlast _) (hb.more _)
theorem brun_len {env : List UInt8 → Option Nat} : ∀ {ns : List Nd} {st out o : List Nat}, brun env ns st out = some o → o.length = out.length + ns.length
  | [], st, out, o, h => by obtain rfl := Option.some.inj h; simp
  | n :: ns, st, out, o, h => by
    rw [brun_cons] at h
    cases hb : bstep env n st with
    | none => rw [hb] at h; cases h
    | some q =>
      rw [hb] at h
      have := brun_len h
      simp only [List.length_append, List.length_singleton, List.length_cons, List.length_nil] at this ⊢
      omega
theorem bstep_le {env : List UInt8 → Option Nat} (hE : ∀ s v, env s = some v → v ≤ maxI) {n : Nd} {st r : List Nat} {v : Nat} (hs : ∀ x ∈ st, x ≤ maxI) (h : bstep env n st = some (v, r)) : v ≤ maxI ∧ ∀ x ∈ r, x ≤ maxI := by
  unfold bstep at h
  by_cases k1 : n.k = 1
  · rw [if_pos k1] at h
    cases he : env n.nm with
    | none => rw [he] at h; cases h
    | some u => rw [he] at h; simp only [Option.some.injEq, Prod.mk.injEq] at h; obtain ⟨rfl, rfl⟩ := h; exact ⟨hE _ _ he, hs⟩
  rw [if_neg k1] at h
  by_cases k4 : n.k = 4
  · rw [if_pos k4] at h; simp only [Option.some.injEq, Prod.mk.injEq] at h; obtain ⟨rfl, rfl⟩ := h; exact ⟨by decide, hs⟩
  rw [if_neg k4] at h
  by_cases k5 : n.k = 5
  · rw [if_pos k5] at h
    match st, h with
    | a :: r', h => simp only [Option.some.injEq, Prod.mk.injEq] at h; obtain ⟨rfl, rfl⟩ := h; exact ⟨hs a (by simp), fun x hx => hs x (by simp [hx])⟩
  rw [if_neg k5] at h
  by_cases k6 : n.k = 6
  · rw [if_pos k6] at h
    match st, h with
    | b :: a :: r', h => simp only [Option.some.injEq, Prod.mk.injEq] at h; obtain ⟨rfl, rfl⟩ := h; exact ⟨bnd_le _ _, fun x hx => hs x (by simp [hx])⟩
  rw [if_neg k6] at h
  simp only [Option.some.injEq, Prod.mk.injEq] at h; obtain ⟨rfl, rfl⟩ := h; exact ⟨Nat.zero_le _, hs⟩
/-- greater sizes, greater bounds -/
def LeS : List Nat → List Nat → Prop
  | [], [] => True
  | a :: l, b :: m => a ≤ b ∧ LeS l m
  | _, _ => False
theorem LeS.snoc : ∀ {l m : List Nat} {a b : Nat}, LeS l m → a ≤ b → LeS (l ++ [a]) (m ++ [b])
  | [], [], _, _, _, h => ⟨h, trivial⟩
  | _ :: _, _ :: _, _, _, h, k => ⟨h.1, h.2.snoc k⟩
  | [], _ :: _, _, _, h, _ => h.elim
  | _ :: _, [], _, _, h, _ => h.elim
theorem bstep_mono {env env' : List UInt8 → Option Nat} (hE : ∀ s v, env s = some v → ∃ v', env' s = some v' ∧ v ≤ v') {n : Nd} {st st' r : List Nat} {v : Nat} (hs : LeS st st') (h : bstep env n st = some (v, r)) : ∃ v' r', bstep env' n st' = some (v', r') ∧ v ≤ v' ∧ LeS r r' := by
  unfold bstep at h ⊢
  by_cases k1 : n.k = 1
  · rw [if_pos k1] at h ⊢
    cases he : env n.nm with
    | none => rw [he] at h; cases h
    | some u =>
      rw [he] at h
      simp only [Option.some.injEq, Prod.mk.injEq] at h
      obtain ⟨rfl, rfl⟩ := h
      obtain ⟨v', h1, h2⟩ := hE _ _ he
      rw [h1]
      exact ⟨_, _, rfl, h2, hs⟩
  rw [if_neg k1] at h ⊢
  by_cases k4 : n.k = 4
  · rw [if_pos k4] at h ⊢; simp only [Option.some.injEq, Prod.mk.injEq] at h; obtain ⟨rfl, rfl⟩ := h; exact ⟨_, _, rfl, Nat.le_refl _, hs⟩
  rw [if_neg k4] at h ⊢
  by_cases k5 : n.k = 5
  · rw [if_pos k5] at h ⊢
    match st, st', h, hs with
    | a :: r0, b :: r1, h, hs => simp only [Option.some.injEq, Prod.mk.injEq] at h; obtain ⟨rfl, rfl⟩ := h; exact ⟨_, _, rfl, hs.1, hs.2⟩
    | _ :: _, [], _, hs => exact hs.elim
  rw [if_neg k5] at h ⊢
  by_cases k6 : n.k = 6
  · rw [if_pos k6] at h ⊢
    match st, st', h, hs with
    | b :: a :: r0, b' :: a' :: r1, h, hs => simp only [Option.some.injEq, Prod.mk.injEq] at h; obtain ⟨rfl, rfl⟩ := h; exact ⟨_, _, rfl, bnd_mono hs.2.1 hs.1, hs.2.2⟩
    | _ :: _, [], _, hs => exact hs.elim
    | _ :: _ :: _, [_], _, hs => exact hs.2.elim
  rw [if_neg k6] at h ⊢
  simp only [Option.some.injEq, Prod.mk.injEq] at h; obtain ⟨rfl, rfl⟩ := h; exact ⟨_, _, rfl, Nat.le_refl _, hs⟩
theorem brun_mono {env env' : List UInt8 → Option Nat} (hE : ∀ s v, env s = some v → ∃ v', env' s = some v' ∧ v ≤ v') : ∀ {ns : List Nd} {st st' out out' o : List Nat}, LeS st st' → LeS out out' → brun env ns st out = some o → ∃ o', brun env' ns st' out' = some o' ∧ LeS o o'
  | [], st, st', out, out', o, _, h2, h => by obtain rfl := Option.some.inj h; exact ⟨_, rfl, h2⟩
  | n :: ns, st, st', out, out', o, h1, h2, h => by
    rw [brun_cons] at h
    cases hb : bstep env n st with
    | none => rw [hb] at h; cases h
    | some q =>
      obtain ⟨v, r⟩ := q
      rw [hb] at h
      obtain ⟨v', r', g1, g2, g3⟩ := bstep_mono hE h1 hb
      rw [brun_cons, g1]
      exact brun_mono (st := _ :: _) (st' := _ :: _) hE ⟨g2, g3⟩ (h2.snoc g2) h
theorem LeS.getD : ∀ {l m : List Nat} (k : Nat), LeS l m → l.getD k 0 ≤ m.getD k 0
  | [], [], _, _ => Nat.le_refl _
  | _ :: _, _ :: _, 0, h => h.1
  | _ :: _, _ :: _, k + 1, h => LeS.getD k h.2
  | [], _ :: _, _, h => h.elim
  | _ :: _, [], _, h => h.elim
def lmax (l : List Nat) : Nat := l.foldl max 0
theorem foldl_max_ge : ∀ (l : List Nat) (a : Nat), a ≤ l.foldl max a ∧ ∀ x ∈ l, x ≤ l.foldl max a
  | [], a => ⟨Nat.le_refl _, fun _ h => by cases h⟩
  | b :: l, a => by
    obtain ⟨h1, h2⟩ := foldl_max_ge l (max a b)
    refine ⟨Nat.le_trans (Nat.le_max_left _ _) h1, fun x hx => ?_⟩
    rcases List.mem_cons.1 hx with rfl | hx
    · exact Nat.le_trans (Nat.le_max_right _ _) h1
    · exact h2 x hx
theorem lmax_ge {l : List Nat} {x : Nat} (h : x ∈ l) : x ≤ lmax l := (foldl_max_ge l 0).2 x h
theorem lmax_snoc (l : List Nat) (x : Nat) : lmax (l ++ [x]) = max (lmax l) x := by unfold lmax; rw [List.foldl_append]; rfl
theorem foldl_max_le : ∀ (l : List Nat) (a b : Nat), a ≤ b → (∀ x ∈ l, x ≤ b) → l.foldl max a ≤ b
  | [], a, b, h, _ => h
  | c :: l, a, b, h, k => foldl_max_le l (max a c) b (Nat.max_le.2 ⟨h, k c (by simp)⟩) fun x hx => k x (by simp [hx])
theorem lmax_le {l : List Nat} {b : Nat} (h : ∀ x ∈ l, x ≤ b) : lmax l ≤ b := foldl_max_le l 0 b (Nat.zero_le _) h
end Go.Ab
/- Bounds of numbers: the plain arithmetic of merges and triangles. -/
namespace Go.Ab
open Go.Proofs
set_option linter.unusedSectionVars false
set_option linter.unusedVariables false
set_option linter.unusedSimpArgs false
variable [Base]
theorem bnd_zero (m : Nat) (h : m ≤ maxI) : bnd m 0 = m := by unfold bnd; omega
theorem bnd_big {m n : Nat} (h : maxI < m + (m + 1) * n) : bnd m n = maxI := by unfold bnd; omega
theorem bnd_fit {m n : Nat} (h : m + (m + 1) * n ≤ maxI) : bnd m n = m + (m + 1) * n := by unfold bnd; omega
theorem bnd_topN {n : Nat} (h : n ≠ 0) : bnd 9223372036854775807 n = 9223372036854775807 := by
  refine bnd_big ?_
  have := Nat.mul_le_mul_left (9223372036854775807 + 1) (Nat.pos_of_ne_zero h)
  unfold maxI
  omega
/-- the reference's test passes: the product fits -/
theorem bnd_small {m n : Nat} (hm : m ≤ 9223372036854775807) (h0 : n ≠ 0) (h : ¬(9223372036854775807 - m) / n < m + 1) : (m + 1) * n ≤ 9223372036854775807 - m ∧ bnd m n = m + (m + 1) * n := by
  have h1 : ¬(maxI - m) < (m + 1) * n := fun hh => h ((Nat.div_lt_iff_lt_mul (Nat.pos_of_ne_zero h0)).2 hh)
  unfold maxI at h1
  exact ⟨by omega, bnd_fit (by unfold maxI; omega)⟩
theorem bnd_over {m n : Nat} (hm : m ≤ 9223372036854775807) (h0 : n ≠ 0) (h : (9223372036854775807 - m) / n < m + 1) : bnd m n = 9223372036854775807 := by
  have h1 : (maxI - m) < (m + 1) * n := (Nat.div_lt_iff_lt_mul (Nat.pos_of_ne_zero h0)).1 h
  refine bnd_big ?_
  unfold maxI at *
  omega
end Go.Ab
/- Bounds of numbers, walked: merge.Bound and the reference's Bound, Build and Triangle, Complement, Half. -/
namespace Go.Ab
open Go.Proofs
set_option linter.unusedSectionVars false
set_option linter.unusedVariables false
set_option linter.unusedSimpArgs false
variable [Base]
theorem or63 (x y : Nat) (hx : x ≤ 1) (hy : y < 9223372036854775808) : IntKind.u64.wrap ((BitVec.ofInt (IntKind.bits .u64) (y : Int) ||| BitVec.ofInt (IntKind.bits .u64) ((x * 9223372036854775808 : Nat) : Int)).toNat : Int) = ((x * 9223372036854775808 + y : Nat) : Int) := by
  rw [BitVec.or_comm, BitVec.toNat_or]
  simp only [IntKind.bits]
  rw [ofInt_nat 64 _ (by omega), ofInt_nat 64 _ (by omega), show x * 9223372036854775808 = 2 ^ 63 * x by omega, ← Nat.two_pow_add_eq_or_of_lt hy]
  exact wrapn .u64 rfl _ (by simp only [IntKind.bits]; omega)
theorem if_max (a b : Int) : (if a < b then b else a) = max a b := by split <;> omega
theorem mbound_pu (m n : Int) (hm : i64R m) (hn : i64R n) : Pu Tryz.prog 18 [lit (.int .i64 m), lit (.int .i64 n)] (lit (.int .i64 (bnd m.toNat n.toNat))) := by
  obtain ⟨m1, m2⟩ := hm
  obtain ⟨n1, n2⟩ := hn
  obtain ⟨a, ha⟩ : ∃ a : Nat, a = m.toNat := ⟨_, rfl⟩
  obtain ⟨b, hb⟩ : ∃ b : Nat, b = n.toNat := ⟨_, rfl⟩
  have e1 : Hid ((if m < 0 then 0 else m) = (a : Int)) := by unfold Hid; rw [if_max]; omega
  have e2 : Hid ((if n < 0 then 0 else n) = (b : Int)) := by unfold Hid; rw [if_max]; omega
  have a2 : a ≤ 9223372036854775807 := by omega
  have b2 : b ≤ 9223372036854775807 := by omega
  have c := mul64_pu (a + 1) b (by omega) (by omega)
  obtain ⟨q, hq⟩ : ∃ q : Nat, q = (a + 1) * b := ⟨_, rfl⟩
  rw [← hq] at c
  rw [← ha, ← hb]
  clear ha hb m1 m2 n1 n2
  have hbnd : bnd a b = min (a + q) 9223372036854775807 := by unfold bnd; rw [hq]
  clear hq
  by_cases h0 : q < 18446744073709551616
  · rw [Nat.mod_eq_of_lt h0, Nat.div_eq_of_lt h0] at c
    by_cases h1 : q + a < 18446744073709551616
    · by_cases h2 : q + a ≤ 9223372036854775807
      · refine Pu.intro Tryz.func18 rfl (by kernel_rfl) fun C => ?_
        repeat (refine A1 ⟨?_⟩; intros)
        refine Wo (ov_max rfl rfl (r := (a : Int)) e1) ?_
        repeat (refine A1 ⟨?_⟩; intros)
        refine Wo (ov_max rfl rfl (r := (b : Int)) e2) ?_
        repeat (refine A1 ⟨?_⟩; intros)
        refine Wcx c ?_
        repeat (refine A1 ⟨?_⟩; intros)
        refine Wo (ov_add64 rfl rfl rfl) ?_
        rw [Nat.mod_eq_of_lt h1, Nat.div_eq_of_lt h1]
        repeat (refine A1 ⟨?_⟩; intros)
        ((first | refine endR ?_ | refine endN ?_); refine end1 (RV.tmp rfl) (Le.int ?_))
        omega
      · refine Pu.intro Tryz.func18 rfl (by kernel_rfl) fun C => ?_
        repeat (refine A1 ⟨?_⟩; intros)
        refine Wo (ov_max rfl rfl (r := (a : Int)) e1) ?_
        repeat (refine A1 ⟨?_⟩; intros)
        refine Wo (ov_max rfl rfl (r := (b : Int)) e2) ?_
        repeat (refine A1 ⟨?_⟩; intros)
        refine Wcx c ?_
        repeat (refine A1 ⟨?_⟩; intros)
        refine Wo (ov_add64 rfl rfl rfl) ?_
        rw [Nat.mod_eq_of_lt h1, Nat.div_eq_of_lt h1]
        repeat (refine A1 ⟨?_⟩; intros)
        ((first | refine endR ?_ | refine endN ?_); refine end1 (RV.tmp rfl) (Le.int ?_))
        omega
    · refine Pu.intro Tryz.func18 rfl (by kernel_rfl) fun C => ?_
      repeat (refine A1 ⟨?_⟩; intros)
      refine Wo (ov_max rfl rfl (r := (a : Int)) e1) ?_
      repeat (refine A1 ⟨?_⟩; intros)
      refine Wo (ov_max rfl rfl (r := (b : Int)) e2) ?_
      repeat (refine A1 ⟨?_⟩; intros)
      refine Wcx c ?_
      repeat (refine A1 ⟨?_⟩; intros)
      refine Wo (ov_add64 rfl rfl rfl) ?_
      repeat (refine A1 ⟨?_⟩; intros)
      ((first | refine endR ?_ | refine endN ?_); refine end1 (RV.tmp rfl) (Le.int ?_))
      omega
  · refine Pu.intro Tryz.func18 rfl (by kernel_rfl) fun C => ?_
    repeat (refine A1 ⟨?_⟩; intros)
    refine Wo (ov_max rfl rfl (r := (a : Int)) e1) ?_
    repeat (refine A1 ⟨?_⟩; intros)
    refine Wo (ov_max rfl rfl (r := (b : Int)) e2) ?_
    repeat (refine A1 ⟨?_⟩; intros)
    refine Wcx c ?_
    repeat (refine A1 ⟨?_⟩; intros)
    refine Wo (ov_add64 rfl rfl rfl) ?_
    repeat (refine A1 ⟨?_⟩; intros)
    ((first | refine endR ?_ | refine endN ?_); refine end1 (RV.tmp rfl) (Le.int ?_))
    omega
theorem rbound_pu (m n : Int) (hm : i64R m) (hn : i64R n) : Pu Tryz.prog 47 [lit (.int .i64 m), lit (.int .i64 n)] (lit (.int .i64 (bnd m.toNat n.toNat))) := by
  obtain ⟨m1, m2⟩ := hm
  obtain ⟨n1, n2⟩ := hn
  obtain ⟨a, ha⟩ : ∃ a : Nat, a = m.toNat := ⟨_, rfl⟩
  obtain ⟨b, hb⟩ : ∃ b : Nat, b = n.toNat := ⟨_, rfl⟩
  have e1 : Hid ((if m < 0 then 0 else m) = (a : Int)) := by unfold Hid; rw [if_max]; omega
  have e2 : Hid ((if n < 0 then 0 else n) = (b : Int)) := by unfold Hid; rw [if_max]; omega
  have a2 : a ≤ 9223372036854775807 := by omega
  have b2 : b ≤ 9223372036854775807 := by omega
  have hm : a ≤ 9223372036854775807 := a2
  rw [← ha, ← hb]
  clear ha hb m1 m2 n1 n2
  by_cases h0 : b = 0
  · subst h0
    rw [bnd_zero a hm]
    refine Pu.intro Tryz.func47 rfl (by kernel_rfl) fun C => ?_
    repeat (refine A1 ⟨?_⟩; intros)
    refine Wo (ov_max rfl rfl (r := (a : Int)) e1) ?_
    repeat (refine A1 ⟨?_⟩; intros)
    refine Wo (ov_max rfl rfl (r := ((0 : Nat) : Int)) e2) ?_
    repeat (refine A1 ⟨?_⟩; intros)
    ((first | refine endR ?_ | refine endN ?_); refine end1 (RV.tmp rfl) (Le.int ?_))
    omega
  by_cases h1 : a = 9223372036854775807
  · subst h1
    rw [bnd_topN h0]
    refine Pu.intro Tryz.func47 rfl (by kernel_rfl) fun C => ?_
    repeat (refine A1 ⟨?_⟩; intros)
    refine Wo (ov_max rfl rfl (r := ((9223372036854775807 : Nat) : Int)) e1) ?_
    repeat (refine A1 ⟨?_⟩; intros)
    refine Wo (ov_max rfl rfl (r := (b : Int)) e2) ?_
    repeat (refine A1 ⟨?_⟩; intros)
    ((first | refine endR ?_ | refine endN ?_); refine end1 (RV.tmp rfl) (Le.int ?_))
    omega
  have hdiv : ((9223372036854775807 : Int) - a) / b = ((9223372036854775807 - a) / b : Nat) := by
    rw [show (9223372036854775807 : Int) - a = ((9223372036854775807 - a : Nat) : Int) by omega]; rfl
  have hle : (9223372036854775807 - a) / b ≤ 9223372036854775807 := Nat.le_trans (Nat.div_le_self _ _) (by omega)
  by_cases h2 : (9223372036854775807 - a) / b < a + 1
  · rw [bnd_over hm h0 h2]
    generalize (9223372036854775807 - a) / b = q at *
    refine Pu.intro Tryz.func47 rfl (by kernel_rfl) fun C => ?_
    repeat (refine A1 ⟨?_⟩; intros)
    refine Wo (ov_max rfl rfl (r := (a : Int)) e1) ?_
    repeat (refine A1 ⟨?_⟩; intros)
    refine Wo (ov_max rfl rfl (r := (b : Int)) e2) ?_
    repeat (refine A1 ⟨?_⟩; intros)
    rw [hdiv]
    repeat (refine A1 ⟨?_⟩; intros)
    ((first | refine endR ?_ | refine endN ?_); refine end1 (RV.tmp rfl) (Le.int ?_))
    omega
  · obtain ⟨h3, h4⟩ := bnd_small hm h0 h2
    rw [h4]
    generalize (9223372036854775807 - a) / b = q at *
    have hp : ((a : Int) + 1) * b = ((a + 1) * b : Nat) := (Int.natCast_mul (a + 1) b).symm
    generalize (a + 1) * b = p at *
    refine Pu.intro Tryz.func47 rfl (by kernel_rfl) fun C => ?_
    repeat (refine A1 ⟨?_⟩; intros)
    refine Wo (ov_max rfl rfl (r := (a : Int)) e1) ?_
    repeat (refine A1 ⟨?_⟩; intros)
    refine Wo (ov_max rfl rfl (r := (b : Int)) e2) ?_
    repeat (refine A1 ⟨?_⟩; intros)
    rw [hdiv]
    repeat (refine A1 ⟨?_⟩; intros)
    ((first | refine endR ?_ | refine endN ?_); refine end1 (RV.tmp rfl) (Le.int ?_))
    rw [hp]
    rfl
theorem build_pu (n : Int) (hn : i64R n) : Pu Tryz.prog 13 [lit (.int .i64 n)] (lit (.int .i64 (tri n.toNat))) := by
  obtain ⟨n1, n2⟩ := hn
  obtain ⟨b, hb⟩ : ∃ b : Nat, b = n.toNat := ⟨_, rfl⟩
  have e2 : Hid ((if n < 0 then 0 else n) = (b : Int)) := by unfold Hid; rw [if_max]; omega
  have b2 : b ≤ 9223372036854775807 := by omega
  rw [← hb]
  clear hb n1 n2
  have c := mul64_pu b (b + 1) (by omega) (by omega)
  have hq : tri b = min (b * (b + 1) / 2) 9223372036854775807 := rfl
  have hq1 : b * (b + 1) ≤ 9223372036854775807 * 9223372036854775808 := Nat.mul_le_mul b2 (by omega)
  generalize b * (b + 1) = q at *
  by_cases h2 : 36893488147419103232 ≤ q
  · refine Pu.intro Tryz.func13 rfl (by kernel_rfl) fun C => ?_
    repeat (refine A1 ⟨?_⟩; intros)
    refine Wo (ov_max rfl rfl (r := (b : Int)) e2) ?_
    repeat (refine A1 ⟨?_⟩; intros)
    refine Wcx c ?_
    repeat (refine A1 ⟨?_⟩; intros)
    ((first | refine endR ?_ | refine endN ?_); refine end1 (RV.tmp rfl) (Le.int ?_))
    omega
  · refine Pu.intro Tryz.func13 rfl (by kernel_rfl) fun C => ?_
    repeat (refine A1 ⟨?_⟩; intros)
    refine Wo (ov_max rfl rfl (r := (b : Int)) e2) ?_
    repeat (refine A1 ⟨?_⟩; intros)
    refine Wcx c ?_
    repeat (refine A1 ⟨?_⟩; intros)
    rw [show (((q % 18446744073709551616 : Nat) : Int)).fdiv (2 ^ min (Int.toNat 1) IntKind.u64.bits) = ((q % 18446744073709551616 / 2 : Nat) : Int) from by rw [Int.fdiv_eq_ediv_of_nonneg _ (by decide)]; rfl,
      show IntKind.u64.wrap (((q / 18446744073709551616 : Nat) : Int) * 2 ^ min (Int.toNat 63) IntKind.u64.bits) = ((q / 18446744073709551616 * 9223372036854775808 : Nat) : Int) from by
        rw [show (((q / 18446744073709551616 : Nat) : Int) * 2 ^ min (Int.toNat 63) IntKind.u64.bits) = ((q / 18446744073709551616 * 9223372036854775808 : Nat) : Int) from rfl]
        exact wu64 (by omega) (by omega)]
    refine Wo (ov_or rfl rfl (or63 (q / 18446744073709551616) (q % 18446744073709551616 / 2) (by omega) (by omega))) ?_
    rw [show q / 18446744073709551616 * 9223372036854775808 + q % 18446744073709551616 / 2 = q / 2 by omega]
    by_cases h3 : q / 2 ≤ 9223372036854775807
    · repeat (refine A1 ⟨?_⟩; intros)
      ((first | refine endR ?_ | refine endN ?_); refine end1 (RV.tmp rfl) (Le.int ?_))
      omega
    · repeat (refine A1 ⟨?_⟩; intros)
      ((first | refine endR ?_ | refine endN ?_); refine end1 (RV.tmp rfl) (Le.int ?_))
      omega
theorem comp_pu (n : Nat) (hn : n ≤ 9223372036854775807) : Pu Tryz.prog 15 [lit (.int .i64 n)] (lit (.int .i64 n)) := by
  refine Pu.intro Tryz.func15 rfl (by kernel_rfl) fun C => ?_
  repeat (refine A1 ⟨?_⟩; intros)
  ((first | refine endR ?_ | refine endN ?_); exact end1 (RV.tmp rfl) (Le.refl _))
theorem half_pu : Pu Tryz.prog 16 [] (lit (.int .i64 1)) := by
  refine Pu.intro Tryz.func16 rfl (by kernel_rfl) fun C => ?_
  repeat (refine A1 ⟨?_⟩; intros)
  ((first | refine endR ?_ | refine endN ?_); exact end1 (RV.tmp rfl) (Le.refl _))
end Go.Ab
