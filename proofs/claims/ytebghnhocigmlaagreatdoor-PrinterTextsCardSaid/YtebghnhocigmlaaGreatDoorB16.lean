/- Texts laid one behind the other: RPart, StkP, ParseB, ParseW, ParseX, ParseY, ParseZ, GLexS, PNumS, RowC. -/
import Derived.Test.YtebghnhocigmlaaGreatDoorB15
import Derived.Test.YtebghnhocigmlaaGreatDoorB14
import Derived.Test.YtebghnhocigmlaaGreatDoorB13
import Derived.Test.YtebghnhocigmlaaGreatDoorB06
/- The reference's printer: parts. -/
namespace Go.Ab
open Go.Proofs
set_option linter.unusedSectionVars false
set_option linter.unusedVariables false
set_option linter.unusedSimpArgs false
variable [Base]
/-- the text of a tree, as the reference writes it -/
def Ex.rtxt : Ex → List UInt8
  | .leaf n => if n.k = 1 then n.nm else if n.k = 2 then [97, 108, 108] else if n.k = 3 then [110, 111, 110, 101] else [104, 97, 108, 102, 32] ++ rpT n.a n.b ++ [32] ++ rpT n.c n.e
  | .un _ x => [126] ++ par (decide (rk x.top < 3)) x.rtxt
  | .bi n l r => par (decide (rk l.top < rk n)) l.rtxt ++ sgn n.op ++ par (decide (rk r.top < rk n + 1)) r.rtxt
theorem Ex.rtxt_good : ∀ {t : Ex}, t.good = true → (∀ (ns : List Nd) (i : Nat), t.At ns i → t.rtxt = t.txt)
  | .leaf n, h, ns, i, hat => by
    obtain ⟨_, h1, h4⟩ := hat
    unfold Ex.rtxt Ex.txt
    unfold Ex.good at h
    by_cases k1 : n.k = 1
    · rw [if_pos k1, if_pos k1]
    rw [if_neg k1] at h ⊢
    rw [if_neg k1]
    by_cases k2 : n.k = 2
    · rw [if_pos k2, if_pos k2]
    rw [if_neg k2, if_neg k2]
    by_cases k3 : n.k = 3
    · rw [if_pos k3, if_pos k3]
    rw [if_neg k3, if_neg k3]
    rw [if_pos (by omega : n.k = 4)] at h
    rw [Bool.and_eq_true] at h
    rw [rpT_good h.1, rpT_good h.2]
    unfold ptxt2
    simp only [List.append_assoc, List.cons_append, List.nil_append]
  | .un n x, h, ns, i, hat => by
    obtain ⟨_, _, j, _, hx⟩ := hat
    unfold Ex.rtxt Ex.txt
    rw [Ex.rtxt_good (t := x) h ns j hx]
  | .bi n l r, h, ns, i, hat => by
    obtain ⟨_, _, _, j, k, _, _, hl, hr⟩ := hat
    have h' : (l.good && r.good) = true := h
    rw [Bool.and_eq_true] at h'
    unfold Ex.rtxt Ex.txt
    rw [Ex.rtxt_good h'.1 ns j hl, Ex.rtxt_good h'.2 ns k hr]
theorem Ex.rtxt_len {L : Nat} (hL : L ≤ 20) {ns : List Nd} (hok : ∀ n ∈ ns, n.ok L) : ∀ {t : Ex} {i : Nat}, t.At ns i → t.rtxt.length ≤ 2000 * t.size
  | .leaf n, i, hat => by
    have hm := hok n (List.mem_of_getElem? hat.1)
    have h1 := rpT_len hm.a hm.b
    have h2 := rpT_len hm.c hm.e
    have h3 := hm.nm
    simp only [Ex.rtxt, Ex.size]
    split
    · omega
    split
    · simp
    split
    · simp
    · simp only [List.length_append, List.length_cons, List.length_nil]; omega
  | .un n x, i, hat => by
    obtain ⟨_, _, j, _, hx⟩ := hat
    have h1 := Ex.rtxt_len hL hok hx
    have h2 := par_len (decide (rk x.top < 3)) x.rtxt
    simp only [Ex.rtxt, Ex.size, List.length_append, List.length_cons, List.length_nil]
    omega
  | .bi n l r, i, hat => by
    obtain ⟨_, _, _, j, k, _, _, hl, hr⟩ := hat
    have h1 := Ex.rtxt_len hL hok hl
    have h2 := Ex.rtxt_len hL hok hr
    have h3 := par_len (decide (rk l.top < rk n)) l.rtxt
    have h4 := par_len (decide (rk r.top < rk n + 1)) r.rtxt
    have h5 := sgn_len n.op
    simp only [Ex.rtxt, Ex.size, List.length_append]
    omega
end Go.Ab
/- The reference's stack of expressions, as a plain function; it accepts what the program's check accepts. -/
namespace Go.Ab
open Go.Proofs
set_option linter.unusedSectionVars false
set_option linter.unusedVariables false
set_option linter.unusedSimpArgs false
variable [Base]
/-- the stack, its top first, behind part number i -/
def stp (i : Nat) (n : Nd) (st : List (Ex × Nat)) : Option (List (Ex × Nat)) :=
  if okN n = true then
    if n.k = 5 then (match st with
      | (x, j) :: r => if n.x = (j : Nat) then some ((.un n x, i) :: r) else none
      | [] => none)
    else if n.k = 6 then (match st with
      | (y, k) :: (x, j) :: r => if n.x = (j : Nat) ∧ n.y = (k : Nat) then some ((.bi n x y, i) :: r) else none
      | _ => none)
    else some ((.leaf n, i) :: st)
  else none
def stk : List Nd → Nat → List (Ex × Nat) → Option (List (Ex × Nat))
  | [], _, st => some st
  | n :: ns, i, st => match stp i n st with
    | some st' => stk ns (i + 1) st'
    | none => none
theorem stk_cons (n : Nd) (ns : List Nd) (i : Nat) (st : List (Ex × Nat)) : stk (n :: ns) i st = match stp i n st with
    | some st' => stk ns (i + 1) st'
    | none => none := rfl
/-- the trees of a stack stand one behind the other -/
inductive Sk (ns : List Nd) (ss : List Nat) : Nat → List (Ex × Nat) → Prop
  | nil : Sk ns ss 0 []
  | cons {i : Nat} {t : Ex} {st : List (Ex × Nat)} (h1 : t.At ns i) (h2 : t.size = ss.getD i 0) (h3 : t.size ≤ i + 1) (h : Sk ns ss (i + 1 - t.size) st) : Sk ns ss (i + 1) ((t, i) :: st)
theorem Sk.more {ns : List Nd} {ss : List Nat} {i s : Nat} {st : List (Ex × Nat)} (h : Sk ns ss i st) : i ≤ ss.length → Sk ns (ss ++ [s]) i st := by
  induction h with
  | nil => exact fun _ => .nil
  | @cons i t st h1 h2 h3 _ ih =>
    intro hi
    refine .cons h1 ?_ h3 (ih (by have := t.size_pos; omega))
    rw [h2]
    simp [List.getD, List.getElem?_append_left (show i < ss.length by omega)]
theorem Sk.all {ns : List Nd} {ss : List Nat} {i : Nat} {st : List (Ex × Nat)} (h : Sk ns ss i st) : ∀ e ∈ st, e.1.At ns e.2 ∧ e.1.size ≤ i ∧ e.2 < i := by
  induction h with
  | nil => intro e he; cases he
  | @cons i t st h1 h2 h3 _ ih =>
    intro e he
    have := t.size_pos
    rcases List.mem_cons.1 he with rfl | he
    · exact ⟨h1, h3, Nat.lt_succ_self _⟩
    · obtain ⟨a, b, c⟩ := ih e he
      exact ⟨a, by omega, by omega⟩
/-- the stack's numbers are no more than the parts -/
theorem Sk.len {ns : List Nd} {ss : List Nat} {i : Nat} {st : List (Ex × Nat)} (h : Sk ns ss i st) : st.length ≤ i := by
  induction h with
  | nil => exact Nat.le_refl _
  | @cons i t st h1 h2 h3 _ ih =>
    have := t.size_pos
    simp only [List.length_cons]; omega
theorem getD_snoc (ss : List Nat) (s : Nat) : (ss ++ [s]).getD ss.length 0 = s := by simp [List.getD]
/-- both machines take the same parts -/
theorem stp_step {ns : List Nd} {ss : List Nat} {n : Nd} {st : List (Ex × Nat)} (hat : ns[ss.length]? = some n) (h : Sk ns ss ss.length st) :
    match stp ss.length n st with
    | some st' => ∃ s, step1 ss n = some s ∧ Sk ns (ss ++ [s]) (ss.length + 1) st'
    | none => step1 ss n = none := by
  generalize hi : ss.length = i at *
  unfold stp step1
  rw [hi]
  by_cases e : okN n = true
  · rw [if_pos e, if_pos e]
    obtain ⟨hk, ho⟩ := okN_k e
    by_cases k5 : n.k = 5
    · rw [if_pos k5, if_pos k5]
      cases h with
      | nil => simp only; rw [if_neg (by omega)]
      | @cons j t st' h1 h2 h3 h4 =>
        simp only [Nat.add_sub_cancel]
        by_cases hx : n.x = (j : Nat)
        · rw [if_pos hx, if_pos (by omega)]
          refine ⟨_, rfl, .cons ⟨hat, k5, j, hx, h1⟩ ?_ ?_ ?_⟩
          · rw [← hi, getD_snoc]; simp only [Ex.size]; omega
          · simp only [Ex.size]; omega
          · have := (Sk.more (s := 1 + ss.getD j 0) h4 (by omega))
            simp only [Ex.size]
            rw [show j + 1 + 1 - (1 + t.size) = j + 1 - t.size by omega]
            exact this
        · rw [if_neg hx, if_neg (by omega)]
    · rw [if_neg k5, if_neg k5]
      by_cases k6 : n.k = 6
      · rw [if_pos k6, if_pos k6]
        cases h with
        | nil => simp only; rw [if_neg (by omega)]
        | @cons k y st' h1 h2 h3 h4 =>
          simp only [Nat.add_sub_cancel]
          rw [← h2]
          have hy1 := y.size_pos
          generalize hm : k + 1 - y.size = m at h4
          cases h4 with
          | nil => simp only; rw [if_neg (by omega)]
          | @cons j x r g1 g2 g3 g4 =>
            simp only
            have hj : k - y.size = j := by omega
            rw [hj, ← g2]
            by_cases hx : n.x = (j : Nat) ∧ n.y = (k : Nat)
            · rw [if_pos hx, if_pos (by omega)]
              refine ⟨_, rfl, .cons ⟨hat, k6, ho k6, j, k, hx.1, hx.2, g1, h1⟩ ?_ ?_ ?_⟩
              · rw [← hi, getD_snoc]; simp only [Ex.size]; omega
              · simp only [Ex.size]; omega
              · have := (Sk.more (s := 1 + y.size + x.size) g4 (by omega))
                simp only [Ex.size]
                rw [show k + 1 + 1 - (1 + x.size + y.size) = j + 1 - x.size by omega]
                exact this
            · rw [if_neg hx, if_neg (by omega)]
      · rw [if_neg k6, if_neg k6]
        refine ⟨1, rfl, .cons ⟨hat, hk.1, by omega⟩ ?_ ?_ ?_⟩
        · rw [← hi, getD_snoc]; rfl
        · simp only [Ex.size]; omega
        · have := (Sk.more (s := 1) h (by omega))
          simpa [Ex.size] using this
  · rw [if_neg e, if_neg e]
theorem stk_sizes {ns : List Nd} : ∀ (rest : List Nd) (ss : List Nat) (st : List (Ex × Nat)), ns.drop ss.length = rest → ss.length ≤ ns.length → Sk ns ss ss.length st →
    match stk rest ss.length st with
    | some st' => ∃ out, sizes rest ss = some out ∧ out.length = ns.length ∧ Sk ns out ns.length st'
    | none => sizes rest ss = none
  | [], ss, st, hd, hl, h => by
    have hlen : ss.length = ns.length := by
      have := congrArg List.length hd
      simp at this
      omega
    unfold stk sizes
    exact ⟨ss, rfl, hlen, hlen ▸ h⟩
  | n :: rest, ss, st, hd, hl, h => by
    rw [stk_cons, sizes_cons]
    have hat : ns[ss.length]? = some n := by
      have := congrArg (·[0]?) hd
      simpa using this
    have hlt : ss.length < ns.length := (List.getElem?_eq_some_iff.1 hat).1
    have hs := stp_step hat h
    cases hst : stp ss.length n st with
    | none => rw [hst] at hs; simp only at hs ⊢; rw [hs]
    | some st' =>
      rw [hst] at hs
      obtain ⟨s, hs1, hs2⟩ := hs
      simp only
      rw [hs1]
      have hrec := stk_sizes rest (ss ++ [s]) st' (by
        rw [List.length_append, List.length_singleton]
        have := drop_cons hat
        rw [hd] at this
        exact ((List.cons.inj this).2).symm) (by simp; omega) (by rw [List.length_append, List.length_singleton]; exact hs2)
      rw [List.length_append, List.length_singleton] at hrec
      exact hrec
/-- the reference accepts what the program accepts, with the same tree -/
theorem stk_okL (ns : List Nd) : match stk ns 0 [] with
    | some st => okL ns = decide (st.length = 1) ∧ ∀ t j r, st = (t, j) :: r → t.At ns j ∧ (r = [] → j = ns.length - 1 ∧ t.size = ns.length)
    | none => okL ns = false := by
  have h := stk_sizes (ns := ns) ns [] [] rfl (Nat.zero_le _) .nil
  simp only [List.length_nil] at h
  cases hst : stk ns 0 [] with
  | none =>
    rw [hst] at h
    exact okL_none h
  | some st =>
    rw [hst] at h
    obtain ⟨out, h1, h2, h3⟩ := h
    simp only
    unfold okL
    rw [h1]
    simp only
    generalize hN : ns.length = N at *
    cases h3 with
    | nil => exact ⟨rfl, fun _ _ _ h => by cases h⟩
    | @cons i t st' g1 g2 g3 g4 =>
      simp only [Nat.add_sub_cancel]
      rw [← g2]
      have hp := t.size_pos
      generalize hm : i + 1 - t.size = m at g4
      cases g4 with
      | nil =>
        refine ⟨by simp; omega, fun t' j r he => ?_⟩
        cases he
        exact ⟨g1, fun _ => ⟨rfl, by omega⟩⟩
      | @cons i' t' st'' q1 q2 q3 q4 =>
        refine ⟨by simp; omega, fun t' j r he => ?_⟩
        cases he
        exact ⟨g1, fun hr => by cases hr⟩
end Go.Ab
/- What is read is one expression; two lists that are alike have trees that are alike. -/
namespace Go.Ab
open Go.Proofs
set_option linter.unusedSectionVars false
set_option linter.unusedVariables false
set_option linter.unusedSimpArgs false
variable [Base]
theorem stk_app (A B : List Nd) : ∀ (i : Nat) (st : List (Ex × Nat)), stk (A ++ B) i st = match stk A i st with
    | some st' => stk B (i + A.length) st'
    | none => none := by
  induction A with
  | nil => intro i st; rfl
  | cons n A ih =>
    intro i st
    rw [List.cons_append, stk_cons, stk_cons]
    cases stp i n st with
    | none => rfl
    | some st' =>
      simp only
      rw [ih, List.length_cons, show i + 1 + A.length = i + (A.length + 1) by omega]
/-- a list of parts is one tree, wherever it begins -/
def Rn (A : List Nd) (i : Nat) (x : Ex) : Prop := (∀ s, stk A i s = some ((x, i + A.length - 1) :: s)) ∧ 1 ≤ A.length
theorem okNB {op x y : Int} {a : Tok} (h1 : 1 ≤ op) (h4 : op ≤ 4) : okN (ndB op x y a) = true := by
  unfold okN ndB; simp [zp, zq, h1, h4]
theorem okNU {x : Int} {a : Tok} : okN (ndU x a) = true := by
  unfold okN ndU; simp [zp, zq]
theorem okNA {k : Int} {a : Tok} (h : k = 2 ∨ k = 3) : okN (ndA k a) = true := by
  rcases h with rfl | rfl <;> rfl
theorem okNm {a : Tok} : okN (ndN a) = true := by
  unfold okN ndN; simp [zp, zq]
theorem Rn.leaf {n : Nd} {i : Nat} (h1 : okN n = true) (h5 : n.k ≠ 5) (h6 : n.k ≠ 6) : Rn [n] i (.leaf n) :=
  ⟨fun s => by rw [stk_cons, show stp i n s = some ((.leaf n, i) :: s) from by unfold stp; rw [if_pos h1, if_neg h5, if_neg h6]]; rfl, Nat.le_refl _⟩
theorem Rn.un {A : List Nd} {n : Nd} {i : Nat} {x : Ex} (h : Rn A i x) (h1 : okN n = true) (h5 : n.k = 5) (hx : n.x = (i + A.length : Nat) - 1) : Rn (A ++ [n]) i (.un n x) := by
  obtain ⟨hs, hp⟩ := h
  refine ⟨fun s => ?_, by simp⟩
  rw [stk_app, hs]
  simp only
  rw [stk_cons, show stp (i + A.length) n ((x, i + A.length - 1) :: s) = some ((.un n x, i + A.length) :: s) from by unfold stp; rw [if_pos h1, if_pos h5]; simp only; rw [if_pos (by omega)]]
  rw [List.length_append, List.length_singleton, show i + (A.length + 1) - 1 = i + A.length by omega]
  rfl
theorem Rn.bi {A B : List Nd} {n : Nd} {i : Nat} {x y : Ex} (h : Rn A i x) (k : Rn B (i + A.length) y) (h1 : okN n = true) (h6 : n.k = 6) (hx : n.x = (i + A.length : Nat) - 1) (hy : n.y = (i + A.length + B.length : Nat) - 1) : Rn (A ++ B ++ [n]) i (.bi n x y) := by
  obtain ⟨hs, hp⟩ := h
  obtain ⟨ks, kp⟩ := k
  refine ⟨fun s => ?_, by simp; omega⟩
  rw [stk_app, stk_app, hs]
  simp only
  rw [ks]
  simp only
  rw [List.length_append, stk_cons, show stp (i + (A.length + B.length)) n ((y, i + A.length + B.length - 1) :: (x, i + A.length - 1) :: s) = some ((.bi n x y, i + (A.length + B.length)) :: s) from by unfold stp; rw [if_pos h1, if_neg (by omega), if_pos h6]; simp only; rw [if_pos ⟨by omega, by omega⟩]]
  rw [List.length_append, List.length_append, List.length_singleton, show i + (A.length + B.length + 1) - 1 = i + (A.length + B.length) by omega]
  rfl
/-- alike but for names, numbers and positions -/
def Like (n m : Nd) : Prop := n.k = m.k ∧ n.op = m.op ∧ n.x = m.x ∧ n.y = m.y
inductive LikeT : Ex → Ex → Prop
  | leaf {n m : Nd} (h : Like n m) : LikeT (.leaf n) (.leaf m)
  | un {n m : Nd} {x y : Ex} (h : Like n m) (k : LikeT x y) : LikeT (.un n x) (.un m y)
  | bi {n m : Nd} {x y u v : Ex} (h : Like n m) (k : LikeT x u) (l : LikeT y v) : LikeT (.bi n x y) (.bi m u v)
inductive LikeS : List (Ex × Nat) → List (Ex × Nat) → Prop
  | nil : LikeS [] []
  | cons {x y : Ex} {j : Nat} {s t : List (Ex × Nat)} (h : LikeT x y) (k : LikeS s t) : LikeS ((x, j) :: s) ((y, j) :: t)
theorem LikeS.head {x y : Ex} {j k : Nat} {s t : List (Ex × Nat)} (h : LikeS ((x, j) :: s) ((y, k) :: t)) : LikeT x y := by
  cases h with
  | cons g _ => exact g
theorem Like.rk {n m : Nd} (h : Like n m) : rk n = rk m := by
  obtain ⟨h1, h2, _, _⟩ := h
  unfold Ab.rk
  rw [h1, h2]
theorem LikeT.rk {x y : Ex} (h : LikeT x y) : rk x.top = rk y.top := by
  cases h with
  | leaf h => exact h.rk
  | un h _ => exact h.rk
  | bi h _ _ => exact h.rk
end Go.Ab
/- The parser of expressions, walked over tokens without numbers: its small methods. -/
namespace Go.Ab
open Go.Proofs
set_option linter.unusedSectionVars false
set_option linter.unusedVariables false
set_option linter.unusedSimpArgs false
variable [Base]
abbrev psT : TypeId := 182
abbrev exPT : TypeId := 75
abbrev psC (ts : List Tok) (d : Nat) (s : SV) : List SV := [toks ts, lit (.int .i64 d), s]
theorem tkx_len (a : Tok) : (tkx a).length = 4 := rfl
theorem toks_ne (a : Tok) (r : List Tok) : ((a :: r).map tkx).flatten ≠ [] := by
  rw [List.map_cons, List.flatten_cons]; exact fun h => by cases h
theorem toks_hd (a : Tok) (r : List Tok) : (((a :: r).map tkx).flatten.drop (0 * 4)).take 4 = tkx a := by
  rw [Nat.zero_mul, List.drop_zero, List.map_cons, List.flatten_cons]; rfl
theorem toks_tl (a : Tok) (r : List Tok) : ((a :: r).map tkx).flatten.drop (1 * 4) = (r.map tkx).flatten := by
  rw [List.map_cons, List.flatten_cons]; rfl
theorem toks_len (ts : List Tok) : (ts.map tkx).flatten.length = ts.length * 4 := by
  induction ts with
  | nil => rfl
  | cons a r ih => rw [List.map_cons, List.flatten_cons, List.length_append, ih, tkx_len, List.length_cons]; omega
theorem pnext_pu (s : SV) (hco : CO s [s]) (a : Tok) (r : List Tok) (d : Nat) (hr : r.length ≤ 1000000) : PuM Tryz.prog 51 psT (fun p => [lit (.pointer (some ⟨p, 0, none⟩))]) (psC (a :: r) d s) (fun _ : Unit => psC (a :: r) d s) (fun _ => ag (tkx a)) := by
  have hl : (a :: r).length = r.length + 1 := rfl
  refine PuM.intro Tryz.func51 rfl (by kernel_rfl) fun C b => ?_
  repeat (refine A1 ⟨?_⟩; intros)
  refine Wo (ov_idxS (cs' := tkx a) (i := 0) rfl rfl (by omega) (by omega) (toks_hd a r) (toks_ne a r)) ?_
  repeat (refine A1 ⟨?_⟩; intros)
  exact endMR () _ (end1 (RV.cellA rfl (by (first | exact List.mem_cons_self | exact (List.mem_cons_of_mem _ List.mem_cons_self) | exact (List.mem_cons_of_mem _ (List.mem_cons_of_mem _ List.mem_cons_self)) | exact (List.mem_cons_of_mem _ (List.mem_cons_of_mem _ (List.mem_cons_of_mem _ List.mem_cons_self))) | exact (List.mem_cons_of_mem _ (List.mem_cons_of_mem _ (List.mem_cons_of_mem _ (List.mem_cons_of_mem _ List.mem_cons_self)))) | exact (List.mem_cons_of_mem _ (List.mem_cons_of_mem _ (List.mem_cons_of_mem _ (List.mem_cons_of_mem _ (List.mem_cons_of_mem _ List.mem_cons_self))))) | exact (List.mem_cons_of_mem _ (List.mem_cons_of_mem _ (List.mem_cons_of_mem _ (List.mem_cons_of_mem _ (List.mem_cons_of_mem _ (List.mem_cons_of_mem _ List.mem_cons_self)))))) | exact (List.mem_cons_of_mem _ (List.mem_cons_of_mem _ (List.mem_cons_of_mem _ (List.mem_cons_of_mem _ (List.mem_cons_of_mem _ (List.mem_cons_of_mem _ (List.mem_cons_of_mem _ List.mem_cons_self))))))))) rfl rfl) (Le.refl _)) (by (first | exact List.mem_cons_self | exact (List.mem_cons_of_mem _ List.mem_cons_self) | exact (List.mem_cons_of_mem _ (List.mem_cons_of_mem _ List.mem_cons_self)) | exact (List.mem_cons_of_mem _ (List.mem_cons_of_mem _ (List.mem_cons_of_mem _ List.mem_cons_self))) | exact (List.mem_cons_of_mem _ (List.mem_cons_of_mem _ (List.mem_cons_of_mem _ (List.mem_cons_of_mem _ List.mem_cons_self)))) | exact (List.mem_cons_of_mem _ (List.mem_cons_of_mem _ (List.mem_cons_of_mem _ (List.mem_cons_of_mem _ (List.mem_cons_of_mem _ List.mem_cons_self))))) | exact (List.mem_cons_of_mem _ (List.mem_cons_of_mem _ (List.mem_cons_of_mem _ (List.mem_cons_of_mem _ (List.mem_cons_of_mem _ (List.mem_cons_of_mem _ List.mem_cons_self)))))) | exact (List.mem_cons_of_mem _ (List.mem_cons_of_mem _ (List.mem_cons_of_mem _ (List.mem_cons_of_mem _ (List.mem_cons_of_mem _ (List.mem_cons_of_mem _ (List.mem_cons_of_mem _ List.mem_cons_self))))))))) (LeL.refl _)
theorem ptake_pu (s : SV) (hco : CO s [s]) (p : Nat) (a : Tok) (r : List Tok) (d : Nat) (hr : r.length ≤ 1000000) : PuH Tryz.prog 96 [lit (.pointer (some ⟨p, 0, none⟩))] [(p, psT, psC (a :: r) d s)] (fun v H => v = ag (tkx a) ∧ H = [(p, psT, psC r d s)]) noX := by
  have hl : (a :: r).length = r.length + 1 := rfl
  refine PuH.intro Tryz.func96 rfl (by kernel_rfl) fun C hC => ?_
  repeat (refine A1 ⟨?_⟩; intros)
  refine Wo (ov_idxS (cs' := tkx a) (i := 0) rfl rfl (by omega) (by omega) (toks_hd a r) (toks_ne a r)) ?_
  repeat (refine A1 ⟨?_⟩; intros)
  refine Wo (ov_slFn (cs := ((a :: r).map tkx).flatten) (sz := 4) 1 rfl rfl rfl (toks_len _) (by omega)) ?_
  rw [toks_tl, show (a :: r).length - 1 = r.length from rfl]
  repeat (refine A1 ⟨?_⟩; intros)
  exact endHR _ _ (end1 (RV.cellA rfl (by (first | exact List.mem_cons_self | exact (List.mem_cons_of_mem _ List.mem_cons_self) | exact (List.mem_cons_of_mem _ (List.mem_cons_of_mem _ List.mem_cons_self)) | exact (List.mem_cons_of_mem _ (List.mem_cons_of_mem _ (List.mem_cons_of_mem _ List.mem_cons_self))) | exact (List.mem_cons_of_mem _ (List.mem_cons_of_mem _ (List.mem_cons_of_mem _ (List.mem_cons_of_mem _ List.mem_cons_self)))) | exact (List.mem_cons_of_mem _ (List.mem_cons_of_mem _ (List.mem_cons_of_mem _ (List.mem_cons_of_mem _ (List.mem_cons_of_mem _ List.mem_cons_self))))) | exact (List.mem_cons_of_mem _ (List.mem_cons_of_mem _ (List.mem_cons_of_mem _ (List.mem_cons_of_mem _ (List.mem_cons_of_mem _ (List.mem_cons_of_mem _ List.mem_cons_self)))))) | exact (List.mem_cons_of_mem _ (List.mem_cons_of_mem _ (List.mem_cons_of_mem _ (List.mem_cons_of_mem _ (List.mem_cons_of_mem _ (List.mem_cons_of_mem _ (List.mem_cons_of_mem _ List.mem_cons_self))))))))) rfl rfl) (Le.refl _)) (by repeat (first | exact List.Sublist.refl _ | refine List.Sublist.cons _ ?_)) ⟨rfl, rfl⟩
/-- a token of the kinds that are read here -/
def Tok.ok (a : Tok) : Prop := (a.k = 0 ∧ a.t = []) ∨ a.k = 1 ∨ a.k = 3
theorem TOk.hd {a : Tok} {r : List Tok} (h : TOk (a :: r)) : a.ok := by
  cases r with
  | nil => exact .inl h
  | cons b r => exact .inr h.1
theorem tis_cons (a : Tok) (r : List Tok) (w : List UInt8) : tis (a :: r) w = (decide (a.k ≠ 0) && decide (a.t = w)) := rfl
theorem pisName_pu (s : SV) (hco : CO s [s]) (a : Tok) (r : List Tok) (d : Nat) (hr : r.length ≤ 1000000) : PuM Tryz.prog 152 psT (fun p => [lit (.pointer (some ⟨p, 0, none⟩))]) (psC (a :: r) d s) (fun _ : Unit => psC (a :: r) d s) (fun _ => lit (.bool (decide (a.k = 1 ∧ resv a.t = false)))) := by
  have c := pnext_pu s hco a r d hr
  have c2 := reserved_pu a.t
  by_cases hk : a.k = 1
  · cases hv : resv a.t with
    | true =>
      rw [hv] at c2
      rw [decide_eq_false (fun h => by cases h.2)]
      refine PuM.intro Tryz.func152 rfl (by kernel_rfl) fun C b => ?_
      repeat (refine A1 ⟨?_⟩; intros)
      refine Wo (ov_callT c rfl (by (first | exact List.mem_cons_self | exact (List.mem_cons_of_mem _ List.mem_cons_self) | exact (List.mem_cons_of_mem _ (List.mem_cons_of_mem _ List.mem_cons_self)) | exact (List.mem_cons_of_mem _ (List.mem_cons_of_mem _ (List.mem_cons_of_mem _ List.mem_cons_self))) | exact (List.mem_cons_of_mem _ (List.mem_cons_of_mem _ (List.mem_cons_of_mem _ (List.mem_cons_of_mem _ List.mem_cons_self)))) | exact (List.mem_cons_of_mem _ (List.mem_cons_of_mem _ (List.mem_cons_of_mem _ (List.mem_cons_of_mem _ (List.mem_cons_of_mem _ List.mem_cons_self))))) | exact (List.mem_cons_of_mem _ (List.mem_cons_of_mem _ (List.mem_cons_of_mem _ (List.mem_cons_of_mem _ (List.mem_cons_of_mem _ (List.mem_cons_of_mem _ List.mem_cons_self)))))) | exact (List.mem_cons_of_mem _ (List.mem_cons_of_mem _ (List.mem_cons_of_mem _ (List.mem_cons_of_mem _ (List.mem_cons_of_mem _ (List.mem_cons_of_mem _ (List.mem_cons_of_mem _ List.mem_cons_self)))))))))) ?_
      repeat (refine A1 ⟨?_⟩; intros)
      refine WgE ?_
      refine Wo (ov_callT c rfl (by (first | exact List.mem_cons_self | exact (List.mem_cons_of_mem _ List.mem_cons_self) | exact (List.mem_cons_of_mem _ (List.mem_cons_of_mem _ List.mem_cons_self)) | exact (List.mem_cons_of_mem _ (List.mem_cons_of_mem _ (List.mem_cons_of_mem _ List.mem_cons_self))) | exact (List.mem_cons_of_mem _ (List.mem_cons_of_mem _ (List.mem_cons_of_mem _ (List.mem_cons_of_mem _ List.mem_cons_self)))) | exact (List.mem_cons_of_mem _ (List.mem_cons_of_mem _ (List.mem_cons_of_mem _ (List.mem_cons_of_mem _ (List.mem_cons_of_mem _ List.mem_cons_self))))) | exact (List.mem_cons_of_mem _ (List.mem_cons_of_mem _ (List.mem_cons_of_mem _ (List.mem_cons_of_mem _ (List.mem_cons_of_mem _ (List.mem_cons_of_mem _ List.mem_cons_self)))))) | exact (List.mem_cons_of_mem _ (List.mem_cons_of_mem _ (List.mem_cons_of_mem _ (List.mem_cons_of_mem _ (List.mem_cons_of_mem _ (List.mem_cons_of_mem _ (List.mem_cons_of_mem _ List.mem_cons_self)))))))))) ?_
      repeat (first | (refine A1 ⟨?_⟩; intros) | (refine Wcx (c2) ?_) | (refine Wdcx (c2) ?_) | (refine Wcgx (c2) ?_) | (refine Wdcgx (c2) ?_))
      exact endMR () _ (end1 (RV.tmp rfl) (Le.refl _)) (by (first | exact List.mem_cons_self | exact (List.mem_cons_of_mem _ List.mem_cons_self) | exact (List.mem_cons_of_mem _ (List.mem_cons_of_mem _ List.mem_cons_self)) | exact (List.mem_cons_of_mem _ (List.mem_cons_of_mem _ (List.mem_cons_of_mem _ List.mem_cons_self))) | exact (List.mem_cons_of_mem _ (List.mem_cons_of_mem _ (List.mem_cons_of_mem _ (List.mem_cons_of_mem _ List.mem_cons_self)))) | exact (List.mem_cons_of_mem _ (List.mem_cons_of_mem _ (List.mem_cons_of_mem _ (List.mem_cons_of_mem _ (List.mem_cons_of_mem _ List.mem_cons_self))))) | exact (List.mem_cons_of_mem _ (List.mem_cons_of_mem _ (List.mem_cons_of_mem _ (List.mem_cons_of_mem _ (List.mem_cons_of_mem _ (List.mem_cons_of_mem _ List.mem_cons_self)))))) | exact (List.mem_cons_of_mem _ (List.mem_cons_of_mem _ (List.mem_cons_of_mem _ (List.mem_cons_of_mem _ (List.mem_cons_of_mem _ (List.mem_cons_of_mem _ (List.mem_cons_of_mem _ List.mem_cons_self))))))))) (LeL.refl _)
    | false =>
      rw [hv] at c2
      rw [decide_eq_true ⟨hk, rfl⟩]
      refine PuM.intro Tryz.func152 rfl (by kernel_rfl) fun C b => ?_
      repeat (refine A1 ⟨?_⟩; intros)
      refine Wo (ov_callT c rfl (by (first | exact List.mem_cons_self | exact (List.mem_cons_of_mem _ List.mem_cons_self) | exact (List.mem_cons_of_mem _ (List.mem_cons_of_mem _ List.mem_cons_self)) | exact (List.mem_cons_of_mem _ (List.mem_cons_of_mem _ (List.mem_cons_of_mem _ List.mem_cons_self))) | exact (List.mem_cons_of_mem _ (List.mem_cons_of_mem _ (List.mem_cons_of_mem _ (List.mem_cons_of_mem _ List.mem_cons_self)))) | exact (List.mem_cons_of_mem _ (List.mem_cons_of_mem _ (List.mem_cons_of_mem _ (List.mem_cons_of_mem _ (List.mem_cons_of_mem _ List.mem_cons_self))))) | exact (List.mem_cons_of_mem _ (List.mem_cons_of_mem _ (List.mem_cons_of_mem _ (List.mem_cons_of_mem _ (List.mem_cons_of_mem _ (List.mem_cons_of_mem _ List.mem_cons_self)))))) | exact (List.mem_cons_of_mem _ (List.mem_cons_of_mem _ (List.mem_cons_of_mem _ (List.mem_cons_of_mem _ (List.mem_cons_of_mem _ (List.mem_cons_of_mem _ (List.mem_cons_of_mem _ List.mem_cons_self)))))))))) ?_
      repeat (refine A1 ⟨?_⟩; intros)
      refine WgE ?_
      refine Wo (ov_callT c rfl (by (first | exact List.mem_cons_self | exact (List.mem_cons_of_mem _ List.mem_cons_self) | exact (List.mem_cons_of_mem _ (List.mem_cons_of_mem _ List.mem_cons_self)) | exact (List.mem_cons_of_mem _ (List.mem_cons_of_mem _ (List.mem_cons_of_mem _ List.mem_cons_self))) | exact (List.mem_cons_of_mem _ (List.mem_cons_of_mem _ (List.mem_cons_of_mem _ (List.mem_cons_of_mem _ List.mem_cons_self)))) | exact (List.mem_cons_of_mem _ (List.mem_cons_of_mem _ (List.mem_cons_of_mem _ (List.mem_cons_of_mem _ (List.mem_cons_of_mem _ List.mem_cons_self))))) | exact (List.mem_cons_of_mem _ (List.mem_cons_of_mem _ (List.mem_cons_of_mem _ (List.mem_cons_of_mem _ (List.mem_cons_of_mem _ (List.mem_cons_of_mem _ List.mem_cons_self)))))) | exact (List.mem_cons_of_mem _ (List.mem_cons_of_mem _ (List.mem_cons_of_mem _ (List.mem_cons_of_mem _ (List.mem_cons_of_mem _ (List.mem_cons_of_mem _ (List.mem_cons_of_mem _ List.mem_cons_self)))))))))) ?_
      repeat (first | (refine A1 ⟨?_⟩; intros) | (refine Wcx (c2) ?_) | (refine Wdcx (c2) ?_) | (refine Wcgx (c2) ?_) | (refine Wdcgx (c2) ?_))
      exact endMR () _ (end1 (RV.tmp rfl) (Le.refl _)) (by (first | exact List.mem_cons_self | exact (List.mem_cons_of_mem _ List.mem_cons_self) | exact (List.mem_cons_of_mem _ (List.mem_cons_of_mem _ List.mem_cons_self)) | exact (List.mem_cons_of_mem _ (List.mem_cons_of_mem _ (List.mem_cons_of_mem _ List.mem_cons_self))) | exact (List.mem_cons_of_mem _ (List.mem_cons_of_mem _ (List.mem_cons_of_mem _ (List.mem_cons_of_mem _ List.mem_cons_self)))) | exact (List.mem_cons_of_mem _ (List.mem_cons_of_mem _ (List.mem_cons_of_mem _ (List.mem_cons_of_mem _ (List.mem_cons_of_mem _ List.mem_cons_self))))) | exact (List.mem_cons_of_mem _ (List.mem_cons_of_mem _ (List.mem_cons_of_mem _ (List.mem_cons_of_mem _ (List.mem_cons_of_mem _ (List.mem_cons_of_mem _ List.mem_cons_self)))))) | exact (List.mem_cons_of_mem _ (List.mem_cons_of_mem _ (List.mem_cons_of_mem _ (List.mem_cons_of_mem _ (List.mem_cons_of_mem _ (List.mem_cons_of_mem _ (List.mem_cons_of_mem _ List.mem_cons_self))))))))) (LeL.refl _)
  · rw [decide_eq_false (fun h => hk h.1)]
    refine PuM.intro Tryz.func152 rfl (by kernel_rfl) fun C b => ?_
    repeat (refine A1 ⟨?_⟩; intros)
    refine Wo (ov_callT c rfl (by (first | exact List.mem_cons_self | exact (List.mem_cons_of_mem _ List.mem_cons_self) | exact (List.mem_cons_of_mem _ (List.mem_cons_of_mem _ List.mem_cons_self)) | exact (List.mem_cons_of_mem _ (List.mem_cons_of_mem _ (List.mem_cons_of_mem _ List.mem_cons_self))) | exact (List.mem_cons_of_mem _ (List.mem_cons_of_mem _ (List.mem_cons_of_mem _ (List.mem_cons_of_mem _ List.mem_cons_self)))) | exact (List.mem_cons_of_mem _ (List.mem_cons_of_mem _ (List.mem_cons_of_mem _ (List.mem_cons_of_mem _ (List.mem_cons_of_mem _ List.mem_cons_self))))) | exact (List.mem_cons_of_mem _ (List.mem_cons_of_mem _ (List.mem_cons_of_mem _ (List.mem_cons_of_mem _ (List.mem_cons_of_mem _ (List.mem_cons_of_mem _ List.mem_cons_self)))))) | exact (List.mem_cons_of_mem _ (List.mem_cons_of_mem _ (List.mem_cons_of_mem _ (List.mem_cons_of_mem _ (List.mem_cons_of_mem _ (List.mem_cons_of_mem _ (List.mem_cons_of_mem _ List.mem_cons_self)))))))))) ?_
    repeat (refine A1 ⟨?_⟩; intros)
    exact endMR () _ (end1 (RV.tmp rfl) (Le.refl _)) (by (first | exact List.mem_cons_self | exact (List.mem_cons_of_mem _ List.mem_cons_self) | exact (List.mem_cons_of_mem _ (List.mem_cons_of_mem _ List.mem_cons_self)) | exact (List.mem_cons_of_mem _ (List.mem_cons_of_mem _ (List.mem_cons_of_mem _ List.mem_cons_self))) | exact (List.mem_cons_of_mem _ (List.mem_cons_of_mem _ (List.mem_cons_of_mem _ (List.mem_cons_of_mem _ List.mem_cons_self)))) | exact (List.mem_cons_of_mem _ (List.mem_cons_of_mem _ (List.mem_cons_of_mem _ (List.mem_cons_of_mem _ (List.mem_cons_of_mem _ List.mem_cons_self))))) | exact (List.mem_cons_of_mem _ (List.mem_cons_of_mem _ (List.mem_cons_of_mem _ (List.mem_cons_of_mem _ (List.mem_cons_of_mem _ (List.mem_cons_of_mem _ List.mem_cons_self)))))) | exact (List.mem_cons_of_mem _ (List.mem_cons_of_mem _ (List.mem_cons_of_mem _ (List.mem_cons_of_mem _ (List.mem_cons_of_mem _ (List.mem_cons_of_mem _ (List.mem_cons_of_mem _ List.mem_cons_self))))))))) (LeL.refl _)
end Go.Ab
/- The parser of expressions, walked: names, numbers that are not there, adding a part. -/
namespace Go.Ab
open Go.Proofs
set_option linter.unusedSectionVars false
set_option linter.unusedVariables false
set_option linter.unusedSimpArgs false
variable [Base]
theorem TOk.cons {ts : List Tok} (h : TOk ts) : ∃ a r, ts = a :: r ∧ a.ok := by
  cases ts with
  | nil => exact h.elim
  | cons a r => exact ⟨a, r, rfl, h.hd⟩
theorem TOk.next {a : Tok} {r : List Tok} {w : List UInt8} (h : TOk (a :: r)) (ht : tis (a :: r) w = true) : TOk r := by
  rw [tis_cons, Bool.and_eq_true] at ht
  exact (h.tail (of_decide_eq_true ht.1)).1
theorem flat_snocN (l : List Nd) (n : Nd) : ((l ++ [n]).map ndx).flatten = (l.map ndx).flatten ++ ndx n := by
  rw [List.map_append, List.flatten_append]; simp only [List.map_cons, List.map_nil, List.flatten_cons, List.flatten_nil, List.append_nil]
def Nd.at (n : Nd) (a : Tok) : Nd := { n with ln := a.l, cl := a.c }
theorem padd_pu (p : Nat) (ts : List Tok) (d : Nat) (ns : List Nd) (s : SV) (Hs : LH) (hown : Own exPT 19 ns.length (ns.map ndx).flatten s Hs) (hns : ns.length ≤ 1000000) (n : Nd) (a : Tok) :
    PuH Tryz.prog 252 [lit (.pointer (some ⟨p, 0, none⟩)), ag (ndx n), ag (tkx a)] ((p, psT, psC ts d s) :: Hs)
      (fun v H => v = lit (.int .i64 ns.length) ∧ ∃ s' Hs', Own exPT 19 (ns ++ [n.at a]).length ((ns ++ [n.at a]).map ndx).flatten s' Hs' ∧ H = (p, psT, psC ts d s') :: Hs') noX := by
  have hco := hown.co
  refine PuH.intro Tryz.func252 rfl (by kernel_rfl) fun C hC => ?_
  repeat (first | (refine AS ⟨?_⟩; intros) | (refine O1 ⟨?_⟩; intros))
  rename_i b4 b5
  refine WP.perm (List.Perm.swap _ _ _) ?_
  refine WdM [5, 7] ((b5, tkT, tkx a) :: (p, psT, psC ts d s) :: Hs) (fun k => [(b4, exPT, ndx (if k = 0 then n else if k = 1 then { n with ln := a.l } else n.at a))]) ?_
  refine MkD 5 ?_
  repeat (refine A1 ⟨?_⟩; intros)
  refine mkD0 ?_
  refine MkR (sv := top) (TS.store (sv := lit (.int .i64 a.l)) (ds := [lit (.int .i64 a.l)]) rfl rfl rfl rfl (HUpd.here _) rfl rfl) ?_
  refine MkD 1 ?_
  repeat (refine A1 ⟨?_⟩; intros)
  refine mkD0 ?_
  refine MkR (sv := top) (TS.store (sv := lit (.int .i64 a.c)) (ds := [lit (.int .i64 a.c)]) rfl rfl rfl rfl (HUpd.here _) rfl rfl) ?_
  refine MkN ?_
  simp only [List.cons_append, List.nil_append]
  rw [show (if [5, 7].length = 0 then n else if [5, 7].length = 1 then { n with ln := (a.l : Int) } else n.at a) = n.at a from rfl]
  generalize n.at a = na at *
  repeat (first | (refine AS ⟨?_⟩; intros) | (refine O1 ⟨?_⟩; intros))
  refine WdL 7 1 ?_
  repeat (refine A1 ⟨?_⟩; intros)
  refine dL1 (fun b19 => ?_)
  refine Gown hown (by omega) (by (repeat (first | exact LOk.nil | refine Lsk ?_ | refine Lcv ?_))) (fun s' H1 hown' => ?_) (Tk.skip _ (Tk.skip _ (Tk.skip _ (Tk.skip _ (Tk.same _))))) List.mem_cons_self
  refine Gn (by (repeat (first | exact LOk.nil | refine Lsk ?_ | refine Lcv ?_))) ?_
  have hown'' : Own exPT 19 (ns ++ [na]).length ((ns ++ [na]).map ndx).flatten s' H1 := by
    rw [flat_snocN, List.length_append, List.length_singleton]; exact hown'
  have hco' := hown''.co
  have hlen : (ns ++ [na]).length = ns.length + 1 := by simp
  simp only [List.cons_append, List.nil_append]
  repeat (refine A1 ⟨?_⟩; intros)
  refine Ss ?_
  refine Ws (sv := s') ?_
  repeat (refine A1 ⟨?_⟩; intros)
  refine Wo (ov_lenOwn hown'' rfl) ?_
  repeat (refine A1 ⟨?_⟩; intros)
  exact endHR _ _ (end1 (RV.tmp (s := lit (.int .i64 (((ns ++ [na]).length : Nat) - 1))) rfl) (Le.refl _)) (by repeat (first | exact List.Sublist.refl _ | refine List.Sublist.cons _ ?_)) ⟨by rw [List.length_append, List.length_singleton, show ((ns.length + 1 : Nat) : Int) - 1 = (ns.length : Int) by omega], s', H1, hown'', rfl⟩
end Go.Ab
/- The parser of expressions, walked: nested parts, operators, the levels. -/
namespace Go.Ab
open Go.Proofs
set_option linter.unusedSectionVars false
set_option linter.unusedVariables false
set_option linter.unusedSimpArgs false
variable [Base]
abbrev ptrP (p : Nat) : SV := lit (.pointer (some ⟨p, 0, none⟩))
/-- the parser's block: tokens, depth and the parts so far -/
def Ps (p : Nat) (ts : List Tok) (d : Nat) (ns : List Nd) (H : LH) : Prop := ∃ s Hs, Own exPT 19 ns.length (ns.map ndx).flatten s Hs ∧ H = (p, psT, psC ts d s) :: Hs
abbrev bxT : TypeId := 117
end Go.Ab
/- The parser of expressions, walked: the levels. -/
namespace Go.Ab
open Go.Proofs
set_option linter.unusedSectionVars false
set_option linter.unusedVariables false
set_option linter.unusedSimpArgs false
variable [Base]
def ndB0 (op x y : Int) : Nd := ⟨6, [], zz, zz, zz, zz, op, x, y, 0, 0⟩
theorem ndB0_at (op x y : Int) (a : Tok) : (ndB0 op x y).at a = ndB op x y a := rfl
section
variable {P : Program} {C : Ctx} {n : Nat} {F : Fr} {H : LH} {ops : Array Oper} {K : Fr → LH → Prop} {rest : List Oper} {ty : TypeId} {pos : String} {aft : Array Edge}
end
def ndU0 (x : Int) : Nd := ⟨5, [], zz, zz, zz, zz, 0, x, 0, 0, 0⟩
def ndA0 (k : Int) : Nd := ⟨k, [], zz, zz, zz, zz, 0, 0, 0, 0, 0⟩
def ndN0 (t : List UInt8) : Nd := ⟨1, t, zz, zz, zz, zz, 0, 0, 0, 0, 0⟩
end Go.Ab
/- Tokens of any text, as a plain function: blanks and comments, names, numbers, signs; the first error. -/
namespace Go.Ab
open Go.Proofs
set_option linter.unusedSectionVars false
set_option linter.unusedVariables false
set_option linter.unusedSimpArgs false
variable [Base]
/-- an error: its kind (1 syntax, 2 limit, 3 range), its text, its line and column -/
structure Er where
  k : Nat
  t : List UInt8
  l : Nat
  c : Nat
/-- blanks and comments ahead of a token: how many bytes, and the place behind them; cm: within a comment -/
def gsk : Bool → List UInt8 → Nat → Nat → Nat × Nat × Nat
  | _, [], ln, cl => (0, ln, cl)
  | cm, b :: r, ln, cl =>
    if b.toNat = 10 then ((gsk false r (ln + 1) 1).1 + 1, (gsk false r (ln + 1) 1).2)
    else if cm = true ∨ clsN b.toNat = 2 then ((gsk true r ln (cl + 1)).1 + 1, (gsk true r ln (cl + 1)).2)
    else if clsN b.toNat = 1 then ((gsk false r ln (cl + 1)).1 + 1, (gsk false r ln (cl + 1)).2)
    else (0, ln, cl)
theorem gsk_le : ∀ (cm : Bool) (l : List UInt8) (ln cl : Nat), (gsk cm l ln cl).1 ≤ l.length
  | _, [], _, _ => Nat.le_refl _
  | cm, b :: r, ln, cl => by
    unfold gsk
    have h1 := gsk_le false r (ln + 1) 1
    have h2 := gsk_le true r ln (cl + 1)
    have h3 := gsk_le false r ln (cl + 1)
    simp only [List.length_cons]
    split
    · simp only; omega
    · split
      · simp only; omega
      · split
        · simp only; omega
        · simp
/-- a stretch of a comment -/
theorem gsk_run : ∀ (m : Nat) (l : List UInt8) (ln cl : Nat), m ≤ l.length → (∀ i, i < m → l.getD i 0 ≠ 10) → gsk true l ln cl = ((gsk true (l.drop m) ln (cl + m)).1 + m, (gsk true (l.drop m) ln (cl + m)).2)
  | 0, l, ln, cl, _, _ => rfl
  | m + 1, [], ln, cl, h, _ => by simp at h
  | m + 1, b :: r, ln, cl, h, hn => by
    have h0 : b.toNat ≠ 10 := fun e => hn 0 (by omega) (UInt8.toNat_inj.1 e)
    have ih := gsk_run m r ln (cl + 1) (by simpa using h) fun i hi => by simpa using hn (i + 1) (by omega)
    rw [show gsk true (b :: r) ln cl = ((gsk true r ln (cl + 1)).1 + 1, (gsk true r ln (cl + 1)).2) from by rw [gsk, if_neg h0, if_pos (.inl rfl)], ih, List.drop_succ_cons, show cl + 1 + m = cl + (m + 1) by omega]
    rfl
/-- a comment ends with its line -/
theorem gsk_cm {m : Nat} {l : List UInt8} (ln cl : Nat) (hm : m ≤ l.length) (hn : ∀ i, i < m → l.getD i 0 ≠ 10) (he : m = l.length ∨ l.getD m 0 = 10) :
    gsk true l ln cl = ((gsk false (l.drop m) ln (cl + m)).1 + m, (gsk false (l.drop m) ln (cl + m)).2) := by
  rw [gsk_run m l ln cl hm hn]
  have : gsk true (l.drop m) ln (cl + m) = gsk false (l.drop m) ln (cl + m) := by
    by_cases hl : m = l.length
    · rw [List.drop_eq_nil_of_le (by omega)]; rfl
    · have h10 := he.resolve_left hl
      rw [List.drop_eq_getElem_cons (show m < l.length by omega)]
      rw [List.getD, List.getElem?_eq_getElem (show m < l.length by omega)] at h10
      have h11 : (l[m]'(by omega)).toNat = 10 := by
        simp only [Option.getD_some] at h10
        rw [h10]; rfl
      rw [gsk, gsk, if_pos h11, if_pos h11]
  rw [this]
theorem gsk_hash {b : UInt8} {r : List UInt8} (h : clsN b.toNat = 2) (h0 : b.toNat ≠ 10) (ln cl : Nat) : gsk false (b :: r) ln cl = gsk true (b :: r) ln cl := by
  rw [gsk, gsk, if_neg h0, if_neg h0, if_pos (.inr h), if_pos (.inl rfl)]
theorem gsk_nl {b : UInt8} {r : List UInt8} (h : b.toNat = 10) (ln cl : Nat) : gsk false (b :: r) ln cl = ((gsk false r (ln + 1) 1).1 + 1, (gsk false r (ln + 1) 1).2) := by
  rw [gsk, if_pos h]
theorem gsk_sp {b : UInt8} {r : List UInt8} (h : b.toNat ≠ 10) (h1 : clsN b.toNat = 1) (ln cl : Nat) : gsk false (b :: r) ln cl = ((gsk false r ln (cl + 1)).1 + 1, (gsk false r ln (cl + 1)).2) := by
  rw [gsk, if_neg h, if_neg (by rw [h1]; simp), if_pos h1]
theorem gsk_stop {b : UInt8} {r : List UInt8} (h1 : clsN b.toNat ≠ 1) (h2 : clsN b.toNat ≠ 2) (h : b.toNat ≠ 10) (ln cl : Nat) : gsk false (b :: r) ln cl = (0, ln, cl) := by
  rw [gsk, if_neg h, if_neg (by simp [h2]), if_neg h1]
/-- the byte behind blanks and comments begins a token -/
theorem gsk_head : ∀ (cm : Bool) (l : List UInt8) (ln cl : Nat) (b : UInt8) (r : List UInt8), l.drop (gsk cm l ln cl).1 = b :: r → clsN b.toNat ≠ 1 ∧ clsN b.toNat ≠ 2
  | _, [], _, _, b, r, h => by simp at h
  | cm, c :: l, ln, cl, b, r, h => by
    rw [gsk] at h
    split at h
    · exact gsk_head _ _ _ _ _ _ (by simpa using h)
    · split at h
      · exact gsk_head _ _ _ _ _ _ (by simpa using h)
      · rename_i h1 h2
        split at h
        · exact gsk_head _ _ _ _ _ _ (by simpa using h)
        · rename_i h3
          simp only [List.drop_zero] at h
          obtain ⟨rfl, _⟩ := List.cons.inj h
          exact ⟨h3, fun e => h2 (.inr e)⟩
/-- a run of bytes of some classes -/
def grun (p : Int → Bool) (l : List UInt8) : Nat := (l.takeWhile fun b => p (clsN b.toNat)).length
def isLD (c : Int) : Bool := decide (c = 3) || decide (c = 4)
def isD (c : Int) : Bool := decide (c = 4)
theorem grun_le (p : Int → Bool) : ∀ l : List UInt8, grun p l ≤ l.length
  | [] => Nat.le_refl _
  | a :: l => by
    have := grun_le p l
    unfold grun at *
    rw [List.takeWhile_cons]
    split
    · simp only [List.length_cons]; omega
    · simp
theorem grun_t {p : Int → Bool} {b : UInt8} (h : p (clsN b.toNat) = true) (r : List UInt8) : grun p (b :: r) = grun p r + 1 := by
  unfold grun; rw [List.takeWhile_cons, if_pos h]; rfl
theorem grun_f {p : Int → Bool} {b : UInt8} (h : p (clsN b.toNat) = false) (r : List UInt8) : grun p (b :: r) = 0 := by
  unfold grun; rw [List.takeWhile_cons, if_neg (by rw [h]; decide)]; rfl
/-- the next token of a text, and how many bytes it takes with what stands ahead of it -/
def gnx (l : List UInt8) (ln cl : Nat) : Except Er (Tok × Nat) := match l.drop (gsk false l ln cl).1 with
  | [] => .ok (⟨0, [], (gsk false l ln cl).2.1, (gsk false l ln cl).2.2⟩, (gsk false l ln cl).1)
  | b :: r => if clsN b.toNat = 3 then
      (if 24 < grun isLD (b :: r) then .error ⟨2, (b :: r).take (grun isLD (b :: r)), (gsk false l ln cl).2.1, (gsk false l ln cl).2.2⟩
        else .ok (⟨1, (b :: r).take (grun isLD (b :: r)), (gsk false l ln cl).2.1, (gsk false l ln cl).2.2⟩, (gsk false l ln cl).1 + grun isLD (b :: r)))
    else if clsN b.toNat = 4 then
      (if 4096 < grun isD (b :: r) then .error ⟨2, (b :: r).take (grun isD (b :: r)), (gsk false l ln cl).2.1, (gsk false l ln cl).2.2⟩
        else .ok (⟨2, (b :: r).take (grun isD (b :: r)), (gsk false l ln cl).2.1, (gsk false l ln cl).2.2⟩, (gsk false l ln cl).1 + grun isD (b :: r)))
    else if clsN b.toNat = 5 then .ok (⟨3, [b], (gsk false l ln cl).2.1, (gsk false l ln cl).2.2⟩, (gsk false l ln cl).1 + 1)
    else .error ⟨1, [b], (gsk false l ln cl).2.1, (gsk false l ln cl).2.2⟩
def glexF : Nat → List UInt8 → Nat → Nat → Except Er (List Tok)
  | 0, _, _, _ => .error ⟨1, [], 0, 0⟩
  | f + 1, l, ln, cl => match gnx l ln cl with
    | .error e => .error e
    | .ok (t, n) => if t.k = 0 then .ok [t] else match glexF f (l.drop n) t.l (t.c + t.t.length) with
      | .error e => .error e
      | .ok ts => .ok (t :: ts)
/-- the tokens of a text, or its first error -/
def glex (l : List UInt8) : Except Er (List Tok) := glexF (l.length + 1) l 1 1
theorem glexF_succ (f : Nat) (l : List UInt8) (ln cl : Nat) : glexF (f + 1) l ln cl = match gnx l ln cl with
    | .error e => .error e
    | .ok (t, n) => if t.k = 0 then .ok [t] else match glexF f (l.drop n) t.l (t.c + t.t.length) with
      | .error e => .error e
      | .ok ts => .ok (t :: ts) := rfl
/-- the place of a byte in a text -/
theorem idxB_spec (l : List UInt8) {b : Nat} (hb : b < 256) : (idxB l b = -1 ∧ ∀ i, i < l.length → l.getD i 0 ≠ UInt8.ofNat b) ∨ ∃ m : Nat, idxB l b = m ∧ m < l.length ∧ l.getD m 0 = UInt8.ofNat b ∧ ∀ i, i < m → l.getD i 0 ≠ UInt8.ofNat b := by
  have hs : (⟨l.toArray⟩ : ByteArray).size = l.length := ba_size l
  have hg : ∀ i, i < l.length → (⟨l.toArray⟩ : ByteArray)[i]! = l.getD i 0 := fun i hi => by
    have h := ba_get l i hi
    rw [getElem!_def, h]
  have hc : (b : Int).toNat.toUInt8 = UInt8.ofNat b := rfl
  unfold idxB
  cases h : (List.range (⟨l.toArray⟩ : ByteArray).size).find? fun i => (⟨l.toArray⟩ : ByteArray)[i]! == (b : Int).toNat.toUInt8 with
  | none =>
    refine .inl ⟨rfl, fun i hi e => ?_⟩
    have := List.find?_eq_none.1 h i (List.mem_range.2 (by rw [hs]; exact hi))
    rw [hg i hi, hc, e] at this
    simp at this
  | some m =>
    rw [List.find?_range_eq_some] at h
    obtain ⟨h1, h2, h3⟩ := h
    have hm : m < l.length := by rw [← hs]; exact List.mem_range.1 h2
    refine .inr ⟨m, rfl, hm, ?_, fun i hi e => ?_⟩
    · rw [hg m hm, hc] at h1
      exact beq_iff_eq.1 h1
    · have := h3 i hi
      rw [hg i (by omega), hc, e] at this
      simp at this
end Go.Ab
/- Decimal digits as numbers; chunks of digits. -/
namespace Go.Ab
open Go.Proofs
set_option linter.unusedSectionVars false
set_option linter.unusedVariables false
set_option linter.unusedSimpArgs false
variable [Base]
/-- the number that digits write -/
def dcv (l : List UInt8) : Nat := l.foldl (fun n b => n * 10 + (b.toNat - 48)) 0
def allD (l : List UInt8) : Prop := ∀ b ∈ l, 48 ≤ b.toNat ∧ b.toNat ≤ 57
theorem dcv_nil : dcv [] = 0 := rfl
theorem dcv_fold (l : List UInt8) (n : Nat) : l.foldl (fun n b => n * 10 + (b.toNat - 48)) n = n * 10 ^ l.length + dcv l := by
  unfold dcv
  induction l generalizing n with
  | nil => simp
  | cons b r ih =>
    rw [List.foldl_cons, ih, List.foldl_cons, ih (0 * 10 + (b.toNat - 48)), List.length_cons, Nat.pow_succ, Nat.add_mul, Nat.zero_mul, Nat.zero_add, Nat.mul_assoc, Nat.mul_comm 10, Nat.add_assoc]
theorem dcv_append (a b : List UInt8) : dcv (a ++ b) = dcv a * 10 ^ b.length + dcv b := by
  unfold dcv
  rw [List.foldl_append, dcv_fold]
  rfl
theorem dcv_snoc (a : List UInt8) (b : UInt8) : dcv (a ++ [b]) = dcv a * 10 + (b.toNat - 48) := by
  rw [dcv_append]
  simp [dcv]
theorem dcv_lt {l : List UInt8} (h : allD l) : dcv l < 10 ^ l.length := by
  have key : ∀ r : List UInt8, allD r.reverse → dcv r.reverse < 10 ^ r.length := by
    intro r
    induction r with
    | nil => intro _; decide
    | cons b r ih =>
      intro h
      rw [List.reverse_cons] at h ⊢
      have h1 := ih fun x hx => h x (by simp at hx ⊢; exact .inl hx)
      have h2 := h b (by simp)
      rw [dcv_snoc, List.length_cons, Nat.pow_succ]
      omega
  have := key l.reverse (by rw [List.reverse_reverse]; exact h)
  rwa [List.reverse_reverse, List.length_reverse] at this
theorem dcv_take_succ {l : List UInt8} {i : Nat} (h : i < l.length) : dcv (l.take (i + 1)) = dcv (l.take i) * 10 + ((l.getD i 0).toNat - 48) := by
  rw [List.take_add_one, List.getElem?_eq_getElem h, Option.toList_some, dcv_snoc, List.getD, List.getElem?_eq_getElem h]
  rfl
theorem allD.take {l : List UInt8} (h : allD l) (k : Nat) : allD (l.take k) := fun b hb => h b (List.mem_of_mem_take hb)
theorem allD.drop {l : List UInt8} (h : allD l) (k : Nat) : allD (l.drop k) := fun b hb => h b (List.mem_of_mem_drop hb)
theorem allD.at {l : List UInt8} (h : allD l) {i : Nat} (hi : i < l.length) : 48 ≤ (l.getD i 0).toNat ∧ (l.getD i 0).toNat ≤ 57 := by
  rw [List.getD, List.getElem?_eq_getElem hi]
  exact h _ (List.getElem_mem hi)
/-- digits with a large number are in normal form -/
theorem dgs_of {e : List Nat} (hD : D e) (h : e ≠ [] → 4294967296 ^ (e.length - 1) ≤ val e) : e = dgs (val e) := by
  refine Can.eq ⟨hD, fun hl => ?_⟩
  obtain ⟨a, rfl⟩ : ∃ a, e = a ++ [0] := by
    have hne : e ≠ [] := fun h0 => by rw [h0] at hl; cases hl
    have hg : e.getLast hne = 0 := by
      rw [List.getLast?_eq_some_getLast hne] at hl
      exact Option.some.inj hl
    exact ⟨e.dropLast, by rw [← hg, List.dropLast_concat_getLast hne]⟩
  have h1 := h (by simp)
  rw [val_snoc, List.length_append, List.length_singleton, Nat.add_sub_cancel, Nat.mul_zero, Nat.add_zero] at h1
  have := val_lt hD.left
  omega
/-- how many bytes the next chunk has -/
def chk (n : Nat) : Nat := if n % 9 = 0 then 9 else n % 9
theorem chk_le {n : Nat} (h : 0 < n) : 0 < chk n ∧ chk n ≤ 9 ∧ chk n ≤ n ∧ (n - chk n) % 9 = 0 := by
  unfold chk
  split <;> omega
theorem pow10_9 : (10 : Nat) ^ 9 = 1000000000 := rfl
/-- a chunk is worth less than 10^9 -/
theorem dcv_chunk {l : List UInt8} (h : allD l) (hl : l.length ≤ 9) : dcv l < 1000000000 := by
  have := dcv_lt h
  have h2 : (10 : Nat) ^ l.length ≤ 10 ^ 9 := Nat.pow_le_pow_right (by omega) hl
  rw [pow10_9] at h2
  omega
end Go.Ab
/- Rows of one's own: taking from the end; two rows beside each other. -/
namespace Go.Ab
open Go.Proofs
set_option linter.unusedSectionVars false
set_option linter.unusedVariables false
set_option linter.unusedSimpArgs false
variable [Base]
section
variable {P : Program} {C : Ctx} {n : Nat} {F : Fr} {H : LH} {ops : Array Oper} {K : Fr → LH → Prop} {rest : List Oper} {ty : TypeId} {pos : String} {aft : Array Edge}
/-- a row with something in it stands in a block -/
theorem Own.blk {T : TypeId} {sz k : Nat} {cs : List SV} {s : SV} {Hs : LH} (h : Own T sz k cs s Hs) (hk : 0 < k) :
    ∃ b c, k ≤ c ∧ c ≤ maxLen ∧ s = lit (.slice (some ⟨b, 0, none⟩) k c) ∧ Hs = [(b, T, cs ++ List.replicate (c * sz - k * sz) top)] := by
  obtain ⟨_, ⟨h0, _⟩ | h⟩ := h
  · omega
  · exact h
theorem LeL.top : ∀ (l : List SV) (k : Nat), l.length = k → LeL l (List.replicate k top)
  | [], _, h => by subst h; exact trivial
  | s :: l, 0, h => by cases h
  | s :: l, k + 1, h => ⟨fun m v _ => by unfold Ab.top; trivial, LeL.top l k (by simpa using h)⟩
theorem LeL.app : ∀ {a b c d : List SV}, LeL a b → LeL c d → LeL (a ++ c) (b ++ d)
  | [], [], _, _, _, k => k
  | _ :: _, _ :: _, _, _, h, k => ⟨h.1, LeL.app h.2 k⟩
  | [], _ :: _, _, _, h, _ => h.elim
  | _ :: _, [], _, _, h, _ => h.elim
end
end Go.Ab
