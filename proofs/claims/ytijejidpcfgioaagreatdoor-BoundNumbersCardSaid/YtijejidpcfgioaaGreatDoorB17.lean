/- Texts laid one behind the other: Parse, LexS, LexW, LexX, LexY, ParseB. -/
import Derived.Test.YtijejidpcfgioaaGreatDoorB14
import Derived.Test.YtijejidpcfgioaaGreatDoorB13
import Derived.Test.YtijejidpcfgioaaGreatDoorB16
import Derived.Test.YtijejidpcfgioaaGreatDoorB12
/- The grammar of expressions without numbers, as a plain function on tokens; how many brackets a text needs at least. -/
namespace Go.Ab
open Go.Proofs
set_option linter.unusedSectionVars false
set_option linter.unusedVariables false
set_option linter.unusedSimpArgs false
variable [Base]
/-- a token: its kind (0 the end, 1 a name, 3 a sign), its text, its line and column -/
structure Tok where
  k : Nat
  t : List UInt8
  l : Nat
  c : Nat
/-- tokens end with the end, and only there -/
def TOk : List Tok → Prop
  | [] => False
  | [e] => e.k = 0 ∧ e.t = []
  | a :: r => (a.k = 1 ∨ a.k = 3) ∧ TOk r
theorem TOk.tail {a : Tok} {r : List Tok} (h : TOk (a :: r)) (h0 : a.k ≠ 0) : TOk r ∧ (a.k = 1 ∨ a.k = 3) := by
  cases r with
  | nil => exact absurd h.1 h0
  | cons b r => exact ⟨h.2, h.1⟩
theorem TOk.ne {ts : List Tok} (h : TOk ts) : ts ≠ [] := fun e => by rw [e] at h; exact h
theorem TOk.pos {ts : List Tok} (h : TOk ts) : 0 < ts.length := List.length_pos_iff.2 h.ne
theorem TOk.end {a : Tok} {r : List Tok} (h : TOk (a :: r)) (h0 : a.k = 0) : r = [] ∧ a.t = [] := by
  cases r with
  | nil => exact ⟨rfl, h.2⟩
  | cons b r => rcases h.1 with h | h <;> omega
def hd (ts : List Tok) : Tok := ts.headD ⟨0, [], 0, 0⟩
/-- the next token is a word or a sign with this text -/
def tis (ts : List Tok) (s : List UInt8) : Bool := decide ((hd ts).k ≠ 0) && decide ((hd ts).t = s)
/-- the operator that stands next: of sums (level 1), of products (level 2) -/
def opAt (lv : Nat) (ts : List Tok) : Int :=
  if lv = 1 then (if tis ts [43] = true then 1 else if tis ts [45] = true then 3 else if tis ts [94] = true then 4 else 0) else (if tis ts [42] = true then 2 else 0)
abbrev zz : RQ := ⟨false, [], []⟩
def ndB (op x y : Int) (a : Tok) : Nd := ⟨6, [], zz, zz, zz, zz, op, x, y, a.l, a.c⟩
def ndU (x : Int) (a : Tok) : Nd := ⟨5, [], zz, zz, zz, zz, 0, x, 0, a.l, a.c⟩
def ndA (k : Int) (a : Tok) : Nd := ⟨k, [], zz, zz, zz, zz, 0, 0, 0, a.l, a.c⟩
def ndN (a : Tok) : Nd := ⟨1, a.t, zz, zz, zz, zz, 0, 0, 0, a.l, a.c⟩
abbrev wAll : List UInt8 := [97, 108, 108]
abbrev wNone : List UInt8 := [110, 111, 110, 101]
abbrev wHalf : List UInt8 := [104, 97, 108, 102]
/-- level 1: sums, 2: products, 3: all others; d: brackets and ~ around; i: the number of the next part; acc: what stands on the left already -/
def prs : Nat → Nat → Nat → Nat → List Tok → Option (List Nd × Ex) → Option (List Nd × Ex × List Tok)
  | 0, _, _, _, _, _ => none
  | f + 1, lv, d, i, ts, none =>
    if lv = 3 then
      if tis ts [126] = true then
        (if 200 ≤ d then none else match prs f 3 (d + 1) i ts.tail none with
          | some (A, x, ts') => some (A ++ [ndU ((i + A.length : Nat) - 1) (hd ts)], .un (ndU ((i + A.length : Nat) - 1) (hd ts)) x, ts')
          | none => none)
      else if tis ts [40] = true then
        (if 200 ≤ d then none else match prs f 1 (d + 1) i ts.tail none with
          | some (A, x, ts') => if tis ts' [41] = true then some (A, x, ts'.tail) else none
          | none => none)
      else if tis ts wAll = true then some ([ndA 2 (hd ts)], .leaf (ndA 2 (hd ts)), ts.tail)
      else if tis ts wNone = true then some ([ndA 3 (hd ts)], .leaf (ndA 3 (hd ts)), ts.tail)
      else if tis ts wHalf = true then none
      else if (hd ts).k = 1 ∧ resv (hd ts).t = false then some ([ndN (hd ts)], .leaf (ndN (hd ts)), ts.tail)
      else none
    else match prs f (lv + 1) d i ts none with
      | some (A, x, ts') => prs f lv d i ts' (some (A, x))
      | none => none
  | f + 1, lv, d, i, ts, some (A, x) =>
    if opAt lv ts = 0 then some (A, x, ts)
    else match prs f (lv + 1) d (i + A.length) ts.tail none with
      | some (B, y, ts') => prs f lv d i ts' (some (A ++ B ++ [ndB (opAt lv ts) ((i + A.length : Nat) - 1) ((i + A.length + B.length : Nat) - 1) (hd ts)], .bi (ndB (opAt lv ts) ((i + A.length : Nat) - 1) ((i + A.length + B.length : Nat) - 1) (hd ts)) x y))
      | none => none
/-- a whole expression -/
def prsAll (ts : List Tok) : Option (List Nd × Ex) := match prs (8 * ts.length + 8) 1 0 0 ts none with
  | some (A, x, ts') => if (hd ts').k = 0 then some (A, x) else none
  | none => none
/-- opening brackets among tokens -/
def cntO (ts : List Tok) : Nat := (ts.filter fun a => decide (a.t = [40])).length
theorem tis_ne {ts : List Tok} {s : List UInt8} (h : tis ts s = true) : ∃ a r, ts = a :: r ∧ a.k ≠ 0 ∧ a.t = s := by
  unfold tis hd at h
  cases ts with
  | nil => simp at h
  | cons a r => simp at h; exact ⟨a, r, rfl, h.1, h.2⟩
theorem cntO_cons (a : Tok) (r : List Tok) : cntO (a :: r) = cntO r + (if a.t = [40] then 1 else 0) := by
  unfold cntO
  rw [List.filter_cons]
  by_cases h : a.t = [40]
  · rw [if_pos h, if_pos (by simpa using h)]; rfl
  · rw [if_neg h, if_neg (by simpa using h)]; rfl
theorem opAt_ne {lv : Nat} {ts : List Tok} (h : opAt lv ts ≠ 0) : (∃ a r, ts = a :: r ∧ a.k ≠ 0) ∧ (lv = 1 → opAt lv ts = 1 ∨ opAt lv ts = 3 ∨ opAt lv ts = 4) ∧ (lv ≠ 1 → opAt lv ts = 2) := by
  unfold opAt at *
  by_cases h1 : lv = 1
  · simp only [if_pos h1] at h ⊢
    by_cases c1 : tis ts [43] = true
    · obtain ⟨a, r, e, k, _⟩ := tis_ne c1
      rw [if_pos c1]; exact ⟨⟨a, r, e, k⟩, fun _ => .inl rfl, fun h => absurd h1 h⟩
    · rw [if_neg c1] at h ⊢
      by_cases c2 : tis ts [45] = true
      · obtain ⟨a, r, e, k, _⟩ := tis_ne c2
        rw [if_pos c2]; exact ⟨⟨a, r, e, k⟩, fun _ => .inr (.inl rfl), fun h => absurd h1 h⟩
      · rw [if_neg c2] at h ⊢
        by_cases c3 : tis ts [94] = true
        · obtain ⟨a, r, e, k, _⟩ := tis_ne c3
          rw [if_pos c3]; exact ⟨⟨a, r, e, k⟩, fun _ => .inr (.inr rfl), fun h => absurd h1 h⟩
        · rw [if_neg c3] at h; exact absurd rfl h
  · simp only [if_neg h1] at h ⊢
    by_cases c1 : tis ts [42] = true
    · obtain ⟨a, r, e, k, _⟩ := tis_ne c1
      rw [if_pos c1]; exact ⟨⟨a, r, e, k⟩, fun h => absurd h h1, fun _ => rfl⟩
    · rw [if_neg c1] at h; exact absurd rfl h
end Go.Ab
/- Tokens of texts of letters, blanks and signs, as a plain function. -/
namespace Go.Ab
open Go.Proofs
set_option linter.unusedSectionVars false
set_option linter.unusedVariables false
set_option linter.unusedSimpArgs false
variable [Base]
/-- a letter, a blank or a sign -/
def okC (b : UInt8) : Bool := decide (b.toNat = 32) || decide (clsN b.toNat = 3) || decide (clsN b.toNat = 5)
def skipN (l : List UInt8) : Nat := (l.takeWhile fun b => decide (b.toNat = 32)).length
def runN (l : List UInt8) : Nat := (l.takeWhile fun b => decide (clsN b.toNat = 3)).length
theorem takeWhile_le {α : Type} (p : α → Bool) : ∀ l : List α, (l.takeWhile p).length ≤ l.length
  | [] => Nat.le_refl _
  | a :: l => by
    rw [List.takeWhile_cons]
    split
    · simp only [List.length_cons]; have := takeWhile_le p l; omega
    · simp
theorem skipN_le (l : List UInt8) : skipN l ≤ l.length := takeWhile_le _ l
theorem runN_le (l : List UInt8) : runN l ≤ l.length := takeWhile_le _ l
def lexF : Nat → List UInt8 → Nat → Option (List Tok)
  | 0, _, _ => none
  | f + 1, l, c => match l.drop (skipN l) with
    | [] => some [⟨0, [], 1, c + skipN l⟩]
    | b :: r => if clsN b.toNat = 3 then
        (if 24 < runN (b :: r) then none else match lexF f ((b :: r).drop (runN (b :: r))) (c + skipN l + runN (b :: r)) with
          | some ts => some (⟨1, (b :: r).take (runN (b :: r)), 1, c + skipN l⟩ :: ts)
          | none => none)
      else match lexF f r (c + skipN l + 1) with
        | some ts => some (⟨3, [b], 1, c + skipN l⟩ :: ts)
        | none => none
/-- the tokens of a text -/
def lexT (l : List UInt8) : Option (List Tok) := lexF (l.length + 1) l 1
theorem runN_pos {b : UInt8} {r : List UInt8} (h : clsN b.toNat = 3) : 1 ≤ runN (b :: r) := by
  unfold runN
  rw [List.takeWhile_cons, if_pos (by simpa using h)]
  simp
theorem lexF_ok : ∀ (f : Nat) (l : List UInt8) (c : Nat) (ts : List Tok), lexF f l c = some ts → TOk ts ∧ cntO ts ≤ (l.filter fun b => decide (b = 40)).length ∧ ∀ a ∈ ts, a.l = 1 ∧ 1 ≤ c → 1 ≤ a.c := by
  intro f
  induction f with
  | zero => intro l c ts h; unfold lexF at h; cases h
  | succ f ih =>
    intro l c ts h
    unfold lexF at h
    have hf : ∀ k, ((l.drop k).filter fun b => decide (b = (40 : UInt8))).length ≤ (l.filter fun b => decide (b = (40 : UInt8))).length := fun k => ((List.drop_sublist k l).filter _).length_le
    have h0 := hf (skipN l)
    cases hl : l.drop (skipN l) with
    | nil =>
      rw [hl] at h
      simp only [Option.some.injEq] at h
      subst h
      refine ⟨⟨rfl, rfl⟩, by unfold cntO; simp, fun a ha h => ?_⟩
      rw [List.mem_singleton.1 ha]
      simp only; omega
    | cons b r =>
      rw [hl] at h h0
      simp only at h
      by_cases h3 : clsN b.toNat = 3
      · rw [if_pos h3] at h
        have hp := runN_pos (r := r) h3
        by_cases h24 : 24 < runN (b :: r)
        · rw [if_pos h24] at h; cases h
        · rw [if_neg h24] at h
          cases hr : lexF f ((b :: r).drop (runN (b :: r))) (c + skipN l + runN (b :: r)) with
          | none => rw [hr] at h; cases h
          | some ts1 =>
            rw [hr] at h
            simp only [Option.some.injEq] at h
            subst h
            obtain ⟨g1, g2, g3⟩ := ih _ _ _ hr
            have hs := (((List.drop_sublist (runN (b :: r)) (b :: r)).filter fun b => decide (b = (40 : UInt8))).length_le)
            refine ⟨?_, ?_, fun a ha h => ?_⟩
            · cases ts1 with
              | nil => exact g1.elim
              | cons a1 r1 => exact ⟨.inl rfl, g1⟩
            · rw [cntO_cons, if_neg]
              · omega
              · intro e
                simp only at e
                have hb : b = 40 := by
                  have h4 : (b :: r).take (runN (b :: r)) = b :: r.take (runN (b :: r) - 1) := by
                    obtain ⟨m, hm⟩ : ∃ m, runN (b :: r) = m + 1 := ⟨runN (b :: r) - 1, by omega⟩
                    rw [hm]; rfl
                  rw [h4] at e
                  exact (List.cons.inj e).1
                rw [hb] at h3
                revert h3; decide +kernel
            · rcases List.mem_cons.1 ha with rfl | ha
              · simp only; omega
              · exact g3 a ha ⟨h.1, by omega⟩
      · rw [if_neg h3] at h
        cases hr : lexF f r (c + skipN l + 1) with
        | none => rw [hr] at h; cases h
        | some ts1 =>
          rw [hr] at h
          simp only [Option.some.injEq] at h
          subst h
          obtain ⟨g1, g2, g3⟩ := ih _ _ _ hr
          refine ⟨?_, ?_, fun a ha h => ?_⟩
          · cases ts1 with
            | nil => exact g1.elim
            | cons a1 r1 => exact ⟨.inr rfl, g1⟩
          · rw [cntO_cons]
            rw [List.filter_cons] at h0
            by_cases hb : b = 40
            · subst hb
              rw [if_pos rfl]
              simp at h0
              omega
            · rw [if_neg (fun e => hb (List.cons.inj e).1)]
              rw [if_neg (by simpa using hb)] at h0
              omega
          · rcases List.mem_cons.1 ha with rfl | ha
            · simp only; omega
            · exact g3 a ha ⟨h.1, by omega⟩
end Go.Ab
/- The lexer, walked over texts of letters, blanks and signs. -/
namespace Go.Ab
open Go.Proofs
set_option linter.unusedSectionVars false
set_option linter.unusedVariables false
set_option linter.unusedSimpArgs false
variable [Base]
abbrev rdT : TypeId := 235
abbrev tkT : TypeId := 157
abbrev rdC (l : List UInt8) (k : Nat) : List SV := [str l, lit (.int .i64 k), lit (.int .i64 1), lit (.int .i64 (k + 1 : Nat))]
abbrev tkx (a : Tok) : List SV := [lit (.int .i64 a.k), str a.t, lit (.int .i64 a.l), lit (.int .i64 a.c)]
/-- some error of the package -/
abbrev errE : SV := ifc 70 Ab.top
theorem Le.ifcT {t : TypeId} {s : SV} : Le (ifc t s) (ifc t Ab.top) := fun m v h => by
  unfold ifc at *
  obtain ⟨u, rfl, _⟩ := h
  exact ⟨u, rfl, by unfold Ab.top; trivial⟩
theorem Le.ifcL {t : TypeId} {u : Value} : Le (lit (.iface t u)) (ifc t Ab.top) := fun m v h => by
  rw [lit_p] at h
  unfold ifc
  exact ⟨u, h, by unfold Ab.top; trivial⟩
section
variable {P : Program} {F : Fr} {H : LH} {ty : TypeId}
theorem ov_ineF {T T' u : TypeId} {s : SV} {x : Operand} (hT : P.isIface T = true) (hx : ev F x = ifc u s) : OpV P (.binOp .neq T x (.const .nilIface) T') ty F H (lit (.bool true)) :=
  OpV.pure fun m w o a ho _ _ _ h => by
    have h0 := h x (by simp [Op.operands]); rw [hx] at h0
    unfold ifc at h0
    obtain ⟨v, h0, _⟩ := h0
    have e1 : a.eval (.const .nilIface) = .nilIface := rfl
    exact ⟨.bool true, by simp [execOp, ho, h0, e1, run_neq_iface_nil w T hT u v, Go.eqGuard], lit_p.2 rfl⟩
end
theorem take_drop_eq (l : List UInt8) (k n : Nat) : (l.take (k + n)).drop k = (l.drop k).take n := by
  rw [List.drop_take, Nat.add_sub_cancel_left]
theorem rdC_add (l : List UInt8) (k n : Nat) : rdC l (k + n) = [str l, lit (.int .i64 ((k : Int) + n)), lit (.int .i64 1), lit (.int .i64 (((k + 1 : Nat) : Int) + n))] := by
  show [str l, lit (.int .i64 ((k + n : Nat) : Int)), lit (.int .i64 1), lit (.int .i64 ((k + n + 1 : Nat) : Int))] = _
  rw [show ((k + n : Nat) : Int) = (k : Int) + n by omega, show ((k + n + 1 : Nat) : Int) = ((k + 1 : Nat) : Int) + n by omega]
theorem rtake_pu (r : Nat) (l : List UInt8) (k n : Nat) (h : k + n ≤ l.length) (hl : l.length ≤ 100000) :
    PuH Tryz.prog 188 [lit (.pointer (some ⟨r, 0, none⟩)), lit (.int .i64 n)] [(r, rdT, rdC l k)] (fun v H => v = str ((l.drop k).take n) ∧ H = [(r, rdT, rdC l (k + n))]) noX := by
  rw [← take_drop_eq]
  refine PuH.intro Tryz.func188 rfl (by kernel_rfl) fun C hC => ?_
  repeat (refine A1 ⟨?_⟩; intros)
  refine Wdo (ov_ssl (i := k) (j := k + n) rfl (fun y hy => by cases hy; exact ⟨_, _, rfl, rfl⟩) (fun h => by cases h) (fun y hy => by cases hy; exact ⟨_, _, rfl, by omega⟩) (fun h => by cases h) (by omega) h) ?_
  repeat (refine A1 ⟨?_⟩; intros)
  exact endHR _ _ (end1 (RV.tmp rfl) (Le.refl _)) (List.Sublist.refl _) ⟨rfl, by rw [rdC_add]⟩
theorem skipN_32 {b : UInt8} (h : b.toNat = 32) (r : List UInt8) : skipN (b :: r) = skipN r + 1 := by
  unfold skipN; rw [List.takeWhile_cons, if_pos (by simpa using h)]; rfl
theorem skipN_ne {b : UInt8} (h : b.toNat ≠ 32) (r : List UInt8) : skipN (b :: r) = 0 := by
  unfold skipN; rw [List.takeWhile_cons, if_neg (by simpa using h)]; rfl
theorem runN_3 {b : UInt8} (h : clsN b.toNat = 3) (r : List UInt8) : runN (b :: r) = runN r + 1 := by
  unfold runN; rw [List.takeWhile_cons, if_pos (by simpa using h)]; rfl
theorem runN_ne {b : UInt8} (h : clsN b.toNat ≠ 3) (r : List UInt8) : runN (b :: r) = 0 := by
  unfold runN; rw [List.takeWhile_cons, if_neg (by simpa using h)]; rfl
theorem cls_ok {b : UInt8} (h : okC b = true) : (b.toNat = 32 ∧ clsN b.toNat = 1) ∨ (b.toNat ≠ 32 ∧ clsN b.toNat = 3) ∨ (b.toNat ≠ 32 ∧ clsN b.toNat = 5) := by
  have h32 : clsN 32 = 1 := by decide +kernel
  by_cases e : b.toNat = 32
  · exact .inl ⟨e, by rw [e]; exact h32⟩
  · unfold okC at h
    rw [decide_eq_false e, Bool.false_or, Bool.or_eq_true] at h
    rcases h with h | h
    · exact .inr (.inl ⟨e, of_decide_eq_true h⟩)
    · exact .inr (.inr ⟨e, of_decide_eq_true h⟩)
theorem at_byte {l : List UInt8} {j : Nat} (h : j < l.length) : ∃ b, l.drop j = b :: l.drop (j + 1) ∧ b ∈ l ∧ l.getD j 0 = b :=
  ⟨l[j], List.drop_eq_getElem_cons h, List.getElem_mem h, by simp [List.getD, h]⟩
theorem skip_pu (r : Nat) (l : List UInt8) (k : Nat) (hok : ∀ b ∈ l, okC b = true) (hk : k ≤ l.length) (hl : l.length ≤ 100000) :
    PuH Tryz.prog 186 [lit (.pointer (some ⟨r, 0, none⟩))] [(r, rdT, rdC l k)] (fun v H => v = Ab.tup [] ∧ H = [(r, rdT, rdC l (k + skipN (l.drop k)))]) noX := by
  refine PuH.intro Tryz.func186 rfl (by kernel_rfl) fun C hC => ?_
  refine WP.block ?_
  refine WP.loopS (ι := Nat) (fun j => j ≤ l.length ∧ j + skipN (l.drop j) = k + skipN (l.drop k)) (fun j => l.length - j) (fun j => fm [(0, lit (.pointer (some ⟨r, 0, none⟩)))]) (fun j => [(r, rdT, rdC l j)]) k ⟨hk, rfl⟩ (by (repeat (first | exact LeF.nil _ | refine LeF.cons (Le.refl _) ?_ | refine LeF.cons (Le.int (by omega)) ?_))) (List.Sublist.refl _) ?_
  rintro j ⟨hj, hs⟩ K hK
  by_cases hjl : j < l.length
  · obtain ⟨b, hd, hm, hg⟩ := at_byte hjl
    have hb := b.toNat_lt
    have c1 := classOf_pu (b := b.toNat) (by omega)
    rcases cls_ok (hok b hm) with ⟨h32, hc⟩ | ⟨h32, hc⟩ | ⟨h32, hc⟩
    · rw [hc, ← hg] at c1
      have c2 := rtake_pu r l j 1 (by omega) hl
      rw [show ((1 : Nat) : Int) = 1 from rfl] at c2
      rw [hd, List.take_succ_cons, List.take_zero, show b = 32 from UInt8.toNat_inj.1 h32] at c2
      rw [hd, skipN_32 h32] at hs
      have hgo := fun F' H' => hK F' H' (j + 1) ⟨by omega, by omega⟩ (by omega)
      clear hK hs
      repeat (first | (refine A1 ⟨?_⟩; intros) | (refine Wcx (c1) ?_) | (refine Wdcx (c1) ?_) | (refine Wcgx (c1) ?_) | (refine Wdcgx (c1) ?_))
      refine WfT c2 ?_
      rintro _ _ ⟨rfl, rfl⟩
      simp only [List.cons_append, List.nil_append]
      repeat (refine A1 ⟨?_⟩; intros)
      exact hgo _ _ (by (repeat (first | exact LeF.nil _ | refine LeF.cons (Le.refl _) ?_ | refine LeF.cons (Le.int (by omega)) ?_))) (List.Sublist.refl _)
    · rw [hc, ← hg] at c1
      rw [hd, skipN_ne h32] at hs
      clear hK
      have hj' : j = k + skipN (l.drop k) := by omega
      subst hj'
      repeat (first | (refine A1 ⟨?_⟩; intros) | (refine Wcx (c1) ?_) | (refine Wdcx (c1) ?_) | (refine Wcgx (c1) ?_) | (refine Wdcgx (c1) ?_))
      exact endHR _ _ end0 (List.Sublist.refl _) ⟨rfl, rfl⟩
    · rw [hc, ← hg] at c1
      rw [hd, skipN_ne h32] at hs
      clear hK
      have hj' : j = k + skipN (l.drop k) := by omega
      subst hj'
      repeat (first | (refine A1 ⟨?_⟩; intros) | (refine Wcx (c1) ?_) | (refine Wdcx (c1) ?_) | (refine Wcgx (c1) ?_) | (refine Wdcgx (c1) ?_))
      exact endHR _ _ end0 (List.Sublist.refl _) ⟨rfl, rfl⟩
  · rw [List.drop_eq_nil_of_le (by omega)] at hs
    have hj' : j = k + skipN (l.drop k) := by unfold skipN at hs ⊢; simpa using hs
    subst hj'
    clear hK
    repeat (refine A1 ⟨?_⟩; intros)
    exact endHN _ _ end0 (List.Sublist.refl _) ⟨rfl, rfl⟩
theorem rrun_pu (r : Nat) (l : List UInt8) (k : Nat) (hok : ∀ b ∈ l, okC b = true) (hk : k ≤ l.length) (hl : l.length ≤ 100000) :
    PuH Tryz.prog 189 [lit (.pointer (some ⟨r, 0, none⟩)), sl [lit (.int .i64 3), lit (.int .i64 4)] 2] [(r, rdT, rdC l k)] (fun v H => v = lit (.int .i64 (runN (l.drop k) : Nat)) ∧ H = [(r, rdT, rdC l k)]) noX := by
  refine PuH.intro Tryz.func189 rfl (by kernel_rfl) fun C hC => ?_
  repeat (refine A1 ⟨?_⟩; intros)
  refine WP.loopS (ι := Nat) (fun j => k + j ≤ l.length ∧ j + runN (l.drop (k + j)) = runN (l.drop k)) (fun j => l.length - (k + j))
    (fun j => fm [(0, lit (.pointer (some ⟨r, 0, none⟩))), (1, sl [lit (.int .i64 3), lit (.int .i64 4)] 2), (5, lit (.int .i64 j))]) (fun j => [(r, rdT, rdC l k)]) 0 ⟨hk, by rw [Nat.add_zero, Nat.zero_add]⟩ (by (repeat (first | exact LeF.nil _ | refine LeF.cons (Le.refl _) ?_ | refine LeF.cons (Le.int (by omega)) ?_))) (List.Sublist.refl _) ?_
  rintro j ⟨hj, hs⟩ K hK
  by_cases hjl : k + j < l.length
  · obtain ⟨b, hd, hm, hg⟩ := at_byte hjl
    have hb := b.toNat_lt
    have c1 := classOf_pu (b := b.toNat) (by omega)
    rcases cls_ok (hok b hm) with ⟨h32, hc⟩ | ⟨h32, hc⟩ | ⟨h32, hc⟩
    · rw [hc, ← hg] at c1
      rw [hd, runN_ne (by omega)] at hs
      clear hK
      have hj' : j = runN (l.drop k) := by omega
      subst hj'
      repeat (first | (refine A1 ⟨?_⟩; intros) | (refine Wcx (c1) ?_) | (refine Wdcx (c1) ?_) | (refine Wcgx (c1) ?_) | (refine Wdcgx (c1) ?_))
      refine WP.unroll 3 ?_
      refine WPR.succ ?_
      repeat (refine A1 ⟨?_⟩; intros)
      refine Wo (ov_idxS (cs' := [lit (.int .i64 3)]) rfl rfl (by omega) (by omega) rfl (by simp)) ?_
      repeat (refine A1 ⟨?_⟩; intros)
      refine Wo (ov_idxS (cs' := [lit (.int .i64 4)]) rfl rfl (by omega) (by omega) rfl (by simp)) ?_
      repeat (refine A1 ⟨?_⟩; intros)
      exact endHR _ _ (end1 (RV.tmp rfl) (Le.refl _)) (List.Sublist.refl _) ⟨rfl, rfl⟩
    · rw [hc, ← hg] at c1
      rw [hd, runN_3 hc] at hs
      have hgo := fun F' H' => hK F' H' (j + 1) ⟨by omega, by rw [show k + (j + 1) = k + j + 1 by omega]; omega⟩ (by omega)
      clear hK hs
      repeat (first | (refine A1 ⟨?_⟩; intros) | (refine Wcx (c1) ?_) | (refine Wdcx (c1) ?_) | (refine Wcgx (c1) ?_) | (refine Wdcgx (c1) ?_))
      refine WP.unroll 3 ?_
      refine WPR.succ ?_
      repeat (refine A1 ⟨?_⟩; intros)
      refine Wo (ov_idxS (cs' := [lit (.int .i64 3)]) rfl rfl (by omega) (by omega) rfl (by simp)) ?_
      repeat (refine A1 ⟨?_⟩; intros)
      exact hgo _ _ (by (repeat (first | exact LeF.nil _ | refine LeF.cons (Le.refl _) ?_ | refine LeF.cons (Le.int (by omega)) ?_))) (List.Sublist.refl _)
    · rw [hc, ← hg] at c1
      rw [hd, runN_ne (by omega)] at hs
      clear hK
      have hj' : j = runN (l.drop k) := by omega
      subst hj'
      repeat (first | (refine A1 ⟨?_⟩; intros) | (refine Wcx (c1) ?_) | (refine Wdcx (c1) ?_) | (refine Wcgx (c1) ?_) | (refine Wdcgx (c1) ?_))
      refine WP.unroll 3 ?_
      refine WPR.succ ?_
      repeat (refine A1 ⟨?_⟩; intros)
      refine Wo (ov_idxS (cs' := [lit (.int .i64 3)]) rfl rfl (by omega) (by omega) rfl (by simp)) ?_
      repeat (refine A1 ⟨?_⟩; intros)
      refine Wo (ov_idxS (cs' := [lit (.int .i64 4)]) rfl rfl (by omega) (by omega) rfl (by simp)) ?_
      repeat (refine A1 ⟨?_⟩; intros)
      exact endHR _ _ (end1 (RV.tmp rfl) (Le.refl _)) (List.Sublist.refl _) ⟨rfl, rfl⟩
  · rw [List.drop_eq_nil_of_le (by omega)] at hs
    have hj' : j = runN (l.drop k) := by unfold runN at hs ⊢; simpa using hs
    subst hj'
    clear hK
    repeat (refine A1 ⟨?_⟩; intros)
    exact endHR _ _ (end1 (RV.tmp rfl) (Le.refl _)) (List.Sublist.refl _) ⟨rfl, rfl⟩
end Go.Ab
/- The lexer, walked: tokens. -/
namespace Go.Ab
open Go.Proofs
set_option linter.unusedSectionVars false
set_option linter.unusedVariables false
set_option linter.unusedSimpArgs false
variable [Base]
/-- the next token at place k, and the place behind it -/
def nx (l : List UInt8) (k : Nat) : Option (Tok × Nat) := match l.drop (k + skipN (l.drop k)) with
  | [] => some (⟨0, [], 1, k + skipN (l.drop k) + 1⟩, k + skipN (l.drop k))
  | b :: r => if clsN b.toNat = 3 then (if 24 < runN (b :: r) then none else some (⟨1, (b :: r).take (runN (b :: r)), 1, k + skipN (l.drop k) + 1⟩, k + skipN (l.drop k) + runN (b :: r)))
    else some (⟨3, [b], 1, k + skipN (l.drop k) + 1⟩, k + skipN (l.drop k) + 1)
theorem lexF_succ (f : Nat) (l : List UInt8) (c : Nat) : lexF (f + 1) l c = match l.drop (skipN l) with
    | [] => some [⟨0, [], 1, c + skipN l⟩]
    | b :: r => if clsN b.toNat = 3 then
        (if 24 < runN (b :: r) then none else match lexF f ((b :: r).drop (runN (b :: r))) (c + skipN l + runN (b :: r)) with
          | some ts => some (⟨1, (b :: r).take (runN (b :: r)), 1, c + skipN l⟩ :: ts)
          | none => none)
      else match lexF f r (c + skipN l + 1) with
        | some ts => some (⟨3, [b], 1, c + skipN l⟩ :: ts)
        | none => none := rfl
theorem lexF_nx (f : Nat) (l : List UInt8) (k : Nat) : lexF (f + 1) (l.drop k) (k + 1) = match nx l k with
    | none => none
    | some (t, k') => if t.k = 0 then some [t] else match lexF f (l.drop k') (k' + 1) with
      | some ts => some (t :: ts)
      | none => none := by
  have hdd : (l.drop k).drop (skipN (l.drop k)) = l.drop (k + skipN (l.drop k)) := by rw [List.drop_drop]
  rw [lexF_succ]
  unfold nx
  rw [hdd]
  generalize hr : l.drop (k + skipN (l.drop k)) = R
  cases R with
  | nil => simp only [if_true]; rw [show k + 1 + skipN (l.drop k) = k + skipN (l.drop k) + 1 by omega]
  | cons b r =>
    simp only
    by_cases h3 : clsN b.toNat = 3
    · rw [if_pos h3, if_pos h3]
      by_cases h24 : 24 < runN (b :: r)
      · rw [if_pos h24, if_pos h24]
      · rw [if_neg h24, if_neg h24]
        simp only
        rw [if_neg (by decide), show (b :: r).drop (runN (b :: r)) = l.drop (k + skipN (l.drop k) + runN (b :: r)) by rw [← hr, List.drop_drop], show k + 1 + skipN (l.drop k) + runN (b :: r) = k + skipN (l.drop k) + runN (b :: r) + 1 by omega, show k + 1 + skipN (l.drop k) = k + skipN (l.drop k) + 1 by omega]
    · rw [if_neg h3, if_neg h3]
      simp only
      rw [if_neg (by decide), show r = l.drop (k + skipN (l.drop k) + 1) by rw [← List.drop_drop, hr]; rfl, show k + 1 + skipN (l.drop k) + 1 = k + skipN (l.drop k) + 1 + 1 by omega, show k + 1 + skipN (l.drop k) = k + skipN (l.drop k) + 1 by omega]
theorem skip_head : ∀ (l : List UInt8) (b : UInt8) (r : List UInt8), l.drop (skipN l) = b :: r → b.toNat ≠ 32
  | [], _, _, h => by simp at h
  | c :: l, b, r, h => by
    by_cases h32 : c.toNat = 32
    · rw [skipN_32 h32] at h
      exact skip_head l b r h
    · rw [skipN_ne h32] at h
      rw [List.drop_zero] at h
      obtain ⟨rfl, _⟩ := List.cons.inj h
      exact h32
set_option maxHeartbeats 4000000 in
theorem rnext_pu [Sent 4] (r : Nat) (l : List UInt8) (k : Nat) (hok : ∀ b ∈ l, okC b = true) (hk : k ≤ l.length) (hl : l.length ≤ 100000) :
    PuH Tryz.prog 154 [lit (.pointer (some ⟨r, 0, none⟩))] [(r, rdT, rdC l k)] (fun v H => match nx l k with
      | some (t, k') => v = Ab.tup [ag (tkx t), lit .nilIface] ∧ H = [(r, rdT, rdC l k')]
      | none => v = Ab.tup [ag (tkx ⟨0, [], 0, 0⟩), errE]) noX := by
  have hsk := skipN_le (l.drop k)
  rw [List.length_drop] at hsk
  have c0 := skip_pu r l k hok hk hl
  unfold nx
  have ha : k + skipN (l.drop k) ≤ l.length := by omega
  clear hsk
  have hns : ∀ b r, l.drop (k + skipN (l.drop k)) = b :: r → b.toNat ≠ 32 := fun b r h => skip_head (l.drop k) b r (by rw [List.drop_drop]; exact h)
  generalize k + skipN (l.drop k) = a at *
  by_cases hal : a < l.length
  · obtain ⟨b, hd, hm, hg⟩ := at_byte hal
    have hb := b.toNat_lt
    have c1 := classOf_pu (b := b.toNat) (by omega)
    rcases cls_ok (hok b hm) with ⟨h32, hc⟩ | ⟨h32, hc⟩ | ⟨h32, hc⟩
    · exact absurd h32 (hns b _ hd)
    · rw [hd]
      simp only
      rw [if_pos hc, ← hd]
      rw [hc, ← hg] at c1
      have c2 := rrun_pu r l a hok ha hl
      have hn1 := runN_pos (r := l.drop (a + 1)) hc
      have hn2 := runN_le (l.drop a)
      rw [← hd] at hn1
      rw [List.length_drop] at hn2
      have c3 := rtake_pu r l a (runN (l.drop a)) (by omega) hl
      have hlen : ((l.drop a).take (runN (l.drop a))).length = runN (l.drop a) := by rw [List.length_take, List.length_drop]; omega
      generalize runN (l.drop a) = n at *
      generalize (l.drop a).take n = tx at *
      clear hd hg
      by_cases h24 : 24 < n
      · rw [if_pos h24]
        simp only
        refine PuH.intro Tryz.func154 rfl (by kernel_rfl) fun C hC => ?_
        repeat (refine A1 ⟨?_⟩; intros)
        refine WfT c0 ?_
        rintro _ _ ⟨rfl, rfl⟩
        simp only [List.cons_append, List.nil_append]
        repeat (first | (refine A1 ⟨?_⟩; intros) | (refine Wcx (c1) ?_) | (refine Wdcx (c1) ?_) | (refine Wcgx (c1) ?_) | (refine Wdcgx (c1) ?_))
        refine WpubS 46 rfl (HDel.here _) (by omega) (by omega) ?_
        refine WfT c2 ?_
        rintro _ _ ⟨rfl, rfl⟩
        simp only [List.cons_append, List.nil_append]
        refine WfT c3 ?_
        rintro _ _ ⟨rfl, rfl⟩
        simp only [List.cons_append, List.nil_append]
        repeat (first | (refine AS ⟨?_⟩; intros) | (refine O1 ⟨?_⟩; intros))
        rename_i b2 b4 b46
        refine WP.perm (List.Perm.swap _ _ _) ?_
        refine WdM [11] [(b4, tkT, [lit (.int .i64 1), str tx, lit (.int .i64 1), lit (.int .i64 (a + 1 : Nat))]), (r, rdT, rdC l (a + n))] (fun _ => [(b2, tkT, tkx ⟨0, [], 0, 0⟩)]) ?_
        refine MkD 11 ?_
        repeat (refine A1 ⟨?_⟩; intros)
        refine Wdo (ov_boxP (sv := ag _) rfl) ?_
        refine Wdo (ov_makeIface (s := pt _) (by kernel_rfl) rfl) ?_
        repeat (refine A1 ⟨?_⟩; intros)
        refine mkD0 ?_
        refine MkR (sv := top) (TS.store (sv := ag (tkx ⟨0, [], 0, 0⟩)) (ds := tkx ⟨0, [], 0, 0⟩) rfl rfl rfl rfl (HUpd.here _) rfl rfl) ?_
        refine MkD 1 ?_
        repeat (refine A1 ⟨?_⟩; intros)
        refine mkD0 ?_
        refine MkN ?_
        repeat (refine A1 ⟨?_⟩; intros)
        exact endHR (Ab.tup [ag (tkx ⟨0, [], 0, 0⟩), errE]) [] (end2 (RV.cellA rfl (by (first | exact List.mem_cons_self | exact (List.mem_cons_of_mem _ List.mem_cons_self) | exact (List.mem_cons_of_mem _ (List.mem_cons_of_mem _ List.mem_cons_self)) | exact (List.mem_cons_of_mem _ (List.mem_cons_of_mem _ (List.mem_cons_of_mem _ List.mem_cons_self))) | exact (List.mem_cons_of_mem _ (List.mem_cons_of_mem _ (List.mem_cons_of_mem _ (List.mem_cons_of_mem _ List.mem_cons_self)))) | exact (List.mem_cons_of_mem _ (List.mem_cons_of_mem _ (List.mem_cons_of_mem _ (List.mem_cons_of_mem _ (List.mem_cons_of_mem _ List.mem_cons_self))))) | exact (List.mem_cons_of_mem _ (List.mem_cons_of_mem _ (List.mem_cons_of_mem _ (List.mem_cons_of_mem _ (List.mem_cons_of_mem _ (List.mem_cons_of_mem _ List.mem_cons_self)))))) | exact (List.mem_cons_of_mem _ (List.mem_cons_of_mem _ (List.mem_cons_of_mem _ (List.mem_cons_of_mem _ (List.mem_cons_of_mem _ (List.mem_cons_of_mem _ (List.mem_cons_of_mem _ List.mem_cons_self))))))))) rfl rfl) (RV.tmp rfl) (Le.tup2 (Le.refl _) Le.ifcT)) (List.nil_sublist _) rfl
      · rw [if_neg h24]
        simp only
        refine PuH.intro Tryz.func154 rfl (by kernel_rfl) fun C hC => ?_
        repeat (refine A1 ⟨?_⟩; intros)
        refine WfT c0 ?_
        rintro _ _ ⟨rfl, rfl⟩
        simp only [List.cons_append, List.nil_append]
        repeat (first | (refine A1 ⟨?_⟩; intros) | (refine Wcx (c1) ?_) | (refine Wdcx (c1) ?_) | (refine Wcgx (c1) ?_) | (refine Wdcgx (c1) ?_))
        refine WpubS 46 rfl (HDel.here _) (by omega) (by omega) ?_
        refine WfT c2 ?_
        rintro _ _ ⟨rfl, rfl⟩
        simp only [List.cons_append, List.nil_append]
        refine WfT c3 ?_
        rintro _ _ ⟨rfl, rfl⟩
        simp only [List.cons_append, List.nil_append]
        repeat (refine A1 ⟨?_⟩; intros)
        exact endHR _ _ (end2 (RV.cellA rfl (by (first | exact List.mem_cons_self | exact (List.mem_cons_of_mem _ List.mem_cons_self) | exact (List.mem_cons_of_mem _ (List.mem_cons_of_mem _ List.mem_cons_self)) | exact (List.mem_cons_of_mem _ (List.mem_cons_of_mem _ (List.mem_cons_of_mem _ List.mem_cons_self))) | exact (List.mem_cons_of_mem _ (List.mem_cons_of_mem _ (List.mem_cons_of_mem _ (List.mem_cons_of_mem _ List.mem_cons_self)))) | exact (List.mem_cons_of_mem _ (List.mem_cons_of_mem _ (List.mem_cons_of_mem _ (List.mem_cons_of_mem _ (List.mem_cons_of_mem _ List.mem_cons_self))))) | exact (List.mem_cons_of_mem _ (List.mem_cons_of_mem _ (List.mem_cons_of_mem _ (List.mem_cons_of_mem _ (List.mem_cons_of_mem _ (List.mem_cons_of_mem _ List.mem_cons_self)))))) | exact (List.mem_cons_of_mem _ (List.mem_cons_of_mem _ (List.mem_cons_of_mem _ (List.mem_cons_of_mem _ (List.mem_cons_of_mem _ (List.mem_cons_of_mem _ (List.mem_cons_of_mem _ List.mem_cons_self))))))))) rfl rfl) (RV.tmp rfl) (Le.refl _)) (by repeat (first | exact List.Sublist.refl _ | refine List.Sublist.cons _ ?_)) ⟨rfl, rfl⟩
    · rw [hd]
      simp only
      rw [if_neg (by omega)]
      rw [hc, ← hg] at c1
      have c3 := rtake_pu r l a 1 (by omega) hl
      rw [hd, List.take_succ_cons, List.take_zero, show ((1 : Nat) : Int) = 1 from rfl] at c3
      clear hd hg
      refine PuH.intro Tryz.func154 rfl (by kernel_rfl) fun C hC => ?_
      repeat (refine A1 ⟨?_⟩; intros)
      refine WfT c0 ?_
      rintro _ _ ⟨rfl, rfl⟩
      simp only [List.cons_append, List.nil_append]
      repeat (first | (refine A1 ⟨?_⟩; intros) | (refine Wcx (c1) ?_) | (refine Wdcx (c1) ?_) | (refine Wcgx (c1) ?_) | (refine Wdcgx (c1) ?_))
      refine WfT c3 ?_
      rintro _ _ ⟨rfl, rfl⟩
      simp only [List.cons_append, List.nil_append]
      repeat (refine A1 ⟨?_⟩; intros)
      exact endHR _ _ (end2 (RV.cellA rfl (by (first | exact List.mem_cons_self | exact (List.mem_cons_of_mem _ List.mem_cons_self) | exact (List.mem_cons_of_mem _ (List.mem_cons_of_mem _ List.mem_cons_self)) | exact (List.mem_cons_of_mem _ (List.mem_cons_of_mem _ (List.mem_cons_of_mem _ List.mem_cons_self))) | exact (List.mem_cons_of_mem _ (List.mem_cons_of_mem _ (List.mem_cons_of_mem _ (List.mem_cons_of_mem _ List.mem_cons_self)))) | exact (List.mem_cons_of_mem _ (List.mem_cons_of_mem _ (List.mem_cons_of_mem _ (List.mem_cons_of_mem _ (List.mem_cons_of_mem _ List.mem_cons_self))))) | exact (List.mem_cons_of_mem _ (List.mem_cons_of_mem _ (List.mem_cons_of_mem _ (List.mem_cons_of_mem _ (List.mem_cons_of_mem _ (List.mem_cons_of_mem _ List.mem_cons_self)))))) | exact (List.mem_cons_of_mem _ (List.mem_cons_of_mem _ (List.mem_cons_of_mem _ (List.mem_cons_of_mem _ (List.mem_cons_of_mem _ (List.mem_cons_of_mem _ (List.mem_cons_of_mem _ List.mem_cons_self))))))))) rfl rfl) (RV.tmp rfl) (Le.refl _)) (by repeat (first | exact List.Sublist.refl _ | refine List.Sublist.cons _ ?_)) ⟨rfl, rfl⟩
  · rw [List.drop_eq_nil_of_le (by omega)]
    refine PuH.intro Tryz.func154 rfl (by kernel_rfl) fun C hC => ?_
    repeat (refine A1 ⟨?_⟩; intros)
    refine WfT c0 ?_
    rintro _ _ ⟨rfl, rfl⟩
    simp only [List.cons_append, List.nil_append]
    repeat (refine A1 ⟨?_⟩; intros)
    exact endHR _ _ (end2 (RV.cellA rfl (by (first | exact List.mem_cons_self | exact (List.mem_cons_of_mem _ List.mem_cons_self) | exact (List.mem_cons_of_mem _ (List.mem_cons_of_mem _ List.mem_cons_self)) | exact (List.mem_cons_of_mem _ (List.mem_cons_of_mem _ (List.mem_cons_of_mem _ List.mem_cons_self))) | exact (List.mem_cons_of_mem _ (List.mem_cons_of_mem _ (List.mem_cons_of_mem _ (List.mem_cons_of_mem _ List.mem_cons_self)))) | exact (List.mem_cons_of_mem _ (List.mem_cons_of_mem _ (List.mem_cons_of_mem _ (List.mem_cons_of_mem _ (List.mem_cons_of_mem _ List.mem_cons_self))))) | exact (List.mem_cons_of_mem _ (List.mem_cons_of_mem _ (List.mem_cons_of_mem _ (List.mem_cons_of_mem _ (List.mem_cons_of_mem _ (List.mem_cons_of_mem _ List.mem_cons_self)))))) | exact (List.mem_cons_of_mem _ (List.mem_cons_of_mem _ (List.mem_cons_of_mem _ (List.mem_cons_of_mem _ (List.mem_cons_of_mem _ (List.mem_cons_of_mem _ (List.mem_cons_of_mem _ List.mem_cons_self))))))))) rfl rfl) (RV.tmp rfl) (Le.refl _)) (by repeat (first | exact List.Sublist.refl _ | refine List.Sublist.cons _ ?_)) ⟨rfl, rfl⟩
end Go.Ab
/- The lexer, walked: all tokens of a text. -/
namespace Go.Ab
open Go.Proofs
set_option linter.unusedSectionVars false
set_option linter.unusedVariables false
set_option linter.unusedSimpArgs false
variable [Base]
abbrev toks (ts : List Tok) : SV := sl (ts.map tkx).flatten ts.length
theorem nx_some {l : List UInt8} {k k' : Nat} {t : Tok} (hk : k ≤ l.length) (h : nx l k = some (t, k')) : k' ≤ l.length ∧ (t.k ≠ 0 → k < k') ∧ t.t.length ≤ 24 := by
  have hsk := skipN_le (l.drop k)
  rw [List.length_drop] at hsk
  have ha : k + skipN (l.drop k) ≤ l.length := by omega
  unfold nx at h
  have hka : k ≤ k + skipN (l.drop k) := Nat.le_add_right _ _
  generalize k + skipN (l.drop k) = a at *
  cases hr : l.drop a with
  | nil =>
    rw [hr] at h
    simp only [Option.some.injEq, Prod.mk.injEq] at h
    obtain ⟨rfl, rfl⟩ := h
    exact ⟨ha, fun h => absurd rfl h, by simp⟩
  | cons b r =>
    rw [hr] at h
    simp only at h
    have hlen : l.length - a = r.length + 1 := by rw [← List.length_drop, hr]; rfl
    by_cases h3 : clsN b.toNat = 3
    · rw [if_pos h3] at h
      have h1 := runN_pos (r := r) h3
      have h2 := runN_le (b :: r)
      simp only [List.length_cons] at h2
      by_cases h24 : 24 < runN (b :: r)
      · rw [if_pos h24] at h; cases h
      · rw [if_neg h24] at h
        simp only [Option.some.injEq, Prod.mk.injEq] at h
        obtain ⟨rfl, rfl⟩ := h
        exact ⟨by omega, fun _ => by omega, by simp only [List.length_take, List.length_cons]; omega⟩
    · rw [if_neg h3] at h
      simp only [Option.some.injEq, Prod.mk.injEq] at h
      obtain ⟨rfl, rfl⟩ := h
      exact ⟨by omega, fun _ => by omega, by simp⟩
theorem toks_snoc (A : List Tok) (t : Tok) : ((A ++ [t]).map tkx).flatten = (A.map tkx).flatten ++ tkx t := by
  rw [List.map_append, List.flatten_append]; simp only [List.map_cons, List.map_nil, List.flatten_cons, List.flatten_nil, List.append_nil]
def ttsR (o : Option (List Tok)) : SV := match o with
  | some ts => Ab.tup [toks ts, lit .nilIface]
  | none => Ab.tup [lit (.slice none 0 0), errE]
set_option maxHeartbeats 4000000 in
theorem tokens_pu [Sent 4] (l : List UInt8) (hok : ∀ b ∈ l, okC b = true) (hl : l.length ≤ 65536) : Pu Tryz.prog 111 [str l] (ttsR (lexT l)) := by
  refine Pu.intro Tryz.func111 rfl (by kernel_rfl) fun C => ?_
  repeat (refine A1 ⟨?_⟩; intros)
  rename_i r
  refine WP.loopS (ι := Nat × Nat × List Tok × SV × LH) (fun x => x.2.1 ≤ l.length ∧ l.length + 1 ≤ x.1 + x.2.1 ∧ x.2.2.1.length ≤ x.2.1 ∧ Own tkT 4 x.2.2.1.length (x.2.2.1.map tkx).flatten x.2.2.2.1 x.2.2.2.2 ∧ lexT l = (match lexF x.1 (l.drop x.2.1) (x.2.1 + 1) with
      | some ts => some (x.2.2.1 ++ ts)
      | none => none)) (fun x => l.length - x.2.1)
    (fun x => fm [(4, lit (.pointer (some ⟨r, 0, none⟩))), (5, x.2.2.2.1)]) (fun x => (r, rdT, rdC l x.2.1) :: x.2.2.2.2) (l.length + 1, 0, [], lit (.slice none 0 0), [])
    ⟨Nat.zero_le _, by simp, Nat.le_refl _, Own.nil _ _, by simp only [List.drop_zero, List.nil_append]; unfold lexT; split <;> (rename_i h; exact h)⟩ (by (repeat (first | exact LeF.nil _ | refine LeF.cons (Le.refl _) ?_ | refine LeF.cons (Le.int (by omega)) ?_))) (List.Sublist.refl _) ?_
  rintro ⟨f, k, A, s, Hs⟩ ⟨hk, hf, hA, hown, hlex⟩ K hK
  simp only at hk hf hA hown hlex ⊢
  obtain ⟨f, rfl⟩ : ∃ f', f = f' + 1 := ⟨f - 1, by omega⟩
  rw [lexF_nx] at hlex
  have hco := hown.co
  have c := rnext_pu r l k hok hk (by omega)
  cases hn : nx l k with
  | none =>
    rw [hn] at c hlex
    simp only at c hlex
    rw [hlex]
    clear hK
    repeat (refine A1 ⟨?_⟩; intros)
    refine WfT c ?_
    rintro _ H' rfl
    repeat (refine A1 ⟨?_⟩; intros)
    refine Wo (ov_ineF (s := top) (by kernel_rfl) rfl) ?_
    repeat (refine A1 ⟨?_⟩; intros)
    refine endR (end2 (RV.tmp rfl) (RV.tmp rfl) (Le.of_eq rfl))
  | some q =>
    obtain ⟨t, k'⟩ := q
    rw [hn] at c hlex
    simp only at c hlex
    obtain ⟨g1, g2, g3⟩ := nx_some hk hn
    repeat (refine A1 ⟨?_⟩; intros)
    refine WfT c ?_
    rintro _ _ ⟨rfl, rfl⟩
    refine WPL.perm List.perm_append_comm ?_
    simp only [List.cons_append, List.nil_append]
    repeat (refine A1 ⟨?_⟩; intros)
    refine Wown hown (by omega) (fun s' H' hown' => ?_)
    simp only [List.cons_append, List.nil_append]
    have hown'' : Own tkT 4 (A ++ [t]).length ((A ++ [t]).map tkx).flatten s' H' := by
      rw [toks_snoc, List.length_append, List.length_singleton]; exact hown'
    by_cases h0 : t.k = 0
    · rw [if_pos h0] at hlex
      simp only at hlex
      rw [hlex]
      clear hK hown'
      obtain ⟨hcl, ⟨h0', _⟩ | ⟨b2, c2, hnc, hcm, rfl, rfl⟩⟩ := hown''
      · simp at h0'
      refine WPL.pub (d := 29) (s' := toks (A ++ [t])) (HDel.there _ (HDel.there _ (HDel.there _ (HDel.here _)))) rfl (fun m arr h1 h2 => pub_ownL h1 h2 hnc hcm) ?_
      repeat (refine A1 ⟨?_⟩; intros)
      refine endR (end2 (RV.tmp rfl) (RV.tmp rfl) (Le.of_eq rfl))
    · rw [if_neg h0] at hlex
      have hgo := fun F' H'' => hK F' H'' (f, k', A ++ [t], s', H') ⟨g1, by have := g2 h0; simp only; omega, by have := g2 h0; simp only [List.length_append, List.length_singleton]; omega, hown'', by
        simp only
        rw [hlex]
        cases lexF f (l.drop k') (k' + 1) with
        | none => rfl
        | some ts => simp⟩ (by have := g2 h0; simp only; omega)
      have hco' := hown''.co
      clear hK hlex hown hown'
      repeat (refine A1 ⟨?_⟩; intros)
      exact hgo _ _ (by (repeat (first | exact LeF.nil _ | refine LeF.cons (Le.refl _) ?_ | refine LeF.cons (Le.int (by omega)) ?_))) (List.Sublist.cons _ (List.Sublist.cons _ (List.Sublist.refl _)))
end Go.Ab
/- What is read is one expression; two lists that are alike have trees that are alike. -/
namespace Go.Ab
open Go.Proofs
set_option linter.unusedSectionVars false
set_option linter.unusedVariables false
set_option linter.unusedSimpArgs false
variable [Base]
theorem stk_app (A B : List Nd) : ∀ (i : Nat) (st : List (Ex × Nat)), stk (A ++ B) i st = match stk A i st with
    | some st' => stk B (i + A.length) st'
    | none => none := by
  induction A with
  | nil => intro i st; rfl
  | cons n A ih =>
    intro i st
    rw [List.cons_append, stk_cons, stk_cons]
    cases stp i n st with
    | none => rfl
    | some st' =>
      simp only
      rw [ih, List.length_cons, show i + 1 + A.length = i + (A.length + 1) by omega]
/-- a list of parts is one tree, wherever it begins -/
def Rn (A : List Nd) (i : Nat) (x : Ex) : Prop := (∀ s, stk A i s = some ((x, i + A.length - 1) :: s)) ∧ 1 ≤ A.length
theorem okNB {op x y : Int} {a : Tok} (h1 : 1 ≤ op) (h4 : op ≤ 4) : okN (ndB op x y a) = true := by
  unfold okN ndB; simp [zp, zq, h1, h4]
theorem okNU {x : Int} {a : Tok} : okN (ndU x a) = true := by
  unfold okN ndU; simp [zp, zq]
theorem okNA {k : Int} {a : Tok} (h : k = 2 ∨ k = 3) : okN (ndA k a) = true := by
  rcases h with rfl | rfl <;> rfl
theorem okNm {a : Tok} : okN (ndN a) = true := by
  unfold okN ndN; simp [zp, zq]
theorem Rn.leaf {n : Nd} {i : Nat} (h1 : okN n = true) (h5 : n.k ≠ 5) (h6 : n.k ≠ 6) : Rn [n] i (.leaf n) :=
  ⟨fun s => by rw [stk_cons, show stp i n s = some ((.leaf n, i) :: s) from by unfold stp; rw [if_pos h1, if_neg h5, if_neg h6]]; rfl, Nat.le_refl _⟩
theorem Rn.un {A : List Nd} {n : Nd} {i : Nat} {x : Ex} (h : Rn A i x) (h1 : okN n = true) (h5 : n.k = 5) (hx : n.x = (i + A.length : Nat) - 1) : Rn (A ++ [n]) i (.un n x) := by
  obtain ⟨hs, hp⟩ := h
  refine ⟨fun s => ?_, by simp⟩
  rw [stk_app, hs]
  simp only
  rw [stk_cons, show stp (i + A.length) n ((x, i + A.length - 1) :: s) = some ((.un n x, i + A.length) :: s) from by unfold stp; rw [if_pos h1, if_pos h5]; simp only; rw [if_pos (by omega)]]
  rw [List.length_append, List.length_singleton, show i + (A.length + 1) - 1 = i + A.length by omega]
  rfl
theorem Rn.bi {A B : List Nd} {n : Nd} {i : Nat} {x y : Ex} (h : Rn A i x) (k : Rn B (i + A.length) y) (h1 : okN n = true) (h6 : n.k = 6) (hx : n.x = (i + A.length : Nat) - 1) (hy : n.y = (i + A.length + B.length : Nat) - 1) : Rn (A ++ B ++ [n]) i (.bi n x y) := by
  obtain ⟨hs, hp⟩ := h
  obtain ⟨ks, kp⟩ := k
  refine ⟨fun s => ?_, by simp; omega⟩
  rw [stk_app, stk_app, hs]
  simp only
  rw [ks]
  simp only
  rw [List.length_append, stk_cons, show stp (i + (A.length + B.length)) n ((y, i + A.length + B.length - 1) :: (x, i + A.length - 1) :: s) = some ((.bi n x y, i + (A.length + B.length)) :: s) from by unfold stp; rw [if_pos h1, if_neg (by omega), if_pos h6]; simp only; rw [if_pos ⟨by omega, by omega⟩]]
  rw [List.length_append, List.length_append, List.length_singleton, show i + (A.length + B.length + 1) - 1 = i + (A.length + B.length) by omega]
  rfl
theorem prs_ok : ∀ (f lv d i : Nat) (ts : List Tok) (acc : Option (List Nd × Ex)) (A : List Nd) (x : Ex) (ts' : List Tok), (1 ≤ lv ∧ lv ≤ 3) → (lv = 3 → acc = none) → TOk ts → (match acc with
      | some (A0, x0) => Rn A0 i x0
      | none => True) → prs f lv d i ts acc = some (A, x, ts') → Rn A i x ∧ TOk ts' ∧ ts'.length + (if acc.isNone then 1 else 0) ≤ ts.length := by
  intro f
  induction f with
  | zero => intro lv d i ts acc A x ts' _ _ _ _ h; unfold prs at h; cases h
  | succ f ih =>
    intro lv d i ts acc A x ts' hlv h3 hT hacc h
    cases acc with
    | none =>
      unfold prs at h
      simp only [Option.isNone_none, if_true]
      by_cases l3 : lv = 3
      · subst l3
        rw [if_pos rfl] at h
        have tl : ∀ s, tis ts s = true → TOk ts.tail ∧ ts.tail.length + 1 = ts.length := fun s hs => by
          obtain ⟨a, r, rfl, ha, _⟩ := tis_ne hs
          exact ⟨(hT.tail ha).1, by simp⟩
        by_cases c1 : tis ts [126] = true
        · rw [if_pos c1] at h
          obtain ⟨hT', hl'⟩ := tl _ c1
          by_cases hd' : 200 ≤ d
          · rw [if_pos hd'] at h; cases h
          · rw [if_neg hd'] at h
            cases hp : prs f 3 (d + 1) i ts.tail none with
            | none => rw [hp] at h; cases h
            | some q =>
              obtain ⟨A1, x1, t1⟩ := q
              rw [hp] at h
              simp only [Option.some.injEq, Prod.mk.injEq] at h
              obtain ⟨rfl, rfl, rfl⟩ := h
              obtain ⟨g1, g2, g3⟩ := ih 3 _ _ _ _ _ _ _ (by omega) (fun _ => rfl) hT' trivial hp
              simp only [Option.isNone_none, if_true] at g3
              exact ⟨g1.un okNU rfl rfl, g2, by omega⟩
        · rw [if_neg c1] at h
          by_cases c2 : tis ts [40] = true
          · rw [if_pos c2] at h
            obtain ⟨hT', hl'⟩ := tl _ c2
            by_cases hd' : 200 ≤ d
            · rw [if_pos hd'] at h; cases h
            · rw [if_neg hd'] at h
              cases hp : prs f 1 (d + 1) i ts.tail none with
              | none => rw [hp] at h; cases h
              | some q =>
                obtain ⟨A1, x1, t1⟩ := q
                rw [hp] at h
                simp only at h
                obtain ⟨g1, g2, g3⟩ := ih 1 _ _ _ _ _ _ _ (by omega) (fun _ => rfl) hT' trivial hp
                simp only [Option.isNone_none, if_true] at g3
                by_cases c3 : tis t1 [41] = true
                · rw [if_pos c3] at h
                  simp only [Option.some.injEq, Prod.mk.injEq] at h
                  obtain ⟨rfl, rfl, rfl⟩ := h
                  obtain ⟨a, r, rfl, ha, _⟩ := tis_ne c3
                  exact ⟨g1, (g2.tail ha).1, by simp at g3 ⊢; omega⟩
                · rw [if_neg c3] at h; cases h
          · rw [if_neg c2] at h
            by_cases c3 : tis ts wAll = true
            · rw [if_pos c3] at h
              obtain ⟨hT', hl'⟩ := tl _ c3
              simp only [Option.some.injEq, Prod.mk.injEq] at h
              obtain ⟨rfl, rfl, rfl⟩ := h
              exact ⟨.leaf (okNA (.inl rfl)) (show (2 : Int) ≠ 5 by decide) (show (2 : Int) ≠ 6 by decide), hT', by omega⟩
            rw [if_neg c3] at h
            by_cases c4 : tis ts wNone = true
            · rw [if_pos c4] at h
              obtain ⟨hT', hl'⟩ := tl _ c4
              simp only [Option.some.injEq, Prod.mk.injEq] at h
              obtain ⟨rfl, rfl, rfl⟩ := h
              exact ⟨.leaf (okNA (.inr rfl)) (show (3 : Int) ≠ 5 by decide) (show (3 : Int) ≠ 6 by decide), hT', by omega⟩
            rw [if_neg c4] at h
            by_cases c5 : tis ts wHalf = true
            · rw [if_pos c5] at h; cases h
            rw [if_neg c5] at h
            by_cases c6 : (hd ts).k = 1 ∧ resv (hd ts).t = false
            · rw [if_pos c6] at h
              simp only [Option.some.injEq, Prod.mk.injEq] at h
              obtain ⟨rfl, rfl, rfl⟩ := h
              cases ts with
              | nil => exact hT.elim
              | cons a r =>
                have ha : a.k = 1 := c6.1
                exact ⟨.leaf okNm (show (1 : Int) ≠ 5 by decide) (show (1 : Int) ≠ 6 by decide), (hT.tail (by omega)).1, by simp⟩
            rw [if_neg c6] at h; cases h
      · rw [if_neg l3] at h
        cases hp : prs f (lv + 1) d i ts none with
        | none => rw [hp] at h; cases h
        | some q =>
          obtain ⟨A1, x1, t1⟩ := q
          rw [hp] at h
          simp only at h
          obtain ⟨g1, g2, g3⟩ := ih (lv + 1) _ _ _ _ _ _ _ (by omega) (fun _ => rfl) hT trivial hp
          obtain ⟨k1, k2, k3⟩ := ih lv _ _ _ _ _ _ _ hlv (fun e => absurd e l3) g2 (by exact g1) h
          simp at g3 k3
          exact ⟨k1, k2, by omega⟩
    | some q =>
      obtain ⟨A0, x0⟩ := q
      simp only at hacc
      unfold prs at h
      simp only [Option.isNone_some, Bool.false_eq_true, if_false, Nat.add_zero]
      by_cases ho : opAt lv ts = 0
      · rw [if_pos ho] at h
        simp only [Option.some.injEq, Prod.mk.injEq] at h
        obtain ⟨rfl, rfl, rfl⟩ := h
        exact ⟨hacc, hT, Nat.le_refl _⟩
      · rw [if_neg ho] at h
        obtain ⟨⟨a, r, rfl, ha⟩, o1, o2⟩ := opAt_ne ho
        cases hp : prs f (lv + 1) d (i + A0.length) r none with
        | none => simp only [List.tail_cons] at h; rw [hp] at h; cases h
        | some q =>
          obtain ⟨B, y, t1⟩ := q
          simp only [List.tail_cons] at h
          rw [hp] at h
          simp only at h
          have l3 : lv ≠ 3 := fun e => by have := h3 e; cases this
          obtain ⟨g1, g2, g3⟩ := ih (lv + 1) _ _ _ _ _ _ _ (by omega) (fun _ => rfl) (hT.tail ha).1 trivial hp
          simp at g3
          have hop : 1 ≤ opAt lv (a :: r) ∧ opAt lv (a :: r) ≤ 4 := by
            by_cases h1 : lv = 1
            · rcases o1 h1 with e | e | e <;> rw [e] <;> decide
            · rw [o2 h1]; decide
          obtain ⟨k1, k2, k3⟩ := ih lv _ _ _ _ _ _ _ hlv (fun e => absurd e l3) g2 (hacc.bi g1 (okNB hop.1 hop.2) rfl rfl rfl) h
          simp at k3
          exact ⟨k1, k2, by simp; omega⟩
/-- alike but for names, numbers and positions -/
def Like (n m : Nd) : Prop := n.k = m.k ∧ n.op = m.op ∧ n.x = m.x ∧ n.y = m.y
inductive LikeT : Ex → Ex → Prop
  | leaf {n m : Nd} (h : Like n m) : LikeT (.leaf n) (.leaf m)
  | un {n m : Nd} {x y : Ex} (h : Like n m) (k : LikeT x y) : LikeT (.un n x) (.un m y)
  | bi {n m : Nd} {x y u v : Ex} (h : Like n m) (k : LikeT x u) (l : LikeT y v) : LikeT (.bi n x y) (.bi m u v)
inductive LikeS : List (Ex × Nat) → List (Ex × Nat) → Prop
  | nil : LikeS [] []
  | cons {x y : Ex} {j : Nat} {s t : List (Ex × Nat)} (h : LikeT x y) (k : LikeS s t) : LikeS ((x, j) :: s) ((y, j) :: t)
theorem Like.rk {n m : Nd} (h : Like n m) : rk n = rk m := by
  obtain ⟨h1, h2, _, _⟩ := h
  unfold Ab.rk
  rw [h1, h2]
theorem LikeT.rk {x y : Ex} (h : LikeT x y) : rk x.top = rk y.top := by
  cases h with
  | leaf h => exact h.rk
  | un h _ => exact h.rk
  | bi h _ _ => exact h.rk
end Go.Ab
