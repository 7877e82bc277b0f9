/- Texts laid one behind the other: PRatB, GPrs, GLexW, GLexX, GPW, GPN, GPO, GPX, GPY, GPZ. -/
import Derived.Test.YtebghnhocigmlaaGreatDoorB12
import Derived.Test.YtebghnhocigmlaaGreatDoorB11
import Derived.Test.YtebghnhocigmlaaGreatDoorB10
set_option linter.unusedSectionVars false
set_option linter.unusedVariables false
set_option linter.unusedSimpArgs false
namespace Go.Ab
open Go.Proofs
variable [Base]
def sgnT (neg : Bool) (l : List UInt8) : List UInt8 := if neg = true then 45 :: l else l
theorem sgnT_len (neg : Bool) (l : List UInt8) : (sgnT neg l).length ≤ l.length + 1 := by
  unfold sgnT; split <;> simp
theorem sgnT_take {neg : Bool} {l : List UInt8} (h : allD l) : ((sgnT neg l).take 1 = [45] ↔ neg = true) ∧ (neg = true → (sgnT neg l).drop 1 = l) ∧ (neg = false → sgnT neg l = l) := by
  cases neg with
  | true => exact ⟨⟨fun _ => rfl, fun _ => rfl⟩, fun _ => rfl, fun e => by cases e⟩
  | false =>
    refine ⟨⟨fun e => ?_, fun e => (by cases e)⟩, fun e => (by cases e), fun _ => rfl⟩
    cases l with
    | nil => cases e
    | cons b r =>
      have hb := h b (by simp)
      have : b = 45 := by simpa [sgnT] using e
      subst this
      revert hb
      decide
theorem dcv_len {l : List UInt8} (h : allD l) (hl : l.length ≤ 4096) : (dgs (dcv l)).length ≤ 4096 := by
  have h1 := dcv_lt h
  have h2 : (10 : Nat) ^ l.length ≤ 4294967296 ^ l.length := Nat.pow_le_pow_left (by omega) _
  have := len_le (Nat.lt_of_lt_of_le h1 h2)
  omega
theorem iparse_pu (neg : Bool) (l : List UInt8) (h : allD l) (hne : l ≠ []) (hl : l.length ≤ 4096) : Pu Tryz.prog 309 [str (sgnT neg l)] (Ab.tup [int (sv neg (dcv l)), lit .nilIface]) := by
  have c1 := cutP_pu (sgnT neg l) 45 (by have := sgnT_len neg l; omega)
  have c2 := nparse_pu l h hne hl
  have c3 := signed_pu neg (dcv l) (by have := dcv_len h hl; omega)
  obtain ⟨g1, g2, g3⟩ := sgnT_take (neg := neg) h
  cases neg with
  | true =>
    rw [if_pos (g1.2 rfl), g2 rfl] at c1
    refine Pu.intro Tryz.func309 rfl (by kernel_rfl) fun C => ?_
    repeat (first | (refine A1 ⟨?_⟩; intros) | (refine Wcx (c1) ?_) | (refine Wdcx (c1) ?_) | (refine Wcgx (c1) ?_) | (refine Wdcgx (c1) ?_) | (refine Wcx (c2) ?_) | (refine Wdcx (c2) ?_) | (refine Wcgx (c2) ?_) | (refine Wdcgx (c2) ?_) | (refine Wcx (c3) ?_) | (refine Wdcx (c3) ?_) | (refine Wcgx (c3) ?_) | (refine Wdcgx (c3) ?_))
    ((first | refine endR ?_ | refine endN ?_); exact end2 (RV.cellA rfl (by repeat (first | exact List.mem_cons_self | apply List.mem_cons_of_mem)) (by (try simp only [List.drop_succ_cons, List.drop_zero, List.drop_nil, List.take_succ_cons, List.take_zero, List.take_nil, Nat.zero_add, Nat.add_zero, Nat.reduceAdd]) <;> exact rfl) rfl) (RV.tmp rfl) (Le.refl _))
  | false =>
    rw [if_neg (fun e => by cases g1.1 e), g3 rfl] at c1
    rw [g3 rfl]
    refine Pu.intro Tryz.func309 rfl (by kernel_rfl) fun C => ?_
    repeat (first | (refine A1 ⟨?_⟩; intros) | (refine Wcx (c1) ?_) | (refine Wdcx (c1) ?_) | (refine Wcgx (c1) ?_) | (refine Wdcgx (c1) ?_) | (refine Wcx (c2) ?_) | (refine Wdcx (c2) ?_) | (refine Wcgx (c2) ?_) | (refine Wdcgx (c2) ?_) | (refine Wcx (c3) ?_) | (refine Wdcx (c3) ?_) | (refine Wcgx (c3) ?_) | (refine Wdcgx (c3) ?_))
    ((first | refine endR ?_ | refine endN ?_); exact end2 (RV.cellA rfl (by repeat (first | exact List.mem_cons_self | apply List.mem_cons_of_mem)) (by (try simp only [List.drop_succ_cons, List.drop_zero, List.drop_nil, List.take_succ_cons, List.take_zero, List.take_nil, Nat.zero_add, Nat.add_zero, Nat.reduceAdd]) <;> exact rfl) rfl) (RV.tmp rfl) (Le.refl _))
theorem rsign_pu (x : Rat) (h : ht x ≤ 1000000) : Pu Tryz.prog 257 [q x] (lit (.int .i64 x.num.sign)) := by
  have c1 := of_pu (RQ.of_ok h) (Nat.le_refl _)
  rw [RQ.of_v] at c1
  have c2 := fsign_pu x (by omega)
  refine Pu.intro Tryz.func257 rfl (by kernel_rfl) fun C => ?_
  repeat (first | (refine A1 ⟨?_⟩; intros) | (refine Wcx (c1) ?_) | (refine Wdcx (c1) ?_) | (refine Wcgx (c1) ?_) | (refine Wdcgx (c1) ?_) | (refine Wcx (c2) ?_) | (refine Wdcx (c2) ?_) | (refine Wcgx (c2) ?_) | (refine Wdcgx (c2) ?_))
  ((first | refine endR ?_ | refine endN ?_); exact end1 (RV.tmp rfl) (Le.refl _))
theorem no47 {l : List UInt8} (h : allD l) (neg : Bool) : ∀ x ∈ sgnT neg l, x ≠ 47 := by
  intro x hx e
  subst e
  unfold sgnT at hx
  split at hx
  · rcases List.mem_cons.1 hx with hx | hx
    · cases hx
    · have := h _ hx
      revert this; decide
  · have := h _ hx
    revert this; decide
theorem pub_one {m : Mem} {b : Nat} {arr : Array Value} {T : TypeId} (hb : m b = some (.cells arr T (0, 0))) (h : All2 m [lit (.int .u32 1)] arr.toList) : (nat 1).p m (.slice (some ⟨b, 0, none⟩) 1 1) := by
  unfold nat
  rw [dgs_one, dg_nsl]
  unfold nsl
  refine sl_mk (Nat.le_refl _) (by decide) (.inr ⟨b, 0, rfl, arr, T, (0, 0), hb, ?_⟩)
  rw [List.drop_zero, List.take_of_length_le (by rw [h.length]; simp)]
  exact h
theorem q_ht {neg : Bool} {n d : Nat} (hn : (dgs n).length ≤ 4096) (hd : (dgs d).length ≤ 4096) : ht (mkRat (sv neg n) d) ≤ 4097 := by
  have h := ht_v (r := ⟨neg, dgs n, dgs d⟩) (L := 4096) ⟨D_dgs _, D_dgs _, hn, hd⟩
  unfold RQ.v at h
  simpa only [val_dgs] using h
theorem of_int {neg : Bool} {n d : Nat} (hn : (dgs n).length ≤ 4096) (hd : (dgs d).length ≤ 4096) : Pu Tryz.prog 271 [ag [lit (.bool (decide (sv neg n < 0))), nat (sv neg n).natAbs, nat d]] (fr (mkRat (sv neg n) d)) := by
  have h := of_pu (r := ⟨decide (sv neg n < 0), dgs (sv neg n).natAbs, dgs d⟩) (L := 4096) ⟨D_dgs _, D_dgs _, by rw [sv_abs]; exact hn, hd⟩ (by omega)
  unfold RQ.v at h
  simp only [val_dgs, sv_int] at h
  exact h
set_option maxHeartbeats 4000000 in
theorem rparse_i [Sent 4] (neg : Bool) (l : List UInt8) (h : allD l) (hne : l ≠ []) (hl : l.length ≤ 4096) : Pu Tryz.prog 256 [str (sgnT neg l)] (Ab.tup [q (mkRat (sv neg (dcv l)) 1), lit .nilIface]) := by
  have c1 := scut_f (sgnT neg l) (no47 h neg) (by have := sgnT_len neg l; omega)
  have c2 := iparse_pu neg l h hne hl
  have c3 := isNil'_pu 4
  have hd := dcv_len h hl
  generalize sgnT neg l = w at *
  generalize dcv l = n at *
  refine Pu.intro Tryz.func256 rfl (by kernel_rfl) fun C => ?_
  have c4 := bits_nat (dgs 1) (by rw [dgs_one]; decide) (D_dgs _)
  rw [val_dgs, blen_1.2 rfl] at c4
  have c5 := of_int (neg := neg) (n := n) (d := 1) hd (by rw [dgs_one]; decide)
  have c6 := api_pu (mkRat (sv neg n) 1) (by have := q_ht (neg := neg) (n := n) (d := 1) hd (by rw [dgs_one]; decide); omega)
  repeat (first | (refine A1 ⟨?_⟩; intros) | (refine Wcx (c1) ?_) | (refine Wdcx (c1) ?_) | (refine Wcgx (c1) ?_) | (refine Wdcgx (c1) ?_) | (refine Wcx (c2) ?_) | (refine Wdcx (c2) ?_) | (refine Wcgx (c2) ?_) | (refine Wdcgx (c2) ?_) | (refine Wcx (c3) ?_) | (refine Wdcx (c3) ?_) | (refine Wcgx (c3) ?_) | (refine Wdcgx (c3) ?_))
  refine WPL.pub2 9 56 (s' := nat 1) (HDel.here _) rfl rfl (fun m arr h1 h2 => pub_one h1 h2) ?_
  repeat (first | (refine A1 ⟨?_⟩; intros) | (refine Wcx (c4) ?_) | (refine Wdcx (c4) ?_) | (refine Wcgx (c4) ?_) | (refine Wdcgx (c4) ?_) | (refine Wcx (c5) ?_) | (refine Wdcx (c5) ?_) | (refine Wcgx (c5) ?_) | (refine Wdcgx (c5) ?_) | (refine Wcx (c6) ?_) | (refine Wdcx (c6) ?_) | (refine Wcgx (c6) ?_) | (refine Wdcgx (c6) ?_))
  ((first | refine endR ?_ | refine endN ?_); exact end2 (RV.cellA rfl (by repeat (first | exact List.mem_cons_self | apply List.mem_cons_of_mem)) (by (try simp only [List.drop_succ_cons, List.drop_zero, List.drop_nil, List.take_succ_cons, List.take_zero, List.take_nil, Nat.zero_add, Nat.add_zero, Nat.reduceAdd]) <;> exact rfl) rfl) (RV.tmp rfl) (Le.refl _))
set_option maxHeartbeats 4000000 in
theorem rparse_f [Sent 4] (neg : Bool) (l r : List UInt8) (h : allD l) (hne : l ≠ []) (hl : l.length ≤ 4096) (hr : allD r) (hner : r ≠ []) (hrl : r.length ≤ 4096) (h0 : dcv r ≠ 0) : Pu Tryz.prog 256 [str (sgnT neg l ++ 47 :: r)] (Ab.tup [q (mkRat (sv neg (dcv l)) (dcv r)), lit .nilIface]) := by
  have c1 := scut_t (sgnT neg l) r (no47 h neg) (by
    unfold sgnT
    split
    · exact List.cons_ne_nil _ _
    · exact hne) (by have := sgnT_len neg l; omega)
  have c2 := iparse_pu neg l h hne hl
  have c2' := nparse_pu r hr hner hrl
  have c3 := isNil'_pu 4
  have hd := dcv_len h hl
  have hd2 := dcv_len hr hrl
  generalize sgnT neg l ++ 47 :: r = w' at *
  generalize sgnT neg l = w at *
  generalize dcv l = n at *
  generalize dcv r = d at *
  have c4 := bits_nat (dgs d) (by omega) (D_dgs _)
  rw [val_dgs] at c4
  have hb : blen d ≠ 0 := fun e => h0 (blen0.1 e)
  have c5 := of_int (neg := neg) (n := n) (d := d) hd hd2
  have c6 := api_pu (mkRat (sv neg n) d) (by have := q_ht (neg := neg) (n := n) (d := d) hd hd2; omega)
  generalize blen d = bd at *
  refine Pu.intro Tryz.func256 rfl (by kernel_rfl) fun C => ?_
  repeat (first | (refine A1 ⟨?_⟩; intros) | (refine Wcx (c1) ?_) | (refine Wdcx (c1) ?_) | (refine Wcgx (c1) ?_) | (refine Wdcgx (c1) ?_) | (refine Wcx (c2) ?_) | (refine Wdcx (c2) ?_) | (refine Wcgx (c2) ?_) | (refine Wdcgx (c2) ?_) | (refine Wcx (c2') ?_) | (refine Wdcx (c2') ?_) | (refine Wcgx (c2') ?_) | (refine Wdcgx (c2') ?_) | (refine Wcx (c3) ?_) | (refine Wdcx (c3) ?_) | (refine Wcgx (c3) ?_) | (refine Wdcgx (c3) ?_) | (refine Wcx (c4) ?_) | (refine Wdcx (c4) ?_) | (refine Wcgx (c4) ?_) | (refine Wdcgx (c4) ?_) | (refine Wcx (c5) ?_) | (refine Wdcx (c5) ?_) | (refine Wcgx (c5) ?_) | (refine Wdcgx (c5) ?_) | (refine Wcx (c6) ?_) | (refine Wdcx (c6) ?_) | (refine Wcgx (c6) ?_) | (refine Wdcgx (c6) ?_))
  ((first | refine endR ?_ | refine endN ?_); exact end2 (RV.cellA rfl (by repeat (first | exact List.mem_cons_self | apply List.mem_cons_of_mem)) (by (try simp only [List.drop_succ_cons, List.drop_zero, List.drop_nil, List.take_succ_cons, List.take_zero, List.take_nil, Nat.zero_add, Nat.add_zero, Nat.reduceAdd]) <;> exact rfl) rfl) (RV.tmp rfl) (Le.refl _))
def Tok.gok (a : Tok) : Prop := (a.k = 0 ∧ a.t = []) ∨ a.k = 1 ∨ (a.k = 2 ∧ allD a.t ∧ a.t ≠ [] ∧ a.t.length ≤ 4096) ∨ a.k = 3
def GOk : List Tok → Prop
  | [] => False
  | [e] => e.k = 0 ∧ e.t = []
  | a :: r => (a.k ≠ 0 ∧ a.gok) ∧ GOk r
theorem GOk.cons {ts : List Tok} (h : GOk ts) : ∃ a r, ts = a :: r ∧ a.gok := by
  match ts, h with
  | [e], h => exact ⟨e, [], rfl, .inl h⟩
  | a :: b :: r, h => exact ⟨a, b :: r, rfl, h.1.2⟩
theorem GOk.tail {a : Tok} {r : List Tok} (h : GOk (a :: r)) (h0 : a.k ≠ 0) : GOk r := by
  cases r with
  | nil => exact absurd h.1 h0
  | cons b r => exact h.2
theorem GOk.pos {ts : List Tok} (h : GOk ts) : 0 < ts.length := by
  obtain ⟨a, r, rfl, _⟩ := h.cons
  simp
theorem GOk.end {a : Tok} {r : List Tok} (h : GOk (a :: r)) (h0 : a.k = 0) : r = [] := by
  cases r with
  | nil => rfl
  | cons b r => exact absurd h0 h.1.1
def ger (k : Nat) (ts : List Tok) : Er := ⟨k, (hd ts).t, (hd ts).l, (hd ts).c⟩
def gis (ts : List Tok) (s : List UInt8) : Bool := (decide ((hd ts).k = 1) || decide ((hd ts).k = 3)) && decide ((hd ts).t = s)
theorem gis_cons (a : Tok) (r : List Tok) (w : List UInt8) : gis (a :: r) w = ((decide (a.k = 1) || decide (a.k = 3)) && decide (a.t = w)) := rfl
theorem gis_k {a : Tok} {r : List Tok} {w : List UInt8} (h : gis (a :: r) w = true) : a.k ≠ 0 ∧ a.k ≠ 2 ∧ a.t = w := by
  rw [gis_cons, Bool.and_eq_true, Bool.or_eq_true] at h
  obtain ⟨h1, h2⟩ := h
  refine ⟨?_, ?_, of_decide_eq_true h2⟩ <;>
  · rcases h1 with h1 | h1 <;> (have := of_decide_eq_true h1; omega)
theorem GOk.next {a : Tok} {r : List Tok} {w : List UInt8} (h : GOk (a :: r)) (ht : gis (a :: r) w = true) : GOk r := h.tail (gis_k ht).1
def gexpect (w : List UInt8) (ts : List Tok) : Except Er (List Tok) := if gis ts w = true then .ok ts.tail else .error (ger 1 ts)
def gname (ts : List Tok) : Except Er (List UInt8 × List Tok) := if (hd ts).k = 1 ∧ resv (hd ts).t = false then .ok ((hd ts).t, ts.tail) else .error (ger 1 ts)
def gnum (ts : List Tok) : Except Er (List UInt8 × List Tok) := if (hd ts).k = 2 then .ok ((hd ts).t, ts.tail) else .error (ger 1 ts)
def gratS (neg : Bool) (ts : List Tok) : Except Er (Rat × List Tok) := match gnum ts with
  | .error e => .error e
  | .ok (n, ts2) => if gis ts2 [47] = true then (match gnum ts2.tail with
      | .error e => .error e
      | .ok (d, ts3) => if dcv d = 0 then .error (ger 3 ts2.tail) else .ok (mkRat (sv neg (dcv n)) (dcv d), ts3))
    else .ok (mkRat (sv neg (dcv n)) 1, ts2)
def grat (ts : List Tok) : Except Er (Rat × List Tok) := if gis ts [45] = true then gratS true ts.tail else gratS false ts
def gpt (ts : List Tok) : Except Er ((Rat × Rat) × List Tok) := match gexpect [40] ts with
  | .error e => .error e
  | .ok t1 => match grat t1 with
    | .error e => .error e
    | .ok (x, t2) => match gexpect [44] t2 with
      | .error e => .error e
      | .ok t3 => match grat t3 with
        | .error e => .error e
        | .ok (y, t4) => match gexpect [41] t4 with
          | .error e => .error e
          | .ok t5 => .ok ((x, y), t5)
def gptsF : Nat → List Tok → Except Er (List (Rat × Rat) × List Tok)
  | 0, ts => .error (ger 0 ts)
  | f + 1, ts => match gpt ts with
    | .error e => .error e
    | .ok (p, t1) => if gis t1 [40] = true then (match gptsF f t1 with
        | .error e => .error e
        | .ok (ps, t2) => .ok (p :: ps, t2))
      else .ok ([p], t1)
@[irreducible] def gF : Nat := 1000000
theorem gF_eq : gF = 1000000 := by unfold gF; rfl
def gpts (ts : List Tok) : Except Er (List (Rat × Rat) × List Tok) := gptsF gF ts
def gop (lv : Nat) (ts : List Tok) : Int :=
  if lv = 1 then (if gis ts [43] = true then 1 else if gis ts [45] = true then 3 else if gis ts [94] = true then 4 else 0) else (if gis ts [42] = true then 2 else 0)
def ndH (p q : Rat × Rat) (a : Tok) : Nd := ⟨4, [], RQ.of p.1, RQ.of p.2, RQ.of q.1, RQ.of q.2, 0, 0, 0, a.l, a.c⟩
def gx : Nat → Nat → Nat → Nat → List Tok → Option (List Nd × Ex) → Except Er (List Nd × Ex × List Tok)
  | 0, _, _, _, ts, _ => .error (ger 0 ts)
  | f + 1, lv, d, i, ts, none =>
    if lv = 3 then
      if gis ts [126] = true then
        (if 200 ≤ d then .error (ger 2 ts) else match gx f 3 (d + 1) i ts.tail none with
          | .ok (A, x, ts') => .ok (A ++ [ndU ((i + A.length : Nat) - 1) (hd ts)], .un (ndU ((i + A.length : Nat) - 1) (hd ts)) x, ts')
          | .error e => .error e)
      else if gis ts [40] = true then
        (if 200 ≤ d then .error (ger 2 ts) else match gx f 1 (d + 1) i ts.tail none with
          | .ok (A, x, ts') => if gis ts' [41] = true then .ok (A, x, ts'.tail) else .error (ger 1 ts')
          | .error e => .error e)
      else if gis ts wAll = true then .ok ([ndA 2 (hd ts)], .leaf (ndA 2 (hd ts)), ts.tail)
      else if gis ts wNone = true then .ok ([ndA 3 (hd ts)], .leaf (ndA 3 (hd ts)), ts.tail)
      else if gis ts wHalf = true then (match gpt ts.tail with
        | .error e => .error e
        | .ok (p, t1) => match gpt t1 with
          | .error e => .error e
          | .ok (q, t2) => .ok ([ndH p q (hd ts)], .leaf (ndH p q (hd ts)), t2))
      else if (hd ts).k = 1 ∧ resv (hd ts).t = false then .ok ([ndN (hd ts)], .leaf (ndN (hd ts)), ts.tail)
      else .error (ger 1 ts)
    else match gx f (lv + 1) d i ts none with
      | .ok (A, x, ts') => gx f lv d i ts' (some (A, x))
      | .error e => .error e
  | f + 1, lv, d, i, ts, some (A, x) =>
    if gop lv ts = 0 then .ok (A, x, ts)
    else match gx f (lv + 1) d (i + A.length) ts.tail none with
      | .ok (B, y, ts') => gx f lv d i ts' (some (A ++ B ++ [ndB (gop lv ts) ((i + A.length : Nat) - 1) ((i + A.length + B.length : Nat) - 1) (hd ts)], .bi (ndB (gop lv ts) ((i + A.length : Nat) - 1) ((i + A.length + B.length : Nat) - 1) (hd ts)) x y))
      | .error e => .error e
def gexp (ts : List Tok) : Except Er (List Nd × Ex × List Tok) := gx gF 1 0 0 ts none
theorem gop_ne {lv : Nat} {a : Tok} {r : List Tok} (h : gop lv (a :: r) ≠ 0) : a.k ≠ 0 ∧ (lv = 1 → gop lv (a :: r) = 1 ∨ gop lv (a :: r) = 3 ∨ gop lv (a :: r) = 4) ∧ (lv ≠ 1 → gop lv (a :: r) = 2) := by
  unfold gop at *
  by_cases h1 : lv = 1
  · simp only [if_pos h1] at h ⊢
    by_cases c1 : gis (a :: r) [43] = true
    · rw [if_pos c1]; exact ⟨(gis_k c1).1, fun _ => .inl rfl, fun h => absurd h1 h⟩
    · rw [if_neg c1] at h ⊢
      by_cases c2 : gis (a :: r) [45] = true
      · rw [if_pos c2]; exact ⟨(gis_k c2).1, fun _ => .inr (.inl rfl), fun h => absurd h1 h⟩
      · rw [if_neg c2] at h ⊢
        by_cases c3 : gis (a :: r) [94] = true
        · rw [if_pos c3]; exact ⟨(gis_k c3).1, fun _ => .inr (.inr rfl), fun h => absurd h1 h⟩
        · rw [if_neg c3] at h; exact absurd rfl h
  · simp only [if_neg h1] at h ⊢
    by_cases c1 : gis (a :: r) [42] = true
    · rw [if_pos c1]; exact ⟨(gis_k c1).1, fun h => absurd h h1, fun _ => rfl⟩
    · rw [if_neg c1] at h; exact absurd rfl h
abbrev rdG (l : List UInt8) (k ln cl : Nat) : List SV := [str l, lit (.int .i64 k), lit (.int .i64 ln), lit (.int .i64 cl)]
theorem rdG_add (l : List UInt8) (k n ln cl : Nat) : rdG l (k + n) ln (cl + n) = [str l, lit (.int .i64 ((k : Int) + n)), lit (.int .i64 ln), lit (.int .i64 ((cl : Int) + n))] := by
  show [str l, lit (.int .i64 ((k + n : Nat) : Int)), lit (.int .i64 ln), lit (.int .i64 ((cl + n : Nat) : Int))] = _
  rw [show ((k + n : Nat) : Int) = (k : Int) + n by omega, show ((cl + n : Nat) : Int) = (cl : Int) + n by omega]
theorem gtake_pu (r : Nat) (l : List UInt8) (k n ln cl : Nat) (h : k + n ≤ l.length) (hl : l.length ≤ 100000) (hc : cl ≤ k + 1) :
    PuH Tryz.prog 203 [lit (.pointer (some ⟨r, 0, none⟩)), lit (.int .i64 n)] [(r, rdT, rdG l k ln cl)] (fun v H => v = str ((l.drop k).take n) ∧ H = [(r, rdT, rdG l (k + n) ln (cl + n))]) noX := by
  rw [← take_drop_eq]
  refine PuH.intro Tryz.func203 rfl (by kernel_rfl) fun C hC => ?_
  repeat (refine A1 ⟨?_⟩; intros)
  refine Wdo (ov_ssl (i := k) (j := k + n) rfl (fun y hy => by cases hy; exact ⟨_, _, rfl, rfl⟩) (fun h => by cases h) (fun y hy => by cases hy; exact ⟨_, _, rfl, by omega⟩) (fun h => by cases h) (by omega) h) ?_
  repeat (refine A1 ⟨?_⟩; intros)
  exact endHR _ _ (end1 (RV.tmp rfl) (Le.refl _)) (List.Sublist.refl _) ⟨rfl, by rw [rdG_add]⟩
theorem gsk_bd : ∀ (cm : Bool) (l : List UInt8) (ln cl k : Nat), ln ≤ k + 1 → cl ≤ k + 1 → (gsk cm l ln cl).2.1 ≤ k + (gsk cm l ln cl).1 + 1 ∧ (gsk cm l ln cl).2.2 ≤ k + (gsk cm l ln cl).1 + 1
  | _, [], _, _, _, h1, h2 => ⟨h1, h2⟩
  | cm, b :: r, ln, cl, k, h1, h2 => by
    rw [gsk]
    split
    · have := gsk_bd false r (ln + 1) 1 (k + 1) (by omega) (by omega)
      simp only; omega
    · split
      · have := gsk_bd true r ln (cl + 1) (k + 1) (by omega) (by omega)
        simp only; omega
      · split
        · have := gsk_bd false r ln (cl + 1) (k + 1) (by omega) (by omega)
          simp only; omega
        · simp only; omega
theorem clsN_rng (b : Nat) : 0 ≤ clsN b ∧ clsN b ≤ 5 := by
  unfold clsN
  repeat (first | omega | split)
structure SkSt where
  j : Nat
  ln : Nat
  cl : Nat
set_option maxHeartbeats 4000000 in
theorem gskip_pu (r : Nat) (l : List UInt8) (k ln cl : Nat) (hk : k ≤ l.length) (hl : l.length ≤ 100000) (hln : ln ≤ k + 1) (hcl : cl ≤ k + 1) :
    PuH Tryz.prog 201 [lit (.pointer (some ⟨r, 0, none⟩))] [(r, rdT, rdG l k ln cl)] (fun v H => v = Ab.tup [] ∧ H = [(r, rdT, rdG l (k + (gsk false (l.drop k) ln cl).1) (gsk false (l.drop k) ln cl).2.1 (gsk false (l.drop k) ln cl).2.2)]) noX := by
  generalize hq : gsk false (l.drop k) ln cl = q
  refine PuH.intro Tryz.func201 rfl (by kernel_rfl) fun C hC => ?_
  refine WP.block ?_
  refine WP.loopS (ι := SkSt) (fun x => x.j ≤ l.length ∧ (x.ln ≤ x.j + 1 ∧ x.cl ≤ x.j + 1) ∧ (x.j + (gsk false (l.drop x.j) x.ln x.cl).1 = k + q.1 ∧ (gsk false (l.drop x.j) x.ln x.cl).2 = q.2)) (fun x => l.length - x.j) (fun x => fm [(0, lit (.pointer (some ⟨r, 0, none⟩)))]) (fun x => [(r, rdT, rdG l x.j x.ln x.cl)]) ⟨k, ln, cl⟩ ⟨hk, ⟨hln, hcl⟩, by simp only; rw [hq], by simp only; rw [hq]⟩ (by (repeat (first | exact LeF.nil _ | refine LeF.cons (Le.refl _) ?_ | refine LeF.cons (Le.int (by omega)) ?_))) (List.Sublist.refl _) ?_
  clear hq hk hln hcl
  rintro ⟨j, jl, jc⟩ ⟨hj, ⟨hjl', hjc⟩, hs1, hs2⟩ K hK
  simp only at hj hjl' hjc hs1 hs2 ⊢
  by_cases hjl : j < l.length
  · obtain ⟨b, hd, hm, hg⟩ := at_byte hjl
    have hb := b.toNat_lt
    have c1 := classOf_pu (b := b.toNat) (by omega)
    rw [hd] at hs1 hs2
    by_cases h10 : b.toNat = 10
    · rw [gsk_nl h10] at hs1 hs2
      simp only at hs1 hs2
      have hc : clsN b.toNat = 1 := by rw [h10]; decide +kernel
      rw [hc, ← hg] at c1
      have c2 := gtake_pu r l j 1 jl jc (by omega) hl hjc
      rw [show ((1 : Nat) : Int) = 1 from rfl] at c2
      rw [hd, List.take_succ_cons, List.take_zero, show b = 10 from UInt8.toNat_inj.1 h10] at c2
      have hgo := fun F' H' => hK F' H' ⟨j + 1, jl + 1, 1⟩ ⟨by simp only; omega, ⟨by simp only; omega, by simp only; omega⟩, by simp only; omega, hs2⟩ (by simp only; omega)
      clear hK hs1 hs2
      repeat (first | (refine A1 ⟨?_⟩; intros) | (refine Wcx (c1) ?_) | (refine Wdcx (c1) ?_) | (refine Wcgx (c1) ?_) | (refine Wdcgx (c1) ?_))
      refine WfT c2 ?_
      rintro _ _ ⟨rfl, rfl⟩
      simp only [List.cons_append, List.nil_append]
      repeat (refine A1 ⟨?_⟩; intros)
      exact hgo _ _ (by (repeat (first | exact LeF.nil _ | refine LeF.cons (Le.refl _) ?_ | refine LeF.cons (Le.int (by omega)) ?_))) (List.Sublist.refl _)
    by_cases hc1 : clsN b.toNat = 1
    · rw [gsk_sp h10 hc1] at hs1 hs2
      simp only at hs1 hs2
      rw [hc1, ← hg] at c1
      have c2 := gtake_pu r l j 1 jl jc (by omega) hl hjc
      rw [show ((1 : Nat) : Int) = 1 from rfl] at c2
      rw [hd, List.take_succ_cons, List.take_zero] at c2
      have hbn : ¬ [b] = [10] := fun e => h10 (by rw [(List.cons.inj e).1]; rfl)
      have hgo := fun F' H' => hK F' H' ⟨j + 1, jl, jc + 1⟩ ⟨by simp only; omega, ⟨by simp only; omega, by simp only; omega⟩, by simp only; omega, hs2⟩ (by simp only; omega)
      clear hK hs1 hs2
      repeat (first | (refine A1 ⟨?_⟩; intros) | (refine Wcx (c1) ?_) | (refine Wdcx (c1) ?_) | (refine Wcgx (c1) ?_) | (refine Wdcgx (c1) ?_))
      refine WfT c2 ?_
      rintro _ _ ⟨rfl, rfl⟩
      simp only [List.cons_append, List.nil_append]
      repeat (refine A1 ⟨?_⟩; intros)
      exact hgo _ _ (by (repeat (first | exact LeF.nil _ | refine LeF.cons (Le.refl _) ?_ | refine LeF.cons (Le.int (by omega)) ?_))) (List.Sublist.refl _)
    by_cases hc2 : clsN b.toNat = 2
    · rw [gsk_hash hc2 h10, ← hd] at hs1 hs2
      rw [hc2, ← hg] at c1
      have c3 := sIdx_pu (l.drop j) (b := 10) (by omega)
      have hlen : (l.drop j).length = l.length - j := List.length_drop
      rcases idxB_spec (l.drop j) (b := 10) (by omega) with ⟨hi, hno⟩ | ⟨m, hi, hml, hm10, hno⟩
      · rw [gsk_cm jl jc (Nat.le_refl _) hno (.inl rfl), List.drop_length] at hs1 hs2
        rw [hi] at c3
        have c2 := gtake_pu r l j (l.length - j) jl jc (by omega) hl hjc
        rw [hlen] at hs1 hs2
        have hgo := fun F' H' => hK F' H' ⟨j + (l.length - j), jl, jc + (l.length - j)⟩ ⟨by simp only; omega, ⟨by simp only; omega, by simp only; omega⟩, by
          simp only
          rw [List.drop_eq_nil_of_le (by omega)]
          simp only at hs1
          omega, by
          simp only
          rw [List.drop_eq_nil_of_le (by omega)]
          exact hs2⟩ (by simp only; omega)
        have ei : ((l.length : Int) - j) = ((l.length - j : Nat) : Int) := by omega
        clear hK hs1 hs2 hno
        generalize l.length - j = n at *
        repeat (first | (refine A1 ⟨?_⟩; intros) | (refine Wcx (c1) ?_) | (refine Wdcx (c1) ?_) | (refine Wcgx (c1) ?_) | (refine Wdcgx (c1) ?_))
        refine Wdo (ov_ssl (i := j) (j := l.length) rfl (fun y hy => by cases hy; exact ⟨_, _, rfl, rfl⟩) (fun h => by cases h) (fun _ h => by cases h) (fun _ => rfl) (by omega) (Nat.le_refl _)) ?_
        rw [List.take_length]
        repeat (first | (refine A1 ⟨?_⟩; intros) | (refine Wcx (c3) ?_) | (refine Wdcx (c3) ?_) | (refine Wcgx (c3) ?_) | (refine Wdcgx (c3) ?_))
        rw [ei]
        refine WfT c2 ?_
        rintro _ _ ⟨rfl, rfl⟩
        simp only [List.cons_append, List.nil_append]
        repeat (refine A1 ⟨?_⟩; intros)
        exact hgo _ _ (by (repeat (first | exact LeF.nil _ | refine LeF.cons (Le.refl _) ?_ | refine LeF.cons (Le.int (by omega)) ?_))) (List.Sublist.refl _)
      · rw [gsk_cm jl jc (by omega) hno (.inr hm10), List.drop_drop] at hs1 hs2
        rw [hi] at c3
        have hm0 : m ≠ 0 := fun e => by
          rw [e, hd] at hm10
          exact h10 (by rw [show b = UInt8.ofNat 10 from hm10]; rfl)
        have c2 := gtake_pu r l j m jl jc (by omega) hl hjc
        have hgo := fun F' H' => hK F' H' ⟨j + m, jl, jc + m⟩ ⟨by simp only; omega, ⟨by simp only; omega, by simp only; omega⟩, by
          simp only at hs1 ⊢
          omega, hs2⟩ (by simp only; omega)
        clear hK hs1 hs2 hno
        repeat (first | (refine A1 ⟨?_⟩; intros) | (refine Wcx (c1) ?_) | (refine Wdcx (c1) ?_) | (refine Wcgx (c1) ?_) | (refine Wdcgx (c1) ?_))
        refine Wdo (ov_ssl (i := j) (j := l.length) rfl (fun y hy => by cases hy; exact ⟨_, _, rfl, rfl⟩) (fun h => by cases h) (fun _ h => by cases h) (fun _ => rfl) (by omega) (Nat.le_refl _)) ?_
        rw [List.take_length]
        repeat (first | (refine A1 ⟨?_⟩; intros) | (refine Wcx (c3) ?_) | (refine Wdcx (c3) ?_) | (refine Wcgx (c3) ?_) | (refine Wdcgx (c3) ?_))
        refine WfT c2 ?_
        rintro _ _ ⟨rfl, rfl⟩
        simp only [List.cons_append, List.nil_append]
        repeat (refine A1 ⟨?_⟩; intros)
        exact hgo _ _ (by (repeat (first | exact LeF.nil _ | refine LeF.cons (Le.refl _) ?_ | refine LeF.cons (Le.int (by omega)) ?_))) (List.Sublist.refl _)
    · rw [gsk_stop hc1 hc2 h10] at hs1 hs2
      simp only [Nat.add_zero] at hs1 hs2
      have hc0 := clsN_rng b.toNat
      rw [← hg] at c1 hc1 hc2 hc0
      obtain ⟨q1, q2, q3⟩ := q
      simp only [Prod.mk.injEq] at hs1 hs2
      obtain ⟨rfl, rfl⟩ := hs2
      clear hK
      generalize clsN (l.getD j 0).toNat = cc at *
      repeat (first | (refine A1 ⟨?_⟩; intros) | (refine Wcx (c1) ?_) | (refine Wdcx (c1) ?_) | (refine Wcgx (c1) ?_) | (refine Wdcgx (c1) ?_))
      exact endHR _ _ end0 (List.Sublist.refl _) ⟨rfl, by rw [hs1]⟩
  · rw [List.drop_eq_nil_of_le (by omega)] at hs1 hs2
    obtain ⟨q1, q2, q3⟩ := q
    simp only [gsk, Prod.mk.injEq, Nat.add_zero] at hs1 hs2
    obtain ⟨rfl, rfl⟩ := hs2
    clear hK
    repeat (refine A1 ⟨?_⟩; intros)
    exact endHN _ _ end0 (List.Sublist.refl _) ⟨rfl, by rw [hs1]⟩
set_option maxHeartbeats 4000000 in
theorem grun_pu (r : Nat) (l : List UInt8) (k ln cl : Nat) (hk : k ≤ l.length) (hl : l.length ≤ 100000) :
    PuH Tryz.prog 204 [lit (.pointer (some ⟨r, 0, none⟩)), sl [lit (.int .i64 3), lit (.int .i64 4)] 2] [(r, rdT, rdG l k ln cl)] (fun v H => v = lit (.int .i64 (grun isLD (l.drop k) : Nat)) ∧ H = [(r, rdT, rdG l k ln cl)]) noX := by
  refine PuH.intro Tryz.func204 rfl (by kernel_rfl) fun C hC => ?_
  repeat (refine A1 ⟨?_⟩; intros)
  refine WP.loopS (ι := Nat) (fun j => k + j ≤ l.length ∧ j + grun isLD (l.drop (k + j)) = grun isLD (l.drop k)) (fun j => l.length - (k + j))
    (fun j => fm [(0, lit (.pointer (some ⟨r, 0, none⟩))), (1, sl [lit (.int .i64 3), lit (.int .i64 4)] 2), (5, lit (.int .i64 j))]) (fun j => [(r, rdT, rdG l k ln cl)]) 0 ⟨hk, by rw [Nat.add_zero, Nat.zero_add]⟩ (by (repeat (first | exact LeF.nil _ | refine LeF.cons (Le.refl _) ?_ | refine LeF.cons (Le.int (by omega)) ?_))) (List.Sublist.refl _) ?_
  rintro j ⟨hj, hs⟩ K hK
  by_cases hjl : k + j < l.length
  · obtain ⟨b, hd, hm, hg⟩ := at_byte hjl
    have hb := b.toNat_lt
    have c1 := classOf_pu (b := b.toNat) (by omega)
    have hgo : isLD (clsN b.toNat) = true → ∀ F' H', LeF F' (fm [(0, lit (.pointer (some ⟨r, 0, none⟩))), (1, sl [lit (.int .i64 3), lit (.int .i64 4)] 2), (5, lit (.int .i64 (j + 1 : Nat)))]) → [(r, rdT, rdG l k ln cl)].Sublist H' → K F' H' := fun ht F' H' => hK F' H' (j + 1) ⟨by omega, by
      rw [hd, grun_t ht] at hs
      rw [show k + (j + 1) = k + j + 1 by omega]; omega⟩ (by omega)
    have hst : isLD (clsN b.toNat) = false → j = grun isLD (l.drop k) := fun hf => by
      rw [hd, grun_f hf] at hs
      omega
    rw [← hg] at c1 hgo hst
    clear hK hs
    generalize clsN (l.getD (k + j) 0).toNat = cc at *
    by_cases h3 : cc = 3
    · subst h3
      replace hgo := hgo rfl
      clear hst
      repeat (first | (refine A1 ⟨?_⟩; intros) | (refine Wcx (c1) ?_) | (refine Wdcx (c1) ?_) | (refine Wcgx (c1) ?_) | (refine Wdcgx (c1) ?_))
      refine WP.unroll 3 ?_
      refine WPR.succ ?_
      repeat (refine A1 ⟨?_⟩; intros)
      refine Wo (ov_idxS (cs' := [lit (.int .i64 3)]) rfl rfl (by omega) (by omega) rfl (by simp)) ?_
      repeat (refine A1 ⟨?_⟩; intros)
      exact hgo _ _ (by (repeat (first | exact LeF.nil _ | refine LeF.cons (Le.refl _) ?_ | refine LeF.cons (Le.int (by omega)) ?_))) (List.Sublist.refl _)
    by_cases h4 : cc = 4
    · subst h4
      replace hgo := hgo rfl
      clear hst
      repeat (first | (refine A1 ⟨?_⟩; intros) | (refine Wcx (c1) ?_) | (refine Wdcx (c1) ?_) | (refine Wcgx (c1) ?_) | (refine Wdcgx (c1) ?_))
      refine WP.unroll 3 ?_
      refine WPR.succ ?_
      repeat (refine A1 ⟨?_⟩; intros)
      refine Wo (ov_idxS (cs' := [lit (.int .i64 3)]) rfl rfl (by omega) (by omega) rfl (by simp)) ?_
      repeat (refine A1 ⟨?_⟩; intros)
      refine Wo (ov_idxS (cs' := [lit (.int .i64 4)]) rfl rfl (by omega) (by omega) rfl (by simp)) ?_
      repeat (refine A1 ⟨?_⟩; intros)
      exact hgo _ _ (by (repeat (first | exact LeF.nil _ | refine LeF.cons (Le.refl _) ?_ | refine LeF.cons (Le.int (by omega)) ?_))) (List.Sublist.refl _)
    · have hj' := hst (by unfold isLD; rw [decide_eq_false h3, decide_eq_false h4]; rfl)
      subst hj'
      clear hst hgo
      repeat (first | (refine A1 ⟨?_⟩; intros) | (refine Wcx (c1) ?_) | (refine Wdcx (c1) ?_) | (refine Wcgx (c1) ?_) | (refine Wdcgx (c1) ?_))
      refine WP.unroll 3 ?_
      refine WPR.succ ?_
      repeat (refine A1 ⟨?_⟩; intros)
      refine Wo (ov_idxS (cs' := [lit (.int .i64 3)]) rfl rfl (by omega) (by omega) rfl (by simp)) ?_
      repeat (refine A1 ⟨?_⟩; intros)
      refine Wo (ov_idxS (cs' := [lit (.int .i64 4)]) rfl rfl (by omega) (by omega) rfl (by simp)) ?_
      repeat (refine A1 ⟨?_⟩; intros)
      exact endHR _ _ (end1 (RV.tmp rfl) (Le.refl _)) (List.Sublist.refl _) ⟨rfl, rfl⟩
  · rw [List.drop_eq_nil_of_le (by omega)] at hs
    have hj' : j = grun isLD (l.drop k) := by unfold grun at hs ⊢; simpa using hs
    subst hj'
    clear hK
    repeat (refine A1 ⟨?_⟩; intros)
    exact endHR _ _ (end1 (RV.tmp rfl) (Le.refl _)) (List.Sublist.refl _) ⟨rfl, rfl⟩
set_option maxHeartbeats 4000000 in
theorem grunD_pu (r : Nat) (l : List UInt8) (k ln cl : Nat) (hk : k ≤ l.length) (hl : l.length ≤ 100000) :
    PuH Tryz.prog 204 [lit (.pointer (some ⟨r, 0, none⟩)), sl [lit (.int .i64 4)] 1] [(r, rdT, rdG l k ln cl)] (fun v H => v = lit (.int .i64 (grun isD (l.drop k) : Nat)) ∧ H = [(r, rdT, rdG l k ln cl)]) noX := by
  refine PuH.intro Tryz.func204 rfl (by kernel_rfl) fun C hC => ?_
  repeat (refine A1 ⟨?_⟩; intros)
  refine WP.loopS (ι := Nat) (fun j => k + j ≤ l.length ∧ j + grun isD (l.drop (k + j)) = grun isD (l.drop k)) (fun j => l.length - (k + j))
    (fun j => fm [(0, lit (.pointer (some ⟨r, 0, none⟩))), (1, sl [lit (.int .i64 4)] 1), (5, lit (.int .i64 j))]) (fun j => [(r, rdT, rdG l k ln cl)]) 0 ⟨hk, by rw [Nat.add_zero, Nat.zero_add]⟩ (by (repeat (first | exact LeF.nil _ | refine LeF.cons (Le.refl _) ?_ | refine LeF.cons (Le.int (by omega)) ?_))) (List.Sublist.refl _) ?_
  rintro j ⟨hj, hs⟩ K hK
  by_cases hjl : k + j < l.length
  · obtain ⟨b, hd, hm, hg⟩ := at_byte hjl
    have hb := b.toNat_lt
    have c1 := classOf_pu (b := b.toNat) (by omega)
    have hgo : isD (clsN b.toNat) = true → ∀ F' H', LeF F' (fm [(0, lit (.pointer (some ⟨r, 0, none⟩))), (1, sl [lit (.int .i64 4)] 1), (5, lit (.int .i64 (j + 1 : Nat)))]) → [(r, rdT, rdG l k ln cl)].Sublist H' → K F' H' := fun ht F' H' => hK F' H' (j + 1) ⟨by omega, by
      rw [hd, grun_t ht] at hs
      rw [show k + (j + 1) = k + j + 1 by omega]; omega⟩ (by omega)
    have hst : isD (clsN b.toNat) = false → j = grun isD (l.drop k) := fun hf => by
      rw [hd, grun_f hf] at hs
      omega
    rw [← hg] at c1 hgo hst
    clear hK hs
    generalize clsN (l.getD (k + j) 0).toNat = cc at *
    by_cases h4 : cc = 4
    · subst h4
      replace hgo := hgo rfl
      clear hst
      repeat (first | (refine A1 ⟨?_⟩; intros) | (refine Wcx (c1) ?_) | (refine Wdcx (c1) ?_) | (refine Wcgx (c1) ?_) | (refine Wdcgx (c1) ?_))
      refine WP.unroll 2 ?_
      refine WPR.succ ?_
      repeat (refine A1 ⟨?_⟩; intros)
      refine Wo (ov_idxS (cs' := [lit (.int .i64 4)]) rfl rfl (by omega) (by omega) rfl (by simp)) ?_
      repeat (refine A1 ⟨?_⟩; intros)
      exact hgo _ _ (by (repeat (first | exact LeF.nil _ | refine LeF.cons (Le.refl _) ?_ | refine LeF.cons (Le.int (by omega)) ?_))) (List.Sublist.refl _)
    · have hj' := hst (by unfold isD; rw [decide_eq_false h4])
      subst hj'
      clear hst hgo
      repeat (first | (refine A1 ⟨?_⟩; intros) | (refine Wcx (c1) ?_) | (refine Wdcx (c1) ?_) | (refine Wcgx (c1) ?_) | (refine Wdcgx (c1) ?_))
      refine WP.unroll 2 ?_
      refine WPR.succ ?_
      repeat (refine A1 ⟨?_⟩; intros)
      refine Wo (ov_idxS (cs' := [lit (.int .i64 4)]) rfl rfl (by omega) (by omega) rfl (by simp)) ?_
      repeat (refine A1 ⟨?_⟩; intros)
      exact endHR _ _ (end1 (RV.tmp rfl) (Le.refl _)) (List.Sublist.refl _) ⟨rfl, rfl⟩
  · rw [List.drop_eq_nil_of_le (by omega)] at hs
    have hj' : j = grun isD (l.drop k) := by unfold grun at hs ⊢; simpa using hs
    subst hj'
    clear hK
    repeat (refine A1 ⟨?_⟩; intros)
    exact endHR _ _ (end1 (RV.tmp rfl) (Le.refl _)) (List.Sublist.refl _) ⟨rfl, rfl⟩
def eg : Nat → Nat
  | 1 => 4
  | 2 => 3
  | _ => 5
abbrev erC (e : Er) : List SV := [lit (sent (eg e.k)), lit (.int .i64 e.l), lit (.int .i64 e.c), str e.t]
abbrev erSV (e : Er) : SV := ifc 32 (pt (erC e))
set_option maxHeartbeats 8000000 in
theorem gnext_pu [Sent 3] [Sent 4] (r : Nat) (l : List UInt8) (k ln cl : Nat) (hk : k ≤ l.length) (hl : l.length ≤ 100000) (hln : ln ≤ k + 1) (hcl : cl ≤ k + 1) :
    PuH Tryz.prog 145 [lit (.pointer (some ⟨r, 0, none⟩))] [(r, rdT, rdG l k ln cl)] (fun v H => match gnx (l.drop k) ln cl with
      | .ok (t, n) => v = Ab.tup [ag (tkx t), lit .nilIface] ∧ H = [(r, rdT, rdG l (k + n) t.l (t.c + t.t.length))]
      | .error e => v = Ab.tup [ag (tkx ⟨0, [], 0, 0⟩), erSV e]) noX := by
  have hsk := gsk_le false (l.drop k) ln cl
  rw [List.length_drop] at hsk
  have c0 := gskip_pu r l k ln cl hk hl hln hcl
  have hbd := gsk_bd false (l.drop k) ln cl k hln hcl
  have hhd := gsk_head false (l.drop k) ln cl
  unfold gnx
  rw [List.drop_drop] at hhd ⊢
  generalize gsk false (l.drop k) ln cl = q at *
  obtain ⟨q, lq, cq⟩ := q
  simp only at hsk c0 hbd hhd ⊢
  obtain ⟨hlq, hcq⟩ := hbd
  have ha : k + q ≤ l.length := by omega
  clear hsk
  obtain ⟨a, hqa⟩ : ∃ a, a = k + q := ⟨_, rfl⟩
  rw [← hqa] at ha c0 hlq hcq hhd ⊢
  by_cases hal : a < l.length
  case neg =>
    rw [List.drop_eq_nil_of_le (by omega)]
    refine PuH.intro Tryz.func145 rfl (by kernel_rfl) fun C hC => ?_
    repeat (refine A1 ⟨?_⟩; intros)
    refine WfT c0 ?_
    rintro _ _ ⟨rfl, rfl⟩
    simp only [List.cons_append, List.nil_append]
    repeat (refine A1 ⟨?_⟩; intros)
    exact endHR _ [(r, rdT, rdG l a lq cq)] (end2 (RV.cellA rfl (by repeat (first | exact List.mem_cons_self | apply List.mem_cons_of_mem)) rfl rfl) (RV.tmp rfl) (Le.refl _)) (by repeat (first | exact List.Sublist.refl _ | refine List.Sublist.cons _ ?_)) ⟨rfl, by rw [← hqa]; rfl⟩
  obtain ⟨b, hd, hm, hg⟩ := at_byte hal
  obtain ⟨hh1, hh2⟩ := hhd b _ hd
  clear hhd hm
  have hb := b.toNat_lt
  have c1 := classOf_pu (b := b.toNat) (by omega)
  by_cases h3 : clsN b.toNat = 3
  · rw [hd]
    simp only
    rw [if_pos h3, ← hd]
    rw [h3, ← hg] at c1
    have c2 := grun_pu r l a lq cq ha hl
    have hn1 := grun_t (p := isLD) (b := b) (by rw [h3]; rfl) (l.drop (a + 1))
    have hn2 := grun_le isLD (l.drop a)
    rw [← hd] at hn1
    rw [List.length_drop] at hn2
    have c3 := gtake_pu r l a (grun isLD (l.drop a)) lq cq (by omega) hl hcq
    have hlen : ((l.drop a).take (grun isLD (l.drop a))).length = grun isLD (l.drop a) := by rw [List.length_take, List.length_drop]; omega
    generalize grun isLD (l.drop (a + 1)) = n0 at *
    generalize grun isLD (l.drop a) = n at *
    generalize (l.drop a).take n = tx at *
    clear hd hg
    by_cases hlim : 24 < n
    · rw [if_pos hlim]
      simp only
      refine PuH.intro Tryz.func145 rfl (by kernel_rfl) fun C hC => ?_
      repeat (refine A1 ⟨?_⟩; intros)
      refine WfT c0 ?_
      rintro _ _ ⟨rfl, rfl⟩
      simp only [List.cons_append, List.nil_append]
      repeat (first | (refine A1 ⟨?_⟩; intros) | (refine Wcx (c1) ?_) | (refine Wdcx (c1) ?_) | (refine Wcgx (c1) ?_) | (refine Wdcgx (c1) ?_))
      refine WpubS 46 rfl (HDel.here _) (by omega) (by omega) ?_
      refine WfT c2 ?_
      rintro _ _ ⟨rfl, rfl⟩
      simp only [List.cons_append, List.nil_append]
      refine WfT c3 ?_
      rintro _ _ ⟨rfl, rfl⟩
      simp only [List.cons_append, List.nil_append]
      repeat (first | (refine AS ⟨?_⟩; intros) | (refine O1 ⟨?_⟩; intros))
      rename_i b2 b4 b46
      refine WP.perm (List.Perm.swap _ _ _) ?_
      refine WdM [11] [(b4, tkT, [lit (.int .i64 1), str tx, lit (.int .i64 lq), lit (.int .i64 cq)]), (r, rdT, rdG l (a + n) lq (cq + n))] (fun _ => [(b2, tkT, tkx ⟨0, [], 0, 0⟩)]) ?_
      refine MkD 11 ?_
      repeat (refine A1 ⟨?_⟩; intros)
      refine Wdo (ov_boxP (sv := ag _) rfl) ?_
      refine Wdo (ov_makeIface (s := pt _) (by kernel_rfl) rfl) ?_
      repeat (refine A1 ⟨?_⟩; intros)
      refine mkD0 ?_
      refine MkR (sv := top) (TS.store (sv := ag (tkx ⟨0, [], 0, 0⟩)) (ds := tkx ⟨0, [], 0, 0⟩) rfl rfl rfl rfl (HUpd.here _) rfl rfl) ?_
      refine MkD 1 ?_
      repeat (refine A1 ⟨?_⟩; intros)
      refine mkD0 ?_
      refine MkN ?_
      repeat (refine A1 ⟨?_⟩; intros)
      exact endHR _ [] (end2 (RV.cellA rfl (by repeat (first | exact List.mem_cons_self | apply List.mem_cons_of_mem)) rfl rfl) (RV.tmp rfl) (Le.refl _)) (List.nil_sublist _) rfl
    · rw [if_neg hlim]
      simp only
      rw [hlen]
      refine PuH.intro Tryz.func145 rfl (by kernel_rfl) fun C hC => ?_
      repeat (refine A1 ⟨?_⟩; intros)
      refine WfT c0 ?_
      rintro _ _ ⟨rfl, rfl⟩
      simp only [List.cons_append, List.nil_append]
      repeat (first | (refine A1 ⟨?_⟩; intros) | (refine Wcx (c1) ?_) | (refine Wdcx (c1) ?_) | (refine Wcgx (c1) ?_) | (refine Wdcgx (c1) ?_))
      refine WpubS 46 rfl (HDel.here _) (by omega) (by omega) ?_
      refine WfT c2 ?_
      rintro _ _ ⟨rfl, rfl⟩
      simp only [List.cons_append, List.nil_append]
      refine WfT c3 ?_
      rintro _ _ ⟨rfl, rfl⟩
      simp only [List.cons_append, List.nil_append]
      repeat (refine A1 ⟨?_⟩; intros)
      exact endHR _ [(r, rdT, rdG l (a + n) lq (cq + n))] (end2 (RV.cellA rfl (by repeat (first | exact List.mem_cons_self | apply List.mem_cons_of_mem)) rfl rfl) (RV.tmp rfl) (Le.refl _)) (by repeat (first | exact List.Sublist.refl _ | refine List.Sublist.cons _ ?_)) ⟨rfl, by rw [show k + (q + n) = a + n by omega]⟩
  by_cases h4 : clsN b.toNat = 4
  · rw [hd]
    simp only
    rw [if_neg h3]
    rw [if_pos h4, ← hd]
    rw [h4, ← hg] at c1
    have c2 := grunD_pu r l a lq cq ha hl
    have hn1 := grun_t (p := isD) (b := b) (by rw [h4]; rfl) (l.drop (a + 1))
    have hn2 := grun_le isD (l.drop a)
    rw [← hd] at hn1
    rw [List.length_drop] at hn2
    have c3 := gtake_pu r l a (grun isD (l.drop a)) lq cq (by omega) hl hcq
    have hlen : ((l.drop a).take (grun isD (l.drop a))).length = grun isD (l.drop a) := by rw [List.length_take, List.length_drop]; omega
    generalize grun isD (l.drop (a + 1)) = n0 at *
    generalize grun isD (l.drop a) = n at *
    generalize (l.drop a).take n = tx at *
    clear hd hg
    by_cases hlim : 4096 < n
    · rw [if_pos hlim]
      simp only
      refine PuH.intro Tryz.func145 rfl (by kernel_rfl) fun C hC => ?_
      repeat (refine A1 ⟨?_⟩; intros)
      refine WfT c0 ?_
      rintro _ _ ⟨rfl, rfl⟩
      simp only [List.cons_append, List.nil_append]
      repeat (first | (refine A1 ⟨?_⟩; intros) | (refine Wcx (c1) ?_) | (refine Wdcx (c1) ?_) | (refine Wcgx (c1) ?_) | (refine Wdcgx (c1) ?_))
      refine WpubS 60 rfl (HDel.here _) (by omega) (by omega) ?_
      refine WfT c2 ?_
      rintro _ _ ⟨rfl, rfl⟩
      simp only [List.cons_append, List.nil_append]
      refine WfT c3 ?_
      rintro _ _ ⟨rfl, rfl⟩
      simp only [List.cons_append, List.nil_append]
      repeat (first | (refine AS ⟨?_⟩; intros) | (refine O1 ⟨?_⟩; intros))
      rename_i b2 b4 b60
      refine WP.perm (List.Perm.swap _ _ _) ?_
      refine WdM [11] [(b4, tkT, [lit (.int .i64 2), str tx, lit (.int .i64 lq), lit (.int .i64 cq)]), (r, rdT, rdG l (a + n) lq (cq + n))] (fun _ => [(b2, tkT, tkx ⟨0, [], 0, 0⟩)]) ?_
      refine MkD 11 ?_
      repeat (refine A1 ⟨?_⟩; intros)
      refine Wdo (ov_boxP (sv := ag _) rfl) ?_
      refine Wdo (ov_makeIface (s := pt _) (by kernel_rfl) rfl) ?_
      repeat (refine A1 ⟨?_⟩; intros)
      refine mkD0 ?_
      refine MkR (sv := top) (TS.store (sv := ag (tkx ⟨0, [], 0, 0⟩)) (ds := tkx ⟨0, [], 0, 0⟩) rfl rfl rfl rfl (HUpd.here _) rfl rfl) ?_
      refine MkD 1 ?_
      repeat (refine A1 ⟨?_⟩; intros)
      refine mkD0 ?_
      refine MkN ?_
      repeat (refine A1 ⟨?_⟩; intros)
      exact endHR _ [] (end2 (RV.cellA rfl (by repeat (first | exact List.mem_cons_self | apply List.mem_cons_of_mem)) rfl rfl) (RV.tmp rfl) (Le.refl _)) (List.nil_sublist _) rfl
    · rw [if_neg hlim]
      simp only
      rw [hlen]
      refine PuH.intro Tryz.func145 rfl (by kernel_rfl) fun C hC => ?_
      repeat (refine A1 ⟨?_⟩; intros)
      refine WfT c0 ?_
      rintro _ _ ⟨rfl, rfl⟩
      simp only [List.cons_append, List.nil_append]
      repeat (first | (refine A1 ⟨?_⟩; intros) | (refine Wcx (c1) ?_) | (refine Wdcx (c1) ?_) | (refine Wcgx (c1) ?_) | (refine Wdcgx (c1) ?_))
      refine WpubS 60 rfl (HDel.here _) (by omega) (by omega) ?_
      refine WfT c2 ?_
      rintro _ _ ⟨rfl, rfl⟩
      simp only [List.cons_append, List.nil_append]
      refine WfT c3 ?_
      rintro _ _ ⟨rfl, rfl⟩
      simp only [List.cons_append, List.nil_append]
      repeat (refine A1 ⟨?_⟩; intros)
      exact endHR _ [(r, rdT, rdG l (a + n) lq (cq + n))] (end2 (RV.cellA rfl (by repeat (first | exact List.mem_cons_self | apply List.mem_cons_of_mem)) rfl rfl) (RV.tmp rfl) (Le.refl _)) (by repeat (first | exact List.Sublist.refl _ | refine List.Sublist.cons _ ?_)) ⟨rfl, by rw [show k + (q + n) = a + n by omega]⟩
  by_cases h5 : clsN b.toNat = 5
  · rw [hd]
    simp only
    rw [if_neg h3, if_neg h4, if_pos h5]
    rw [h5, ← hg] at c1
    have c3 := gtake_pu r l a 1 lq cq (by omega) hl hcq
    rw [hd, List.take_succ_cons, List.take_zero, show ((1 : Nat) : Int) = 1 from rfl] at c3
    clear hd hg
    refine PuH.intro Tryz.func145 rfl (by kernel_rfl) fun C hC => ?_
    repeat (refine A1 ⟨?_⟩; intros)
    refine WfT c0 ?_
    rintro _ _ ⟨rfl, rfl⟩
    simp only [List.cons_append, List.nil_append]
    repeat (first | (refine A1 ⟨?_⟩; intros) | (refine Wcx (c1) ?_) | (refine Wdcx (c1) ?_) | (refine Wcgx (c1) ?_) | (refine Wdcgx (c1) ?_))
    refine WfT c3 ?_
    rintro _ _ ⟨rfl, rfl⟩
    simp only [List.cons_append, List.nil_append]
    repeat (refine A1 ⟨?_⟩; intros)
    exact endHR _ [(r, rdT, rdG l (a + 1) lq (cq + 1))] (end2 (RV.cellA rfl (by repeat (first | exact List.mem_cons_self | apply List.mem_cons_of_mem)) rfl rfl) (RV.tmp rfl) (Le.refl _)) (by repeat (first | exact List.Sublist.refl _ | refine List.Sublist.cons _ ?_)) ⟨rfl, by rw [show k + (q + 1) = a + 1 by omega]; rfl⟩
  · rw [hd]
    simp only
    rw [if_neg h3, if_neg h4, if_neg h5]
    have c3 := gtake_pu r l a 1 lq cq (by omega) hl hcq
    rw [hd, List.take_succ_cons, List.take_zero, show ((1 : Nat) : Int) = 1 from rfl] at c3
    rw [← hg] at c1 h3 h4 h5 hh1 hh2
    generalize clsN (l.getD a 0).toNat = cc at *
    clear hd hg
    refine PuH.intro Tryz.func145 rfl (by kernel_rfl) fun C hC => ?_
    repeat (refine A1 ⟨?_⟩; intros)
    refine WfT c0 ?_
    rintro _ _ ⟨rfl, rfl⟩
    simp only [List.cons_append, List.nil_append]
    repeat (first | (refine A1 ⟨?_⟩; intros) | (refine Wcx (c1) ?_) | (refine Wdcx (c1) ?_) | (refine Wcgx (c1) ?_) | (refine Wdcgx (c1) ?_))
    refine WfT c3 ?_
    rintro _ _ ⟨rfl, rfl⟩
    simp only [List.cons_append, List.nil_append]
    repeat (first | (refine AS ⟨?_⟩; intros) | (refine O1 ⟨?_⟩; intros))
    rename_i b2 b4
    refine WP.perm (List.Perm.swap _ _ _) ?_
    refine WdM [11] [(b4, tkT, [lit (.int .i64 0), str [b], lit (.int .i64 lq), lit (.int .i64 cq)]), (r, rdT, rdG l (a + 1) lq (cq + 1))] (fun _ => [(b2, tkT, tkx ⟨0, [], 0, 0⟩)]) ?_
    refine MkD 11 ?_
    repeat (refine A1 ⟨?_⟩; intros)
    refine Wdo (ov_boxP (sv := ag _) rfl) ?_
    refine Wdo (ov_makeIface (s := pt _) (by kernel_rfl) rfl) ?_
    repeat (refine A1 ⟨?_⟩; intros)
    refine mkD0 ?_
    refine MkR (sv := top) (TS.store (sv := ag (tkx ⟨0, [], 0, 0⟩)) (ds := tkx ⟨0, [], 0, 0⟩) rfl rfl rfl rfl (HUpd.here _) rfl rfl) ?_
    refine MkD 1 ?_
    repeat (refine A1 ⟨?_⟩; intros)
    refine mkD0 ?_
    refine MkN ?_
    repeat (refine A1 ⟨?_⟩; intros)
    exact endHR _ [] (end2 (RV.cellA rfl (by repeat (first | exact List.mem_cons_self | apply List.mem_cons_of_mem)) rfl rfl) (RV.tmp rfl) (Le.refl _)) (List.nil_sublist _) rfl
section
variable {P : Program} {C : Ctx} {n : Nat} {F : Fr} {H : LH} {ops : Array Oper} {K : Fr → LH → Prop} {rest : List Oper} {ty : TypeId} {pos : String} {aft : Array Edge}
theorem WpanF {x : Operand} {t : TypeId} {s : SV} (hx : ev F x = ifc t s) (kx : C.pan (ifc t s) H) {d : Option Nat} : WPL P C n ops (⟨d, .panic x, ty, pos, aft, none⟩ :: rest) K F H := by
  unfold WPL
  intro a w hst Q hq
  obtain ⟨hdef, hn, m, h1, h2, h3, h4, h5⟩ := hst
  have hp : ∀ x, (ev F x).p m (a.eval x) := fun x => by
    cases x with
    | tmp t => exact h5 t
    | const v => unfold ev lit; rfl
    | global g => unfold ev lit; rfl
    | func f => unfold ev lit; rfl
  have e0 := hp x; rw [hx] at e0
  have e0' := e0
  unfold ifc at e0'
  obtain ⟨u, e0', _⟩ := e0'
  refine wpList_plain rfl fun K' hK' => ?_
  unfold Oper.wp
  have hrun : (execOp a.eval (⟨d, .panic x, ty, pos, aft, none⟩ : Oper)).run P w = .halt (.panic (a.eval x)) w := by
    simp [execOp, e0', Instr.panic]
  rw [hrun]
  exact hq.pan _ _ _ ⟨hdef, m, _, ifc t s, H, rfl, h1, h2, h3, h4, e0, kx⟩
theorem WpubI {l : List Oper} {b : Nat} {T t : TypeId} {cs : List SV} {H' : LH} (d : Nat) (hv : F d = lit (.iface t (.pointer (some ⟨b, 0, none⟩)))) (hdel : HDel b T cs H H')
    (h : WPL P C n ops l K (upd F d (ifc t (pt cs))) H') : WPL P C n ops l K F H :=
  WPL.pub hdel hv (fun m arr hm ha => by unfold ifc; exact ⟨_, rfl, pub_pt m arr hm ha⟩) h
end
theorem gfail_pu (s : SV) (hco : CO s [s]) (p : Nat) (a : Tok) (r : List Tok) (d : Nat) (hr : r.length ≤ 1000000) (k : Nat) : PuH Tryz.prog 93 [lit (.pointer (some ⟨p, 0, none⟩)), lit (sent (eg k))] [(p, psT, psC (a :: r) d s)] (fun _ _ => False) (fun pv _ => pv = erSV (ger k (a :: r))) := by
  have c := pnext_pu s hco a r d hr
  refine PuH.intro Tryz.func93 rfl (by kernel_rfl) fun C hC => ?_
  repeat (refine A1 ⟨?_⟩; intros)
  refine Wo (ov_callT c rfl (by repeat (first | exact List.mem_cons_self | apply List.mem_cons_of_mem))) ?_
  repeat (refine A1 ⟨?_⟩; intros)
  refine WpubI 16 rfl (HDel.here _) ?_
  refine WpanF (t := 32) (s := pt _) rfl ?_
  rw [hC]
  rfl
theorem gis_pu (s : SV) (hco : CO s [s]) (a : Tok) (r : List Tok) (d : Nat) (hr : r.length ≤ 1000000) (w : List UInt8) :
    PuM Tryz.prog 154 psT (fun p => [lit (.pointer (some ⟨p, 0, none⟩)), str w]) (psC (a :: r) d s) (fun _ : Unit => psC (a :: r) d s) (fun _ => lit (.bool (gis (a :: r) w))) := by
  have c := pnext_pu s hco a r d hr
  rw [gis_cons]
  by_cases hw' : a.t = w
  · rw [decide_eq_true hw', Bool.and_true]
    by_cases h1 : a.k = 1
    · rw [decide_eq_true h1, Bool.true_or]
      refine PuM.intro Tryz.func154 rfl (by kernel_rfl) fun C b => ?_
      repeat (refine A1 ⟨?_⟩; intros)
      refine Wo (ov_callT c rfl (by repeat (first | exact List.mem_cons_self | apply List.mem_cons_of_mem))) ?_
      repeat (refine A1 ⟨?_⟩; intros)
      exact endMR () _ (end1 (RV.tmp rfl) (Le.refl _)) (by repeat (first | exact List.mem_cons_self | apply List.mem_cons_of_mem)) (LeL.refl _)
    · by_cases h3 : a.k = 3
      · rw [decide_eq_false h1, decide_eq_true h3, Bool.false_or]
        refine PuM.intro Tryz.func154 rfl (by kernel_rfl) fun C b => ?_
        repeat (refine A1 ⟨?_⟩; intros)
        refine Wo (ov_callT c rfl (by repeat (first | exact List.mem_cons_self | apply List.mem_cons_of_mem))) ?_
        repeat (refine A1 ⟨?_⟩; intros)
        exact endMR () _ (end1 (RV.tmp rfl) (Le.refl _)) (by repeat (first | exact List.mem_cons_self | apply List.mem_cons_of_mem)) (LeL.refl _)
      · rw [decide_eq_false h1, decide_eq_false h3, Bool.false_or]
        refine PuM.intro Tryz.func154 rfl (by kernel_rfl) fun C b => ?_
        repeat (refine A1 ⟨?_⟩; intros)
        refine Wo (ov_callT c rfl (by repeat (first | exact List.mem_cons_self | apply List.mem_cons_of_mem))) ?_
        repeat (refine A1 ⟨?_⟩; intros)
        exact endMR () _ (end1 (RV.tmp rfl) (Le.refl _)) (by repeat (first | exact List.mem_cons_self | apply List.mem_cons_of_mem)) (LeL.refl _)
  · rw [decide_eq_false hw', Bool.and_false]
    refine PuM.intro Tryz.func154 rfl (by kernel_rfl) fun C b => ?_
    repeat (refine A1 ⟨?_⟩; intros)
    refine Wo (ov_callT c rfl (by repeat (first | exact List.mem_cons_self | apply List.mem_cons_of_mem))) ?_
    repeat (refine A1 ⟨?_⟩; intros)
    exact endMR () _ (end1 (RV.tmp rfl) (Le.refl _)) (by repeat (first | exact List.mem_cons_self | apply List.mem_cons_of_mem)) (LeL.refl _)
theorem gexpect_pu [Sent 4] (s : SV) (hco : CO s [s]) (p : Nat) (a : Tok) (r : List Tok) (d : Nat) (hr : r.length ≤ 1000000) (w : List UInt8) :
    PuH Tryz.prog 100 [lit (.pointer (some ⟨p, 0, none⟩)), str w] [(p, psT, psC (a :: r) d s)] (fun v H => gexpect w (a :: r) = .ok r ∧ gis (a :: r) w = true ∧ v = Ab.tup [] ∧ H = [(p, psT, psC r d s)]) (fun pv _ => gexpect w (a :: r) = .error (ger 1 (a :: r)) ∧ pv = erSV (ger 1 (a :: r))) := by
  have c := gis_pu s hco a r d hr w
  have c3 := gfail_pu s hco p a r d hr 1
  unfold gexpect
  cases h : gis (a :: r) w with
  | true =>
    rw [h] at c
    refine PuH.intro Tryz.func100 rfl (by kernel_rfl) fun C hC => ?_
    repeat (refine A1 ⟨?_⟩; intros)
    refine Wo (ov_callT c rfl (by repeat (first | exact List.mem_cons_self | apply List.mem_cons_of_mem))) ?_
    repeat (refine A1 ⟨?_⟩; intros)
    refine WfT (ptake_pu s hco p a r d hr) ?_
    rintro _ _ ⟨rfl, rfl⟩
    simp only [List.cons_append, List.nil_append]
    repeat (refine A1 ⟨?_⟩; intros)
    exact endHN _ _ end0 (List.Sublist.refl _) ⟨by trivial, by trivial, rfl, rfl⟩
  | false =>
    rw [h] at c
    refine PuH.intro Tryz.func100 rfl (by kernel_rfl) fun C hC => ?_
    repeat (refine A1 ⟨?_⟩; intros)
    refine Wo (ov_callT c rfl (by repeat (first | exact List.mem_cons_self | apply List.mem_cons_of_mem))) ?_
    repeat (refine A1 ⟨?_⟩; intros)
    refine WfX c3 ?_ ?_
    · rintro _ _ ⟨⟩
    · rintro _ _ h
      rw [hC]
      exact ⟨rfl, h⟩
theorem gaccept_pu (s : SV) (hco : CO s [s]) (p : Nat) (a : Tok) (r : List Tok) (d : Nat) (hr : r.length ≤ 1000000) (w : List UInt8) :
    PuH Tryz.prog 208 [lit (.pointer (some ⟨p, 0, none⟩)), str w] [(p, psT, psC (a :: r) d s)] (fun v H => v = lit (.bool (gis (a :: r) w)) ∧ H = [(p, psT, psC (if gis (a :: r) w = true then r else a :: r) d s)]) noX := by
  have c := gis_pu s hco a r d hr w
  cases h : gis (a :: r) w with
  | true =>
    rw [h] at c
    refine PuH.intro Tryz.func208 rfl (by kernel_rfl) fun C hC => ?_
    repeat (refine A1 ⟨?_⟩; intros)
    refine Wo (ov_callT c rfl (by repeat (first | exact List.mem_cons_self | apply List.mem_cons_of_mem))) ?_
    repeat (refine A1 ⟨?_⟩; intros)
    refine WfT (ptake_pu s hco p a r d hr) ?_
    rintro _ _ ⟨rfl, rfl⟩
    simp only [List.cons_append, List.nil_append]
    repeat (refine A1 ⟨?_⟩; intros)
    exact endHR _ _ (end1 (RV.tmp rfl) (Le.refl _)) (List.Sublist.refl _) ⟨rfl, rfl⟩
  | false =>
    rw [h] at c
    refine PuH.intro Tryz.func208 rfl (by kernel_rfl) fun C hC => ?_
    repeat (refine A1 ⟨?_⟩; intros)
    refine Wo (ov_callT c rfl (by repeat (first | exact List.mem_cons_self | apply List.mem_cons_of_mem))) ?_
    repeat (refine A1 ⟨?_⟩; intros)
    exact endHR _ _ (end1 (RV.tmp rfl) (Le.refl _)) (List.Sublist.refl _) ⟨rfl, rfl⟩
theorem gname_pu [Sent 4] (s : SV) (hco : CO s [s]) (p : Nat) (a : Tok) (r : List Tok) (d : Nat) (hr : r.length ≤ 1000000) : PuH Tryz.prog 149 [lit (.pointer (some ⟨p, 0, none⟩))] [(p, psT, psC (a :: r) d s)]
    (fun v H => (a.k = 1 ∧ resv a.t = false) ∧ v = str a.t ∧ H = [(p, psT, psC r d s)]) (fun pv _ => ¬(a.k = 1 ∧ resv a.t = false) ∧ pv = erSV (ger 1 (a :: r))) := by
  have c := pisName_pu s hco a r d hr
  have c3 := gfail_pu s hco p a r d hr 1
  by_cases h : a.k = 1 ∧ resv a.t = false
  · rw [decide_eq_true h] at c
    have h' := h
    clear h
    have h := (show Hid _ from h')
    clear h'
    refine PuH.intro Tryz.func149 rfl (by kernel_rfl) fun C hC => ?_
    repeat (refine A1 ⟨?_⟩; intros)
    refine Wo (ov_callT c rfl (by repeat (first | exact List.mem_cons_self | apply List.mem_cons_of_mem))) ?_
    repeat (refine A1 ⟨?_⟩; intros)
    refine WfT (ptake_pu s hco p a r d hr) ?_
    rintro _ _ ⟨rfl, rfl⟩
    simp only [List.cons_append, List.nil_append]
    repeat (refine A1 ⟨?_⟩; intros)
    exact endHR _ _ (end1 (RV.tmp rfl) (Le.refl _)) (List.Sublist.refl _) ⟨h, rfl, rfl⟩
  · rw [decide_eq_false h] at c
    have h' := h
    clear h
    have h := (show Hid _ from h')
    clear h'
    refine PuH.intro Tryz.func149 rfl (by kernel_rfl) fun C hC => ?_
    repeat (refine A1 ⟨?_⟩; intros)
    refine Wo (ov_callT c rfl (by repeat (first | exact List.mem_cons_self | apply List.mem_cons_of_mem))) ?_
    repeat (refine A1 ⟨?_⟩; intros)
    refine WfX c3 ?_ ?_
    · rintro _ _ ⟨⟩
    · rintro _ _ hx
      rw [hC]
      exact ⟨h, hx⟩
theorem gnumber_pu [Sent 4] (s : SV) (hco : CO s [s]) (p : Nat) (a : Tok) (r : List Tok) (d : Nat) (hr : r.length ≤ 1000000) : PuH Tryz.prog 148 [lit (.pointer (some ⟨p, 0, none⟩))] [(p, psT, psC (a :: r) d s)]
    (fun v H => a.k = 2 ∧ v = str a.t ∧ H = [(p, psT, psC r d s)]) (fun pv _ => a.k ≠ 2 ∧ pv = erSV (ger 1 (a :: r))) := by
  have c := pnext_pu s hco a r d hr
  have c3 := gfail_pu s hco p a r d hr 1
  by_cases hk : a.k = 2
  · refine PuH.intro Tryz.func148 rfl (by kernel_rfl) fun C hC => ?_
    repeat (refine A1 ⟨?_⟩; intros)
    refine Wo (ov_callT c rfl (by repeat (first | exact List.mem_cons_self | apply List.mem_cons_of_mem))) ?_
    repeat (refine A1 ⟨?_⟩; intros)
    refine WfT (ptake_pu s hco p a r d hr) ?_
    rintro _ _ ⟨rfl, rfl⟩
    simp only [List.cons_append, List.nil_append]
    repeat (refine A1 ⟨?_⟩; intros)
    exact endHR _ _ (end1 (RV.tmp rfl) (Le.refl _)) (List.Sublist.refl _) ⟨hk, rfl, rfl⟩
  · refine PuH.intro Tryz.func148 rfl (by kernel_rfl) fun C hC => ?_
    repeat (refine A1 ⟨?_⟩; intros)
    refine Wo (ov_callT c rfl (by repeat (first | exact List.mem_cons_self | apply List.mem_cons_of_mem))) ?_
    repeat (refine A1 ⟨?_⟩; intros)
    refine WfX c3 ?_ ?_
    · rintro _ _ ⟨⟩
    · rintro _ _ hx
      rw [hC]
      exact ⟨hk, hx⟩
theorem GOk.num {a : Tok} {r : List Tok} (h : GOk (a :: r)) (hk : a.k = 2) : allD a.t ∧ a.t ≠ [] ∧ a.t.length ≤ 4096 := by
  obtain ⟨a', r', e, hg⟩ := h.cons
  cases e
  rcases hg with ⟨h, _⟩ | h | ⟨_, h⟩ | h
  · omega
  · omega
  · exact h
  · omega
theorem sgnT_ap (neg : Bool) (l : List UInt8) : sgnT neg [] ++ l = sgnT neg l := by cases neg <;> rfl
theorem sgn_mk (n : Nat) : (mkRat (sv false n) 1).num.sign = if n = 0 then 0 else 1 := by
  have e : mkRat (sv false n) 1 = ((n : Int) : Rat) := by rw [Rat.mkRat_one]; rfl
  rw [e, Rat.num_intCast]
  cases n with
  | zero => rfl
  | succ n => rfl
theorem gnum_k {a : Tok} {r : List Tok} (h : a.k = 2) : gnum (a :: r) = .ok (a.t, r) := if_pos h
theorem gnum_e {a : Tok} {r : List Tok} (h : a.k ≠ 2) : gnum (a :: r) = .error (ger 1 (a :: r)) := if_neg h
theorem gratS_ok {neg : Bool} {a : Tok} {r : List Tok} (hk : a.k = 2) (h47 : gis r [47] = false) : gratS neg (a :: r) = .ok (mkRat (sv neg (dcv a.t)) 1, r) := by
  rw [gratS, gnum_k hk]
  exact if_neg (fun h => by rw [h47] at h; cases h)
theorem gratS_e {neg : Bool} {a : Tok} {r : List Tok} (hk : a.k ≠ 2) : gratS neg (a :: r) = .error (ger 1 (a :: r)) := by
  rw [gratS, gnum_e hk]
theorem gratS_s {neg : Bool} {a b c : Tok} {r : List Tok} (hk : a.k = 2) (h47 : gis (b :: c :: r) [47] = true) : gratS neg (a :: b :: c :: r) = if c.k = 2 then (if dcv c.t = 0 then .error (ger 3 (c :: r)) else .ok (mkRat (sv neg (dcv a.t)) (dcv c.t), r)) else .error (ger 1 (c :: r)) := by
  rw [gratS, gnum_k hk]
  dsimp only
  rw [if_pos h47, List.tail_cons]
  by_cases hc : c.k = 2
  · rw [if_pos hc, gnum_k hc]
  · rw [if_neg hc, gnum_e hc]
set_option maxHeartbeats 4000000 in
theorem gratA_pu [Sent 4] [Sent 5] (s : SV) (hco : CO s [s]) (p : Nat) (neg : Bool) (ts ts2 : List Tok) (hG : GOk ts2) (d : Nat) (hr : ts2.length ≤ 1000000)
    (c : PuH Tryz.prog 208 [lit (.pointer (some ⟨p, 0, none⟩)), str [45]] [(p, psT, psC ts d s)] (fun v H => v = lit (.bool neg) ∧ H = [(p, psT, psC ts2 d s)]) noX) :
    PuH Tryz.prog 205 [lit (.pointer (some ⟨p, 0, none⟩))] [(p, psT, psC ts d s)] (fun v H => ∃ x ts', gratS neg ts2 = .ok (x, ts') ∧ v = q x ∧ H = [(p, psT, psC ts' d s)]) (fun pv _ => ∃ e, gratS neg ts2 = .error e ∧ pv = erSV e) := by
  obtain ⟨a, r, rfl, -⟩ := hG.cons
  simp only [List.length_cons] at hr
  have c1 := gnumber_pu s hco p a r d (by omega)
  have e1 := fun l h1 h2 h3 => rparse_i neg l h1 h2 h3
  have e2 := fun l r h1 h2 h3 h4 h5 h6 h7 => rparse_f neg l r h1 h2 h3 h4 h5 h6 h7
  cases neg <;>
  · refine PuH.intro Tryz.func205 rfl (by kernel_rfl) fun C hC => ?_
    repeat (refine A1 ⟨?_⟩; intros)
    refine WfT c ?_
    rintro _ _ ⟨rfl, rfl⟩
    simp only [List.cons_append, List.nil_append]
    repeat (refine A1 ⟨?_⟩; intros)
    refine WfX c1 ?_ ?_
    · rintro _ _ ⟨hk, rfl, rfl⟩
      simp only [List.cons_append, List.nil_append]
      obtain ⟨n1, n2, n3⟩ := hG.num hk
      replace hG := hG.tail (by omega)
      obtain ⟨b, r1, rfl, -⟩ := hG.cons
      simp only [List.length_cons] at hr
      repeat (refine A1 ⟨?_⟩; intros)
      first | refine Wo (ov_sadd (a := sgnT true []) (b := a.t) rfl rfl (by simp [sgnT]; omega)) ?_ | refine Wo (ov_sadd (a := sgnT false []) (b := a.t) rfl rfl (by simp [sgnT]; omega)) ?_
      rw [sgnT_ap]
      have c2 := gaccept_pu s hco p b r1 d (by omega) [47]
      cases h47 : gis (b :: r1) [47] with
      | false =>
        rw [h47, if_neg (by decide)] at c2
        have c3 := e1 a.t n1 n2 n3
        repeat (refine A1 ⟨?_⟩; intros)
        refine WfT c2 ?_
        rintro _ _ ⟨rfl, rfl⟩
        simp only [List.cons_append, List.nil_append]
        repeat (first | (refine A1 ⟨?_⟩; intros) | (refine Wcx (c3) ?_) | (refine Wdcx (c3) ?_) | (refine Wcgx (c3) ?_) | (refine Wdcgx (c3) ?_))
        exact endHR _ [(p, psT, psC (b :: r1) d s)] (end1 (RV.cellA rfl (by repeat (first | exact List.mem_cons_self | apply List.mem_cons_of_mem)) rfl rfl) (Le.refl _)) (by repeat (first | exact List.Sublist.refl _ | refine List.Sublist.cons _ ?_)) ⟨_, _, gratS_ok hk h47, rfl, rfl⟩
      | true =>
        obtain ⟨e, r2, rfl, -⟩ := (hG.next h47).cons
        replace hG := hG.next h47
        simp only [List.length_cons] at hr
        rw [h47, if_pos rfl] at c2
        have c4 := gnumber_pu s hco p e r2 d (by omega)
        repeat (refine A1 ⟨?_⟩; intros)
        refine WfT c2 ?_
        rintro _ _ ⟨rfl, rfl⟩
        simp only [List.cons_append, List.nil_append]
        repeat (refine A1 ⟨?_⟩; intros)
        refine WfX c4 ?_ ?_
        · rintro _ _ ⟨hk', rfl, rfl⟩
          obtain ⟨m1, m2, m3⟩ := hG.num hk'
          have c5 := rparse_i false e.t m1 m2 m3
          rw [show sgnT false e.t = e.t from rfl] at c5
          simp only [List.cons_append, List.nil_append]
          have c6 := rsign_pu (mkRat (sv false (dcv e.t)) 1) (by have := q_ht (neg := false) (n := dcv e.t) (d := 1) (dcv_len m1 m3) (by rw [dgs_one]; decide); omega)
          rw [sgn_mk] at c6
          by_cases h0 : dcv e.t = 0
          · rw [if_pos h0] at c6
            repeat (first | (refine A1 ⟨?_⟩; intros) | (refine Wcx (c5) ?_) | (refine Wdcx (c5) ?_) | (refine Wcgx (c5) ?_) | (refine Wdcgx (c5) ?_) | (refine Wcx (c6) ?_) | (refine Wdcx (c6) ?_) | (refine Wcgx (c6) ?_) | (refine Wdcgx (c6) ?_))
            refine WfX (gfail_pu s hco p e r2 d (by omega) 3) ?_ ?_
            · rintro _ _ ⟨⟩
            · rintro _ _ hx
              rw [hC]
              exact ⟨_, (gratS_s hk h47).trans ((if_pos hk').trans (if_pos h0)), hx⟩
          · rw [if_neg h0] at c6
            have c7 := e2 a.t e.t n1 n2 n3 m1 m2 m3 h0
            repeat (first | (refine A1 ⟨?_⟩; intros) | (refine Wcx (c5) ?_) | (refine Wdcx (c5) ?_) | (refine Wcgx (c5) ?_) | (refine Wdcgx (c5) ?_) | (refine Wcx (c6) ?_) | (refine Wdcx (c6) ?_) | (refine Wcgx (c6) ?_) | (refine Wdcgx (c6) ?_))
            refine Wo (ov_sadd (a := [47]) (b := e.t) rfl rfl (by simp; omega)) ?_
            refine Wo (ov_sadd (a := sgnT _ a.t) (b := [47] ++ e.t) rfl rfl (by simp [sgnT]; omega)) ?_
            repeat (first | (refine A1 ⟨?_⟩; intros) | (refine Wcx (c7) ?_) | (refine Wdcx (c7) ?_) | (refine Wcgx (c7) ?_) | (refine Wdcgx (c7) ?_))
            exact endHR _ [(p, psT, psC r2 d s)] (end1 (RV.cellA rfl (by repeat (first | exact List.mem_cons_self | apply List.mem_cons_of_mem)) rfl rfl) (Le.refl _)) (by repeat (first | exact List.Sublist.refl _ | refine List.Sublist.cons _ ?_)) ⟨_, _, (gratS_s hk h47).trans ((if_pos hk').trans (if_neg h0)), rfl, rfl⟩
        · rintro _ _ ⟨hk', hx⟩
          rw [hC]
          exact ⟨_, (gratS_s hk h47).trans (if_neg hk'), hx⟩
    · rintro _ _ ⟨hk, hx⟩
      rw [hC]
      exact ⟨_, gratS_e hk, hx⟩
theorem grational_pu [Sent 4] [Sent 5] (s : SV) (hco : CO s [s]) (p : Nat) (ts : List Tok) (hG : GOk ts) (d : Nat) (hr : ts.length ≤ 1000000) :
    PuH Tryz.prog 205 [lit (.pointer (some ⟨p, 0, none⟩))] [(p, psT, psC ts d s)] (fun v H => ∃ x ts', grat ts = .ok (x, ts') ∧ v = q x ∧ H = [(p, psT, psC ts' d s)]) (fun pv _ => ∃ e, grat ts = .error e ∧ pv = erSV e) := by
  obtain ⟨a, r, rfl, -⟩ := hG.cons
  have hr' := hr
  simp only [List.length_cons] at hr'
  have c := gaccept_pu s hco p a r d (by omega) [45]
  unfold grat
  cases h : gis (a :: r) [45] with
  | true =>
    rw [h, if_pos rfl] at c
    simp only [if_pos, List.tail_cons]
    exact gratA_pu s hco p true _ _ (hG.next h) d (by omega) c
  | false =>
    rw [h, if_neg (by decide)] at c
    simp only [Bool.false_eq_true, if_false]
    exact gratA_pu s hco p false _ _ hG d hr c
theorem gnum_ok {ts ts' : List Tok} {n : List UInt8} (hG : GOk ts) (h : gnum ts = .ok (n, ts')) : GOk ts' ∧ ts'.length + 1 = ts.length := by
  obtain ⟨a, r, rfl, -⟩ := hG.cons
  by_cases hk : a.k = 2
  · rw [gnum_k hk] at h
    cases h
    exact ⟨hG.tail (by omega), rfl⟩
  · rw [gnum_e hk] at h
    cases h
theorem gexpect_ok {ts ts' : List Tok} {w : List UInt8} (hG : GOk ts) (h : gexpect w ts = .ok ts') : GOk ts' ∧ ts'.length + 1 = ts.length := by
  obtain ⟨a, r, rfl, -⟩ := hG.cons
  unfold gexpect at h
  split at h
  · next hk =>
    cases h
    exact ⟨hG.next hk, rfl⟩
  · cases h
theorem gis_tl {ts : List Tok} {w : List UInt8} (hG : GOk ts) (h : gis ts w = true) : GOk ts.tail ∧ ts.tail.length + 1 = ts.length := by
  obtain ⟨a, r, rfl, -⟩ := hG.cons
  exact ⟨hG.next h, rfl⟩
theorem gratS_okL {neg : Bool} {ts ts' : List Tok} {x : Rat} (hG : GOk ts) (h : gratS neg ts = .ok (x, ts')) : GOk ts' ∧ ts'.length + 1 ≤ ts.length := by
  unfold gratS at h
  split at h
  · cases h
  · next n ts2 e1 =>
    have g1 := gnum_ok hG e1
    split at h
    · next h47 =>
      have g2 := gis_tl g1.1 h47
      split at h
      · cases h
      · next d ts3 e2 =>
        have g3 := gnum_ok g2.1 e2
        split at h
        · cases h
        · cases h
          exact ⟨g3.1, by omega⟩
    · cases h
      exact ⟨g1.1, by omega⟩
theorem grat_ok {ts ts' : List Tok} {x : Rat} (hG : GOk ts) (h : grat ts = .ok (x, ts')) : GOk ts' ∧ ts'.length + 1 ≤ ts.length := by
  unfold grat at h
  split at h
  · next hk =>
    have g := gis_tl hG hk
    have := gratS_okL g.1 h
    exact ⟨this.1, by omega⟩
  · exact gratS_okL hG h
theorem gpt_ok {ts ts' : List Tok} {x : Rat × Rat} (hG : GOk ts) (h : gpt ts = .ok (x, ts')) : GOk ts' ∧ ts'.length + 1 ≤ ts.length := by
  unfold gpt at h
  split at h
  · cases h
  · next t1 e1 =>
    have g1 := gexpect_ok hG e1
    split at h
    · cases h
    · next x t2 e2 =>
      have g2 := grat_ok g1.1 e2
      split at h
      · cases h
      · next t3 e3 =>
        have g3 := gexpect_ok g2.1 e3
        split at h
        · cases h
        · next y t4 e4 =>
          have g4 := grat_ok g3.1 e4
          split at h
          · cases h
          · next t5 e5 =>
            have g5 := gexpect_ok g4.1 e5
            cases h
            exact ⟨g5.1, by omega⟩
set_option maxHeartbeats 4000000 in
theorem gpoint_pu [Sent 4] [Sent 5] (s : SV) (hco : CO s [s]) (p : Nat) (ts : List Tok) (hG : GOk ts) (d : Nat) (hr : ts.length ≤ 1000000) :
    PuH Tryz.prog 146 [lit (.pointer (some ⟨p, 0, none⟩))] [(p, psT, psC ts d s)] (fun v H => ∃ x ts', gpt ts = .ok (x, ts') ∧ v = pq x.1 x.2 ∧ H = [(p, psT, psC ts' d s)]) (fun pv _ => ∃ e, gpt ts = .error e ∧ pv = erSV e) := by
  obtain ⟨a, r, rfl, -⟩ := hG.cons
  simp only [List.length_cons] at hr
  have c1 := gexpect_pu s hco p a r d (by omega) [40]
  refine PuH.intro Tryz.func146 rfl (by kernel_rfl) fun C hC => ?_
  repeat (refine A1 ⟨?_⟩; intros)
  refine WfX c1 ?_ ?_
  · rintro _ _ ⟨e1, h1, rfl, rfl⟩
    have g1 := hG.next h1
    clear hG c1 h1
    have c2 := grational_pu s hco p r g1 d (by omega)
    simp only [List.cons_append, List.nil_append]
    repeat (refine A1 ⟨?_⟩; intros)
    refine WfX c2 ?_ ?_
    · rintro _ _ ⟨x, t2, e2, rfl, rfl⟩
      have g2 := grat_ok g1 e2
      obtain ⟨b, r2, rfl, -⟩ := g2.1.cons
      clear c2 g1
      simp only [List.length_cons] at g2
      have c3 := gexpect_pu s hco p b r2 d (by omega) [44]
      simp only [List.cons_append, List.nil_append]
      repeat (refine A1 ⟨?_⟩; intros)
      refine WfX c3 ?_ ?_
      · rintro _ _ ⟨e3, h3, rfl, rfl⟩
        have g3 := g2.1.next h3
        replace g2 := g2.2
        clear h3 c3
        have c4 := grational_pu s hco p r2 g3 d (by omega)
        simp only [List.cons_append, List.nil_append]
        repeat (refine A1 ⟨?_⟩; intros)
        refine WfX c4 ?_ ?_
        · rintro _ _ ⟨y, t4, e4, rfl, rfl⟩
          have g4 := grat_ok g3 e4
          obtain ⟨b', r4, rfl, -⟩ := g4.1.cons
          simp only [List.length_cons] at g4
          replace g4 := g4.2
          clear c4 g3
          have c5 := gexpect_pu s hco p b' r4 d (by omega) [41]
          simp only [List.cons_append, List.nil_append]
          repeat (refine A1 ⟨?_⟩; intros)
          refine WfX c5 ?_ ?_
          · rintro _ _ ⟨e5, h5, rfl, rfl⟩
            simp only [List.cons_append, List.nil_append]
            repeat (refine A1 ⟨?_⟩; intros)
            exact endHR _ [(p, psT, psC r4 d s)] (end1 (RV.cellA rfl (by repeat (first | exact List.mem_cons_self | apply List.mem_cons_of_mem)) rfl rfl) (Le.refl _)) (by repeat (first | exact List.Sublist.refl _ | refine List.Sublist.cons _ ?_)) ⟨(x, y), r4, by simp only [gpt, e1, e2, e3, e4, e5], rfl, rfl⟩
          · rintro _ _ ⟨e5, hx⟩
            rw [hC]
            exact ⟨_, by simp only [gpt, e1, e2, e3, e4, e5], hx⟩
        · rintro _ _ ⟨e, e4, hx⟩
          rw [hC]
          exact ⟨_, by simp only [gpt, e1, e2, e3, e4], hx⟩
      · rintro _ _ ⟨e3, hx⟩
        rw [hC]
        exact ⟨_, by simp only [gpt, e1, e2, e3], hx⟩
    · rintro _ _ ⟨e, e2, hx⟩
      rw [hC]
      exact ⟨_, by simp only [gpt, e1, e2], hx⟩
  · rintro _ _ ⟨e1, hx⟩
    rw [hC]
    exact ⟨_, by simp only [gpt, e1], hx⟩
theorem gx_3 (f d i : Nat) (ts : List Tok) : gx (f + 1) 3 d i ts none = if gis ts [126] = true then
        (if 200 ≤ d then .error (ger 2 ts) else match gx f 3 (d + 1) i ts.tail none with
          | .ok (A, x, ts') => .ok (A ++ [ndU ((i + A.length : Nat) - 1) (hd ts)], .un (ndU ((i + A.length : Nat) - 1) (hd ts)) x, ts')
          | .error e => .error e)
      else if gis ts [40] = true then
        (if 200 ≤ d then .error (ger 2 ts) else match gx f 1 (d + 1) i ts.tail none with
          | .ok (A, x, ts') => if gis ts' [41] = true then .ok (A, x, ts'.tail) else .error (ger 1 ts')
          | .error e => .error e)
      else if gis ts wAll = true then .ok ([ndA 2 (hd ts)], .leaf (ndA 2 (hd ts)), ts.tail)
      else if gis ts wNone = true then .ok ([ndA 3 (hd ts)], .leaf (ndA 3 (hd ts)), ts.tail)
      else if gis ts wHalf = true then (match gpt ts.tail with
        | .error e => .error e
        | .ok (p, t1) => match gpt t1 with
          | .error e => .error e
          | .ok (q, t2) => .ok ([ndH p q (hd ts)], .leaf (ndH p q (hd ts)), t2))
      else if (hd ts).k = 1 ∧ resv (hd ts).t = false then .ok ([ndN (hd ts)], .leaf (ndN (hd ts)), ts.tail)
      else .error (ger 1 ts) := rfl
theorem gx_lv {f lv d i : Nat} {ts : List Tok} (h : lv ≠ 3) : gx (f + 1) lv d i ts none = match gx f (lv + 1) d i ts none with
      | .ok (A, x, ts') => gx f lv d i ts' (some (A, x))
      | .error e => .error e := by
  conv => lhs; unfold gx
  rw [if_neg h]
  all_goals rfl
theorem gx_some (f lv d i : Nat) (ts : List Tok) (A : List Nd) (x : Ex) : gx (f + 1) lv d i ts (some (A, x)) = if gop lv ts = 0 then .ok (A, x, ts)
    else match gx f (lv + 1) d (i + A.length) ts.tail none with
      | .ok (B, y, ts') => gx f lv d i ts' (some (A ++ B ++ [ndB (gop lv ts) ((i + A.length : Nat) - 1) ((i + A.length + B.length : Nat) - 1) (hd ts)], .bi (ndB (gop lv ts) ((i + A.length : Nat) - 1) ((i + A.length + B.length : Nat) - 1) (hd ts)) x y))
      | .error e => .error e := rfl
theorem gx_len : ∀ (f lv d i : Nat) (ts : List Tok) (acc : Option (List Nd × Ex)) (A : List Nd) (x : Ex) (ts' : List Tok), GOk ts → gx f lv d i ts acc = .ok (A, x, ts') → GOk ts' ∧ A.length + ts'.length ≤ ts.length + (match acc with
      | some (A0, _) => A0.length
      | none => 0) ∧ ts'.length + (if acc.isNone then 1 else 0) ≤ ts.length := by
  intro f
  induction f with
  | zero => intro lv d i ts acc A x ts' _ h; unfold gx at h; cases h
  | succ f ih =>
    intro lv d i ts acc A x ts' hG h
    cases acc with
    | none =>
      simp only [Option.isNone_none, if_true]
      by_cases l3 : lv = 3
      · subst l3
        rw [gx_3] at h
        have leafc : ∀ n : Nd, GOk ts.tail → ts.tail.length + 1 = ts.length → (A, x, ts') = ([n], Ex.leaf n, ts.tail) → GOk ts' ∧ A.length + ts'.length ≤ ts.length + 0 ∧ ts'.length + 1 ≤ ts.length := fun n hg hn e => by
          simp only [Prod.mk.injEq] at e
          obtain ⟨rfl, rfl, rfl⟩ := e
          simp only [List.length_cons, List.length_nil]
          exact ⟨hg, by omega, by omega⟩
        by_cases c1 : gis ts [126] = true
        · rw [if_pos c1] at h
          have tl := gis_tl hG c1
          split at h
          · cases h
          · cases hp : gx f 3 (d + 1) i ts.tail none with
            | error e => rw [hp] at h; cases h
            | ok q =>
              obtain ⟨A1, x1, t1⟩ := q
              rw [hp] at h
              simp only [Except.ok.injEq, Prod.mk.injEq] at h
              obtain ⟨rfl, rfl, rfl⟩ := h
              have := ih 3 _ _ _ _ _ _ _ tl.1 hp
              simp only [Option.isNone_none, if_true, List.length_append, List.length_singleton] at this ⊢
              exact ⟨this.1, by omega, by omega⟩
        rw [if_neg c1] at h
        by_cases c2 : gis ts [40] = true
        · rw [if_pos c2] at h
          have tl := gis_tl hG c2
          split at h
          · cases h
          · cases hp : gx f 1 (d + 1) i ts.tail none with
            | error e => rw [hp] at h; cases h
            | ok q =>
              obtain ⟨A1, x1, t1⟩ := q
              rw [hp] at h
              simp only at h
              have := ih 1 _ _ _ _ _ _ _ tl.1 hp
              simp only [Option.isNone_none, if_true] at this
              by_cases c3 : gis t1 [41] = true
              · rw [if_pos c3] at h
                have tl2 := gis_tl this.1 c3
                simp only [Except.ok.injEq, Prod.mk.injEq] at h
                obtain ⟨rfl, rfl, rfl⟩ := h
                exact ⟨tl2.1, by omega, by omega⟩
              · rw [if_neg c3] at h; cases h
        rw [if_neg c2] at h
        by_cases c3 : gis ts wAll = true
        · rw [if_pos c3] at h; exact leafc _ (gis_tl hG c3).1 (gis_tl hG c3).2 (Except.ok.inj h).symm
        rw [if_neg c3] at h
        by_cases c4 : gis ts wNone = true
        · rw [if_pos c4] at h; exact leafc _ (gis_tl hG c4).1 (gis_tl hG c4).2 (Except.ok.inj h).symm
        rw [if_neg c4] at h
        by_cases c5 : gis ts wHalf = true
        · rw [if_pos c5] at h
          have tl := gis_tl hG c5
          cases e1 : gpt ts.tail with
          | error e => rw [e1] at h; cases h
          | ok q =>
            obtain ⟨p, t1⟩ := q
            rw [e1] at h
            simp only at h
            have g1 := gpt_ok tl.1 e1
            cases e2 : gpt t1 with
            | error e => rw [e2] at h; cases h
            | ok q =>
              obtain ⟨p2, t2⟩ := q
              rw [e2] at h
              have g2 := gpt_ok g1.1 e2
              simp only [Except.ok.injEq, Prod.mk.injEq] at h
              obtain ⟨rfl, rfl, rfl⟩ := h
              exact ⟨g2.1, by simp only [List.length_singleton]; omega, by omega⟩
        rw [if_neg c5] at h
        by_cases c6 : (hd ts).k = 1 ∧ resv (hd ts).t = false
        · rw [if_pos c6] at h
          obtain ⟨a, r, rfl, -⟩ := hG.cons
          exact leafc _ (hG.tail (by have : a.k = 1 := c6.1; omega)) rfl (Except.ok.inj h).symm
        rw [if_neg c6] at h; cases h
      · rw [gx_lv l3] at h
        cases hp : gx f (lv + 1) d i ts none with
        | error e => rw [hp] at h; cases h
        | ok q =>
          obtain ⟨A1, x1, t1⟩ := q
          rw [hp] at h
          simp only at h
          have h4 := ih (lv + 1) _ _ _ _ _ _ _ hG hp
          have h5 := ih lv _ _ _ _ _ _ _ h4.1 h
          simp only [Option.isNone_none, if_true, Option.isNone_some] at h4 h5
          exact ⟨h5.1, by omega, by omega⟩
    | some q =>
      obtain ⟨A0, x0⟩ := q
      rw [gx_some] at h
      simp only [Option.isNone_some]
      by_cases ho : gop lv ts = 0
      · rw [if_pos ho] at h
        simp only [Except.ok.injEq, Prod.mk.injEq] at h
        obtain ⟨rfl, rfl, rfl⟩ := h
        exact ⟨hG, by omega, by simp⟩
      · rw [if_neg ho] at h
        obtain ⟨a, r, rfl, -⟩ := hG.cons
        have hG' := hG.tail (gop_ne ho).1
        simp only [List.tail_cons] at h
        cases hp : gx f (lv + 1) d (i + A0.length) r none with
        | error e => rw [hp] at h; cases h
        | ok q =>
          obtain ⟨B, y, t1⟩ := q
          rw [hp] at h
          simp only at h
          have h4 := ih (lv + 1) _ _ _ _ _ _ _ hG' hp
          have h5 := ih lv _ _ _ _ _ _ _ h4.1 h
          simp only [Option.isNone_none, if_true, Option.isNone_some, List.length_append, List.length_nil, List.length_cons] at h4 h5 ⊢
          exact ⟨h5.1, by omega, by have := h5.2.2; simp at this ⊢; omega⟩
def GvR (p f lv d : Nat) (ts : List Tok) (ns : List Nd) : SV → LH → Prop := fun v H' => ∃ A x ts', gx f lv d ns.length ts none = .ok (A, x, ts') ∧ v = lit (.int .i64 ((ns.length + A.length : Nat) - 1)) ∧ Ps p ts' d (ns ++ A) H'
def GvX (f lv d : Nat) (ts : List Tok) (ns : List Nd) : SV → LH → Prop := fun pv _ => ∃ e, gx f lv d ns.length ts none = .error e ∧ pv = erSV e
def GLv (fn : FuncId) (p f lv : Nat) : Prop := ∀ (ts : List Tok) (d : Nat) (ns : List Nd) (H : LH), GOk ts → d ≤ 200 → ns.length + ts.length ≤ 100000 → 8 * ts.length + 7 ≤ f + 2 * lv → Ps p ts d ns H → PuH Tryz.prog fn [ptrP p] H (GvR p f lv d ts ns) (GvX f lv d ts ns)
theorem gnested_pu [Sent 3] (fn : FuncId) (p f lv : Nat) (a : Tok) (r : List Tok) (d : Nat) (ns : List Nd) (H : LH) (hd : d ≤ 200) (hr : ns.length + r.length ≤ 100000) (h : Ps p (a :: r) d ns H)
    (hin : d < 200 → ∀ H1, Ps p r (d + 1) ns H1 → PuH Tryz.prog fn [ptrP p] H1 (GvR p f lv (d + 1) r ns) (GvX f lv (d + 1) r ns)) :
    PuH Tryz.prog 307 [ptrP p, fnv fn [ptrP p] []] H (fun v H' => d < 200 ∧ ∃ A x ts', gx f lv (d + 1) ns.length r none = .ok (A, x, ts') ∧ v = lit (.int .i64 ((ns.length + A.length : Nat) - 1)) ∧ Ps p ts' d (ns ++ A) H')
      (fun pv _ => (200 ≤ d ∧ pv = erSV (ger 2 (a :: r))) ∨ (d < 200 ∧ ∃ e, gx f lv (d + 1) ns.length r none = .error e ∧ pv = erSV e)) := by
  obtain ⟨s, Hs, hown, rfl⟩ := h
  have hco := hown.co
  by_cases h200 : 200 ≤ d
  · clear hin
    refine PuH.intro Tryz.func307 rfl (by kernel_rfl) fun C hC => ?_
    repeat (refine A1 ⟨?_⟩; intros)
    refine WfX (gfail_pu s hco p a r d (by omega) 2) ?_ ?_
    · rintro _ _ ⟨⟩
    · rintro _ _ hx
      rw [hC]
      exact .inl ⟨h200, hx⟩
  · replace hin := hin (by omega)
    refine PuH.intro Tryz.func307 rfl (by kernel_rfl) fun C hC => ?_
    repeat (refine A1 ⟨?_⟩; intros)
    refine WfT (ptake_pu s hco p a r d (by omega)) ?_
    rintro _ _ ⟨rfl, rfl⟩
    refine WPL.perm List.perm_append_comm ?_
    simp only [List.cons_append, List.nil_append]
    repeat (refine A1 ⟨?_⟩; intros)
    refine WvX (hin _ ⟨s, Hs, hown, rfl⟩) ?_ ?_ (Tk.same _)
    · rintro _ _ ⟨A, x, ts', hp, rfl, s1, H1, hown1, rfl⟩
      have hco1 := hown1.co
      simp only [List.cons_append, List.nil_append]
      clear hin
      repeat (refine A1 ⟨?_⟩; intros)
      exact endHR _ _ (end1 (RV.tmp rfl) (Le.refl _)) (List.Sublist.refl _) ⟨by omega, A, x, ts', hp, rfl, s1, H1, hown1, by rw [show ((d + 1 : Nat) : Int) - 1 = (d : Int) by omega]⟩
    · rintro _ _ ⟨e, hp, hx⟩
      rw [hC]
      exact .inr ⟨by omega, e, hp, hx⟩
theorem gsum1_pu (p b : Nat) (a : Tok) (r : List Tok) (d : Nat) (s : SV) (hco : CO s [s]) (Hs : LH) (hr : r.length ≤ 1000000) :
    PuH Tryz.prog 200 [ptrP b] ((b, bxT, [ptrP p]) :: (p, psT, psC (a :: r) d s) :: Hs) (fun v H => v = lit (.int .i64 (gop 1 (a :: r))) ∧ H = (b, bxT, [ptrP p]) :: (p, psT, psC (a :: r) d s) :: Hs) noX := by
  have c1 := gis_pu s hco a r d hr [43]
  have c2 := gis_pu s hco a r d hr [45]
  have c3 := gis_pu s hco a r d hr [94]
  unfold gop
  rw [if_pos rfl]
  cases h1 : gis (a :: r) [43] with
  | true =>
    rw [h1] at c1
    refine PuH.intro Tryz.func200 rfl (by kernel_rfl) fun C hC => ?_
    repeat (refine A1 ⟨?_⟩; intros)
    refine Wo (ov_callT c1 rfl (by repeat (first | exact List.mem_cons_self | apply List.mem_cons_of_mem))) ?_
    repeat (refine A1 ⟨?_⟩; intros)
    exact endHR _ _ (end1 (RV.tmp rfl) (Le.refl _)) (List.Sublist.refl _) ⟨rfl, rfl⟩
  | false =>
    rw [h1] at c1
    cases h2 : gis (a :: r) [45] with
    | true =>
      rw [h2] at c2
      refine PuH.intro Tryz.func200 rfl (by kernel_rfl) fun C hC => ?_
      repeat (refine A1 ⟨?_⟩; intros)
      refine Wo (ov_callT c1 rfl (by repeat (first | exact List.mem_cons_self | apply List.mem_cons_of_mem))) ?_
      repeat (refine A1 ⟨?_⟩; intros)
      refine Wo (ov_callT c2 rfl (by repeat (first | exact List.mem_cons_self | apply List.mem_cons_of_mem))) ?_
      repeat (refine A1 ⟨?_⟩; intros)
      exact endHR _ _ (end1 (RV.tmp rfl) (Le.refl _)) (List.Sublist.refl _) ⟨rfl, rfl⟩
    | false =>
      rw [h2] at c2
      cases h3 : gis (a :: r) [94] with
      | true =>
        rw [h3] at c3
        refine PuH.intro Tryz.func200 rfl (by kernel_rfl) fun C hC => ?_
        repeat (refine A1 ⟨?_⟩; intros)
        refine Wo (ov_callT c1 rfl (by repeat (first | exact List.mem_cons_self | apply List.mem_cons_of_mem))) ?_
        repeat (refine A1 ⟨?_⟩; intros)
        refine Wo (ov_callT c2 rfl (by repeat (first | exact List.mem_cons_self | apply List.mem_cons_of_mem))) ?_
        repeat (refine A1 ⟨?_⟩; intros)
        refine Wo (ov_callT c3 rfl (by repeat (first | exact List.mem_cons_self | apply List.mem_cons_of_mem))) ?_
        repeat (refine A1 ⟨?_⟩; intros)
        exact endHR _ _ (end1 (RV.tmp rfl) (Le.refl _)) (List.Sublist.refl _) ⟨rfl, rfl⟩
      | false =>
        rw [h3] at c3
        refine PuH.intro Tryz.func200 rfl (by kernel_rfl) fun C hC => ?_
        repeat (refine A1 ⟨?_⟩; intros)
        refine Wo (ov_callT c1 rfl (by repeat (first | exact List.mem_cons_self | apply List.mem_cons_of_mem))) ?_
        repeat (refine A1 ⟨?_⟩; intros)
        refine Wo (ov_callT c2 rfl (by repeat (first | exact List.mem_cons_self | apply List.mem_cons_of_mem))) ?_
        repeat (refine A1 ⟨?_⟩; intros)
        refine Wo (ov_callT c3 rfl (by repeat (first | exact List.mem_cons_self | apply List.mem_cons_of_mem))) ?_
        repeat (refine A1 ⟨?_⟩; intros)
        exact endHR _ _ (end1 (RV.tmp rfl) (Le.refl _)) (List.Sublist.refl _) ⟨rfl, rfl⟩
theorem gprod1_pu (p b : Nat) (a : Tok) (r : List Tok) (d : Nat) (s : SV) (hco : CO s [s]) (Hs : LH) (hr : r.length ≤ 1000000) :
    PuH Tryz.prog 254 [ptrP b] ((b, bxT, [ptrP p]) :: (p, psT, psC (a :: r) d s) :: Hs) (fun v H => v = lit (.int .i64 (gop 2 (a :: r))) ∧ H = (b, bxT, [ptrP p]) :: (p, psT, psC (a :: r) d s) :: Hs) noX := by
  have c1 := gis_pu s hco a r d hr [42]
  unfold gop
  rw [if_neg (by decide)]
  cases h1 : gis (a :: r) [42] with
  | true =>
    rw [h1] at c1
    refine PuH.intro Tryz.func254 rfl (by kernel_rfl) fun C hC => ?_
    repeat (refine A1 ⟨?_⟩; intros)
    refine Wo (ov_callT c1 rfl (by repeat (first | exact List.mem_cons_self | apply List.mem_cons_of_mem))) ?_
    repeat (refine A1 ⟨?_⟩; intros)
    exact endHR _ _ (end1 (RV.tmp rfl) (Le.refl _)) (List.Sublist.refl _) ⟨rfl, rfl⟩
  | false =>
    rw [h1] at c1
    refine PuH.intro Tryz.func254 rfl (by kernel_rfl) fun C hC => ?_
    repeat (refine A1 ⟨?_⟩; intros)
    refine Wo (ov_callT c1 rfl (by repeat (first | exact List.mem_cons_self | apply List.mem_cons_of_mem))) ?_
    repeat (refine A1 ⟨?_⟩; intros)
    exact endHR _ _ (end1 (RV.tmp rfl) (Le.refl _)) (List.Sublist.refl _) ⟨rfl, rfl⟩
set_option maxHeartbeats 4000000 in
theorem gbinary_pu (fo fops : FuncId) (p b f lv : Nat) (hlv : lv = 1 ∨ lv = 2)
    (hops : ∀ (a : Tok) (r : List Tok) (d : Nat) (s : SV) (Hs : LH), CO s [s] → r.length ≤ 1000000 → PuH Tryz.prog fops [ptrP b] ((b, bxT, [ptrP p]) :: (p, psT, psC (a :: r) d s) :: Hs) (fun v H => v = lit (.int .i64 (gop lv (a :: r))) ∧ H = (b, bxT, [ptrP p]) :: (p, psT, psC (a :: r) d s) :: Hs) noX)
    (hopd : ∀ f', f' ≤ f → GLv fo p f' (lv + 1)) (ts : List Tok) (d : Nat) (ns : List Nd) (H : LH) (hT : GOk ts) (hd : d ≤ 200) (hn : ns.length + ts.length ≤ 100000) (hf : 8 * ts.length + 7 ≤ f + 1 + 2 * lv) (h : Ps p ts d ns H) :
    PuH Tryz.prog 198 [ptrP p, fnv fo [ptrP p] [], fnv fops [] [ptrP b]] ((b, bxT, [ptrP p]) :: H) (fun v H' => ∃ H2, H' = (b, bxT, [ptrP p]) :: H2 ∧ GvR p (f + 1) lv d ts ns v H2) (GvX (f + 1) lv d ts ns) := by
  have hl3 : lv ≠ 3 := by omega
  have c0 := hopd f (Nat.le_refl _) ts d ns H hT hd hn (by omega) h
  unfold GvR GvX at *
  rw [gx_lv hl3]
  refine PuH.intro Tryz.func198 rfl (by kernel_rfl) fun C hC => ?_
  repeat (refine A1 ⟨?_⟩; intros)
  refine WvX c0 ?_ ?_ (Tk.skip _ (Tk.same _))
  case refine_2 =>
    rintro _ _ ⟨e, hp, hx⟩
    rw [hC, hp]
    exact ⟨e, rfl, hx⟩
  rintro _ _ ⟨A, x, ts1, hp, rfl, s1, H1, hown1, rfl⟩
  rw [hp] at hC ⊢
  simp only [List.cons_append, List.nil_append] at hC ⊢
  obtain ⟨g2, g4, g3⟩ := gx_len _ _ _ _ _ _ _ _ _ hT hp
  simp only [Option.isNone_none, if_true, Nat.add_zero] at g3 g4
  obtain ⟨a1, r1, rfl, -⟩ := g2.cons
  have hco1 := hown1.co
  have hlr : (a1 :: r1).length = r1.length + 1 := rfl
  repeat (refine A1 ⟨?_⟩; intros)
  refine WvT (hops a1 r1 d s1 H1 hco1 (by omega)) ?_
  rintro _ _ ⟨rfl, rfl⟩
  simp only [List.nil_append]
  repeat (refine A1 ⟨?_⟩; intros)
  refine WP.loopS (ι := Nat × List Nd × Ex × List Tok × SV × LH) (fun z => Own exPT 19 (ns ++ z.2.1).length ((ns ++ z.2.1).map ndx).flatten z.2.2.2.2.1 z.2.2.2.2.2 ∧ GOk z.2.2.2.1 ∧ z.2.1.length + z.2.2.2.1.length ≤ ts.length ∧ 8 * z.2.2.2.1.length + 1 ≤ z.1 ∧ z.1 ≤ f ∧
      gx f lv d ns.length (a1 :: r1) (some (A, x)) = gx z.1 lv d ns.length z.2.2.2.1 (some (z.2.1, z.2.2.1))) (fun z => z.2.2.2.1.length)
    (fun z => fm [(0, ptrP p), (1, fnv fo [ptrP p] []), (2, fnv fops [] [ptrP b]), (7, lit (.int .i64 ((ns.length + z.2.1.length : Nat) - 1))), (8, lit (.int .i64 (gop lv z.2.2.2.1)))])
    (fun z => (b, bxT, [ptrP p]) :: (p, psT, psC z.2.2.2.1 d z.2.2.2.2.1) :: z.2.2.2.2.2) (f, A, x, a1 :: r1, s1, H1) ⟨hown1, g2, g4, by simp only; omega, Nat.le_refl _, rfl⟩ (by (repeat (first | exact LeF.nil _ | refine LeF.cons (Le.refl _) ?_ | refine LeF.cons (Le.int (by omega)) ?_))) (List.Sublist.refl _) ?_
  clear hown1 g2 g3 g4 hp hlr c0 h
  rintro ⟨f1, Aa, x1, ts2, s2, H2⟩ ⟨hown, hT2, hlen, hf1, hff, hpe⟩ K hK
  simp only at hown hT2 hlen hf1 hff hpe ⊢
  obtain ⟨a, r, rfl, -⟩ := hT2.cons
  obtain ⟨f1, rfl⟩ : ∃ f', f1 = f' + 1 := ⟨f1 - 1, by omega⟩
  have hlr : (a :: r).length = r.length + 1 := rfl
  have e1 : (ns ++ Aa).length = ns.length + Aa.length := List.length_append
  have hco2 := hown.co
  rw [gx_some] at hpe
  by_cases ho : gop lv (a :: r) = 0
  · rw [if_pos ho] at hpe
    clear hK hops hopd
    repeat (refine A1 ⟨?_⟩; intros)
    exact endHR _ _ (end1 (RV.tmp rfl) (Le.refl _)) (List.Sublist.refl _) ⟨_, rfl, Aa, x1, a :: r, hpe, rfl, s2, H2, hown, rfl⟩
  · rw [if_neg ho, List.tail_cons, ← e1] at hpe
    obtain ⟨hak, o1, o2⟩ := gop_ne ho
    have hTr := hT2.tail hak
    have hop : 1 ≤ gop lv (a :: r) ∧ gop lv (a :: r) ≤ 4 := by
      rcases hlv with h1 | h1
      · rcases o1 h1 with e | e | e <;> rw [e] <;> decide
      · rw [o2 (by omega)]; decide
    have c1 := hopd f1 (by omega) r d (ns ++ Aa) _ hTr hd (by omega) (by omega) ⟨s2, H2, hown, rfl⟩
    unfold GvR GvX at c1
    have hl1 : 1 ≤ lv := by omega
    have hl2 : lv ≤ 2 := by omega
    clear o1 o2 hlv
    repeat (refine A1 ⟨?_⟩; intros)
    refine WfT (ptake_pu s2 hco2 p a r d (by omega)) ?_ (hs := Tk.skip _ (Tk.cons (HDel.here _) (Tk.nil _)))
    rintro _ _ ⟨rfl, rfl⟩
    refine WPL.perm List.perm_append_comm ?_
    refine WPL.perm (List.Perm.swap _ _ _) ?_
    repeat (refine A1 ⟨?_⟩; intros)
    refine WvX c1 ?_ ?_ (Tk.skip _ (Tk.skip _ (Tk.same _)))
    case refine_2 =>
      rintro _ _ ⟨e, hp2, hx⟩
      rw [hC, hpe, hp2]
      exact ⟨e, rfl, hx⟩
    rintro _ _ ⟨B, y, ts3, hp2, rfl, s3, H3, hown3, rfl⟩
    rw [hp2] at hpe
    simp only at hpe
    simp only [List.cons_append, List.nil_append]
    obtain ⟨g2, g4, g3⟩ := gx_len _ _ _ _ _ _ _ _ _ hTr hp2
    simp only [Option.isNone_none, if_true, Nat.add_zero] at g3 g4
    obtain ⟨a3, r3, rfl, -⟩ := g2.cons
    have hlr3 : (a3 :: r3).length = r3.length + 1 := rfl
    have e2 : (ns ++ Aa ++ B).length = ns.length + Aa.length + B.length := by rw [List.length_append, e1]
    rw [e1] at hpe
    have hco3 := hown3.co
    have hgo := fun s' H' hw F' H'' => hK F' H'' (f1, Aa ++ B ++ [ndB (gop lv (a :: r)) ((ns.length + Aa.length : Nat) - 1) ((ns.length + Aa.length + B.length : Nat) - 1) a], .bi (ndB (gop lv (a :: r)) ((ns.length + Aa.length : Nat) - 1) ((ns.length + Aa.length + B.length : Nat) - 1) a) x1 y, a3 :: r3, s', H')
      ⟨hw, g2, by simp only [List.length_append, List.length_singleton]; omega, by simp only; omega, by simp only; omega, hpe⟩ (by simp only; omega)
    simp only at hgo
    have c2 := padd_pu p (a3 :: r3) d (ns ++ Aa ++ B) s3 H3 hown3 (by omega) (ndB0 (gop lv (a :: r)) ((ns.length + Aa.length : Nat) - 1) ((ns.length + Aa.length + B.length : Nat) - 1)) a
    rw [ndB0_at] at c2
    clear hK hpe c1 hopd
    repeat (refine A1 ⟨?_⟩; intros)
    refine WPL.low 27 rfl (Le.ag (b := ndx (ndB0 (gop lv (a :: r)) ((ns.length + Aa.length : Nat) - 1) ((ns.length + Aa.length + B.length : Nat) - 1))) ?_) ?_
    · simp only [ndB0]
      repeat (first | exact trivial | refine ⟨?_, ?_⟩ | exact Le.refl _ | exact le_nil | exact Le.int (show _ = ((ns.length + Aa.length + B.length : Nat) : Int) - 1 by rw [e1]))
    refine WfT c2 ?_ (hs := Tk.skip _ (Tk.skip _ (Tk.same _)))
    rintro _ _ ⟨rfl, s4, H4, hown4, rfl⟩
    simp only [List.cons_append, List.nil_append]
    have hco4 := hown4.co
    repeat (refine A1 ⟨?_⟩; intros)
    refine WvT (hops a3 r3 d s4 H4 hco4 (by omega)) ?_ (hs := Tk.skip _ (Tk.same _))
    rintro _ _ ⟨rfl, rfl⟩
    simp only [List.cons_append, List.nil_append]
    repeat (refine A1 ⟨?_⟩; intros)
    exact hgo s4 H4 (by rw [← List.append_assoc, ← List.append_assoc]; exact hown4) _ _ (LeF.cons (Le.refl _) (LeF.cons (Le.refl _) (LeF.cons (Le.refl _) (LeF.cons (Le.int (by simp only [List.length_append, List.length_singleton]; omega)) (LeF.cons (Le.refl _) (LeF.nil _)))))) (List.sublist_cons_self _ _)
theorem gsum_of [Sent 4] [Sent 3] {p f : Nat} (h : ∀ f', f' ≤ f → GLv 199 p f' 2) : GLv 144 p (f + 1) 1 := by
  intro ts d ns H hT hd hn hf hps
  have c := fun b => gbinary_pu 199 200 p b f 1 (.inl rfl) (fun a r d s Hs hco hr => gsum1_pu p b a r d s hco Hs hr) h ts d ns H hT hd hn hf hps
  clear h hT hf
  refine PuH.intro Tryz.func144 rfl (by kernel_rfl) fun C hC => ?_
  repeat (refine A1 ⟨?_⟩; intros)
  refine WfX (c _) ?_ ?_
  · rintro _ _ ⟨H2, rfl, A, x, ts', hp, rfl, hps'⟩
    simp only [List.cons_append, List.nil_append, List.append_nil]
    repeat (refine A1 ⟨?_⟩; intros)
    exact endHR _ _ (end1 (RV.tmp rfl) (Le.refl _)) (List.sublist_cons_self _ _) ⟨A, x, ts', hp, rfl, hps'⟩
  · rintro _ _ hx
    rw [hC]
    exact hx
theorem gprod_of [Sent 4] [Sent 3] {p f : Nat} (h : ∀ f', f' ≤ f → GLv 253 p f' 3) : GLv 199 p (f + 1) 2 := by
  intro ts d ns H hT hd hn hf hps
  have c := fun b => gbinary_pu 253 254 p b f 2 (.inr rfl) (fun a r d s Hs hco hr => gprod1_pu p b a r d s hco Hs hr) h ts d ns H hT hd hn hf hps
  clear h hT hf
  refine PuH.intro Tryz.func199 rfl (by kernel_rfl) fun C hC => ?_
  repeat (refine A1 ⟨?_⟩; intros)
  refine WfX (c _) ?_ ?_
  · rintro _ _ ⟨H2, rfl, A, x, ts', hp, rfl, hps'⟩
    simp only [List.cons_append, List.nil_append, List.append_nil]
    repeat (refine A1 ⟨?_⟩; intros)
    exact endHR _ _ (end1 (RV.tmp rfl) (Le.refl _)) (List.sublist_cons_self _ _) ⟨A, x, ts', hp, rfl, hps'⟩
  · rintro _ _ hx
    rw [hC]
    exact hx
end Go.Ab
