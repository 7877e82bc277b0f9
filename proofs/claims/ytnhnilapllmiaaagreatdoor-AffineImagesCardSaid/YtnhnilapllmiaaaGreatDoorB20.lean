/- Texts laid one behind the other: Tree, RTree, RTreeW, RTreeS, LateC, TreeB, AffT, Maps, ImgA. -/
import Derived.Test.YtnhnilapllmiaaaGreatDoorB18
import Derived.Test.YtnhnilapllmiaaaGreatDoorB16
import Derived.Test.YtnhnilapllmiaaaGreatDoorB19
import Derived.Test.YtnhnilapllmiaaaGreatDoorB03
import Derived.Test.YtnhnilapllmiaaaGreatDoorRow
set_option linter.unusedSectionVars false
set_option linter.unusedVariables false
set_option linter.unusedSimpArgs false
namespace Go.Ab
open Go.Proofs
variable [Base]
inductive Tr where
  | leaf (i : Bool)
  | node (l : Li) (a b : Tr)
def bc : Tr → List SV
  | .leaf i => [lit (.int .i64 0), lit (.int .i64 0), lit (.pointer none), lit (.int .i64 0), lit (.int .i64 0), lit (.pointer none), lit (.int .i64 0), lit (.int .i64 0), lit (.pointer none), lit (.pointer none), lit (.pointer none), lit (.bool i)]
  | .node l a b => [lit (.int .i64 (r0 l.a)), lit (.int .i64 (r1 l.a)), r2 l.a, lit (.int .i64 (r0 l.b)), lit (.int .i64 (r1 l.b)), r2 l.b, lit (.int .i64 (r0 l.c)), lit (.int .i64 (r1 l.c)), r2 l.c, pt (bc a), pt (bc b), lit (.bool false)]
theorem bc_leaf (i : Bool) : bc (.leaf i) = [lit (.int .i64 0), lit (.int .i64 0), lit (.pointer none), lit (.int .i64 0), lit (.int .i64 0), lit (.pointer none), lit (.int .i64 0), lit (.int .i64 0), lit (.pointer none), lit (.pointer none), lit (.pointer none), lit (.bool i)] := rfl
theorem bc_node (l : Li) (a b : Tr) : bc (.node l a b) = [lit (.int .i64 (r0 l.a)), lit (.int .i64 (r1 l.a)), r2 l.a, lit (.int .i64 (r0 l.b)), lit (.int .i64 (r1 l.b)), r2 l.b, lit (.int .i64 (r0 l.c)), lit (.int .i64 (r1 l.c)), r2 l.c, pt (bc a), pt (bc b), lit (.bool false)] := rfl
abbrev bt (t : Tr) : SV := pt (bc t)
theorem PuN.toPt {P : Program} {f : FuncId} {T : TypeId} {args cs : List SV} (h : PuN P f T args cs) : Pu P f args (pt cs) := by
  unfold Pu
  exact ⟨h.1, fun m w vs hm ha => (h.2 m w vs hm ha).mono fun _ w' ⟨b, m', e, hb, h1, h2, ⟨arr, h3, h4⟩, h5⟩ => by
    have hle : m'.le (fun x => if x = b then w'.heap[b]? else m' x) := fun x o hx => by
      show (if x = b then w'.heap[b]? else m' x) = some o
      rw [if_neg (fun e => by rw [e] at hx; rw [h2] at hx; cases hx)]; exact hx
    refine ⟨_, (fun x => if x = b then w'.heap[b]? else m' x), e, pub_pt (arr := arr) (T := T) _ (by show (if b = b then w'.heap[b]? else m' b) = _; rw [if_pos rfl]; exact h3) (h4.mono hle), ⟨fun x o hx => ?_, Mem.le_trans h1.base hle⟩, ⟨Mem.le_trans h5.le hle, fun x hx hnx => ?_, h5.os, h5.tape, h5.output, h5.size, h5.block⟩⟩
    · by_cases hxb : x = b
      · subst hxb; simp only [if_true] at hx; exact hx
      · simp only [if_neg hxb] at hx; exact h1 x o hx
    · show (if x = b then w'.heap[b]? else m' x) = _
      rw [if_neg (by omega)]; exact h5.old x hx hnx⟩
theorem leaf_pu (i : Bool) : Pu Tryz.prog 147 [lit (.bool i)] (bt (.leaf i)) := by
  unfold bt
  rw [bc_leaf]
  apply PuN.toPt (T := 186)
  refine PuN.intro Tryz.func147 rfl (by kernel_rfl) fun C => ?_
  repeat (refine A1 ⟨?_⟩; intros)
  exact endNwR _ _ (end1 (RV.tmp rfl) (Le.refl _)) List.mem_cons_self (LeL.refl _)
theorem isLeaf_leaf (i : Bool) : Pu Tryz.prog 103 [bt (.leaf i)] (lit (.bool true)) := by
  unfold bt
  rw [bc_leaf]
  refine Pu.intro Tryz.func103 rfl (by kernel_rfl) fun C => ?_
  repeat (refine A1 ⟨?_⟩; intros)
  ((first | refine endR ?_ | refine endN ?_); exact end1 (RV.tmp rfl) (Le.refl _))
theorem isLeaf_node (l : Li) (a b : Tr) : Pu Tryz.prog 103 [bt (.node l a b)] (lit (.bool false)) := by
  unfold bt
  rw [bc_node]
  refine Pu.intro Tryz.func103 rfl (by kernel_rfl) fun C => ?_
  repeat (refine A1 ⟨?_⟩; intros)
  ((first | refine endR ?_ | refine endN ?_); exact end1 (RV.tmp rfl) (Le.refl _))
theorem bnew_pu (l : Li) (a b : Tr) : Pu Tryz.prog 104 [lf l.a l.b l.c, bt a, bt b] (bt (.node l a b)) := by
  unfold bt
  rw [bc_node]
  apply PuN.toPt (T := 186)
  refine PuN.intro Tryz.func104 rfl (by kernel_rfl) fun C => ?_
  repeat (refine A1 ⟨?_⟩; intros)
  exact endNwR _ _ (end1 (RV.tmp rfl) (Le.refl _)) List.mem_cons_self (LeL.refl _)
def Tr.size : Tr → Nat
  | .leaf _ => 0
  | .node _ a b => 1 + a.size + b.size
theorem Tr.size_node (l : Li) (a b : Tr) : (Tr.node l a b).size = 1 + a.size + b.size := rfl
def Tr.root (k : Nat) : Tr → Int
  | .leaf true => -2
  | .leaf false => -1
  | .node _ _ _ => k
def nd (l : Li) (i j : Int) : List SV := [lit (.bool (decide (l.a < 0))), nat l.a.natAbs, lit (.bool (decide (l.b < 0))), nat l.b.natAbs, lit (.bool (decide (l.c < 0))), nat l.c.natAbs, lit (.int .i64 i), lit (.int .i64 j)]
def Tr.rows (k : Nat) : Tr → List SV
  | .leaf _ => []
  | .node l a b => nd l (a.root (k + 1)) (b.root (k + 1 + a.size)) ++ a.rows (k + 1) ++ b.rows (k + 1 + a.size)
theorem Tr.rows_len : ∀ (t : Tr) (k : Nat), (t.rows k).length = t.size * 8
  | .leaf _, _ => rfl
  | .node _ a b, k => by simp only [Tr.rows, Tr.size, List.length_append, rows_len a, rows_len b, nd, List.length_cons, List.length_nil]; omega
def Tr.all (p : Li → Prop) : Tr → Prop
  | .leaf _ => True
  | .node l a b => p l ∧ a.all p ∧ b.all p
instance tyF : TY Tryz.prog 187 1 8 [lit .nilFunc] false := ⟨⟨[.nilFunc], by kernel_rfl, rfl, rfl, rfl⟩, by kernel_rfl⟩
theorem set_mid6 {cs rest : List SV} {k : Nat} {x0 x1 x2 x3 x4 x5 x6 x7 v : SV} (h : cs.length = k) : spl (cs ++ (x0 :: x1 :: x2 :: x3 :: x4 :: x5 :: x6 :: x7 :: rest)) (0 + k + 6) [v] = cs ++ (x0 :: x1 :: x2 :: x3 :: x4 :: x5 :: v :: x7 :: rest) := by
  subst h
  simp only [spl, Nat.zero_add]
  rw [List.set_append_right _ _ (by omega), Nat.add_sub_cancel_left]
  rfl
theorem set_mid7 {cs rest : List SV} {k : Nat} {x0 x1 x2 x3 x4 x5 x6 x7 v : SV} (h : cs.length = k) : spl (cs ++ (x0 :: x1 :: x2 :: x3 :: x4 :: x5 :: x6 :: x7 :: rest)) (0 + k + 7) [v] = cs ++ (x0 :: x1 :: x2 :: x3 :: x4 :: x5 :: x6 :: v :: rest) := by
  subst h
  simp only [spl, Nat.zero_add]
  rw [List.set_append_right _ _ (by omega), Nat.add_sub_cancel_left]
  rfl
theorem ble_mid {cs rest : List SV} {k j : Nat} {x0 x1 x2 x3 x4 x5 x6 x7 : SV} (h : cs.length = k) (hj : j < 8) : Nat.ble (0 + k + j + 1) (cs ++ (x0 :: x1 :: x2 :: x3 :: x4 :: x5 :: x6 :: x7 :: rest)).length = true := by
  rw [Nat.ble_eq, List.length_append]; simp only [List.length_cons]; omega
theorem api1_pu : ∀ (t : Tr) (_ : t.all fun l => l.le 1000000) (out fn n0 : Nat) (cs : List SV) (s : SV) (Hs : LH) (_ : Own 143 8 n0 cs s Hs) (_ : n0 + t.size ≤ 1000000) (r0' : Int),
    PuH Tryz.prog 105 [bt t, lit (.pointer (some ⟨out, 0, none⟩)), lit (.pointer (some ⟨fn, 0, none⟩))]
      ((out, 63, [lit (.int .i64 r0'), s]) :: (fn, 187, [fnv 105 [] [lit (.pointer (some ⟨out, 0, none⟩)), lit (.pointer (some ⟨fn, 0, none⟩))]]) :: Hs)
      (fun r H => r = lit (.int .i64 (t.root n0)) ∧ ∃ s' H', Own 143 8 (n0 + t.size) (cs ++ t.rows n0) s' H' ∧
        H = (out, 63, [lit (.int .i64 r0'), s']) :: (fn, 187, [fnv 105 [] [lit (.pointer (some ⟨out, 0, none⟩)), lit (.pointer (some ⟨fn, 0, none⟩))]]) :: H') noX := by
  intro t
  induction t with
  | leaf i =>
    intro _ out fn n0 cs s Hs hown _ r0'
    have c1 := isLeaf_leaf i
    have hfin : Own 143 8 (n0 + (Tr.leaf i).size) (cs ++ (Tr.leaf i).rows n0) s Hs := by
      simpa [Tr.size, Tr.rows] using hown
    unfold bt at *
    rw [bc_leaf] at *
    cases i with
    | true =>
      refine PuH.intro Tryz.func105 rfl (by kernel_rfl) fun C hC => ?_
      repeat (first | (refine A1 ⟨?_⟩; intros) | (refine Wcx (c1) ?_) | (refine Wdcx (c1) ?_) | (refine Wcgx (c1) ?_) | (refine Wdcgx (c1) ?_))
      exact endHR _ _ (end1 (RV.tmp rfl) (Le.refl _)) (List.Sublist.refl _) ⟨rfl, _, _, hfin, rfl⟩
    | false =>
      refine PuH.intro Tryz.func105 rfl (by kernel_rfl) fun C hC => ?_
      repeat (first | (refine A1 ⟨?_⟩; intros) | (refine Wcx (c1) ?_) | (refine Wdcx (c1) ?_) | (refine Wcgx (c1) ?_) | (refine Wdcgx (c1) ?_))
      exact endHR _ _ (end1 (RV.tmp rfl) (Le.refl _)) (List.Sublist.refl _) ⟨rfl, _, _, hfin, rfl⟩
  | node l a b iha ihb =>
    intro hall out fn n0 cs s Hs hown hsz r0'
    obtain ⟨hl, hla, hlb⟩ := hall
    have c1 := isLeaf_node l a b
    have c2 := lapi_pu l hl
    haveI := hown.co
    rw [Tr.size_node] at hsz
    unfold bt at *
    rw [bc_node] at *
    refine PuH.intro Tryz.func105 rfl (by kernel_rfl) fun C hC => ?_
    repeat (first | (refine A1 ⟨?_⟩; intros) | (refine Wcx (c1) ?_) | (refine Wdcx (c1) ?_) | (refine Wcgx (c1) ?_) | (refine Wdcgx (c1) ?_))
    refine Wo (ov_lenOwn hown rfl) ?_
    repeat (first | (refine AS ⟨?_⟩; intros) | (refine O1 ⟨?_⟩; intros) | (refine Wcx (c1) ?_) | (refine Wcgx (c1) ?_))
    refine WdN 9 ?_
    repeat (first | (refine A1 ⟨?_⟩; intros) | (refine Wcx (c2) ?_) | (refine Wdcx (c2) ?_) | (refine Wcgx (c2) ?_) | (refine Wdcgx (c2) ?_))
    simp only [List.drop_succ_cons, List.drop_zero]
    refine Wown hown (by omega) (fun s1 H1 o1 => ?_)
    have o1' := o1
    obtain ⟨_, ⟨h1, _⟩ | ⟨b1, k1, _, _, rfl, rfl⟩⟩ := o1
    · omega
    simp only [List.cons_append, List.nil_append]
    repeat (first | (refine AS ⟨?_⟩; intros) | (refine O1 ⟨?_⟩; intros) | (refine Wcx (c2) ?_) | (refine Wcgx (c2) ?_))
    refine WdN 5 ?_
    repeat (refine A1 ⟨?_⟩; intros)
    simp only [List.drop_succ_cons, List.drop_zero]
    refine WvT (iha hla out fn (n0 + 1) _ _ _ o1' (by omega) r0') ?_
    rintro _ _ ⟨rfl, s2, H2, o2, rfl⟩
    have o2' := o2
    obtain ⟨_, ⟨h2, _⟩ | ⟨b2, k2, _, _, rfl, rfl⟩⟩ := o2
    · omega
    simp only [List.cons_append, List.nil_append]
    repeat (first | (refine AS ⟨?_⟩; intros) | (refine O1 ⟨?_⟩; intros) | (refine Wcx (c2) ?_) | (refine Wcgx (c2) ?_))
    refine WdN 5 ?_
    repeat (refine A1 ⟨?_⟩; intros)
    simp only [List.drop_succ_cons, List.drop_zero]
    refine WvT (ihb hlb out fn (n0 + 1 + a.size) _ _ _ o2' (by omega) r0') ?_
    rintro _ _ ⟨rfl, s3, H3, o3, rfl⟩
    simp only [List.cons_append, List.nil_append]
    obtain ⟨hlen, ⟨h0, _⟩ | ⟨b3, c3, hc3, hm3, rfl, rfl⟩⟩ := o3
    · omega
    have hcl := hown.1
    simp only [List.append_assoc, List.cons_append, List.nil_append]
    repeat (first | (refine AS ⟨?_⟩; intros) | (refine O1 ⟨?_⟩; intros) | (refine Wcx (c2) ?_) | (refine Wcgx (c2) ?_))
    refine WdL 8 3 ?_
    repeat (refine A1 ⟨?_⟩; intros)
    refine dL0 ?_
    refine Gv ?_ ?_
    · (repeat (first | exact LOk.nil | refine Lsk ?_ | refine Lcv ?_))
    refine Gv ?_ ?_
    · (repeat (first | exact LOk.nil | refine Lsk ?_ | refine Lcv ?_))
    refine Gs (b := b3) (o := 0 + n0 * 8 + 6) (sv := lit (.int .i64 (a.root (n0 + 1)))) rfl rfl rfl (.there _ (.there _ (.there _ (.here _)))) (set_mid6 hcl) (ble_mid hcl (by decide)) ?_ ?_
    · (repeat (first | exact LOk.nil | refine Lsk ?_ | refine Lcv ?_))
    refine Gn ?_ ?_
    · (repeat (first | exact LOk.nil | refine Lsk ?_ | refine Lcv ?_))
    repeat (refine A1 ⟨?_⟩; intros)
    refine WPL.store (b := b3) (o := 0 + n0 * 8 + 7) (sv := lit (.int .i64 (b.root (n0 + 1 + a.size)))) rfl rfl rfl (.there _ (.there _ (.there _ (.here _)))) (set_mid7 hcl) (ble_mid hcl (by decide)) ?_
    repeat (refine A1 ⟨?_⟩; intros)
    refine endHR _ _ (end1 (RV.tmp rfl) (Le.refl _)) (List.Sublist.cons _ (List.Sublist.refl _)) ⟨rfl, _, _, ⟨?_, .inr ⟨b3, c3, ?_, hm3, ?_, ?_⟩⟩, rfl⟩
    · rw [List.length_append, hown.1, Tr.rows_len, Nat.add_mul]
    · rw [Tr.size_node]; omega
    · rw [show n0 + (Tr.node l a b).size = n0 + 1 + a.size + b.size from by rw [Tr.size_node]; omega]
    · rw [show n0 + (Tr.node l a b).size = n0 + 1 + a.size + b.size from by rw [Tr.size_node]; omega]
      simp only [Tr.rows, nd, List.append_assoc, List.cons_append, List.nil_append]
theorem All2.repl {m : Mem} {x y : SV} {c2 : List SV} (h : ∀ v, x.p m v → y.p m v) : ∀ {c1 : List SV} {l : List Value}, All2 m (c1 ++ x :: c2) l → All2 m (c1 ++ y :: c2) l
  | [], [], k => k.elim
  | [], _ :: _, k => ⟨⟨h _ k.1.1, k.1.2⟩, k.2⟩
  | _ :: _, [], k => k.elim
  | _ :: _, _ :: _, k => ⟨k.1, All2.repl h k.2⟩
theorem St.pubC {C : Ctx} {n : Nat} {F : Fr} {H H1 H' : LH} {a : Act} {w : World} {b o : Nat} {T To : TypeId} {cs c1 c2 : List SV} {v : Value} {s' : SV} (hs : St C n F H a w) (hdel : HDel b T cs H H1)
    (hu : HUpd o To (c1 ++ lit v :: c2) (c1 ++ s' :: c2) H1 H') (hsv : ∀ (m : Mem) (arr : Array Value), m b = some (.cells arr T (0, 0)) → All2 m cs arr.toList → s'.p m v) : St C n F H' a w := by
  obtain ⟨hdef, hn, m, h1, h2, h3, h4, h5⟩ := hs
  obtain ⟨hmb, arr, hb, hall⟩ := h2.2 _ hdel.mem
  have hle : m.le (fun x => if x = b then w.heap[b]? else m x) := fun x o hx => by
    show (if x = b then w.heap[b]? else m x) = some o
    rw [if_neg (fun e => by rw [e] at hx; rw [hmb] at hx; cases hx)]; exact hx
  have hk := hdel.keys h2.1
  have hval : s'.p (fun x => if x = b then w.heap[b]? else m x) v := hsv _ arr (by show (if b = b then w.heap[b]? else m b) = _; rw [if_pos rfl]; exact hb) (hall.mono hle)
  refine ⟨hdef, hn, (fun x => if x = b then w.heap[b]? else m x), ⟨fun x o hx => ?_, Mem.le_trans h1.base hle⟩, ⟨hu.keys ▸ hk.1, fun e he => ?_⟩, ⟨Mem.le_trans h3.le hle, fun x hx hnx => ?_, h3.os, h3.tape, h3.output, h3.size, h3.block⟩,
    fun e he => ?_, fun t => (F t).mono hle (h5 t)⟩
  · by_cases hxb : x = b
    · subst hxb; simp only [if_true] at hx; exact hx
    · simp only [if_neg hxb] at hx; exact h1 x o hx
  · rcases hu.mem' hk.1 e he with rfl | ⟨he', hne⟩
    · obtain ⟨q1, arr', q2, q3⟩ := h2.2 _ (hdel.sub _ hu.mem)
      refine ⟨?_, arr', q2, (q3.mono hle).repl fun u hu' => ?_⟩
      · show (if o = b then w.heap[b]? else m o) = none
        rw [if_neg (hk.2 _ hu.mem)]; exact q1
      · rw [lit_p] at hu'; subst hu'; exact hval
    · obtain ⟨q1, arr', q2, q3⟩ := h2.2 e (hdel.sub e he')
      exact ⟨by show (if e.1 = b then w.heap[b]? else m e.1) = none; rw [if_neg (hk.2 e he')]; exact q1, arr', q2, q3.mono hle⟩
  · have hxb : x ≠ b := fun e => by
      subst e
      rcases h4 _ hdel.mem with h | h
      · exact hnx h
      · exact absurd hx (Nat.not_lt.2 h)
    show (if x = b then w.heap[b]? else m x) = _
    rw [if_neg hxb]; exact h3.old x hx hnx
  · have : e.1 ∈ H'.map (·.1) := List.mem_map.2 ⟨e, he, rfl⟩
    rw [hu.keys] at this
    obtain ⟨e', he', hk'⟩ := List.mem_map.1 this
    exact hk' ▸ h4 e' (hdel.sub e' he')
theorem WPL.pubC {P : Program} {C : Ctx} {n : Nat} {F : Fr} {H H1 H' : LH} {ops : Array Oper} {K : Fr → LH → Prop} {l : List Oper} {b o : Nat} {T To : TypeId} {cs c1 c2 : List SV} {v : Value} {s' : SV} (hdel : HDel b T cs H H1)
    (hu : HUpd o To (c1 ++ lit v :: c2) (c1 ++ s' :: c2) H1 H') (hsv : ∀ (m : Mem) (arr : Array Value), m b = some (.cells arr T (0, 0)) → All2 m cs arr.toList → s'.p m v) (k : WPL P C n ops l K F H') : WPL P C n ops l K F H := by
  unfold WPL at *
  exact fun a w hs => k a w (hs.pubC hdel hu hsv)
abbrev tq (t : Tr) : SV := ag [lit (.int .i64 (t.root 0)), sl (t.rows 0) t.size]
theorem pub_own {m : Mem} {arr : Array Value} {b : Nat} {T : TypeId} {cs : List SV} {j n c : Nat} (hm : m b = some (.cells arr T (0, 0))) (ha : All2 m (cs ++ List.replicate j top) arr.toList) (h1 : n ≤ c) (h2 : c ≤ maxLen) : (sl cs n).p m (.slice (some ⟨b, 0, none⟩) n c) := by
  refine sl_mk h1 h2 (.inr ⟨b, 0, rfl, arr, T, (0, 0), hm, ?_⟩)
  rw [List.drop_zero]
  exact ha.split.1
theorem tapi_pu (t : Tr) (hall : t.all fun l => l.le 1000000) (hsz : t.size ≤ 1000000) : Pu Tryz.prog 50 [bt t] (tq t) := by
  have c := fun out fn => api1_pu t hall out fn 0 [] _ [] (Own.nil 143 8) (by omega) 0
  refine Pu.intro Tryz.func50 rfl (by kernel_rfl) fun C => ?_
  repeat (refine A1 ⟨?_⟩; intros)
  rename_i b1 b2 b3
  refine Ss ?_
  refine Ws (sv := fnv 105 [] [lit (.pointer (some ⟨b2, 0, none⟩)), lit (.pointer (some ⟨b3, 0, none⟩))]) ?_
  repeat (refine A1 ⟨?_⟩; intros)
  refine WvT (c _ _) ?_
  rintro _ _ ⟨rfl, s', H', ho, rfl⟩
  simp only [List.cons_append, List.nil_append, Nat.zero_add] at ho ⊢
  obtain ⟨hlen, ⟨h0, rfl, rfl⟩ | ⟨b, cc, h1, h2, rfl, rfl⟩⟩ := ho
  · have hr : t.rows 0 = [] := List.eq_nil_of_length_eq_zero (by rw [hlen, h0])
    have hle : Le (lit (.slice none 0 0)) (sl (t.rows 0) t.size) := fun m v hv => by
      rw [lit_p] at hv; subst hv; rw [hr, h0]
      exact sl_mk (Nat.le_refl _) (by decide) (.inl rfl)
    repeat (refine A1 ⟨?_⟩; intros)
    exact endR (end1 (RV.cellA rfl List.mem_cons_self rfl rfl) (Le.ag ⟨Le.refl _, hle, trivial⟩))
  · refine WPL.pubC (c1 := [lit (.int .i64 0)]) (c2 := []) (s' := sl (t.rows 0) t.size) (.there _ (.there _ (.there _ (.here _)))) (.there _ (.here _)) (fun m arr hm ha => pub_own hm ha h1 h2) ?_
    simp only [List.cons_append, List.nil_append]
    repeat (refine A1 ⟨?_⟩; intros)
    exact endR (end1 (RV.cellA rfl List.mem_cons_self rfl rfl) (Le.refl _))
def rc : Tr → List SV
  | .leaf i => [lit (.bool true), lit (.bool i), lit (.bool false), lit (.slice none 0 0), lit (.bool false), lit (.slice none 0 0), lit (.bool false), lit (.slice none 0 0), lit (.pointer none), lit (.pointer none)]
  | .node l a b => [lit (.bool false), lit (.bool false), lit (.bool (decide (l.a < 0))), nat l.a.natAbs, lit (.bool (decide (l.b < 0))), nat l.b.natAbs, lit (.bool (decide (l.c < 0))), nat l.c.natAbs, pt (rc a), pt (rc b)]
theorem rc_leaf (i : Bool) : rc (.leaf i) = [lit (.bool true), lit (.bool i), lit (.bool false), lit (.slice none 0 0), lit (.bool false), lit (.slice none 0 0), lit (.bool false), lit (.slice none 0 0), lit (.pointer none), lit (.pointer none)] := rfl
theorem rc_node (l : Li) (a b : Tr) : rc (.node l a b) = [lit (.bool false), lit (.bool false), lit (.bool (decide (l.a < 0))), nat l.a.natAbs, lit (.bool (decide (l.b < 0))), nat l.b.natAbs, lit (.bool (decide (l.c < 0))), nat l.c.natAbs, pt (rc a), pt (rc b)] := rfl
abbrev rt (t : Tr) : SV := pt (rc t)
theorem rcode_pu (i : Bool) : Pu Tryz.prog 37 [lit (.bool i)] (rt (.leaf i)) := by
  unfold rt
  rw [rc_leaf]
  apply PuN.toPt (T := 93)
  refine PuN.intro Tryz.func37 rfl (by kernel_rfl) fun C => ?_
  repeat (refine A1 ⟨?_⟩; intros)
  exact endNwR _ _ (end1 (RV.tmp rfl) (Le.refl _)) (by repeat (first | exact List.mem_cons_self | apply List.mem_cons_of_mem)) (LeL.refl _)
abbrev smallT (d : Nat) : SV := ex fun t : { t : Tr // t.all (fun l => l.ok ∧ l.le 1) ∧ t.size < 2 ^ d } => rt t.1
theorem ttree_pu (zs : List Int) (hz : zs.length ≤ 400) : ∀ d : Nat, d ≤ 10 → PuT 8 zs [lit (.int .i64 (d : Int))] (smallT d)
  | 0, _ => by
    refine PuM.intro Tryz.func8 rfl (by kernel_rfl) fun C b => ?_
    repeat (refine A1 ⟨?_⟩; intros)
    refine Wtx (next_pu zs hz 2 (by omega) (by omega)) (by repeat (first | exact List.mem_cons_self | apply List.mem_cons_of_mem)) fun x => ?_
    obtain ⟨x, hx⟩ := x
    simp only []
    repeat (refine A1 ⟨?_⟩; intros)
    repeat (first | (refine A1 ⟨?_⟩; intros) | (refine Wcx (rcode_pu _) ?_) | (refine Wdcx (rcode_pu _) ?_) | (refine Wcgx (rcode_pu _) ?_) | (refine Wdcgx (rcode_pu _) ?_))
    exact endMR () _ (end1 (RV.tmp rfl) (Le.ex ⟨.leaf (decide ((x : Int) = 1)), trivial, Nat.lt_of_lt_of_le Nat.zero_lt_one (Nat.le_refl _)⟩ (Le.refl _))) (by repeat (first | exact List.mem_cons_self | apply List.mem_cons_of_mem)) (LeL.refl _)
  | d + 1, hd => by
    have ih := ttree_pu zs hz d (by omega)
    rw [show (d : Int) = ((d + 1 : Nat) : Int) - 1 from by omega] at ih
    have hp : 0 < 2 ^ d := Nat.pow_pos (by omega)
    have x0 : { t : Tr // t.all (fun l => l.ok ∧ l.le 1) ∧ t.size < 2 ^ d } := ⟨.leaf true, trivial, hp⟩
    refine PuM.intro Tryz.func8 rfl (by kernel_rfl) fun C b => ?_
    repeat (refine A1 ⟨?_⟩; intros)
    refine WgE ?_
    refine Wtx (next_pu zs hz 4 (by omega) (by omega)) (by repeat (first | exact List.mem_cons_self | apply List.mem_cons_of_mem)) fun k => ?_
    obtain ⟨k, hk⟩ := k
    simp only []
    by_cases hk0 : k = 0
    · subst hk0
      repeat (refine A1 ⟨?_⟩; intros)
      refine Wtx (next_pu zs hz 2 (by omega) (by omega)) (by repeat (first | exact List.mem_cons_self | apply List.mem_cons_of_mem)) fun x => ?_
      obtain ⟨x, hx⟩ := x
      simp only []
      repeat (refine A1 ⟨?_⟩; intros)
      repeat (first | (refine A1 ⟨?_⟩; intros) | (refine Wcx (rcode_pu _) ?_) | (refine Wdcx (rcode_pu _) ?_) | (refine Wcgx (rcode_pu _) ?_) | (refine Wdcgx (rcode_pu _) ?_))
      exact endMR () _ (end1 (RV.tmp rfl) (Le.ex ⟨.leaf (decide ((x : Int) = 1)), trivial, Nat.pow_pos (by omega)⟩ (Le.refl _))) (by repeat (first | exact List.mem_cons_self | apply List.mem_cons_of_mem)) (LeL.refl _)
    · repeat (refine A1 ⟨?_⟩; intros)
      refine Wtx (tl_pu zs hz) (by repeat (first | exact List.mem_cons_self | apply List.mem_cons_of_mem)) fun l => ?_
      obtain ⟨l, hok, hle⟩ := l
      simp only []
      repeat (refine A1 ⟨?_⟩; intros)
      refine Wtx ih (by repeat (first | exact List.mem_cons_self | apply List.mem_cons_of_mem)) fun a => ?_
      repeat (refine A1 ⟨?_⟩; intros)
      refine Wdo (ov_callT ih rfl (by repeat (first | exact List.mem_cons_self | apply List.mem_cons_of_mem))) ?_
      refine Wdo (OpV.exd 29 x0 rfl fun v => Ov0) ?_
      refine Wdo (OpV.exd 30 x0 rfl fun v => ov_boxP (sv := ag (rc (.node l a.1 v.1))) rfl) ?_
      repeat (refine A1 ⟨?_⟩; intros)
      refine endMR () _ (end1 (RV.tmp (s := ex fun v : { t : Tr // t.all (fun l => l.ok ∧ l.le 1) ∧ t.size < 2 ^ d } => pt (rc (.node l a.1 v.1))) rfl) (Le.exL fun v => Le.ex ⟨.node l a.1 v.1, ⟨⟨hok, hle⟩, a.2.1, v.2.1⟩, ?_⟩ (Le.refl _))) (by repeat (first | exact List.mem_cons_self | apply List.mem_cons_of_mem)) (LeL.refl _)
      have h1 := a.2.2
      have h2 := v.2.2
      rw [Tr.size_node, Nat.pow_succ]
      omega
theorem rwrite1_pu : ∀ (t : Tr) (_ : t.all fun l => l.le 1000000) (n0 : Nat) (cs : List SV) (s : SV) (Hs : LH) (_ : Own 143 8 n0 cs s Hs) (_ : n0 + t.size ≤ 1000000),
    PuH Tryz.prog 51 [rt t, s] Hs
      (fun r H => ∃ s', Own 143 8 (n0 + t.size) (cs ++ t.rows n0) s' H ∧ r = Ab.tup [s', lit (.int .i64 (t.root n0))]) noX := by
  intro t
  induction t with
  | leaf i =>
    intro _ n0 cs s Hs hown _
    have hfin : Own 143 8 (n0 + (Tr.leaf i).size) (cs ++ (Tr.leaf i).rows n0) s Hs := by
      simpa [Tr.size, Tr.rows] using hown
    unfold rt at *
    rw [rc_leaf] at *
    haveI := hown.co
    cases i with
    | true =>
      refine PuH.intro Tryz.func51 rfl (by kernel_rfl) fun C hC => ?_
      repeat (refine A1 ⟨?_⟩; intros)
      exact endHR _ _ (end2 (RV.tmp rfl) (RV.tmp rfl) (Le.refl _)) (List.Sublist.refl _) ⟨_, hfin, rfl⟩
    | false =>
      refine PuH.intro Tryz.func51 rfl (by kernel_rfl) fun C hC => ?_
      repeat (refine A1 ⟨?_⟩; intros)
      exact endHR _ _ (end2 (RV.tmp rfl) (RV.tmp rfl) (Le.refl _)) (List.Sublist.refl _) ⟨_, hfin, rfl⟩
  | node l a b iha ihb =>
    intro hall n0 cs s Hs hown hsz
    obtain ⟨hl, hla, hlb⟩ := hall
    have c2 := toL_pu l hl
    haveI := hown.co
    rw [Tr.size_node] at hsz
    unfold rt at *
    rw [rc_node] at *
    refine PuH.intro Tryz.func51 rfl (by kernel_rfl) fun C hC => ?_
    repeat (refine A1 ⟨?_⟩; intros)
    refine Wo (ov_lenOwn hown rfl) ?_
    repeat (first | (refine A1 ⟨?_⟩; intros) | (refine Wcx (c2) ?_) | (refine Wdcx (c2) ?_) | (refine Wcgx (c2) ?_) | (refine Wdcgx (c2) ?_))
    refine Wown hown (by omega) (fun s1 H1 o1 => ?_)
    have o1' := o1
    obtain ⟨_, ⟨h1, _⟩ | ⟨b1, k1, _, _, rfl, rfl⟩⟩ := o1
    · omega
    simp only [List.cons_append, List.nil_append]
    repeat (refine A1 ⟨?_⟩; intros)
    refine WfT (iha hla (n0 + 1) _ _ _ o1' (by omega)) ?_
    rintro _ _ ⟨s2, o2, rfl⟩
    have o2' := o2
    obtain ⟨_, ⟨h2, _⟩ | ⟨b2, k2, _, _, rfl, rfl⟩⟩ := o2
    · omega
    simp only [List.cons_append, List.nil_append]
    repeat (refine A1 ⟨?_⟩; intros)
    refine WfT (ihb hlb (n0 + 1 + a.size) _ _ _ o2' (by omega)) ?_
    rintro _ _ ⟨s3, o3, rfl⟩
    obtain ⟨hlen, ⟨h0, _⟩ | ⟨b3, c3, hc3, hm3, rfl, rfl⟩⟩ := o3
    · omega
    have hcl := hown.1
    simp only [List.append_assoc, List.cons_append, List.nil_append]
    repeat (refine A1 ⟨?_⟩; intros)
    refine WPL.store (b := b3) (o := 0 + n0 * 8 + 6) (sv := lit (.int .i64 (a.root (n0 + 1)))) rfl rfl rfl (.there _ (.here _)) (set_mid6 hcl) (ble_mid hcl (by decide)) ?_
    repeat (refine A1 ⟨?_⟩; intros)
    refine WPL.store (b := b3) (o := 0 + n0 * 8 + 7) (sv := lit (.int .i64 (b.root (n0 + 1 + a.size)))) rfl rfl rfl (.there _ (.here _)) (set_mid7 hcl) (ble_mid hcl (by decide)) ?_
    repeat (refine A1 ⟨?_⟩; intros)
    refine endHR _ _ (end2 (RV.tmp rfl) (RV.tmp rfl) (Le.refl _)) (List.Sublist.cons _ (List.Sublist.refl _)) ⟨lit (.slice (some ⟨b3, 0, none⟩) (n0 + 1 + a.size + b.size) c3), ⟨?_, .inr ⟨b3, c3, ?_, hm3, ?_, ?_⟩⟩, rfl⟩
    · rw [List.length_append, hown.1, Tr.rows_len, Nat.add_mul]
    · rw [Tr.size_node]; omega
    · rw [show n0 + (Tr.node l a b).size = n0 + 1 + a.size + b.size from by rw [Tr.size_node]; omega]
    · rw [show n0 + (Tr.node l a b).size = n0 + 1 + a.size + b.size from by rw [Tr.size_node]; omega]
      simp only [Tr.rows, nd, List.append_assoc, List.cons_append, List.nil_append]
theorem rwrite_pu (t : Tr) (hall : t.all fun l => l.le 1000000) (hsz : t.size ≤ 1000000) : Pu Tryz.prog 15 [rt t] (tq t) := by
  have c := rwrite1_pu t hall 0 [] _ [] (Own.nil 143 8) (by omega)
  refine Pu.intro Tryz.func15 rfl (by kernel_rfl) fun C => ?_
  repeat (refine A1 ⟨?_⟩; intros)
  refine WfT c ?_
  rintro _ _ ⟨s', ho, rfl⟩
  simp only [List.cons_append, List.nil_append, Nat.zero_add] at ho ⊢
  obtain ⟨hlen, ⟨h0, rfl, rfl⟩ | ⟨b, cc, h1, h2, rfl, rfl⟩⟩ := ho
  · have hr : t.rows 0 = [] := List.eq_nil_of_length_eq_zero (by rw [hlen, h0])
    have hle : Le (lit (.slice none 0 0)) (sl (t.rows 0) t.size) := fun m v hv => by
      rw [lit_p] at hv; subst hv; rw [hr, h0]
      exact sl_mk (Nat.le_refl _) (by decide) (.inl rfl)
    repeat (refine A1 ⟨?_⟩; intros)
    exact endR (end1 (RV.cellA (cs' := [lit (.int .i64 (t.root 0)), lit (.slice none 0 0)]) rfl (by repeat (first | exact List.mem_cons_self | apply List.mem_cons_of_mem)) rfl rfl) (Le.ag ⟨Le.refl _, hle, trivial⟩))
  · (refine O1 ⟨?_⟩; intros)
    (refine O1 ⟨?_⟩; intros)
    refine WPL.pub (d := 7) (s' := sl (t.rows 0) t.size) (.there _ (.there _ (.here _))) rfl (fun m arr hm ha => pub_own hm ha h1 h2) ?_
    repeat (refine A1 ⟨?_⟩; intros)
    ((first | refine endR ?_ | refine endN ?_); refine end1 (RV.cellA rfl (by repeat (first | exact List.mem_cons_self | apply List.mem_cons_of_mem)) (by (try simp only [List.drop_succ_cons, List.drop_zero, List.drop_nil, List.take_succ_cons, List.take_zero, List.take_nil, Nat.zero_add, Nat.add_zero, Nat.reduceAdd]) <;> exact rfl) rfl) (Le.refl _))
def Tr.nodes (k : Nat) : Tr → List (Li × Int × Int)
  | .leaf _ => []
  | .node l a b => (l, a.root (k + 1), b.root (k + 1 + a.size)) :: (a.nodes (k + 1) ++ b.nodes (k + 1 + a.size))
abbrev ndc (x : Li × Int × Int) : List SV := nd x.1 x.2.1 x.2.2
theorem ndc_len (x : Li × Int × Int) : (ndc x).length = 8 := rfl
theorem Tr.rows_nodes : ∀ (t : Tr) (k : Nat), t.rows k = ((t.nodes k).map ndc).flatten
  | .leaf _, _ => rfl
  | .node l a b, k => by
    simp only [Tr.rows, Tr.nodes, List.map_cons, List.map_append, List.flatten_cons, List.flatten_append, rows_nodes a, rows_nodes b, List.append_assoc]
theorem Tr.nodes_len : ∀ (t : Tr) (k : Nat), (t.nodes k).length = t.size
  | .leaf _, _ => rfl
  | .node _ a b, k => by simp only [Tr.nodes, Tr.size, List.length_cons, List.length_append, nodes_len a, nodes_len b]; omega
theorem Tr.nodes_all {p : Li → Prop} : ∀ (t : Tr) (k : Nat), t.all p → ∀ x ∈ t.nodes k, p x.1
  | .leaf _, _, _, _, hx => by cases hx
  | .node l a b, k, h, x, hx => by
    rcases List.mem_cons.1 hx with rfl | hx
    · exact h.1
    · rcases List.mem_append.1 hx with hx | hx
      · exact nodes_all a _ h.2.1 x hx
      · exact nodes_all b _ h.2.2 x hx
theorem sameN_l (r : Int) (ns : List (Li × Int × Int)) (hn : ∀ x ∈ ns, x.1.le 1000000) (hl : ns.length ≤ 1000000) :
    Pu Tryz.prog 24 [ag [lit (.int .i64 r), sl (ns.map ndc).flatten ns.length], ag [lit (.int .i64 r), sl (ns.map ndc).flatten ns.length]] (lit (.bool true)) := by
  refine Pu.intro Tryz.func24 rfl (by kernel_rfl) fun C => ?_
  repeat (refine A1 ⟨?_⟩; intros)
  rename_i b2 b3
  refine WP.loopS (ι := Nat) (fun k => k ≤ ns.length) (fun k => ns.length - k) (fun k => fm [(2, lit (.pointer (some ⟨b2, 0, none⟩))), (3, lit (.pointer (some ⟨b3, 0, none⟩))), (23, sl (ns.map ndc).flatten ns.length), (24, lit (.int .i64 ns.length)), (25, lit (.int .i64 k))])
    (fun _ => [(b3, 63, [lit (.int .i64 r), sl (ns.map ndc).flatten ns.length])]) 0 (Nat.zero_le _) (by (repeat (first | exact LeF.nil _ | refine LeF.cons (Le.refl _) ?_ | refine LeF.cons (Le.int (by omega)) ?_))) (List.Sublist.cons_cons _ (List.nil_sublist _)) ?_
  rintro k hk K hK
  by_cases hkl : k < ns.length
  · have hget := List.getElem?_eq_getElem hkl
    generalize ns[k] = x at hget
    have hmem : x ∈ ns := List.mem_of_getElem? hget
    have c1 := sameL_pu x.1 (hn x hmem)
    have hat := flat_at (f := ndc) (n := 8) ndc_len hget
    have hne : (ns.map ndc).flatten ≠ [] := flat_ne ndc_len (by omega) (fun e => by rw [e] at hkl; simp at hkl)
    obtain ⟨l, i, j⟩ := x
    clear hn hmem hget
    simp only [ndc, nd] at hat
    repeat (refine A1 ⟨?_⟩; intros)
    refine Wo (ov_idxS rfl rfl (by omega) (by omega) hat hne) ?_
    repeat (refine A1 ⟨?_⟩; intros)
    refine Wo (ov_idxS rfl rfl (by omega) (by omega) hat hne) ?_
    repeat (first | (refine A1 ⟨?_⟩; intros) | (refine Wcx (c1) ?_) | (refine Wdcx (c1) ?_) | (refine Wcgx (c1) ?_) | (refine Wdcgx (c1) ?_))
    exact hK _ _ (k + 1) (by omega) (by omega) (by (repeat (first | exact LeF.nil _ | refine LeF.cons (Le.refl _) ?_ | refine LeF.cons (Le.int (by omega)) ?_))) (List.Sublist.cons _ (List.Sublist.cons _ (List.Sublist.cons_cons _ (List.nil_sublist _))))
  · have hke : k = ns.length := by omega
    subst hke
    repeat (refine A1 ⟨?_⟩; intros)
    ((first | refine endR ?_ | refine endN ?_); exact end1 (RV.tmp rfl) (Le.refl _))
theorem sameT_pu (t : Tr) (hall : t.all fun l => l.le 1000000) (hsz : t.size ≤ 1000000) : Pu Tryz.prog 24 [tq t, tq t] (lit (.bool true)) := by
  have h := sameN_l (t.root 0) (t.nodes 0) (t.nodes_all 0 hall) (by rw [t.nodes_len]; exact hsz)
  rw [← t.rows_nodes, t.nodes_len] at h
  exact h
section
variable {P : Program} {C : Ctx} {n : Nat} {F Fe : Fr} {H : LH} {ops : Array Oper}
theorem wp_monoX {o : Oper} {a : Act} {w : World} {next : Act → World → Prop} {Q Q' : Exit → Act → World → Prop} (hp : ∀ c a w, Q' (.panic c) a w → Q (.panic c) a w) (ho : ∀ a w, Q' .outgrown a w → Q .outgrown a w) (h : o.wp P a w next Q') : o.wp P a w next Q := by
  unfold Oper.wp at *
  generalize (execOp a.eval o).run P w = r at *
  cases r with
  | ok n w' =>
    cases n <;> simp only [Oper.upon] at h ⊢ <;>
      first
        | exact h
        | exact Calls.mono h (fun e w'' he => by cases e <;> first | exact he | exact hp _ _ _ he | exact he.imp fun a h => h.imp fun w h => ho a w h)
  | halt x w' => cases x <;> simp only [Oper.upon] at h ⊢ <;> first | exact hp _ _ _ h | exact h
theorem TS.ofWPL {i : Nat} {o : Oper} {sv : SV} {H' : LH} (ho : ops[i]? = some o) (h : ∀ F, (∀ t, t ∈ o.looksAt ops → Fe t = F t) → WPL P ⟨C.ks, C.m, C.w, noX, C.dfs⟩ n ops [o] (fun F' H2 => F' = dstf o F sv ∧ H2 = H') F H) : TS P C n ops i o Fe H sv H' := by
  intro F hF a w hst Q' K' hK'
  have h1 := h F hF
  unfold WPL at h1
  have h2 := h1 a w hst (fun e a w => match e with
    | .normal => K' a w
    | .panic c => Q' (.panic c) a w
    | .outgrown => Q' .outgrown a w
    | _ => False) ⟨fun a' w' F' H2 hs' hk => by
      obtain ⟨rfl, rfl⟩ := hk
      exact hK' a' w' hs', fun ch a' w' hp => by obtain ⟨_, _, _, _, _, _, _, _, _, _, _, hf⟩ := hp; exact hf.elim⟩
  unfold wpOp
  simp only [ho]
  unfold wpList at h2
  split
  · rename_i hw
    rw [if_pos hw] at h2
    rcases h2 with h2 | h2
    · exact .inl (wp_monoX (fun _ _ _ h => h) (fun _ _ h => h) h2)
    · exact .inr ⟨h2.1, h2.2⟩
  · rename_i hw
    rw [if_neg hw] at h2
    exact h2
theorem TS.callH {i d : Nat} {f : FuncId} {l : List Operand} {tys : Array TypeId} {ty : TypeId} {pos : String} {aft : Array Edge} {svs : List SV} {Hin Hout Rs : LH} {res : SV} (ho : ops[i]? = some ⟨some d, .call ⟨.value (.func f), l.toArray, tys⟩, ty, pos, aft, none⟩) (hd : Nat.blt d n = true)
    (hc : PuH P f svs Hin (fun r H => r = res ∧ H = Hout) noX) (hs : Tk H Hin Rs) (ha : l.map (ev Fe) = svs) : TS P C n ops i ⟨some d, .call ⟨.value (.func f), l.toArray, tys⟩, ty, pos, aft, none⟩ Fe H res (Rs ++ Hout) := by
  refine TS.ofWPL ho fun F hF => ?_
  refine WfT hc ?_ ?_ hs hd
  · rintro _ _ ⟨rfl, rfl⟩
    exact WPL.nil ⟨rfl, rfl⟩
  · rw [← ha]
    refine List.map_congr_left fun x hx => ?_
    exact ev_looks (by simp [Op.operands, Call.operands, hx]) hF
theorem Gc {k q i d : Nat} {late : List NO'} {K : Fr → LH → Prop} {r : List Oper} {f : FuncId} {l : List Operand} {tys : Array TypeId} {ty : TypeId} {pos : String} {aft : Array Edge} {svs : List SV} {Hin Hout Rs : LH} {res : SV}
    (hc : PuH P f svs Hin (fun r H => r = res ∧ H = Hout) noX) (hs : Tk H Hin Rs) (hl : LOk P ops k q n H F late) (h : Stg P C n ops k q late K (i + 1) r (upd F d res) (Rs ++ Hout))
    (ha : l.map (ev F) = svs := by exact rfl) (ho : ops[i]? = some ⟨some d, .call ⟨.value (.func f), l.toArray, tys⟩, ty, pos, aft, none⟩ := by exact rfl) (hd : Nat.blt d n = true := by exact rfl) :
    Stg P C n ops k q late K i (⟨some d, .call ⟨.value (.func f), l.toArray, tys⟩, ty, pos, aft, none⟩ :: r) F H := ⟨hl, _, (TS.callH ho hd hc hs ha).toR, by rintro _ _ ⟨rfl, rfl⟩; exact h⟩
end
def marks (k n : Nat) : List SV := List.replicate k (lit (.bool true)) ++ List.replicate (n - k) (lit (.bool false))
theorem marks_len {k n : Nat} (h : k ≤ n) : (marks k n).length = n := by unfold marks; simp; omega
theorem marks_set {k n : Nat} (h : k < n) : (marks k n).set k (lit (.bool true)) = marks (k + 1) n := by
  unfold marks
  rw [List.set_append_right _ _ (by simp), List.length_replicate, Nat.sub_self, show n - k = (n - (k + 1)) + 1 from by omega, List.replicate_succ, List.set_cons_zero, List.replicate_succ', List.append_assoc]
  rfl
theorem marks_get {k n : Nat} (h : k < n) : (marks k n)[k]? = some (lit (.bool false)) := by
  unfold marks
  rw [List.getElem?_append_right (by simp), List.length_replicate, Nat.sub_self, show n - k = (n - (k + 1)) + 1 from by omega, List.replicate_succ]
  rfl
def At (all : List SV) (k : Nat) (t : Tr) : Prop := (all.drop (k * 8)).take (t.size * 8) = t.rows k
theorem At.node {all : List SV} {k : Nat} {l : Li} {a b : Tr} (h : At all k (.node l a b)) : (all.drop (k * 8)).take 8 = nd l (a.root (k + 1)) (b.root (k + 1 + a.size)) ∧ At all (k + 1) a ∧ At all (k + 1 + a.size) b := by
  unfold At at h ⊢
  rw [Tr.size_node] at h
  simp only [Tr.rows] at h
  have hn : (nd l (a.root (k + 1)) (b.root (k + 1 + a.size))).length = 8 := rfl
  have h1 := congrArg (List.take 8) h
  rw [List.take_take, Nat.min_eq_left (by omega), List.append_assoc, List.take_left' hn] at h1
  have h2 := congrArg (List.drop 8) h
  rw [List.drop_take, List.drop_drop, List.append_assoc, List.drop_left' hn] at h2
  rw [show k * 8 + 8 = (k + 1) * 8 from by omega, show (1 + a.size + b.size) * 8 - 8 = a.size * 8 + b.size * 8 from by omega] at h2
  have ha := Tr.rows_len a (k + 1)
  have h3 := congrArg (List.take (a.size * 8)) h2
  rw [List.take_take, Nat.min_eq_left (by omega), List.take_left' ha] at h3
  have h4 := congrArg (List.drop (a.size * 8)) h2
  rw [List.drop_take, List.drop_drop, List.drop_left' ha] at h4
  rw [show (k + 1) * 8 + a.size * 8 = (k + 1 + a.size) * 8 from by omega, Nat.add_sub_cancel_left] at h4
  exact ⟨h1, h3, h4⟩
abbrev rdC (all : List SV) (n s k : Nat) : List SV := [sl all n, lit (.slice (some ⟨s, 0, none⟩) n n), lit (.int .i64 (k : Int)), lit (.bool false)]
theorem part_pu : ∀ (t : Tr) (_ : t.all fun l => l.ok ∧ l.le 100000) (all : List SV) (n k r s : Nat) (_ : At all k t) (_ : k + t.size ≤ n) (_ : n ≤ 1000000) (_ : all.length = n * 8),
    PuH Tryz.prog 102 [lit (.pointer (some ⟨r, 0, none⟩)), lit (.int .i64 (t.root k))] [(r, 182, rdC all n s k), (s, 4, marks k n)]
      (fun res H => res = bt t ∧ H = [(r, 182, rdC all n s (k + t.size)), (s, 4, marks (k + t.size) n)]) noX := by
  intro t
  induction t with
  | leaf i =>
    intro _ all n k r s _ _ _ _
    have c1 := leaf_pu i
    cases i with
    | true =>
      simp only [Tr.root]
      refine PuH.intro Tryz.func102 rfl (by kernel_rfl) fun C hC => ?_
      repeat (first | (refine A1 ⟨?_⟩; intros) | (refine Wcx (c1) ?_) | (refine Wdcx (c1) ?_) | (refine Wcgx (c1) ?_) | (refine Wdcgx (c1) ?_))
      exact endHR _ _ (end1 (RV.tmp rfl) (Le.refl _)) (List.Sublist.refl _) ⟨rfl, rfl⟩
    | false =>
      simp only [Tr.root]
      refine PuH.intro Tryz.func102 rfl (by kernel_rfl) fun C hC => ?_
      repeat (first | (refine A1 ⟨?_⟩; intros) | (refine Wcx (c1) ?_) | (refine Wdcx (c1) ?_) | (refine Wcgx (c1) ?_) | (refine Wdcgx (c1) ?_))
      exact endHR _ _ (end1 (RV.tmp rfl) (Le.refl _)) (List.Sublist.refl _) ⟨rfl, rfl⟩
  | node l a b iha ihb =>
    intro hall all n k r s hat hkn hn hlen
    obtain ⟨⟨hok, hle⟩, hla, hlb⟩ := hall
    obtain ⟨h1, hA, hB⟩ := hat.node
    rw [Tr.size_node] at hkn
    have c2 := lnOf_pu hok hle
    have hg := marks_get (k := k) (n := n) (by omega)
    have hs : spl (marks k n) k [lit (.bool true)] = marks (k + 1) n := by simp only [spl]; exact marks_set (by omega)
    simp only [nd] at h1
    have hml := marks_len (k := k) (n := n) (by omega)
    have hne : all ≠ [] := fun e => by rw [e] at hlen; simp at hlen; omega
    simp only [Tr.root]
    refine PuH.intro Tryz.func102 rfl (by kernel_rfl) fun C hC => ?_
    repeat (refine A1 ⟨?_⟩; intros)
    refine WgE ?_
    refine Wo (ov_loadL rfl (by repeat (first | exact List.mem_cons_self | apply List.mem_cons_of_mem)) hg) ?_
    repeat (refine A1 ⟨?_⟩; intros)
    refine WPL.store (b := s) (o := k) (sv := lit (.bool true)) (cs' := marks (k + 1) n) rfl rfl rfl (.there _ (.here _)) hs (by rw [Nat.ble_eq, hml]; omega) ?_
    repeat (refine A1 ⟨?_⟩; intros)
    refine Wo (ov_idxS rfl rfl (by omega) (by omega) h1 hne) ?_
    repeat (first | (refine A1 ⟨?_⟩; intros) | (refine Wcx (c2) ?_) | (refine Wdcx (c2) ?_) | (refine Wcgx (c2) ?_) | (refine Wdcgx (c2) ?_))
    refine WfT (iha hla all n (k + 1) r s hA (by omega) hn hlen) ?_
    rintro _ _ ⟨rfl, rfl⟩
    simp only [List.cons_append, List.nil_append]
    repeat (first | (refine AS ⟨?_⟩; intros) | (refine O1 ⟨?_⟩; intros) | (refine Wcx (c2) ?_) | (refine Wcgx (c2) ?_))
    refine WdL 5 1 ?_
    repeat (refine A1 ⟨?_⟩; intros)
    refine dL0 ?_
    have c3 := ihb hlb all n (k + 1 + a.size) r s hB (by omega) hn hlen
    have c4 := bnew_pu l a b
    refine Gc c3 (.skip _ (.skip _ (.same _))) ?_ ?_
    · (repeat (first | exact LOk.nil | refine Lsk ?_ | refine Lcv ?_))
    simp only [List.cons_append, List.nil_append]
    refine Gn ?_ ?_
    · (repeat (first | exact LOk.nil | refine Lsk ?_ | refine Lcv ?_))
    repeat (first | (refine A1 ⟨?_⟩; intros) | (refine Wcx (c4) ?_) | (refine Wdcx (c4) ?_) | (refine Wcgx (c4) ?_) | (refine Wdcgx (c4) ?_))
    rw [show k + 1 + a.size + b.size = k + (Tr.node l a b).size from by rw [Tr.size_node]; omega]
    exact endHR _ _ (end1 (RV.tmp rfl) (Le.refl _)) (List.Sublist.cons _ (List.Sublist.cons _ (List.Sublist.refl _))) ⟨rfl, rfl⟩
theorem At.all (t : Tr) : At (t.rows 0) 0 t := by
  unfold At
  rw [Nat.zero_mul, List.drop_zero, ← Tr.rows_len t 0, List.take_length]
theorem bof_pu (t : Tr) (hall : t.all fun l => l.ok ∧ l.le 100000) (hsz : t.size ≤ 60000) : Pu Tryz.prog 48 [tq t] (Ab.tup [bt t, lit (.bool true)]) := by
  have c := fun r s => part_pu t hall (t.rows 0) t.size 0 r s (At.all t) (by omega) (by omega) (t.rows_len 0)
  simp only [Nat.zero_add] at c
  refine Pu.intro Tryz.func48 rfl (by kernel_rfl) fun C => ?_
  repeat (first | (refine AS ⟨?_⟩; intros) | (refine O1 ⟨?_⟩; intros) | (refine Wcx (leaf_pu true) ?_) | (refine Wcgx (leaf_pu true) ?_))
  refine WdN 6 ?_
  repeat (refine A1 ⟨?_⟩; intros)
  refine Wdnew (nk_make rfl rfl (by omega) (by omega)) ?_
  repeat (refine A1 ⟨?_⟩; intros)
  rename_i b1 s r
  refine WfT (c r s) ?_
  rintro _ _ ⟨rfl, rfl⟩
  simp only [List.cons_append, List.nil_append]
  repeat (refine A1 ⟨?_⟩; intros)
  ((first | refine endR ?_ | refine endN ?_); exact end2 (RV.tmp rfl) (RV.tmp rfl) (Le.refl _))
def Tr.im (m : M6 Rat) : Tr → Tr
  | .leaf i => .leaf i
  | .node l a b => .node (l.im m) (a.im m) (b.im m)
theorem Tr.im_size (m : M6 Rat) : ∀ t : Tr, (t.im m).size = t.size
  | .leaf _ => rfl
  | .node _ a b => by simp only [Tr.im, Tr.size, im_size m a, im_size m b]
theorem Tr.all_mono {p q : Li → Prop} (h : ∀ l, p l → q l) : ∀ t : Tr, t.all p → t.all q
  | .leaf _, _ => trivial
  | .node _ a b, k => ⟨h _ k.1, all_mono h a k.2.1, all_mono h b k.2.2⟩
theorem Tr.im_all {m : M6 Rat} {p q : Li → Prop} (h : ∀ l, p l → q (l.im m)) : ∀ t : Tr, t.all p → (t.im m).all q
  | .leaf _, _ => trivial
  | .node _ a b, k => ⟨h _ k.1, im_all h a k.2.1, im_all h b k.2.2⟩
theorem atree1_pu {m : M6 Rat} {L : Nat} (hm : m.le L) (h1 : 1 ≤ L) (hL : L ≤ 400) (hdet : m.det ≠ 0) : ∀ t : Tr, (t.all fun l => l.ok ∧ l.le L) → Pu Tryz.prog 49 [mf m, bt t] (bt (t.im m)) := by
  intro t
  induction t with
  | leaf i =>
    intro _
    have c1 := isLeaf_leaf i
    simp only [Tr.im]
    refine Pu.intro Tryz.func49 rfl (by kernel_rfl) fun C => ?_
    repeat (first | (refine A1 ⟨?_⟩; intros) | (refine Wcx (c1) ?_) | (refine Wdcx (c1) ?_) | (refine Wcgx (c1) ?_) | (refine Wdcgx (c1) ?_))
    ((first | refine endR ?_ | refine endN ?_); exact end1 (RV.tmp rfl) (Le.refl _))
  | node l a b iha ihb =>
    intro ⟨⟨hok, hle⟩, hla, hlb⟩
    have c1 := isLeaf_node l a b
    have c2 := aline_pu hm hle h1 hL hdet hok
    have c3 := iha hla
    have c4 := ihb hlb
    have c5 := bnew_pu (l.im m) (a.im m) (b.im m)
    simp only [Tr.im]
    unfold bt at *
    rw [bc_node] at *
    refine Pu.intro Tryz.func49 rfl (by kernel_rfl) fun C => ?_
    repeat (first | (refine A1 ⟨?_⟩; intros) | (refine Wcx (c1) ?_) | (refine Wdcx (c1) ?_) | (refine Wcgx (c1) ?_) | (refine Wdcgx (c1) ?_) | (refine Wcx (c2) ?_) | (refine Wdcx (c2) ?_) | (refine Wcgx (c2) ?_) | (refine Wdcgx (c2) ?_) | (refine Wcx (c3) ?_) | (refine Wdcx (c3) ?_) | (refine Wcgx (c3) ?_) | (refine Wdcgx (c3) ?_) | (refine Wcx (c4) ?_) | (refine Wdcx (c4) ?_) | (refine Wcgx (c4) ?_) | (refine Wdcgx (c4) ?_) | (refine Wcx (c5) ?_) | (refine Wdcx (c5) ?_) | (refine Wcgx (c5) ?_) | (refine Wdcgx (c5) ?_))
    ((first | refine endR ?_ | refine endN ?_); exact end1 (RV.tmp rfl) (Le.refl _))
theorem Li.im_le' {m : M6 Rat} {l : Li} {L : Nat} (hm : m.le L) (h : l.le L) (h1 : 1 ≤ L) (hL : L ≤ 400) : (l.im m).le 100000 := by
  have hi := Li.im_le hm h h1
  exact ⟨Nat.le_trans hi.a (by omega), Nat.le_trans hi.b (by omega), Nat.le_trans hi.c (by omega)⟩
theorem Li.le.to {l : Li} {L L' : Nat} (h : l.le L) (k : L ≤ L') : l.le L' := ⟨Nat.le_trans h.a k, Nat.le_trans h.b k, Nat.le_trans h.c k⟩
theorem aTree_t {m : M6 Rat} {t : Tr} {L : Nat} (hm : m.le L) (h1 : 1 ≤ L) (hL : L ≤ 400) (hdet : m.det ≠ 0) (ht : t.all fun l => l.ok ∧ l.le L) (hs : t.size ≤ 60000) : Pu Tryz.prog 14 [mq m, tq t] (Ab.tup [tq (t.im m), lit .nilIface]) := by
  have c1 := bof_pu t (t.all_mono (fun l h => ⟨h.1, h.2.to (by omega)⟩) ht) hs
  have c2 := regular_t hm (by omega) hdet
  have c3 := atree1_pu hm h1 hL hdet t ht
  have c4 := tapi_pu (t.im m) (t.im_all (fun l h => (Li.im_le' hm h.2 h1 hL).to (by omega)) ht) (by rw [Tr.im_size]; omega)
  refine Pu.intro Tryz.func14 rfl (by kernel_rfl) fun C => ?_
  repeat (first | (refine A1 ⟨?_⟩; intros) | (refine Wcx (c1) ?_) | (refine Wdcx (c1) ?_) | (refine Wcgx (c1) ?_) | (refine Wdcgx (c1) ?_) | (refine Wcx (c2) ?_) | (refine Wdcx (c2) ?_) | (refine Wcgx (c2) ?_) | (refine Wdcgx (c2) ?_) | (refine Wcx (c3) ?_) | (refine Wdcx (c3) ?_) | (refine Wcgx (c3) ?_) | (refine Wdcgx (c3) ?_) | (refine Wcx (c4) ?_) | (refine Wdcx (c4) ?_) | (refine Wcgx (c4) ?_) | (refine Wdcgx (c4) ?_))
  ((first | refine endR ?_ | refine endN ?_); exact end2 (RV.cellA rfl (by repeat (first | exact List.mem_cons_self | apply List.mem_cons_of_mem)) (by (try simp only [List.drop_succ_cons, List.drop_zero, List.drop_nil, List.take_succ_cons, List.take_zero, List.take_nil, Nat.zero_add, Nat.add_zero, Nat.reduceAdd]) <;> exact rfl) rfl) (RV.tmp rfl) (Le.refl _))
abbrev tz : SV := ag [lit (.int .i64 0), lit (.slice none 0 0)]
theorem aTree_f {m : M6 Rat} {t : Tr} {L : Nat} (hm : m.le L) (hL : L ≤ 400) (hdet : m.det = 0) (ht : t.all fun l => l.ok ∧ l.le 100000) (hs : t.size ≤ 60000) [Sent 0] : Pu Tryz.prog 14 [mq m, tq t] (Ab.tup [tz, lit (sent 0)]) := by
  have c1 := bof_pu t ht hs
  have c2 := regular_f hm (by omega) hdet
  refine Pu.intro Tryz.func14 rfl (by kernel_rfl) fun C => ?_
  repeat (first | (refine A1 ⟨?_⟩; intros) | (refine Wcx (c1) ?_) | (refine Wdcx (c1) ?_) | (refine Wcgx (c1) ?_) | (refine Wdcgx (c1) ?_) | (refine Wcx (c2) ?_) | (refine Wdcx (c2) ?_) | (refine Wcgx (c2) ?_) | (refine Wdcgx (c2) ?_))
  ((first | refine endR ?_ | refine endN ?_); exact end2 (RV.cellA rfl (by repeat (first | exact List.mem_cons_self | apply List.mem_cons_of_mem)) (by (try simp only [List.drop_succ_cons, List.drop_zero, List.drop_nil, List.take_succ_cons, List.take_zero, List.take_nil, Nat.zero_add, Nat.add_zero, Nat.reduceAdd]) <;> exact rfl) rfl) (RV.tmp rfl) (Le.refl _))
theorem M6.le.le_mono {m : M6 Rat} {L L' : Nat} (h : m.le L) (k : L ≤ L') : m.le L' := ⟨Nat.le_trans h.a k, Nat.le_trans h.b k, Nat.le_trans h.c k, Nat.le_trans h.d k, Nat.le_trans h.e k, Nat.le_trans h.f k⟩
theorem vector_le {m : M6 Rat} {L : Nat} (h : m.le L) {x y : Rat} (hx : ht x ≤ L) (hy : ht y ≤ L) : ht (m.a * x + m.b * y) ≤ 4 * L + 3 ∧ ht (m.d * x + m.e * y) ≤ 4 * L + 3 := by
  obtain ⟨ha, hb, hc, hd, he, hf⟩ := h
  have h1 := ht_mul m.a x
  have h2 := ht_mul m.b y
  have h3 := ht_mul m.d x
  have h4 := ht_mul m.e y
  have h5 := ht_add (m.a * x) (m.b * y)
  have h6 := ht_add (m.d * x) (m.e * y)
  exact ⟨by omega, by omega⟩
theorem apply_le {m : M6 Rat} {L : Nat} (h : m.le L) {x y : Rat} (hx : ht x ≤ L) (hy : ht y ≤ L) : ht (m.a * x + m.b * y + m.c) ≤ 5 * L + 4 ∧ ht (m.d * x + m.e * y + m.f) ≤ 5 * L + 4 := by
  have hv := vector_le h hx hy
  obtain ⟨ha, hb, hc, hd, he, hf⟩ := h
  have h5 := ht_add (m.a * x + m.b * y) m.c
  have h6 := ht_add (m.d * x + m.e * y) m.f
  exact ⟨by omega, by omega⟩
abbrev M6.app (m : M6 Rat) (p : Pq) : Pq := (m.a * p.1 + m.b * p.2 + m.c, m.d * p.1 + m.e * p.2 + m.f)
abbrev mfc (m : M6 Rat) : List SV := [lit (.int .i64 (r0 m.a)), lit (.int .i64 (r1 m.a)), r2 m.a, lit (.int .i64 (r0 m.d)), lit (.int .i64 (r1 m.d)), r2 m.d,
  lit (.int .i64 (r0 m.b)), lit (.int .i64 (r1 m.b)), r2 m.b, lit (.int .i64 (r0 m.e)), lit (.int .i64 (r1 m.e)), r2 m.e,
  lit (.int .i64 (r0 m.c)), lit (.int .i64 (r1 m.c)), r2 m.c, lit (.int .i64 (r0 m.f)), lit (.int .i64 (r1 m.f)), r2 m.f]
set_option maxHeartbeats 4000000 in
theorem aRing_t {m : M6 Rat} {l : List Pq} {L : Nat} (hm : m.le L) (hL : L ≤ 400) (hdet : m.det ≠ 0) (hl : l.length ≤ 4096) (hh : ∀ p ∈ l, ht p.1 ≤ L ∧ ht p.2 ≤ L) (h3 : 3 ≤ (srt l).length) (he : ∀ i, i < l.length → badE l i = false) : Pu Tryz.prog 12 [mq m, aps l] (Ab.tup [aps (l.map m.app), lit .nilIface]) := by
  have c1 := ringOf_ok l hl (fun p hp => by have := hh p hp; omega) h3 he
  have c2 := regular_t hm (by omega) hdet
  have hlm : (l.map m.app).length = l.length := List.length_map ..
  have c3 := rgApi_pu (l.map m.app) (by omega) (fun p hp => by
    obtain ⟨q, hq, rfl⟩ := List.mem_map.1 hp
    obtain ⟨h1, h2⟩ := hh q hq
    have := apply_le hm h1 h2
    simp only [M6.app]
    omega)
  have epp : pps (l.map m.app) = sl ((l.map fun p => ppx (m.app p)).flatten) l.length := by
    show sl ((l.map m.app).map ppx).flatten (l.map m.app).length = _
    rw [List.map_map, List.length_map]; rfl
  refine Pu.intro Tryz.func12 rfl (by kernel_rfl) fun C => ?_
  repeat (first | (refine A1 ⟨?_⟩; intros) | (refine Wcx (c1) ?_) | (refine Wdcx (c1) ?_) | (refine Wcgx (c1) ?_) | (refine Wdcgx (c1) ?_) | (refine Wcx (c2) ?_) | (refine Wdcx (c2) ?_) | (refine Wcgx (c2) ?_) | (refine Wdcgx (c2) ?_))
  rename_i bm
  refine WP.loopS (ι := RwSt) (fun y => y.k ≤ l.length ∧ Own 103 6 y.k ((l.take y.k).map fun p => ppx (m.app p)).flatten y.s y.Hs) (fun y => l.length - y.k) (fun y => fm [(8, lit (.pointer (some ⟨bm, 0, none⟩))), (9, y.s), (28, pps l), (29, lit (.int .i64 l.length)), (30, lit (.int .i64 y.k))]) (fun y => (bm, 105, mfc m) :: y.Hs) ⟨0, lit (.slice none 0 0), []⟩
    ⟨Nat.zero_le _, Own.nil _ _⟩ (by (repeat (first | exact LeF.nil _ | refine LeF.cons (Le.refl _) ?_ | refine LeF.cons (Le.int (by omega)) ?_))) (List.Sublist.cons_cons _ (List.nil_sublist _)) ?_
  rintro ⟨k, s, Hs⟩ ⟨hk, hown⟩ K hK
  simp only at hk hown ⊢
  have hco := hown.co
  by_cases hkl : k < l.length
  · have hget := List.getElem?_eq_getElem hkl
    generalize l[k] = p at hget
    obtain ⟨h1, h2⟩ := hh p (List.mem_of_getElem? hget)
    have hat := flat_at (f := ppx) (n := 6) ppx_len hget
    have hne : (l.map ppx).flatten ≠ [] := flat_ne ppx_len (by omega) (fun e => by rw [e] at hkl; simp at hkl)
    have c := aapply_pu hm (by omega) p.1 p.2 h1 h2
    have hgo := fun s' Hs' h F' H' => hK F' H' ⟨k + 1, s', Hs'⟩ ⟨by simp only; omega, h⟩ (by simp only; omega)
    simp only [map_take_snoc (f := fun p => ppx (m.app p)) hget] at hgo
    clear hK hh c1 c2 c3
    repeat (refine A1 ⟨?_⟩; intros)
    refine Wo (ov_idxS (cs' := ppx p) rfl rfl (by omega) (by omega) hat hne) ?_
    repeat (first | (refine A1 ⟨?_⟩; intros) | (refine Wcx (c) ?_) | (refine Wdcx (c) ?_) | (refine Wcgx (c) ?_) | (refine Wdcgx (c) ?_))
    refine Wown hown (by omega) (fun s2 H2 hown' => ?_)
    have hco2 := hown'.co
    replace hgo := hgo s2 H2 hown'
    simp only [List.cons_append, List.nil_append]
    clear hown hown'
    repeat (refine A1 ⟨?_⟩; intros)
    exact hgo _ _ (by (repeat (first | exact LeF.nil _ | refine LeF.cons (Le.refl _) ?_ | refine LeF.cons (Le.int (by omega)) ?_))) (by repeat (first | exact List.Sublist.refl _ | refine List.Sublist.cons _ ?_))
  · have hke : k = l.length := by omega
    subst hke
    rw [List.take_length] at hown
    refine WP.rowS 9 hown rfl (show ([(bm, 105, mfc m)] ++ Hs).Perm _ from List.perm_append_comm) ?_
    rw [← epp]
    clear hK hown
    repeat (first | (refine A1 ⟨?_⟩; intros) | (refine Wcx (c3) ?_) | (refine Wdcx (c3) ?_) | (refine Wcgx (c3) ?_) | (refine Wdcgx (c3) ?_))
    ((first | refine endR ?_ | refine endN ?_); exact end2 (RV.tmp rfl) (RV.tmp rfl) (Le.refl _))
theorem aRing_f {m : M6 Rat} {l : List Pq} {L : Nat} (hm : m.le L) (hL : L ≤ 400) (hdet : m.det = 0) (hl : l.length ≤ 4096) (hh : ∀ p ∈ l, ht p.1 ≤ 100000 ∧ ht p.2 ≤ 100000) (h3 : 3 ≤ (srt l).length) (he : ∀ i, i < l.length → badE l i = false) [Sent 0] :
    Pu Tryz.prog 12 [mq m, aps l] (Ab.tup [lit (.slice none 0 0), lit (sent 0)]) := by
  have c1 := ringOf_ok l hl hh h3 he
  have c2 := regular_f hm (by omega) hdet
  refine Pu.intro Tryz.func12 rfl (by kernel_rfl) fun C => ?_
  repeat (first | (refine A1 ⟨?_⟩; intros) | (refine Wcx (c1) ?_) | (refine Wdcx (c1) ?_) | (refine Wcgx (c1) ?_) | (refine Wdcgx (c1) ?_) | (refine Wcx (c2) ?_) | (refine Wdcx (c2) ?_) | (refine Wcgx (c2) ?_) | (refine Wdcgx (c2) ?_))
  ((first | refine endR ?_ | refine endN ?_); exact end2 (RV.tmp rfl) (RV.tmp rfl) (Le.refl _))
theorem aLine_f {m : M6 Rat} {l : Li} {L : Nat} (hm : m.le L) (hL : L ≤ 400) (hdet : m.det = 0) (hok : l.ok) (hle : l.le 100000) [Sent 0] : Pu Tryz.prog 10 [mq m, lq l] (Ab.tup [ag [lit (.bool false), lit (.slice none 0 0), lit (.bool false), lit (.slice none 0 0), lit (.bool false), lit (.slice none 0 0)], lit (sent 0)]) := by
  have c1 := lnOf_pu hok hle
  have c2 := regular_f hm (by omega) hdet
  refine Pu.intro Tryz.func10 rfl (by kernel_rfl) fun C => ?_
  repeat (first | (refine A1 ⟨?_⟩; intros) | (refine Wcx (c1) ?_) | (refine Wdcx (c1) ?_) | (refine Wcgx (c1) ?_) | (refine Wdcgx (c1) ?_) | (refine Wcx (c2) ?_) | (refine Wdcx (c2) ?_) | (refine Wcgx (c2) ?_) | (refine Wdcgx (c2) ?_))
  ((first | refine endR ?_ | refine endN ?_); exact end2 (RV.cellA rfl (by repeat (first | exact List.mem_cons_self | apply List.mem_cons_of_mem)) (by (try simp only [List.drop_succ_cons, List.drop_zero, List.drop_nil, List.take_succ_cons, List.take_zero, List.take_nil, Nat.zero_add, Nat.add_zero, Nat.reduceAdd]) <;> exact rfl) rfl) (RV.tmp rfl) (Le.refl _))
end Go.Ab
