/- Texts laid one behind the other: PTs, PTw, PTv, PTk, Itoa, PTc. -/
import Derived.Test.YtebghnhocigmlaaGreatDoorB17
import Derived.Test.YtebghnhocigmlaaGreatDoorB11
import Derived.Test.YtebghnhocigmlaaGreatDoorB10
import Derived.Shelf.Strconv.Itoa3
set_option linter.unusedSectionVars false
set_option linter.unusedVariables false
set_option linter.unusedSimpArgs false
namespace Go.Ab
open Go.Proofs
variable [Base]
def kw : Nat → List UInt8
  | 1 => [98, 117, 100, 103, 101, 116]
  | 2 => [114, 105, 110, 103]
  | 3 => [114, 101, 103, 105, 111, 110]
  | 4 => [111, 117, 116, 108, 105, 110, 101]
  | 5 => [108, 101, 116]
  | 6 => [97, 114, 101, 97]
  | 7 => [99, 101, 110, 116, 114, 111, 105, 100]
  | 8 => [99, 108, 97, 115, 115, 105, 102, 121]
  | 9 => [101, 109, 112, 116, 121]
  | 10 => [101, 113, 117, 97, 108]
  | 11 => [115, 117, 98, 115, 101, 116]
  | 12 => [99, 101, 108, 108, 115]
  | 13 => [110, 111, 100, 101, 115]
  | 14 => [112, 97, 114, 116, 115]
  | 15 => [101, 120, 112, 111, 114, 116]
  | _ => []
def exT (A : List Nd) : Ex := match stk A 0 [] with
  | some [(t, _)] => t
  | _ => .leaf (ndA 2 t0)
theorem exT_of {A : List Nd} {x : Ex} (h : Rn A 0 x) : exT A = x := by
  unfold exT
  rw [h.1 []]
def ExB (A : List Nd) : Prop := ∃ x : Ex, Rn A 0 x ∧ clrL A = x.fl 0 ∧ x.wf ∧ x.dep ≤ 200 ∧ x.size ≤ 60000
def PsB (ps : List (Rat × Rat)) : Prop := ps ≠ [] ∧ ps.length ≤ 60000 ∧ ∀ p ∈ ps, PtB p
def txRs (rs : List (List (Rat × Rat))) : List UInt8 := (rs.map fun r => [32, 114, 105, 110, 103] ++ (txPs r ++ [59])).flatten
def tkRs (rs : List (List (Rat × Rat))) : List Tok := (rs.map fun r => tkN [114, 105, 110, 103] :: (tkPs r ++ [tkS 59])).flatten
def txCs (cs : List Chn) : List UInt8 := (cs.map fun c => [32, 99, 104, 97, 105, 110, 32] ++ (txP c.a ++ (txPs c.m ++ (32 :: (txP c.b ++ [59]))))).flatten
def tkCs (cs : List Chn) : List Tok := (cs.map fun c => tkN [99, 104, 97, 105, 110] :: (tkP c.a ++ (tkPs c.m ++ (tkP c.b ++ [tkS 59])))).flatten
def OlB (o : Otl) : Prop := (o.rs.length ≤ 60000 ∧ ∀ r ∈ o.rs, PsB r) ∧ (o.cs.length ≤ 60000 ∧ ∀ c ∈ o.cs, PtB c.a ∧ PtB c.b ∧ PsB c.m)
def txOl (o : Otl) : List UInt8 := 123 :: ((if o.far = true then [32, 102, 97, 114] else []) ++ (txRs o.rs ++ (txCs o.cs ++ [32, 125])))
def tkOl (o : Otl) : List Tok := tkS 123 :: ((if o.far = true then [tkN [102, 97, 114]] else []) ++ (tkRs o.rs ++ (tkCs o.cs ++ [tkS 125])))
def txNs (l : List (List UInt8)) : List UInt8 := (l.map fun w => 32 :: w).flatten
def tkNs (l : List (List UInt8)) : List Tok := l.map tkN
def fw (k : Nat) : List UInt8 := if k = 1 then [101, 118, 101, 110, 111, 100, 100] else [110, 111, 110, 122, 101, 114, 111]
def txB (s : Stm) : List UInt8 :=
  if s.k = 1 then dec s.bd else if s.k = 2 then txPs s.ps else if s.k = 3 then 32 :: fw s.fl ++ txNs s.nms else if s.k = 4 then 32 :: txOl s.ol
  else if s.k = 5 then 32 :: (exT s.e1).txt else if s.k = 8 then (exT s.e1).txt ++ (32 :: txP (s.px.v, s.py.v)) else if s.k = 10 ∨ s.k = 11 then (exT s.e1).txt ++ ([44, 32] ++ (exT s.e2).txt) else (exT s.e1).txt
def tkB (s : Stm) : List Tok :=
  if s.k = 1 then [tkD (dec s.bd)] else if s.k = 2 then tkPs s.ps else if s.k = 3 then tkN (fw s.fl) :: tkNs s.nms else if s.k = 4 then tkOl s.ol
  else if s.k = 5 then (exT s.e1).tks else if s.k = 8 then (exT s.e1).tks ++ tkP (s.px.v, s.py.v) else if s.k = 10 ∨ s.k = 11 then (exT s.e1).tks ++ (tkS 44 :: (exT s.e2).tks) else (exT s.e1).tks
def txS (s : Stm) : List UInt8 := kw s.k ++ [32] ++ (if 2 ≤ s.k ∧ s.k ≤ 5 then s.nm ++ [32, 61] else []) ++ txB s ++ [59]
def tkSt (s : Stm) : List Tok := tkN (kw s.k) :: ((if 2 ≤ s.k ∧ s.k ≤ 5 then [tkN s.nm, tkS 61] else []) ++ (tkB s ++ [tkS 59]))
inductive StB : Stm → Prop
  | bd (a : Tok) (n : Nat) (h : n ≤ 65536) : StB { stm0 1 a with bd := n }
  | ring (a : Tok) (nm : List UInt8) (ps : List (Rat × Rat)) (hn : nmOk nm = true) (hp : PsB ps) : StB { stm0 2 a with nm := nm, ps := ps }
  | reg (a : Tok) (nm : List UInt8) (fl : Nat) (n1 : List UInt8) (l : List (List UInt8)) (hn : nmOk nm = true) (hf : fl = 1 ∨ fl = 2) (h1 : nmOk n1 = true) (hl : ∀ w ∈ l, nmOk w = true) (hll : l.length ≤ 60000) : StB { stm0 3 a with nm := nm, fl := fl, nms := n1 :: l }
  | outl (a : Tok) (nm : List UInt8) (o : Otl) (hn : nmOk nm = true) (ho : OlB o) : StB { stm0 4 a with nm := nm, ol := o }
  | lt (a : Tok) (nm : List UInt8) (A : List Nd) (hn : nmOk nm = true) (hA : ExB A) : StB { stm0 5 a with nm := nm, e1 := A }
  | qry (a : Tok) (k : Nat) (A : List Nd) (hk : k = 6 ∨ k = 7 ∨ k = 9 ∨ k = 12 ∨ k = 13 ∨ k = 14 ∨ k = 15) (hA : ExB A) : StB { stm0 k a with e1 := A }
  | cls (a : Tok) (A : List Nd) (p : Rat × Rat) (hA : ExB A) (hp : PtB p) : StB { stm0 8 a with e1 := A, px := RQ.of p.1, py := RQ.of p.2 }
  | two (a : Tok) (k : Nat) (A B : List Nd) (hk : k = 10 ∨ k = 11) (hA : ExB A) (hB : ExB B) : StB { stm0 k a with e1 := A, e2 := B }
theorem LexTo.rings {l : List UInt8} {ts : List Tok} (h : LexTo l ts) : ∀ {rs : List (List (Rat × Rat))}, (∀ r ∈ rs, PsB r) → LexTo (txRs rs ++ l) (tkRs rs ++ ts)
  | [], _ => h
  | r :: rs, hr => by
    have ih := LexTo.rings h (rs := rs) fun q hq => hr q (List.mem_cons_of_mem _ hq)
    have hr0 := hr r List.mem_cons_self
    unfold txRs tkRs at ih ⊢
    simp only [List.map_cons, List.flatten_cons, List.append_assoc, List.cons_append, List.nil_append]
    have h1 := (ih.sgn (b := 59) (by decide)).pts hr0.2.2
    obtain ⟨p, ps, rfl⟩ : ∃ p ps, r = p :: ps := List.exists_cons_of_ne_nil hr0.1
    refine LexTo.blank (b := 32) ?_ (by decide)
    exact LexTo.word (w := [114, 105, 110, 103]) h1 (Wd.of (by decide)) (Stp.cons (by decide) _)
theorem LexTo.chains {l : List UInt8} {ts : List Tok} (h : LexTo l ts) : ∀ {cs : List Chn}, (∀ c ∈ cs, PtB c.a ∧ PtB c.b ∧ PsB c.m) → LexTo (txCs cs ++ l) (tkCs cs ++ ts)
  | [], _ => h
  | c :: cs, hc => by
    have ih := LexTo.chains h (cs := cs) fun q hq => hc q (List.mem_cons_of_mem _ hq)
    obtain ⟨ha, hb, hm⟩ := hc c List.mem_cons_self
    unfold txCs tkCs at ih ⊢
    simp only [List.map_cons, List.flatten_cons, List.append_assoc, List.cons_append, List.nil_append]
    have h1 := (((ih.sgn (b := 59) (by decide)).pt hb).blank (b := 32) (by decide)).pts hm.2.2
    refine LexTo.blank (b := 32) ?_ (by decide)
    exact LexTo.word (w := [99, 104, 97, 105, 110]) ((h1.pt ha).blank (b := 32) (by decide)) (Wd.of (by decide)) (Stp.cons (by decide) _)
theorem Stp.rs {l : List UInt8} (h : Stp l) (rs : List (List (Rat × Rat))) : Stp (txRs rs ++ l) := by
  cases rs with
  | nil => exact h
  | cons r rs => exact Stp.cons (by decide) _
theorem Stp.cs {l : List UInt8} (h : Stp l) (cs : List Chn) : Stp (txCs cs ++ l) := by
  cases cs with
  | nil => exact h
  | cons r rs => exact Stp.cons (by decide) _
theorem LexTo.ol {l : List UInt8} {ts : List Tok} (h : LexTo l ts) {o : Otl} (ho : OlB o) : LexTo (txOl o ++ l) (tkOl o ++ ts) := by
  have h1 := (LexTo.chains (LexTo.sgn h (b := 125) (by decide) |>.blank (b := 32) (by decide)) ho.2.2).rings ho.1.2
  unfold txOl tkOl
  simp only [List.append_assoc, List.cons_append, List.nil_append]
  refine LexTo.sgn ?_ (b := 123) (by decide)
  cases o.far with
  | false => exact h1
  | true => exact (LexTo.word (w := [102, 97, 114]) h1 (Wd.of (by decide)) (Stp.rs (Stp.cs (Stp.cons (by decide) _) _) _)).blank (b := 32) (by decide)
theorem LexTo.names {l : List UInt8} {ts : List Tok} (h : LexTo l ts) (hl : Stp l) : ∀ {ns : List (List UInt8)}, (∀ w ∈ ns, nmOk w = true) → LexTo (txNs ns ++ l) (tkNs ns ++ ts)
  | [], _ => h
  | w :: ns, hw => by
    have ih := LexTo.names h hl (ns := ns) fun q hq => hw q (List.mem_cons_of_mem _ hq)
    have hs : Stp (txNs ns ++ l) := by
      cases ns with
      | nil => exact hl
      | cons r rs => exact Stp.cons (by decide) _
    unfold txNs tkNs at ih ⊢
    simp only [List.map_cons, List.flatten_cons, List.append_assoc, List.cons_append]
    exact (ih.word (nmOk_wd (hw w List.mem_cons_self)).1 hs).blank (b := 32) (by decide)
theorem LexTo.exB {l : List UInt8} {ts : List Tok} (h : LexTo l ts) (hl : Stp l) {A : List Nd} (hA : ExB A) : LexTo ((exT A).txt ++ l) ((exT A).tks ++ ts) := by
  obtain ⟨x, h1, -, h3, -⟩ := hA
  rw [exT_of h1]
  exact LexTo.ex h3 h hl
theorem kw_wd {k : Nat} (h1 : 1 ≤ k) (h2 : k ≤ 15) : Wd (kw k) := by
  have : k = 1 ∨ k = 2 ∨ k = 3 ∨ k = 4 ∨ k = 5 ∨ k = 6 ∨ k = 7 ∨ k = 8 ∨ k = 9 ∨ k = 10 ∨ k = 11 ∨ k = 12 ∨ k = 13 ∨ k = 14 ∨ k = 15 := by omega
  rcases this with rfl | rfl | rfl | rfl | rfl | rfl | rfl | rfl | rfl | rfl | rfl | rfl | rfl | rfl | rfl <;> exact Wd.of (by decide)
theorem fw_wd (k : Nat) : Wd (fw k) := by
  unfold fw
  split <;> exact Wd.of (by decide)
theorem LexTo.head {l : List UInt8} {ts : List Tok} (h : LexTo l ts) {k : Nat} (h1 : 1 ≤ k) (h2 : k ≤ 15) : LexTo (kw k ++ (32 :: l)) (tkN (kw k) :: ts) :=
  (h.blank (b := 32) (by decide)).word (kw_wd h1 h2) (Stp.cons (by decide) _)
theorem LexTo.named {l : List UInt8} {ts : List Tok} (h : LexTo l ts) {nm : List UInt8} (hn : nmOk nm = true) : LexTo (nm ++ (32 :: 61 :: l)) (tkN nm :: tkS 61 :: ts) :=
  ((h.sgn (b := 61) (by decide)).blank (b := 32) (by decide)).word (nmOk_wd hn).1 (Stp.cons (by decide) _)
theorem dec_bd {n : Nat} (h : n ≤ 65536) : (dec n).length ≤ 5 := dec_le (by omega) (by omega)
theorem LexTo.st {l : List UInt8} {ts : List Tok} (h : LexTo l ts) {s : Stm} (hs : StB s) : LexTo (txS s ++ l) (tkSt s ++ ts) := by
  have h59 : LexTo (59 :: l) (tkS 59 :: ts) := h.sgn (by decide)
  have s59 : Stp (59 :: l) := Stp.cons (by decide) _
  cases hs with
  | bd a n hn =>
    show LexTo (kw 1 ++ [32] ++ [] ++ dec n ++ [59] ++ l) (tkN (kw 1) :: ([] ++ ([tkD (dec n)] ++ [tkS 59])) ++ ts)
    simp only [List.append_assoc, List.cons_append, List.nil_append]
    have := dec_bd hn
    exact (h59.num (dec_D n).1 (dec_D n).2 (by omega) s59).head (by decide) (by decide)
  | ring a nm ps hn hp =>
    show LexTo (kw 2 ++ [32] ++ (nm ++ [32, 61]) ++ txPs ps ++ [59] ++ l) (tkN (kw 2) :: ([tkN nm, tkS 61] ++ (tkPs ps ++ [tkS 59])) ++ ts)
    simp only [List.append_assoc, List.cons_append, List.nil_append]
    exact ((h59.pts hp.2.2).named hn).head (by decide) (by decide)
  | reg a nm fl n1 ns hn hf h1 hl hll =>
    show LexTo (kw 3 ++ [32] ++ (nm ++ [32, 61]) ++ (32 :: fw fl ++ txNs (n1 :: ns)) ++ [59] ++ l) (tkN (kw 3) :: ([tkN nm, tkS 61] ++ ((tkN (fw fl) :: tkNs (n1 :: ns)) ++ [tkS 59])) ++ ts)
    simp only [List.append_assoc, List.cons_append, List.nil_append]
    have h2 := h59.names s59 (ns := n1 :: ns) fun w hw => by
      rcases List.mem_cons.1 hw with rfl | hw
      · exact h1
      · exact hl w hw
    exact (((h2.word (fw_wd fl) (Stp.cons (by decide) _)).blank (b := 32) (by decide)).named hn).head (by decide) (by decide)
  | outl a nm o hn ho =>
    show LexTo (kw 4 ++ [32] ++ (nm ++ [32, 61]) ++ (32 :: txOl o) ++ [59] ++ l) (tkN (kw 4) :: ([tkN nm, tkS 61] ++ (tkOl o ++ [tkS 59])) ++ ts)
    simp only [List.append_assoc, List.cons_append, List.nil_append]
    exact (((h59.ol ho).blank (b := 32) (by decide)).named hn).head (by decide) (by decide)
  | lt a nm A hn hA =>
    show LexTo (kw 5 ++ [32] ++ (nm ++ [32, 61]) ++ (32 :: (exT A).txt) ++ [59] ++ l) (tkN (kw 5) :: ([tkN nm, tkS 61] ++ ((exT A).tks ++ [tkS 59])) ++ ts)
    simp only [List.append_assoc, List.cons_append, List.nil_append]
    exact (((h59.exB s59 hA).blank (b := 32) (by decide)).named hn).head (by decide) (by decide)
  | qry a k A hk hA =>
    have e1 : txS { stm0 k a with e1 := A } = kw k ++ [32] ++ [] ++ (exT A).txt ++ [59] := by
      rcases hk with rfl | rfl | rfl | rfl | rfl | rfl | rfl <;> rfl
    have e2 : tkSt { stm0 k a with e1 := A } = tkN (kw k) :: ([] ++ ((exT A).tks ++ [tkS 59])) := by
      rcases hk with rfl | rfl | rfl | rfl | rfl | rfl | rfl <;> rfl
    rw [e1, e2]
    simp only [List.append_assoc, List.cons_append, List.nil_append]
    exact (h59.exB s59 hA).head (by omega) (by omega)
  | cls a A p hA hp =>
    show LexTo (kw 8 ++ [32] ++ [] ++ ((exT A).txt ++ (32 :: txP ((RQ.of p.1).v, (RQ.of p.2).v))) ++ [59] ++ l) (tkN (kw 8) :: ([] ++ ((exT A).tks ++ tkP ((RQ.of p.1).v, (RQ.of p.2).v) ++ [tkS 59])) ++ ts)
    rw [RQ.of_v, RQ.of_v]
    simp only [List.append_assoc, List.cons_append, List.nil_append]
    exact (((h59.pt hp).blank (b := 32) (by decide)).exB (Stp.cons (by decide) _) hA).head (by decide) (by decide)
  | two a k A B hk hA hB =>
    have e1 : txS { stm0 k a with e1 := A, e2 := B } = kw k ++ [32] ++ [] ++ ((exT A).txt ++ ([44, 32] ++ (exT B).txt)) ++ [59] := by
      rcases hk with rfl | rfl <;> rfl
    have e2 : tkSt { stm0 k a with e1 := A, e2 := B } = tkN (kw k) :: ([] ++ ((exT A).tks ++ (tkS 44 :: (exT B).tks) ++ [tkS 59])) := by
      rcases hk with rfl | rfl <;> rfl
    rw [e1, e2]
    simp only [List.append_assoc, List.cons_append, List.nil_append]
    exact ((((h59.exB s59 hB).blank (b := 32) (by decide)).sgn (b := 44) (by decide)).exB (Stp.cons (by decide) _) hA).head (by omega) (by omega)
theorem gptsF_tk {ts : List Tok} (h : gis ts [40] = false) : ∀ (ps : List (Rat × Rat)) (f : Nat), ps ≠ [] → ps.length ≤ f → gptsF f (tkPs ps ++ ts) = .ok (ps, ts)
  | [], _, h0, _ => absurd rfl h0
  | p :: ps, 0, _, hf => by simp at hf
  | p :: ps, f + 1, _, hf => by
    have e : tkPs (p :: ps) ++ ts = tkP p ++ (tkPs ps ++ ts) := by
      unfold tkPs; rw [List.map_cons, List.flatten_cons, List.append_assoc]
    rw [e]
    unfold gptsF
    rw [gpt_tk]
    simp only
    cases ps with
    | nil =>
      rw [show tkPs [] ++ ts = ts from rfl, if_neg (by rw [h]; decide)]
    | cons q qs =>
      have hg : gis (tkPs (q :: qs) ++ ts) [40] = true := by
        unfold tkPs tkP
        rw [List.map_cons, List.flatten_cons, List.append_assoc, List.cons_append]
        rfl
      rw [if_pos hg, gptsF_tk h (q :: qs) f (by simp) (by simp only [List.length_cons] at hf ⊢; omega)]
theorem gpts_tk {ts : List Tok} (h : gis ts [40] = false) {ps : List (Rat × Rat)} (hp : PsB ps) : gpts (tkPs ps ++ ts) = .ok (ps, ts) :=
  gptsF_tk h ps gF hp.1 (by have := gF_eq; have := hp.2.1; omega)
theorem gname_tk {w : List UInt8} (h : nmOk w = true) (ts : List Tok) : gname (tkN w :: ts) = .ok (w, ts) := by
  unfold gname
  rw [if_pos ⟨rfl, (nmOk_wd h).2⟩]
  rfl
theorem gnamesF_tk {b : UInt8} {ts : List Tok} : ∀ (l : List (List UInt8)) (f : Nat), (∀ w ∈ l, nmOk w = true) → l.length ≤ f → gnamesF f (tkNs l ++ tkS b :: ts) = (l, tkS b :: ts)
  | [], 0, _, _ => rfl
  | [], f + 1, _, _ => by
    unfold gnamesF
    exact if_neg (fun h => by have h1 : (3 : Nat) = 1 := h.1; omega)
  | w :: l, 0, _, hf => by simp at hf
  | w :: l, f + 1, hw, hf => by
    have ih := gnamesF_tk (b := b) (ts := ts) l f (fun q hq => hw q (List.mem_cons_of_mem _ hq)) (by simp only [List.length_cons] at hf; omega)
    have e : tkNs (w :: l) ++ tkS b :: ts = tkN w :: (tkNs l ++ tkS b :: ts) := rfl
    rw [e]
    unfold gnamesF
    rw [if_pos (show (hd (tkN w :: (tkNs l ++ tkS b :: ts))).k = 1 ∧ resv (hd (tkN w :: (tkNs l ++ tkS b :: ts))).t = false from ⟨rfl, (nmOk_wd (hw w List.mem_cons_self)).2⟩)]
    simp only [List.tail_cons]
    rw [ih]
    rfl
theorem golF_cs {ts : List Tok} : ∀ (cs : List Chn) (f : Nat) (o : Otl), (∀ c ∈ cs, PtB c.a ∧ PtB c.b ∧ PsB c.m) → cs.length < f → golF f (tkCs cs ++ tkS 125 :: ts) o = .ok ({ o with cs := o.cs ++ cs }, ts)
  | [], 0, _, _, hf => by simp at hf
  | [], f + 1, o, _, _ => by
    unfold golF
    rw [if_pos (show gis (tkCs [] ++ tkS 125 :: ts) [125] = true from rfl), List.append_nil]
    rfl
  | c :: cs, 0, _, _, hf => by simp at hf
  | c :: cs, f + 1, o, hc, hf => by
    obtain ⟨ha, hb, hm⟩ := hc c List.mem_cons_self
    have e : tkCs (c :: cs) ++ tkS 125 :: ts = tkN [99, 104, 97, 105, 110] :: (tkP c.a ++ (tkPs (c.m ++ [c.b]) ++ (tkS 59 :: (tkCs cs ++ tkS 125 :: ts)))) := by
      unfold tkCs tkPs
      simp only [List.map_cons, List.flatten_cons, List.append_assoc, List.cons_append, List.nil_append, List.map_append, List.flatten_append, List.map_nil, List.flatten_nil]
    rw [e]
    have hl : (c.m ++ [c.b]).length = c.m.length + 1 := by simp
    have hpos : 0 < c.m.length := List.length_pos_iff.2 hm.1
    unfold golF
    rw [if_neg (by rw [gis_w (by decide)]; decide), if_neg (by rw [gis_w (by decide)]; decide), if_pos (show gis (tkN [99, 104, 97, 105, 110] :: (tkP c.a ++ (tkPs (c.m ++ [c.b]) ++ (tkS 59 :: (tkCs cs ++ tkS 125 :: ts))))) [99, 104, 97, 105, 110] = true from rfl)]
    simp only [List.tail_cons]
    rw [gpt_tk]
    simp only
    have hF := gF_eq
    have := hm.2.1
    unfold gpts
    rw [gptsF_tk (ts := tkS 59 :: (tkCs cs ++ tkS 125 :: ts)) rfl (c.m ++ [c.b]) gF (by simp) (by omega)]
    simp only
    rw [if_neg (by omega), gexpect_tk]
    simp only
    rw [golF_cs cs f _ (fun q hq => hc q (List.mem_cons_of_mem _ hq)) (by simp only [List.length_cons] at hf; omega)]
    have e1 : (c.m ++ [c.b]).getLast?.getD (0, 0) = c.b := by rw [List.getLast?_concat]; rfl
    have e2 : (c.m ++ [c.b]).dropLast = c.m := List.dropLast_concat
    rw [e1, e2]
    simp only [List.append_assoc, List.cons_append, List.nil_append]
theorem golF_rs {cs : List Chn} {ts : List Tok} (hc : ∀ c ∈ cs, PtB c.a ∧ PtB c.b ∧ PsB c.m) : ∀ (rs : List (List (Rat × Rat))) (f : Nat) (o : Otl), (∀ r ∈ rs, PsB r) → rs.length + cs.length < f → golF f (tkRs rs ++ (tkCs cs ++ tkS 125 :: ts)) o = .ok ({ o with rs := o.rs ++ rs, cs := o.cs ++ cs }, ts)
  | [], f, o, _, hf => by
    have h := golF_cs (ts := ts) cs f o hc (by simp at hf; omega)
    rw [show tkRs [] ++ (tkCs cs ++ tkS 125 :: ts) = tkCs cs ++ tkS 125 :: ts from rfl, h, List.append_nil]
  | r :: rs, 0, _, _, hf => by simp at hf
  | r :: rs, f + 1, o, hr, hf => by
    have hr0 := hr r List.mem_cons_self
    have e : tkRs (r :: rs) ++ (tkCs cs ++ tkS 125 :: ts) = tkN [114, 105, 110, 103] :: (tkPs r ++ (tkS 59 :: (tkRs rs ++ (tkCs cs ++ tkS 125 :: ts)))) := by
      unfold tkRs
      simp only [List.map_cons, List.flatten_cons, List.append_assoc, List.cons_append, List.nil_append]
    rw [e]
    unfold golF
    rw [if_neg (by rw [gis_w (by decide)]; decide), if_pos (show gis (tkN [114, 105, 110, 103] :: (tkPs r ++ (tkS 59 :: (tkRs rs ++ (tkCs cs ++ tkS 125 :: ts))))) [114, 105, 110, 103] = true from rfl)]
    simp only [List.tail_cons]
    rw [gpts_tk rfl hr0]
    simp only
    rw [gexpect_tk]
    simp only
    rw [golF_rs hc rs f _ (fun q hq => hr q (List.mem_cons_of_mem _ hq)) (by simp only [List.length_cons] at hf; omega)]
    simp only [List.append_assoc, List.cons_append, List.nil_append]
theorem goutl_tk {o : Otl} (ho : OlB o) (ts : List Tok) : goutl (tkOl o ++ ts) = .ok (o, ts) := by
  obtain ⟨⟨h1, h2⟩, h3, h4⟩ := ho
  have hF := gF_eq
  have h := fun b => golF_rs (ts := ts) h4 o.rs gF ⟨b, [], []⟩ h2 (by omega)
  unfold goutl tkOl
  simp only [List.append_assoc, List.cons_append, List.nil_append]
  rw [gexpect_tk]
  simp only
  obtain ⟨b, rs, cs⟩ := o
  cases b with
  | true =>
    simp only [if_true]
    rw [if_pos (show gis ([tkN [102, 97, 114]] ++ (tkRs rs ++ (tkCs cs ++ tkS 125 :: ts))) [102, 97, 114] = true from rfl)]
    exact h true
  | false =>
    simp only [Bool.false_eq_true, if_false, List.nil_append]
    rw [if_neg ?_]
    · exact h false
    · cases rs with
      | cons r rs => exact (by decide : ¬ (false = true))
      | nil =>
        cases cs with
        | cons c cs => exact (by decide : ¬ (false = true))
        | nil => exact (by decide : ¬ (false = true))
theorem gexpB_tk {A : List Nd} (hA : ExB A) {ts : List Tok} (h1 : gop 1 ts = 0) (h2 : gop 2 ts = 0) : ∃ B z, clrL B = clrL A ∧ gexp ((exT A).tks ++ ts) = .ok (B, z, ts) := by
  obtain ⟨x, g1, g2, g3, g4, g5⟩ := hA
  rw [exT_of g1, g2]
  exact gexp_tk g3 g4 g5 h1 h2
theorem gstm_kw {k : Nat} (h1 : 1 ≤ k) (h2 : k ≤ 15) (r : List Tok) : (hd (tkN (kw k) :: r)).t = kw k ∧ gkind (kw k) = k ∧ (gkQ (kw k) ≠ 0 ↔ 6 ≤ k) := by
  refine ⟨rfl, ?_⟩
  have : k = 1 ∨ k = 2 ∨ k = 3 ∨ k = 4 ∨ k = 5 ∨ k = 6 ∨ k = 7 ∨ k = 8 ∨ k = 9 ∨ k = 10 ∨ k = 11 ∨ k = 12 ∨ k = 13 ∨ k = 14 ∨ k = 15 := by omega
  rcases this with rfl | rfl | rfl | rfl | rfl | rfl | rfl | rfl | rfl | rfl | rfl | rfl | rfl | rfl | rfl <;> exact ⟨by decide, by decide⟩
theorem gstm_tk {n k : Nat} (hn : n < 1000) (h1 : 1 ≤ k) (h2 : k ≤ 15) {r ts : List Tok} {s : Stm}
    (h : (if 6 ≤ k then gquery (stm0 k (tkN (kw k))) r else if k = 1 then (match gbudget r with
        | .error e => .error e
        | .ok (b, t1) => .ok ({ stm0 1 (tkN (kw k)) with bd := b }, t1))
      else gdefn (stm0 k (tkN (kw k))) r) = .ok (s, tkS 59 :: ts)) : gstm n (tkN (kw k) :: r) = .ok (s, ts) := by
  obtain ⟨e1, e2, e3⟩ := gstm_kw h1 h2 r
  have e4 : (hd (tkN (kw k) :: r)).k = 1 := rfl
  have e5 : hd (tkN (kw k) :: r) = tkN (kw k) := rfl
  unfold gstm
  rw [e1, e2, if_neg (by rw [e4]; omega), if_neg (by omega), e5, List.tail_cons]
  by_cases h6 : 6 ≤ k
  · rw [if_pos h6] at h
    rw [if_pos (e3.2 h6), h]
    simp only
    rw [gexpect_tk]
  · rw [if_neg h6] at h
    rw [if_neg (fun h => h6 (e3.1 h))]
    have h' : (if k = 1 then (match gbudget r with
        | .error e => .error e
        | .ok (b, t1) => .ok ({ stm0 1 (tkN (kw k)) with bd := b }, t1))
      else gdefn (stm0 k (tkN (kw k))) r) = Except.ok (s, tkS 59 :: ts) := h
    refine Eq.trans (congrArg (fun z : Except Er (Stm × List Tok) => match z with
      | .error e => Except.error e
      | .ok (s, t1) => match gexpect [59] t1 with
        | .error e => Except.error e
        | .ok t2 => Except.ok (s, t2)) h') ?_
    simp only
    rw [gexpect_tk]
theorem st_tk {s : Stm} (hs : StB s) {n : Nat} (hn : n < 1000) (ts : List Tok) : ∃ s', s'.clr = s.clr ∧ gstm n (tkSt s ++ ts) = .ok (s', ts) := by
  cases hs with
  | bd a m hm =>
    show ∃ s', _ ∧ gstm n (tkN (kw 1) :: ([] ++ ([tkD (dec m)] ++ [tkS 59])) ++ ts) = _
    simp only [List.append_assoc, List.cons_append, List.nil_append]
    refine ⟨{ stm0 1 (tkN (kw 1)) with bd := m }, rfl, gstm_tk hn (by decide) (by decide) ?_⟩
    rw [if_neg (by decide), if_pos rfl]
    unfold gbudget
    rw [show gnum (tkD (dec m) :: tkS 59 :: ts) = .ok (dec m, tkS 59 :: ts) from rfl]
    simp only
    rw [dcv_dec, if_neg (by omega)]
  | ring a nm ps hnm hp =>
    show ∃ s', _ ∧ gstm n (tkN (kw 2) :: ([tkN nm, tkS 61] ++ (tkPs ps ++ [tkS 59])) ++ ts) = _
    simp only [List.append_assoc, List.cons_append, List.nil_append]
    refine ⟨{ stm0 2 (tkN (kw 2)) with nm := nm, ps := ps }, rfl, gstm_tk hn (by decide) (by decide) ?_⟩
    rw [if_neg (by decide), if_neg (by decide)]
    unfold gdefn
    rw [gname_tk hnm]
    simp only
    rw [gexpect_tk]
    simp only
    rw [if_pos (show (stm0 2 (tkN (kw 2))).k = 2 from rfl), gpts_tk rfl hp]
  | reg a nm fl n1 l hnm hf h1 hl hll =>
    show ∃ s', _ ∧ gstm n (tkN (kw 3) :: ([tkN nm, tkS 61] ++ ((tkN (fw fl) :: tkNs (n1 :: l)) ++ [tkS 59])) ++ ts) = _
    simp only [List.append_assoc, List.cons_append, List.nil_append]
    refine ⟨{ stm0 3 (tkN (kw 3)) with nm := nm, fl := fl, nms := n1 :: l }, rfl, gstm_tk hn (by decide) (by decide) ?_⟩
    rw [if_neg (by decide), if_neg (by decide)]
    unfold gdefn
    rw [gname_tk hnm]
    simp only
    rw [gexpect_tk]
    simp only
    have hfl : ∀ r, gfill (tkN (fw fl) :: r) = .ok (fl, r) := fun r => by rcases hf with rfl | rfl <;> rfl
    rw [if_neg (show ¬ (stm0 3 (tkN (kw 3))).k = 2 from by decide), if_pos (show (stm0 3 (tkN (kw 3))).k = 3 from rfl), hfl]
    simp only
    have hF := gF_eq
    rw [show tkNs (n1 :: l) ++ tkS 59 :: ts = tkN n1 :: (tkNs l ++ tkS 59 :: ts) from rfl, gname_tk h1]
    simp only
    rw [gnamesF_tk l gF hl (by omega)]
  | outl a nm o hnm ho =>
    show ∃ s', _ ∧ gstm n (tkN (kw 4) :: ([tkN nm, tkS 61] ++ (tkOl o ++ [tkS 59])) ++ ts) = _
    simp only [List.append_assoc, List.cons_append, List.nil_append]
    refine ⟨{ stm0 4 (tkN (kw 4)) with nm := nm, ol := o }, rfl, gstm_tk hn (by decide) (by decide) ?_⟩
    rw [if_neg (by decide), if_neg (by decide)]
    unfold gdefn
    rw [gname_tk hnm]
    simp only
    rw [gexpect_tk]
    simp only
    rw [if_neg (show ¬ (stm0 4 (tkN (kw 4))).k = 2 from by decide), if_neg (show ¬ (stm0 4 (tkN (kw 4))).k = 3 from by decide), if_pos (show (stm0 4 (tkN (kw 4))).k = 4 from rfl), goutl_tk ho]
  | lt a nm A hnm hA =>
    show ∃ s', _ ∧ gstm n (tkN (kw 5) :: ([tkN nm, tkS 61] ++ ((exT A).tks ++ [tkS 59])) ++ ts) = _
    simp only [List.append_assoc, List.cons_append, List.nil_append]
    obtain ⟨B, z, b1, b2⟩ := gexpB_tk hA (ts := tkS 59 :: ts) rfl rfl
    refine ⟨{ stm0 5 (tkN (kw 5)) with nm := nm, e1 := B }, ?_, gstm_tk hn (by decide) (by decide) ?_⟩
    · unfold Stm.clr
      simp only [b1]
      rfl
    rw [if_neg (by decide), if_neg (by decide)]
    unfold gdefn
    rw [gname_tk hnm]
    simp only
    rw [gexpect_tk]
    simp only
    rw [if_neg (show ¬ (stm0 5 (tkN (kw 5))).k = 2 from by decide), if_neg (show ¬ (stm0 5 (tkN (kw 5))).k = 3 from by decide), if_neg (show ¬ (stm0 5 (tkN (kw 5))).k = 4 from by decide), b2]
  | qry a k A hk hA =>
    have e2 : tkSt { stm0 k a with e1 := A } = tkN (kw k) :: ([] ++ ((exT A).tks ++ [tkS 59])) := by
      rcases hk with rfl | rfl | rfl | rfl | rfl | rfl | rfl <;> rfl
    rw [e2]
    simp only [List.append_assoc, List.cons_append, List.nil_append]
    obtain ⟨B, z, b1, b2⟩ := gexpB_tk hA (ts := tkS 59 :: ts) rfl rfl
    refine ⟨{ stm0 k (tkN (kw k)) with e1 := B }, ?_, gstm_tk hn (by omega) (by omega) ?_⟩
    · unfold Stm.clr
      simp only [b1]
      rfl
    rw [if_pos (by omega)]
    unfold gquery
    rw [b2]
    simp only
    have hk' : (stm0 k (tkN (kw k))).k = k := rfl
    rw [if_neg (by rw [hk']; omega), if_neg (by rw [hk']; omega)]
  | cls a A p hA hp =>
    show ∃ s', _ ∧ gstm n (tkN (kw 8) :: ([] ++ ((exT A).tks ++ tkP ((RQ.of p.1).v, (RQ.of p.2).v) ++ [tkS 59])) ++ ts) = _
    rw [RQ.of_v, RQ.of_v]
    simp only [List.append_assoc, List.cons_append, List.nil_append]
    obtain ⟨B, z, b1, b2⟩ := gexpB_tk hA (ts := tkP (p.1, p.2) ++ tkS 59 :: ts) rfl rfl
    refine ⟨{ stm0 8 (tkN (kw 8)) with e1 := B, px := RQ.of p.1, py := RQ.of p.2 }, ?_, gstm_tk hn (by decide) (by decide) ?_⟩
    · unfold Stm.clr
      simp only [b1]
      rfl
    rw [if_pos (by decide)]
    unfold gquery
    rw [b2]
    simp only
    rw [if_pos (show (stm0 8 (tkN (kw 8))).k = 8 from rfl), gpt_tk]
  | two a k A B hk hA hB =>
    have e2 : tkSt { stm0 k a with e1 := A, e2 := B } = tkN (kw k) :: ([] ++ ((exT A).tks ++ (tkS 44 :: (exT B).tks) ++ [tkS 59])) := by
      rcases hk with rfl | rfl <;> rfl
    rw [e2]
    simp only [List.append_assoc, List.cons_append, List.nil_append]
    obtain ⟨A', z, a1, a2⟩ := gexpB_tk hA (ts := tkS 44 :: ((exT B).tks ++ tkS 59 :: ts)) rfl rfl
    obtain ⟨B', z', b1, b2⟩ := gexpB_tk hB (ts := tkS 59 :: ts) rfl rfl
    refine ⟨{ stm0 k (tkN (kw k)) with e1 := A', e2 := B' }, ?_, gstm_tk hn (by omega) (by omega) ?_⟩
    · unfold Stm.clr
      simp only [a1, b1]
      rfl
    rw [if_pos (by omega)]
    unfold gquery
    rw [a2]
    simp only
    have hk' : (stm0 k (tkN (kw k))).k = k := rfl
    rw [if_neg (by rw [hk']; omega), if_pos (by rw [hk']; exact hk), gexpect_tk]
    simp only
    rw [b2]
def txSc (ss : List Stm) : List UInt8 := (ss.map fun s => txS s ++ [10]).flatten
def tkSc (ss : List Stm) : List Tok := (ss.map tkSt).flatten
theorem LexTo.sc : ∀ {ss : List Stm}, (∀ s ∈ ss, StB s) → LexTo (txSc ss) (tkSc ss ++ [t0])
  | [], _ => LexTo.nil
  | s :: ss, h => by
    have ih := LexTo.sc (ss := ss) fun q hq => h q (List.mem_cons_of_mem _ hq)
    unfold txSc tkSc at ih ⊢
    simp only [List.map_cons, List.flatten_cons, List.append_assoc, List.cons_append, List.nil_append]
    exact (ih.blank (b := 10) (by decide)).st (h s List.mem_cons_self)
theorem tkSt_hd (s : Stm) (r : List Tok) : (hd (tkSt s ++ r)).k = 1 := rfl
theorem stms_tk : ∀ (ss : List Stm) (f n : Nat), (∀ s ∈ ss, StB s) → n + ss.length ≤ 1000 → ss.length < f → ∃ ss', ss'.map Stm.clr = ss.map Stm.clr ∧ gstmsF f n (tkSc ss ++ [t0]) = .ok ss'
  | [], 0, _, _, _, hf => by simp at hf
  | [], f + 1, n, _, _, _ => ⟨[], rfl, rfl⟩
  | s :: ss, 0, _, _, _, hf => by simp at hf
  | s :: ss, f + 1, n, h, hn, hf => by
    simp only [List.length_cons] at hn hf
    obtain ⟨s', h1, h2⟩ := st_tk (h s List.mem_cons_self) (n := n) (by omega) (tkSc ss ++ [t0])
    obtain ⟨ss', h3, h4⟩ := stms_tk ss f (n + 1) (fun q hq => h q (List.mem_cons_of_mem _ hq)) (by omega) (by omega)
    refine ⟨s' :: ss', by rw [List.map_cons, List.map_cons, h1, h3], ?_⟩
    have e : tkSc (s :: ss) ++ [t0] = tkSt s ++ (tkSc ss ++ [t0]) := by
      unfold tkSc; rw [List.map_cons, List.flatten_cons, List.append_assoc]
    rw [e]
    unfold gstmsF
    rw [if_neg (by rw [tkSt_hd]; decide), h2]
    simp only
    rw [h4]
theorem texts_law {ss : List Stm} (h : ∀ s ∈ ss, StB s) (hl : ss.length ≤ 1000) : ∃ ss', gscript (txSc ss) = .ok ss' ∧ ss.map Stm.clr = ss'.map Stm.clr := by
  obtain ⟨us, h1, h2⟩ := LexTo.sc h ((txSc ss).length + 1) 1 1 (Nat.lt_succ_self _)
  have hG := (glex_ok (l := txSc ss) h1).1
  have hF := gF_eq
  obtain ⟨ss', h3, h4⟩ := stms_tk ss gF 0 h (by omega) (by omega)
  have hr := stms_nat (R := fun _ _ _ _ => True) gF 0 us _ hG h2
  rw [h4] at hr
  unfold gscript
  rw [show glex (txSc ss) = .ok us from h1]
  simp only
  generalize gstmsF gF 0 us = c at hr
  cases hr with
  | ok h => exact ⟨_, rfl, by rw [← h3, h]⟩
theorem put2W_pu {w b d : Nat} {l : List UInt8} {H : LH} (h : Wtr w l d H) (t u : List UInt8) (hl : l.length + t.length + u.length ≤ 1000000000) :
    PuH Tryz.prog 65 [lit (.pointer (some ⟨w, 0, none⟩)), lit (.slice (some ⟨b, 0, none⟩) 2 2)] ((b, 9, [str t, str u]) :: H) (fun r H' => r = Ab.tup [] ∧ Wtr w (l ++ (t ++ u)) d H') noX := by
  obtain ⟨a, s, Hb, ha, hb, rfl⟩ := h
  refine PuH.intro Tryz.func65 rfl (by kernel_rfl) fun C hC => ?_
  repeat (refine A1 ⟨?_⟩; intros)
  refine WP.unroll 3 ?_
  refine WPR.succ ?_
  repeat (refine A1 ⟨?_⟩; intros)
  refine WfT (writeString_pu ha hb t (by omega) d false) ?_
  rintro _ _ ⟨s', Hb', hb', rfl, rfl⟩
  simp only [List.cons_append, List.nil_append]
  repeat (refine A1 ⟨?_⟩; intros)
  refine WfT (writeString_pu (.inr rfl) hb' u (by rw [List.length_append]; omega) d false) ?_
  rintro _ _ ⟨s2, Hb2, hb2, rfl, rfl⟩
  simp only [List.cons_append, List.nil_append]
  repeat (refine A1 ⟨?_⟩; intros)
  rw [List.append_assoc] at hb2
  exact endHN _ _ end0 (List.Sublist.cons _ (List.Sublist.refl _)) ⟨rfl, _, _, _, .inr rfl, hb2, rfl⟩
theorem dec_dgs' {n m : Nat} (h : (dec n).length ≤ 9 * m) : (dgs n).length ≤ m := by
  have h1 := dcv_lt (dec_D n).1
  rw [dcv_dec] at h1
  have h2 : (10 : Nat) ^ (dec n).length ≤ 10 ^ (9 * m) := Nat.pow_le_pow_right (by omega) h
  have h3 : (10 : Nat) ^ (9 * m) ≤ 4294967296 ^ m := by
    rw [Nat.pow_mul]
    exact Nat.pow_le_pow_left (by omega) _
  exact len_le (Nat.lt_of_lt_of_le h1 (Nat.le_trans h2 h3))
theorem dec_dgs {n : Nat} (h : (dec n).length ≤ 1000) : (dgs n).length ≤ 112 := dec_dgs' (by omega)
theorem numB_ok {x : Rat} (h : NumB x) : (RQ.of x).ok 112 := ⟨D_dgs _, D_dgs _, dec_dgs h.1, dec_dgs h.2⟩
theorem nrmQ_ofR (x : Rat) : nrmQ (RQ.of x) = true := by
  unfold nrmQ
  rw [RQ.of_v]
  exact decide_eq_true ⟨rfl, rfl, rfl⟩
theorem ptW_pu {w d : Nat} {l : List UInt8} {H : LH} (h : Wtr w l d H) {p : Rat × Rat} (hp : PtB p) (hl : l.length ≤ 90000000) :
    PuH Tryz.prog 117 [lit (.pointer (some ⟨w, 0, none⟩)), ag (ptx p)] H (fun r H' => r = Ab.tup [] ∧ Wtr w (l ++ txP p) d H') noX := by
  have c := point_pu h (RQ.of p.1) (RQ.of p.2) (numB_ok hp.1) (numB_ok hp.2) (by omega) hl
  rw [nrmQ_ofR, nrmQ_ofR, txP_ptxt, RQ.of_v, RQ.of_v] at c
  exact c.mono (fun r H' h => ⟨h.2.1, h.2.2⟩) (fun pv H' h => by cases h.1)
theorem txPs_take {ps : List (Rat × Rat)} {k : Nat} {x : Rat × Rat} (h : ps[k]? = some x) : txPs (ps.take (k + 1)) = txPs (ps.take k) ++ (32 :: txP x) := by
  unfold txPs
  rw [List.take_add_one, h, Option.toList_some, List.map_append, List.flatten_append]
  simp only [List.map_cons, List.map_nil, List.flatten_cons, List.flatten_nil, List.append_nil]
theorem flat_take_le {α : Type} (f : α → List UInt8) (l : List α) (k : Nat) : ((l.take k).map f).flatten.length ≤ (l.map f).flatten.length := by
  conv => rhs; rw [← List.take_append_drop k l]
  rw [List.map_append, List.flatten_append, List.length_append]
  omega
theorem ptsW_pu {w d : Nat} {l : List UInt8} {H : LH} (h : Wtr w l d H) {ps : List (Rat × Rat)} (hps : PsB ps) (hl : l.length + (txPs ps).length ≤ 80000000) :
    PuH Tryz.prog 115 [lit (.pointer (some ⟨w, 0, none⟩)), ptsS ps] H (fun r H' => r = Ab.tup [] ∧ Wtr w (l ++ txPs ps) d H') noX := by
  obtain ⟨h0, h1, h2⟩ := hps
  have hpos : 0 < ps.length := List.length_pos_iff.2 h0
  refine PuH.intro Tryz.func115 rfl (by kernel_rfl) fun C hC => ?_
  repeat (refine A1 ⟨?_⟩; intros)
  refine WneedT ?_
  repeat (refine A1 ⟨?_⟩; intros)
  refine WP.loopS (ι := Nat × LH) (fun z => z.1 ≤ ps.length ∧ Wtr w (l ++ txPs (ps.take z.1)) d z.2) (fun z => ps.length - z.1)
    (fun z => (fm [(0, lit (.pointer (some ⟨w, 0, none⟩))), (10, ptsS ps), (11, lit (.int .i64 ps.length)), (12, lit (.int .i64 z.1))])) (fun z => z.2) (0, H)
    ⟨Nat.zero_le _, by rw [List.take_zero, show txPs [] = [] from rfl, List.append_nil]; exact h⟩ (by (repeat (first | exact LeF.nil _ | refine LeF.cons (Le.refl _) ?_ | refine LeF.cons (Le.int (by omega)) ?_))) (List.Sublist.refl _) ?_
  rintro ⟨k, Hx⟩ ⟨hk, hw⟩ K hK
  simp only at hk hw ⊢
  have hlk : (txPs (ps.take k)).length ≤ (txPs ps).length := flat_take_le _ ps k
  by_cases hkl : k < ps.length
  · have hget := List.getElem?_eq_getElem hkl
    generalize ps[k] = x at hget
    have hat := flat_at (f := ptx) (n := 6) ptx_len hget
    have hne : (ps.map ptx).flatten ≠ [] := flat_ne ptx_len (by omega) h0
    have hx := h2 x (List.mem_of_getElem? hget)
    have htk := txPs_take hget
    have hgo := fun F' H' H2 => hK F' H' (k + 1, H2)
    simp only at hgo
    clear hK hget
    have hlen : (l ++ txPs (ps.take k)).length = l.length + (txPs (ps.take k)).length := List.length_append
    repeat (refine A1 ⟨?_⟩; intros)
    refine Wo (ov_idxS (cs' := ptx x) rfl rfl (by omega) (by omega) hat hne) ?_
    repeat (refine A1 ⟨?_⟩; intros)
    refine WfH (putW_pu hw [32] (by show _ + 1 ≤ _; omega)) ?_
    rintro _ _ ⟨rfl, g1⟩
    refine WPL.perm List.perm_append_comm ?_
    simp only [List.cons_append, List.nil_append]
    repeat (refine A1 ⟨?_⟩; intros)
    refine WfH (ptW_pu g1 hx (by rw [List.length_append]; show _ + 1 ≤ _; omega)) ?_
    rintro _ Hg2 ⟨rfl, g2⟩
    refine WPL.perm List.perm_append_comm ?_
    simp only [List.cons_append, List.nil_append]
    repeat (refine A1 ⟨?_⟩; intros)
    refine hgo _ _ Hg2 ⟨by omega, ?_⟩ (by omega) (by (repeat (first | exact LeF.nil _ | refine LeF.cons (Le.refl _) ?_ | refine LeF.cons (Le.int (by omega)) ?_))) ?_
    · rw [htk, ← List.append_assoc]
      simp only [List.append_assoc, List.cons_append, List.nil_append] at g2 ⊢
      exact g2
    · repeat (first | exact List.Sublist.refl _ | exact List.sublist_append_left _ _ | refine List.Sublist.cons _ ?_)
  · obtain rfl : k = ps.length := by omega
    clear hK
    rw [List.take_length] at hw
    repeat (refine A1 ⟨?_⟩; intros)
    exact endHN _ _ end0 (List.Sublist.refl _) ⟨rfl, hw⟩
theorem nmW_pu {w d : Nat} {l : List UInt8} {H : LH} (h : Wtr w l d H) {s : List UInt8} (hs : nmOk s = true) (hl : l.length ≤ 100000000) :
    PuH Tryz.prog 113 [lit (.pointer (some ⟨w, 0, none⟩)), str s] H (fun r H' => r = Ab.tup [] ∧ Wtr w (l ++ s) d H') noX := by
  have hlen : s.length ≤ 24 := by
    obtain ⟨⟨b, r, -, -, -, h⟩, -⟩ := nmOk_wd hs
    exact h
  have c := nameW_pu h s (by omega) hl
  rw [hs] at c
  exact c.mono (fun r H' h => ⟨h.2.1, h.2.2⟩) (fun pv H' h => by cases h.1)
theorem zz_ok (L : Nat) : zz.ok L := ⟨fun _ h => (by cases h), fun _ h => (by cases h), Nat.zero_le _, Nat.zero_le _⟩
theorem fl_mem {n : Nd} : ∀ {x : Ex} {i : Nat}, x.wf → n.clr ∈ x.fl i → (n.nm.length ≤ 24 ∧ n.a.ok 112 ∧ n.b.ok 112 ∧ n.c.ok 112 ∧ n.e.ok 112) := by
  have hz := zz_ok 112
  intro x
  induction x with
  | leaf m =>
    intro i hw hn
    have e : n.clr = m.clr := List.mem_singleton.1 hn
    rcases hw with ⟨w, hw, e2⟩ | e2 | e2 | ⟨p, q, hp, hq, e2⟩
    · rw [e2] at e
      obtain ⟨-, e1, e3, e4, e5, e6⟩ := clr_k e
      rw [e1, e3, e4, e5, e6]
      obtain ⟨⟨b, r, -, -, -, h⟩, -⟩ := nmOk_wd hw
      exact ⟨h, hz, hz, hz, hz⟩
    · rw [e2] at e
      obtain ⟨-, e1, e3, e4, e5, e6⟩ := clr_k e
      rw [e1, e3, e4, e5, e6]
      exact ⟨Nat.zero_le _, hz, hz, hz, hz⟩
    · rw [e2] at e
      obtain ⟨-, e1, e3, e4, e5, e6⟩ := clr_k e
      rw [e1, e3, e4, e5, e6]
      exact ⟨Nat.zero_le _, hz, hz, hz, hz⟩
    · rw [e2] at e
      obtain ⟨-, e1, e3, e4, e5, e6⟩ := clr_k e
      rw [e1, e3, e4, e5, e6]
      exact ⟨Nat.zero_le _, numB_ok hp.1, numB_ok hp.2, numB_ok hq.1, numB_ok hq.2⟩
  | un m x ih =>
    intro i hw hn
    rcases List.mem_append.1 hn with hn | hn
    · exact ih hw.2 hn
    · have e := List.mem_singleton.1 hn
      obtain ⟨-, e1, e3, e4, e5, e6⟩ := clr_k e
      rw [e1, e3, e4, e5, e6]
      exact ⟨Nat.zero_le _, hz, hz, hz, hz⟩
  | bi m x y ihx ihy =>
    intro i hw hn
    rcases List.mem_append.1 hn with hn | hn
    · rcases List.mem_append.1 hn with hn | hn
      · exact ihx hw.2.2.1 hn
      · exact ihy hw.2.2.2 hn
    · have e := List.mem_singleton.1 hn
      obtain ⟨-, e1, e3, e4, e5, e6⟩ := clr_k e
      rw [e1, e3, e4, e5, e6]
      exact ⟨Nat.zero_le _, hz, hz, hz, hz⟩
theorem wf_good : ∀ {x : Ex}, x.wf → x.good = true
  | .leaf n, h => by
    unfold Ex.good
    rcases h with ⟨w, hw, e⟩ | e | e | ⟨p, q, hp, hq, e⟩
    · obtain ⟨e1, e2, -⟩ := clr_k e
      have k1 : n.k = 1 := e1
      rw [if_pos k1, show n.nm = w from e2, hw]
    · obtain ⟨e1, -⟩ := clr_k e
      have k1 : n.k = 2 := e1
      rw [if_neg (show ¬ n.k = 1 by omega), if_neg (show ¬ n.k = 4 by omega)]
    · obtain ⟨e1, -⟩ := clr_k e
      have k1 : n.k = 3 := e1
      rw [if_neg (show ¬ n.k = 1 by omega), if_neg (show ¬ n.k = 4 by omega)]
    · obtain ⟨e1, -, e3, e4, e5, e6⟩ := clr_k e
      have k1 : n.k = 4 := e1
      rw [if_neg (show ¬ n.k = 1 by omega), if_pos k1, e3, e4, e5, e6]
      show (nrmQ (RQ.of p.1) && nrmQ (RQ.of p.2) && (nrmQ (RQ.of q.1) && nrmQ (RQ.of q.2))) = true
      rw [nrmQ_ofR, nrmQ_ofR, nrmQ_ofR, nrmQ_ofR]; rfl
  | .un n x, h => wf_good (x := x) h.2
  | .bi n l r, h => by
    show (l.good && r.good) = true
    rw [wf_good h.2.2.1, wf_good h.2.2.2]; rfl
theorem exB_ok {A : List Nd} (h : ExB A) : (∀ n ∈ A, n.ok 112) ∧ okL A = true ∧ (exT A).At A (A.length - 1) ∧ (exT A).size = A.length ∧ (exT A).good = true ∧ (exT A).dep ≤ 200 ∧ A.length ≤ 60000 := by
  obtain ⟨x, h1, h2, h3, h4, h5⟩ := h
  have hl := fl_length h2
  have hs := stk_okL A
  rw [exT_of h1]
  rw [h1.1 []] at hs
  simp only at hs
  obtain ⟨g1, g2⟩ := hs
  obtain ⟨g3, g4⟩ := g2 _ _ _ rfl
  refine ⟨fun n hn => ?_, by rw [g1]; rfl, by rw [Nat.zero_add] at g3; exact g3, hl.symm, wf_good h3, h4, by omega⟩
  have hm : n.clr ∈ x.fl 0 := by rw [← h2]; exact List.mem_map_of_mem hn
  obtain ⟨q1, q2, q3, q4, q5⟩ := fl_mem h3 hm
  exact ⟨q2, q3, q4, q5, by omega⟩
theorem exW_pu {w d : Nat} {l : List UInt8} {H : LH} (h : Wtr w l d H) {A : List Nd} (hA : ExB A) (hl : l.length + (exT A).txt.length ≤ 70000000) :
    PuH Tryz.prog 107 [lit (.pointer (some ⟨w, 0, none⟩)), exS A] H (fun r H' => r = Ab.tup [] ∧ Wtr w (l ++ (exT A).txt) 0 H') noX := by
  obtain ⟨h1, h2, h3, h4, h5, h6, h7⟩ := exB_ok hA
  have c := expr_t h1 (by omega) (by omega) h h2 h3 h4 h6 hl
  rw [h5] at c
  exact c.mono (fun r H' h => ⟨h.2.1, h.2.2⟩) (fun pv H' h => by cases h.1)
theorem txRs_take {rs : List (List (Rat × Rat))} {k : Nat} {x : List (Rat × Rat)} (h : rs[k]? = some x) : txRs (rs.take (k + 1)) = txRs (rs.take k) ++ ([32, 114, 105, 110, 103] ++ (txPs x ++ [59])) := by
  unfold txRs
  rw [List.take_add_one, h, Option.toList_some, List.map_append, List.flatten_append]
  simp only [List.map_cons, List.map_nil, List.flatten_cons, List.flatten_nil, List.append_nil]
theorem txCs_take {cs : List Chn} {k : Nat} {c : Chn} (h : cs[k]? = some c) : txCs (cs.take (k + 1)) = txCs (cs.take k) ++ ([32, 99, 104, 97, 105, 110, 32] ++ (txP c.a ++ (txPs c.m ++ (32 :: (txP c.b ++ [59]))))) := by
  unfold txCs
  rw [List.take_add_one, h, Option.toList_some, List.map_append, List.flatten_append]
  simp only [List.map_cons, List.map_nil, List.flatten_cons, List.flatten_nil, List.append_nil]
theorem txPs_sub {ps : List (Rat × Rat)} {rs : List (List (Rat × Rat))} {k : Nat} (h : rs[k]? = some ps) : (txRs (rs.take k)).length + (txPs ps).length + 6 ≤ (txRs rs).length := by
  have h1 := flat_take_le (fun r => [32, 114, 105, 110, 103] ++ (txPs r ++ [59])) rs (k + 1)
  have h2 := congrArg List.length (txRs_take h)
  unfold txRs at h2 ⊢
  simp only [List.length_append, List.length_cons, List.length_nil] at h1 h2 ⊢
  omega
theorem txCs_sub {c : Chn} {cs : List Chn} {k : Nat} (h : cs[k]? = some c) : (txCs (cs.take k)).length + ((txP c.a).length + (txPs c.m).length + (txP c.b).length + 9) ≤ (txCs cs).length := by
  have h1 := flat_take_le (fun c : Chn => [32, 99, 104, 97, 105, 110, 32] ++ (txP c.a ++ (txPs c.m ++ (32 :: (txP c.b ++ [59]))))) cs (k + 1)
  have h2 := congrArg List.length (txCs_take h)
  unfold txCs at h2 ⊢
  simp only [List.length_append, List.length_cons, List.length_nil] at h1 h2 ⊢
  omega
set_option maxHeartbeats 8000000 in
theorem olW_pu {w d : Nat} {l : List UInt8} {H : LH} (h : Wtr w l d H) {o : Otl} (ho : OlB o) (hl : l.length + (txOl o).length ≤ 70000000) :
    PuH Tryz.prog 116 [lit (.pointer (some ⟨w, 0, none⟩)), ag [lit (.bool o.far), rgsS o.rs, chsS o.cs]] H (fun r H' => r = Ab.tup [] ∧ Wtr w (l ++ txOl o) d H') noX := by
  obtain ⟨far, rs, cs⟩ := o
  obtain ⟨⟨hr1, hr2⟩, hc1, hc2⟩ := ho
  simp only at hr1 hr2 hc1 hc2 ⊢
  obtain ⟨fb, hfb⟩ : ∃ fb : Bool, fb = far := ⟨_, rfl⟩
  obtain ⟨F0, hF⟩ : ∃ F0 : List UInt8, F0 = (if far = true then [32, 102, 97, 114] else []) := ⟨_, rfl⟩
  have htx : txOl ⟨far, rs, cs⟩ = 123 :: (F0 ++ (txRs rs ++ (txCs cs ++ [32, 125]))) := by rw [hF]; rfl
  rw [htx] at hl ⊢
  simp only [List.length_cons, List.length_append, List.length_nil] at hl
  clear htx
  cases far
  all_goals
    simp only [Bool.false_eq_true, if_false, if_true] at hF
    have hF4 : F0.length ≤ 4 := by rw [hF]; decide
    refine PuH.intro Tryz.func116 rfl (by kernel_rfl) fun C hC => ?_
    repeat (refine A1 ⟨?_⟩; intros)
    rename_i b3 b4
    refine WfH (putW_pu h [123] (by simp only [List.length_append, List.length_cons, List.length_nil]; omega)) ?_
    rintro _ Hg1 ⟨rfl, g1⟩
    refine WPL.perm List.perm_append_comm ?_
    simp only [List.cons_append, List.nil_append]
    repeat (refine A1 ⟨?_⟩; intros)
    try
      refine WfH (putW_pu g1 [32, 102, 97, 114] (by simp only [List.length_append, List.length_cons, List.length_nil]; omega)) ?_
      rintro _ _ ⟨rfl, g2⟩
      refine WPL.perm List.perm_append_comm ?_
      simp only [List.cons_append, List.nil_append]
      repeat (refine A1 ⟨?_⟩; intros)
    first
      | (rw [← hF] at g2; have hw := g2; clear g2)
      | (have hw := g1; rw [show l ++ [123] = l ++ [123] ++ F0 from by rw [hF, List.append_nil]] at hw)
    clear g1
    refine WP.lenS (d := 17) rfl fun hr => ?_
    refine WP.loopS (ι := Nat × LH) (fun z => z.1 ≤ rs.length ∧ Wtr w (l ++ [123] ++ F0 ++ txRs (rs.take z.1)) d z.2) (fun z => rs.length - z.1)
      (fun z => (fm [(0, lit (.pointer (some ⟨w, 0, none⟩))), (3, lit (.pointer (some ⟨b3, 0, none⟩))), (17, rgsS rs), (18, lit (.int .i64 rs.length)), (19, lit (.int .i64 z.1))])) (fun z => (b3, olT, [lit (.bool fb), rgsS rs, chsS cs]) :: z.2) (0, _)
      ⟨Nat.zero_le _, by rw [List.take_zero, show txRs [] = [] from rfl, List.append_nil]; exact hw⟩ (by (repeat (first | exact LeF.nil _ | refine LeF.cons (Le.refl _) ?_ | refine LeF.cons (Le.int (by omega)) ?_))) (by rw [hfb]; exact List.Sublist.refl _) ?_
    clear hw
    rintro ⟨k, Hx⟩ ⟨hk, hw⟩ K hK
    simp only at hk hw ⊢
    by_cases hkl : k < rs.length
    · have hget := List.getElem?_eq_getElem hkl
      generalize rs[k] = x at hget
      have hat := flat_at (f := rgx) (n := 1) rgx_len hget
      have hne : (rs.map rgx).flatten ≠ [] := flat_ne rgx_len (by omega) (fun e => by rw [e] at hkl; simp at hkl)
      have hx := hr2 x (List.mem_of_getElem? hget)
      have htk := txRs_take hget
      have hsub := txPs_sub hget
      have hgo := fun F' H' H2 => hK F' H' (k + 1, H2)
      simp only at hgo
      clear hK hget hr2 hc2 hF
      repeat (refine A1 ⟨?_⟩; intros)
      refine Wo (ov_idxS (cs' := rgx x) rfl rfl (by omega) (by omega) hat hne) ?_
      repeat (refine A1 ⟨?_⟩; intros)
      refine WfH (putW_pu hw [32, 114, 105, 110, 103] (by simp only [List.length_append, List.length_cons, List.length_nil]; omega)) ?_
      rintro _ Hg1 ⟨rfl, g1⟩
      refine WPL.perm List.perm_append_comm ?_
      simp only [List.cons_append, List.nil_append]
      repeat (refine A1 ⟨?_⟩; intros)
      refine WfH (ptsW_pu g1 hx (by simp only [List.length_append, List.length_cons, List.length_nil]; omega)) ?_
      rintro _ Hg2 ⟨rfl, g2⟩
      refine WPL.perm List.perm_append_comm ?_
      simp only [List.cons_append, List.nil_append]
      repeat (refine A1 ⟨?_⟩; intros)
      refine WfH (putW_pu g2 [59] (by simp only [List.length_append, List.length_cons, List.length_nil]; omega)) ?_
      rintro _ Hg3 ⟨rfl, g3⟩
      refine WPL.perm List.perm_append_comm ?_
      simp only [List.cons_append, List.nil_append]
      repeat (refine A1 ⟨?_⟩; intros)
      refine hgo _ _ Hg3 ⟨by omega, ?_⟩ (by omega) (by (repeat (first | exact LeF.nil _ | refine LeF.cons (Le.refl _) ?_ | refine LeF.cons (Le.int (by omega)) ?_))) ?_
      · rw [htk]
        simp only [List.append_assoc, List.cons_append, List.nil_append] at g3 ⊢
        exact g3
      · repeat (first | exact List.Sublist.refl _ | exact List.sublist_append_left _ _ | refine List.Sublist.cons _ ?_ | refine List.Sublist.cons_cons _ ?_)
    obtain rfl : k = rs.length := by omega
    clear hK hkl hk
    rw [List.take_length] at hw
    repeat (refine A1 ⟨?_⟩; intros)
    refine WP.lenS (d := 34) rfl fun hc => ?_
    refine WP.loopS (ι := Nat × LH) (fun z => z.1 ≤ cs.length ∧ Wtr w (l ++ [123] ++ F0 ++ txRs rs ++ txCs (cs.take z.1)) d z.2) (fun z => cs.length - z.1)
      (fun z => (fm [(0, lit (.pointer (some ⟨w, 0, none⟩))), (34, chsS cs), (35, lit (.int .i64 cs.length)), (36, lit (.int .i64 z.1))])) (fun z => z.2) (0, _)
      ⟨Nat.zero_le _, by rw [List.take_zero, show txCs [] = [] from rfl, List.append_nil]; exact hw⟩ (by (repeat (first | exact LeF.nil _ | refine LeF.cons (Le.refl _) ?_ | refine LeF.cons (Le.int (by omega)) ?_))) (by repeat (first | exact List.Sublist.refl _ | refine List.Sublist.cons _ ?_)) ?_
    clear hw
    rintro ⟨k, Hx⟩ ⟨hk, hw⟩ K hK
    simp only at hk hw ⊢
    by_cases hkl : k < cs.length
    · have hget := List.getElem?_eq_getElem hkl
      generalize cs[k] = x at hget
      have hat := flat_at (f := chx) (n := 13) chx_len hget
      have hne : (cs.map chx).flatten ≠ [] := flat_ne chx_len (by omega) (fun e => by rw [e] at hkl; simp at hkl)
      obtain ⟨hxa, hxb, hxm⟩ := hc2 x (List.mem_of_getElem? hget)
      have htk := txCs_take hget
      have hsub := txCs_sub hget
      have hgo := fun F' H' H2 => hK F' H' (k + 1, H2)
      simp only at hgo
      clear hK hget hr2 hc2 hF
      repeat (refine A1 ⟨?_⟩; intros)
      refine Wo (ov_idxS (cs' := chx x) rfl rfl (by omega) (by omega) hat hne) ?_
      repeat (refine A1 ⟨?_⟩; intros)
      refine WfH (putW_pu hw [32, 99, 104, 97, 105, 110, 32] (by simp only [List.length_append, List.length_cons, List.length_nil]; omega)) ?_
      rintro _ Hg1 ⟨rfl, g1⟩
      refine WPL.perm List.perm_append_comm ?_
      simp only [List.cons_append, List.nil_append]
      repeat (refine A1 ⟨?_⟩; intros)
      refine WfH (ptW_pu g1 hxa (by simp only [List.length_append, List.length_cons, List.length_nil]; omega)) ?_
      rintro _ Hg2 ⟨rfl, g2⟩
      refine WPL.perm List.perm_append_comm ?_
      simp only [List.cons_append, List.nil_append]
      repeat (refine A1 ⟨?_⟩; intros)
      refine WfH (ptsW_pu g2 hxm (by simp only [List.length_append, List.length_cons, List.length_nil]; omega)) ?_
      rintro _ Hg3 ⟨rfl, g3⟩
      refine WPL.perm List.perm_append_comm ?_
      simp only [List.cons_append, List.nil_append]
      repeat (refine A1 ⟨?_⟩; intros)
      refine WfH (putW_pu g3 [32] (by simp only [List.length_append, List.length_cons, List.length_nil]; omega)) ?_
      rintro _ Hg4 ⟨rfl, g4⟩
      refine WPL.perm List.perm_append_comm ?_
      simp only [List.cons_append, List.nil_append]
      repeat (refine A1 ⟨?_⟩; intros)
      refine WfH (ptW_pu g4 hxb (by simp only [List.length_append, List.length_cons, List.length_nil]; omega)) ?_
      rintro _ Hg5 ⟨rfl, g5⟩
      refine WPL.perm List.perm_append_comm ?_
      simp only [List.cons_append, List.nil_append]
      repeat (refine A1 ⟨?_⟩; intros)
      refine WfH (putW_pu g5 [59] (by simp only [List.length_append, List.length_cons, List.length_nil]; omega)) ?_
      rintro _ Hg6 ⟨rfl, g6⟩
      refine WPL.perm List.perm_append_comm ?_
      simp only [List.cons_append, List.nil_append]
      repeat (refine A1 ⟨?_⟩; intros)
      refine hgo _ _ Hg6 ⟨by omega, ?_⟩ (by omega) (by (repeat (first | exact LeF.nil _ | refine LeF.cons (Le.refl _) ?_ | refine LeF.cons (Le.int (by omega)) ?_))) ?_
      · rw [htk]
        simp only [List.append_assoc, List.cons_append, List.nil_append] at g6 ⊢
        exact g6
      · repeat (first | exact List.Sublist.refl _ | exact List.sublist_append_left _ _ | refine List.Sublist.cons _ ?_)
    obtain rfl : k = cs.length := by omega
    clear hK hkl hk
    rw [List.take_length] at hw
    repeat (refine A1 ⟨?_⟩; intros)
    refine WfH (putW_pu hw [32, 125] (by simp only [List.length_append, List.length_cons, List.length_nil]; omega)) ?_
    rintro _ Hg1 ⟨rfl, g1⟩
    refine WPL.perm List.perm_append_comm ?_
    simp only [List.cons_append, List.nil_append]
    repeat (refine A1 ⟨?_⟩; intros)
    refine endHN _ Hg1 end0 ?_ ⟨rfl, ?_⟩
    · repeat (first | exact List.Sublist.refl _ | exact List.sublist_append_left _ _ | refine List.Sublist.cons _ ?_)
    · simp only [List.append_assoc, List.cons_append, List.nil_append] at g1 ⊢
      exact g1
abbrev kws : List SV := [str [], str (kw 1), str (kw 2), str (kw 3), str (kw 4), str (kw 5), str (kw 6), str (kw 7), str (kw 8), str (kw 9), str (kw 10), str (kw 11), str (kw 12), str (kw 13), str (kw 14), str (kw 15)]
theorem gword_pu (k : Nat) (h1 : 1 ≤ k) (h2 : k ≤ 15) : Pu Tryz.prog 112 [lit (.int .i64 (k : Nat))] (str (kw k)) := by
  have : k = 1 ∨ k = 2 ∨ k = 3 ∨ k = 4 ∨ k = 5 ∨ k = 6 ∨ k = 7 ∨ k = 8 ∨ k = 9 ∨ k = 10 ∨ k = 11 ∨ k = 12 ∨ k = 13 ∨ k = 14 ∨ k = 15 := by omega
  rcases this with rfl | rfl | rfl | rfl | rfl | rfl | rfl | rfl | rfl | rfl | rfl | rfl | rfl | rfl | rfl
  all_goals
    refine Pu.intro Tryz.func112 rfl (by kernel_rfl) fun C => ?_
    repeat (refine A1 ⟨?_⟩; intros)
    refine Wo (ov_buildA (e := 9) (len := 16) (cs := kws) (by kernel_rfl) (by repeat (first | exact Parts.nil | (apply Parts.cons; exact Eq.refl (lit _); infer_instance))) (by exact rfl)) ?_
    repeat (refine A1 ⟨?_⟩; intros)
    refine Wo (ov_idxA (e := 9) (len := 16) (by kernel_rfl) rfl rfl (by omega) (by omega)) ?_
    repeat (refine A1 ⟨?_⟩; intros)
    exact endR (end1 (RV.tmp rfl) (Le.refl _))
open Go.Shelf
def itoaR : Ren where
  f := fun x => match x with
    | 243 => 164
    | 246 => 215
    | 283 => 264
    | 284 => 265
    | 285 => 266
    | 286 => 267
    | 129 => 317
    | 317 => 316
    | 318 => 318
    | 319 => 319
    | 320 => 320
    | 337 => 361
    | 338 => 362
    | n => n
  t := fun x => match x with
    | 3 => 3
    | 9 => 9
    | 2 => 2
    | 4 => 4
    | 171 => 347
    | 0 => 0
    | 53 => 255
    | 37 => 197
    | 5 => 5
    | 173 => 350
    | 212 => 400
    | 51 => 65
    | 20 => 20
    | 213 => 401
    | 46 => 188
    | 232 => 460
    | 233 => 461
    | n => n
  g := fun x => match x with
    | 17 => 8
    | 18 => 10
    | 19 => 11
    | n => n
theorem itoaL : LaysM.n243 Tryz.prog itoaR where
  mixed := by kernel_rfl
  f129 := Tryz.func317.trans (congrArg some (by kernel_rfl))
  f243 := Tryz.func164.trans (congrArg some (by kernel_rfl))
  f246 := Tryz.func215.trans (congrArg some (by kernel_rfl))
  f283 := Tryz.func264.trans (congrArg some (by kernel_rfl))
  f284 := Tryz.func265.trans (congrArg some (by kernel_rfl))
  f285 := Tryz.func266.trans (congrArg some (by kernel_rfl))
  f286 := Tryz.func267.trans (congrArg some (by kernel_rfl))
  f317 := Tryz.func316.trans (congrArg some (by kernel_rfl))
  f318 := Tryz.func318.trans (congrArg some (by kernel_rfl))
  f319 := Tryz.func319.trans (congrArg some (by kernel_rfl))
  f320 := Tryz.func320.trans (congrArg some (by kernel_rfl))
  f337 := Tryz.func361.trans (congrArg some (by kernel_rfl))
  f338 := Tryz.func362.trans (congrArg some (by kernel_rfl))
  t0 := Tryz.underlying0
  a0 := Tryz.isAgg0
  z0 := Tryz.sizeOf0
  v0 := Tryz.zeroValue0
  t2 := Tryz.underlying2
  a2 := Tryz.isAgg2
  z2 := Tryz.sizeOf2
  v2 := Tryz.zeroValue2
  t3 := Tryz.underlying3
  a3 := Tryz.isAgg3
  z3 := Tryz.sizeOf3
  v3 := Tryz.zeroValue3
  t4 := Tryz.underlying4
  a4 := Tryz.isAgg4
  z4 := Tryz.sizeOf4
  v4 := Tryz.zeroValue4
  t5 := Tryz.underlying5
  a5 := Tryz.isAgg5
  z5 := Tryz.sizeOf5
  v5 := Tryz.zeroValue5
  t9 := Tryz.underlying9
  a9 := Tryz.isAgg9
  z9 := Tryz.sizeOf9
  v9 := Tryz.zeroValue9
  t20 := Tryz.underlying20
  a20 := Tryz.isAgg20
  z20 := Tryz.sizeOf20
  v20 := Tryz.zeroValue20
  t37 := Tryz.underlying197
  a37 := Tryz.isAgg197
  z37 := Tryz.sizeOf197
  v37 := Tryz.zeroValue197
  t46 := Tryz.underlying188
  a46 := Tryz.isAgg188
  z46 := Tryz.sizeOf188
  v46 := Tryz.zeroValue188
  t51 := Tryz.underlying65
  a51 := Tryz.isAgg65
  z51 := Tryz.sizeOf65
  v51 := Tryz.zeroValue65
  t53 := Tryz.underlying255
  a53 := Tryz.isAgg255
  z53 := Tryz.sizeOf255
  v53 := Tryz.zeroValue255
  t171 := Tryz.underlying347
  a171 := Tryz.isAgg347
  z171 := Tryz.sizeOf347
  v171 := Tryz.zeroValue347
  t173 := Tryz.underlying350
  a173 := Tryz.isAgg350
  z173 := Tryz.sizeOf350
  v173 := Tryz.zeroValue350
  t212 := Tryz.underlying400
  a212 := Tryz.isAgg400
  z212 := Tryz.sizeOf400
  v212 := Tryz.zeroValue400
  t213 := Tryz.underlying401
  a213 := Tryz.isAgg401
  z213 := Tryz.sizeOf401
  t232 := Tryz.underlying460
  a232 := Tryz.isAgg460
  z232 := Tryz.sizeOf460
  v232 := Tryz.zeroValue460
  t233 := Tryz.underlying461
  a233 := Tryz.isAgg461
  z233 := Tryz.sizeOf461
  v233 := Tryz.zeroValue461
  g17 := by kernel_rfl
  g18 := by kernel_rfl
  g19 := by kernel_rfl
  i0 := by kernel_rfl
  i2 := by kernel_rfl
  i3 := by kernel_rfl
  i4 := by kernel_rfl
  i5 := by kernel_rfl
  i9 := by kernel_rfl
  i20 := by kernel_rfl
  i37 := by kernel_rfl
  i46 := by kernel_rfl
  i51 := by kernel_rfl
  i53 := by kernel_rfl
  i171 := by kernel_rfl
  i173 := by kernel_rfl
  i212 := by kernel_rfl
  i232 := by kernel_rfl
  i233 := by kernel_rfl
  m17 := by kernel_rfl
  m18 := by kernel_rfl
  m19 := by kernel_rfl
class PowTab : Prop where
  h : ∃ (T : TypeId) (fz : Nat × Nat), Base.mem 8 = some (.cells (Lib.pow10Tab.map fun z => Value.int .u64 z).toArray T fz)
theorem decDigits_dec (n : Nat) : Lib.decDigits n = dec n := by
  induction n using Nat.strongRecOn with
  | _ n ih =>
    rw [Lib.decDigits]
    by_cases h : n < 10
    · rw [dif_pos h]
      unfold dec
      by_cases h0 : n = 0
      · subst h0; rfl
      · rw [if_neg h0, decR_pos h0, show n / 10 = 0 by omega, decR_zero, Nat.mod_eq_of_lt h]; rfl
    · rw [dif_neg h, ih (n / 10) (by omega)]
      unfold dec
      rw [if_neg (by omega), if_neg (by omega), decR_pos (show n ≠ 0 by omega), List.reverse_cons]
theorem itoa_pu [t : PowTab] (n : Nat) (hn : n ≤ 1000000) : Pu Tryz.prog 164 [lit (.int .i64 (n : Nat))] (str (dec n)) := by
  unfold Pu
  refine ⟨by kernel_rfl, fun m w vs hm ha => ?_⟩
  obtain ⟨v0, rfl, h0⟩ : ∃ v0, vs = [v0] ∧ (lit (.int .i64 (n : Nat))).p m v0 := by
    match vs, ha with
    | [v0], ha => exact ⟨v0, rfl, ha.1⟩
  rw [lit_p] at h0
  subst h0
  obtain ⟨T, fz, hg⟩ := t.h
  have hg' := hm _ _ (hm.base _ _ hg)
  have hG := show _ = some 8 from itoaL.m17
  have hc := Go.Proofs.Any.internal_strconv_Itoa itoaL (n : Int) (by omega) (by omega) w (by
    unfold Lib.TabIs World.var?
    rw [hG]
    simp only [Option.bind_some, hg'])
  refine hc.mono fun e w' ⟨he, k, os, hw⟩ => ?_
  subst he
  subst hw
  have hi : Lib.itoa (n : Int) = dec n := by
    unfold Lib.itoa
    rw [if_neg (by omega), Int.toNat_natCast, decDigits_dec]
  rw [hi]
  have hlt : ∀ b, b < w.heap.size → (Go.Sort.grow (w.drewN k) os).heap[b]? = w.heap[b]? := fun b hb => by
    show (w.heap ++ os)[b]? = w.heap[b]?
    rw [Array.getElem?_append_left hb]
  refine ⟨_, m, rfl, lit_p.2 rfl, ⟨fun b o hb => ?_, hm.base⟩, ⟨Mem.le_refl m, fun _ _ _ => rfl, rfl, rfl, rfl, ?_, fun b hb _ => hlt b hb⟩⟩
  · have h := hm _ _ hb
    rw [hlt b (Array.getElem?_eq_some_iff.1 h).1]; exact h
  · show w.heap.size ≤ (w.heap ++ os).size
    rw [Array.size_append]; omega
theorem sitoa_pu [PowTab] (n : Nat) (hn : n ≤ 1000000) : Pu Tryz.prog 114 [lit (.int .i64 (n : Nat))] (str (dec n)) := by
  have c := itoa_pu n hn
  refine Pu.intro Tryz.func114 rfl (by kernel_rfl) fun C => ?_
  repeat (first | (refine A1 ⟨?_⟩; intros) | (refine Wcx (c) ?_) | (refine Wdcx (c) ?_) | (refine Wcgx (c) ?_) | (refine Wdcgx (c) ?_))
  ((first | refine endR ?_ | refine endN ?_); exact end1 (RV.tmp rfl) (Le.refl _))
end Go.Ab
namespace Go.Ab
open Go.Proofs
variable [Base]
set_option maxHeartbeats 32000000 in
theorem chk_pu {s : Stm} (hs : StB s) : PuH Tryz.prog 111 [ag (stx s)] [] (fun r H' => r = Ab.tup [] ∧ H' = []) noX := by
  have c0 : Pu Tryz.prog 161 [pr zz zz] (lit (.bool true)) := zeroPoint_pu zz zz (zz_ok 0) (zz_ok 0) (by omega)
  cases hs with
  | bd a n h =>
    have c1 := gword_pu 1 (by decide) (by decide)
    dsimp only [stx, stm0]
    refine PuH.intro Tryz.func111 rfl (by kernel_rfl) fun C hC => ?_
    repeat (first | (refine A1 ⟨?_⟩; intros) | (refine Wcx (c1) ?_) | (refine Wdcx (c1) ?_) | (refine Wcgx (c1) ?_) | (refine Wdcgx (c1) ?_))
    repeat (first | (refine A1 ⟨?_⟩; intros) | refine WneedT ?_ | refine Wc c0 ?_ | refine Wcg c0 ?_)
    exact endHN _ _ end0 (List.nil_sublist _) ⟨rfl, rfl⟩
  | ring a nm ps hn hp =>
    have c1 := gword_pu 2 (by decide) (by decide)
    dsimp only [stx, stm0]
    refine PuH.intro Tryz.func111 rfl (by kernel_rfl) fun C hC => ?_
    repeat (first | (refine A1 ⟨?_⟩; intros) | (refine Wcx (c1) ?_) | (refine Wdcx (c1) ?_) | (refine Wcgx (c1) ?_) | (refine Wdcgx (c1) ?_))
    repeat (first | (refine A1 ⟨?_⟩; intros) | refine WneedT ?_ | refine Wc c0 ?_ | refine Wcg c0 ?_)
    exact endHN _ _ end0 (List.nil_sublist _) ⟨rfl, rfl⟩
  | reg a nm fl n1 l hn hf h1 hl hll =>
    have c1 := gword_pu 3 (by decide) (by decide)
    dsimp only [stx, stm0]
    refine PuH.intro Tryz.func111 rfl (by kernel_rfl) fun C hC => ?_
    repeat (first | (refine A1 ⟨?_⟩; intros) | (refine Wcx (c1) ?_) | (refine Wdcx (c1) ?_) | (refine Wcgx (c1) ?_) | (refine Wdcgx (c1) ?_))
    repeat (first | (refine A1 ⟨?_⟩; intros) | refine WneedT ?_ | refine Wc c0 ?_ | refine Wcg c0 ?_)
    exact endHN _ _ end0 (List.nil_sublist _) ⟨rfl, rfl⟩
  | outl a nm o hn ho =>
    have c1 := gword_pu 4 (by decide) (by decide)
    dsimp only [stx, stm0]
    refine PuH.intro Tryz.func111 rfl (by kernel_rfl) fun C hC => ?_
    repeat (first | (refine A1 ⟨?_⟩; intros) | (refine Wcx (c1) ?_) | (refine Wdcx (c1) ?_) | (refine Wcgx (c1) ?_) | (refine Wdcgx (c1) ?_))
    repeat (first | (refine A1 ⟨?_⟩; intros) | refine WneedT ?_ | refine Wc c0 ?_ | refine Wcg c0 ?_)
    exact endHN _ _ end0 (List.nil_sublist _) ⟨rfl, rfl⟩
  | lt a nm A hn hA =>
    have c1 := gword_pu 5 (by decide) (by decide)
    dsimp only [stx, stm0]
    refine PuH.intro Tryz.func111 rfl (by kernel_rfl) fun C hC => ?_
    repeat (first | (refine A1 ⟨?_⟩; intros) | (refine Wcx (c1) ?_) | (refine Wdcx (c1) ?_) | (refine Wcgx (c1) ?_) | (refine Wdcgx (c1) ?_))
    repeat (first | (refine A1 ⟨?_⟩; intros) | refine WneedT ?_ | refine Wc c0 ?_ | refine Wcg c0 ?_)
    exact endHN _ _ end0 (List.nil_sublist _) ⟨rfl, rfl⟩
  | qry a k A hk hA =>
    rcases hk with rfl | rfl | rfl | rfl | rfl | rfl | rfl
    · have c1 := gword_pu 6 (by decide) (by decide)
      dsimp only [stx, stm0]
      refine PuH.intro Tryz.func111 rfl (by kernel_rfl) fun C hC => ?_
      repeat (first | (refine A1 ⟨?_⟩; intros) | (refine Wcx (c1) ?_) | (refine Wdcx (c1) ?_) | (refine Wcgx (c1) ?_) | (refine Wdcgx (c1) ?_))
      repeat (first | (refine A1 ⟨?_⟩; intros) | refine WneedT ?_ | refine Wc c0 ?_ | refine Wcg c0 ?_)
      exact endHN _ _ end0 (List.nil_sublist _) ⟨rfl, rfl⟩
    · have c1 := gword_pu 7 (by decide) (by decide)
      dsimp only [stx, stm0]
      refine PuH.intro Tryz.func111 rfl (by kernel_rfl) fun C hC => ?_
      repeat (first | (refine A1 ⟨?_⟩; intros) | (refine Wcx (c1) ?_) | (refine Wdcx (c1) ?_) | (refine Wcgx (c1) ?_) | (refine Wdcgx (c1) ?_))
      repeat (first | (refine A1 ⟨?_⟩; intros) | refine WneedT ?_ | refine Wc c0 ?_ | refine Wcg c0 ?_)
      exact endHN _ _ end0 (List.nil_sublist _) ⟨rfl, rfl⟩
    · have c1 := gword_pu 9 (by decide) (by decide)
      dsimp only [stx, stm0]
      refine PuH.intro Tryz.func111 rfl (by kernel_rfl) fun C hC => ?_
      repeat (first | (refine A1 ⟨?_⟩; intros) | (refine Wcx (c1) ?_) | (refine Wdcx (c1) ?_) | (refine Wcgx (c1) ?_) | (refine Wdcgx (c1) ?_))
      repeat (first | (refine A1 ⟨?_⟩; intros) | refine WneedT ?_ | refine Wc c0 ?_ | refine Wcg c0 ?_)
      exact endHN _ _ end0 (List.nil_sublist _) ⟨rfl, rfl⟩
    · have c1 := gword_pu 12 (by decide) (by decide)
      dsimp only [stx, stm0]
      refine PuH.intro Tryz.func111 rfl (by kernel_rfl) fun C hC => ?_
      repeat (first | (refine A1 ⟨?_⟩; intros) | (refine Wcx (c1) ?_) | (refine Wdcx (c1) ?_) | (refine Wcgx (c1) ?_) | (refine Wdcgx (c1) ?_))
      repeat (first | (refine A1 ⟨?_⟩; intros) | refine WneedT ?_ | refine Wc c0 ?_ | refine Wcg c0 ?_)
      exact endHN _ _ end0 (List.nil_sublist _) ⟨rfl, rfl⟩
    · have c1 := gword_pu 13 (by decide) (by decide)
      dsimp only [stx, stm0]
      refine PuH.intro Tryz.func111 rfl (by kernel_rfl) fun C hC => ?_
      repeat (first | (refine A1 ⟨?_⟩; intros) | (refine Wcx (c1) ?_) | (refine Wdcx (c1) ?_) | (refine Wcgx (c1) ?_) | (refine Wdcgx (c1) ?_))
      repeat (first | (refine A1 ⟨?_⟩; intros) | refine WneedT ?_ | refine Wc c0 ?_ | refine Wcg c0 ?_)
      exact endHN _ _ end0 (List.nil_sublist _) ⟨rfl, rfl⟩
    · have c1 := gword_pu 14 (by decide) (by decide)
      dsimp only [stx, stm0]
      refine PuH.intro Tryz.func111 rfl (by kernel_rfl) fun C hC => ?_
      repeat (first | (refine A1 ⟨?_⟩; intros) | (refine Wcx (c1) ?_) | (refine Wdcx (c1) ?_) | (refine Wcgx (c1) ?_) | (refine Wdcgx (c1) ?_))
      repeat (first | (refine A1 ⟨?_⟩; intros) | refine WneedT ?_ | refine Wc c0 ?_ | refine Wcg c0 ?_)
      exact endHN _ _ end0 (List.nil_sublist _) ⟨rfl, rfl⟩
    · have c1 := gword_pu 15 (by decide) (by decide)
      dsimp only [stx, stm0]
      refine PuH.intro Tryz.func111 rfl (by kernel_rfl) fun C hC => ?_
      repeat (first | (refine A1 ⟨?_⟩; intros) | (refine Wcx (c1) ?_) | (refine Wdcx (c1) ?_) | (refine Wcgx (c1) ?_) | (refine Wdcgx (c1) ?_))
      repeat (first | (refine A1 ⟨?_⟩; intros) | refine WneedT ?_ | refine Wc c0 ?_ | refine Wcg c0 ?_)
      exact endHN _ _ end0 (List.nil_sublist _) ⟨rfl, rfl⟩
  | cls a A p hA hp =>
    have c1 := gword_pu 8 (by decide) (by decide)
    dsimp only [stx, stm0]
    refine PuH.intro Tryz.func111 rfl (by kernel_rfl) fun C hC => ?_
    repeat (first | (refine A1 ⟨?_⟩; intros) | (refine Wcx (c1) ?_) | (refine Wdcx (c1) ?_) | (refine Wcgx (c1) ?_) | (refine Wdcgx (c1) ?_))
    repeat (first | (refine A1 ⟨?_⟩; intros) | refine WneedT ?_ | refine Wc c0 ?_ | refine Wcg c0 ?_)
    exact endHN _ _ end0 (List.nil_sublist _) ⟨rfl, rfl⟩
  | two a k A B hk hA hB =>
    rcases hk with rfl | rfl
    · have c1 := gword_pu 10 (by decide) (by decide)
      dsimp only [stx, stm0]
      refine PuH.intro Tryz.func111 rfl (by kernel_rfl) fun C hC => ?_
      repeat (first | (refine A1 ⟨?_⟩; intros) | (refine Wcx (c1) ?_) | (refine Wdcx (c1) ?_) | (refine Wcgx (c1) ?_) | (refine Wdcgx (c1) ?_))
      repeat (first | (refine A1 ⟨?_⟩; intros) | refine WneedT ?_ | refine Wc c0 ?_ | refine Wcg c0 ?_)
      exact endHN _ _ end0 (List.nil_sublist _) ⟨rfl, rfl⟩
    · have c1 := gword_pu 11 (by decide) (by decide)
      dsimp only [stx, stm0]
      refine PuH.intro Tryz.func111 rfl (by kernel_rfl) fun C hC => ?_
      repeat (first | (refine A1 ⟨?_⟩; intros) | (refine Wcx (c1) ?_) | (refine Wdcx (c1) ?_) | (refine Wcgx (c1) ?_) | (refine Wdcgx (c1) ?_))
      repeat (first | (refine A1 ⟨?_⟩; intros) | refine WneedT ?_ | refine Wc c0 ?_ | refine Wcg c0 ?_)
      exact endHN _ _ end0 (List.nil_sublist _) ⟨rfl, rfl⟩
end Go.Ab
