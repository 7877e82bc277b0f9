/- Texts laid one behind the other: ExTape, BndX, OpenB. -/
import Derived.Test.YtijejidpcfgioaaGreatDoorB23
import Derived.Test.YtijejidpcfgioaaGreatDoorB26
import Derived.Test.YtijejidpcfgioaaGreatDoorB19
import Derived.Test.YtijejidpcfgioaaGreatDoorB24
/- Expressions made of a tape: each is one printable expression. -/
namespace Go.Ab
open Go.Proofs
set_option linter.unusedSectionVars false
set_option linter.unusedVariables false
set_option linter.unusedSimpArgs false
variable [Base]
theorem stk_append (i : Nat) (A B : List Nd) : ∀ (i : Nat) (st : List (Ex × Nat)), stk (A ++ B) i st = match stk A i st with
    | some st' => stk B (i + A.length) st'
    | none => none := by
  induction A with
  | nil => intro i st; rfl
  | cons n A ih =>
    intro i st
    rw [List.cons_append, stk_cons, stk_cons]
    cases stp i n st with
    | none => rfl
    | some st' =>
      simp only
      rw [ih, List.length_cons, show i + 1 + A.length = i + (A.length + 1) by omega]
/-- a list of parts that is one printable expression, wherever it begins -/
structure Wr (ns : List Nd) (i : Nat) (t : Ex) : Prop where
  st : ∀ s, stk ns i s = some ((t, i + ns.length - 1) :: s)
  pos : 1 ≤ ns.length
  good : t.good = true
  ok : ∀ n ∈ ns, n.ok 20
  nm : ∀ n ∈ ns, n.nm.all (fun b => decide (clsN b.toNat = 3)) = true
  nq : ∀ n ∈ ns, n.k = 1 → ∃ k, k < 4 ∧ n.nm = [UInt8.ofNat (97 + k)]
theorem stk_one {n : Nd} {i : Nat} {s s' : List (Ex × Nat)} (h : stp i n s = some s') : stk [n] i s = some s' := by rw [stk_cons, h]; rfl
theorem Wr.leaf {n : Nd} {i : Nat} (h1 : okN n = true) (h5 : n.k ≠ 5) (h6 : n.k ≠ 6) (hg : (Ex.leaf n).good = true) (hok : n.ok 20) (hq : n.k = 1 → ∃ k, k < 4 ∧ n.nm = [UInt8.ofNat (97 + k)]) (hn : n.nm.all (fun b => decide (clsN b.toNat = 3)) = true := by rfl) : Wr [n] i (.leaf n) :=
  ⟨fun s => stk_one (by unfold stp; rw [if_pos h1, if_neg h5, if_neg h6]; rfl), Nat.le_refl _, hg, fun m hm => by rw [List.mem_singleton.1 hm]; exact hok, fun m hm => by rw [List.mem_singleton.1 hm]; exact hn, fun m hm => by rw [List.mem_singleton.1 hm]; exact hq⟩
theorem Wr.un {A : List Nd} {n : Nd} {i : Nat} {x : Ex} (h : Wr A i x) (h1 : okN n = true) (h5 : n.k = 5) (hx : n.x = (i + A.length : Nat) - 1) (hok : n.ok 20) (hn : n.nm.all (fun b => decide (clsN b.toNat = 3)) = true := by rfl) : Wr (A ++ [n]) i (.un n x) := by
  have hp := h.pos
  refine ⟨fun s => ?_, by simp, h.good, fun m hm => ?_, fun m hm => ?_, fun m hm => ?_⟩
  · rw [stk_append i, h.st]
    simp only
    rw [stk_one (s' := (.un n x, i + A.length) :: s) (by unfold stp; rw [if_pos h1, if_pos h5]; simp only; rw [if_pos (by omega)]), List.length_append, List.length_singleton, show i + (A.length + 1) - 1 = i + A.length by omega]
  · rcases List.mem_append.1 hm with hm | hm
    · exact h.ok m hm
    · rw [List.mem_singleton.1 hm]; exact hok
  · rcases List.mem_append.1 hm with hm | hm
    · exact h.nm m hm
    · rw [List.mem_singleton.1 hm]; exact hn
  · rcases List.mem_append.1 hm with hm | hm
    · exact h.nq m hm
    · rw [List.mem_singleton.1 hm]; exact fun e => by omega
theorem Wr.bi {A B : List Nd} {n : Nd} {i : Nat} {x y : Ex} (h : Wr A i x) (k : Wr B (i + A.length) y) (h1 : okN n = true) (h6 : n.k = 6) (hx : n.x = (i + A.length : Nat) - 1) (hy : n.y = (i + A.length + B.length : Nat) - 1) (hok : n.ok 20) (hn : n.nm.all (fun b => decide (clsN b.toNat = 3)) = true := by rfl) : Wr (A ++ B ++ [n]) i (.bi n x y) := by
  have hp := h.pos
  have kp := k.pos
  refine ⟨fun s => ?_, by simp; omega, by show (x.good && y.good) = true; rw [h.good, k.good]; rfl, fun m hm => ?_, fun m hm => ?_, fun m hm => ?_⟩
  · rw [stk_append i, stk_append i, h.st]
    simp only
    rw [k.st]
    simp only
    rw [List.length_append, stk_one (s' := (.bi n x y, i + (A.length + B.length)) :: s) (by unfold stp; rw [if_pos h1, if_neg (by omega), if_pos h6]; simp only; rw [if_pos ⟨by omega, by omega⟩]), List.length_append, List.length_append, List.length_singleton, show i + (A.length + B.length + 1) - 1 = i + (A.length + B.length) by omega]
  · rcases List.mem_append.1 hm with hm | hm
    · rcases List.mem_append.1 hm with hm | hm
      · exact h.ok m hm
      · exact k.ok m hm
    · rw [List.mem_singleton.1 hm]; exact hok
  · rcases List.mem_append.1 hm with hm | hm
    · rcases List.mem_append.1 hm with hm | hm
      · exact h.nm m hm
      · exact k.nm m hm
    · rw [List.mem_singleton.1 hm]; exact hn
  · rcases List.mem_append.1 hm with hm | hm
    · rcases List.mem_append.1 hm with hm | hm
      · exact h.nq m hm
      · exact k.nq m hm
    · rw [List.mem_singleton.1 hm]; exact fun e => by omega
theorem Wr.otx {ns : List Nd} {t : Ex} (h : Wr ns 0 t) : otx ns = some t.txt := by
  unfold Ab.otx
  rw [h.st]
  simp only
  rw [if_pos h.good]
abbrev z0 : RQ := ⟨false, [], []⟩
def unNd (x : Int) : Nd := ⟨5, [], z0, z0, z0, z0, 0, x, 0, 0, 0⟩
def aNd (k : Int) : Nd := ⟨k, [], z0, z0, z0, z0, 0, 0, 0, 0, 0⟩
def hNd (a b c e : Rat) : Nd := ⟨4, [], RQ.of a, RQ.of b, RQ.of c, RQ.of e, 0, 0, 0, 0, 0⟩
theorem z_ok {k : Int} {nm : List UInt8} {op x y : Int} (h : nm.length ≤ 100) : (⟨k, nm, z0, z0, z0, z0, op, x, y, 0, 0⟩ : Nd).ok 20 := ⟨zr_ok, zr_ok, zr_ok, zr_ok, h⟩
theorem okN_op {op x y : Int} (h1 : 1 ≤ op) (h4 : op ≤ 4) : okN (opNd op x y) = true := by
  unfold okN opNd; simp [zp, zq, h1, h4]
theorem okN_un {x : Int} : okN (unNd x) = true := by
  unfold okN unNd; simp [zp, zq]
theorem okN_a {k : Int} (h1 : 2 ≤ k) (h3 : k ≤ 3) : okN (aNd k) = true := by
  have : k = 2 ∨ k = 3 := by omega
  rcases this with rfl | rfl <;> rfl
theorem good_a {k : Int} (h1 : 2 ≤ k) (h3 : k ≤ 3) : (Ex.leaf (aNd k)).good = true := by
  have : k = 2 ∨ k = 3 := by omega
  rcases this with rfl | rfl <;> rfl
theorem okN_h {a b c e : Rat} : okN (hNd a b c e) = true := by
  unfold okN hNd; simp
theorem okN_nm {c : UInt8} : okN (nmNd c) = true := by
  unfold okN nmNd; simp [zp, zq]
theorem nrmQ_of (x : Rat) : nrmQ (RQ.of x) = true := by
  unfold nrmQ
  rw [RQ.of_v]
  exact decide_eq_true ⟨rfl, rfl, rfl⟩
theorem good_h {a b c e : Rat} : (Ex.leaf (hNd a b c e)).good = true := by
  show (if (4 : Int) = 1 then _ else if (4 : Int) = 4 then (nrmQ (RQ.of a) && nrmQ (RQ.of b) && (nrmQ (RQ.of c) && nrmQ (RQ.of e))) else true) = true
  rw [if_neg (by decide), if_pos rfl, nrmQ_of, nrmQ_of, nrmQ_of, nrmQ_of]; rfl
abbrev abcd : List SV := [str [97], str [98], str [99], str [100]]
theorem abcd_at {k : Nat} (h : k < 4) : abcd[k]? = some (str [UInt8.ofNat (97 + k)]) ∧ (Ex.leaf (nmNd (UInt8.ofNat (97 + k)))).good = true ∧ (nmNd (UInt8.ofNat (97 + k))).nm.all (fun b => decide (clsN b.toNat = 3)) = true := by
  have : k = 0 ∨ k = 1 ∨ k = 2 ∨ k = 3 := by omega
  rcases this with rfl | rfl | rfl | rfl <;> exact ⟨rfl, by decide +kernel, by decide +kernel⟩
theorem flat_snoc (l : List Nd) (n : Nd) : ((l ++ [n]).map ndx).flatten = (l.map ndx).flatten ++ ndx n := by
  rw [List.map_append, List.flatten_append]; simp only [List.map_cons, List.map_nil, List.flatten_cons, List.flatten_nil, List.append_nil]
theorem Own.snoc {T : TypeId} {l : List Nd} {n : Nd} {s : SV} {H : LH} (h : Own T 19 (l.length + 1) ((l.map ndx).flatten ++ ndx n) s H) : Own T 19 (l ++ [n]).length ((l ++ [n]).map ndx).flatten s H := by
  rw [flat_snoc, List.length_append, List.length_singleton]; exact h
abbrev exT : TypeId := 35
abbrev tpT : TypeId := 99
abbrev medP : SV := ex fun p : { p : Rat × Rat // ht p.1 ≤ 20 ∧ ht p.2 ≤ 20 } => rp p.1.1 p.1.2
theorem addT_pu {x y : Int} (hx : x.natAbs ≤ 4) (hy : y.natAbs ≤ 4) : Pu Tryz.prog 68 [rp (x : Rat) (y : Rat), smallR, intV] medP := by
  refine Pu.exAt' [rp (x : Rat) (y : Rat)] [intV] ⟨0, by have := ht_zero; omega⟩ fun q => ?_
  refine Pu.exAt' [rp (x : Rat) (y : Rat), rq q.1] [] ⟨(1, 0), ⟨by decide, by decide⟩, .inl (by decide)⟩ fun v => ?_
  obtain ⟨q, hq⟩ := q
  obtain ⟨⟨u, v⟩, ⟨hu, hv⟩, _⟩ := v
  simp only at hu hv
  have h1 := ht_i x (by omega)
  have h2 := ht_i y (by omega)
  have h3 := ht_i u (by omega)
  have h4 := ht_i v (by omega)
  have h5 := ht_mul q (u : Rat)
  have h6 := ht_mul q (v : Rat)
  have h7 := ht_add (x : Rat) (q * (u : Rat))
  have h8 := ht_add (y : Rat) (q * (v : Rat))
  exact (gadd_pu (x : Rat) (y : Rat) q (u : Rat) (v : Rat) (by omega) (by omega) (by omega) (by omega) (by omega)).le (Le.ex ⟨(_, _), by simp only; omega, by simp only; omega⟩ (Le.refl _))
def p0 : { p : Rat × Rat // ht p.1 ≤ 20 ∧ ht p.2 ≤ 20 } := ⟨(0, 0), by have := ht_zero; simp only; omega, by have := ht_zero; simp only; omega⟩
abbrev medQ : SV := ex fun p : { p : Rat × Rat // ht p.1 ≤ 20 ∧ ht p.2 ≤ 20 } => pq p.1.1 p.1.2
theorem toPT_pu : Pu Tryz.prog 67 [medP] medQ :=
  Pu.exAt [] [] ⟨(0, 0), by have := ht_zero; simp only; omega, by have := ht_zero; simp only; omega⟩ fun p => toP_pu p.1.1 p.1.2 (by have := p.2.1; omega) (by have := p.2.2; omega)
set_option maxHeartbeats 4000000 in
theorem expr1_pu (zs : List Int) (hz : zs.length ≤ 400) (b : Nat) : ∀ (m : Nat), m ≤ 100 → ∀ (ns : List Nd) (s : SV) (Hs : LH), ns.length ≤ 10000 - 50 * m → Own exT 19 ns.length (ns.map ndx).flatten s Hs →
    PuH Tryz.prog 48 [lit (.pointer (some ⟨b, 0, none⟩)), s, lit (.int .i64 m)] ((b, tpT, tapeC zs) :: Hs)
      (fun r H' => ∃ (t : Ex) (ns2 : List Nd) (Hs' : LH), H' = (b, tpT, tapeC zs) :: Hs' ∧ Own exT 19 (ns ++ ns2).length ((ns ++ ns2).map ndx).flatten r Hs' ∧ Wr ns2 ns.length t ∧ ns2.length ≤ 2 * m + 1) noX := by
  intro m
  induction m using Nat.strongRecOn with
  | _ m ih =>
    intro hm ns s Hs hns hown
    have hco := hown.co
    refine PuH.intro Tryz.func48 rfl (by kernel_rfl) fun C hC => ?_
    repeat (refine A1 ⟨?_⟩; intros)
    refine Wtx (next_pu zs hz 10 (by omega) (by omega)) (by (first | exact List.mem_cons_self | exact (List.mem_cons_of_mem _ List.mem_cons_self) | exact (List.mem_cons_of_mem _ (List.mem_cons_of_mem _ List.mem_cons_self)) | exact (List.mem_cons_of_mem _ (List.mem_cons_of_mem _ (List.mem_cons_of_mem _ List.mem_cons_self))) | exact (List.mem_cons_of_mem _ (List.mem_cons_of_mem _ (List.mem_cons_of_mem _ (List.mem_cons_of_mem _ List.mem_cons_self)))) | exact (List.mem_cons_of_mem _ (List.mem_cons_of_mem _ (List.mem_cons_of_mem _ (List.mem_cons_of_mem _ (List.mem_cons_of_mem _ List.mem_cons_self))))) | exact (List.mem_cons_of_mem _ (List.mem_cons_of_mem _ (List.mem_cons_of_mem _ (List.mem_cons_of_mem _ (List.mem_cons_of_mem _ (List.mem_cons_of_mem _ List.mem_cons_self)))))) | exact (List.mem_cons_of_mem _ (List.mem_cons_of_mem _ (List.mem_cons_of_mem _ (List.mem_cons_of_mem _ (List.mem_cons_of_mem _ (List.mem_cons_of_mem _ (List.mem_cons_of_mem _ List.mem_cons_self))))))))) fun k => ?_
    obtain ⟨k, hk⟩ := k
    simp only []
    refine WPL.viaS1 (fun F H => ∃ kk : Nat, kk < 10 ∧ (m = 0 → 6 ≤ kk) ∧ LeF F (fm [(0, lit (.pointer (some ⟨b, 0, none⟩))), (1, s), (2, lit (.int .i64 m)), (7, lit (.int .i64 kk))]) ∧ H = (b, tpT, tapeC zs) :: Hs) ?_ ?_
    · by_cases h0 : m = 0
      · by_cases h6 : k < 6
        · repeat (refine A1 ⟨?_⟩; intros)
          exact ⟨6, by omega, fun _ => by omega, by (repeat (first | exact LeF.nil _ | refine LeF.cons (Le.refl _) ?_ | refine LeF.cons (Le.int (by omega)) ?_)), rfl⟩
        · repeat (refine A1 ⟨?_⟩; intros)
          exact ⟨k, by omega, fun _ => by omega, by (repeat (first | exact LeF.nil _ | refine LeF.cons (Le.refl _) ?_ | refine LeF.cons (Le.int (by omega)) ?_)), rfl⟩
      · repeat (refine A1 ⟨?_⟩; intros)
        exact ⟨k, by omega, fun h => absurd h h0, by (repeat (first | exact LeF.nil _ | refine LeF.cons (Le.refl _) ?_ | refine LeF.cons (Le.int (by omega)) ?_)), rfl⟩
    rintro F H ⟨kk, hkk, h6, hF, rfl⟩
    refine WP.le hF ?_
    clear hF
    by_cases h4 : kk < 4
    · have hm1 : 1 ≤ m := by omega
      clear h6
      repeat (refine A1 ⟨?_⟩; intros)
      rw [show ((m : Int) - 1) / 2 = (((m - 1) / 2 : Nat) : Int) by omega]
      refine WfT (ih ((m - 1) / 2) (by omega) (by omega) ns s Hs (by omega) hown) ?_
      rintro s1 _ ⟨x, A, H1, rfl, hown1, hA, hAl⟩
      simp only [List.cons_append, List.nil_append]
      have hco1 := hown1.co
      have e1 : (ns ++ A).length = ns.length + A.length := List.length_append
      repeat (refine A1 ⟨?_⟩; intros)
      refine Wo (ov_lenOwn hown1 rfl) ?_
      repeat (refine A1 ⟨?_⟩; intros)
      rw [show ((m : Int) - 1) / 2 = (((m - 1) / 2 : Nat) : Int) by omega]
      refine WfT (ih ((m - 1) / 2) (by omega) (by omega) (ns ++ A) s1 H1 (by omega) hown1) ?_
      rintro s2 _ ⟨y, B, H2, rfl, hown2, hB, hBl⟩
      simp only [List.cons_append, List.nil_append]
      have hco2 := hown2.co
      have e2 : (ns ++ A ++ B).length = ns.length + A.length + B.length := by rw [List.length_append, e1]
      repeat (refine A1 ⟨?_⟩; intros)
      refine Wo (ov_lenOwn hown2 rfl) ?_
      repeat (refine A1 ⟨?_⟩; intros)
      refine WPL.lowB (HUpd.here _) (cs' := ndx (opNd (1 + (kk : Nat)) ((ns ++ A).length - 1) ((ns ++ A ++ B).length - 1))) (by simp only [opNd, unNd, aNd, nmNd]; repeat (first | exact trivial | refine ⟨?_, ?_⟩ | exact Le.refl _ | exact le_nil)) ?_
      refine Wown hown2 (by omega) (fun s' H' hown' => ?_)
      simp only [List.cons_append, List.nil_append]
      repeat (refine A1 ⟨?_⟩; intros)
      exact endHR _ _ (end1 (RV.tmp rfl) (Le.refl _)) (List.sublist_cons_self _ _) ⟨_, A ++ B ++ [opNd (1 + (kk : Nat)) ((ns ++ A).length - 1) ((ns ++ A ++ B).length - 1)], H', rfl, by rw [← List.append_assoc, ← List.append_assoc]; exact hown'.snoc,
        Wr.bi hA (by rw [← e1]; exact hB) (okN_op (by omega) (by omega)) rfl (by show ((ns ++ A).length : Int) - 1 = _; rw [e1]) (by show ((ns ++ A ++ B).length : Int) - 1 = _; rw [e2]) (z_ok (by decide)), by simp; omega⟩
    by_cases k6 : kk < 6
    · have hm1 : 1 ≤ m := by omega
      clear h6
      repeat (refine A1 ⟨?_⟩; intros)
      rw [show ((m : Int) - 1) = ((m - 1 : Nat) : Int) by omega]
      refine WfT (ih (m - 1) (by omega) (by omega) ns s Hs (by omega) hown) ?_
      rintro s1 _ ⟨x, A, H1, rfl, hown1, hA, hAl⟩
      simp only [List.cons_append, List.nil_append]
      have hco1 := hown1.co
      have e1 : (ns ++ A).length = ns.length + A.length := List.length_append
      repeat (refine A1 ⟨?_⟩; intros)
      refine Wo (ov_lenOwn hown1 rfl) ?_
      repeat (refine A1 ⟨?_⟩; intros)
      refine WPL.lowB (HUpd.here _) (cs' := ndx (unNd ((ns ++ A).length - 1))) (by simp only [opNd, unNd, aNd, nmNd]; repeat (first | exact trivial | refine ⟨?_, ?_⟩ | exact Le.refl _ | exact le_nil)) ?_
      refine Wown hown1 (by omega) (fun s' H' hown' => ?_)
      simp only [List.cons_append, List.nil_append]
      repeat (refine A1 ⟨?_⟩; intros)
      exact endHR _ _ (end1 (RV.tmp rfl) (Le.refl _)) (List.sublist_cons_self _ _) ⟨_, A ++ [unNd ((ns ++ A).length - 1)], H', rfl, by rw [← List.append_assoc]; exact hown'.snoc,
        Wr.un hA okN_un rfl (by show ((ns ++ A).length : Int) - 1 = _; rw [e1]) (z_ok (by decide)), by simp; omega⟩
    clear ih h6
    by_cases k6 : kk = 6
    · subst k6
      repeat (refine A1 ⟨?_⟩; intros)
      refine Wtx (next_pu zs hz 2 (by omega) (by omega)) (by (first | exact List.mem_cons_self | exact (List.mem_cons_of_mem _ List.mem_cons_self) | exact (List.mem_cons_of_mem _ (List.mem_cons_of_mem _ List.mem_cons_self)) | exact (List.mem_cons_of_mem _ (List.mem_cons_of_mem _ (List.mem_cons_of_mem _ List.mem_cons_self))) | exact (List.mem_cons_of_mem _ (List.mem_cons_of_mem _ (List.mem_cons_of_mem _ (List.mem_cons_of_mem _ List.mem_cons_self)))) | exact (List.mem_cons_of_mem _ (List.mem_cons_of_mem _ (List.mem_cons_of_mem _ (List.mem_cons_of_mem _ (List.mem_cons_of_mem _ List.mem_cons_self))))) | exact (List.mem_cons_of_mem _ (List.mem_cons_of_mem _ (List.mem_cons_of_mem _ (List.mem_cons_of_mem _ (List.mem_cons_of_mem _ (List.mem_cons_of_mem _ List.mem_cons_self)))))) | exact (List.mem_cons_of_mem _ (List.mem_cons_of_mem _ (List.mem_cons_of_mem _ (List.mem_cons_of_mem _ (List.mem_cons_of_mem _ (List.mem_cons_of_mem _ (List.mem_cons_of_mem _ List.mem_cons_self))))))))) fun k => ?_
      obtain ⟨k, hk⟩ := k
      simp only []
      repeat (refine A1 ⟨?_⟩; intros)
      refine WPL.lowB (HUpd.here _) (cs' := ndx (aNd (2 + (k : Nat)))) (by simp only [opNd, unNd, aNd, nmNd]; repeat (first | exact trivial | refine ⟨?_, ?_⟩ | exact Le.refl _ | exact le_nil)) ?_
      refine Wown hown (by omega) (fun s' H' hown' => ?_)
      simp only [List.cons_append, List.nil_append]
      repeat (refine A1 ⟨?_⟩; intros)
      exact endHR _ _ (end1 (RV.tmp rfl) (Le.refl _)) (List.sublist_cons_self _ _) ⟨_, [aNd (2 + (k : Nat))], H', rfl, hown'.snoc,
        Wr.leaf (okN_a (by omega) (by omega)) (show (2 + (k : Nat) : Int) ≠ 5 by omega) (show (2 + (k : Nat) : Int) ≠ 6 by omega) (good_a (by omega) (by omega)) (z_ok (by decide)) (fun e => absurd e (show (2 + (k : Nat) : Int) ≠ 1 by omega)), by simp⟩
    by_cases k7 : kk = 7
    · subst k7
      repeat (refine A1 ⟨?_⟩; intros)
      refine Wtx (tp_pu zs hz) (by (first | exact List.mem_cons_self | exact (List.mem_cons_of_mem _ List.mem_cons_self) | exact (List.mem_cons_of_mem _ (List.mem_cons_of_mem _ List.mem_cons_self)) | exact (List.mem_cons_of_mem _ (List.mem_cons_of_mem _ (List.mem_cons_of_mem _ List.mem_cons_self))) | exact (List.mem_cons_of_mem _ (List.mem_cons_of_mem _ (List.mem_cons_of_mem _ (List.mem_cons_of_mem _ List.mem_cons_self)))) | exact (List.mem_cons_of_mem _ (List.mem_cons_of_mem _ (List.mem_cons_of_mem _ (List.mem_cons_of_mem _ (List.mem_cons_of_mem _ List.mem_cons_self))))) | exact (List.mem_cons_of_mem _ (List.mem_cons_of_mem _ (List.mem_cons_of_mem _ (List.mem_cons_of_mem _ (List.mem_cons_of_mem _ (List.mem_cons_of_mem _ List.mem_cons_self)))))) | exact (List.mem_cons_of_mem _ (List.mem_cons_of_mem _ (List.mem_cons_of_mem _ (List.mem_cons_of_mem _ (List.mem_cons_of_mem _ (List.mem_cons_of_mem _ (List.mem_cons_of_mem _ List.mem_cons_self))))))))) fun p => ?_
      obtain ⟨⟨x, y⟩, hx, hy⟩ := p
      simp only at hx hy
      simp only []
      repeat (first | (refine AS ⟨?_⟩; intros) | (refine O1 ⟨?_⟩; intros))
      rename_i b9
      have c1 := toP_pu (x : Rat) (y : Rat) (by have := ht_i x (by omega); omega) (by have := ht_i y (by omega); omega)
      have c2 := addT_pu hx hy
      have c3 := toPT_pu
      refine WdN 12 ?_
      repeat (first | (refine A1 ⟨?_⟩; intros) | (refine Wcx (c1) ?_) | (refine Wdcx (c1) ?_) | (refine Wcgx (c1) ?_) | (refine Wdcgx (c1) ?_))
      refine Wdo (ov_callT (tq_pu zs hz) rfl (by (first | exact List.mem_cons_self | exact (List.mem_cons_of_mem _ List.mem_cons_self) | exact (List.mem_cons_of_mem _ (List.mem_cons_of_mem _ List.mem_cons_self)) | exact (List.mem_cons_of_mem _ (List.mem_cons_of_mem _ (List.mem_cons_of_mem _ List.mem_cons_self))) | exact (List.mem_cons_of_mem _ (List.mem_cons_of_mem _ (List.mem_cons_of_mem _ (List.mem_cons_of_mem _ List.mem_cons_self)))) | exact (List.mem_cons_of_mem _ (List.mem_cons_of_mem _ (List.mem_cons_of_mem _ (List.mem_cons_of_mem _ (List.mem_cons_of_mem _ List.mem_cons_self))))) | exact (List.mem_cons_of_mem _ (List.mem_cons_of_mem _ (List.mem_cons_of_mem _ (List.mem_cons_of_mem _ (List.mem_cons_of_mem _ (List.mem_cons_of_mem _ List.mem_cons_self)))))) | exact (List.mem_cons_of_mem _ (List.mem_cons_of_mem _ (List.mem_cons_of_mem _ (List.mem_cons_of_mem _ (List.mem_cons_of_mem _ (List.mem_cons_of_mem _ (List.mem_cons_of_mem _ List.mem_cons_self)))))))))) ?_
      repeat (refine A1 ⟨?_⟩; intros)
      refine Wdo (ov_callT (tv_pu zs hz) rfl (by (first | exact List.mem_cons_self | exact (List.mem_cons_of_mem _ List.mem_cons_self) | exact (List.mem_cons_of_mem _ (List.mem_cons_of_mem _ List.mem_cons_self)) | exact (List.mem_cons_of_mem _ (List.mem_cons_of_mem _ (List.mem_cons_of_mem _ List.mem_cons_self))) | exact (List.mem_cons_of_mem _ (List.mem_cons_of_mem _ (List.mem_cons_of_mem _ (List.mem_cons_of_mem _ List.mem_cons_self)))) | exact (List.mem_cons_of_mem _ (List.mem_cons_of_mem _ (List.mem_cons_of_mem _ (List.mem_cons_of_mem _ (List.mem_cons_of_mem _ List.mem_cons_self))))) | exact (List.mem_cons_of_mem _ (List.mem_cons_of_mem _ (List.mem_cons_of_mem _ (List.mem_cons_of_mem _ (List.mem_cons_of_mem _ (List.mem_cons_of_mem _ List.mem_cons_self)))))) | exact (List.mem_cons_of_mem _ (List.mem_cons_of_mem _ (List.mem_cons_of_mem _ (List.mem_cons_of_mem _ (List.mem_cons_of_mem _ (List.mem_cons_of_mem _ (List.mem_cons_of_mem _ List.mem_cons_self)))))))))) ?_
      repeat (first | (refine A1 ⟨?_⟩; intros) | (refine Wcx (c2) ?_) | (refine Wdcx (c2) ?_) | (refine Wcgx (c2) ?_) | (refine Wdcgx (c2) ?_) | (refine Wcx (c3) ?_) | (refine Wdcx (c3) ?_) | (refine Wcgx (c3) ?_) | (refine Wdcgx (c3) ?_))
      refine Wdo (OpV.exd 85 p0 rfl (g := fun p : { p : Rat × Rat // ht p.1 ≤ 20 ∧ ht p.2 ≤ 20 } => ag (ndx (hNd (x : Rat) (y : Rat) p.1.1 p.1.2))) fun p => Ov0) ?_
      refine Wdo (OpV.exd 86 p0 rfl (g := fun p : { p : Rat × Rat // ht p.1 ≤ 20 ∧ ht p.2 ≤ 20 } => sl (ndx (hNd (x : Rat) (y : Rat) p.1.1 p.1.2)) 1) fun p => ov_bsN (s := ag (ndx (hNd (x : Rat) (y : Rat) p.1.1 p.1.2))) rfl inferInstance) ?_
      repeat (refine A1 ⟨?_⟩; intros)
      refine WPL.exd (d := 87) rfl fun p => ?_
      obtain ⟨⟨u, v⟩, hu, hv⟩ := p
      simp only at hu hv
      simp only []
      refine WownS hown (Tk.skip _ (Tk.skip _ (Tk.same _))) (by omega) (fun s' H' hown' => ?_)
      simp only [List.cons_append, List.nil_append]
      repeat (refine A1 ⟨?_⟩; intros)
      exact endHR _ _ (end1 (RV.tmp rfl) (Le.refl _)) (List.sublist_cons_self _ _) ⟨_, [hNd (x : Rat) (y : Rat) u v], H', rfl, hown'.snoc,
        Wr.leaf okN_h (show (4 : Int) ≠ 5 by decide) (show (4 : Int) ≠ 6 by decide) good_h ⟨RQ.of_ok (by have := ht_i x (by omega); omega), RQ.of_ok (by have := ht_i y (by omega); omega), RQ.of_ok hu, RQ.of_ok hv, Nat.zero_le _⟩ (fun e => absurd e (show (4 : Int) ≠ 1 by decide)), by simp⟩
    · repeat (refine A1 ⟨?_⟩; intros)
      refine Wtx (next_pu zs hz 4 (by omega) (by omega)) (by (first | exact List.mem_cons_self | exact (List.mem_cons_of_mem _ List.mem_cons_self) | exact (List.mem_cons_of_mem _ (List.mem_cons_of_mem _ List.mem_cons_self)) | exact (List.mem_cons_of_mem _ (List.mem_cons_of_mem _ (List.mem_cons_of_mem _ List.mem_cons_self))) | exact (List.mem_cons_of_mem _ (List.mem_cons_of_mem _ (List.mem_cons_of_mem _ (List.mem_cons_of_mem _ List.mem_cons_self)))) | exact (List.mem_cons_of_mem _ (List.mem_cons_of_mem _ (List.mem_cons_of_mem _ (List.mem_cons_of_mem _ (List.mem_cons_of_mem _ List.mem_cons_self))))) | exact (List.mem_cons_of_mem _ (List.mem_cons_of_mem _ (List.mem_cons_of_mem _ (List.mem_cons_of_mem _ (List.mem_cons_of_mem _ (List.mem_cons_of_mem _ List.mem_cons_self)))))) | exact (List.mem_cons_of_mem _ (List.mem_cons_of_mem _ (List.mem_cons_of_mem _ (List.mem_cons_of_mem _ (List.mem_cons_of_mem _ (List.mem_cons_of_mem _ (List.mem_cons_of_mem _ List.mem_cons_self))))))))) fun k => ?_
      obtain ⟨k, hk⟩ := k
      simp only []
      repeat (refine A1 ⟨?_⟩; intros)
      refine Wo (ov_loadL rfl (by (first | exact List.mem_cons_self | exact (List.mem_cons_of_mem _ List.mem_cons_self) | exact (List.mem_cons_of_mem _ (List.mem_cons_of_mem _ List.mem_cons_self)) | exact (List.mem_cons_of_mem _ (List.mem_cons_of_mem _ (List.mem_cons_of_mem _ List.mem_cons_self))) | exact (List.mem_cons_of_mem _ (List.mem_cons_of_mem _ (List.mem_cons_of_mem _ (List.mem_cons_of_mem _ List.mem_cons_self)))) | exact (List.mem_cons_of_mem _ (List.mem_cons_of_mem _ (List.mem_cons_of_mem _ (List.mem_cons_of_mem _ (List.mem_cons_of_mem _ List.mem_cons_self))))) | exact (List.mem_cons_of_mem _ (List.mem_cons_of_mem _ (List.mem_cons_of_mem _ (List.mem_cons_of_mem _ (List.mem_cons_of_mem _ (List.mem_cons_of_mem _ List.mem_cons_self)))))) | exact (List.mem_cons_of_mem _ (List.mem_cons_of_mem _ (List.mem_cons_of_mem _ (List.mem_cons_of_mem _ (List.mem_cons_of_mem _ (List.mem_cons_of_mem _ (List.mem_cons_of_mem _ List.mem_cons_self))))))))) (abcd_at hk).1) ?_
      repeat (refine A1 ⟨?_⟩; intros)
      refine WPL.lowB (HUpd.here _) (cs' := ndx (nmNd (UInt8.ofNat (97 + k)))) (by simp only [opNd, unNd, aNd, nmNd]; repeat (first | exact trivial | refine ⟨?_, ?_⟩ | exact Le.refl _ | exact le_nil)) ?_
      refine Wown hown (by omega) (fun s' H' hown' => ?_)
      simp only [List.cons_append, List.nil_append]
      repeat (refine A1 ⟨?_⟩; intros)
      exact endHR _ _ (end1 (RV.tmp rfl) (Le.refl _)) (List.Sublist.cons _ (List.sublist_cons_self _ _)) ⟨_, [nmNd (UInt8.ofNat (97 + k))], H', rfl, hown'.snoc,
        Wr.leaf okN_nm (show (1 : Int) ≠ 5 by decide) (show (1 : Int) ≠ 6 by decide) (abcd_at hk).2.1 (z_ok (by simp)) (fun _ => ⟨k, hk, rfl⟩) (abcd_at hk).2.2, by simp⟩
theorem expression_pu (zs : List Int) (hz : zs.length ≤ 400) (b : Nat) : PuH Tryz.prog 24 [lit (.pointer (some ⟨b, 0, none⟩)), lit (.int .i64 9)] [(b, tpT, tapeC zs)]
    (fun r H' => ∃ (t : Ex) (ns : List Nd) (Hs' : LH), H' = (b, tpT, tapeC zs) :: Hs' ∧ Own exT 19 ns.length (ns.map ndx).flatten r Hs' ∧ Wr ns 0 t ∧ ns.length ≤ 19) noX := by
  have c := expr1_pu zs hz b 9 (by omega) [] (lit (.slice none 0 0)) [] (by simp) (Own.nil exT 19)
  refine PuH.intro Tryz.func24 rfl (by kernel_rfl) fun C hC => ?_
  repeat (refine A1 ⟨?_⟩; intros)
  refine WfT c ?_
  rintro s' _ ⟨t, ns, H1, rfl, h1, h2, h3⟩
  simp only [List.cons_append, List.nil_append]
  have hco := h1.co
  repeat (refine A1 ⟨?_⟩; intros)
  exact endHR _ _ (end1 (RV.tmp rfl) (Le.refl _)) (List.Sublist.refl _) ⟨t, ns, H1, rfl, h1, h2, by omega⟩
end Go.Ab
/- The law BoundExprs, walked. -/
namespace Go.Ab
open Go.Proofs
set_option linter.unusedSectionVars false
set_option linter.unusedVariables false
set_option linter.unusedSimpArgs false
variable [Base]
theorem pub_pre {m : Mem} {arr : Array Value} {b : Nat} {T : TypeId} {cs ds : List SV} {n c : Nat} (hm : m b = some (.cells arr T (0, 0))) (ha : All2 m (cs ++ ds) arr.toList) (h1 : n ≤ c) (h2 : c ≤ maxLen) : (sl cs n).p m (.slice (some ⟨b, 0, none⟩) n c) := by
  refine sl_mk h1 h2 (.inr ⟨b, 0, rfl, arr, T, (0, 0), hm, ?_⟩)
  rw [List.drop_zero]
  exact ha.split.1
def abca : List (List UInt8) := [[97], [98], [99], [97]]
theorem allB_of {ns : List Nd} {names : List (List UInt8)} {zs : List Int} {t : List UInt8} (ho : otx ns = some t) (hl : names.length = zs.length) : allB ns names zs = some (brun (envOf names zs) ns [] []) := if_neg (by rw [ho]; simp [hl])
set_option maxHeartbeats 4000000 in
theorem bexprs_pu [Sent 0] [Sent 1] [Sent 5] [Sent 4] (zs : List Int) (hz : zs.length ≤ 9223372036854775807) (sizes : List Int) (hr : ∀ z ∈ sizes, i64R z) (hs : sizes.length ≤ 9223372036854775807) : Pu Tryz.prog 6 [nsl .i64 zs, nsl .i64 sizes] (lit (.bool true)) := by
  have hk : (zs.take (min zs.length 400)).length ≤ 400 := by simp; omega
  have hnew := new_pu zs hz
  generalize zs.take (min zs.length 400) = ys at *
  have kn := known31
  have cn := is_pu 1
  clear hz
  obtain ⟨j, hj⟩ : ∃ j, j = min sizes.length 4 := ⟨_, rfl⟩
  have hnl : (abca.take j).length = j := by rw [List.length_take]; simp [abca]; omega
  have hsl : (sizes.take j).length = j := by rw [List.length_take]; omega
  have hrz : ∀ z ∈ sizes.take j, i64R z := fun z hz => hr z (List.mem_of_mem_take hz)
  have hsplit : (abca.take j).map str ++ (abca.drop j).map str = abca.map str := by rw [← List.map_append, List.take_append_drop]
  refine Pu.intro Tryz.func6 rfl (by kernel_rfl) fun C => ?_
  repeat (refine A1 ⟨?_⟩; intros)
  refine WPL.callN hnew rfl rfl fun b => ?_
  repeat (refine A1 ⟨?_⟩; intros)
  refine WfT (expression_pu ys hk b) ?_
  rintro s _ ⟨t, ns, H1, rfl, hown, hw, hl⟩
  simp only [List.cons_append, List.nil_append]
  have c1 := bexpr_pu ns hw.ok (by omega) (by omega) (abca.take j) (by omega) (sizes.take j) (by omega) hrz
  have c2 := bpeak_pu ns hw.ok (by omega) (by omega) (abca.take j) (by omega) (sizes.take j) (by omega) hrz
  have c3 := rbounds_pu ns hw.ok (by omega) (by omega) hw.otx (abca.take j) (by omega) (sizes.take j) (by rw [hnl, hsl]) hrz
  have ha := allB_of hw.otx (show (abca.take j).length = (sizes.take j).length by rw [hnl, hsl])
  rw [ha] at c1 c2
  have hout := fun out h => allB_out (out := out) hrz (ha.trans (congrArg some h))
  clear ha
  obtain ⟨hcl, ⟨h0, rfl, rfl⟩ | ⟨b2, c, hnc, hcm, rfl, rfl⟩⟩ := hown
  · have := hw.pos
    omega
  refine WPL.pub (d := 18) (s' := sl (ns.map ndx).flatten ns.length) (HDel.there _ (HDel.here _)) rfl (fun m arr h1 h2 => pub_ownL h1 h2 hnc hcm) ?_
  clear hw hcl hnc hcm hr
  repeat (refine A1 ⟨?_⟩; intros)
  refine Wo (ov_min rfl rfl (r := (j : Int)) (by split <;> omega)) ?_
  refine Wo (ov_slTL j rfl rfl rfl (by omega)) ?_
  refine WPL.pub (d := 23) (s' := sl ((abca.take j).map str) (abca.take j).length) (HDel.here _) rfl (fun m arr h1 h2 => by rw [hnl]; exact pub_pre (ds := (abca.drop j).map str) h1 (by rw [hsplit]; exact h2) (by omega) (by decide)) ?_
  repeat (refine A1 ⟨?_⟩; intros)
  refine Wo (ov_sliceN (i := 0) (j := j) rfl (fun _ h => by cases h) (fun _ => rfl) (fun y h => ⟨_, _, by cases h; exact rfl, by rw [hnl]⟩) (fun h => by cases h) (by omega) (by omega) rfl) ?_
  rw [List.drop_zero]
  cases hb : brun (envOf (abca.take j) (sizes.take j)) ns [] [] with
  | none =>
    rw [hb] at c1 c2 c3
    unfold exR at c1
    unfold pkR at c2
    simp only at c1 c2
    repeat (first | (refine A1 ⟨?_⟩; intros) | (refine Wcx (c1) ?_) | (refine Wdcx (c1) ?_) | (refine Wcgx (c1) ?_) | (refine Wdcgx (c1) ?_) | (refine Wcx (c2) ?_) | (refine Wdcx (c2) ?_) | (refine Wcgx (c2) ?_) | (refine Wdcgx (c2) ?_))
    refine WfT c3 ?_
    rintro _ _ ⟨⟨i, hi, rfl⟩, rfl⟩
    repeat (first | (refine A1 ⟨?_⟩; intros) | (refine Wcx (kn) ?_) | (refine Wdcx (kn) ?_) | (refine Wcgx (kn) ?_) | (refine Wdcgx (kn) ?_) | (refine Wcx (cn) ?_) | (refine Wdcx (cn) ?_) | (refine Wcgx (cn) ?_) | (refine Wdcgx (cn) ?_))
    ((first | refine endR ?_ | refine endN ?_); exact end1 (RV.tmp rfl) (Le.refl _))
  | some out =>
    rw [hb] at c1 c2 c3
    obtain ⟨o1, o2, o3⟩ := hout out hb
    unfold exR at c1
    unfold pkR at c2
    simp only at c1 c2
    repeat (first | (refine A1 ⟨?_⟩; intros) | (refine Wcx (c1) ?_) | (refine Wdcx (c1) ?_) | (refine Wcgx (c1) ?_) | (refine Wdcgx (c1) ?_) | (refine Wcx (c2) ?_) | (refine Wdcx (c2) ?_) | (refine Wcgx (c2) ?_) | (refine Wdcgx (c2) ?_))
    refine WfT c3 ?_
    rintro _ H3 ⟨s3, rfl, hown3⟩
    obtain ⟨b3, c4, hnc, hcm, rfl, rfl⟩ := hown3.blk o2
    simp only [List.cons_append, List.nil_append]
    (refine O1 ⟨?_⟩; intros)
    (refine O1 ⟨?_⟩; intros)
    refine WPL.pub (d := 47) (s' := nsl .i64 (out.map Int.ofNat)) (HDel.there _ (HDel.here _)) rfl (fun m arr h1 h2 => ints_pub h1 h2 hnc hcm) ?_
    repeat (refine A1 ⟨?_⟩; intros)
    have hlen : (out.map Int.ofNat).length = out.length := List.length_map ..
    have hgd : ∀ k, (out.map Int.ofNat).getD k 0 = ((out.getD k 0 : Nat) : Int) := fun k => by simp [List.getD, List.getElem?_map]; cases out[k]? <;> rfl
    have hgm : ∀ k, out.getD k 0 ≤ 9223372036854775807 := fun k => by
      by_cases hk : k < out.length
      · rw [List.getD, List.getElem?_eq_getElem hk]; exact o3 _ (List.getElem_mem hk)
      · rw [List.getD, List.getElem?_eq_none (by omega)]; decide
    have hlm : ∀ k, lmax (out.take k) ≤ 9223372036854775807 := fun k => lmax_le fun x hx => o3 x (List.mem_of_mem_take hx)
    have hstep : ∀ k, k < out.length → lmax (out.take (k + 1)) = max (lmax (out.take k)) (out.getD k 0) := fun k hk => by
      rw [List.take_add_one, List.getD, List.getElem?_eq_getElem hk]; exact lmax_snoc _ _
    have hlast := hgd (out.length - 1)
    have hlastm := hgm (out.length - 1)
    generalize out.getD (out.length - 1) 0 = z at *
    refine WP.loopS (ι := Nat) (fun k => k ≤ out.length) (fun k => out.length - k)
      (fun k => fm [(7, lit (.int .i64 (z : Nat))), (8, lit .nilIface), (9, lit (.int .i64 (lmax out : Nat))), (10, lit .nilIface), (11, nsl .i64 (out.map Int.ofNat)), (13, lit (.int .i64 (lmax (out.take k) : Nat))), (70, nsl .i64 (out.map Int.ofNat)), (71, lit (.int .i64 (out.map Int.ofNat).length)), (72, lit (.int .i64 k))]) (fun _ => []) 0 (Nat.zero_le _) (by rw [List.take_zero]; (repeat (first | exact LeF.nil _ | refine LeF.cons (Le.refl _) ?_ | refine LeF.cons (Le.int (by omega)) ?_))) (List.nil_sublist _) ?_
    clear hout c1 c2 c3 hb
    rintro k hk K hK
    by_cases hkl : k < out.length
    · have hs := hstep k hkl
      have hgo := fun F' H' (h : LeF F' (fm [(7, lit (.int .i64 (z : Nat))), (8, lit .nilIface), (9, lit (.int .i64 (lmax out : Nat))), (10, lit .nilIface), (11, nsl .i64 (out.map Int.ofNat)), (13, lit (.int .i64 (lmax (out.take (k + 1)) : Nat))), (70, nsl .i64 (out.map Int.ofNat)), (71, lit (.int .i64 (out.map Int.ofNat).length)), (72, lit (.int .i64 (k + 1 : Nat)))])) (h2 : [].Sublist H') => hK F' H' (k + 1) (by omega) (by omega) h h2
      rw [hs] at hgo
      have hg := hgd k
      have m1 := hgm k
      have m2 := hlm k
      clear hK hgd hgm hlm hstep hs hlast
      generalize out.getD k 0 = x at *
      generalize lmax (out.take k) = y at *
      repeat (refine A1 ⟨?_⟩; intros)
      rw [hg]
      refine Wo (ov_max rfl rfl (r := ((max y x : Nat) : Int)) (by split <;> omega)) ?_
      repeat (refine A1 ⟨?_⟩; intros)
      exact hgo _ _ (by (repeat (first | exact LeF.nil _ | refine LeF.cons (Le.refl _) ?_ | refine LeF.cons (Le.int (by omega)) ?_))) (List.nil_sublist _)
    · obtain rfl : k = out.length := by omega
      rw [List.take_length]
      clear hK hgd hgm hlm hstep
      repeat (first | (refine A1 ⟨?_⟩; intros) | (refine Wcx (kn) ?_) | (refine Wdcx (kn) ?_) | (refine Wcgx (kn) ?_) | (refine Wdcgx (kn) ?_))
      rw [show ((out.map Int.ofNat).length : Int) - 1 = ((out.length - 1 : Nat) : Int) by omega]
      refine Wog (ov_idxN (i := out.length - 1) rfl rfl (by omega)) ?_
      rw [hlast]
      repeat (refine A1 ⟨?_⟩; intros)
      ((first | refine endR ?_ | refine endN ?_); exact end1 (RV.tmp rfl) (Le.refl _))
end Go.Ab
/- Reading bytes and lists of ints: their bounds. -/
namespace Go.Ab
open Go.Proofs
set_option linter.unusedSectionVars false
set_option linter.unusedVariables false
set_option linter.unusedSimpArgs false
variable [Base]
open Go.ChangeShapes Go.WideShapes Go.ChangeAt Go.RowKit
theorem gint_u8 {l : List SV} (h : GInt .u8 l) : ∃ z, (0 ≤ z ∧ z ≤ 255) ∧ l = [lit (.int .u8 z)] := by
  obtain ⟨z, hz, rfl⟩ := h
  refine ⟨z, ?_, rfl⟩
  simp only [Lit.wf, IntKind.min, IntKind.max, IntKind.signed, IntKind.bits, Bool.and_eq_true, decide_eq_true_eq] at hz
  simp at hz
  omega
theorem ints_i64 {zs : List Int} (h : ∀ z ∈ zs, Lit.wf (.int .i64 z) = true) : ∀ z ∈ zs, i64R z := by
  intro z hm
  have hz := h z hm
  simp only [Lit.wf, IntKind.min, IntKind.max, IntKind.signed, IntKind.bits, Bool.and_eq_true, decide_eq_true_eq] at hz
  unfold i64R
  simp at hz
  omega
end Go.Ab
