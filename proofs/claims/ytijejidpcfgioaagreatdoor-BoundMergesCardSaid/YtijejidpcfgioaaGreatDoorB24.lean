/- Texts laid one behind the other: BndK, Open, RowKit, LaidKit, ExprOpen. -/
import Derived.Test.YtijejidpcfgioaaGreatDoorB23
import Derived.Test.YtijejidpcfgioaaGreatDoorB03
import Derived.ProofKit
import Derived.OpenShut
import Derived.ChangeOld
import Derived.Below
import Derived.OpenVars
import Derived.Deep.Slices
import Derived.Test.YtijejidpcfgioaaGreatDoorB13
import Derived.WalkKit
import Derived.Test.YtijejidpcfgioaaGreatDoorB14
import Derived.Stop.LaidErr
import Derived.LaidMore
import Derived.Deep.DeepHandedRow
import Derived.Deep.DeepWitnessRowRef
/- The bounds' sanity check; BoundNumbers and BoundMerges, walked. -/
namespace Go.Ab
open Go.Proofs
set_option linter.unusedSectionVars false
set_option linter.unusedVariables false
set_option linter.unusedSimpArgs false
variable [Base]
def kText : List UInt8 := [97, 32, 42, 32, 98]
def kToks : List Tok := [⟨1, [97], 1, 1⟩, ⟨3, [42], 1, 3⟩, ⟨1, [98], 1, 5⟩, ⟨0, [], 1, 6⟩]
def kNs : List Nd := [ndN ⟨1, [97], 1, 1⟩, ndN ⟨1, [98], 1, 5⟩, ndB 2 0 1 ⟨3, [42], 1, 3⟩]
theorem kLex : lexT kText = some kToks := by kernel_rfl
theorem kPrs : prsAll kToks = some (kNs, .bi (ndB 2 0 1 ⟨3, [42], 1, 3⟩) (.leaf (ndN ⟨1, [97], 1, 1⟩)) (.leaf (ndN ⟨1, [98], 1, 5⟩))) := by kernel_rfl
theorem kNs_ok : ∀ n ∈ kNs, n.ok 4 := by
  intro n hn
  simp only [kNs, List.mem_cons, List.not_mem_nil, or_false] at hn
  rcases hn with rfl | rfl | rfl <;> exact ⟨zr_ok, zr_ok, zr_ok, zr_ok, by decide⟩
theorem kAll : allB kNs [[97], [98]] [4, 3] = some (some [4, 3, 19]) := by decide +kernel
theorem i64_43 : ∀ z ∈ [(4 : Int), 3], i64R z := by
  intro z hz
  simp only [List.mem_cons, List.not_mem_nil, or_false] at hz
  unfold i64R
  omega
theorem known31 [Sent 0] [Sent 1] [Sent 5] [Sent 4] : Pu Tryz.prog 12 [] (lit (.bool true)) := by
  have c := parseExpr_pu kText (by decide) (by decide)
  have ce := bexpr_pu kNs kNs_ok (by omega) (by decide) [[97], [98]] (by decide) [4, 3] (by decide) i64_43
  have cb := build_pu 3 (by unfold i64R; omega)
  rw [show tri (3 : Int).toNat = 6 from by decide] at cb
  rw [kAll] at ce
  unfold exR at ce
  simp only at ce
  refine Pu.intro Tryz.func12 rfl (by kernel_rfl) fun C => ?_
  repeat (refine A1 ⟨?_⟩; intros)
  refine WfT c ?_
  rintro r H' hr
  unfold prR at hr
  rw [kLex] at hr
  simp only [kPrs] at hr
  obtain ⟨s, rfl, hown⟩ := hr
  obtain ⟨b1, c1, hnc, hcm, rfl, rfl⟩ := hown.blk (by decide)
  repeat (refine A1 ⟨?_⟩; intros)
  simp only [List.nil_append]
  refine WpubS 11 rfl (HDel.there _ (HDel.here _)) (by omega) (by omega) ?_
  refine WpubS 12 rfl (HDel.here _) (by omega) (by omega) ?_
  refine WPL.low 12 rfl (s' := nsl .i64 [4, 3]) (Le.of_eq (by unfold nsl; rfl)) ?_
  refine WPL.pub (d := 10) (s' := sl (kNs.map ndx).flatten kNs.length) (HDel.here _) rfl (fun m arr h1 h2 => pub_ownL h1 h2 hnc hcm) ?_
  repeat (first | (refine A1 ⟨?_⟩; intros) | (refine Wcx (ce) ?_) | (refine Wdcx (ce) ?_) | (refine Wcgx (ce) ?_) | (refine Wdcgx (ce) ?_) | (refine Wcx (cb) ?_) | (refine Wdcx (cb) ?_) | (refine Wcgx (cb) ?_) | (refine Wdcgx (cb) ?_))
  ((first | refine endR ?_ | refine endN ?_); exact end1 (RV.tmp rfl) (Le.refl _))
theorem tmod4 (z : Int) : -3 ≤ z.tmod 4 ∧ z.tmod 4 ≤ 3 := by
  have h1 := Int.tmod_lt_of_pos z (show (0 : Int) < 4 by decide)
  have h2 := Int.lt_tmod_of_pos z (show (0 : Int) < 4 by decide)
  omega
def mNs (o : Int) : List Nd := [nmNd 97, nmNd 98, opNd o 0 1]
theorem mNs_ok (o : Int) : ∀ n ∈ mNs o, n.ok 4 := by
  intro n hn
  simp only [mNs, List.mem_cons, List.not_mem_nil, or_false] at hn
  rcases hn with rfl | rfl | rfl <;> exact ⟨zr_ok, zr_ok, zr_ok, zr_ok, by simp [nmNd, opNd]⟩
theorem mNs_all (o m n : Int) (h1 : 1 ≤ o) (h4 : o ≤ 4) : allB (mNs o) [[97], [98]] [m, n] = some (some [m.toNat, n.toNat, bnd m.toNat n.toNat]) := by
  have : o = 1 ∨ o = 2 ∨ o = 3 ∨ o = 4 := by omega
  rcases this with rfl | rfl | rfl | rfl
  all_goals
    unfold allB
    rw [if_neg (fun h => h.elim (by decide +kernel) (fun h => h rfl))]
    exact congrArg some (by kernel_rfl)
theorem merges_pu [Sent 0] [Sent 1] [Sent 5] [Sent 4] (m n op : Int) (hm : i64R m) (hn : i64R n) : Pu Tryz.prog 4 [lit (.int .i64 m), lit (.int .i64 n), lit (.int .i64 op)] (lit (.bool true)) := by
  have kn := known31
  have cb := mbound_pu m n hm hn
  have t1 := tmod4 op
  obtain ⟨r1, hr1⟩ : ∃ r1, op.tmod 4 = r1 := ⟨_, rfl⟩
  rw [hr1] at t1
  have hr2 : (r1 + 4).tmod 4 = (r1 + 4) % 4 := Int.tmod_eq_emod_of_nonneg (by omega)
  have ce := bexpr_pu (mNs (1 + (r1 + 4) % 4)) (mNs_ok _) (by omega) (by simp [mNs]) [[97], [98]] (by decide) [m, n] (by simp) (by intro z hz; simp only [List.mem_cons, List.not_mem_nil, or_false] at hz; rcases hz with rfl | rfl <;> assumption)
  rw [mNs_all _ m n (by omega) (by omega)] at ce
  unfold exR at ce
  simp only at ce
  change Pu _ _ _ (Ab.tup [lit (.int .i64 (bnd m.toNat n.toNat : Nat)), lit .nilIface]) at ce
  generalize bnd m.toNat n.toNat = q at *
  refine Pu.intro Tryz.func4 rfl (by kernel_rfl) fun C => ?_
  repeat (refine AS ⟨?_⟩; intros)
  (refine O1 ⟨?_⟩; intros)
  repeat (refine AS ⟨?_⟩; intros)
  (refine O1 ⟨?_⟩; intros)
  (refine O1 ⟨?_⟩; intros)
  (refine O1 ⟨?_⟩; intros)
  refine Wo (ov_rem rfl rfl (by omega) hr1) ?_
  (refine O1 ⟨?_⟩; intros)
  refine Wo (ov_rem rfl rfl (by omega) hr2) ?_
  repeat (refine A1 ⟨?_⟩; intros)
  refine WpubS 20 rfl (HDel.there _ (HDel.there _ (HDel.here _))) (by omega) (by omega) ?_
  refine WPL.low 20 rfl (Le.slL (b := ((mNs (1 + (r1 + 4) % 4)).map ndx).flatten) ?_) ?_
  · simp only [mNs, nmNd, opNd, List.map_cons, List.map_nil, List.flatten_cons, List.flatten_nil, List.cons_append, List.nil_append]
    repeat (first | exact trivial | refine ⟨?_, ?_⟩ | exact Le.refl _ | exact le_nil)
  refine WpubS 21 rfl (HDel.there _ (HDel.here _)) (by omega) (by omega) ?_
  refine WpubS 24 rfl (HDel.here _) (by omega) (by omega) ?_
  refine WPL.low 24 rfl (s' := nsl .i64 [m, n]) (Le.of_eq (by unfold nsl; rfl)) ?_
  repeat (first | (refine A1 ⟨?_⟩; intros) | (refine Wcx (ce) ?_) | (refine Wdcx (ce) ?_) | (refine Wcgx (ce) ?_) | (refine Wdcgx (ce) ?_) | (refine Wcx (kn) ?_) | (refine Wdcx (kn) ?_) | (refine Wcgx (kn) ?_) | (refine Wdcgx (kn) ?_) | (refine Wcx (cb) ?_) | (refine Wdcx (cb) ?_) | (refine Wcgx (cb) ?_) | (refine Wdcgx (cb) ?_))
  ((first | refine endR ?_ | refine endN ?_); exact end1 (RV.tmp rfl) (Le.refl _))
theorem merges2_pu [Sent 0] [Sent 1] [Sent 5] [Sent 4] (m : Int) (hm : i64R m) (n : Int) (hn : i64R n) (op : Int) (_ : i64R op) : Pu Tryz.prog 4 [lit (.int .i64 m), lit (.int .i64 n), lit (.int .i64 op)] (lit (.bool true)) := merges_pu m n op hm hn
end Go.Ab
/- From the reading of a law's arguments to what the abstract machine says of them; the frame of a law's row. -/
namespace Go.Ab
open Go.Proofs
set_option linter.unusedSectionVars false
set_option linter.unusedVariables false
set_option linter.unusedSimpArgs false
variable [Base]
open Go.ChangeShapes Go.WideShapes Go.ChangeAt Go.RowKit
section
variable {H : Type} {enc : TypeId × Value → H} {P : Program} {w : World} {sp : Nat → Bool} {held : Bool}
/-- the memory that lies there when a law is called -/
def memOf (w : World) : Mem := fun b => w.heap[b]?
theorem memOf_in (w : World) (h : Base.mem.le (memOf w)) : MemIn (memOf w) w := ⟨fun _ _ h => h, h⟩
/-- whatever reads as a datum of this type has cells of one of these shapes -/
def Opn (enc : TypeId × Value → H) (P : Program) (w : World) (sp : Nat → Bool) (held : Bool) (T : TypeId) (G : List SV → Prop) : Prop :=
  ∀ fuel cs x, DataW.trod enc P w 0 sp held fuel T cs = some x → ∃ svs, G svs ∧ All2 (memOf w) svs cs
/-- shapes laid one behind the other -/
inductive Cat : List (List SV → Prop) → List SV → Prop
  | nil : Cat [] []
  | cons {G : List SV → Prop} {Gs : List (List SV → Prop)} {a b : List SV} (h : G a) (k : Cat Gs b) : Cat (G :: Gs) (a ++ b)
def GInt (k : IntKind) : List SV → Prop := fun l => ∃ n, (Lit.int k n).wf = true ∧ l = [lit (.int k n)]
def GInts (k : IntKind) : List SV → Prop := fun l => ∃ zs : List Int, (∀ z ∈ zs, (Lit.int k z).wf = true) ∧ zs.length ≤ maxLen ∧ l = [nsl k zs]
def GSl (k : Nat) (G : List SV → Prop) : List SV → Prop := fun l => ∃ es : List (List SV), (∀ e ∈ es, G e ∧ e.length = k) ∧ es.length ≤ maxLen ∧ l = [sl es.flatten es.length]
theorem all2_one {m : Mem} {s : SV} {v : Value} (h : s.p m v) (f : v.oneCell' = true) : All2 m [s] [v] := ⟨⟨h, f⟩, trivial⟩
theorem opn_int {T : TypeId} {k : IntKind} [hT : TIn P T k] : Opn enc P w sp held T (GInt k) := fun fuel cs x h => by
  obtain ⟨n, rfl, _, hw⟩ := DataW.trod_int hT.h h
  exact ⟨_, ⟨n, hw, rfl⟩, all2_one (lit_p.2 rfl) rfl⟩
/-- the cells of a struct's fields, one behind the other -/
def laid (P : Program) : List Field → Nat → Nat → Bool
  | [], o, n => Nat.beq o n
  | f :: fs, o, n => Nat.beq f.offset o && laid P fs (o + P.cellsOf f.type) n
inductive Opns (enc : TypeId × Value → H) (P : Program) (w : World) (sp : Nat → Bool) (held : Bool) : List TypeId → List (List SV → Prop) → Prop
  | nil : Opns enc P w sp held [] []
  | cons {T : TypeId} {G : List SV → Prop} {Ts : List TypeId} {Gs : List (List SV → Prop)} (h : Opn enc P w sp held T G) (k : Opns enc P w sp held Ts Gs) : Opns enc P w sp held (T :: Ts) (G :: Gs)
theorem cells_get {a : Addr} {n : Nat} {cs : List Value} (h : w.cells? 0 a n = some cs) : cs.length = n ∧ ∀ j, j < n → w.cell? (a.add j) = cs[j]? := by
  unfold World.cells? at h
  rw [if_pos (Nat.zero_le _)] at h
  have hl := mapM_some_length h
  refine ⟨by simpa using hl, fun j hj => ?_⟩
  have := mapM_some_get h j j (by simp [hj])
  simpa using this
theorem flat_range {m : Mem} {f : Nat → List SV} {k : Nat} {vs : List Value} : ∀ {n : Nat}, (∀ i, i < n → (f i).length = k ∧ All2 m (f i) ((vs.drop (i * k)).take k)) → All2 m ((List.range n).map f).flatten (vs.take (n * k))
  | 0, _ => by simp [All2]
  | n + 1, h => by
    have h1 := flat_range (n := n) fun i hi => h i (by omega)
    have h2 := (h n (by omega)).2
    have := h1.append h2
    rw [List.range_succ, List.map_append, List.flatten_append, show (n + 1) * k = n * k + k from by rw [Nat.add_mul, Nat.one_mul], List.take_add]
    simpa using this
theorem opn_slice {T e : TypeId} {k : Nat} {G : List SV → Prop} [hT : TSl P T e] (hk : P.cellsOf e = k) (hk0 : 0 < k) (hG : Opn enc P w sp held e G) : Opn enc P w sp held T (GSl k G) := fun fuel cs x h => by
  rcases Deep.open_slice hT.h h with ⟨rfl, _⟩ | ⟨a, len, cap, m, n, Dd, Pl, rfl, _, hlc, hcm, hm, _, hx⟩
  · exact ⟨_, ⟨[], by simp, by simp, rfl⟩, all2_one (sl_mk (by simp) (by simp [maxLen]) (.inl rfl)) rfl⟩
  · have hlm : len ≤ m := by rw [hm]; split <;> omega
    have hcell : ∀ i, i < len → ∃ l, G l ∧ l.length = k ∧ ∃ cs', w.cells? 0 (a.add (i * k)) k = some cs' ∧ All2 (memOf w) l cs' := fun i hi => by
      obtain ⟨cs', h1, h2⟩ := hx i (by omega)
      rw [hk] at h1
      obtain ⟨l, g1, g2⟩ := hG _ _ _ h2
      exact ⟨l, g1, by rw [← g2.length, (cells_get h1).1], cs', h1, g2⟩
    have hch : ∀ i : Nat, ∃ l, i < len → G l ∧ l.length = k ∧ ∃ cs', w.cells? 0 (a.add (i * k)) k = some cs' ∧ All2 (memOf w) l cs' := fun i => by
      by_cases hi : i < len
      · obtain ⟨l, hl⟩ := hcell i hi
        exact ⟨l, fun _ => hl⟩
      · exact ⟨[], fun h => absurd h hi⟩
    obtain ⟨f, hf⟩ := Classical.axiomOfChoice hch
    refine ⟨_, ⟨(List.range len).map f, fun l hl => ?_, by simp; omega, rfl⟩, all2_one (v := .slice (some a) len cap) ?_ rfl⟩
    · obtain ⟨i, hi, rfl⟩ := List.mem_map.1 hl
      have := hf i (by simpa using hi)
      exact ⟨this.1, this.2.1⟩
    · rw [List.length_map, List.length_range]
      refine sl_mk hlc hcm ?_
      rcases Nat.eq_zero_or_pos len with h0 | h0
      · left; subst h0; rfl
      · right
        obtain ⟨_, hl0, cs0, hc0, _⟩ := hf 0 h0
        have hcc := (cells_get hc0).2 0 hk0
        rw [Nat.zero_mul] at hcc
        have hcl := (cells_get hc0).1
        rw [List.getElem?_eq_getElem (by omega)] at hcc
        obtain ⟨b, off, spot⟩ := a
        have hs : spot = none := by simpa [Addr.add] using World.cell?_spot hcc
        subst hs
        simp only [add_none, Nat.add_zero] at hcc
        have hb : ∃ arr T fz, w.heap[b]? = some (.cells arr T fz) := by
          unfold World.cell? at hcc
          cases hbb : w.heap[b]? with
          | none => simp [hbb] at hcc
          | some o => cases o with
            | cells arr T fz => exact ⟨arr, T, fz, rfl⟩
            | _ => simp [hbb] at hcc
        obtain ⟨arr, T', fz, hb⟩ := hb
        refine ⟨b, off, rfl, arr, T', fz, hb, ?_⟩
        have hfl : ((List.range len).map f).flatten.length = len * k := by
          have : ∀ n, n ≤ len → ((List.range n).map f).flatten.length = n * k := by
            intro n
            induction n with
            | zero => intro _; simp
            | succ n ih => intro hn; rw [List.range_succ, List.map_append, List.flatten_append, List.length_append, ih (by omega)]; simp [(hf n (by omega)).2.1, Nat.add_mul]
          exact this len (Nat.le_refl _)
        rw [hfl]
        refine flat_range fun i hi => ?_
        obtain ⟨_, hl, cs', hc, ha⟩ := hf i hi
        refine ⟨hl, ?_⟩
        have hcs : cs' = ((arr.toList.drop off).drop (i * k)).take k := by
          obtain ⟨g1, g2⟩ := cells_get hc
          apply List.ext_getElem?
          intro j
          by_cases hj : j < k
          · have h1 := g2 j hj
            simp only [add_none] at h1
            rw [cell_of w b _ arr _ _ hb] at h1
            rw [List.getElem?_take_of_lt hj, List.getElem?_drop, List.getElem?_drop, ← h1]
            simp [Nat.add_assoc]
          · rw [List.getElem?_eq_none (by omega), List.getElem?_eq_none (by rw [List.length_take]; omega)]
        rw [← hcs]; exact ha
theorem opn_ints {T e : TypeId} {k : IntKind} [hT : TSl P T e] [hE : TIn P e k] (hk : P.cellsOf e = 1) : Opn enc P w sp held T (GInts k) := fun fuel cs x h => by
  obtain ⟨svs, ⟨es, hes, hl, rfl⟩, ha⟩ := opn_slice (k := 1) hk (by omega) (opn_int (k := k)) fuel cs x h
  refine ⟨_, ?_, ha⟩
  have : ∃ zs : List Int, (∀ z ∈ zs, (Lit.int k z).wf = true) ∧ es = zs.map fun z => [lit (.int k z)] := by
    clear ha hl
    induction es with
    | nil => exact ⟨[], by simp, rfl⟩
    | cons e es ih =>
      obtain ⟨zs, h1, h2⟩ := ih fun x hx => hes x (by simp [hx])
      obtain ⟨⟨z, hz, rfl⟩, _⟩ := hes e (by simp)
      exact ⟨z :: zs, by simpa using ⟨hz, h1⟩, by rw [h2]; rfl⟩
  obtain ⟨zs, h1, rfl⟩ := this
  refine ⟨zs, h1, by simpa using hl, ?_⟩
  have hfl : (zs.map fun z => [lit (.int k z)]).flatten = zs.map fun z => lit (.int k z) := by
    clear hl hes ha h1
    induction zs with
    | nil => rfl
    | cons z zs ih => simp [ih]
  rw [hfl, List.length_map]
  unfold nsl; rfl
end
end Go.Ab
/- The rows of this seat's laws: what is common to them. -/
namespace Go.Ab
open Go.Proofs
set_option linter.unusedSectionVars false
set_option linter.unusedVariables false
set_option linter.unusedSimpArgs false
variable [Base]
open Go.ChangeShapes Go.WideShapes Go.ChangeAt Go.RowKit
theorem calls_of {P : Program} {f : FuncId} {args : List SV} {W : World} {vs : List Value} (hB : Base.mem.le (memOf W)) (h : Pu P f args (lit (.bool true))) (ha : ArgsOk (memOf W) args vs) :
    Calls P f vs.toArray W fun e w' => e = .returned (.bool true) ∧ Below W.heap.size W w' := by
  unfold Pu at h
  refine (h.2 _ W vs (memOf_in W hB) ha).mono ?_
  rintro e w' ⟨v, m', rfl, hv, _, hr⟩
  rw [lit_p] at hv
  subst hv
  exact ⟨rfl, hr.os, hr.tape, hr.output, hr.size, fun k hk => hr.block k hk (by simp)⟩
theorem own0 : ownKnob Tryz.prog.godebug = none := by kernel_rfl
theorem laidOut0 : laidOutB Tryz.prog = true := by kernel_rfl
section
variable {H : Type} {enc : TypeId × Value → H} {W : World} {sp : Nat → Bool} {held : Bool}
end
end Go.Ab
/- Rows that list package variables: what the list says to the abstract machine. -/
namespace Go.Ab
open Go.Proofs
set_option linter.unusedSectionVars false
set_option linter.unusedVariables false
set_option linter.unusedSimpArgs false
variable [Base]
open Go.ChangeShapes Go.WideShapes Go.ChangeAt Go.RowKit
theorem starE : "*" ++ "errors.errorString" = "*errors.errorString" := by decide
theorem rowE (u : TypeId) (h : (Tryz.prog).typeName? 3 u = some "*errors.errorString") : u = 330 :=
  typeName_ptr_named (nm := "errors.errorString") (by rw [starE]; kernel_rfl) (by kernel_rfl) (by decide) u (by rw [starE]; exact h)
/-- a listed sentinel, at the head of a list -/
theorem sent_head {n : String} {text : List UInt8} {r : List (String × DataW Unit)} {W : World} {g : Nat} (h : laidMet Tryz.prog ((n, .iface "*errors.errorString" (.ptr (.agg [.lit (.string text)]))) :: r) W)
    (hg : (Tryz.prog).globalNamed n = some g) (ht : ((Tryz.prog).globals[g]?).map (·.type) = some 38) : ∃ (a : Addr) (T : TypeId) (fz : Nat × Nat), W.heap[g]? = some (.cells #[.iface 330 (.pointer (some a))] T fz) := by
  obtain ⟨a, s, hv, _⟩ := laid_sentinel (tp := 330) h hg ht Tryz.underlying38 rowE Tryz.underlying330 Tryz.underlying332 rfl rfl Tryz.underlying9 (by kernel_rfl) (by kernel_rfl)
  unfold World.var? at hv
  rw [hg] at hv
  simp only [Option.bind_some] at hv
  cases hh : W.heap[g]? with
  | none => rw [hh] at hv; cases hv
  | some o =>
    rw [hh] at hv
    cases o with
    | cells cs T fz =>
      simp only [Option.some.injEq] at hv
      subst hv
      exact ⟨a, T, fz, rfl⟩
    | _ => cases hv
/-- the memory of a call, for a whole law -/
abbrev baseOf (W : World) : Base := ⟨memOf W⟩
end Go.Ab
/- Reading a list of parts of expressions: what the abstract machine says of it. -/
namespace Go.Ab
open Go.Proofs
set_option linter.unusedSectionVars false
set_option linter.unusedVariables false
set_option linter.unusedSimpArgs false
variable [Base]
open Go.ChangeShapes Go.WideShapes Go.ChangeAt Go.RowKit
section
variable {H : Type} {enc : TypeId × Value → H} {W : World} {sp : Nat → Bool} {held : Bool}
end
/-- a part as it may be read -/
def Nd.raw (n : Nd) : Prop := ((D n.a.n ∧ D n.a.d) ∧ (D n.b.n ∧ D n.b.d) ∧ (D n.c.n ∧ D n.c.d) ∧ (D n.e.n ∧ D n.e.d)) ∧ n.nm.length ≤ 9223372036854775807 ∧ (i64R n.k ∧ i64R n.op ∧ i64R n.x ∧ i64R n.y)
theorem gint_i64 {l : List SV} (h : GInt .i64 l) : ∃ z, i64R z ∧ l = [lit (.int .i64 z)] := by
  obtain ⟨z, hz, rfl⟩ := h
  refine ⟨z, ?_, rfl⟩
  simp only [Lit.wf, IntKind.min, IntKind.max, IntKind.signed, IntKind.bits, Bool.and_eq_true, decide_eq_true_eq] at hz
  unfold i64R
  simp at hz
  omega
end Go.Ab
