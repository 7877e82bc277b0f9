/- From the reading of a law's arguments to what the abstract machine says of them; the frame of a law's row. -/
import Derived.Test.YthgobgompobhhaaGreatDoorUtil
import Derived.Test.YthgobgompobhhaaGreatDoorNatA
import Derived.ProofKit
import Derived.OpenShut
import Derived.ChangeOld
import Derived.Below
import Derived.OpenVars
import Derived.Deep.Slices
namespace Go.Ab
open Go.Proofs
set_option linter.unusedSectionVars false
variable [Base]
open Go.ChangeShapes Go.WideShapes Go.ChangeAt Go.RowKit
section
variable {H : Type} {enc : TypeId × Value → H} {P : Program} {w : World} {sp : Nat → Bool} {held : Bool}
/-- the memory that lies there when a law is called -/
def memOf (w : World) : Mem := fun b => w.heap[b]?
theorem memOf_in (w : World) (h : Base.mem.le (memOf w)) : MemIn (memOf w) w := ⟨fun _ _ h => h, h⟩
/-- whatever reads as a datum of this type has cells of one of these shapes -/
def Opn (enc : TypeId × Value → H) (P : Program) (w : World) (sp : Nat → Bool) (held : Bool) (T : TypeId) (G : List SV → Prop) : Prop :=
  ∀ fuel cs x, DataW.trod enc P w 0 sp held fuel T cs = some x → ∃ svs, G svs ∧ All2 (memOf w) svs cs
/-- shapes laid one behind the other -/
inductive Cat : List (List SV → Prop) → List SV → Prop
  | nil : Cat [] []
  | cons {G : List SV → Prop} {Gs : List (List SV → Prop)} {a b : List SV} (h : G a) (k : Cat Gs b) : Cat (G :: Gs) (a ++ b)
def GBool : List SV → Prop := fun l => ∃ b, l = [lit (.bool b)]
def GInt (k : IntKind) : List SV → Prop := fun l => ∃ n, (Lit.int k n).wf = true ∧ l = [lit (.int k n)]
def GStr : List SV → Prop := fun l => ∃ s : ByteArray, s.size ≤ maxLen ∧ l = [lit (.string s)]
def GNat : List SV → Prop := fun l => ∃ xs, D xs ∧ l = [dg xs]
def GInts (k : IntKind) : List SV → Prop := fun l => ∃ zs : List Int, (∀ z ∈ zs, (Lit.int k z).wf = true) ∧ zs.length ≤ maxLen ∧ l = [nsl k zs]
def GSl (k : Nat) (G : List SV → Prop) : List SV → Prop := fun l => ∃ es : List (List SV), (∀ e ∈ es, G e ∧ e.length = k) ∧ es.length ≤ maxLen ∧ l = [sl es.flatten es.length]
theorem all2_one {m : Mem} {s : SV} {v : Value} (h : s.p m v) (f : v.oneCell' = true) : All2 m [s] [v] := ⟨⟨h, f⟩, trivial⟩
theorem opn_bool {T : TypeId} [hT : TBo P T] : Opn enc P w sp held T GBool := fun fuel cs x h => by
  obtain ⟨b, rfl, _⟩ := DataW.trod_bool hT.h h
  exact ⟨_, ⟨b, rfl⟩, all2_one (lit_p.2 rfl) rfl⟩
theorem opn_int {T : TypeId} {k : IntKind} [hT : TIn P T k] : Opn enc P w sp held T (GInt k) := fun fuel cs x h => by
  obtain ⟨n, rfl, _, hw⟩ := DataW.trod_int hT.h h
  exact ⟨_, ⟨n, hw, rfl⟩, all2_one (lit_p.2 rfl) rfl⟩
theorem opn_str {T : TypeId} [hT : TSr P T] : Opn enc P w sp held T GStr := fun fuel cs x h => by
  obtain ⟨s, rfl, _, hw⟩ := DataW.trod_string hT.h h
  exact ⟨_, ⟨s, hw, rfl⟩, all2_one (lit_p.2 rfl) rfl⟩
/-- the cells of a struct's fields, one behind the other -/
def laid (P : Program) : List Field → Nat → Nat → Bool
  | [], o, n => Nat.beq o n
  | f :: fs, o, n => Nat.beq f.offset o && laid P fs (o + P.cellsOf f.type) n
inductive Opns (enc : TypeId × Value → H) (P : Program) (w : World) (sp : Nat → Bool) (held : Bool) : List TypeId → List (List SV → Prop) → Prop
  | nil : Opns enc P w sp held [] []
  | cons {T : TypeId} {G : List SV → Prop} {Ts : List TypeId} {Gs : List (List SV → Prop)} (h : Opn enc P w sp held T G) (k : Opns enc P w sp held Ts Gs) : Opns enc P w sp held (T :: Ts) (G :: Gs)
theorem opn_cat {n : Nat} : ∀ {fs : List Field} {Gs : List (List SV → Prop)} {o : Nat} {cs : List Value}, Opns enc P w sp held (fs.map (·.type)) Gs → laid P fs o cs.length = true →
    (∀ (i : Nat) (f : Field), fs[i]? = some f → ∃ x, DataW.trod enc P w 0 sp held n f.type ((cs.drop f.offset).take (P.cellsOf f.type)) = some x) →
    ∃ svs, Cat Gs svs ∧ All2 (memOf w) svs (cs.drop o)
  | [], _, o, cs, h, hl, _ => by
    cases h
    simp only [laid] at hl
    have := Nat.eq_of_beq_eq_true hl
    subst this
    exact ⟨[], .nil, by rw [List.drop_length]; trivial⟩
  | f :: fs, _, o, cs, h, hl, hx => by
    cases h with
    | cons h k =>
      simp only [laid, Bool.and_eq_true] at hl
      have ho := Nat.eq_of_beq_eq_true hl.1
      obtain ⟨x, hx0⟩ := hx 0 f rfl
      rw [ho] at hx0
      obtain ⟨s0, g0, a0⟩ := h _ _ _ hx0
      obtain ⟨s1, g1, a1⟩ := opn_cat k hl.2 fun i f' hf => hx (i + 1) f' (by simpa using hf)
      refine ⟨s0 ++ s1, .cons g0 g1, ?_⟩
      have := a0.append a1
      rwa [← List.drop_drop, List.take_append_drop] at this
theorem opn_struct {T : TypeId} {fs : Array Field} {Gs : List (List SV → Prop)} (hT : P.underlying T = some (.struct fs)) (hl : laid P fs.toList 0 (P.cellsOf T) = true) (ho : Opns enc P w sp held (fs.toList.map (·.type)) Gs) : Opn enc P w sp held T (Cat Gs) := fun fuel cs x h => by
  obtain ⟨xs, n, _, _, hc, hlen, hf⟩ := DataW.trod_struct hT h
  have := opn_cat (n := n) (cs := cs) ho (by rw [hc]; exact hl) fun i f hi => by
    have h1 := hf i f (by simpa using hi)
    have h2 : i < xs.length := by
      have := (List.getElem?_eq_some_iff.1 hi).1
      simp at this; omega
    rw [List.getElem?_eq_getElem h2] at h1
    exact ⟨_, h1⟩
  simpa using this
theorem cells_get {a : Addr} {n : Nat} {cs : List Value} (h : w.cells? 0 a n = some cs) : cs.length = n ∧ ∀ j, j < n → w.cell? (a.add j) = cs[j]? := by
  unfold World.cells? at h
  rw [if_pos (Nat.zero_le _)] at h
  have hl := mapM_some_length h
  refine ⟨by simpa using hl, fun j hj => ?_⟩
  have := mapM_some_get h j j (by simp [hj])
  simpa using this
theorem flat_range {m : Mem} {f : Nat → List SV} {k : Nat} {vs : List Value} : ∀ {n : Nat}, (∀ i, i < n → (f i).length = k ∧ All2 m (f i) ((vs.drop (i * k)).take k)) → All2 m ((List.range n).map f).flatten (vs.take (n * k))
  | 0, _ => by simp [All2]
  | n + 1, h => by
    have h1 := flat_range (n := n) fun i hi => h i (by omega)
    have h2 := (h n (by omega)).2
    have := h1.append h2
    rw [List.range_succ, List.map_append, List.flatten_append, show (n + 1) * k = n * k + k from by rw [Nat.add_mul, Nat.one_mul], List.take_add]
    simpa using this
theorem opn_slice {T e : TypeId} {k : Nat} {G : List SV → Prop} [hT : TSl P T e] (hk : P.cellsOf e = k) (hk0 : 0 < k) (hG : Opn enc P w sp held e G) : Opn enc P w sp held T (GSl k G) := fun fuel cs x h => by
  rcases Deep.open_slice hT.h h with ⟨rfl, _⟩ | ⟨a, len, cap, m, n, Dd, Pl, rfl, _, hlc, hcm, hm, _, hx⟩
  · exact ⟨_, ⟨[], by simp, by simp, rfl⟩, all2_one (sl_mk (by simp) (by simp [maxLen]) (.inl rfl)) rfl⟩
  · have hlm : len ≤ m := by rw [hm]; split <;> omega
    have hcell : ∀ i, i < len → ∃ l, G l ∧ l.length = k ∧ ∃ cs', w.cells? 0 (a.add (i * k)) k = some cs' ∧ All2 (memOf w) l cs' := fun i hi => by
      obtain ⟨cs', h1, h2⟩ := hx i (by omega)
      rw [hk] at h1
      obtain ⟨l, g1, g2⟩ := hG _ _ _ h2
      exact ⟨l, g1, by rw [← g2.length, (cells_get h1).1], cs', h1, g2⟩
    have hch : ∀ i : Nat, ∃ l, i < len → G l ∧ l.length = k ∧ ∃ cs', w.cells? 0 (a.add (i * k)) k = some cs' ∧ All2 (memOf w) l cs' := fun i => by
      by_cases hi : i < len
      · obtain ⟨l, hl⟩ := hcell i hi
        exact ⟨l, fun _ => hl⟩
      · exact ⟨[], fun h => absurd h hi⟩
    obtain ⟨f, hf⟩ := Classical.axiomOfChoice hch
    refine ⟨_, ⟨(List.range len).map f, fun l hl => ?_, by simp; omega, rfl⟩, all2_one (v := .slice (some a) len cap) ?_ rfl⟩
    · obtain ⟨i, hi, rfl⟩ := List.mem_map.1 hl
      have := hf i (by simpa using hi)
      exact ⟨this.1, this.2.1⟩
    · rw [List.length_map, List.length_range]
      refine sl_mk hlc hcm ?_
      rcases Nat.eq_zero_or_pos len with h0 | h0
      · left; subst h0; rfl
      · right
        obtain ⟨_, hl0, cs0, hc0, _⟩ := hf 0 h0
        have hcc := (cells_get hc0).2 0 hk0
        rw [Nat.zero_mul] at hcc
        have hcl := (cells_get hc0).1
        rw [List.getElem?_eq_getElem (by omega)] at hcc
        obtain ⟨b, off, spot⟩ := a
        have hs : spot = none := by simpa [Addr.add] using World.cell?_spot hcc
        subst hs
        simp only [add_none, Nat.add_zero] at hcc
        have hb : ∃ arr T fz, w.heap[b]? = some (.cells arr T fz) := by
          unfold World.cell? at hcc
          cases hbb : w.heap[b]? with
          | none => simp [hbb] at hcc
          | some o => cases o with
            | cells arr T fz => exact ⟨arr, T, fz, rfl⟩
            | _ => simp [hbb] at hcc
        obtain ⟨arr, T', fz, hb⟩ := hb
        refine ⟨b, off, rfl, arr, T', fz, hb, ?_⟩
        have hfl : ((List.range len).map f).flatten.length = len * k := by
          have : ∀ n, n ≤ len → ((List.range n).map f).flatten.length = n * k := by
            intro n
            induction n with
            | zero => intro _; simp
            | succ n ih => intro hn; rw [List.range_succ, List.map_append, List.flatten_append, List.length_append, ih (by omega)]; simp [(hf n (by omega)).2.1, Nat.add_mul]
          exact this len (Nat.le_refl _)
        rw [hfl]
        refine flat_range fun i hi => ?_
        obtain ⟨_, hl, cs', hc, ha⟩ := hf i hi
        refine ⟨hl, ?_⟩
        have hcs : cs' = ((arr.toList.drop off).drop (i * k)).take k := by
          obtain ⟨g1, g2⟩ := cells_get hc
          apply List.ext_getElem?
          intro j
          by_cases hj : j < k
          · have h1 := g2 j hj
            simp only [add_none] at h1
            rw [cell_of w b _ arr _ _ hb] at h1
            rw [List.getElem?_take_of_lt hj, List.getElem?_drop, List.getElem?_drop, ← h1]
            simp [Nat.add_assoc]
          · rw [List.getElem?_eq_none (by omega), List.getElem?_eq_none (by rw [List.length_take]; omega)]
        rw [← hcs]; exact ha
theorem opn_ints {T e : TypeId} {k : IntKind} [hT : TSl P T e] [hE : TIn P e k] (hk : P.cellsOf e = 1) : Opn enc P w sp held T (GInts k) := fun fuel cs x h => by
  obtain ⟨svs, ⟨es, hes, hl, rfl⟩, ha⟩ := opn_slice (k := 1) hk (by omega) (opn_int (k := k)) fuel cs x h
  refine ⟨_, ?_, ha⟩
  have : ∃ zs : List Int, (∀ z ∈ zs, (Lit.int k z).wf = true) ∧ es = zs.map fun z => [lit (.int k z)] := by
    clear ha hl
    induction es with
    | nil => exact ⟨[], by simp, rfl⟩
    | cons e es ih =>
      obtain ⟨zs, h1, h2⟩ := ih fun x hx => hes x (by simp [hx])
      obtain ⟨⟨z, hz, rfl⟩, _⟩ := hes e (by simp)
      exact ⟨z :: zs, by simpa using ⟨hz, h1⟩, by rw [h2]; rfl⟩
  obtain ⟨zs, h1, rfl⟩ := this
  refine ⟨zs, h1, by simpa using hl, ?_⟩
  have hfl : (zs.map fun z => [lit (.int k z)]).flatten = zs.map fun z => lit (.int k z) := by
    clear hl hes ha h1
    induction zs with
    | nil => rfl
    | cons z zs ih => simp [ih]
  rw [hfl, List.length_map]
  unfold nsl; rfl
theorem opn_nat {T e : TypeId} [hT : TSl P T e] [hE : TIn P e .u32] (hk : P.cellsOf e = 1) : Opn enc P w sp held T GNat := fun fuel cs x h => by
  obtain ⟨svs, ⟨zs, hz, hl, rfl⟩, ha⟩ := opn_ints (k := .u32) hk fuel cs x h
  have : ∃ xs : List Nat, D xs ∧ zs = xs.map fun d : Nat => (d : Int) := by
    clear ha hl
    induction zs with
    | nil => exact ⟨[], D.nil, rfl⟩
    | cons z zs ih =>
      obtain ⟨xs, h1, h2⟩ := ih fun x hx => hz x (by simp [hx])
      have := hz z (by simp)
      simp only [Lit.wf, IntKind.min, IntKind.max, IntKind.signed, IntKind.bits, Bool.and_eq_true, decide_eq_true_eq] at this
      simp at this
      exact ⟨z.toNat :: xs, D.cons (by omega) h1, by rw [h2]; simp; omega⟩
  obtain ⟨xs, hD, rfl⟩ := this
  exact ⟨_, ⟨xs, hD, (dg_nsl xs).symm ▸ rfl⟩, ha⟩
end
end Go.Ab
