/- Texts laid one behind the other: PLaw, PTl, Open, RowKit, LaidKit, ExprOpen, OpenB. -/
import Derived.Test.YtebghnhocigmlaaGreatDoorB17
import Derived.Test.YtebghnhocigmlaaGreatDoorB10
import Derived.Test.YtebghnhocigmlaaGreatDoorB19
import Derived.Test.YtebghnhocigmlaaGreatDoorB03
import Derived.ProofKit
import Derived.OpenShut
import Derived.ChangeOld
import Derived.Below
import Derived.OpenVars
import Derived.Deep.Slices
import Derived.WalkKit
import Derived.Stop.LaidErr
import Derived.LaidMore
import Derived.Deep.DeepHandedRow
import Derived.Deep.DeepWitnessRowRef
set_option linter.unusedSectionVars false
set_option linter.unusedVariables false
set_option linter.unusedSimpArgs false
namespace Go.Ab
open Go.Proofs
variable [Base]
def nmNd (c : UInt8) : Nd := ⟨1, [c], ⟨false, [], []⟩, ⟨false, [], []⟩, ⟨false, [], []⟩, ⟨false, [], []⟩, 0, 0, 0, 0, 0⟩
def opNd (op x y : Int) : Nd := ⟨6, [], ⟨false, [], []⟩, ⟨false, [], []⟩, ⟨false, [], []⟩, ⟨false, [], []⟩, op, x, y, 0, 0⟩
def knNs : List Nd := [nmNd 97, nmNd 98, nmNd 99, opNd 3 1 2, opNd 3 0 3]
theorem knNs_otx : otx knNs = some [97, 32, 45, 32, 40, 98, 32, 45, 32, 99, 41] := by decide +kernel
theorem zr_ok {L : Nat} : (⟨false, [], []⟩ : RQ).ok L := ⟨D.nil, D.nil, Nat.zero_le _, Nat.zero_le _⟩
theorem knNs_ok : ∀ n ∈ knNs, n.ok 4 := by
  intro n hn
  simp only [knNs, List.mem_cons, List.not_mem_nil, or_false] at hn
  rcases hn with rfl | rfl | rfl | rfl | rfl <;> exact ⟨zr_ok, zr_ok, zr_ok, zr_ok, by decide⟩
theorem Le.slL {a b : List SV} {k : Nat} (h : LeL a b) : Le (sl a k) (sl b k) := fun m v hv => by
  obtain ⟨ad, cap, rfl, h1, h2, h3⟩ := sl_cells hv
  refine sl_mk h1 h2 ?_
  rcases h3 with rfl | ⟨b', off, rfl, arr, T, fz, h4, h5⟩
  · left
    cases b with
    | nil => rfl
    | cons _ _ => exact h.elim
  · right
    have hlen : a.length = b.length := by
      clear h4 h5 hv
      induction a generalizing b with
      | nil => cases b with
        | nil => rfl
        | cons _ _ => exact h.elim
      | cons x a ih => cases b with
        | nil => exact h.elim
        | cons y b => simp [ih h.2]
    exact ⟨b', off, rfl, arr, T, fz, h4, by rw [← hlen]; exact All2.le h h5⟩
theorem known13 [Sent 2] : Pu Tryz.prog 15 [] (lit (.bool true)) := by
  have c := pexpr_pu knNs knNs_ok (by omega) (by decide)
  rw [knNs_otx] at c
  unfold pans at c
  simp only at c
  refine Pu.intro Tryz.func15 rfl (by kernel_rfl) fun C => ?_
  repeat (refine A1 ⟨?_⟩; intros)
  refine WpubS 15 rfl (HDel.here _) (by omega) (by omega) ?_
  refine WPL.low 15 rfl (Le.slL (b := (knNs.map ndx).flatten) ?_) ?_
  · simp only [knNs, nmNd, opNd, List.map_cons, List.map_nil, List.flatten_cons, List.flatten_nil, List.cons_append, List.nil_append]
    repeat (first | exact trivial | refine ⟨?_, ?_⟩ | exact Le.refl _ | exact le_nil)
  refine Wcx c ?_
  repeat (refine A1 ⟨?_⟩; intros)
  ((first | refine endR ?_ | refine endN ?_); exact end1 (RV.tmp rfl) (Le.refl _))
set_option maxHeartbeats 4000000 in
theorem ptexts_pu [Sent 2] [Sent 4] [Sent 3] [Sent 5] [Sent 7] [PowTab] (s : List UInt8) (hs : s.length ≤ 9223372036854775807) : Pu Tryz.prog 5 [str s] (lit (.bool true)) := by
  have kn := known13
  by_cases hl : 1000 < s.length
  · refine Pu.intro Tryz.func5 rfl (by kernel_rfl) fun C => ?_
    repeat (first | (refine A1 ⟨?_⟩; intros) | (refine Wcx (kn) ?_) | (refine Wdcx (kn) ?_) | (refine Wcgx (kn) ?_) | (refine Wdcgx (kn) ?_))
    ((first | refine endR ?_ | refine endN ?_); exact end1 (RV.tmp rfl) (Le.refl _))
  have c0 := parseT_pu s (by omega)
  unfold gpS at c0
  cases hp : gscript s with
  | error e =>
    rw [hp] at c0
    simp only at c0
    clear hp
    refine Pu.intro Tryz.func5 rfl (by kernel_rfl) fun C => ?_
    repeat (first | (refine A1 ⟨?_⟩; intros) | (refine Wcx (c0) ?_) | (refine Wdcx (c0) ?_) | (refine Wcgx (c0) ?_) | (refine Wdcgx (c0) ?_))
    refine Wo (ov_ineF (s := pt _) (by kernel_rfl) rfl) ?_
    repeat (first | (refine A1 ⟨?_⟩; intros) | (refine Wcx (kn) ?_) | (refine Wdcx (kn) ?_) | (refine Wcgx (kn) ?_) | (refine Wdcgx (kn) ?_))
    ((first | refine endR ?_ | refine endN ?_); exact end1 (RV.tmp rfl) (Le.refl _))
  | ok ss =>
    rw [hp] at c0
    simp only at c0
    obtain ⟨h1, h2, h3⟩ := script_good (by omega) hp
    have cp := pscript_pu h1 h2 (by omega)
    obtain ⟨ss', g1, g2⟩ := texts_law h1 h2
    have c1 := parseT_pu (txSc ss) (by omega)
    unfold gpS at c1
    rw [g1] at c1
    simp only at c1
    have c2 := sameSts_e ss ss' g2
    clear hp h1 g1 g2
    generalize txSc ss = u at *
    refine Pu.intro Tryz.func5 rfl (by kernel_rfl) fun C => ?_
    repeat (first | (refine A1 ⟨?_⟩; intros) | (refine Wcx (c0) ?_) | (refine Wdcx (c0) ?_) | (refine Wcgx (c0) ?_) | (refine Wdcgx (c0) ?_) | (refine Wcx (cp) ?_) | (refine Wdcx (cp) ?_) | (refine Wcgx (cp) ?_) | (refine Wdcgx (cp) ?_) | (refine Wcx (c1) ?_) | (refine Wdcx (c1) ?_) | (refine Wcgx (c1) ?_) | (refine Wdcgx (c1) ?_) | (refine Wcx (kn) ?_) | (refine Wdcx (kn) ?_) | (refine Wcgx (kn) ?_) | (refine Wdcgx (kn) ?_) | (refine Wcx (c2) ?_) | (refine Wdcx (c2) ?_) | (refine Wcgx (c2) ?_) | (refine Wdcgx (c2) ?_))
    ((first | refine endR ?_ | refine endN ?_); exact end1 (RV.tmp rfl) (Le.refl _))
open Go.ChangeShapes Go.WideShapes Go.ChangeAt Go.RowKit
section
variable {H : Type} {enc : TypeId × Value → H} {P : Program} {w : World} {sp : Nat → Bool} {held : Bool}
def memOf (w : World) : Mem := fun b => w.heap[b]?
theorem memOf_in (w : World) (h : Base.mem.le (memOf w)) : MemIn (memOf w) w := ⟨fun _ _ h => h, h⟩
def Opn (enc : TypeId × Value → H) (P : Program) (w : World) (sp : Nat → Bool) (held : Bool) (T : TypeId) (G : List SV → Prop) : Prop :=
  ∀ fuel cs x, DataW.trod enc P w 0 sp held fuel T cs = some x → ∃ svs, G svs ∧ All2 (memOf w) svs cs
inductive Cat : List (List SV → Prop) → List SV → Prop
  | nil : Cat [] []
  | cons {G : List SV → Prop} {Gs : List (List SV → Prop)} {a b : List SV} (h : G a) (k : Cat Gs b) : Cat (G :: Gs) (a ++ b)
def GStr : List SV → Prop := fun l => ∃ s : ByteArray, s.size ≤ maxLen ∧ l = [lit (.string s)]
theorem all2_one {m : Mem} {s : SV} {v : Value} (h : s.p m v) (f : v.oneCell' = true) : All2 m [s] [v] := ⟨⟨h, f⟩, trivial⟩
theorem opn_str {T : TypeId} [hT : TSr P T] : Opn enc P w sp held T GStr := fun fuel cs x h => by
  obtain ⟨s, rfl, _, hw⟩ := DataW.trod_string hT.h h
  exact ⟨_, ⟨s, hw, rfl⟩, all2_one (lit_p.2 rfl) rfl⟩
def laid (P : Program) : List Field → Nat → Nat → Bool
  | [], o, n => Nat.beq o n
  | f :: fs, o, n => Nat.beq f.offset o && laid P fs (o + P.cellsOf f.type) n
inductive Opns (enc : TypeId × Value → H) (P : Program) (w : World) (sp : Nat → Bool) (held : Bool) : List TypeId → List (List SV → Prop) → Prop
  | nil : Opns enc P w sp held [] []
  | cons {T : TypeId} {G : List SV → Prop} {Ts : List TypeId} {Gs : List (List SV → Prop)} (h : Opn enc P w sp held T G) (k : Opns enc P w sp held Ts Gs) : Opns enc P w sp held (T :: Ts) (G :: Gs)
end
end Go.Ab
namespace Go.Ab
open Go.Proofs
variable [Base]
open Go.ChangeShapes Go.WideShapes Go.ChangeAt Go.RowKit
theorem calls_of {P : Program} {f : FuncId} {args : List SV} {W : World} {vs : List Value} (hB : Base.mem.le (memOf W)) (h : Pu P f args (lit (.bool true))) (ha : ArgsOk (memOf W) args vs) :
    Calls P f vs.toArray W fun e w' => e = .returned (.bool true) ∧ Below W.heap.size W w' := by
  unfold Pu at h
  refine (h.2 _ W vs (memOf_in W hB) ha).mono ?_
  rintro e w' ⟨v, m', rfl, hv, _, hr⟩
  rw [lit_p] at hv
  subst hv
  exact ⟨rfl, hr.os, hr.tape, hr.output, hr.size, fun k hk => hr.block k hk (by simp)⟩
theorem own0 : ownKnob Tryz.prog.godebug = none := by kernel_rfl
theorem laidOut0 : laidOutB Tryz.prog = true := by kernel_rfl
section
variable {H : Type} {enc : TypeId × Value → H} {W : World} {sp : Nat → Bool} {held : Bool}
end
end Go.Ab
namespace Go.Ab
open Go.Proofs
variable [Base]
open Go.ChangeShapes Go.WideShapes Go.ChangeAt Go.RowKit
theorem starE : "*" ++ "errors.errorString" = "*errors.errorString" := by decide
theorem rowE (u : TypeId) (h : (Tryz.prog).typeName? 3 u = some "*errors.errorString") : u = 442 :=
  typeName_ptr_named (nm := "errors.errorString") (by rw [starE]; kernel_rfl) (by kernel_rfl) (by decide) u (by rw [starE]; exact h)
theorem sent_head {n : String} {text : List UInt8} {r : List (String × DataW Unit)} {W : World} {g : Nat} (h : laidMet Tryz.prog ((n, .iface "*errors.errorString" (.ptr (.agg [.lit (.string text)]))) :: r) W)
    (hg : (Tryz.prog).globalNamed n = some g) (ht : ((Tryz.prog).globals[g]?).map (·.type) = some 25) : ∃ (a : Addr) (T : TypeId) (fz : Nat × Nat), W.heap[g]? = some (.cells #[.iface 442 (.pointer (some a))] T fz) := by
  obtain ⟨a, s, hv, _⟩ := laid_sentinel (tp := 442) h hg ht Tryz.underlying25 rowE Tryz.underlying442 Tryz.underlying444 rfl rfl Tryz.underlying9 (by kernel_rfl) (by kernel_rfl)
  unfold World.var? at hv
  rw [hg] at hv
  simp only [Option.bind_some] at hv
  cases hh : W.heap[g]? with
  | none => rw [hh] at hv; cases hv
  | some o =>
    rw [hh] at hv
    cases o with
    | cells cs T fz =>
      simp only [Option.some.injEq] at hv
      subst hv
      exact ⟨a, T, fz, rfl⟩
    | _ => cases hv
abbrev baseOf (W : World) : Base := ⟨memOf W⟩
end Go.Ab
namespace Go.Ab
open Go.Proofs
variable [Base]
open Go.ChangeShapes Go.WideShapes Go.ChangeAt Go.RowKit
section
variable {H : Type} {enc : TypeId × Value → H} {W : World} {sp : Nat → Bool} {held : Bool}
end
def Nd.raw (n : Nd) : Prop := ((D n.a.n ∧ D n.a.d) ∧ (D n.b.n ∧ D n.b.d) ∧ (D n.c.n ∧ D n.c.d) ∧ (D n.e.n ∧ D n.e.d)) ∧ n.nm.length ≤ 9223372036854775807 ∧ (i64R n.k ∧ i64R n.op ∧ i64R n.x ∧ i64R n.y)
theorem gstr_l {l : List SV} (h : GStr l) : ∃ s : List UInt8, s.length ≤ 9223372036854775807 ∧ l = [str s] := by
  obtain ⟨s, hs, rfl⟩ := h
  refine ⟨s.data.toList, ?_, ?_⟩
  · have : s.data.toList.length = s.size := by rw [Array.length_toList]; rfl
    rw [this]
    simp only [maxLen] at hs
    omega
  · show _ = [lit (.string ⟨s.data.toList.toArray⟩)]
    rw [Array.toArray_toList]
end Go.Ab
namespace Go.Ab
open Go.Proofs
variable [Base]
open Go.ChangeShapes Go.WideShapes Go.ChangeAt Go.RowKit
end Go.Ab
