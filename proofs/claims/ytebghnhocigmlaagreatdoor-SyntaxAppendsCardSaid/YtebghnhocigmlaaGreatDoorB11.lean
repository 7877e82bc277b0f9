/- Texts laid one behind the other: RefF, Txt, FmtN, FracE, RefH, Geo, Ref1, Ref4, Tape, Scene1, Law26A, TxtB, Err, AffB, LnM, LnA, LnB, Nrm, Fmt, Wrt, Node, List, Deep, Arr, Chr, Res, Name, Part, Expr, Parse, LexS. -/
import Derived.Test.YtebghnhocigmlaaGreatDoorB09
import Derived.Test.YtebghnhocigmlaaGreatDoorFracD
import Derived.Test.YtebghnhocigmlaaGreatDoorB04
import Derived.Test.YtebghnhocigmlaaGreatDoorRefL
import Derived.Laws.IdiomStrings
import Derived.Test.YtebghnhocigmlaaGreatDoorB05
import Derived.Laws.Externs
namespace Go.Ab
open Go.Proofs
set_option linter.unusedSectionVars false
set_option linter.unusedVariables false
set_option linter.unusedSimpArgs false
variable [Base]
section
variable {P : Program} {F : Fr} {H : LH} {ty : TypeId}
end
theorem Own.bytes {l : List UInt8} {s : SV} {H : LH} (hl : l.length ≠ 0) (h : Own 5 1 l.length (bys l) s H) : ∃ b c rest, s = lit (.slice (some ⟨b, 0, none⟩) l.length c) ∧ H = [(b, 5, bys l ++ rest)] := by
  obtain ⟨_, ⟨e, _, _⟩ | ⟨b, c, _, _, rfl, rfl⟩⟩ := h
  · exact absurd e hl
  · exact ⟨b, c, _, rfl, rfl⟩
abbrev pp (x y : Rat) : SV := ag [lit (.int .i64 (r0 x)), lit (.int .i64 (r1 x)), r2 x, lit (.int .i64 (r0 y)), lit (.int .i64 (r1 y)), r2 y]
structure RQ where
  s : Bool
  n : List Nat
  d : List Nat
def RQ.v (r : RQ) : Rat := mkRat (sv r.s (val r.n)) (val r.d)
def RQ.ok (L : Nat) (r : RQ) : Prop := D r.n ∧ D r.d ∧ r.n.length ≤ L ∧ r.d.length ≤ L
abbrev qr (r : RQ) : SV := qraw r.s r.n r.d
abbrev pr (a b : RQ) : SV := ag [lit (.bool a.s), dg a.n, dg a.d, lit (.bool b.s), dg b.n, dg b.d]
abbrev pq (x y : Rat) : SV := ag [lit (.bool (decide (x.num < 0))), nat x.num.natAbs, nat x.den, lit (.bool (decide (y.num < 0))), nat y.num.natAbs, nat y.den]
def RQ.of (x : Rat) : RQ := ⟨decide (x.num < 0), dgs x.num.natAbs, dgs x.den⟩
theorem RQ.of_v (x : Rat) : (RQ.of x).v = x := by
  unfold RQ.v RQ.of; simp only [val_dgs, sv_int]; exact Rat.mkRat_self x
theorem RQ.of_ok {x : Rat} {L : Nat} (h : ht x ≤ L) : (RQ.of x).ok L :=
  ⟨D_dgs _, D_dgs _, Nat.le_trans (ht_num x) h, Nat.le_trans (ht_den x) h⟩
theorem il_sv {s : Bool} {xs : List Nat} (h : D xs) : il (sv s (val xs)) ≤ xs.length := by unfold il; rw [sv_abs]; exact dlen_val h
theorem ht_v {r : RQ} {L : Nat} (h : r.ok L) : ht r.v ≤ L + 1 := by
  obtain ⟨h1, h2, h3, h4⟩ := h
  have := ht_mk (sv r.s (val r.n)) (val r.d)
  have a1 := il_sv (s := r.s) h1
  have a2 := dlen_val h2
  unfold RQ.v; omega
theorem of_pu {r : RQ} {L : Nat} (h : r.ok L) (hL : L ≤ 1000000) : Pu Tryz.prog 271 [qr r] (fr r.v) :=
  of_raw r.s r.n r.d (by have := h.2.2.1; omega) (by have := h.2.2.2; omega) h.1 h.2.1
structure M6 (α : Type) where
  a : α
  b : α
  c : α
  d : α
  e : α
  f : α
structure M6.ok (L : Nat) (m : M6 RQ) : Prop where
  a : m.a.ok L
  b : m.b.ok L
  c : m.c.ok L
  d : m.d.ok L
  e : m.e.ok L
  f : m.f.ok L
structure M6.le (L : Nat) (m : M6 Rat) : Prop where
  a : ht m.a ≤ L
  b : ht m.b ≤ L
  c : ht m.c ≤ L
  d : ht m.d ≤ L
  e : ht m.e ≤ L
  f : ht m.f ≤ L
def M6.v (m : M6 RQ) : M6 Rat := ⟨m.a.v, m.b.v, m.c.v, m.d.v, m.e.v, m.f.v⟩
section
variable {P : Program} {F : Fr} {H : LH}
variable {C : Ctx} {n : Nat} {ops : Array Oper} {K : Fr → LH → Prop} {rest : List Oper} {ty : TypeId} {pos : String} {aft : Array Edge}
theorem endMR {rs : Array ResultVar} {α : Type} {b : Nat} {T : TypeId} {cs' : α → List SV} {res : α → SV} (x : α) (cs : List SV) (h : Ends P rs.toList (res x) F H) (hm : (b, T, cs) ∈ H) (hl : LeL cs (cs' x)) : endM P rs b T cs' res .ret F H := ⟨x, h, cs, hm, hl⟩
end
def RQ.short (n : Nat) (r : RQ) : Prop := r.n.length ≤ n ∧ r.d.length ≤ n
instance (n : Nat) (r : RQ) : Decidable (r.short n) := by unfold RQ.short; infer_instance
def M6.of (m : M6 Rat) : M6 RQ := ⟨RQ.of m.a, RQ.of m.b, RQ.of m.c, RQ.of m.d, RQ.of m.e, RQ.of m.f⟩
theorem M6.of_v (m : M6 Rat) : m.of.v = m := by
  unfold M6.of M6.v
  simp only [RQ.of_v]
theorem M6.of_ok {m : M6 Rat} {L : Nat} (h : m.le L) : m.of.ok L := ⟨RQ.of_ok h.a, RQ.of_ok h.b, RQ.of_ok h.c, RQ.of_ok h.d, RQ.of_ok h.e, RQ.of_ok h.f⟩
def addrIn : Option Value → Addr
  | some (.iface _ (.pointer (some a))) => a
  | _ => ⟨0, 0, none⟩
def gaddr (g : Nat) : Addr := match Base.mem g with
  | some (.cells arr _ _) => addrIn arr[0]?
  | _ => ⟨0, 0, none⟩
abbrev sent (g : Nat) : Value := .iface 442 (.pointer (some (gaddr g)))
class Sent (g : Nat) : Prop where
  h : ∃ (a : Addr) (T : TypeId) (fz : Nat × Nat), Base.mem g = some (.cells #[.iface 442 (.pointer (some a))] T fz)
instance (g : Nat) [s : Sent g] : GV g (sent g) := ⟨by
  obtain ⟨a, T, fz, h⟩ := s.h
  refine ⟨T, fz, ?_⟩
  unfold sent gaddr
  rw [h]; rfl⟩
theorem isTypeOf (v : Value) (w : World) : (Extern.ReflectliteType.typeOf #[.iface 442 v]).run Tryz.prog w = .ok (.iface 128 (.agg #[.pointer (some ⟨(Tryz.prog).globals.size, 442, none⟩)])) w := by kernel_rfl
theorem isComparable (w : World) : ((Extern.ReflectliteType.method fun t => do Extern.Rtype.noPackHeld "Comparable" t; pure (.bool (← typeInfo t).comparable)) #[.agg #[.pointer (some ⟨(Tryz.prog).globals.size, 442, none⟩)]]).run Tryz.prog w = .ok (.bool true) w := by kernel_rfl
theorem isMethodC (v : Value) (w : World) : (Go.method ((Tryz.prog).types.size + Made.depth) 128 v "Comparable").run Tryz.prog w = .ok (411, v) w := by kernel_rfl
section
variable {F : Fr} {H : LH} {ty : TypeId}
theorem ov_typeOf {x : Operand} {v : Value} {tys : Array TypeId} (hx : ev F x = lit (.iface 442 v)) : OpV Tryz.prog (.call ⟨.value (.func 34), [x].toArray, tys⟩) ty F H (lit (.iface 128 (.agg #[.pointer (some ⟨(Tryz.prog).globals.size, 442, none⟩)]))) :=
  OpV.pure fun m w o a ho _ _ _ h => by
    have h0 := h x (by simp [Op.operands, Call.operands]); rw [hx, lit_p] at h0
    have h8 := @run_callFunc_extern Tryz.prog 34 _ Extern.ReflectliteType.typeOf Tryz.func34 (by kernel_rfl) (by kernel_rfl) (by kernel_rfl) (by kernel_rfl)
    refine ⟨_, ?_, lit_p.2 rfl⟩
    have := h8 #[a.eval x] w
    rw [h0, isTypeOf, ← h0] at this
    simp only [execOp, ho, resolve, Sem.run_bind, Sem.run_pure, Result.andThen_ok]
    have e1 : a.eval (.func 34) = .func (.func 34) #[] #[] := rfl
    simp only [e1, Deferred.ofValue, Sem.run_pure, Result.andThen_ok, invoke, List.map_toArray, List.map_cons, List.map_nil, Array.empty_append, Array.append_empty, this]
theorem ov_cmpble {x : Operand} {tys : Array TypeId} (hx : ev F x = lit (.iface 128 (.agg #[.pointer (some ⟨(Tryz.prog).globals.size, 442, none⟩)]))) : OpV Tryz.prog (.call ⟨.invoke x "Comparable", #[], tys⟩) ty F H (lit (.bool true)) :=
  OpV.pure fun m w o a ho _ _ _ h => by
    have h0 := h x (by simp [Op.operands, Call.operands]); rw [hx, lit_p] at h0
    have h8 := @run_callFunc_extern Tryz.prog 411 _ (Extern.ReflectliteType.method fun t => do Extern.Rtype.noPackHeld "Comparable" t; pure (.bool (← typeInfo t).comparable)) Tryz.func411 (by kernel_rfl) (by kernel_rfl) (by kernel_rfl) (by kernel_rfl)
    refine ⟨_, ?_, lit_p.2 rfl⟩
    have := h8 #[.agg #[.pointer (some ⟨(Tryz.prog).globals.size, 442, none⟩)]] w
    have hc := isComparable w
    have hm := isMethodC (.agg #[.pointer (some ⟨(Tryz.prog).globals.size, 442, none⟩)]) w
    rw [hc] at this
    have hz : (callMethod (.iface 128 (.agg #[.pointer (some ⟨(Tryz.prog).globals.size, 442, none⟩)])) "Comparable" #[]).run Tryz.prog w = .ok (.value (.bool true)) w := by
      simp only [callMethod, Sem.run_bind, run_program, Result.andThen_ok, hm, Array.append_empty, this]
    have he : execOp a.eval o = callMethod (a.eval x) "Comparable" #[] := by
      simp [execOp, ho, resolve, invoke]
    rw [he, h0, hz]
theorem ov_isame {g : Nat} {x y : Operand} {T' : TypeId} (hx : ev F x = lit (sent g)) (hy : ev F y = lit (sent g)) : OpV Tryz.prog (.binOp .eql 25 x y T') ty F H (lit (.bool true)) :=
  ov_bin hx hy (fun w => by
    obtain ⟨i, hi, hc⟩ := Option.map_eq_some_iff.1 (show ((Tryz.prog).info? 442).map (·.comparable) = some true by kernel_rfl)
    obtain ⟨j, hj, _⟩ := Option.map_eq_some_iff.1 (show ((Tryz.prog).info? 444).map (·.size) = some 1 by kernel_rfl)
    exact run_eql_iface_ptr_same w _ Tryz.underlying25 Tryz.underlying442 hi hc hj) (fun w => by simp [Go.eqGuard])
end
def rgcd (x y : Rat) : Rat := mkRat (Nat.gcd (x.num.natAbs * y.den) (y.num.natAbs * x.den) : Nat) (x.den * y.den)
structure Li where
  a : Int
  b : Int
  c : Int
def Li.ok (l : Li) : Prop := Nat.gcd (Nat.gcd l.a.natAbs l.b.natAbs) l.c.natAbs = 1 ∧ (l.a ≠ 0 ∨ l.b ≠ 0)
def g3 (a b c : Rat) : Rat := rgcd (rgcd a b) c
theorem fsign_pu (x : Rat) (h : ht x ≤ 10000000) : Pu Tryz.prog 312 [fr x] (lit (.int .i64 x.num.sign)) := by
  by_cases hs : small x
  · rw [fr_s hs]
    rcases Int.lt_trichotomy x.num 0 with h0 | h0 | h0
    · rw [Int.sign_eq_neg_one_of_neg h0]
      refine Pu.intro Tryz.func312 rfl (by kernel_rfl) fun C => ?_
      repeat (refine A1 ⟨?_⟩; intros)
      ((first | refine endR ?_ | refine endN ?_); exact end1 (RV.tmp rfl) (Le.refl _))
    · rw [h0]
      refine Pu.intro Tryz.func312 rfl (by kernel_rfl) fun C => ?_
      repeat (refine A1 ⟨?_⟩; intros)
      ((first | refine endR ?_ | refine endN ?_); exact end1 (RV.tmp rfl) (Le.refl _))
    · rw [Int.sign_eq_one_of_pos h0]
      refine Pu.intro Tryz.func312 rfl (by kernel_rfl) fun C => ?_
      repeat (refine A1 ⟨?_⟩; intros)
      ((first | refine endR ?_ | refine endN ?_); exact end1 (RV.tmp rfl) (Le.refl _))
  · have h1 := ht_num x
    have e1 : il x.num = (dgs x.num.natAbs).length := rfl
    have c := sign_raw (decide (x.num < 0)) (dgs x.num.natAbs) (by omega) (D_dgs _)
    rw [val_dgs, sv_int] at c
    rw [fr_b hs]
    refine Pu.intro Tryz.func312 rfl (by kernel_rfl) fun C => ?_
    repeat (first | (refine A1 ⟨?_⟩; intros) | (refine Wcx (c) ?_) | (refine Wdcx (c) ?_) | (refine Wcgx (c) ?_) | (refine Wdcgx (c) ?_))
    ((first | refine endR ?_ | refine endN ?_); exact end1 (RV.tmp rfl) (Le.refl _))
abbrev lq (l : Li) : SV := ag [lit (.bool (decide (l.a < 0))), nat l.a.natAbs, lit (.bool (decide (l.b < 0))), nat l.b.natAbs, lit (.bool (decide (l.c < 0))), nat l.c.natAbs]
structure Li.le (l : Li) (L : Nat) : Prop where
  a : il l.a ≤ L
  b : il l.b ≤ L
  c : il l.c ≤ L
theorem blen_1 {n : Nat} : blen n = 1 ↔ n = 1 := by
  have h0 := blen0 (n := n)
  have h1 := blen1 (n := n)
  omega
structure Nd where
  k : Int
  nm : List UInt8
  a : RQ
  b : RQ
  c : RQ
  e : RQ
  op : Int
  x : Int
  y : Int
  ln : Int
  cl : Int
def i64R (z : Int) : Prop := -9223372036854775808 ≤ z ∧ z ≤ 9223372036854775807
abbrev ndx (n : Nd) : List SV := [lit (.int .i64 n.k), str n.nm, lit (.bool n.a.s), dg n.a.n, dg n.a.d, lit (.bool n.b.s), dg n.b.n, dg n.b.d, lit (.bool n.c.s), dg n.c.n, dg n.c.d, lit (.bool n.e.s), dg n.e.n, dg n.e.d, lit (.int .i64 n.op), lit (.int .i64 n.x), lit (.int .i64 n.y), lit (.int .i64 n.ln), lit (.int .i64 n.cl)]
structure Nd.ok (L : Nat) (n : Nd) : Prop where
  a : n.a.ok L
  b : n.b.ok L
  c : n.c.ok L
  e : n.e.ok L
  nm : n.nm.length ≤ 100
def zq (r : RQ) : Bool := !r.s && decide (r.n.length = 0) && decide (r.d.length = 0)
def zp (a b : RQ) : Bool := zq a && zq b
def okN (n : Nd) : Bool :=
  (decide (1 ≤ n.k) && decide (n.k ≤ 6)) && (decide (n.k = 1) || decide (n.nm.length = 0)) && (decide (n.k = 4) || (zp n.a n.b && zp n.c n.e)) && ((decide (n.k = 6) && decide (1 ≤ n.op) && decide (n.op ≤ 4)) || (decide (n.k ≠ 6) && decide (n.op = 0))) && (decide (n.k = 6) || decide (n.y = 0)) && ((decide (n.k = 6) || decide (n.k = 5)) || decide (n.x = 0))
theorem ndx_len (n : Nd) : (ndx n).length = 19 := rfl
section
variable {P : Program} {C : Ctx} {n : Nat} {F : Fr} {H : LH} {ops : Array Oper} {K : Fr → LH → Prop} {rest : List Oper} {ty : TypeId} {pos : String} {aft : Array Edge}
theorem WvX {x : Operand} {f : FuncId} {first caps : List SV} {d : Nat} {l : List Operand} {tys : Array TypeId} {svs : List SV} {Hin Rs : LH} {R X : SV → LH → Prop} (hc : PuH P f svs Hin R X) (k : ∀ res H', R res H' → WPL P C n ops rest K (upd F d res) (Rs ++ H')) (kx : ∀ pv H', X pv H' → C.pan pv (H' ++ Rs))
    (hs : Tk H Hin Rs) (hx : ev F x = fnv f first caps := by exact rfl) (ha : first ++ l.map (ev F) ++ caps = svs := by exact rfl) (hd : Nat.blt d n = true := by exact rfl) :
    WPL P C n ops (⟨some d, .call ⟨.value x, l.toArray, tys⟩, ty, pos, aft, none⟩ :: rest) K F H :=
  .perm hs.perm (.callH hx hc (Spl.app _ _) ha hd (fun res H' h => .perm List.perm_append_comm (k res H' h)) fun pv H' h => kx pv H' h)
end
section
variable {P : Program} {F : Fr} {H : LH} {ty : TypeId}
end
abbrev u8 (b : Nat) : SV := lit (.int .u8 (b : Int))
def idxB (l : List UInt8) (b : Nat) : Int := match (List.range (⟨l.toArray⟩ : ByteArray).size).find? fun i => (⟨l.toArray⟩ : ByteArray)[i]! == (b : Int).toNat.toUInt8 with
  | some i => (i : Int)
  | none => -1
theorem run_idxB (l : List UInt8) {b : Nat} (hb : b < 256) (w : World) : (Extern.BytealgIndexByte.indexByte #[.string ⟨l.toArray⟩, .int .u8 (b : Int)]).run Tryz.prog w = .ok (.int .i64 (idxB l b)) w := by
  have hdef : Extern.BytealgIndexByte.indexByte #[.string ⟨l.toArray⟩, .int .u8 (b : Int)] = (match (List.range (⟨l.toArray⟩ : ByteArray).size).find? fun i => (⟨l.toArray⟩ : ByteArray)[i]! == (b : Int).toNat.toUInt8 with
    | some i => pure (goInt i)
    | none => pure (goInt (-1))) := rfl
  rw [hdef]
  unfold idxB
  split <;> rfl
section
variable {F : Fr} {H : LH} {ty : TypeId}
theorem ov_idxB {x y : Operand} {l : List UInt8} {b : Nat} {tys : Array TypeId} (hx : ev F x = str l) (hy : ev F y = u8 b) (hb : b < 256) : OpV Tryz.prog (.call ⟨.value (.func 155), [x, y].toArray, tys⟩) ty F H (lit (.int .i64 (idxB l b))) :=
  OpV.pure fun m w o a ho _ _ _ h => by
    have h0 := h x (by simp [Op.operands, Call.operands]); rw [hx, lit_p] at h0
    have h1 := h y (by simp [Op.operands, Call.operands]); rw [hy, lit_p] at h1
    have h8 := @run_callFunc_extern Tryz.prog 155 _ Extern.BytealgIndexByte.indexByte Tryz.func155 (by kernel_rfl) (by kernel_rfl) (by kernel_rfl) (by kernel_rfl)
    refine ⟨_, ?_, lit_p.2 rfl⟩
    have := h8 #[a.eval x, a.eval y] w
    rw [h0, h1, run_idxB l hb] at this
    simp only [execOp, ho, resolve, Sem.run_bind, Sem.run_pure, Result.andThen_ok]
    have e1 : a.eval (.func 155) = .func (.func 155) #[] #[] := rfl
    simp only [e1, Deferred.ofValue, Sem.run_pure, Result.andThen_ok, invoke, List.map_toArray, List.map_cons, List.map_nil, Array.empty_append, Array.append_empty, h0, h1, this]
end
theorem sliteIdx_pu (l : List UInt8) {b : Nat} (hb : b < 256) : Pu Tryz.prog 101 [str l, u8 b] (lit (.int .i64 (idxB l b))) := by
  refine Pu.intro Tryz.func101 rfl (by kernel_rfl) fun C => ?_
  repeat (refine A1 ⟨?_⟩; intros)
  refine Wo (ov_idxB rfl rfl hb) ?_
  repeat (refine A1 ⟨?_⟩; intros)
  ((first | refine endR ?_ | refine endN ?_); exact end1 (RV.tmp rfl) (Le.refl _))
theorem sIdx_pu (l : List UInt8) {b : Nat} (hb : b < 256) : Pu Tryz.prog 255 [str l, u8 b] (lit (.int .i64 (idxB l b))) := by
  refine Pu.intro Tryz.func255 rfl (by kernel_rfl) fun C => ?_
  repeat (first | (refine A1 ⟨?_⟩; intros) | (refine Wcx (sliteIdx_pu l hb) ?_) | (refine Wdcx (sliteIdx_pu l hb) ?_) | (refine Wcgx (sliteIdx_pu l hb) ?_) | (refine Wdcgx (sliteIdx_pu l hb) ?_))
  ((first | refine endR ?_ | refine endN ?_); exact end1 (RV.tmp rfl) (Le.refl _))
def signs : List UInt8 := [40, 41, 123, 125, 44, 59, 61, 43, 45, 42, 47, 94, 126]
def clsN (b : Nat) : Int :=
  if b = 32 ∨ b = 9 ∨ b = 13 ∨ b = 10 then 1 else if b = 35 then 2 else if 48 ≤ b ∧ b ≤ 57 then 4 else if 97 ≤ b ∧ b ≤ 122 ∨ 65 ≤ b ∧ b ≤ 90 ∨ b = 95 then 3 else if 0 ≤ idxB signs b then 5 else 0
set_option maxHeartbeats 4000000 in
theorem classOf_pu {b : Nat} (hb : b < 256) : Pu Tryz.prog 202 [u8 b] (lit (.int .i64 (clsN b))) := by
  unfold clsN
  by_cases h1 : b = 32 ∨ b = 9 ∨ b = 13 ∨ b = 10
  · rw [if_pos h1]
    rcases h1 with rfl | rfl | rfl | rfl <;>
    · refine Pu.intro Tryz.func202 rfl (by kernel_rfl) fun C => ?_
      repeat (refine A1 ⟨?_⟩; intros)
      ((first | refine endR ?_ | refine endN ?_); exact end1 (RV.tmp rfl) (Le.refl _))
  · rw [if_neg h1]
    by_cases h2 : b = 35
    · rw [if_pos h2]
      subst h2
      refine Pu.intro Tryz.func202 rfl (by kernel_rfl) fun C => ?_
      repeat (refine A1 ⟨?_⟩; intros)
      ((first | refine endR ?_ | refine endN ?_); exact end1 (RV.tmp rfl) (Le.refl _))
    · rw [if_neg h2]
      have ha : b ≠ 32 := by omega
      have hc : b ≠ 9 := by omega
      have hd : b ≠ 13 := by omega
      have he : b ≠ 10 := by omega
      clear h1
      by_cases h3 : 48 ≤ b ∧ b ≤ 57
      · rw [if_pos h3]
        obtain ⟨h3, h4⟩ := h3
        refine Pu.intro Tryz.func202 rfl (by kernel_rfl) fun C => ?_
        repeat (refine A1 ⟨?_⟩; intros)
        ((first | refine endR ?_ | refine endN ?_); exact end1 (RV.tmp rfl) (Le.refl _))
      · rw [if_neg h3]
        by_cases h4 : 97 ≤ b ∧ b ≤ 122
        · rw [if_pos (.inl h4)]
          obtain ⟨h4, h5⟩ := h4
          clear h3
          refine Pu.intro Tryz.func202 rfl (by kernel_rfl) fun C => ?_
          repeat (refine A1 ⟨?_⟩; intros)
          ((first | refine endR ?_ | refine endN ?_); exact end1 (RV.tmp rfl) (Le.refl _))
        · by_cases h5 : 65 ≤ b ∧ b ≤ 90
          · rw [if_pos (.inr (.inl h5))]
            obtain ⟨h5, h6⟩ := h5
            clear h3 h4
            refine Pu.intro Tryz.func202 rfl (by kernel_rfl) fun C => ?_
            repeat (refine A1 ⟨?_⟩; intros)
            ((first | refine endR ?_ | refine endN ?_); exact end1 (RV.tmp rfl) (Le.refl _))
          · by_cases h6 : b = 95
            · rw [if_pos (.inr (.inr h6))]
              subst h6
              clear h3 h4 h5
              refine Pu.intro Tryz.func202 rfl (by kernel_rfl) fun C => ?_
              repeat (refine A1 ⟨?_⟩; intros)
              ((first | refine endR ?_ | refine endN ?_); exact end1 (RV.tmp rfl) (Le.refl _))
            · rw [if_neg (by omega)]
              have key : b < 48 ∨ (57 < b ∧ b < 65) ∨ (90 < b ∧ b < 97) ∨ 122 < b := by omega
              have c := sIdx_pu signs hb
              clear h3 h4 h5
              generalize idxB signs b = z at *
              by_cases hz : 0 ≤ z
              · rw [if_pos hz]
                rcases key with P1 | ⟨P1, P2⟩ | ⟨P1, P2⟩ | P1
                all_goals
                  refine Pu.intro Tryz.func202 rfl (by kernel_rfl) fun C => ?_
                  repeat (first | (refine A1 ⟨?_⟩; intros) | (refine Wcx (c) ?_) | (refine Wdcx (c) ?_) | (refine Wcgx (c) ?_) | (refine Wdcgx (c) ?_))
                  ((first | refine endR ?_ | refine endN ?_); exact end1 (RV.tmp rfl) (Le.refl _))
              · rw [if_neg hz]
                rcases key with P1 | ⟨P1, P2⟩ | ⟨P1, P2⟩ | P1
                all_goals
                  refine Pu.intro Tryz.func202 rfl (by kernel_rfl) fun C => ?_
                  repeat (first | (refine A1 ⟨?_⟩; intros) | (refine Wcx (c) ?_) | (refine Wdcx (c) ?_) | (refine Wcgx (c) ?_) | (refine Wdcgx (c) ?_))
                  ((first | refine endR ?_ | refine endN ?_); exact end1 (RV.tmp rfl) (Le.refl _))
def words : List (List UInt8) := [[98, 117, 100, 103, 101, 116], [114, 105, 110, 103], [114, 101, 103, 105, 111, 110], [101, 118, 101, 110, 111, 100, 100], [110, 111, 110, 122, 101, 114, 111], [111, 117, 116, 108, 105, 110, 101], [102, 97, 114], [99, 104, 97, 105, 110], [108, 101, 116], [97, 114, 101, 97], [99, 101, 110, 116, 114, 111, 105, 100], [99, 108, 97, 115, 115, 105, 102, 121], [101, 109, 112, 116, 121], [101, 113, 117, 97, 108], [115, 117, 98, 115, 101, 116], [99, 101, 108, 108, 115], [110, 111, 100, 101, 115], [112, 97, 114, 116, 115], [101, 120, 112, 111, 114, 116], [97, 108, 108], [110, 111, 110, 101], [104, 97, 108, 102]]
def resv (s : List UInt8) : Bool := decide (s ∈ words)
theorem resv_t {s w : List UInt8} (h : s = w) (hw : decide (w ∈ words) = true := by decide +kernel) : lit (.bool true) = lit (.bool (resv s)) := by subst h; unfold resv; rw [hw]
theorem resv_f {s : List UInt8} (h0 : ¬s = [98, 117, 100, 103, 101, 116]) (h1 : ¬s = [114, 105, 110, 103]) (h2 : ¬s = [114, 101, 103, 105, 111, 110]) (h3 : ¬s = [101, 118, 101, 110, 111, 100, 100]) (h4 : ¬s = [110, 111, 110, 122, 101, 114, 111]) (h5 : ¬s = [111, 117, 116, 108, 105, 110, 101]) (h6 : ¬s = [102, 97, 114]) (h7 : ¬s = [99, 104, 97, 105, 110]) (h8 : ¬s = [108, 101, 116]) (h9 : ¬s = [97, 114, 101, 97]) (h10 : ¬s = [99, 101, 110, 116, 114, 111, 105, 100]) (h11 : ¬s = [99, 108, 97, 115, 115, 105, 102, 121]) (h12 : ¬s = [101, 109, 112, 116, 121]) (h13 : ¬s = [101, 113, 117, 97, 108]) (h14 : ¬s = [115, 117, 98, 115, 101, 116]) (h15 : ¬s = [99, 101, 108, 108, 115]) (h16 : ¬s = [110, 111, 100, 101, 115]) (h17 : ¬s = [112, 97, 114, 116, 115]) (h18 : ¬s = [101, 120, 112, 111, 114, 116]) (h19 : ¬s = [97, 108, 108]) (h20 : ¬s = [110, 111, 110, 101]) (h21 : ¬s = [104, 97, 108, 102]) : lit (.bool false) = lit (.bool (resv s)) := by
  unfold resv words
  rw [decide_eq_false (by simp only [List.mem_cons, List.not_mem_nil, or_false, not_or]; exact ⟨h0, h1, h2, h3, h4, h5, h6, h7, h8, h9, h10, h11, h12, h13, h14, h15, h16, h17, h18, h19, h20, h21⟩)]
set_option maxHeartbeats 4000000 in
theorem reserved_pu (s : List UInt8) : Pu Tryz.prog 163 [str s] (lit (.bool (resv s))) := by
  refine Pu.intro Tryz.func163 rfl (by kernel_rfl) fun C => ?_
  repeat (refine A1 ⟨?_⟩; intros)
  by_cases h0 : s = [98, 117, 100, 103, 101, 116]
  · refine Wo (ov_seql (b := [98, 117, 100, 103, 101, 116]) rfl rfl (decide_eq_true h0)) ?_
    repeat (refine A1 ⟨?_⟩; intros)
    ((first | refine endR ?_ | refine endN ?_); refine end1 (RV.tmp rfl) (Le.of_eq ?_))
    exact resv_t h0
  refine Wo (ov_seql (b := [98, 117, 100, 103, 101, 116]) rfl rfl (decide_eq_false h0)) ?_
  repeat (refine A1 ⟨?_⟩; intros)
  by_cases h1 : s = [114, 105, 110, 103]
  · refine Wo (ov_seql (b := [114, 105, 110, 103]) rfl rfl (decide_eq_true h1)) ?_
    repeat (refine A1 ⟨?_⟩; intros)
    ((first | refine endR ?_ | refine endN ?_); refine end1 (RV.tmp rfl) (Le.of_eq ?_))
    exact resv_t h1
  refine Wo (ov_seql (b := [114, 105, 110, 103]) rfl rfl (decide_eq_false h1)) ?_
  repeat (refine A1 ⟨?_⟩; intros)
  by_cases h2 : s = [114, 101, 103, 105, 111, 110]
  · refine Wo (ov_seql (b := [114, 101, 103, 105, 111, 110]) rfl rfl (decide_eq_true h2)) ?_
    repeat (refine A1 ⟨?_⟩; intros)
    ((first | refine endR ?_ | refine endN ?_); refine end1 (RV.tmp rfl) (Le.of_eq ?_))
    exact resv_t h2
  refine Wo (ov_seql (b := [114, 101, 103, 105, 111, 110]) rfl rfl (decide_eq_false h2)) ?_
  repeat (refine A1 ⟨?_⟩; intros)
  by_cases h3 : s = [101, 118, 101, 110, 111, 100, 100]
  · refine Wo (ov_seql (b := [101, 118, 101, 110, 111, 100, 100]) rfl rfl (decide_eq_true h3)) ?_
    repeat (refine A1 ⟨?_⟩; intros)
    ((first | refine endR ?_ | refine endN ?_); refine end1 (RV.tmp rfl) (Le.of_eq ?_))
    exact resv_t h3
  refine Wo (ov_seql (b := [101, 118, 101, 110, 111, 100, 100]) rfl rfl (decide_eq_false h3)) ?_
  repeat (refine A1 ⟨?_⟩; intros)
  by_cases h4 : s = [110, 111, 110, 122, 101, 114, 111]
  · refine Wo (ov_seql (b := [110, 111, 110, 122, 101, 114, 111]) rfl rfl (decide_eq_true h4)) ?_
    repeat (refine A1 ⟨?_⟩; intros)
    ((first | refine endR ?_ | refine endN ?_); refine end1 (RV.tmp rfl) (Le.of_eq ?_))
    exact resv_t h4
  refine Wo (ov_seql (b := [110, 111, 110, 122, 101, 114, 111]) rfl rfl (decide_eq_false h4)) ?_
  repeat (refine A1 ⟨?_⟩; intros)
  by_cases h5 : s = [111, 117, 116, 108, 105, 110, 101]
  · refine Wo (ov_seql (b := [111, 117, 116, 108, 105, 110, 101]) rfl rfl (decide_eq_true h5)) ?_
    repeat (refine A1 ⟨?_⟩; intros)
    ((first | refine endR ?_ | refine endN ?_); refine end1 (RV.tmp rfl) (Le.of_eq ?_))
    exact resv_t h5
  refine Wo (ov_seql (b := [111, 117, 116, 108, 105, 110, 101]) rfl rfl (decide_eq_false h5)) ?_
  repeat (refine A1 ⟨?_⟩; intros)
  by_cases h6 : s = [102, 97, 114]
  · refine Wo (ov_seql (b := [102, 97, 114]) rfl rfl (decide_eq_true h6)) ?_
    repeat (refine A1 ⟨?_⟩; intros)
    ((first | refine endR ?_ | refine endN ?_); refine end1 (RV.tmp rfl) (Le.of_eq ?_))
    exact resv_t h6
  refine Wo (ov_seql (b := [102, 97, 114]) rfl rfl (decide_eq_false h6)) ?_
  repeat (refine A1 ⟨?_⟩; intros)
  by_cases h7 : s = [99, 104, 97, 105, 110]
  · refine Wo (ov_seql (b := [99, 104, 97, 105, 110]) rfl rfl (decide_eq_true h7)) ?_
    repeat (refine A1 ⟨?_⟩; intros)
    ((first | refine endR ?_ | refine endN ?_); refine end1 (RV.tmp rfl) (Le.of_eq ?_))
    exact resv_t h7
  refine Wo (ov_seql (b := [99, 104, 97, 105, 110]) rfl rfl (decide_eq_false h7)) ?_
  repeat (refine A1 ⟨?_⟩; intros)
  by_cases h8 : s = [108, 101, 116]
  · refine Wo (ov_seql (b := [108, 101, 116]) rfl rfl (decide_eq_true h8)) ?_
    repeat (refine A1 ⟨?_⟩; intros)
    ((first | refine endR ?_ | refine endN ?_); refine end1 (RV.tmp rfl) (Le.of_eq ?_))
    exact resv_t h8
  refine Wo (ov_seql (b := [108, 101, 116]) rfl rfl (decide_eq_false h8)) ?_
  repeat (refine A1 ⟨?_⟩; intros)
  by_cases h9 : s = [97, 114, 101, 97]
  · refine Wo (ov_seql (b := [97, 114, 101, 97]) rfl rfl (decide_eq_true h9)) ?_
    repeat (refine A1 ⟨?_⟩; intros)
    ((first | refine endR ?_ | refine endN ?_); refine end1 (RV.tmp rfl) (Le.of_eq ?_))
    exact resv_t h9
  refine Wo (ov_seql (b := [97, 114, 101, 97]) rfl rfl (decide_eq_false h9)) ?_
  repeat (refine A1 ⟨?_⟩; intros)
  by_cases h10 : s = [99, 101, 110, 116, 114, 111, 105, 100]
  · refine Wo (ov_seql (b := [99, 101, 110, 116, 114, 111, 105, 100]) rfl rfl (decide_eq_true h10)) ?_
    repeat (refine A1 ⟨?_⟩; intros)
    ((first | refine endR ?_ | refine endN ?_); refine end1 (RV.tmp rfl) (Le.of_eq ?_))
    exact resv_t h10
  refine Wo (ov_seql (b := [99, 101, 110, 116, 114, 111, 105, 100]) rfl rfl (decide_eq_false h10)) ?_
  repeat (refine A1 ⟨?_⟩; intros)
  by_cases h11 : s = [99, 108, 97, 115, 115, 105, 102, 121]
  · refine Wo (ov_seql (b := [99, 108, 97, 115, 115, 105, 102, 121]) rfl rfl (decide_eq_true h11)) ?_
    repeat (refine A1 ⟨?_⟩; intros)
    ((first | refine endR ?_ | refine endN ?_); refine end1 (RV.tmp rfl) (Le.of_eq ?_))
    exact resv_t h11
  refine Wo (ov_seql (b := [99, 108, 97, 115, 115, 105, 102, 121]) rfl rfl (decide_eq_false h11)) ?_
  repeat (refine A1 ⟨?_⟩; intros)
  by_cases h12 : s = [101, 109, 112, 116, 121]
  · refine Wo (ov_seql (b := [101, 109, 112, 116, 121]) rfl rfl (decide_eq_true h12)) ?_
    repeat (refine A1 ⟨?_⟩; intros)
    ((first | refine endR ?_ | refine endN ?_); refine end1 (RV.tmp rfl) (Le.of_eq ?_))
    exact resv_t h12
  refine Wo (ov_seql (b := [101, 109, 112, 116, 121]) rfl rfl (decide_eq_false h12)) ?_
  repeat (refine A1 ⟨?_⟩; intros)
  by_cases h13 : s = [101, 113, 117, 97, 108]
  · refine Wo (ov_seql (b := [101, 113, 117, 97, 108]) rfl rfl (decide_eq_true h13)) ?_
    repeat (refine A1 ⟨?_⟩; intros)
    ((first | refine endR ?_ | refine endN ?_); refine end1 (RV.tmp rfl) (Le.of_eq ?_))
    exact resv_t h13
  refine Wo (ov_seql (b := [101, 113, 117, 97, 108]) rfl rfl (decide_eq_false h13)) ?_
  repeat (refine A1 ⟨?_⟩; intros)
  by_cases h14 : s = [115, 117, 98, 115, 101, 116]
  · refine Wo (ov_seql (b := [115, 117, 98, 115, 101, 116]) rfl rfl (decide_eq_true h14)) ?_
    repeat (refine A1 ⟨?_⟩; intros)
    ((first | refine endR ?_ | refine endN ?_); refine end1 (RV.tmp rfl) (Le.of_eq ?_))
    exact resv_t h14
  refine Wo (ov_seql (b := [115, 117, 98, 115, 101, 116]) rfl rfl (decide_eq_false h14)) ?_
  repeat (refine A1 ⟨?_⟩; intros)
  by_cases h15 : s = [99, 101, 108, 108, 115]
  · refine Wo (ov_seql (b := [99, 101, 108, 108, 115]) rfl rfl (decide_eq_true h15)) ?_
    repeat (refine A1 ⟨?_⟩; intros)
    ((first | refine endR ?_ | refine endN ?_); refine end1 (RV.tmp rfl) (Le.of_eq ?_))
    exact resv_t h15
  refine Wo (ov_seql (b := [99, 101, 108, 108, 115]) rfl rfl (decide_eq_false h15)) ?_
  repeat (refine A1 ⟨?_⟩; intros)
  by_cases h16 : s = [110, 111, 100, 101, 115]
  · refine Wo (ov_seql (b := [110, 111, 100, 101, 115]) rfl rfl (decide_eq_true h16)) ?_
    repeat (refine A1 ⟨?_⟩; intros)
    ((first | refine endR ?_ | refine endN ?_); refine end1 (RV.tmp rfl) (Le.of_eq ?_))
    exact resv_t h16
  refine Wo (ov_seql (b := [110, 111, 100, 101, 115]) rfl rfl (decide_eq_false h16)) ?_
  repeat (refine A1 ⟨?_⟩; intros)
  by_cases h17 : s = [112, 97, 114, 116, 115]
  · refine Wo (ov_seql (b := [112, 97, 114, 116, 115]) rfl rfl (decide_eq_true h17)) ?_
    repeat (refine A1 ⟨?_⟩; intros)
    ((first | refine endR ?_ | refine endN ?_); refine end1 (RV.tmp rfl) (Le.of_eq ?_))
    exact resv_t h17
  refine Wo (ov_seql (b := [112, 97, 114, 116, 115]) rfl rfl (decide_eq_false h17)) ?_
  repeat (refine A1 ⟨?_⟩; intros)
  by_cases h18 : s = [101, 120, 112, 111, 114, 116]
  · refine Wo (ov_seql (b := [101, 120, 112, 111, 114, 116]) rfl rfl (decide_eq_true h18)) ?_
    repeat (refine A1 ⟨?_⟩; intros)
    ((first | refine endR ?_ | refine endN ?_); refine end1 (RV.tmp rfl) (Le.of_eq ?_))
    exact resv_t h18
  refine Wo (ov_seql (b := [101, 120, 112, 111, 114, 116]) rfl rfl (decide_eq_false h18)) ?_
  repeat (refine A1 ⟨?_⟩; intros)
  by_cases h19 : s = [97, 108, 108]
  · refine Wo (ov_seql (b := [97, 108, 108]) rfl rfl (decide_eq_true h19)) ?_
    repeat (refine A1 ⟨?_⟩; intros)
    ((first | refine endR ?_ | refine endN ?_); refine end1 (RV.tmp rfl) (Le.of_eq ?_))
    exact resv_t h19
  refine Wo (ov_seql (b := [97, 108, 108]) rfl rfl (decide_eq_false h19)) ?_
  repeat (refine A1 ⟨?_⟩; intros)
  by_cases h20 : s = [110, 111, 110, 101]
  · refine Wo (ov_seql (b := [110, 111, 110, 101]) rfl rfl (decide_eq_true h20)) ?_
    repeat (refine A1 ⟨?_⟩; intros)
    ((first | refine endR ?_ | refine endN ?_); refine end1 (RV.tmp rfl) (Le.of_eq ?_))
    exact resv_t h20
  refine Wo (ov_seql (b := [110, 111, 110, 101]) rfl rfl (decide_eq_false h20)) ?_
  repeat (refine A1 ⟨?_⟩; intros)
  by_cases h21 : s = [104, 97, 108, 102]
  · refine Wo (ov_seql (b := [104, 97, 108, 102]) rfl rfl (decide_eq_true h21)) ?_
    repeat (refine A1 ⟨?_⟩; intros)
    ((first | refine endR ?_ | refine endN ?_); refine end1 (RV.tmp rfl) (Le.of_eq ?_))
    exact resv_t h21
  refine Wo (ov_seql (b := [104, 97, 108, 102]) rfl rfl (decide_eq_false h21)) ?_
  repeat (refine A1 ⟨?_⟩; intros)
  ((first | refine endR ?_ | refine endN ?_); refine end1 (RV.tmp rfl) (Le.of_eq ?_))
  exact resv_f h0 h1 h2 h3 h4 h5 h6 h7 h8 h9 h10 h11 h12 h13 h14 h15 h16 h17 h18 h19 h20 h21
inductive Ex
  | leaf (n : Nd)
  | un (n : Nd) (x : Ex)
  | bi (n : Nd) (l r : Ex)
def Ex.top : Ex → Nd
  | .leaf n => n
  | .un n _ => n
  | .bi n _ _ => n
def Ex.size : Ex → Nat
  | .leaf _ => 1
  | .un _ x => 1 + x.size
  | .bi _ l r => 1 + l.size + r.size
def Ex.At (ns : List Nd) : Ex → Nat → Prop
  | .leaf n, i => ns[i]? = some n ∧ 1 ≤ n.k ∧ n.k ≤ 4
  | .un n x, i => ns[i]? = some n ∧ n.k = 5 ∧ ∃ j : Nat, n.x = j ∧ x.At ns j
  | .bi n l r, i => ns[i]? = some n ∧ n.k = 6 ∧ (1 ≤ n.op ∧ n.op ≤ 4) ∧ ∃ j k : Nat, n.x = j ∧ n.y = k ∧ l.At ns j ∧ r.At ns k
theorem Ex.At.top {ns : List Nd} : ∀ {t : Ex} {i : Nat}, t.At ns i → ns[i]? = some t.top
  | .leaf _, _, h => h.1
  | .un _ _, _, h => h.1
  | .bi _ _ _, _, h => h.1
theorem Ex.size_pos : ∀ t : Ex, 1 ≤ t.size
  | .leaf _ => Nat.le_refl _
  | .un _ x => by simp only [Ex.size]; omega
  | .bi _ l r => by simp only [Ex.size]; omega
def sgn (op : Int) : List UInt8 := if op = 1 then [32, 43, 32] else if op = 2 then [32, 42, 32] else if op = 3 then [32, 45, 32] else [32, 94, 32]
structure Tok where
  k : Nat
  t : List UInt8
  l : Nat
  c : Nat
def TOk : List Tok → Prop
  | [] => False
  | [e] => e.k = 0 ∧ e.t = []
  | a :: r => (a.k = 1 ∨ a.k = 3) ∧ TOk r
theorem TOk.tail {a : Tok} {r : List Tok} (h : TOk (a :: r)) (h0 : a.k ≠ 0) : TOk r ∧ (a.k = 1 ∨ a.k = 3) := by
  cases r with
  | nil => exact absurd h.1 h0
  | cons b r => exact ⟨h.2, h.1⟩
theorem TOk.ne {ts : List Tok} (h : TOk ts) : ts ≠ [] := fun e => by rw [e] at h; exact h
theorem TOk.pos {ts : List Tok} (h : TOk ts) : 0 < ts.length := List.length_pos_iff.2 h.ne
theorem TOk.end {a : Tok} {r : List Tok} (h : TOk (a :: r)) (h0 : a.k = 0) : r = [] ∧ a.t = [] := by
  cases r with
  | nil => exact ⟨rfl, h.2⟩
  | cons b r => rcases h.1 with h | h <;> omega
def hd (ts : List Tok) : Tok := ts.headD ⟨0, [], 0, 0⟩
def tis (ts : List Tok) (s : List UInt8) : Bool := decide ((hd ts).k ≠ 0) && decide ((hd ts).t = s)
def opAt (lv : Nat) (ts : List Tok) : Int :=
  if lv = 1 then (if tis ts [43] = true then 1 else if tis ts [45] = true then 3 else if tis ts [94] = true then 4 else 0) else (if tis ts [42] = true then 2 else 0)
abbrev zz : RQ := ⟨false, [], []⟩
def ndB (op x y : Int) (a : Tok) : Nd := ⟨6, [], zz, zz, zz, zz, op, x, y, a.l, a.c⟩
def ndU (x : Int) (a : Tok) : Nd := ⟨5, [], zz, zz, zz, zz, 0, x, 0, a.l, a.c⟩
def ndA (k : Int) (a : Tok) : Nd := ⟨k, [], zz, zz, zz, zz, 0, 0, 0, a.l, a.c⟩
def ndN (a : Tok) : Nd := ⟨1, a.t, zz, zz, zz, zz, 0, 0, 0, a.l, a.c⟩
abbrev wAll : List UInt8 := [97, 108, 108]
abbrev wNone : List UInt8 := [110, 111, 110, 101]
abbrev wHalf : List UInt8 := [104, 97, 108, 102]
def prs : Nat → Nat → Nat → Nat → List Tok → Option (List Nd × Ex) → Option (List Nd × Ex × List Tok)
  | 0, _, _, _, _, _ => none
  | f + 1, lv, d, i, ts, none =>
    if lv = 3 then
      if tis ts [126] = true then
        (if 200 ≤ d then none else match prs f 3 (d + 1) i ts.tail none with
          | some (A, x, ts') => some (A ++ [ndU ((i + A.length : Nat) - 1) (hd ts)], .un (ndU ((i + A.length : Nat) - 1) (hd ts)) x, ts')
          | none => none)
      else if tis ts [40] = true then
        (if 200 ≤ d then none else match prs f 1 (d + 1) i ts.tail none with
          | some (A, x, ts') => if tis ts' [41] = true then some (A, x, ts'.tail) else none
          | none => none)
      else if tis ts wAll = true then some ([ndA 2 (hd ts)], .leaf (ndA 2 (hd ts)), ts.tail)
      else if tis ts wNone = true then some ([ndA 3 (hd ts)], .leaf (ndA 3 (hd ts)), ts.tail)
      else if tis ts wHalf = true then none
      else if (hd ts).k = 1 ∧ resv (hd ts).t = false then some ([ndN (hd ts)], .leaf (ndN (hd ts)), ts.tail)
      else none
    else match prs f (lv + 1) d i ts none with
      | some (A, x, ts') => prs f lv d i ts' (some (A, x))
      | none => none
  | f + 1, lv, d, i, ts, some (A, x) =>
    if opAt lv ts = 0 then some (A, x, ts)
    else match prs f (lv + 1) d (i + A.length) ts.tail none with
      | some (B, y, ts') => prs f lv d i ts' (some (A ++ B ++ [ndB (opAt lv ts) ((i + A.length : Nat) - 1) ((i + A.length + B.length : Nat) - 1) (hd ts)], .bi (ndB (opAt lv ts) ((i + A.length : Nat) - 1) ((i + A.length + B.length : Nat) - 1) (hd ts)) x y))
      | none => none
def prsAll (ts : List Tok) : Option (List Nd × Ex) := match prs (8 * ts.length + 8) 1 0 0 ts none with
  | some (A, x, ts') => if (hd ts').k = 0 then some (A, x) else none
  | none => none
def cntO (ts : List Tok) : Nat := (ts.filter fun a => decide (a.t = [40])).length
theorem tis_ne {ts : List Tok} {s : List UInt8} (h : tis ts s = true) : ∃ a r, ts = a :: r ∧ a.k ≠ 0 ∧ a.t = s := by
  unfold tis hd at h
  cases ts with
  | nil => simp at h
  | cons a r => simp at h; exact ⟨a, r, rfl, h.1, h.2⟩
theorem cntO_cons (a : Tok) (r : List Tok) : cntO (a :: r) = cntO r + (if a.t = [40] then 1 else 0) := by
  unfold cntO
  rw [List.filter_cons]
  by_cases h : a.t = [40]
  · rw [if_pos h, if_pos (by simpa using h)]; rfl
  · rw [if_neg h, if_neg (by simpa using h)]; rfl
theorem opAt_ne {lv : Nat} {ts : List Tok} (h : opAt lv ts ≠ 0) : (∃ a r, ts = a :: r ∧ a.k ≠ 0) ∧ (lv = 1 → opAt lv ts = 1 ∨ opAt lv ts = 3 ∨ opAt lv ts = 4) ∧ (lv ≠ 1 → opAt lv ts = 2) := by
  unfold opAt at *
  by_cases h1 : lv = 1
  · simp only [if_pos h1] at h ⊢
    by_cases c1 : tis ts [43] = true
    · obtain ⟨a, r, e, k, _⟩ := tis_ne c1
      rw [if_pos c1]; exact ⟨⟨a, r, e, k⟩, fun _ => .inl rfl, fun h => absurd h1 h⟩
    · rw [if_neg c1] at h ⊢
      by_cases c2 : tis ts [45] = true
      · obtain ⟨a, r, e, k, _⟩ := tis_ne c2
        rw [if_pos c2]; exact ⟨⟨a, r, e, k⟩, fun _ => .inr (.inl rfl), fun h => absurd h1 h⟩
      · rw [if_neg c2] at h ⊢
        by_cases c3 : tis ts [94] = true
        · obtain ⟨a, r, e, k, _⟩ := tis_ne c3
          rw [if_pos c3]; exact ⟨⟨a, r, e, k⟩, fun _ => .inr (.inr rfl), fun h => absurd h1 h⟩
        · rw [if_neg c3] at h; exact absurd rfl h
  · simp only [if_neg h1] at h ⊢
    by_cases c1 : tis ts [42] = true
    · obtain ⟨a, r, e, k, _⟩ := tis_ne c1
      rw [if_pos c1]; exact ⟨⟨a, r, e, k⟩, fun h => absurd h h1, fun _ => rfl⟩
    · rw [if_neg c1] at h; exact absurd rfl h
def okC (b : UInt8) : Bool := decide (b.toNat = 32) || decide (clsN b.toNat = 3) || decide (clsN b.toNat = 5)
def skipN (l : List UInt8) : Nat := (l.takeWhile fun b => decide (b.toNat = 32)).length
def runN (l : List UInt8) : Nat := (l.takeWhile fun b => decide (clsN b.toNat = 3)).length
theorem takeWhile_le {α : Type} (p : α → Bool) : ∀ l : List α, (l.takeWhile p).length ≤ l.length
  | [] => Nat.le_refl _
  | a :: l => by
    rw [List.takeWhile_cons]
    split
    · simp only [List.length_cons]; have := takeWhile_le p l; omega
    · simp
theorem skipN_le (l : List UInt8) : skipN l ≤ l.length := takeWhile_le _ l
theorem runN_le (l : List UInt8) : runN l ≤ l.length := takeWhile_le _ l
def lexF : Nat → List UInt8 → Nat → Option (List Tok)
  | 0, _, _ => none
  | f + 1, l, c => match l.drop (skipN l) with
    | [] => some [⟨0, [], 1, c + skipN l⟩]
    | b :: r => if clsN b.toNat = 3 then
        (if 24 < runN (b :: r) then none else match lexF f ((b :: r).drop (runN (b :: r))) (c + skipN l + runN (b :: r)) with
          | some ts => some (⟨1, (b :: r).take (runN (b :: r)), 1, c + skipN l⟩ :: ts)
          | none => none)
      else match lexF f r (c + skipN l + 1) with
        | some ts => some (⟨3, [b], 1, c + skipN l⟩ :: ts)
        | none => none
def lexT (l : List UInt8) : Option (List Tok) := lexF (l.length + 1) l 1
theorem runN_pos {b : UInt8} {r : List UInt8} (h : clsN b.toNat = 3) : 1 ≤ runN (b :: r) := by
  unfold runN
  rw [List.takeWhile_cons, if_pos (by simpa using h)]
  simp
theorem lexF_ok : ∀ (f : Nat) (l : List UInt8) (c : Nat) (ts : List Tok), lexF f l c = some ts → TOk ts ∧ cntO ts ≤ (l.filter fun b => decide (b = 40)).length ∧ ∀ a ∈ ts, a.l = 1 ∧ 1 ≤ c → 1 ≤ a.c := by
  intro f
  induction f with
  | zero => intro l c ts h; unfold lexF at h; cases h
  | succ f ih =>
    intro l c ts h
    unfold lexF at h
    have hf : ∀ k, ((l.drop k).filter fun b => decide (b = (40 : UInt8))).length ≤ (l.filter fun b => decide (b = (40 : UInt8))).length := fun k => ((List.drop_sublist k l).filter _).length_le
    have h0 := hf (skipN l)
    cases hl : l.drop (skipN l) with
    | nil =>
      rw [hl] at h
      simp only [Option.some.injEq] at h
      subst h
      refine ⟨⟨rfl, rfl⟩, by unfold cntO; simp, fun a ha h => ?_⟩
      rw [List.mem_singleton.1 ha]
      simp only; omega
    | cons b r =>
      rw [hl] at h h0
      simp only at h
      by_cases h3 : clsN b.toNat = 3
      · rw [if_pos h3] at h
        have hp := runN_pos (r := r) h3
        by_cases h24 : 24 < runN (b :: r)
        · rw [if_pos h24] at h; cases h
        · rw [if_neg h24] at h
          cases hr : lexF f ((b :: r).drop (runN (b :: r))) (c + skipN l + runN (b :: r)) with
          | none => rw [hr] at h; cases h
          | some ts1 =>
            rw [hr] at h
            simp only [Option.some.injEq] at h
            subst h
            obtain ⟨g1, g2, g3⟩ := ih _ _ _ hr
            have hs := (((List.drop_sublist (runN (b :: r)) (b :: r)).filter fun b => decide (b = (40 : UInt8))).length_le)
            refine ⟨?_, ?_, fun a ha h => ?_⟩
            · cases ts1 with
              | nil => exact g1.elim
              | cons a1 r1 => exact ⟨.inl rfl, g1⟩
            · rw [cntO_cons, if_neg]
              · omega
              · intro e
                simp only at e
                have hb : b = 40 := by
                  have h4 : (b :: r).take (runN (b :: r)) = b :: r.take (runN (b :: r) - 1) := by
                    obtain ⟨m, hm⟩ : ∃ m, runN (b :: r) = m + 1 := ⟨runN (b :: r) - 1, by omega⟩
                    rw [hm]; rfl
                  rw [h4] at e
                  exact (List.cons.inj e).1
                rw [hb] at h3
                revert h3; decide +kernel
            · rcases List.mem_cons.1 ha with rfl | ha
              · simp only; omega
              · exact g3 a ha ⟨h.1, by omega⟩
      · rw [if_neg h3] at h
        cases hr : lexF f r (c + skipN l + 1) with
        | none => rw [hr] at h; cases h
        | some ts1 =>
          rw [hr] at h
          simp only [Option.some.injEq] at h
          subst h
          obtain ⟨g1, g2, g3⟩ := ih _ _ _ hr
          refine ⟨?_, ?_, fun a ha h => ?_⟩
          · cases ts1 with
            | nil => exact g1.elim
            | cons a1 r1 => exact ⟨.inr rfl, g1⟩
          · rw [cntO_cons]
            rw [List.filter_cons] at h0
            by_cases hb : b = 40
            · subst hb
              rw [if_pos rfl]
              simp at h0
              omega
            · rw [if_neg (fun e => hb (List.cons.inj e).1)]
              rw [if_neg (by simpa using hb)] at h0
              omega
          · rcases List.mem_cons.1 ha with rfl | ha
            · simp only; omega
            · exact g3 a ha ⟨h.1, by omega⟩
end Go.Ab
