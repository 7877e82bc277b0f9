/- Sentinel errors: package variables that hold a pointer to an errors.errorString; errors.Is of one and the same. -/
import Derived.Test.YthgobgompobhhaaGreatDoorLoop
import Derived.Laws.Externs
namespace Go.Ab
open Go.Proofs
set_option linter.unusedSectionVars false
variable [Base]
/-- where a sentinel's text lies -/
def addrIn : Option Value → Addr
  | some (.iface _ (.pointer (some a))) => a
  | _ => ⟨0, 0, none⟩
def gaddr (g : Nat) : Addr := match Base.mem g with
  | some (.cells arr _ _) => addrIn arr[0]?
  | _ => ⟨0, 0, none⟩
/-- a sentinel -/
abbrev sent (g : Nat) : Value := .iface 287 (.pointer (some (gaddr g)))
class Sent (g : Nat) : Prop where
  h : ∃ (a : Addr) (T : TypeId) (fz : Nat × Nat), Base.mem g = some (.cells #[.iface 287 (.pointer (some a))] T fz)
instance (g : Nat) [s : Sent g] : GV g (sent g) := ⟨by
  obtain ⟨a, T, fz, h⟩ := s.h
  refine ⟨T, fz, ?_⟩
  unfold sent gaddr
  rw [h]; rfl⟩
theorem isTypeOf (v : Value) (w : World) : (Extern.ReflectliteType.typeOf #[.iface 287 v]).run Tryz.prog w = .ok (.iface 184 (.agg #[.pointer (some ⟨(Tryz.prog).globals.size, 287, none⟩)])) w := by kernel_rfl
theorem isComparable (w : World) : ((Extern.ReflectliteType.method fun t => do Extern.Rtype.noPackHeld "Comparable" t; pure (.bool (← typeInfo t).comparable)) #[.agg #[.pointer (some ⟨(Tryz.prog).globals.size, 287, none⟩)]]).run Tryz.prog w = .ok (.bool true) w := by kernel_rfl
theorem isMethodC (v : Value) (w : World) : (Go.method ((Tryz.prog).types.size + Made.depth) 184 v "Comparable").run Tryz.prog w = .ok (232, v) w := by kernel_rfl
section
variable {F : Fr} {H : LH} {ty : TypeId}
theorem ov_typeOf {x : Operand} {v : Value} {tys : Array TypeId} (hx : ev F x = lit (.iface 287 v)) : OpV Tryz.prog (.call ⟨.value (.func 74), [x].toArray, tys⟩) ty F H (lit (.iface 184 (.agg #[.pointer (some ⟨(Tryz.prog).globals.size, 287, none⟩)]))) :=
  OpV.pure fun m w o a ho _ _ _ h => by
    have h0 := h x (by simp [Op.operands, Call.operands]); rw [hx, lit_p] at h0
    have h8 := @run_callFunc_extern Tryz.prog 74 _ Extern.ReflectliteType.typeOf Tryz.func74 (by kernel_rfl) (by kernel_rfl) (by kernel_rfl) (by kernel_rfl)
    refine ⟨_, ?_, lit_p.2 rfl⟩
    have := h8 #[a.eval x] w
    rw [h0, isTypeOf, ← h0] at this
    simp only [execOp, ho, resolve, Sem.run_bind, Sem.run_pure, Result.andThen_ok]
    have e1 : a.eval (.func 74) = .func (.func 74) #[] #[] := rfl
    simp only [e1, Deferred.ofValue, Sem.run_pure, Result.andThen_ok, invoke, List.map_toArray, List.map_cons, List.map_nil, Array.empty_append, Array.append_empty, this]
theorem ov_cmpble {x : Operand} {tys : Array TypeId} (hx : ev F x = lit (.iface 184 (.agg #[.pointer (some ⟨(Tryz.prog).globals.size, 287, none⟩)]))) : OpV Tryz.prog (.call ⟨.invoke x "Comparable", #[], tys⟩) ty F H (lit (.bool true)) :=
  OpV.pure fun m w o a ho _ _ _ h => by
    have h0 := h x (by simp [Op.operands, Call.operands]); rw [hx, lit_p] at h0
    have h8 := @run_callFunc_extern Tryz.prog 232 _ (Extern.ReflectliteType.method fun t => do Extern.Rtype.noPackHeld "Comparable" t; pure (.bool (← typeInfo t).comparable)) Tryz.func232 (by kernel_rfl) (by kernel_rfl) (by kernel_rfl) (by kernel_rfl)
    refine ⟨_, ?_, lit_p.2 rfl⟩
    have := h8 #[.agg #[.pointer (some ⟨(Tryz.prog).globals.size, 287, none⟩)]] w
    have hc := isComparable w
    have hm := isMethodC (.agg #[.pointer (some ⟨(Tryz.prog).globals.size, 287, none⟩)]) w
    rw [hc] at this
    have hz : (callMethod (.iface 184 (.agg #[.pointer (some ⟨(Tryz.prog).globals.size, 287, none⟩)])) "Comparable" #[]).run Tryz.prog w = .ok (.value (.bool true)) w := by
      simp only [callMethod, Sem.run_bind, run_program, Result.andThen_ok, hm, Array.append_empty, this]
    have he : execOp a.eval o = callMethod (a.eval x) "Comparable" #[] := by
      simp [execOp, ho, resolve, invoke]
    rw [he, h0, hz]
theorem ov_isame {g : Nat} {x y : Operand} {T' : TypeId} (hx : ev F x = lit (sent g)) (hy : ev F y = lit (sent g)) : OpV Tryz.prog (.binOp .eql 63 x y T') ty F H (lit (.bool true)) :=
  ov_bin hx hy (fun w => by
    obtain ⟨i, hi, hc⟩ := Option.map_eq_some_iff.1 (show ((Tryz.prog).info? 287).map (·.comparable) = some true by kernel_rfl)
    obtain ⟨j, hj, _⟩ := Option.map_eq_some_iff.1 (show ((Tryz.prog).info? 311).map (·.size) = some 1 by kernel_rfl)
    exact run_eql_iface_ptr_same w _ Tryz.underlying63 Tryz.underlying287 hi hc hj) (fun w => by simp [Go.eqGuard])
end
theorem is1_pu (g : Nat) : Pu Tryz.prog 75 [lit (sent g), lit (sent g), lit (.bool true)] (lit (.bool true)) := by
  refine Pu.intro Tryz.func75 rfl (by kernel_rfl) fun C => ?_
  repeat (refine A1 ⟨?_⟩; intros)
  refine WP.loop (ι := Unit) (fun _ => True) (fun _ => 0) (fun _ => fm [(0, lit (sent g)), (1, lit (sent g)), (2, lit (.bool true))]) (fun _ => []) () trivial (by (repeat (first | exact LeF.nil _ | refine LeF.cons (Le.refl _) ?_ | refine LeF.cons (Le.int (by omega)) ?_))) rfl ?_
  rintro _ _ K hK
  repeat (refine A1 ⟨?_⟩; intros)
  refine WgE ?_
  refine Wo (ov_isame rfl rfl) ?_
  repeat (refine A1 ⟨?_⟩; intros)
  ((first | refine endR ?_ | refine endN ?_); exact end1 (RV.tmp rfl) (Le.refl _))
theorem is_pu (g : Nat) : Pu Tryz.prog 30 [lit (sent g), lit (sent g)] (lit (.bool true)) := by
  refine Pu.intro Tryz.func30 rfl (by kernel_rfl) fun C => ?_
  repeat (refine A1 ⟨?_⟩; intros)
  refine Wo (ov_typeOf rfl) ?_
  refine Wo (ov_cmpble rfl) ?_
  repeat (first | (refine A1 ⟨?_⟩; intros) | (refine Wcx (is1_pu g) ?_) | (refine Wdcx (is1_pu g) ?_) | (refine Wcgx (is1_pu g) ?_) | (refine Wdcgx (is1_pu g) ?_))
  ((first | refine endR ?_ | refine endN ?_); exact end1 (RV.tmp rfl) (Le.refl _))
end Go.Ab
