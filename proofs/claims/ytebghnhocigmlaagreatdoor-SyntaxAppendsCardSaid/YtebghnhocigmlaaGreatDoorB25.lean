/- Texts laid one behind the other: As, Is, RowD, RowE, SynA, Open, RowKit, LaidKit. -/
import Derived.Test.YtebghnhocigmlaaGreatDoorB11
import Derived.WalkKit
import Derived.LaidEql
import Derived.Stop.Asserts
import Derived.RowKitTokens
import Derived.Test.YtebghnhocigmlaaGreatDoorB16
import Derived.Test.YtebghnhocigmlaaGreatDoorB14
import Derived.Deep.Upon
import Derived.Test.YtebghnhocigmlaaGreatDoorB24
import Derived.Test.YtebghnhocigmlaaGreatDoorB03
import Derived.ProofKit
import Derived.OpenShut
import Derived.ChangeOld
import Derived.Below
import Derived.OpenVars
import Derived.Deep.Slices
import Derived.Stop.LaidErr
import Derived.LaidMore
import Derived.Deep.DeepHandedRow
import Derived.Deep.DeepWitnessRowRef
namespace Go.Ab
open Go.Proofs Go.RowKit Go.Extern.Stop Go.Stop Go.Extern
set_option linter.unusedSectionVars false
set_option linter.unusedVariables false
set_option linter.unusedSimpArgs false
theorem valueOf27 (G : Nat) (hG : G = (Tryz.prog).globals.size) (t : Addr) (w : World) : (ReflectliteValue.unpack (.iface 34 (.pointer (some t)))).run Tryz.prog w
    = .ok (.agg #[.pointer (some ⟨G, 34, none⟩), .pointer (some ⟨w.heap.size, 0, none⟩), .int .u64 150]) (w.alloc (.cells #[.pointer (some t)] 34)) := by subst hG; kernel_rfl
theorem type27 (G : Nat) (hG : G = (Tryz.prog).globals.size) (a : Addr) (w : World) : (ReflectliteValue.methodAny (ReflectliteValue.valueError "reflectlite.Value.Type" 0) (fun t _ _ _ => ReflectliteType.toType t) #[.agg #[.pointer (some ⟨G, 34, none⟩), .pointer (some a), .int .u64 150]]).run Tryz.prog w
    = .ok (.iface 128 (.agg #[.pointer (some ⟨G, 34, none⟩)])) w := by subst hG; kernel_rfl
theorem methodKind (h : Value) (w : World) : (Go.method 593 128 (.agg #[h]) "Kind").run Tryz.prog w = .ok (401, h) w := by kernel_rfl
theorem kind27 (G : Nat) (hG : G = (Tryz.prog).globals.size) (w : World) : ((ReflectliteType.abiMethod fun t => (fun a : Nat => Value.int IntKind.u8 (a : Int)) <$> Rtype.kind t) #[.pointer (some ⟨G, 34, none⟩)]).run Tryz.prog w = .ok (.int .u8 22) w := by subst hG; kernel_rfl
theorem kind25 (G : Nat) (hG : G = (Tryz.prog).globals.size) (w : World) : ((ReflectliteType.abiMethod fun t => (fun a : Nat => Value.int IntKind.u8 (a : Int)) <$> Rtype.kind t) #[.pointer (some ⟨G, 32, none⟩)]).run Tryz.prog w = .ok (.int .u8 22) w := by subst hG; kernel_rfl
theorem rlm (z : Sem Value) (f : TypeId → Addr → Nat → Nat → Sem Value) (v : Value) :
    ReflectliteValue.method z f #[v] = (do match ← ReflectliteValue.parts v with | none => z | some (t, a, fl) => f t a fl (fl % 32)) := rfl
theorem parts27 (G : Nat) (hG : G = (Tryz.prog).globals.size) (a : Addr) (w : World) : (ReflectliteValue.parts (.agg #[.pointer (some ⟨G, 34, none⟩), .pointer (some a), .int .u64 150])).run Tryz.prog w = .ok (some (34, a, 150)) w := by subst hG; kernel_rfl
theorem isNil27 (G : Nat) (hG : G = (Tryz.prog).globals.size) (a p : Addr) (W : World) (ha : W.cell? a = some (.pointer (some p))) :
    (ReflectliteValue.method (ReflectliteValue.valueError "reflectlite.Value.IsNil" 0) ReflectliteValue.isNil #[.agg #[.pointer (some ⟨G, 34, none⟩), .pointer (some a), .int .u64 150]]).run Tryz.prog W = .ok (.bool false) W := by
  rw [rlm]
  simp only [Sem.run_bind, parts27 G hG, Result.andThen]
  simp [ReflectliteValue.isNil, loadVar, isAgg, underlying, Tryz.underlying34, ha, Result.andThen]
theorem methodElem (h : Value) (w : World) : (Go.method 593 128 (.agg #[h]) "Elem").run Tryz.prog w = .ok (412, .agg #[h]) w := by kernel_rfl
theorem methodImplements (h : Value) (w : World) : (Go.method 593 128 (.agg #[h]) "Implements").run Tryz.prog w = .ok (413, .agg #[h]) w := by kernel_rfl
theorem methodAssignableTo (h : Value) (w : World) : (Go.method 593 128 (.agg #[h]) "AssignableTo").run Tryz.prog w = .ok (410, .agg #[h]) w := by kernel_rfl
theorem elem27 (G : Nat) (hG : G = (Tryz.prog).globals.size) (w : World) : (ReflectliteType.method ReflectliteType.elem #[.agg #[.pointer (some ⟨G, 34, none⟩)]]).run Tryz.prog w = .ok (.iface 128 (.agg #[.pointer (some ⟨G, 32, none⟩)])) w := by subst hG; kernel_rfl
theorem implements25 (G : Nat) (hG : G = (Tryz.prog).globals.size) (w : World) : (ReflectliteType.relation "Implements" ReflectliteType.implements_ #[.agg #[.pointer (some ⟨G, 32, none⟩)], .iface 128 (.agg #[.pointer (some ⟨G, 25, none⟩)])]).run Tryz.prog w = .ok (.bool true) w := by subst hG; kernel_rfl
theorem typeOf25 (G : Nat) (hG : G = (Tryz.prog).globals.size) (v : Value) (w : World) : (ReflectliteType.typeOf #[.iface 32 v]).run Tryz.prog w = .ok (.iface 128 (.agg #[.pointer (some ⟨G, 32, none⟩)])) w := by subst hG; kernel_rfl
theorem assignable25 (G : Nat) (hG : G = (Tryz.prog).globals.size) (w : World) : (ReflectliteType.relation "AssignableTo" ReflectliteType.assignableTo #[.agg #[.pointer (some ⟨G, 32, none⟩)], .iface 128 (.agg #[.pointer (some ⟨G, 32, none⟩)])]).run Tryz.prog w = .ok (.bool true) w := by subst hG; kernel_rfl
theorem valueOf25 (G : Nat) (hG : G = (Tryz.prog).globals.size) (e : Addr) (w : World) : (ReflectliteValue.unpack (.iface 32 (.pointer (some e)))).run Tryz.prog w
    = .ok (.agg #[.pointer (some ⟨G, 32, none⟩), .pointer (some ⟨w.heap.size, 0, none⟩), .int .u64 150]) (w.alloc (.cells #[.pointer (some e)] 32)) := by subst hG; kernel_rfl
theorem elemOf27 (w : World) : (Rtype.elem? 34).run Tryz.prog w = .ok (some 32) w := by kernel_rfl
theorem mk25 (G : Nat) (hG : G = (Tryz.prog).globals.size) (p : Addr) (w : World) : (ReflectliteValue.mk 32 p ReflectliteValue.flagAddr).run Tryz.prog w = .ok (.agg #[.pointer (some ⟨G, 32, none⟩), .pointer (some p), .int .u64 406]) w := by subst hG; kernel_rfl
theorem elemV27 (G : Nat) (hG : G = (Tryz.prog).globals.size) (a p : Addr) (W : World) (ha : W.cell? a = some (.pointer (some p))) :
    (ReflectliteValue.method (ReflectliteValue.valueError "reflectlite.Value.Elem" 0) ReflectliteValue.elem #[.agg #[.pointer (some ⟨G, 34, none⟩), .pointer (some a), .int .u64 150]]).run Tryz.prog W
      = .ok (.agg #[.pointer (some ⟨G, 32, none⟩), .pointer (some p), .int .u64 406]) W := by
  rw [rlm]
  simp only [Sem.run_bind, parts27 G hG, Result.andThen]
  simp [ReflectliteValue.elem, loadVar, isAgg, underlying, Tryz.underlying34, ha, Result.andThen, elemOf27, mk25 G hG]
theorem rls (v x : Value) : ReflectliteValue.set #[v, x] = (do
    let (some (dst, a, fl), some (src, b, _)) := (← ReflectliteValue.parts v, ← ReflectliteValue.parts x)
      | unsupported (.noEntry "extern/(internal/reflectlite.Value).Set.zeroValue")
    if fl / ReflectliteValue.flagAddr % 2 == 0 then unsupported (.noEntry "extern/(internal/reflectlite.Value).Set.unaddressable")
    let val ← loadVar src b
    if ← Rtype.directlyAssignable dst src then storeVar dst a val
    else if ← Rtype.implements dst src then
      if (← Rtype.kind src) == 20 then
        match val with
        | .nilIface => unsupported (.noEntry "extern/reflectlite: a nil value of one interface type handed on as a value of another")
        | _ => storeVar dst a val
      else storeVar dst a (.iface src val)
    else panicString ("reflectlite.Set: value of type " ++ (← Rtype.spelt src) ++ " is not assignable to type " ++ (← Rtype.spelt dst))
    pure (.tuple #[])) := rfl
theorem parts25a (G : Nat) (hG : G = (Tryz.prog).globals.size) (a : Addr) (w : World) : (ReflectliteValue.parts (.agg #[.pointer (some ⟨G, 32, none⟩), .pointer (some a), .int .u64 406])).run Tryz.prog w = .ok (some (32, a, 406)) w := by subst hG; kernel_rfl
theorem parts25 (G : Nat) (hG : G = (Tryz.prog).globals.size) (a : Addr) (w : World) : (ReflectliteValue.parts (.agg #[.pointer (some ⟨G, 32, none⟩), .pointer (some a), .int .u64 150])).run Tryz.prog w = .ok (some (32, a, 150)) w := by subst hG; kernel_rfl
theorem direct25 (w : World) : (Rtype.directlyAssignable 32 32).run Tryz.prog w = .ok true w := by kernel_rfl
theorem set25 (G : Nat) (hG : G = (Tryz.prog).globals.size) (ta b e : Addr) (old : Value) (W : World) (hb : W.cell? b = some (.pointer (some e))) (ht : W.cell? ta = some old) (hf : W.frozen? ta = false) :
    (ReflectliteValue.set #[.agg #[.pointer (some ⟨G, 32, none⟩), .pointer (some ta), .int .u64 406], .agg #[.pointer (some ⟨G, 32, none⟩), .pointer (some b), .int .u64 150]]).run Tryz.prog W
      = .ok (.tuple #[]) (W.setCell ta (.pointer (some e))) := by
  rw [rls]
  simp only [Sem.run_bind, parts25a G hG, parts25 G hG, Result.andThen]
  simp [ReflectliteValue.flagAddr, loadVar, isAgg, underlying, Tryz.underlying32, hb, Result.andThen, direct25, storeVar, Value.cells, storeCells, Addr.add]
  rw [run_store Tryz.prog W ta _ _ (by rfl)]
  simp [ht, hf]
set_option maxHeartbeats 4000000 in
theorem as_hit (G : Nat) (hG : G = (Tryz.prog).globals.size) (e t : Addr) (old : Value) (w : World) (hg : w.cell? ⟨0, 0, none⟩ = some (.iface 128 (.agg #[.pointer (some ⟨G, 25, none⟩)]))) (ht0 : w.cell? t = some old) (hf0 : w.frozen? t = false) :
    Calls Tryz.prog 13 #[.iface 32 (.pointer (some e)), .iface 34 (.pointer (some t))] w fun ev w' => ev = .returned (.bool true) ∧ w' = ((((w.alloc (.cells #[.pointer (some t)] 34)).alloc (.cells #[.pointer (some ⟨G, 34, none⟩), .pointer (some ⟨w.heap.size, 0, none⟩), .int .u64 150] 82)).alloc (.cells #[.pointer (some ⟨G, 34, none⟩), .pointer (some ⟨w.heap.size, 0, none⟩), .int .u64 150] 82)).alloc (.cells #[.pointer (some e)] 32)).setCell t (.pointer (some e)) := by
  have h6 := @run_callFunc_extern Tryz.prog 30 _ (fun args => ReflectliteValue.unpack (args.getD 0 (.tuple #[]))) Tryz.func30 (by kernel_rfl) (by kernel_rfl) (by kernel_rfl) (by kernel_rfl)
  have h7 := @run_callFunc_extern Tryz.prog 31 _ (ReflectliteValue.methodAny (ReflectliteValue.valueError "reflectlite.Value.Type" 0) (fun t _ _ _ => ReflectliteType.toType t)) Tryz.func31 (by kernel_rfl) (by kernel_rfl) (by kernel_rfl) (by kernel_rfl)
  have h8 := @run_callFunc_extern Tryz.prog 32 _ (ReflectliteValue.method (ReflectliteValue.valueError "reflectlite.Value.IsNil" 0) ReflectliteValue.isNil) Tryz.func32 (by kernel_rfl) (by kernel_rfl) (by kernel_rfl) (by kernel_rfl)
  have h27 := @run_callFunc_extern Tryz.prog 401 _ (ReflectliteType.abiMethod fun t => do pure (.int .u8 (← Rtype.kind t))) Tryz.func401 (by kernel_rfl) (by kernel_rfl) (by kernel_rfl) (by kernel_rfl)
  have h37 := @run_callFunc_extern Tryz.prog 412 _ (ReflectliteType.method ReflectliteType.elem) Tryz.func412 (by kernel_rfl) (by kernel_rfl) (by kernel_rfl) (by kernel_rfl)
  have h38 := @run_callFunc_extern Tryz.prog 413 _ (ReflectliteType.relation "Implements" ReflectliteType.implements_) Tryz.func413 (by kernel_rfl) (by kernel_rfl) (by kernel_rfl) (by kernel_rfl)
  have h10 := @run_callFunc_extern Tryz.prog 34 _ ReflectliteType.typeOf Tryz.func34 (by kernel_rfl) (by kernel_rfl) (by kernel_rfl) (by kernel_rfl)
  have h35 := @run_callFunc_extern Tryz.prog 410 _ (ReflectliteType.relation "AssignableTo" ReflectliteType.assignableTo) Tryz.func410 (by kernel_rfl) (by kernel_rfl) (by kernel_rfl) (by kernel_rfl)
  have h11 := @run_callFunc_extern Tryz.prog 58 _ (ReflectliteValue.method (ReflectliteValue.valueError "reflectlite.Value.Elem" 0) ReflectliteValue.elem) Tryz.func58 (by kernel_rfl) (by kernel_rfl) (by kernel_rfl) (by kernel_rfl)
  have h12 := @run_callFunc_extern Tryz.prog 59 _ ReflectliteValue.set Tryz.func59 (by kernel_rfl) (by kernel_rfl) (by kernel_rfl) (by kernel_rfl)
  have tO := typeOf25 G hG
  have mA := methodAssignableTo
  have a25 := assignable25 G hG
  have v25 := valueOf25 G hG
  have f6 := valueOf27 G hG
  have f7 := type27 G hG
  have mK := methodKind
  have mE := methodElem
  have mI := methodImplements
  have k27 := kind27 G hG
  have k25 := kind25 G hG
  have e27 := elem27 G hG
  have i25 := implements25 G hG
  have n8 := isNil27 G hG ⟨w.heap.size, 0, none⟩ t ((w.alloc (.cells #[.pointer (some t)] 34)).alloc (.cells #[.pointer (some ⟨G, 34, none⟩), .pointer (some ⟨w.heap.size, 0, none⟩), .int .u64 150] 82)) (by simp)
  have hlt : 0 < w.heap.size := by
    rcases Nat.eq_zero_or_pos w.heap.size with h0 | h
    · simp [World.cell?, h0] at hg
    · exact h
  have hg2 : ((w.alloc (.cells #[.pointer (some t)] 34)).alloc (.cells #[.pointer (some ⟨G, 34, none⟩), .pointer (some ⟨w.heap.size, 0, none⟩), .int .u64 150] 82)).cell? ⟨0, 0, none⟩ = some (.iface 128 (.agg #[.pointer (some ⟨G, 25, none⟩)])) := by
    rw [World.cell?_alloc_lt _ _ ⟨0, 0, none⟩ (by simp), World.cell?_alloc_lt _ _ ⟨0, 0, none⟩ hlt]; exact hg
  have htl : t.block < w.heap.size := by
    rcases Nat.lt_or_ge t.block w.heap.size with h | h
    · exact h
    · simp [World.cell?, Array.getElem?_eq_none h] at ht0
  have el := elemV27 G hG ⟨w.heap.size, 0, none⟩ t (((w.alloc (.cells #[.pointer (some t)] 34)).alloc (.cells #[.pointer (some ⟨G, 34, none⟩), .pointer (some ⟨w.heap.size, 0, none⟩), .int .u64 150] 82)).alloc (.cells #[.pointer (some ⟨G, 34, none⟩), .pointer (some ⟨w.heap.size, 0, none⟩), .int .u64 150] 82)) (by rw [World.cell?_alloc_lt _ _ ⟨w.heap.size, 0, none⟩ (by simp; omega)]; simp)
  have st := set25 G hG t ⟨w.heap.size + 1 + 1 + 1, 0, none⟩ e old ((((w.alloc (.cells #[.pointer (some t)] 34)).alloc (.cells #[.pointer (some ⟨G, 34, none⟩), .pointer (some ⟨w.heap.size, 0, none⟩), .int .u64 150] 82)).alloc (.cells #[.pointer (some ⟨G, 34, none⟩), .pointer (some ⟨w.heap.size, 0, none⟩), .int .u64 150] 82)).alloc (.cells #[.pointer (some e)] 32))
    (by rw [World.cell?_alloc_at _ _ _ _ (by simp)]; rfl)
    (by rw [World.cell?_alloc_lt _ _ t (by simp; omega), World.cell?_alloc_lt _ _ t (by simp; omega), World.cell?_alloc_lt _ _ t (by simp; omega), World.cell?_alloc_lt _ _ t htl]; exact ht0)
    (by rw [World.frozen?_alloc_old _ _ t (by simp; omega), World.frozen?_alloc_old _ _ t (by simp; omega), World.frozen?_alloc_old _ _ t (by simp; omega), World.frozen?_alloc_old _ _ t (Nat.ne_of_lt htl)]; exact hf0)
  clear hG
  go_enter Tryz.func13, Tryz.ntmps13
  go_wp2
  refine wp_loop_rounds 1 ?_
  rw [rounds_succ]
  go_wp2
  go_ret
  exact ⟨rfl, rfl⟩
theorem heap_alloc_lt (w : World) (o : Obj) (k : Nat) (h : k < w.heap.size) : (w.alloc o).heap[k]? = w.heap[k]? := by
  simp only [World.alloc]
  rw [Array.getElem?_push_lt h, Array.getElem?_eq_getElem h]
noncomputable abbrev errT : Value := .iface 128 (.agg #[.pointer (some ⟨(Tryz.prog).globals.size, 25, none⟩)])
set_option maxHeartbeats 1000000 in
theorem as_pu [Base] [gv : GV 0 errT] {cs : List SV} {b : Nat} {s0 : SV} :
    PuH Tryz.prog 13 [ifc 32 (pt cs), lit (.iface 34 (.pointer (some ⟨b, 0, none⟩)))] [(b, 32, [s0])] (fun r H' => r = lit (.bool true) ∧ H' = [(b, 32, [pt cs])]) noX := by
  unfold PuH
  refine ⟨by kernel_rfl, fun m w vs hm hH ha => ?_⟩
  obtain ⟨v0, v1, rfl, h0, h1⟩ : ∃ v0 v1, vs = [v0, v1] ∧ (ifc 32 (pt cs)).p m v0 ∧ (lit (.iface 34 (.pointer (some ⟨b, 0, none⟩)))).p m v1 := by
    match vs, ha with
    | [v0, v1], ha => exact ⟨v0, v1, rfl, ha.1, ha.2.1⟩
  rw [lit_p] at h1
  subst h1
  unfold ifc at h0
  obtain ⟨u, rfl, hu⟩ := h0
  have hu' := hu
  unfold pt at hu'
  obtain ⟨a, off, rfl, hat⟩ := hu'
  obtain ⟨hmb, arr, hb, hal⟩ := hH.2 _ List.mem_cons_self
  simp only at hmb hb hal
  have hlt : b < w.heap.size := (Array.getElem?_eq_some_iff.1 hb).1
  obtain ⟨old, hao⟩ : ∃ old, arr = #[old] := by
    obtain ⟨l⟩ := arr
    match l, hal with
    | [v], _ => exact ⟨v, rfl⟩
  subst hao
  obtain ⟨T, fz, hg⟩ := gv.h
  have hg' := hm _ _ (hm.base _ _ hg)
  have hc := as_hit _ rfl ⟨a, off, none⟩ ⟨b, 0, none⟩ old w (by simp [World.cell?, hg']) (by simp [World.cell?, hb]) (by simp [World.frozen?, hb])
  refine hc.mono fun e w' ⟨he, hw⟩ => ?_
  subst he
  obtain ⟨w4, hw4⟩ : ∃ w4, w4 = ((((w.alloc (.cells #[.pointer (some ⟨b, 0, none⟩)] 34)).alloc (.cells #[.pointer (some ⟨(Tryz.prog).globals.size, 34, none⟩), .pointer (some ⟨w.heap.size, 0, none⟩), .int .u64 150] 82)).alloc (.cells #[.pointer (some ⟨(Tryz.prog).globals.size, 34, none⟩), .pointer (some ⟨w.heap.size, 0, none⟩), .int .u64 150] 82)).alloc (.cells #[.pointer (some ⟨a, off, none⟩)] 32)) := ⟨_, rfl⟩
  rw [← hw4] at hw
  have hold : ∀ k, k < w.heap.size → w4.heap[k]? = w.heap[k]? := fun k hk => by
    rw [hw4, heap_alloc_lt _ _ _ (by simp; omega), heap_alloc_lt _ _ _ (by simp; omega), heap_alloc_lt _ _ _ (by simp; omega), heap_alloc_lt _ _ _ hk]
  have hsz : w4.heap.size = w.heap.size + 4 := by rw [hw4]; simp
  have hb4 : w4.heap[b]? = some (.cells #[old] 32 (0, 0)) := (hold b hlt).trans hb
  have hbn := heap_set_self w4 b #[old] 32 0 (.pointer (some ⟨a, off, none⟩)) hb4
  rw [← hw] at hbn
  have hne : ∀ k, k < w.heap.size → k ≠ b → w'.heap[k]? = w.heap[k]? := fun k hk hkb => by
    rw [hw, heap_set_ne _ _ _ _ _ hkb, hold k hk]
  refine ⟨m, [(b, 32, [pt cs])], ⟨fun k o hk => ?_, hm.base⟩, ⟨by simp, fun e he => ?_⟩, ⟨Mem.le_refl m, fun _ _ _ => rfl, ?_, ?_, ?_, ?_, fun k hk hn => ?_⟩, fun e he => ?_, .inl ⟨_, _, rfl, lit_p.2 rfl, rfl, rfl⟩⟩
  · have h := hm _ _ hk
    have hkb : k ≠ b := fun h => by rw [h, hmb] at hk; cases hk
    rw [hne k (Array.getElem?_eq_some_iff.1 h).1 hkb]; exact h
  · obtain rfl := List.mem_singleton.1 he
    exact ⟨hmb, _, hbn, ⟨hu, rfl⟩, trivial⟩
  · rw [hw, hw4]; rfl
  · rw [hw, hw4]; rfl
  · rw [hw, hw4]; rfl
  · rw [hw]; simp only [World.setCell, Array.size_modify, hsz]; omega
  · exact hne k hk fun h => hn (by simp [keys, h])
  · obtain rfl := List.mem_singleton.1 he
    exact .inl (by simp [keys])
end Go.Ab
namespace Go.Ab
open Go.Proofs
set_option linter.unusedSectionVars false
set_option linter.unusedVariables false
set_option linter.unusedSimpArgs false
variable [Base]
section
variable {F : Fr} {H : LH} {ty : TypeId}
theorem ov_ieqT {T T' u u' : TypeId} {s : SV} {v' : Value} {x y : Operand} {ms : Array (String × TypeId)} (hT : (Tryz.prog).underlying T = some (.interface ms)) (hne : u ≠ u') (hx : ev F x = ifc u s) (hy : ev F y = lit (.iface u' v')) : OpV Tryz.prog (.binOp .eql T x y T') ty F H (lit (.bool false)) :=
  OpV.pure fun m w o a ho _ _ _ h => by
    have h0 := h x (by simp [Op.operands]); rw [hx] at h0
    have h1 := h y (by simp [Op.operands]); rw [hy, lit_p] at h1
    unfold ifc at h0
    obtain ⟨v, h0, _⟩ := h0
    exact ⟨.bool false, by simp [execOp, ho, h0, h1, run_eql_iface_types u u' v v' hT hne w, Go.eqGuard], lit_p.2 rfl⟩
theorem ov_asIs {s : SV} {x : Operand} (hx : ev F x = ifc 32 s) : OpV Tryz.prog (.typeAssert x 25 140 true) ty F H (Ab.tup [lit .nilIface, lit (.bool false)]) :=
  OpV.pure fun m w o a ho _ _ _ h => by
    have h0 := h x (by simp [Op.operands]); rw [hx] at h0
    unfold ifc at h0
    obtain ⟨v, h0, _⟩ := h0
    have hrun : (Instr.typeAssert (.iface 32 v) 25 140 true).run Tryz.prog w = .ok (.tuple #[.nilIface, .bool false]) w := run_typeAssert_lacksB Tryz.underlying140 (by kernel_rfl) (by kernel_rfl) v _ w
    refine ⟨.tuple #[.nilIface, .bool false], by simp [execOp, ho, h0, hrun], ?_⟩
    unfold Ab.tup
    exact ⟨_, rfl, lit_p.2 rfl, lit_p.2 rfl, trivial⟩
theorem ov_asUn {s : SV} {x : Operand} (hx : ev F x = ifc 32 s) : OpV Tryz.prog (.typeAssert x 25 135 true) ty F H (Ab.tup [ifc 32 s, lit (.bool true)]) :=
  OpV.pure fun m w o a ho _ _ _ h => by
    have h0 := h x (by simp [Op.operands]); rw [hx] at h0
    have h00 := h0
    unfold ifc at h0
    obtain ⟨v, h0, _⟩ := h0
    have hrun : (Instr.typeAssert (.iface 32 v) 25 135 true).run Tryz.prog w = .ok (.tuple #[.iface 32 v, .bool true]) w := run_typeAssert_hasB Tryz.underlying135 (by kernel_rfl) v _ w
    refine ⟨.tuple #[.iface 32 v, .bool true], by simp [execOp, ho, h0, hrun], ?_⟩
    rw [h0] at h00
    unfold Ab.tup
    exact ⟨_, rfl, h00, lit_p.2 rfl, trivial⟩
end
theorem unwM (v : Value) (w : World) : (Go.method ((Tryz.prog).types.size + Made.depth) 32 v "Unwrap").run Tryz.prog w = .ok (405, v) w := by kernel_rfl
theorem unwrap_pu (e : Er) : Pu Tryz.prog 405 [pt (erC e)] (lit (sent (eg e.k))) := by
  refine Pu.intro Tryz.func405 rfl (by kernel_rfl) fun C => ?_
  repeat (refine A1 ⟨?_⟩; intros)
  ((first | refine endR ?_ | refine endN ?_); exact end1 (RV.tmp rfl) (Le.refl _))
theorem isE1_pu (e : Er) : Pu Tryz.prog 35 [erSV e, lit (sent (eg e.k)), lit (.bool true)] (lit (.bool true)) := by
  have c := unwrap_pu e
  refine Pu.intro Tryz.func35 rfl (by kernel_rfl) fun C => ?_
  repeat (refine A1 ⟨?_⟩; intros)
  refine WP.unroll 3 ?_
  refine WPR.succ ?_
  repeat (refine A1 ⟨?_⟩; intros)
  refine WgE ?_
  refine Wo (ov_ieqT Tryz.underlying25 (by decide) rfl rfl) ?_
  repeat (refine A1 ⟨?_⟩; intros)
  refine Wo (ov_asIs rfl) ?_
  repeat (refine A1 ⟨?_⟩; intros)
  refine Wo (ov_asUn rfl) ?_
  repeat (refine A1 ⟨?_⟩; intros)
  refine Wo (ov_invoke unwM c rfl rfl) ?_
  repeat (refine A1 ⟨?_⟩; intros)
  refine WgE ?_
  refine Wo (ov_isame rfl rfl) ?_
  repeat (refine A1 ⟨?_⟩; intros)
  ((first | refine endR ?_ | refine endN ?_); exact end1 (RV.tmp rfl) (Le.refl _))
theorem isE_pu (e : Er) : Pu Tryz.prog 14 [erSV e, lit (sent (eg e.k))] (lit (.bool true)) := by
  have c := isE1_pu e
  refine Pu.intro Tryz.func14 rfl (by kernel_rfl) fun C => ?_
  repeat (refine A1 ⟨?_⟩; intros)
  refine Wo (ov_ieqF (s := pt _) (by kernel_rfl) rfl) ?_
  repeat (refine A1 ⟨?_⟩; intros)
  refine Wo (ov_typeOf rfl) ?_
  refine Wo (ov_cmpble rfl) ?_
  repeat (first | (refine A1 ⟨?_⟩; intros) | (refine Wcx (c) ?_) | (refine Wdcx (c) ?_) | (refine Wcgx (c) ?_) | (refine Wdcgx (c) ?_))
  ((first | refine endR ?_ | refine endN ?_); exact end1 (RV.tmp rfl) (Le.refl _))
section
variable {P : Program} {C : Ctx} {n : Nat} {F : Fr} {H : LH} {ops : Array Oper} {K : Fr → LH → Prop} {rest : List Oper} {ty : TypeId} {pos : String} {aft : Array Edge}
theorem WPL.appAllS {T e : TypeId} {sz by_ : Nat} {z : List SV} {g : Bool} [hS : TSl P T e] [hT : TY P e sz by_ z g] {d : Nat} {x y : Operand} {b0 k0 : Nat} {ds : List SV}
    (hx : ev F x = lit (.slice (some ⟨b0, 0, none⟩) 0 0)) (hy : ev F y = sl ds k0) (hds : ds.length = k0 * sz) (hpos : 0 < k0 * sz) (hl : k0 ≤ 1000000000) (hby : by_ ≤ 10000)
    (k : ∀ s' H', Own e sz k0 ds s' H' → WPL P C n ops rest K (upd F d s') (H' ++ H)) (hd : Nat.blt d n = true := by exact rfl) :
    WPL P C n ops (⟨some d, .call ⟨.builtin .append, #[x, y], #[T, T]⟩, ty, pos, aft, none⟩ :: rest) K F H := by
  unfold WPL
  intro a w hs Q hq
  have hk0 : 0 < k0 := Nat.pos_of_ne_zero fun e => by rw [e, Nat.zero_mul] at hpos; omega
  refine wpList_plain rfl fun K' hK' => ?_
  obtain ⟨hdef, hn, m0, h10, h20, h30, h40, h50⟩ := id hs
  have hp0 : ∀ x, (ev F x).p m0 (a.eval x) := fun x => by
    cases x with
    | tmp t => exact h50 t
    | const v => unfold ev lit; rfl
    | global g => unfold ev lit; rfl
    | func f => unfold ev lit; rfl
  have e0 := hp0 x; rw [hx, lit_p] at e0
  have e1 := hp0 y; rw [hy] at e1
  obtain ⟨ad2, c2, e1, hc1, hc2, hcb⟩ := sl_cells e1
  obtain ⟨b2, off2, rfl, arr2, T2, fz2, hbm2, hall2⟩ := hcb.resolve_left (fun h => by rw [h] at hds; simp at hds; omega)
  have hb2 := h10 _ _ hbm2
  rw [hds] at hall2
  generalize hl2 : (arr2.toList.drop off2).take (k0 * sz) = l2 at hall2
  obtain ⟨i, v, hi, hsz, hbyt, hz, hzl, hfl, hvs⟩ := hT.run_bytes
  have hlen2 := hall2.length
  have hys : ∀ j u, l2[j]? = some u → w.cell? ((⟨b2, off2, none⟩ : Addr).add j) = some u := fun j u hj => by
    rw [add_none, cell_of w b2 _ arr2 _ _ hb2]
    rw [← hl2, List.getElem?_take] at hj
    split at hj
    · rw [List.getElem?_drop] at hj; simpa using hj
    · cases hj
  have hexec : execOp a.eval (⟨some d, .call ⟨.builtin .append, #[x, y], #[T, T]⟩, ty, pos, aft, none⟩ : Oper) = (do let v ← Builtin.append_ #[T, T] ty #[a.eval x, a.eval y]; pure (.value v)) := by
    simp [execOp, resolve, invoke, builtin]
  have hmul : ∀ q, q ≤ 1000000001 → q * by_ ≤ 140737488355328 := fun q hq => Nat.le_trans (Nat.mul_le_mul hq hby) (by decide)
  have get2 : ∀ m, MemIn m w → (ev F y).p m (a.eval y) → All2 m ds l2 := fun m h1 h2 => by
    rw [hy, e1] at h2
    obtain ⟨ad3, c3, e3, _, _, hcb3⟩ := sl_cells h2
    obtain ⟨b3, off3, rfl, arr3, T3, fz3, hbm3, hall3⟩ := hcb3.resolve_left (fun h => by rw [h] at hds; simp at hds; omega)
    have hb3 := h1 _ _ hbm3
    simp only [Value.slice.injEq, Option.some.injEq, Addr.mk.injEq, and_true, true_and] at e3
    obtain ⟨⟨rfl, rfl⟩, _⟩ := e3
    rw [hb2] at hb3
    simp only [Option.some.injEq, Obj.cells.injEq] at hb3
    obtain ⟨rfl, _⟩ := hb3
    rw [hds, hl2] at hall3
    exact hall3
  unfold Oper.wp
  rw [hexec, e1, e0]
  have hrun := run_append_grow (P := P) w T ty e i v hS.h hi hz ⟨b0, 0, none⟩ 0 0 [] (by simp) (by intro j u hj; simp at hj) ⟨b2, off2, none⟩ k0 c2 l2 (by rw [hlen2, hsz, hds]) hys (by omega) (by omega) (growslice_fits (by omega) (by rw [hbyt]; exact hmul _ (by omega)))
  simp only [Sem.run_bind, hrun, Result.andThen_ok, Sem.run_pure]
  have hge := grownCap_ge w (0 + k0) 0 e
  have hle := grownCap_le_maxLen w (0 + k0) 0 e (by simp only [maxLen]; omega)
  have h := k (lit (.slice (some ⟨w.heap.size, 0, none⟩) (0 + k0) (grownCap w (0 + k0) 0 e))) [(w.heap.size, e, ds ++ List.replicate (grownCap w (0 + k0) 0 e * sz - k0 * sz) top)]
    ⟨hds, .inr ⟨w.heap.size, grownCap w (0 + k0) 0 e, by omega, hle, by rw [Nat.zero_add], rfl⟩⟩
  unfold WPL at h
  refine hK' _ _ (h _ _ (St.pushD (Nat.blt_eq.mp hd) hs fun m h1 h2 h3 => ?_) Q hq)
  simp only [Array.toList_append, List.toList_toArray, List.nil_append]
  refine (get2 m h1 (h3 y)).append (All2.topL ?_ (zeroCells_one hfl))
  rw [Array.length_toList, size_zeroCells, hvs, Nat.zero_add, Nat.sub_mul]
end
section
variable {P : Program} {C : Ctx} {n : Nat} {F : Fr} {H : LH} {ops : Array Oper} {K : Fr → LH → Prop} {rest : List Oper} {ty : TypeId} {pos : String} {aft : Array Edge}
theorem ov_appE {T e : TypeId} {sz by_ : Nat} {z : List SV} {g : Bool} [hS : TSl P T e] [hT : TY P e sz by_ z g] {x y : Operand} {ao : Option Addr} {k c : Nat} (hx : ev F x = lit (.slice ao k c)) (hy : ev F y = sl [] 0) (hkc : k ≤ c) :
    OpV P (.call ⟨.builtin .append, #[x, y], #[T, T]⟩) ty F H (lit (.slice ao k c)) :=
  OpV.pure fun m w o a ho _ _ _ h => by
    have e0 := h x (by simp [Op.operands, Call.operands]); rw [hx, lit_p] at e0
    have e1 := h y (by simp [Op.operands, Call.operands]); rw [hy] at e1
    obtain ⟨ad2, c2, e1, hc1, hc2, hcb⟩ := sl_cells e1
    obtain ⟨i, v, hi, hsz, hbyt, hz, hzl, hfl, hvs⟩ := hT.run_bytes
    have hs : Src P i.size T (.slice ad2 0 c2) 0 [] w := by
      cases ad2 with
      | none => exact Src.ofNil w hS.h c2
      | some a2 => exact Src.ofSlice w hS.h a2 0 c2 [] (by simp) (by intro j u hj; simp at hj) (by intro u hu; cases hu)
    have hrun := run_append_nothing (P := P) w T T o.type e i hS.h hi ao k c hkc _ hs
    refine ⟨.slice ao k c, ?_, lit_p.2 rfl⟩
    rw [← e1] at hrun
    simp [execOp, ho, resolve, invoke, builtin, e0, hrun]
theorem WPL.appOwnK {T e : TypeId} {sz by_ : Nat} {z : List SV} {g : Bool} [hS : TSl P T e] [hT : TY P e sz by_ z g] {d : Nat} {x y : Operand} {n0 k0 : Nat} {cs ds : List SV} {s : SV} {Hs Rs : LH}
    (hown : Own e sz n0 cs s Hs) (hx : ev F x = s) (hy : ev F y = sl ds k0) (hsp : Spl H Hs Rs) (hds : ds.length = k0 * sz) (hpos : 0 < k0 * sz) (hl : n0 + k0 ≤ 1000000000) (hby : by_ ≤ 10000)
    (k : ∀ s' H', Own e sz (n0 + k0) (cs ++ ds) s' H' → WPL P C n ops rest K (upd F d s') (H' ++ Rs)) (hd : Nat.blt d n = true) :
    WPL P C n ops (⟨some d, .call ⟨.builtin .append, #[x, y], #[T, T]⟩, ty, pos, aft, none⟩ :: rest) K F H := by
  unfold WPL
  intro a w hs0 Q hq
  have hs := hs0.perm hsp.perm
  have hk0 : 0 < k0 := Nat.pos_of_ne_zero fun e => by rw [e, Nat.zero_mul] at hpos; omega
  refine wpList_plain rfl fun K' hK' => ?_
  obtain ⟨hdef, hn, m0, h10, h20, h30, h40, h50⟩ := id hs
  have hp0 : ∀ x, (ev F x).p m0 (a.eval x) := fun x => by
    cases x with
    | tmp t => exact h50 t
    | const v => unfold ev lit; rfl
    | global g => unfold ev lit; rfl
    | func f => unfold ev lit; rfl
  have e0 := hp0 x; rw [hx] at e0
  have e1 := hp0 y; rw [hy] at e1
  obtain ⟨ad2, c2, e1, hc1, hc2, hcb⟩ := sl_cells e1
  obtain ⟨b2, off2, rfl, arr2, T2, fz2, hbm2, hall2⟩ := hcb.resolve_left (fun h => by rw [h] at hds; simp only [List.length_nil] at hds; omega)
  have hb2 := h10 _ _ hbm2
  rw [hds] at hall2
  generalize hl2 : (arr2.toList.drop off2).take (k0 * sz) = l2 at hall2
  obtain ⟨i, v, hi, hsz, hbyt, hz, hzl, hfl, hvs⟩ := hT.run_bytes
  have hlen2 := hall2.length
  have hys : ∀ j u, l2[j]? = some u → w.cell? ((⟨b2, off2, none⟩ : Addr).add j) = some u := fun j u hj => by
    rw [add_none, cell_of w b2 _ arr2 _ _ hb2]
    rw [← hl2, List.getElem?_take] at hj
    split at hj
    · rw [List.getElem?_drop] at hj; simpa using hj
    · cases hj
  have hexec : execOp a.eval (⟨some d, .call ⟨.builtin .append, #[x, y], #[T, T]⟩, ty, pos, aft, none⟩ : Oper) = (do let v ← Builtin.append_ #[T, T] ty #[a.eval x, a.eval y]; pure (.value v)) := by
    simp [execOp, resolve, invoke, builtin]
  have hmul : ∀ q, q ≤ 1000000001 → q * by_ ≤ 140737488355328 := fun q hq => Nat.le_trans (Nat.mul_le_mul hq hby) (by decide)
  have get2 : ∀ m, MemIn m w → (ev F y).p m (a.eval y) → All2 m ds l2 := fun m h1 h2 => by
    rw [hy, e1] at h2
    obtain ⟨ad3, c3, e3, _, _, hcb3⟩ := sl_cells h2
    obtain ⟨b3, off3, rfl, arr3, T3, fz3, hbm3, hall3⟩ := hcb3.resolve_left (fun h => by rw [h] at hds; simp only [List.length_nil] at hds; omega)
    have hb3 := h1 _ _ hbm3
    simp only [Value.slice.injEq, Option.some.injEq, Addr.mk.injEq, and_true, true_and] at e3
    obtain ⟨⟨rfl, rfl⟩, _⟩ := e3
    rw [hb2] at hb3
    simp only [Option.some.injEq, Obj.cells.injEq] at hb3
    obtain ⟨rfl, _⟩ := hb3
    rw [hds, hl2] at hall3
    exact hall3
  unfold Oper.wp
  rw [hexec, e1]
  obtain ⟨hcl, hcase⟩ := hown
  rcases hcase with ⟨rfl, rfl, rfl⟩ | ⟨b, c, hnc, hcm, rfl, rfl⟩
  · rw [lit_p] at e0
    have hcs : cs = [] := List.eq_nil_of_length_eq_zero (by rw [hcl, Nat.zero_mul])
    subst hcs
    have hrun := run_append_nil (P := P) w T ty e i v hS.h hi hz ⟨b2, off2, none⟩ k0 c2 l2 (by rw [hlen2, hsz, hds]) hys hk0 (by omega) (by rw [hbyt]; have := hmul k0 (by omega); omega)
    rw [e0]
    simp only [Sem.run_bind, hrun, Result.andThen_ok, Sem.run_pure]
    have hge := grownCap_ge w k0 0 e
    have hle := grownCap_le_maxLen w k0 0 e (by simp only [maxLen]; omega)
    have h := k (lit (.slice (some ⟨w.heap.size, 0, none⟩) k0 (grownCap w k0 0 e))) [(w.heap.size, e, ([] ++ ds) ++ List.replicate (grownCap w k0 0 e * sz - k0 * sz) top)] ⟨by rw [List.nil_append, hds, Nat.zero_add], .inr ⟨w.heap.size, grownCap w k0 0 e, by omega, hle, by rw [Nat.zero_add], by rw [Nat.zero_add]⟩⟩
    unfold WPL at h
    refine hK' _ _ (h _ _ (St.pushD (Nat.blt_eq.mp hd) hs fun m h1 h2 h3 => ?_) Q hq)
    simp only [Array.toList_append, List.toList_toArray, List.nil_append]
    refine (get2 m h1 (h3 y)).append (All2.topL ?_ (zeroCells_one hfl))
    rw [Array.length_toList, size_zeroCells, hvs, Nat.sub_mul]
  · rw [lit_p] at e0
    obtain ⟨hmb, arr, hb, hall⟩ := h20.2 _ (List.mem_append_left Rs (List.mem_singleton.2 rfl))
    have hlen := hall.length
    simp only [List.length_append, List.length_replicate, hcl, Array.length_toList] at hlen
    have hmono : n0 * sz ≤ c * sz := Nat.mul_le_mul_right _ hnc
    have getc : ∀ m, HOk m w ([(b, e, cs ++ List.replicate (c * sz - n0 * sz) top)] ++ Rs) → All2 m (cs ++ List.replicate (c * sz - n0 * sz) top) arr.toList := fun m h2 => by
      obtain ⟨_, arr', hb', hall'⟩ := h2.2 _ (List.mem_append_left Rs (List.mem_singleton.2 rfl))
      rw [hb] at hb'
      simp only [Option.some.injEq, Obj.cells.injEq] at hb'
      obtain ⟨rfl, _⟩ := hb'
      exact hall'
    by_cases hroom : n0 + k0 ≤ c
    · have hm1 : (n0 + k0) * sz ≤ c * sz := Nat.mul_le_mul_right _ hroom
      rw [Nat.add_mul] at hm1
      have hrun := run_append_room (P := P) w T ty e i hS.h hi b n0 c arr hb ⟨b2, off2, none⟩ k0 c2 l2 (by rw [hlen2, hsz, hds]) hys hall2.flat hroom (by rw [hsz, hlen2, hds]; omega)
      rw [e0]
      simp only [Sem.run_bind, hrun, Result.andThen_ok, Sem.run_pure]
      have h := k (lit (.slice (some ⟨b, 0, none⟩) (n0 + k0) c)) [(b, e, (cs ++ ds) ++ List.replicate (c * sz - (n0 + k0) * sz) top)] ⟨by rw [List.length_append, hcl, hds, Nat.add_mul], .inr ⟨_, _, hroom, hcm, rfl, rfl⟩⟩
      unfold WPL at h
      have hfin : All2 m0 ((cs ++ ds) ++ List.replicate (c * sz - (n0 + k0) * sz) top) (arr.toList.take (n0 * i.size) ++ l2 ++ arr.toList.drop (n0 * i.size + l2.length)).toArray.toList := by
        obtain ⟨q1, q2⟩ := (getc m0 h20).split
        rw [hcl] at q1 q2
        rw [hsz, hlen2, hds, List.toList_toArray]
        refine (q1.append (get2 m0 h10 (hp0 y))).append (All2.topL ?_ fun u hu => ?_)
        · rw [List.length_drop, Array.length_toList, Nat.add_mul]; omega
        · exact hall.flat u (List.mem_of_mem_drop hu)
      obtain ⟨q1, q2, q3, q4⟩ := write_ok (w' := w.setRow b (arr.toList.take (n0 * i.size) ++ l2 ++ arr.toList.drop (n0 * i.size + l2.length)).toArray) h10 h20 h30 h40 (.here Rs)
        (setRow_heap w b arr _ e _ hb) (fun j hj => setRow_other w b j _ hj) rfl rfl rfl (by simp) hfin
      refine hK' _ _ (h (a.put (some d) (.slice (some ⟨b, 0, none⟩) (n0 + k0) c)) _ ⟨hdef, by simpa [Act.put] using hn, m0, q1, q2, q3, q4, fun t => ?_⟩ Q hq)
      rw [getD_put (Nat.lt_of_lt_of_le (Nat.blt_eq.mp hd) hn)]
      unfold Ab.upd
      by_cases ht : t = d
      · subst ht; rw [if_pos rfl, Nat.beq_refl]; exact lit_p.2 rfl
      · rw [if_neg ht]
        have : Nat.beq t d = false := by
          cases hbb : Nat.beq t d with
          | false => rfl
          | true => exact absurd (Nat.eq_of_beq_eq_true hbb) ht
        rw [this]
        exact h50 t
    · have hxs : ∀ j u, (arr.toList.take (n0 * sz))[j]? = some u → w.cell? ((⟨b, 0, none⟩ : Addr).add j) = some u := fun j u hj => by
        rw [add_none, cell_of w b _ arr _ _ hb]
        rw [List.getElem?_take] at hj
        split at hj
        · simpa using hj
        · cases hj
      have hrun := run_append_grow (P := P) w T ty e i v hS.h hi hz ⟨b, 0, none⟩ n0 c (arr.toList.take (n0 * sz)) (by rw [List.length_take, Array.length_toList, hsz]; omega) hxs
        ⟨b2, off2, none⟩ k0 c2 l2 (by rw [hlen2, hsz, hds]) hys (by omega) (by omega) (growslice_fits (by omega) (by rw [hbyt]; exact hmul _ (by omega)))
      rw [e0]
      simp only [Sem.run_bind, hrun, Result.andThen_ok, Sem.run_pure]
      have hge := grownCap_ge w (n0 + k0) c e
      have hle := grownCap_le_maxLen w (n0 + k0) c e (by simp only [maxLen]; omega)
      have h := k (lit (.slice (some ⟨w.heap.size, 0, none⟩) (n0 + k0) (grownCap w (n0 + k0) c e))) [(w.heap.size, e, (cs ++ ds) ++ List.replicate (grownCap w (n0 + k0) c e * sz - (n0 + k0) * sz) top)]
        ⟨by rw [List.length_append, hcl, hds, Nat.add_mul], .inr ⟨_, _, hge, hle, rfl, rfl⟩⟩
      unfold WPL at h
      have hst := St.pushD (d := d) (cs := (cs ++ ds) ++ List.replicate (grownCap w (n0 + k0) c e * sz - (n0 + k0) * sz) top) (v := .slice (some ⟨w.heap.size, 0, none⟩) (n0 + k0) (grownCap w (n0 + k0) c e)) (T := e)
        (arr := (arr.toList.take (n0 * sz)).toArray ++ l2.toArray ++ Builtin.zeroCells v.cells (grownCap w (n0 + k0) c e - (n0 + k0))) (Nat.blt_eq.mp hd) hs fun m h1 h2 h3 => ?_
      · refine hK' _ _ (h _ _ ?_ Q hq)
        exact hst.drop (.there _ (.here _))
      · simp only [Array.toList_append, List.toList_toArray]
        obtain ⟨q1, _⟩ := (getc m h2).split
        rw [hcl] at q1
        refine (q1.append (get2 m h1 (h3 y))).append (All2.topL ?_ (zeroCells_one hfl))
        rw [Array.length_toList, size_zeroCells, hvs, Nat.sub_mul]
end
theorem sts_len (l : List Stm) : (l.map stx).flatten.length = l.length * 19 := by
  induction l with
  | nil => rfl
  | cons s l ih => rw [List.map_cons, List.flatten_cons, List.length_append, ih, stx_len, List.length_cons]; omega
theorem sts_app (a b : List Stm) : (a.map stx).flatten ++ (b.map stx).flatten = ((a ++ b).map stx).flatten := by
  rw [List.map_append, List.flatten_append]
theorem le_emp {b : Nat} : Le (lit (.slice (some ⟨b, 0, none⟩) 0 0)) (sl [] 0) := fun m v hv => by
  rw [lit_p] at hv; subst hv
  exact sl_mk (Nat.le_refl _) (by decide) (.inl rfl)
theorem bcnt_len (b : UInt8) (l : List UInt8) : bcnt b l ≤ l.length := by unfold bcnt; exact List.length_filter_le _ _
set_option maxHeartbeats 8000000 in
theorem sapp_err [Sent 4] [Sent 3] [Sent 5] [Sent 7] [GV 0 errT] (s t : List UInt8) (hs : s.length ≤ 800) (ht : t.length ≤ 800) (a : List Stm) (e e' : Er)
    (c0 : Pu Tryz.prog 9 [str s] (Ab.tup [stsS a, lit .nilIface])) (c1 : Pu Tryz.prog 9 [str t] (Ab.tup [lit (.slice none 0 0), erSV e])) (c2 : Pu Tryz.prog 9 [str ((s ++ [10]) ++ t)] (Ab.tup [lit (.slice none 0 0), erSV e']))
    (hk : e'.k = e.k) (hl : e'.l = e.l + (bcnt 10 s + 1)) (hc : e'.c = e.c) (hle : e.l ≤ 1000000) : Pu Tryz.prog 4 [str s, str t] (lit (.bool true)) := by
  obtain ⟨k', t', l', c'⟩ := e'
  obtain ⟨k0, t0', l0, c00⟩ := e
  simp only at hk hl hc hle
  subst hk
  subst hl
  subst hc
  have kn := known12
  have cn := scount_pu s (b := 10) (by omega)
  rw [show UInt8.ofNat 10 = 10 from rfl] at cn
  have hb := bcnt_len 10 s
  have cA := @as_pu _ _ (erC ⟨k', t0', l0, c'⟩)
  have cB := @as_pu _ _ (erC ⟨k', t', l0 + (bcnt 10 s + 1), c'⟩)
  have ci := isE_pu ⟨k', t', l0 + (bcnt 10 s + 1), c'⟩
  have k10 : ([10] : List UInt8).length = 1 := rfl
  have k11 : (s ++ [10]).length = s.length + 1 := by rw [List.length_append, k10]
  refine Pu.intro Tryz.func4 rfl (by kernel_rfl) fun C => ?_
  repeat (first | (refine A1 ⟨?_⟩; intros) | (refine Wcx (c0) ?_) | (refine Wdcx (c0) ?_) | (refine Wcgx (c0) ?_) | (refine Wdcgx (c0) ?_) | (refine Wcx (c1) ?_) | (refine Wdcx (c1) ?_) | (refine Wcgx (c1) ?_) | (refine Wdcgx (c1) ?_) | (refine Wcx (c2) ?_) | (refine Wdcx (c2) ?_) | (refine Wcgx (c2) ?_) | (refine Wdcgx (c2) ?_))
  refine Wo (ov_ineF (s := pt _) (by kernel_rfl) rfl) ?_
  repeat (first | (refine AS ⟨?_⟩; intros) | (refine O1 ⟨?_⟩; intros))
  rename_i b1 b2
  refine WdZ 51 [0, 1, 2, 3, 4, 5, 6, 7, 8, 9, 10, 11, 12, 13, 14, 15, 16, 17, 18, 19, 20, 21, 22, 23, 24, 25, 26, 27, 28, 29, 30, 31, 32, 33, 34, 35, 36, 37, 38, 39, 40, 41, 42, 43, 44, 45, 46, 47, 48, 49, 50] [9, 14] [(b2, 32, [lit (.pointer none)]), (b1, 32, [lit (.pointer none)])] [] ?_
  refine ZkD 9 ?_
  repeat (first | (refine A1 ⟨?_⟩; intros) | (refine Wcx (kn) ?_) | (refine Wdcx (kn) ?_) | (refine Wcgx (kn) ?_) | (refine Wdcgx (kn) ?_))
  refine mkZ0 ?_
  refine ZkCG (cA (b := b1) (s0 := lit (.pointer none))) (Tk.cons (HDel.there _ (HDel.here _)) (Tk.nil _)) ?_ (fun _ _ h => h.elim) (LeL.refl _)
  rintro _ _ ⟨rfl, rfl⟩
  refine ZkD 4 ?_
  repeat (refine A1 ⟨?_⟩; intros)
  refine mkZ0 ?_
  refine ZkCG (cB (b := b2) (s0 := lit (.pointer none))) (Tk.cons (HDel.there _ (HDel.here _)) (Tk.nil _)) ?_ (fun _ _ h => h.elim) (LeL.refl _)
  rintro _ _ ⟨rfl, rfl⟩
  refine ZkDL (Hd := [(b2, 32, [pt (erC ⟨k', t', l0 + (bcnt 10 s + 1), c'⟩)]), (b1, 32, [pt (erC ⟨k', t0', l0, c'⟩)])]) 36 ?_
  repeat (first | (refine A1 ⟨?_⟩; intros) | (refine Wcx (ci) ?_) | (refine Wdcx (ci) ?_) | (refine Wcgx (ci) ?_) | (refine Wdcgx (ci) ?_) | (refine Wcx (cn) ?_) | (refine Wdcx (cn) ?_) | (refine Wcgx (cn) ?_) | (refine Wdcgx (cn) ?_))
  refine mkZ0 ?_
  refine ZkN ?_
  repeat (refine A1 ⟨?_⟩; intros)
  ((first | refine endR ?_ | refine endN ?_); exact end1 (RV.tmp rfl) (Le.refl _))
theorem script_len {l : List UInt8} (hl : l.length ≤ 900) {ss : List Stm} (h : gscript l = .ok ss) : ss.length ≤ 1000 := by
  unfold gscript at h
  cases hx : glex l with
  | error e => rw [hx] at h; cases h
  | ok ts =>
    rw [hx] at h
    have hG := glex_ok hx
    obtain ⟨e, hue, he0⟩ := hG.1.last
    rw [hue] at h
    have hG1 := hG.1
    rw [hue] at hG1
    have := (stms_app he0 gF 0 ts.dropLast ss hG1 h).2.1
    rw [List.length_dropLast] at this
    omega
theorem gnx_err {l : List UInt8} {ln cl : Nat} {e : Er} (h : gnx l ln cl = .error e) : e.l ≤ ln + l.length := by
  have h1 := gsk_line false l ln cl
  have h2 := bcnt_len 10 (l.take (gsk false l ln cl).1)
  rw [List.length_take] at h2
  have h3 : (gsk false l ln cl).2.1 ≤ ln + l.length := by omega
  unfold gnx at h
  generalize gsk false l ln cl = q at *
  obtain ⟨q, lq, cq⟩ := q
  simp only at h h3
  cases hr : l.drop q with
  | nil => rw [hr] at h; cases h
  | cons b r =>
    rw [hr] at h
    simp only at h
    by_cases c3 : clsN b.toNat = 3
    · rw [if_pos c3] at h
      split at h
      · cases h; exact h3
      · cases h
    rw [if_neg c3] at h
    by_cases c4 : clsN b.toNat = 4
    · rw [if_pos c4] at h
      split at h
      · cases h; exact h3
      · cases h
    rw [if_neg c4] at h
    split at h
    · cases h
    · cases h; exact h3
theorem glexF_ln : ∀ (f : Nat) (l : List UInt8) (ln cl : Nat), (∀ ts, glexF f l ln cl = .ok ts → ∀ a ∈ ts, a.l ≤ ln + l.length) ∧ ∀ e, glexF f l ln cl = .error e → e.l ≤ ln + l.length := by
  intro f
  induction f with
  | zero => exact fun l ln cl => ⟨fun ts h => (by cases h), fun e h => (by cases h; exact Nat.zero_le _)⟩
  | succ f ih =>
    intro l ln cl
    rw [glexF_succ]
    cases hn : gnx l ln cl with
    | error e => exact ⟨fun ts h => (by cases h), fun e' h => (by cases h; exact gnx_err hn)⟩
    | ok q =>
      obtain ⟨t, n⟩ := q
      simp only
      have hb := gnx_bd hn
      have ht := congrArg List.length (gnx_tok hn).1
      rw [List.length_append, List.length_take, List.length_take] at ht
      have h1 := gsk_line false l ln cl
      have h2 := bcnt_len 10 (l.take (gsk false l ln cl).1)
      rw [List.length_take] at h2
      have h3 : t.l ≤ ln + n := by have := hb.2.2.2.1; have := hb.1; omega
      have h4 := hb.1
      split
      · exact ⟨fun ts h a ha => (by cases h; rw [List.mem_singleton] at ha; subst ha; omega), fun e h => (by cases h)⟩
      · obtain ⟨g1, g2⟩ := ih (l.drop n) t.l (t.c + t.t.length)
        rw [List.length_drop] at g1 g2
        cases hr : glexF f (l.drop n) t.l (t.c + t.t.length) with
        | error e => exact ⟨fun ts h => (by cases h), fun e' h => (by cases h; have := g2 e hr; omega)⟩
        | ok ts =>
          refine ⟨fun ts' h a ha => ?_, fun e h => (by cases h)⟩
          cases h
          rcases List.mem_cons.1 ha with rfl | ha
          · omega
          · have := g1 ts hr a ha; omega
theorem LR.same {R : PosR} : ∀ {ts : List Tok}, (∀ a ∈ ts, R a.l a.c a.l a.c) → LR R ts ts
  | [], _ => .nil
  | a :: r, h => .cons ⟨rfl, rfl, h a List.mem_cons_self⟩ (LR.same fun b hb => h b (List.mem_cons_of_mem _ hb))
theorem script_err {t : List UInt8} {e : Er} (h : gscript t = .error e) : e.l ≤ t.length + 1 := by
  have hl := glexF_ln (t.length + 1) t 1 1
  unfold gscript glex at h
  cases hx : glexF (t.length + 1) t 1 1 with
  | error e' =>
    rw [hx] at h
    cases h
    have := hl.2 _ hx
    omega
  | ok ts =>
    rw [hx] at h
    simp only at h
    have hr := stms_nat (R := fun l _ _ _ => l ≤ t.length + 1) gF 0 ts ts (glex_ok (l := t) hx).1 (LR.same fun a ha => by have := hl.1 ts hx a ha; omega)
    rw [h] at hr
    cases hr with
    | er h => exact h.p
set_option maxHeartbeats 8000000 in
theorem sapp_ok [Sent 4] [Sent 3] [Sent 5] [Sent 7] (s t : List UInt8) (hs : s.length ≤ 800) (ht : t.length ≤ 800) (a b c : List Stm)
    (c0 : Pu Tryz.prog 9 [str s] (Ab.tup [stsS a, lit .nilIface])) (c1 : Pu Tryz.prog 9 [str t] (Ab.tup [stsS b, lit .nilIface])) (c2 : Pu Tryz.prog 9 [str ((s ++ [10]) ++ t)] (Ab.tup [stsS c, lit .nilIface]))
    (hc : c.map Stm.clr = (a ++ b).map Stm.clr) (ha : a.length ≤ 1000) (hb : b.length ≤ 1000) : Pu Tryz.prog 4 [str s, str t] (lit (.bool true)) := by
  have kn := known12
  have cs := sameSts_e c (a ++ b) hc
  have k10 : ([10] : List UInt8).length = 1 := rfl
  have k11 : (s ++ [10]).length = s.length + 1 := by rw [List.length_append, k10]
  have e1 := sts_app a b
  have la := sts_len a
  have lb := sts_len b
  have lab : (a ++ b).length = a.length + b.length := List.length_append
  change Pu _ _ [stsS c, sl ((a ++ b).map stx).flatten (a ++ b).length, lit (.bool false)] _ at cs
  rw [← e1, lab] at cs
  clear e1 lab hc
  rcases List.eq_nil_or_concat a with rfl | ⟨a', x, ha'⟩
  · simp only [List.map_nil, List.flatten_nil, List.nil_append, List.length_nil, Nat.zero_add] at cs
    rcases List.eq_nil_or_concat b with rfl | ⟨b', y, hb'⟩
    · simp only [List.map_nil, List.flatten_nil, List.length_nil] at cs
      refine Pu.intro Tryz.func4 rfl (by kernel_rfl) fun C => ?_
      repeat (first | (refine A1 ⟨?_⟩; intros) | (refine Wcx (c0) ?_) | (refine Wdcx (c0) ?_) | (refine Wcgx (c0) ?_) | (refine Wdcgx (c0) ?_) | (refine Wcx (c1) ?_) | (refine Wdcx (c1) ?_) | (refine Wcgx (c1) ?_) | (refine Wdcgx (c1) ?_) | (refine Wcx (c2) ?_) | (refine Wdcx (c2) ?_) | (refine Wcgx (c2) ?_) | (refine Wdcgx (c2) ?_) | (refine Wcx (kn) ?_) | (refine Wdcx (kn) ?_) | (refine Wcgx (kn) ?_) | (refine Wdcgx (kn) ?_))
      refine WgE ?_
      repeat (refine A1 ⟨?_⟩; intros)
      refine WgE ?_
      refine Wo (ov_appE rfl rfl (Nat.le_refl _)) ?_
      repeat (refine A1 ⟨?_⟩; intros)
      refine WgE ?_
      refine Wo (ov_appE rfl rfl (Nat.le_refl _)) ?_
      refine WPL.low 111 rfl le_emp ?_
      repeat (first | (refine A1 ⟨?_⟩; intros) | (refine Wcx (cs) ?_) | (refine Wdcx (cs) ?_) | (refine Wcgx (cs) ?_) | (refine Wdcgx (cs) ?_))
      ((first | refine endR ?_ | refine endN ?_); exact end1 (RV.tmp rfl) (Le.refl _))
    · have hbp : 0 < b.length := by rw [hb']; simp
      refine Pu.intro Tryz.func4 rfl (by kernel_rfl) fun C => ?_
      repeat (first | (refine A1 ⟨?_⟩; intros) | (refine Wcx (c0) ?_) | (refine Wdcx (c0) ?_) | (refine Wcgx (c0) ?_) | (refine Wdcgx (c0) ?_) | (refine Wcx (c1) ?_) | (refine Wdcx (c1) ?_) | (refine Wcgx (c1) ?_) | (refine Wdcgx (c1) ?_) | (refine Wcx (c2) ?_) | (refine Wdcx (c2) ?_) | (refine Wcgx (c2) ?_) | (refine Wdcgx (c2) ?_) | (refine Wcx (kn) ?_) | (refine Wdcx (kn) ?_) | (refine Wcgx (kn) ?_) | (refine Wdcgx (kn) ?_))
      refine WgE ?_
      repeat (refine A1 ⟨?_⟩; intros)
      refine WgE ?_
      refine Wo (ov_appE rfl rfl (Nat.le_refl _)) ?_
      repeat (refine A1 ⟨?_⟩; intros)
      refine WgE ?_
      refine WPL.appAllS (ds := (b.map stx).flatten) (k0 := b.length) rfl rfl lb (by omega) (by omega) (by decide) (fun s' H' hown => ?_)
      refine WPL.pubOwn (d := 111) hown (List.Perm.refl _) rfl ?_
      repeat (first | (refine A1 ⟨?_⟩; intros) | (refine Wcx (cs) ?_) | (refine Wdcx (cs) ?_) | (refine Wcgx (cs) ?_) | (refine Wdcgx (cs) ?_))
      ((first | refine endR ?_ | refine endN ?_); exact end1 (RV.tmp rfl) (Le.refl _))
  · have hap : 0 < a.length := by rw [ha']; simp
    rcases List.eq_nil_or_concat b with rfl | ⟨b', y, hb'⟩
    · simp only [List.map_nil, List.flatten_nil, List.append_nil, List.length_nil, Nat.add_zero] at cs
      refine Pu.intro Tryz.func4 rfl (by kernel_rfl) fun C => ?_
      repeat (first | (refine A1 ⟨?_⟩; intros) | (refine Wcx (c0) ?_) | (refine Wdcx (c0) ?_) | (refine Wcgx (c0) ?_) | (refine Wdcgx (c0) ?_) | (refine Wcx (c1) ?_) | (refine Wdcx (c1) ?_) | (refine Wcgx (c1) ?_) | (refine Wdcgx (c1) ?_) | (refine Wcx (c2) ?_) | (refine Wdcx (c2) ?_) | (refine Wcgx (c2) ?_) | (refine Wdcgx (c2) ?_) | (refine Wcx (kn) ?_) | (refine Wdcx (kn) ?_) | (refine Wcgx (kn) ?_) | (refine Wdcgx (kn) ?_))
      refine WgE ?_
      repeat (refine A1 ⟨?_⟩; intros)
      refine WgE ?_
      refine WPL.appAllS (ds := (a.map stx).flatten) (k0 := a.length) rfl rfl la (by omega) (by omega) (by decide) (fun s' H' hown => ?_)
      repeat (refine A1 ⟨?_⟩; intros)
      obtain ⟨b, c1, hnc, hcm, rfl, rfl⟩ := hown.blk hap
      refine WgE ?_
      refine Wo (ov_appE rfl rfl hnc) ?_
      refine WPL.pubOwn (d := 111) hown (List.Perm.refl _) rfl ?_
      repeat (first | (refine A1 ⟨?_⟩; intros) | (refine Wcx (cs) ?_) | (refine Wdcx (cs) ?_) | (refine Wcgx (cs) ?_) | (refine Wdcgx (cs) ?_))
      ((first | refine endR ?_ | refine endN ?_); exact end1 (RV.tmp rfl) (Le.refl _))
    · have hbp : 0 < b.length := by rw [hb']; simp
      refine Pu.intro Tryz.func4 rfl (by kernel_rfl) fun C => ?_
      repeat (first | (refine A1 ⟨?_⟩; intros) | (refine Wcx (c0) ?_) | (refine Wdcx (c0) ?_) | (refine Wcgx (c0) ?_) | (refine Wdcgx (c0) ?_) | (refine Wcx (c1) ?_) | (refine Wdcx (c1) ?_) | (refine Wcgx (c1) ?_) | (refine Wdcgx (c1) ?_) | (refine Wcx (c2) ?_) | (refine Wdcx (c2) ?_) | (refine Wcgx (c2) ?_) | (refine Wdcgx (c2) ?_) | (refine Wcx (kn) ?_) | (refine Wdcx (kn) ?_) | (refine Wcgx (kn) ?_) | (refine Wdcgx (kn) ?_))
      refine WgE ?_
      repeat (refine A1 ⟨?_⟩; intros)
      refine WgE ?_
      refine WPL.appAllS (ds := (a.map stx).flatten) (k0 := a.length) rfl rfl la (by omega) (by omega) (by decide) (fun s' H' hown => ?_)
      repeat (refine A1 ⟨?_⟩; intros)
      refine WgE ?_
      refine WPL.appOwnK hown rfl rfl (Spl.app _ _) lb (by omega) (by omega) (by decide) (fun s2 H2 hown2 => ?_) rfl
      refine WPL.pubOwn (d := 111) hown2 (List.Perm.refl _) rfl ?_
      repeat (first | (refine A1 ⟨?_⟩; intros) | (refine Wcx (cs) ?_) | (refine Wdcx (cs) ?_) | (refine Wcgx (cs) ?_) | (refine Wdcgx (cs) ?_))
      ((first | refine endR ?_ | refine endN ?_); exact end1 (RV.tmp rfl) (Le.refl _))
set_option maxHeartbeats 8000000 in
theorem sappends_pu [Sent 4] [Sent 3] [Sent 5] [Sent 7] [GV 0 errT] (s : List UInt8) (hs : s.length ≤ 9223372036854775807) (t : List UInt8) (ht : t.length ≤ 9223372036854775807) : Pu Tryz.prog 4 [str s, str t] (lit (.bool true)) := by
  have kn := known12
  by_cases h1 : 800 < s.length
  · refine Pu.intro Tryz.func4 rfl (by kernel_rfl) fun C => ?_
    repeat (first | (refine A1 ⟨?_⟩; intros) | (refine Wcx (kn) ?_) | (refine Wdcx (kn) ?_) | (refine Wcgx (kn) ?_) | (refine Wdcgx (kn) ?_))
    ((first | refine endR ?_ | refine endN ?_); exact end1 (RV.tmp rfl) (Le.refl _))
  by_cases h2 : 800 < t.length
  · refine Pu.intro Tryz.func4 rfl (by kernel_rfl) fun C => ?_
    repeat (first | (refine A1 ⟨?_⟩; intros) | (refine Wcx (kn) ?_) | (refine Wdcx (kn) ?_) | (refine Wcgx (kn) ?_) | (refine Wdcgx (kn) ?_))
    ((first | refine endR ?_ | refine endN ?_); exact end1 (RV.tmp rfl) (Le.refl _))
  have k10 : ([10] : List UInt8).length = 1 := rfl
  have k11 : (s ++ [10]).length = s.length + 1 := by rw [List.length_append, k10]
  have k12 : ((s ++ [10]) ++ t).length = s.length + 1 + t.length := by rw [List.length_append, k11]
  have c0 := parseT_pu s (by omega)
  have c1 := parseT_pu t (by omega)
  have c2 := parseT_pu ((s ++ [10]) ++ t) (by omega)
  have hX : (s ++ [10]) ++ t = s ++ 10 :: t := by rw [List.append_assoc]; rfl
  unfold gpS at c0 c1 c2
  cases hp : gscript s with
  | ok a =>
    rw [hp] at c0
    simp only at c0
    have hl := appends_law (by omega) (by omega) hp (t := t)
    cases hq : gscript t with
    | ok b =>
      rw [hq] at c1
      simp only at c1
      obtain ⟨b', g1, g2⟩ := hl.1 b hq
      rw [hX, g1] at c2
      simp only at c2
      rw [← hX] at c2
      exact sapp_ok s t (by omega) (by omega) a b (a ++ b') c0 c1 c2 (by rw [List.map_append, List.map_append, g2]) (script_len (by omega) hp) (script_len (by omega) hq)
    | error e =>
      rw [hq] at c1
      simp only at c1
      obtain ⟨e', g1, g2, g3, g4, g5⟩ := hl.2 e hq
      rw [hX, g1] at c2
      simp only at c2
      rw [← hX] at c2
      exact sapp_err s t (by omega) (by omega) a e e' c0 c1 c2 g2 g4 g5 (by have := script_err hq; omega)
  | error e =>
    rw [hp] at c0
    simp only at c0
    generalize hq : gscript t = q at c1
    generalize hr : gscript ((s ++ [10]) ++ t) = r at c2
    clear hp hq hr
    cases q <;> cases r <;>
    · simp only at c1 c2
      refine Pu.intro Tryz.func4 rfl (by kernel_rfl) fun C => ?_
      repeat (first | (refine A1 ⟨?_⟩; intros) | (refine Wcx (c0) ?_) | (refine Wdcx (c0) ?_) | (refine Wcgx (c0) ?_) | (refine Wdcgx (c0) ?_) | (refine Wcx (c1) ?_) | (refine Wdcx (c1) ?_) | (refine Wcgx (c1) ?_) | (refine Wdcgx (c1) ?_) | (refine Wcx (c2) ?_) | (refine Wdcx (c2) ?_) | (refine Wcgx (c2) ?_) | (refine Wdcgx (c2) ?_))
      refine Wo (ov_ineF (s := pt _) (by kernel_rfl) rfl) ?_
      repeat (first | (refine A1 ⟨?_⟩; intros) | (refine Wcx (kn) ?_) | (refine Wdcx (kn) ?_) | (refine Wcgx (kn) ?_) | (refine Wdcgx (kn) ?_))
      ((first | refine endR ?_ | refine endN ?_); exact end1 (RV.tmp rfl) (Le.refl _))
open Go.ChangeShapes Go.WideShapes Go.ChangeAt Go.RowKit
section
variable {H : Type} {enc : TypeId × Value → H} {P : Program} {w : World} {sp : Nat → Bool} {held : Bool}
def memOf (w : World) : Mem := fun b => w.heap[b]?
theorem memOf_in (w : World) (h : Base.mem.le (memOf w)) : MemIn (memOf w) w := ⟨fun _ _ h => h, h⟩
def Opn (enc : TypeId × Value → H) (P : Program) (w : World) (sp : Nat → Bool) (held : Bool) (T : TypeId) (G : List SV → Prop) : Prop :=
  ∀ fuel cs x, DataW.trod enc P w 0 sp held fuel T cs = some x → ∃ svs, G svs ∧ All2 (memOf w) svs cs
inductive Cat : List (List SV → Prop) → List SV → Prop
  | nil : Cat [] []
  | cons {G : List SV → Prop} {Gs : List (List SV → Prop)} {a b : List SV} (h : G a) (k : Cat Gs b) : Cat (G :: Gs) (a ++ b)
def GStr : List SV → Prop := fun l => ∃ s : ByteArray, s.size ≤ maxLen ∧ l = [lit (.string s)]
theorem all2_one {m : Mem} {s : SV} {v : Value} (h : s.p m v) (f : v.oneCell' = true) : All2 m [s] [v] := ⟨⟨h, f⟩, trivial⟩
theorem opn_str {T : TypeId} [hT : TSr P T] : Opn enc P w sp held T GStr := fun fuel cs x h => by
  obtain ⟨s, rfl, _, hw⟩ := DataW.trod_string hT.h h
  exact ⟨_, ⟨s, hw, rfl⟩, all2_one (lit_p.2 rfl) rfl⟩
def laid (P : Program) : List Field → Nat → Nat → Bool
  | [], o, n => Nat.beq o n
  | f :: fs, o, n => Nat.beq f.offset o && laid P fs (o + P.cellsOf f.type) n
inductive Opns (enc : TypeId × Value → H) (P : Program) (w : World) (sp : Nat → Bool) (held : Bool) : List TypeId → List (List SV → Prop) → Prop
  | nil : Opns enc P w sp held [] []
  | cons {T : TypeId} {G : List SV → Prop} {Ts : List TypeId} {Gs : List (List SV → Prop)} (h : Opn enc P w sp held T G) (k : Opns enc P w sp held Ts Gs) : Opns enc P w sp held (T :: Ts) (G :: Gs)
end
end Go.Ab
namespace Go.Ab
open Go.Proofs
set_option linter.unusedSectionVars false
set_option linter.unusedVariables false
set_option linter.unusedSimpArgs false
variable [Base]
open Go.ChangeShapes Go.WideShapes Go.ChangeAt Go.RowKit
theorem calls_of {P : Program} {f : FuncId} {args : List SV} {W : World} {vs : List Value} (hB : Base.mem.le (memOf W)) (h : Pu P f args (lit (.bool true))) (ha : ArgsOk (memOf W) args vs) :
    Calls P f vs.toArray W fun e w' => e = .returned (.bool true) ∧ Below W.heap.size W w' := by
  unfold Pu at h
  refine (h.2 _ W vs (memOf_in W hB) ha).mono ?_
  rintro e w' ⟨v, m', rfl, hv, _, hr⟩
  rw [lit_p] at hv
  subst hv
  exact ⟨rfl, hr.os, hr.tape, hr.output, hr.size, fun k hk => hr.block k hk (by simp)⟩
theorem own0 : ownKnob Tryz.prog.godebug = none := by kernel_rfl
theorem laidOut0 : laidOutB Tryz.prog = true := by kernel_rfl
section
variable {H : Type} {enc : TypeId × Value → H} {W : World} {sp : Nat → Bool} {held : Bool}
end
end Go.Ab
namespace Go.Ab
open Go.Proofs
set_option linter.unusedSectionVars false
set_option linter.unusedVariables false
set_option linter.unusedSimpArgs false
variable [Base]
open Go.ChangeShapes Go.WideShapes Go.ChangeAt Go.RowKit
theorem starE : "*" ++ "errors.errorString" = "*errors.errorString" := by decide
theorem rowE (u : TypeId) (h : (Tryz.prog).typeName? 3 u = some "*errors.errorString") : u = 442 :=
  typeName_ptr_named (nm := "errors.errorString") (by rw [starE]; kernel_rfl) (by kernel_rfl) (by decide) u (by rw [starE]; exact h)
theorem sent_head {n : String} {text : List UInt8} {r : List (String × DataW Unit)} {W : World} {g : Nat} (h : laidMet Tryz.prog ((n, .iface "*errors.errorString" (.ptr (.agg [.lit (.string text)]))) :: r) W)
    (hg : (Tryz.prog).globalNamed n = some g) (ht : ((Tryz.prog).globals[g]?).map (·.type) = some 25) : ∃ (a : Addr) (T : TypeId) (fz : Nat × Nat), W.heap[g]? = some (.cells #[.iface 442 (.pointer (some a))] T fz) := by
  obtain ⟨a, s, hv, _⟩ := laid_sentinel (tp := 442) h hg ht Tryz.underlying25 rowE Tryz.underlying442 Tryz.underlying444 rfl rfl Tryz.underlying9 (by kernel_rfl) (by kernel_rfl)
  unfold World.var? at hv
  rw [hg] at hv
  simp only [Option.bind_some] at hv
  cases hh : W.heap[g]? with
  | none => rw [hh] at hv; cases hv
  | some o =>
    rw [hh] at hv
    cases o with
    | cells cs T fz =>
      simp only [Option.some.injEq] at hv
      subst hv
      exact ⟨a, T, fz, rfl⟩
    | _ => cases hv
abbrev baseOf (W : World) : Base := ⟨memOf W⟩
end Go.Ab
