/- Small laws of the abstract machine. -/
import Derived.Test.YthgobgompobhhaaGreatDoorEng
import Derived.Test.YthgobgompobhhaaGreatDoorTy
namespace Go.Ab
open Go.Proofs
set_option linter.unusedSectionVars false
variable [Base]
/-- a fact that the arithmetic does not look at -/
def Hid (p : Prop) : Prop := p
theorem Hid.out {p : Prop} (h : Hid p) : p := h
theorem Le.tup {a b : List SV} (h : LeL a b) : Le (Ab.tup a) (Ab.tup b) := fun m v hv => by
  unfold Ab.tup at *
  obtain ⟨arr, e, k⟩ := hv
  exact ⟨arr, e, k.le h⟩
theorem Le.tup2 {a b a' b' : SV} (h1 : Le a a') (h2 : Le b b') : Le (Ab.tup [a, b]) (Ab.tup [a', b']) := Le.tup ⟨h1, h2, trivial⟩
theorem Le.tup3 {a b c a' b' c' : SV} (h1 : Le a a') (h2 : Le b b') (h3 : Le c c') : Le (Ab.tup [a, b, c]) (Ab.tup [a', b', c']) := Le.tup ⟨h1, h2, h3, trivial⟩
theorem Le.ag {a b : List SV} (h : LeL a b) : Le (Ab.ag a) (Ab.ag b) := fun m v hv => by
  unfold Ab.ag at *
  obtain ⟨arr, e, k⟩ := hv
  exact ⟨arr, e, k.le h⟩
section
variable {P : Program} {C : Ctx} {n : Nat} {F : Fr} {H : LH} {ops : Array Oper} {K : Fr → LH → Prop} {Q : Exit → Fr → LH → Prop}
/-- to know less of a slot -/
theorem WPL.low {l : List Oper} {s s' : SV} (d : Nat) (hf : F d = s) (h : Le s s') (k : WPL P C n ops l K (upd F d s') H) : WPL P C n ops l K F H := WPL.le (LeF.upd (hf ▸ h) (LeF.refl F)) k
theorem WP.low {c : Code} {s s' : SV} (d : Nat) (hf : F d = s) (h : Le s s') (k : WP P C n c Q (upd F d s') H) : WP P C n c Q F H := WP.le (LeF.upd (hf ▸ h) (LeF.refl F)) k
theorem madd_new {m : Mem} {w : World} (hm : MemIn m w) {o : Obj} : MemIn (madd m w.heap.size o) (w.alloc o) ∧ Rel [] m w (madd m w.heap.size o) (w.alloc o) := by
  have hold : ∀ b, b < w.heap.size → (w.alloc o).heap[b]? = w.heap[b]? := fun b hb => heap_alloc_old w o b hb
  have hlt : ∀ b o, m b = some o → b < w.heap.size := fun b o hb => (Array.getElem?_eq_some_iff.1 (hm b o hb)).1
  have hle : m.le (madd m w.heap.size o) := fun b x hx => by unfold madd; rw [if_neg (by have := hlt b x hx; omega)]; exact hx
  refine ⟨⟨fun b x hx => ?_, Mem.le_trans hm.base hle⟩, ⟨hle, fun b hb _ => ?_, rfl, rfl, rfl, ?_, fun b hb _ => hold b hb⟩⟩
  · unfold madd at hx
    split at hx
    · rename_i e; subst e; cases hx; exact heap_alloc_new w o
    · rw [hold b (hlt b x hx)]; exact hm b x hx
  · unfold madd; rw [if_neg (by omega)]
  · have : (w.alloc o).heap.size = w.heap.size + 1 := World.size_alloc ..
    rw [this]; exact Nat.le_succ _
/-- a new cell that nobody will write -/
theorem ov_boxP {T ty : TypeId} {x : Operand} {sv : SV} {cs : List SV} (hx : ev F x = sv) [hco : CO sv cs] : OpV P (.box T x) ty F H (pt cs) := by
  refine OpV.of0 ?_
  intro m w o a ho hty h1 h2 h3 K Q hK
  have e0 := evA h3 (x := x) (by simp [Op.operands]); rw [hx] at e0
  have hc := hco.h m _ e0
  unfold Oper.wp
  have hrun : (execOp a.eval o).run P w = .ok (.value (.pointer (some ⟨w.heap.size, 0, none⟩))) (w.alloc (.cells (a.eval x).cells T)) := by
    simp [execOp, ho, Instr.box, newVar, newRow]
  rw [hrun]
  obtain ⟨q1, q2⟩ := madd_new h1 (o := .cells (a.eval x).cells T)
  exact hK _ _ _ (pub_pt _ _ (by unfold madd; rw [if_pos rfl]) (hc.mono q2.le)) q1 q2
/-- a call under a guard that is met -/
theorem Wcg {d : Nat} {ty : TypeId} {pos : String} {aft : Array Edge} {rest : List Oper} {f : FuncId} {l : List Operand} {tys : Array TypeId} {svs : List SV} {res : SV} {j : Nat} {t : Bool} {oj : Oper} {dj : Nat} (hc : Pu P f svs res) (k : WPL P C n ops rest K (upd F d res) H)
    (ha : l.map (ev F) = svs := by exact rfl) (hj : ops[j]? = some oj := by exact rfl) (hdj : oj.dst = some dj := by exact rfl) (hf : F dj = lit (.bool t) := by exact rfl)
    (hdn : Nat.blt dj n = true := by exact rfl) (hd : Nat.blt d n = true := by exact rfl) : WPL P C n ops (⟨some d, .call ⟨.value (.func f), l.toArray, tys⟩, ty, pos, aft, some (j, t)⟩ :: rest) K F H :=
  Wog (ov_call hc ha) k hj hdj hf hdn hd
/-- a record in a block of one's own becomes a pointer to unchanging memory -/
theorem WpubP {l : List Oper} {b : Nat} {T : TypeId} {cs : List SV} {H' : LH} (d : Nat) (hv : F d = lit (.pointer (some ⟨b, 0, none⟩))) (hdel : HDel b T cs H H')
    (h : WPL P C n ops l K (upd F d (pt cs)) H') : WPL P C n ops l K F H := WPL.pub hdel hv (fun m arr hm ha => pub_pt m arr hm ha) h
/-- a contract's result, known to be less -/
theorem Pu.le {f : FuncId} {l : List SV} {r r' : SV} (h : Pu P f l r) (k : Le r r') : Pu P f l r' := by
  unfold Pu at *
  exact ⟨h.1, fun m w vs hm ha => (h.2 m w vs hm ha).mono fun e w' ⟨v, m', e1, e2, e3, e4⟩ => ⟨v, m', e1, k m' v e2, e3, e4⟩⟩
theorem Pu.arg {f : FuncId} {l l' : List SV} {r : SV} (h : Pu P f l r) (k : LeL l' l) : Pu P f l' r := by
  unfold Pu at *
  exact ⟨h.1, fun m w vs hm ha => h.2 m w vs hm (ha.le k)⟩
end
end Go.Ab
