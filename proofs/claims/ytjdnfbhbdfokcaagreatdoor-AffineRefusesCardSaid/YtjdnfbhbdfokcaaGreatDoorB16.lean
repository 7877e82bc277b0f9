/- Texts laid one behind the other: StkA, RowB, RowC, RowE, Ins, ArrA, Edg, RSrt, ImM, Tape, AffC. -/
import Derived.Test.YtjdnfbhbdfokcaaGreatDoorB15
import Derived.Test.YtjdnfbhbdfokcaaGreatDoorB05
import Derived.Deep.Upon
import Derived.Test.YtjdnfbhbdfokcaaGreatDoorB03
import Derived.Test.YtjdnfbhbdfokcaaGreatDoorB04
import Derived.LoopNIn
import Derived.Test.YtjdnfbhbdfokcaaGreatDoorB10
import Derived.Test.YtjdnfbhbdfokcaaGreatDoorB14
import Derived.Test.YtjdnfbhbdfokcaaGreatDoorB13
set_option linter.unusedSectionVars false
set_option linter.unusedVariables false
set_option linter.unusedSimpArgs false
namespace Go.Ab
open Go.Proofs
variable [Base]
@[irreducible] def xsl (cs : List SV) (k : Nat) : SV := ⟨fun m v => ∃ a, v = .slice a k k ∧ k ≤ maxLen ∧ (a = none → k = 0) ∧ (cs = [] ∨ ∃ b off, a = some ⟨b, off, none⟩ ∧ cellsAt m b off cs),
  fun h ⟨a, e, x, y, k⟩ => ⟨a, e, x, y, k.imp id fun ⟨b, off, e, k⟩ => ⟨b, off, e, k.mono h⟩⟩⟩
section
variable {P : Program} {C : Ctx} {n : Nat} {F : Fr} {H : LH} {ty : TypeId}
theorem pub_new {m : Mem} {w w' : World} {arr : Array Value} {e : TypeId} (h1 : MemIn m w) (hw : w' = w.alloc (.cells arr e) ∨ w' = w.drew.alloc (.cells arr e)) :
    ∃ m', MemIn m' w' ∧ Rel [] m w m' w' ∧ m' w.heap.size = some (.cells arr e (0, 0)) := by
  have hnone : m w.heap.size = none := by
    cases hmm : m w.heap.size with
    | none => rfl
    | some o => have := h1 _ _ hmm; rw [Array.getElem?_eq_none (Nat.le_refl _)] at this; cases this
  have hsize : w'.heap.size = w.heap.size + 1 := by rcases hw with rfl | rfl <;> exact World.size_alloc ..
  have hold : ∀ b, b < w.heap.size → w'.heap[b]? = w.heap[b]? := by
    rcases hw with rfl | rfl
    · exact fun b hb => heap_alloc_old w _ b hb
    · exact fun b hb => heap_alloc_old w.drew _ b hb
  have hnew : w'.heap[w.heap.size]? = some (.cells arr e (0, 0)) := by
    rcases hw with rfl | rfl
    · exact heap_alloc_new w _
    · exact heap_alloc_new w.drew _
  have hos : w'.os = w.os ∧ w'.tape = w.tape ∧ w'.output = w.output := by rcases hw with rfl | rfl <;> exact ⟨rfl, rfl, rfl⟩
  have hle : m.le fun b => if b = w.heap.size then some (.cells arr e (0, 0)) else m b := fun b o hb => by
    have : b ≠ w.heap.size := fun e => by rw [e, hnone] at hb; cases hb
    simp only [if_neg this]; exact hb
  refine ⟨fun b => if b = w.heap.size then some (.cells arr e (0, 0)) else m b, ⟨fun b o hb => ?_, Mem.le_trans h1.base hle⟩, ⟨hle, fun b hb _ => ?_, hos.1, hos.2.1, hos.2.2, by omega, fun b hb _ => hold b hb⟩, by simp⟩
  · by_cases hbe : b = w.heap.size
    · subst hbe
      simp only [if_true] at hb
      obtain rfl := Option.some.inj hb
      exact hnew
    · simp only [if_neg hbe] at hb
      have := h1 b o hb
      rw [hold b (Array.getElem?_eq_some_iff.1 this).1]; exact this
  · simp only [if_neg (Nat.ne_of_lt hb)]
theorem OpV.pubN {op : Op} {T : TypeId} {z : List SV} {mk : Nat → Value} {sv : SV} (hn : NewOk P op F T z mk) (hsv : ∀ (m : Mem) (b : Nat) (arr : Array Value), m b = some (.cells arr T (0, 0)) → All2 m z arr.toList → sv.p m (mk b)) : OpV P op ty F H sv := by
  refine OpV.of0 ?_
  intro m w o a ho hty h1 h2 h3 K Q hK
  obtain ⟨arr, hrun, hall⟩ := hn w o a ho ⟨m, h3⟩
  obtain ⟨m', g1, g2, g3⟩ := pub_new (w' := w.alloc (.cells arr T)) h1 (.inl rfl)
  unfold Oper.wp
  rw [hrun]
  exact hK _ m' _ (hsv m' _ arr g3 ((hall m h3).mono g2.le)) g1 g2
theorem sl_new {m : Mem} {b k : Nat} {arr : Array Value} {T : TypeId} {cs : List SV} (hb : m b = some (.cells arr T (0, 0))) (h : All2 m cs arr.toList) (hk : k ≤ maxLen) : (sl cs k).p m (.slice (some ⟨b, 0, none⟩) k k) :=
  sl_mk (Nat.le_refl _) hk (.inr ⟨b, 0, rfl, arr, T, (0, 0), hb, by rw [List.drop_zero, ← h.length, List.take_length]; exact h⟩)
theorem ov_bs1 {T e : TypeId} {by_ : Nat} {z : List SV} {g : Bool} [hS : TSl P T e] [hT : TY P e 1 by_ z g] {x : Operand} {s : SV} (hp : Parts F [(0, x)] [(0, [s])]) : OpV P (.buildSlice T 1 [(0, x)].toArray) ty F H (sl [s] 1) := by
  have hz1 : z.length = 1 := by
    obtain ⟨l, _, h2, _, h4⟩ := hT.info
    rw [← h2, List.length_map, h4]
  have hf : fillS ((List.range 1).map fun i => (i * 1, 1)) (List.replicate 1 z).flatten [(0, [s])] = some [s] := by
    match z, hz1 with
    | [y], _ => rfl
  exact OpV.pubN (nk_bslice hp hf (by decide) (by decide)) fun m b arr hb h => sl_new hb h (by simp only [maxLen]; omega)
theorem run_bound {P : Program} {w : World} {v : Value} (l u : Nat) {ki : IntKind} (code : BoundsCode) (hy : v = .int ki l) (hle : l ≤ u) : (Instr.sliceBound v u code).run P w = .ok l w := by
  have h1 : (l : Int) ≤ (u : Int) := by omega
  subst hy
  simp [Instr.sliceBound, asIntOf, h1]
theorem le_nilS : Le (lit (.slice none 0 0)) (sl [] 0) := fun m v h => by
  rw [lit_p] at h
  subst h
  exact sl_mk (Nat.le_refl _) (Nat.zero_le _) (.inl rfl)
end
section
variable {P : Program} {C : Ctx} {n : Nat} {F : Fr} {H : LH} {ops : Array Oper} {K : Fr → LH → Prop} {rest : List Oper} {ty : TypeId} {pos : String} {aft : Array Edge}
theorem ov_slFn {T e : TypeId} {sz by_ : Nat} {z : List SV} {g : Bool} [hS : TSl P T e] [hT : TY P e sz by_ z g] {x y : Operand} {cs : List SV} {k : Nat} {v : Int} (j : Nat) (hx : ev F x = sl cs k) (hy : ev F y = lit (.int .i64 v)) (hv : v = (j : Int)) (hk : cs.length = k * sz) (hj : j ≤ k) :
    OpV P (.slice T x (some y) none none) ty F H (sl (cs.drop (j * sz)) (k - j)) :=
  OpV.pure fun m w o a ho _ _ _ h => by
    have e0 := h x (by simp [Op.operands]); rw [hx] at e0
    have e1 := h y (by simp [Op.operands]); rw [hy, lit_p] at e1
    subst hv
    obtain ⟨ad, cap, e0, hc1, hc2, hca⟩ := sl_cells e0
    have hb : (Instr.sliceBounds true k cap (some (a.eval y)) none none).run P w = .ok (j, k, cap) w := by
      simp [Instr.sliceBounds, run_bound j k _ e1 hj]
    have hrun : ∃ a', (execOp a.eval o).run P w = .ok (.value (.slice a' (k - j) (cap - j))) w ∧ (cs.drop (j * sz) = [] ∨ ∃ b off, ad = some ⟨b, off, none⟩ ∧ a' = some ⟨b, off + j * sz, none⟩ ∧ cellsAt m b off cs) := by
      refine ⟨if cap = j then ad else ad.map (·.add (j * sz)), ?_, ?_⟩
      · simp [execOp, ho, Instr.sliceAt, Instr.slice, underlying, hS.h, e0, hb, hT.run_size]
      · rcases hca with hnil | ⟨b, off, rfl, hca⟩
        · left; rw [hnil, List.drop_nil]
        · by_cases hci : cap = j
          · left
            have hkj : k = j := by omega
            exact List.drop_eq_nil_of_le (by rw [hk, hkj]; exact Nat.le_refl _)
          · right
            refine ⟨b, off, rfl, ?_, hca⟩
            rw [if_neg hci]
            simp [add_none]
    obtain ⟨a', hr, hcs⟩ := hrun
    refine ⟨_, hr, sl_mk (by omega) (by omega) ?_⟩
    rcases hcs with hnil | ⟨b, off, _, rfl, hca⟩
    · left; exact hnil
    · right
      exact ⟨b, off + j * sz, rfl, hca.drop (j * sz)⟩
attribute [local semireducible] WPL in
theorem TSR.of {i : Nat} {o : Oper} {Fe : Fr} {Post : SV → LH → Prop} (ho : ops[i]? = some o) (hg : o.guard = none) (h : ∀ F : Fr, (∀ t, t ∈ o.looksAt ops → Fe t = F t) → WPL P { C with pan := noX } n ops [o] (fun F' H' => ∃ sv, Post sv H' ∧ F' = dstf o F sv) F H) : TSR P C n ops i o Fe H Post := by
  obtain ⟨od, oop, oty, opos, oaft, og⟩ := o
  simp only at hg
  subst hg
  intro F hF a w hst Q' K' hK
  have h' := h F hF a w hst (fun e a' w' => match e with | .normal => K' a' w' | e => False) ⟨fun a' w' F' H' hst' hKK => ?_, fun ch a' w' hp => ?_⟩
  · unfold wpOp
    rw [ho]
    unfold wpList at h'
    simp only [Region.wanted, if_true] at h' ⊢
    left
    rcases h' with h' | ⟨_, a0, w0, h0⟩
    · exact wp_agree h' (fun _ _ _ h => h.elim) (fun _ _ h => h.elim)
    · exact h0.elim
  · obtain ⟨sv, hP, rfl⟩ := hKK
    exact hK sv H' hP a' w' hst'
  · obtain ⟨_, _, _, _, _, _, _, _, _, _, _, hx⟩ := hp
    exact hx.elim
theorem ov_bsN {T e : TypeId} {sz by_ : Nat} {z : List SV} {g : Bool} [hS : TSl P T e] [hT : TY P e sz by_ z g] {x : Operand} {s : SV} {ds : List SV} (hx : ev F x = s) (hco : CO s ds) (hf : fillS ((List.range 1).map fun i => (i * sz, sz)) (List.replicate 1 z).flatten [(0, ds)] = some ds := by exact rfl)
    (hsz : Nat.ble (1 * sz) 16777216 = true := by exact rfl) (hpos : Nat.blt 0 sz = true := by exact rfl) : OpV P (.buildSlice T 1 [(0, x)].toArray) ty F H (sl ds 1) :=
  OpV.pubN (nk_bslice (.cons hx hco .nil) hf hsz hpos) fun m b arr hb h => sl_new hb h (by simp only [maxLen]; omega)
end
theorem pub_ownL {m : Mem} {arr : Array Value} {b : Nat} {T : TypeId} {cs : List SV} {j n c : Nat} (hm : m b = some (.cells arr T (0, 0))) (ha : All2 m (cs ++ List.replicate j top) arr.toList) (h1 : n ≤ c) (h2 : c ≤ maxLen) : (sl cs n).p m (.slice (some ⟨b, 0, none⟩) n c) := by
  refine sl_mk h1 h2 (.inr ⟨b, 0, rfl, arr, T, (0, 0), hm, ?_⟩)
  rw [List.drop_zero]
  exact ha.split.1
section
variable {P : Program} {C : Ctx} {n : Nat} {F : Fr} {H : LH} {ops : Array Oper} {K : Fr → LH → Prop} {rest : List Oper} {ty : TypeId} {pos : String} {aft : Array Edge}
theorem LeL.top : ∀ (l : List SV) (k : Nat), l.length = k → LeL l (List.replicate k top)
  | [], _, h => by subst h; exact trivial
  | s :: l, 0, h => by cases h
  | s :: l, k + 1, h => ⟨fun m v _ => by unfold Ab.top; trivial, LeL.top l k (by simpa using h)⟩
theorem LeL.app : ∀ {a b c d : List SV}, LeL a b → LeL c d → LeL (a ++ c) (b ++ d)
  | [], [], _, _, _, k => k
  | _ :: _, _ :: _, _, _, h, k => ⟨h.1, LeL.app h.2 k⟩
  | [], _ :: _, _, _, h, _ => h.elim
  | _ :: _, [], _, _, h, _ => h.elim
end
section
variable {P : Program} {C : Ctx} {n : Nat} {F : Fr} {H : LH} {ops : Array Oper} {K : Fr → LH → Prop} {rest : List Oper} {ty : TypeId} {pos : String} {aft : Array Edge}
end
section
variable {P : Program} {C : Ctx} {n : Nat} {F : Fr} {H : LH} {ty : TypeId}
theorem xsl_new {m : Mem} {b k : Nat} {arr : Array Value} {T : TypeId} {cs : List SV} (hb : m b = some (.cells arr T (0, 0))) (h : All2 m cs arr.toList) (hk : k ≤ maxLen) : (xsl cs k).p m (.slice (some ⟨b, 0, none⟩) k k) := by
  unfold xsl
  exact ⟨some ⟨b, 0, none⟩, rfl, hk, fun e => (by cases e), .inr ⟨b, 0, rfl, arr, T, (0, 0), hb, by rw [List.drop_zero, ← h.length, List.take_length]; exact h⟩⟩
theorem ov_bsX {T e : TypeId} {sz by_ : Nat} {z : List SV} {g : Bool} [hS : TSl P T e] [hT : TY P e sz by_ z g] {x : Operand} {s : SV} {ds : List SV} (hx : ev F x = s) (hco : CO s ds) (hf : fillS ((List.range 1).map fun i => (i * sz, sz)) (List.replicate 1 z).flatten [(0, ds)] = some ds := by exact rfl)
    (hsz : Nat.ble (1 * sz) 16777216 = true := by exact rfl) (hpos : Nat.blt 0 sz = true := by exact rfl) : OpV P (.buildSlice T 1 [(0, x)].toArray) ty F H (xsl ds 1) :=
  OpV.pubN (nk_bslice (.cons hx hco .nil) hf hsz hpos) fun m b arr hb h => xsl_new hb h (by simp only [maxLen]; omega)
theorem ov_sl3X {T e : TypeId} {sz by_ : Nat} {z : List SV} {g : Bool} [hS : TSl P T e] [hT : TY P e sz by_ z g] {x y y' : Operand} {cs : List SV} {k : Nat} {v v' : Int} (j : Nat) (hx : ev F x = sl cs k) (hy : ev F y = lit (.int .i64 v)) (hy' : ev F y' = lit (.int .i64 v')) (hv : v = (j : Int)) (hv' : v' = (j : Int)) (hk : cs.length = k * sz) (hj : j ≤ k) (hpos : 0 < sz := by decide) :
    OpV P (.slice T x none (some y) (some y')) ty F H (xsl (cs.take (j * sz)) j) :=
  OpV.pure fun m w o a ho _ _ _ h => by
    have e0 := h x (by simp [Op.operands]); rw [hx] at e0
    have e1 := h y (by simp [Op.operands]); rw [hy, lit_p] at e1
    have e2 := h y' (by simp [Op.operands]); rw [hy', lit_p] at e2
    subst hv hv'
    obtain ⟨ad, cap, e0, hc1, hc2, hca⟩ := sl_cells e0
    have hb : (Instr.sliceBounds true k cap none (some (a.eval y)) (some (a.eval y'))).run P w = .ok (0, j, j) w := by
      simp [Instr.sliceBounds, run_bound j cap _ e2 (by omega), run_bound j j _ e1 (Nat.le_refl _)]
    have hrun : ∃ a', (execOp a.eval o).run P w = .ok (.value (.slice a' j j)) w ∧ (∀ q, ad = some q → ∃ q', a' = some q') ∧ ∀ b off, ad = some ⟨b, off, none⟩ → a' = some ⟨b, off, none⟩ := by
      refine ⟨if j = 0 then ad else ad.map (·.add 0), ?_, ?_, ?_⟩
      · simp [execOp, ho, Instr.sliceAt, Instr.slice, underlying, hS.h, e0, hb, hT.run_size]
      · rintro q rfl; split <;> simp
      · rintro b off rfl; simp [add_none]
    obtain ⟨a', hr, q2, q3⟩ := hrun
    refine ⟨_, hr, ?_⟩
    unfold xsl
    refine ⟨a', rfl, by omega, fun hn => ?_, ?_⟩
    · rcases hca with hnil | ⟨b, off, rfl, _⟩
      · rw [hnil, List.length_nil] at hk
        rcases Nat.mul_eq_zero.mp hk.symm with h | h <;> omega
      · obtain ⟨q', hq⟩ := q2 _ rfl; rw [hq] at hn; cases hn
    · rcases hca with hnil | ⟨b, off, rfl, hca⟩
      · left; rw [hnil, List.take_nil]
      · exact .inr ⟨b, off, q3 b off rfl, hca.take _⟩
theorem ov_appXK {T e : TypeId} {sz by_ : Nat} {z : List SV} {g : Bool} [hS : TSl P T e] [hT : TY P e sz by_ z g] {x y : Operand} {cs ds : List SV} {k k0 : Nat} (hx : ev F x = xsl cs k) (hy : ev F y = sl ds k0) (hk : cs.length = k * sz) (hds : ds.length = k0 * sz) (hl : k + k0 ≤ 1000000) (hpos : 0 < sz := by decide) (hby : by_ ≤ 10000 := by decide) :
    OpV P (.call ⟨.builtin .append, #[x, y], #[T, T]⟩) ty F H (sl (cs ++ ds) (k + k0)) := by
  refine OpV.of0 ?_
  intro m w o a ho hty h1 h2 h3 K Q hK
  have e0 := evA (x := x) h3 (by simp [Op.operands, Call.operands]); rw [hx] at e0
  have e1 := evA (x := y) h3 (by simp [Op.operands, Call.operands]); rw [hy] at e1
  unfold xsl at e0
  obtain ⟨ad, e0, hkm, hadn, hca⟩ := e0
  have e1s := e1
  obtain ⟨ad2, cap2, e2, hc1, hc2, hcb⟩ := sl_cells e1s
  obtain ⟨i, v, hi, hsz, hbyt, hz, hzl, hfl, hvs⟩ := hT.run_bytes
  have hmul : ∀ q, q ≤ 2000001 → q * by_ ≤ 140737488355328 := fun q hq => Nat.le_trans (Nat.mul_le_mul hq hby) (by decide)
  have hexec : execOp a.eval o = (do let v ← Builtin.append_ #[T, T] o.type #[a.eval x, a.eval y]; pure (.value v)) := by
    simp [execOp, ho, resolve, invoke, builtin]
  by_cases hk0 : k0 = 0
  · subst hk0
    rw [Nat.zero_mul] at hds
    obtain rfl := List.eq_nil_of_length_eq_zero hds
    have hs : Src P i.size T (.slice ad2 0 cap2) 0 [] w := by
      cases ad2 with
      | none => exact Src.ofNil w hS.h cap2
      | some a2 => exact Src.ofSlice w hS.h a2 0 cap2 [] (by simp) (by intro j u hj; simp at hj) (by intro u hu; cases hu)
    have hrun := run_append_nothing (P := P) w T T o.type e i hS.h hi ad k k (Nat.le_refl _) _ hs
    unfold Oper.wp
    rw [hexec, e0, e2]
    simp only [Sem.run_bind, hrun, Result.andThen_ok, Sem.run_pure]
    refine hK _ m w (sl_mk (Nat.le_refl _) hkm ?_) h1 (Rel.refl _ _ _)
    rw [List.append_nil]
    exact hca
  · obtain ⟨b2, off2, rfl, arr2, T2, fz2, hb2, hall2⟩ := hcb.resolve_left (fun h => by
      rw [h, List.length_nil] at hds
      rcases Nat.mul_eq_zero.mp hds.symm with h | h <;> omega)
    have hw2 := h1 _ _ hb2
    rw [hds] at hall2
    generalize hl2 : (arr2.toList.drop off2).take (k0 * sz) = l2 at hall2
    have hlen2 : l2.length = k0 * sz := by rw [hall2.length, hds]
    have hys : ∀ j u, l2[j]? = some u → w.cell? ((⟨b2, off2, none⟩ : Addr).add j) = some u := fun j u hj => by
      rw [add_none, cell_of w b2 _ arr2 _ _ hw2]
      rw [← hl2, List.getElem?_take] at hj
      split at hj
      · rw [List.getElem?_drop] at hj; simpa using hj
      · cases hj
    have fin : ∀ (c : Nat) (arr : Array Value), k + k0 ≤ c → c ≤ maxLen → All2 m (cs ++ ds) (arr.toList.take ((k + k0) * sz)) → (Builtin.append_ #[T, T] o.type #[a.eval x, a.eval y]).run P w = .ok (.slice (some ⟨w.heap.size, 0, none⟩) (k + k0) c) (w.drew.alloc (.cells arr e)) → o.wp P a w K Q := by
      intro c arr hc hcm hall hrun
      unfold Oper.wp
      rw [hexec]
      simp only [Sem.run_bind, hrun, Result.andThen_ok, Sem.run_pure]
      obtain ⟨m', g1, g2, g3⟩ := pub_new (w' := w.drew.alloc (.cells arr e)) h1 (.inr rfl)
      refine hK _ m' _ (sl_mk hc hcm (.inr ⟨w.heap.size, 0, rfl, arr, e, (0, 0), g3, ?_⟩)) g1 g2
      rw [List.drop_zero, List.length_append, hk, hds, ← Nat.add_mul]
      exact hall.mono g2.le
    have tk : ∀ (l1 r : List Value), All2 m cs l1 → l1.length = k * sz → All2 m (cs ++ ds) ((l1 ++ l2 ++ r).take ((k + k0) * sz)) := fun l1 r hall1 hlen1 => by
      have hlk : (l1 ++ l2).length = (k + k0) * sz := by rw [List.length_append, hlen1, hlen2, Nat.add_mul]
      rw [List.take_append_of_le_length (by rw [hlk]; exact Nat.le_refl _), List.take_of_length_le (by rw [hlk]; exact Nat.le_refl _)]
      exact hall1.append hall2
    rcases hca with hnil | ⟨b1, off1, rfl, arr1, T1, fz1, hb1, hall1⟩
    · subst hnil
      have hk1 : k = 0 := by
        rw [List.length_nil] at hk
        rcases Nat.mul_eq_zero.mp hk.symm with h | h <;> omega
      subst hk1
      cases ad with
      | none =>
        have hrun := run_append_nil (P := P) w T o.type e i v hS.h hi hz ⟨b2, off2, none⟩ k0 cap2 l2 (by rw [hlen2, hsz]) hys (by omega) (by omega) (by rw [hbyt]; have := hmul k0 (by omega); omega)
        rw [← e0, ← e2] at hrun
        refine fin (grownCap w k0 0 e) _ (by rw [Nat.zero_add]; exact grownCap_ge w k0 0 e) (grownCap_le_maxLen w k0 0 e (by simp only [maxLen]; omega)) ?_ (by rw [Nat.zero_add]; exact hrun)
        simp only [Array.toList_append, List.toList_toArray]
        exact tk [] _ trivial (by simp)
      | some ad =>
        refine fin _ _ (grownCap_ge w (0 + k0) 0 e) (grownCap_le_maxLen w (0 + k0) 0 e (by simp only [maxLen]; omega)) ?_ (by rw [e0, e2]; exact run_append_grow (P := P) w T o.type e i v hS.h hi hz ad 0 0 [] (by simp) (by intro j u hj; simp at hj) ⟨b2, off2, none⟩ k0 cap2 l2 (by rw [hlen2, hsz]) hys (by omega) (by omega) (growslice_fits (by omega) (by rw [hbyt]; exact hmul _ (by omega))))
        simp only [Array.toList_append, List.toList_toArray]
        exact tk [] _ trivial (by simp)
    · have hw1 := h1 _ _ hb1
      have hlen1 := hall1.length
      rw [hk] at hall1 hlen1
      have hxs : ∀ j u, ((arr1.toList.drop off1).take (k * sz))[j]? = some u → w.cell? ((⟨b1, off1, none⟩ : Addr).add j) = some u := fun j u hj => by
        rw [add_none, cell_of w b1 _ arr1 _ _ hw1]
        rw [List.getElem?_take] at hj
        split at hj
        · rw [List.getElem?_drop] at hj; simpa using hj
        · cases hj
      refine fin _ _ (grownCap_ge w (k + k0) k e) (grownCap_le_maxLen w (k + k0) k e (by simp only [maxLen]; omega)) ?_ (by rw [e0, e2]; exact run_append_grow (P := P) w T o.type e i v hS.h hi hz ⟨b1, off1, none⟩ k k ((arr1.toList.drop off1).take (k * sz)) (by rw [hlen1, hsz]) hxs ⟨b2, off2, none⟩ k0 cap2 l2 (by rw [hlen2, hsz]) hys (by omega) (by omega) (growslice_fits (by omega) (by rw [hbyt]; exact hmul _ (by omega))))
      simp only [Array.toList_append, List.toList_toArray]
      exact tk _ _ hall1 hlen1
end
theorem ins_cells {α : Type} {f : α → List SV} {sz : Nat} (hf : ∀ a, (f a).length = sz) (l : List α) (x : α) (j : Nat) : ((l.map f).flatten).take (j * sz) ++ (f x ++ ((l.map f).flatten).drop (j * sz)) = (((l.take j) ++ x :: l.drop j).map f).flatten := by
  have h : ∀ (l : List α) (j : Nat), ((l.map f).flatten).take (j * sz) = ((l.take j).map f).flatten ∧ ((l.map f).flatten).drop (j * sz) = ((l.drop j).map f).flatten := by
    intro l
    induction l with
    | nil => intro j; simp
    | cons a l ih =>
      intro j
      cases j with
      | zero => simp
      | succ j =>
        obtain ⟨i1, i2⟩ := ih j
        have e : (j + 1) * sz = (f a).length + j * sz := by rw [hf, Nat.succ_mul]; omega
        constructor
        · rw [List.map_cons, List.flatten_cons, e, List.take_length_add_append, i1, List.take_succ_cons, List.map_cons, List.flatten_cons]
        · rw [List.map_cons, List.flatten_cons, e, List.drop_length_add_append, i2, List.drop_succ_cons]
  obtain ⟨i1, i2⟩ := h l j
  rw [i1, i2, List.map_append, List.flatten_append, List.map_cons, List.flatten_cons]
theorem flat_len {α : Type} {f : α → List SV} {sz : Nat} (hf : ∀ a, (f a).length = sz) (l : List α) : ((l.map f).flatten).length = l.length * sz := by
  induction l with
  | nil => simp
  | cons a l ih => rw [List.map_cons, List.flatten_cons, List.length_append, ih, hf, List.length_cons, Nat.succ_mul, Nat.add_comm]
theorem Parts.pt {F : Fr} {i : Nat} {x : Operand} {cs : List SV} {l : List (Nat × Operand)} {r : List (Nat × List SV)} (hx : ev F x = ag cs) (h : Parts F l r) : Parts F ((i, x) :: l) ((i, cs) :: r) := .cons hx inferInstance h
section
variable {P : Program} {C : Ctx} {n : Nat} {Q : Exit → Fr → LH → Prop} {F : Fr} {H : LH}
theorem WP.rowS {c : Code} {T : TypeId} {sz k : Nat} {cs : List SV} {s : SV} {Hs R : LH} (d : Nat) (hown : Own T sz k cs s Hs) (hF : F d = s) (hp : H.Perm (Hs ++ R)) (h : WP P C n c Q (upd F d (sl cs k)) R) : WP P C n c Q F H := by
  refine WP.perm hp ?_
  obtain ⟨hcl, ⟨rfl, rfl, rfl⟩ | ⟨b, c', h1, h2, rfl, rfl⟩⟩ := hown
  · rw [Nat.zero_mul] at hcl
    obtain rfl := List.eq_nil_of_length_eq_zero hcl
    refine WP.le (F' := upd F d (sl [] 0)) (fun t => ?_) h
    by_cases ht : t = d
    · subst ht; rw [upd_eq, hF]; exact le_nilS
    · rw [upd_ne ht]; exact Le.refl _
  · exact WP.pub (HDel.here _) hF (fun m arr g1 g2 => pub_ownL g1 g2 h1 h2) h
theorem WPL.rowS {l : List Oper} {ops : Array Oper} {K : Fr → LH → Prop} {T : TypeId} {sz k : Nat} {cs : List SV} {s : SV} {Hs R : LH} (d : Nat) (hown : Own T sz k cs s Hs) (hF : F d = s) (hp : H.Perm (Hs ++ R)) (h : WPL P C n ops l K (upd F d (sl cs k)) R) : WPL P C n ops l K F H := by
  refine WPL.perm hp ?_
  obtain ⟨hcl, ⟨rfl, rfl, rfl⟩ | ⟨b, c', h1, h2, rfl, rfl⟩⟩ := hown
  · rw [Nat.zero_mul] at hcl
    obtain rfl := List.eq_nil_of_length_eq_zero hcl
    refine WPL.le (F' := upd F d (sl [] 0)) (fun t => ?_) h
    by_cases ht : t = d
    · subst ht; rw [upd_eq, hF]; exact le_nilS
    · rw [upd_ne ht]; exact Le.refl _
  · exact WPL.pub (HDel.here _) hF (fun m arr g1 g2 => pub_ownL g1 g2 h1 h2) h
end
section
variable {P : Program} {F : Fr} {H : LH} {ty : TypeId}
theorem ov_buildA {T e : TypeId} {len k sz by_ by2 : Nat} {z z2 : List SV} {g g2 : Bool} [hE : TY P e k by2 z2 g2] [hT : TY P T sz by_ z g] (hA : P.underlying T = some (.array len e)) {l : List (Nat × Operand)} {r : List (Nat × List SV)} {cs : List SV}
    (hp : Parts F l r) (hf : fillS ((List.range len).map fun i => (i * k, k)) z r = some cs) : OpV P (.build T l.toArray) ty F H (ag cs) :=
  OpV.pure fun m w o a ho _ _ _ h => by
    obtain ⟨v, hz, hall⟩ := hT.run_zero w
    have hv : ∀ p ∈ l, (ev F p.2).p m (a.eval p.2) := fun p hp' => h p.2 (by simp only [Op.operands, List.mem_toArray, List.mem_map]; exact ⟨p, hp', rfl⟩)
    obtain ⟨arr', hfill, hall'⟩ := fill_all' (m := m) (ρ := a.eval) (fun i => some (i * k, k)) (fun i p h => by
      simp only [List.getElem?_map, Option.map_eq_some_iff] at h
      obtain ⟨j, hj, rfl⟩ := h
      obtain ⟨hlt, rfl⟩ := List.getElem?_eq_some_iff.1 hj
      simp) hp hv z v.cells cs (hall m) hf
    refine ⟨.agg arr', ?_, by unfold ag; exact ⟨arr', rfl, hall'⟩⟩
    simp only [execOp, ho, Instr.build, Sem.run_bind, hz, Result.andThen_ok, underlying, run_program, hA, Sem.run_pure, hE.run_size, List.map_toArray]
    rw [hfill]
    rfl
theorem ov_idxA {x ix : Operand} {T e : TypeId} {len k by2 : Nat} {z2 : List SV} {g2 : Bool} [hE : TY P e k by2 z2 g2] (hA : P.underlying T = some (.array len e)) {ki : IntKind} {b : Nat} {i : Int}
    (hx : ev F x = lit (.pointer (some ⟨b, 0, none⟩))) (hi : ev F ix = lit (.int ki i)) (h0 : 0 ≤ i) (h1 : i < len) : OpV P (.indexAddr T x ix) ty F H (lit (.pointer (some ⟨b, i.toNat * k, none⟩))) :=
  OpV.pure fun m w o a hop _ _ _ h => by
    have e0 := h x (by simp [Op.operands]); rw [hx, lit_p] at e0
    have e1 := h ix (by simp [Op.operands]); rw [hi, lit_p] at e1
    refine ⟨.pointer (some ⟨b, i.toNat * k, none⟩), ?_, lit_p.2 rfl⟩
    simp [execOp, hop, e0, e1, Instr.indexAt, Instr.sureAddr, asIntOf, underlying, hA, h0, h1, hE.run_size, add_none]
end
abbrev ppx (p : Pq) : List SV := [lit (.int .i64 (r0 p.1)), lit (.int .i64 (r1 p.1)), r2 p.1, lit (.int .i64 (r0 p.2)), lit (.int .i64 (r1 p.2)), r2 p.2]
theorem ppx_len (p : Pq) : (ppx p).length = 6 := rfl
abbrev pps (l : List Pq) : SV := sl (l.map ppx).flatten l.length
abbrev edgS (l : List Pq) (i : Nat) : List SV := [lit (.int .i64 (i : Nat)), ag (ppx (l.getD i (0, 0)) ++ ppx (l.getD ((i + 1) % l.length) (0, 0)))]
theorem edges_pu (l : List Pq) : Pu Tryz.prog 69 [pps l] (fnv 124 [] [pt [pps l]]) := by
  refine Pu.intro Tryz.func69 rfl (by kernel_rfl) fun C => ?_
  repeat (refine AS ⟨?_⟩; intros)
  (refine O1 ⟨?_⟩; intros)
  refine WpubP 1 rfl (HDel.here _) ?_
  repeat (refine A1 ⟨?_⟩; intros)
  exact endR (end1 (RV.tmp rfl) (Le.refl _))
section
variable {P : Program} {C : Ctx} {n : Nat} {F : Fr} {H : LH} {Post : Exit → Act → World → Prop}
attribute [local semireducible] WP WPL thenQ blkQ Dk
def WPY (P : Program) (C : Ctx) (n : Nat) (c : Code) (Post : Exit → Act → World → Prop) (F : Fr) (H : LH) : Prop := ∀ a w, St C n F H a w → ∀ d, c.wpIn (fe none) d P Post a w
theorem WPY.seq {x y : Code} (hpan : ∀ pv H, ¬ C.pan pv H) (h : WPX none P C n x (onlyN fun F H => WPY P C n y Post F H) F H) : WPY P C n (.seq x y) Post F H := by
  intro a w hs d
  refine wpIn_seq (wpIn_mono (h a w hs d) ?_)
  rintro e a' w' (⟨F', H', hs', hq⟩ | ⟨ch, rfl, _, m, v, pv, H', _, _, _, _, _, _, hx⟩)
  · cases e with
    | normal => exact hq a' w' hs' d
    | _ => exact hq.elim
  · exact absurd hx (hpan _ _)
theorem onlyN.i {K : Fr → LH → Prop} (h : K F H) : onlyN K .normal F H := h
theorem WPY.le {c : Code} {F' : Fr} (k : LeF F F') (h : WPY P C n c Post F' H) : WPY P C n c Post F H := fun a w hs => h a w (hs.le k)
theorem WPY.exitF {c : Operand} {id : Nat} {y : Code} (hc : ev F c = lit (.bool false)) (h : ∀ a w, St C n F H a w → Post (.exit id) a w) : WPY P C n (.seq (.cond c .skip (.exit id)) y) Post F H := by
  intro a w hs d
  obtain ⟨m, _, hp⟩ := hs.evp
  have hv := hp c
  rw [hc, lit_p] at hv
  exact wpIn_seq (wpIn_cond_false hv (wpIn_exit (h a w hs)))
theorem WPY.goT {c : Operand} {id : Nat} {y : Code} (hc : ev F c = lit (.bool true)) (h : WPY P C n y Post F H) : WPY P C n (.seq (.cond c .skip (.exit id)) y) Post F H := by
  intro a w hs d
  obtain ⟨m, _, hp⟩ := hs.evp
  have hv := hp c
  rw [hc, lit_p] at hv
  exact wpIn_seq (wpIn_cond_true hv (wpIn_skip (h a w hs d)))
theorem WPY.seqB {id : Nat} {x y : Code} (h : WPY P C n x (Exit.inBlock id (Exit.then (fun a w => ∀ d, y.wpIn (fe none) d P Post a w) Post)) F H) : WPY P C n (.seq (.block id x) y) Post F H := by
  intro a w hs d
  refine wpIn_seq (wpIn_block (wpIn_mono (h a w hs d) ?_))
  intro e a w hq
  cases e with
  | normal => exact hq d
  | exit id' =>
    simp only [Exit.inBlock] at hq ⊢
    split
    · rename_i e; rw [if_pos e] at hq; exact hq d
    · rename_i e; rw [if_neg e] at hq; exact hq
  | _ => exact hq
theorem WPY.last {c : Code} {Q : Exit → Fr → LH → Prop} (h : WPX none P C n c Q F H) (k : ∀ e a w, liftQ C n Q e a w → Post e a w) : WPY P C n c Post F H := fun a w hs d => wpIn_mono (h a w hs d) k
theorem WPY.block {id : Nat} {c : Code} (h : WPY P C n c (Exit.inBlock id Post) F H) : WPY P C n (.block id c) Post F H := fun a w hs d => wpIn_block (h a w hs d)
theorem WPY.loop {c : Code} (J : Nat → Fr) (I : Nat → Prop) (L : LH) (k : Nat) (hI : I k) (h0 : LeF F (J k)) (hH : L.Sublist H) (hs : ∀ k, I k → WPY P C n c (Exit.then (fun a w => ∃ j, j < k ∧ I j ∧ St C n (J j) L a w) Post) (J k) L) : WPY P C n (.loop c) Post F H := by
  intro a w hst d
  have key : ∀ k a w, I k → St C n (J k) L a w → Code.roundsIn (fe none) d P c Post (k + 1) a w := by
    intro k
    induction k using Nat.strongRecOn with
    | ind k ih =>
      intro a w hIk hst
      refine wpIn_mono (hs k hIk a w hst d) ?_
      intro e a' w' hq
      cases e with
      | normal =>
        obtain ⟨j, hj, hIj, hst'⟩ := hq
        have h1 := ih j hj a' w' hIj hst'
        have mono : ∀ (q q' : Nat) (a : Act) (w : World), q ≤ q' → Code.roundsIn (fe none) d P c Post q a w → Code.roundsIn (fe none) d P c Post q' a w := by
          intro q
          induction q with
          | zero => intro q' a w _ h; exact h.elim
          | succ q ihq =>
            intro q' a w hle h
            obtain ⟨q'', rfl⟩ : ∃ q'', q' = q'' + 1 := ⟨q' - 1, by omega⟩
            refine wpIn_mono h ?_
            intro e a w hq
            cases e with
            | normal => exact ihq q'' a w (by omega) hq
            | _ => exact hq
        exact mono (j + 1) k a' w' (by omega) h1
      | _ => exact hq
  exact wpIn_loop_rounds (k + 1) (key k a w hI ((hst.sub hH).le h0))
end
theorem run_yieldOp {P : Program} {w w' : World} {a : Act} {x : Operand} {l : Nat} {nx : Next} {args : List Operand} {tys : Array TypeId} {d : Option Nat} {ty : TypeId} {pos : String} {aft : Array Edge} (hx : a.eval x = .func (.yield l) #[] #[]) (hy : (Instr.yield l (args.map a.eval).toArray).run P w = .ok nx w') :
    (execOp a.eval (⟨d, .call ⟨.value x, args.toArray, tys⟩, ty, pos, aft, none⟩ : Oper)).run P w = .ok nx w' := by
  simp only [execOp, resolve, hx, Sem.run_bind, Deferred.ofValue, Sem.run_pure, Result.andThen_ok, invoke, List.map_toArray, Array.empty_append, Array.append_empty]
  exact hy
theorem listIn_yield {P : Program} {ops : Array Oper} {Q : Exit → Act → World → Prop} {rest : List Oper} {dd : Nat} {w : World} {a : Act} {x : Operand} {l l' : Nat} {args : List Operand} {tys : Array TypeId} {d : Option Nat} {ty : TypeId} {pos : String} {aft : Array Edge} {fn : FuncId} {tmps : Array Value} {asg bdy : Code}
    (hx : a.eval x = .func (.yield l) #[] #[]) (hy : (Instr.yield l (args.map a.eval).toArray).run P w = .ok (.round l' fn tmps asg bdy) w) (hR : RoundIn (fe none) (dd - 1) P l' fn tmps asg bdy w fun
      | .returned v, w'' => wpListIn (fe none) dd P ops Q rest (a.put d v) w''
      | .panicked chain, w'' => Q (.panic chain) a w''
      | .outgrown, _ => LetsOut Q) : wpListIn (fe none) dd P ops Q (⟨d, .call ⟨.value x, args.toArray, tys⟩, ty, pos, aft, none⟩ :: rest) a w := by
  unfold wpListIn
  rw [if_pos (show Region.wanted _ _ = true from rfl)]
  refine ⟨fun _ _ => trivial, ?_⟩
  rw [Oper.semAt_eq _ _ _ (fun c e => by cases e), run_yieldOp hx hy]
  exact ⟨(fun e => by cases e), hR⟩
theorem listIn_val {P : Program} {ops : Array Oper} {Q : Exit → Act → World → Prop} {rest : List Oper} {dd : Nat} {w w' : World} {a : Act} {o : Oper} {v : Value} (hg : o.guard = none) (hd : (!isDefer o.op) = true) (hr : (execOp a.eval o).run P w = .ok (.value v) w') (h : wpListIn (fe none) dd P ops Q rest (a.put o.dst v) w') : wpListIn (fe none) dd P ops Q (o :: rest) a w := by
  unfold wpListIn
  rw [if_pos (show Region.wanted _ _ = true by simp only [Region.wanted, hg])]
  refine ⟨fun _ _ => trivial, ?_⟩
  rw [Oper.semAt_eq _ _ _ (not_defer hd), hr]
  exact h
theorem run_notOp {P : Program} {w : World} {a : Act} {x : Operand} {b : Bool} {T : TypeId} {d : Option Nat} {ty : TypeId} {pos : String} {aft : Array Edge} (hx : a.eval x = .bool b) : (execOp a.eval (⟨d, .unOp .not T x, ty, pos, aft, none⟩ : Oper)).run P w = .ok (.value (.bool (!b))) w := by simp only [execOp, hx]; cases b <;> rfl
theorem getD_at {l : List Pq} {i : Nat} (h : i < l.length) : l[i]? = some (l.getD i (0, 0)) := by
  rw [List.getD_eq_getElem?_getD, List.getElem?_eq_getElem h]; rfl
abbrev edgF (y : Nat) (ps : List Pq) (i : Nat) : Fr := fm [(0, lit (.func (.yield y) #[] #[])), (1, pt [pps ps]), (5, pps ps), (6, lit (.int .i64 (ps.length : Nat))), (7, lit (.int .i64 (i : Nat)))]
set_option maxHeartbeats 4000000 in
theorem edges1_ok (ps : List Pq) (hl : ps.length ≤ 100000) : ItOk Tryz.prog 124 [pt [pps ps]] (edgS ps) ps.length := by
  refine ⟨by kernel_rfl, ?_⟩
  intro l rec G Gx T m w lb hs hpd hm hH hmn hlk hL hargs hY
  have hLt := lt_of_at hL
  refine (callsIn_wide (n := 5)).1 (callsIn_of_wp Tryz.func124 rfl trivial ?_ rfl)
  obtain ⟨C, hC⟩ : ∃ C : Ctx, C = ⟨keys G, m, w, noX, []⟩ := ⟨_, rfl⟩
  have hpan : ∀ pv H, ¬ C.pan pv H := by rw [hC]; exact fun _ _ h => h
  have hst : St C 27 (ini [lit (.func (.yield l) #[] #[]), pt [pps ps]]) G { tmps := (Value.func (.yield l) #[] #[] :: lb).toArray ++ Array.replicate (27 - (Value.func (.yield l) #[] #[] :: lb).toArray.size) undef, defers := [] } w := by
    rw [hC]
    refine ⟨rfl, by simp only [Array.size_append, Array.size_replicate]; omega, m, hm, hH, Rel.refl _ _ _, fun e he => .inl (mem_keys he), fun t => ?_⟩
    have := ini_ok (us := List.replicate (27 - (Value.func (.yield l) #[] #[] :: lb).toArray.size) undef) (show ArgsOk m [lit (.func (.yield l) #[] #[]), pt [pps ps]] (Value.func (.yield l) #[] #[] :: lb) from ⟨lit_p.2 rfl, hargs⟩) t
    rw [show (Value.func (.yield l) #[] #[] :: lb).toArray ++ Array.replicate (27 - (Value.func (.yield l) #[] #[] :: lb).toArray.size) undef = ((Value.func (.yield l) #[] #[] :: lb) ++ List.replicate (27 - (Value.func (.yield l) #[] #[] :: lb).toArray.size) undef).toArray from by simp]
    exact this
  have hfin : (∀ i, i < ps.length → T i) → ∀ F a w', St C 27 F G a w' → bodyPost Tryz.prog Tryz.f124 (fun e w' => (∃ v, e = .returned v) ∧
      (((∀ i, i < ps.length → T i) ∧ w'.heap[l]? = some (.loop rec) ∧ ∃ m', MemIn m' w' ∧ HOk m' w' G ∧ Rel (keys G) m w m' w') ∨
       (w'.heap[l]? = some (.loop { rec with state := .done, pending := some .ret }) ∧ ∃ m' H', MemIn m' w' ∧ HOk m' w' H' ∧ Rel (l :: keys G) m w m' w' ∧ m' l = none ∧ (∀ e ∈ H', e.1 ∈ keys G ∨ w.heap.size ≤ e.1) ∧ Gx H'))) .normal a w' := by
    rintro hTT F a w' ⟨hdef, _, m', h1, h2, h3, h4, _⟩
    rw [hC] at hdef h3
    exact ⟨hdef, .tuple #[], by simp [results], ⟨_, rfl⟩, .inl ⟨hTT, (h3.block l hLt hlk).trans hL, m', h1, h2, h3⟩⟩
  generalize hPost : bodyPost Tryz.prog Tryz.f124 _ = Post at hfin ⊢
  have hstop : ∀ a w', a.defers = [] → w'.heap[l]? = some (.loop { rec with state := .done, pending := some .ret }) → (∃ m' H', MemIn m' w' ∧ HOk m' w' H' ∧ Rel (l :: keys G) m w m' w' ∧ m' l = none ∧ (∀ e ∈ H', e.1 ∈ keys G ∨ w.heap.size ≤ e.1) ∧ Gx H') → Post .ret a w' := by
    intro a w' h1 h2 h3
    rw [← hPost]
    exact ⟨h1, .tuple #[], by simp [results], ⟨_, rfl⟩, .inr ⟨h2, h3⟩⟩
  clear hPost
  suffices h : WPY Tryz.prog C 27 _ Post (ini [lit (.func (.yield l) #[] #[]), pt [pps ps]]) G from h _ _ hst 5
  clear hst
  refine WPY.seq hpan ?_
  refine WPX.reg ?_
  repeat (refine A1 ⟨?_⟩; intros)
  refine onlyN.i ?_
  refine WPY.block ?_
  refine WPY.loop (fun k => edgF l ps (ps.length - k)) (fun k => ∀ j, j < ps.length - k → T j) G ps.length (fun j hj => by omega) (by rw [Nat.sub_self]; (repeat (first | exact LeF.nil _ | refine LeF.cons (Le.refl _) ?_ | refine LeF.cons (Le.int (by omega)) ?_))) (List.Sublist.refl _) fun k hTk => ?_
  obtain ⟨i, hi⟩ : ∃ i, i = ps.length - k := ⟨_, rfl⟩
  rw [← hi] at hTk
  have hle : i ≤ ps.length := by omega
  rw [show edgF l ps (ps.length - k) = edgF l ps i by rw [hi]]
  refine WPY.seq hpan (WPX.reg ?_)
  by_cases hlt : i < ps.length
  case neg =>
    have hie : i = ps.length := by omega
    repeat (refine A1 ⟨?_⟩; intros)
    refine onlyN.i (WPY.exitF rfl fun a w' h => ?_)
    show (if (0 : Nat) = 0 then Post .normal a w' else Post (.exit 0) a w')
    rw [if_pos rfl]
    exact hfin (fun j hj => hTk j (by omega)) _ a w' h
  have hget := getD_at hlt
  have hml : (i + 1) % ps.length < ps.length := Nat.mod_lt _ (by omega)
  have hget2 := getD_at hml
  have hYi := hY i hlt
  simp only [edgS] at hYi
  generalize ps.getD i (0, 0) = p at hget hYi
  generalize ps.getD ((i + 1) % ps.length) (0, 0) = q at hget2 hYi
  have hat := flat_at (f := ppx) (n := 6) ppx_len hget
  have hat2 := flat_at (f := ppx) (n := 6) ppx_len hget2
  have hne : (ps.map ppx).flatten ≠ [] := flat_ne ppx_len (by omega) (fun e => by rw [e] at hlt; simp at hlt)
  repeat (refine A1 ⟨?_⟩; intros)
  refine onlyN.i (WPY.goT rfl (WPY.seqB (WPY.seq hpan (WPX.reg ?_))))
  repeat (refine A1 ⟨?_⟩; intros)
  refine Wo (ov_idxS (cs' := ppx p) rfl rfl (by omega) (by omega) hat hne) ?_
  repeat (refine A1 ⟨?_⟩; intros)
  refine onlyN.i ?_
  rename_i b4
  intro a2 w2 hst2 d2
  refine wpIn_seq (wpIn_mono (drawX (Q' := fun e a w' => e = .normal ∧ ((T i ∧ ∃ F', St C 27 F' G a w' ∧ LeF F' (fm [(0, lit (.func (.yield l) #[] #[])), (1, pt [pps ps]), (5, pps ps), (6, lit (.int .i64 (ps.length : Nat))), (7, lit (.int .i64 (i : Nat))), (25, lit (.bool false))])) ∨
    (a.tmps.getD 25 undef = .bool true ∧ a.defers = [] ∧ w'.heap[l]? = some (.loop { rec with state := .done, pending := some .ret }) ∧ ∃ m' H', MemIn m' w' ∧ HOk m' w' H' ∧ Rel (l :: keys G) m w m' w' ∧ m' l = none ∧ (∀ e ∈ H', e.1 ∈ keys G ∨ w.heap.size ≤ e.1) ∧ Gx H'))) 12 ?_ (fun _ _ h => by cases h.1) hst2) ?_)
  · repeat (refine A1 ⟨?_⟩; intros)
    refine Wdo (ov_idxS (cs' := ppx q) rfl rfl (Int.natCast_nonneg _) (by exact_mod_cast hml) hat2 hne) ?_
    repeat (refine A1 ⟨?_⟩; intros)
    refine Wdo (ov_buildA (len := 2) (k := 6) (r := [(0, ppx p), (1, ppx q)]) (cs := ppx p ++ ppx q) Tryz.underlying158 (.pt rfl (.pt rfl .nil)) rfl) ?_
    refine Dk.nil ?_
    refine ⟨rfl, ?_⟩
    intro a4 w4 hst4
    have hev := hst4
    obtain ⟨hdef, hn, m4, h1, h2, h3, h4, h5⟩ := hst4
    rw [hC] at hdef h3
    have v0 := lit_p.1 (h5 12)
    have hargs4 : ArgsOk m4 [lit (.int .i64 (i : Nat)), ag (ppx p ++ ppx q)] [a4.tmps.getD 13 undef, a4.tmps.getD 23 undef] := ⟨h5 13, h5 23, trivial⟩
    have hml4 : m4 l = none := (h3.old l hLt hlk).trans hmn
    have hL4 : w4.heap[l]? = some (.loop rec) := (h3.block l hLt hlk).trans hL
    obtain ⟨fn, tmps, asg, bdy, hy, hR⟩ := hYi m4 w4 _ h1 (h2.sub' (List.sublist_cons_self _ _)) h3.le hml4 hlk hL4 hargs4
    have hsz : 25 < a4.tmps.size := Nat.lt_of_lt_of_le (by decide) hn
    have n24 : ∀ b : Bool, (a4.put (some 24) (.bool b)).eval (.tmp 24) = .bool b := fun b => by
      show (a4.put (some 24) _).tmps.getD 24 undef = _
      rw [getD_put (by omega), if_pos rfl]
    have n25 : ∀ b c : Bool, ((a4.put (some 24) (.bool b)).put (some 25) (.bool c)).tmps.getD 25 undef = .bool c := fun b c => by
      rw [getD_put (by simpa [Act.put] using hsz), if_pos rfl]
    have h5' : ∀ t, (edgF l ps i t).p m4 (a4.tmps.getD t undef) := fun t => (show LeF _ (edgF l ps i) from by (repeat (first | exact LeF.nil _ | refine LeF.cons (Le.refl _) ?_ | refine LeF.cons (Le.int (by omega)) ?_))) t _ _ (h5 t)
    refine listIn_yield (show a4.eval (.tmp 12) = _ from v0) hy ((hR _).mono ?_)
    rintro e w5 (⟨rfl, hTi, hl5, m5, q1, q2, q3⟩ | ⟨rfl, hl5, m5, H5, q1, q2, q3, q4, q5, q6⟩)
    · refine listIn_val rfl rfl (run_notOp (n24 true)) ?_
      refine ⟨rfl, .inl ⟨hTi, upd (upd (edgF l ps i) 24 (lit (.bool true))) 25 (lit (.bool false)), ?_, by (repeat (first | exact LeF.nil _ | refine LeF.cons (Le.refl _) ?_ | refine LeF.cons (Le.int (by omega)) ?_))⟩⟩
      rw [hC]
      refine ⟨hdef, by simpa [Act.put] using hn, m5, q1, q2, h3.trans q3 (fun b _ h => h), fun e he => .inl (mem_keys he), fun t => ?_⟩
      by_cases ht : t = 25
      · subst ht
        rw [upd_eq]
        exact lit_p.2 (n25 true false)
      · show SV.p _ _ (((a4.put (some 24) (.bool true)).put (some 25) (.bool false)).tmps.getD t undef)
        rw [upd_ne ht, getD_put (by simpa [Act.put] using hsz), if_neg ht, getD_put (by omega)]
        by_cases ht2 : t = 24
        · subst ht2
          rw [upd_eq, if_pos rfl]
          exact lit_p.2 rfl
        · rw [upd_ne ht2, if_neg ht2]
          exact SV.mono _ q3.le (h5' t)
    · refine listIn_val rfl rfl (run_notOp (n24 false)) ?_
      refine ⟨rfl, .inr ⟨n25 false true, hdef, hl5, m5, H5, q1, q2, ?_, q4, fun e he => ?_, q6⟩⟩
      · exact (h3.mono fun b hb => List.mem_cons_of_mem _ hb).trans q3 fun b _ h => h
      · rcases q5 e he with h | h
        · exact .inl h
        · exact .inr (Nat.le_trans h3.size h)
  · rintro e a3 w3 ⟨rfl, ⟨hTi, F', hst3, hF'⟩ | ⟨ht, hd3, hl3, hx3⟩⟩
    · have hst5 := hst3.le hF'
      obtain ⟨m3, _, hp3⟩ := hst5.evp
      have hv := lit_p.1 (hp3 (.tmp 25))
      refine wpIn_cond_false hv (wpIn_skip ?_)
      intro d4
      suffices hreg : WPY Tryz.prog C 27 _ (Exit.then (fun a w => ∃ j, j < k ∧ (∀ j', j' < ps.length - j → T j') ∧ St C 27 (edgF l ps (ps.length - j)) G a w) (Exit.inBlock 0 Post)) (fm [(0, lit (.func (.yield l) #[] #[])), (1, pt [pps ps]), (5, pps ps), (6, lit (.int .i64 (ps.length : Nat))), (7, lit (.int .i64 (i : Nat))), (25, lit (.bool false))]) G from hreg a3 w3 hst5 d4
      refine WPY.last (Q := onlyN fun F H => LeF F (edgF l ps (i + 1)) ∧ H = G) (WPX.reg ?_) ?_
      · repeat (refine A1 ⟨?_⟩; intros)
        exact ⟨by (repeat (first | exact LeF.nil _ | refine LeF.cons (Le.refl _) ?_ | refine LeF.cons (Le.int (by omega)) ?_)), rfl⟩
      · rintro e a6 w6 (⟨F6, H6, hs6, hq6⟩ | ⟨ch, rfl, _, _, _, _, _, _, _, _, _, _, _, hx⟩)
        · cases e with
          | normal =>
            obtain ⟨hF6, rfl⟩ := hq6
            refine ⟨ps.length - (i + 1), by omega, fun j' hj' => (if he : j' = i then he ▸ hTi else hTk j' (by omega)), ?_⟩
            rw [show ps.length - (ps.length - (i + 1)) = i + 1 by omega]
            exact hs6.le hF6
          | _ => exact hq6.elim
        · exact absurd hx (hpan _ _)
    · refine wpIn_cond_true (show a3.eval (.tmp 25) = .bool true from ht) (wpIn_ret ?_)
      exact hstop _ _ hd3 hl3 hx3
abbrev rpx (p : Pq) : List SV := [lit (.bool (decide (p.1.num < 0))), nat p.1.num.natAbs, dg (dden p.1.den), lit (.bool (decide (p.2.num < 0))), nat p.2.num.natAbs, dg (dden p.2.den)]
theorem rpx_len (p : Pq) : (rpx p).length = 6 := rfl
abbrev rps (l : List Pq) : SV := sl (l.map rpx).flatten l.length
theorem pcmp_pu (p q : Pq) (h1 : ht p.1 ≤ 3000000 ∧ ht p.2 ≤ 3000000) (h2 : ht q.1 ≤ 3000000 ∧ ht q.2 ≤ 3000000) : Pu Tryz.prog 101 [ag (rpx p), ag (rpx q)] (lit (.int .i64 (pcmp p q))) := by
  obtain ⟨x, y⟩ := p
  obtain ⟨u, v⟩ := q
  have c1 := rc_pu x u h1.1 h2.1
  have c2 := rc_pu y v h1.2 h2.2
  have e1 := sub_sign_zero (x := x) (y := u)
  unfold pcmp
  simp only
  generalize (x - u).num.sign = s at *
  generalize (y - v).num.sign = t at *
  clear h1 h2
  by_cases h : x = u
  · have hs := e1.2 h
    rw [if_pos h]
    clear e1 h
    subst hs
    refine Pu.intro Tryz.func101 rfl (by kernel_rfl) fun C => ?_
    repeat (first | (refine A1 ⟨?_⟩; intros) | (refine Wcx (c1) ?_) | (refine Wdcx (c1) ?_) | (refine Wcgx (c1) ?_) | (refine Wdcgx (c1) ?_) | (refine Wcx (c2) ?_) | (refine Wdcx (c2) ?_) | (refine Wcgx (c2) ?_) | (refine Wdcgx (c2) ?_))
    ((first | refine endR ?_ | refine endN ?_); exact end1 (RV.tmp rfl) (Le.refl _))
  · have hs : s ≠ 0 := fun e => h (e1.1 e)
    rw [if_neg h]
    clear e1 h
    refine Pu.intro Tryz.func101 rfl (by kernel_rfl) fun C => ?_
    repeat (first | (refine A1 ⟨?_⟩; intros) | (refine Wcx (c1) ?_) | (refine Wdcx (c1) ?_) | (refine Wcgx (c1) ?_) | (refine Wdcgx (c1) ?_) | (refine Wcx (c2) ?_) | (refine Wdcx (c2) ?_) | (refine Wcgx (c2) ?_) | (refine Wdcgx (c2) ?_))
    ((first | refine endR ?_ | refine endN ?_); exact end1 (RV.tmp rfl) (Le.refl _))
set_option maxHeartbeats 4000000 in
theorem sorted_pu (l : List Pq) (hl : l.length ≤ 100000) (hh : ∀ p ∈ l, ht p.1 ≤ 3000000 ∧ ht p.2 ≤ 3000000) : Pu Tryz.prog 45 [rps l] (rps (srt l)) := by
  refine Pu.intro Tryz.func45 rfl (by kernel_rfl) fun C => ?_
  repeat (refine A1 ⟨?_⟩; intros)
  refine WP.loopS (ι := Nat) (fun k => k ≤ l.length) (fun k => l.length - k) (fun k => fm [(3, rps (srt (l.take k))), (7, rps l), (8, lit (.int .i64 l.length)), (9, lit (.int .i64 k))]) (fun _ => []) 0
    (Nat.zero_le _) (LeF.cons le_nilS (by (repeat (first | exact LeF.nil _ | refine LeF.cons (Le.refl _) ?_ | refine LeF.cons (Le.int (by omega)) ?_)))) (List.nil_sublist _) ?_
  rintro k hk K hK
  by_cases hkl : k < l.length
  · have hget := List.getElem?_eq_getElem hkl
    generalize l[k] = p at hget
    have hp := hh p (List.mem_of_getElem? hget)
    have hat := flat_at (f := rpx) (n := 6) rpx_len hget
    have hne : (l.map rpx).flatten ≠ [] := flat_ne rpx_len (by omega) (fun e => by rw [e] at hkl; simp at hkl)
    have hgo := fun F' H' h1 h2 => hK F' H' (k + 1) (by omega) (by omega) h1 h2
    rw [srt_take hget] at hgo
    have hsm : ∀ q ∈ srt (l.take k), ht q.1 ≤ 3000000 ∧ ht q.2 ≤ 3000000 := fun q hq => hh q (List.mem_of_mem_take ((srt_mem _ q).1 hq))
    have hsl := srt_len (l.take k)
    rw [List.length_take] at hsl
    generalize srt (l.take k) = out at hgo hsm hsl ⊢
    clear hK hh
    repeat (refine A1 ⟨?_⟩; intros)
    refine Wo (ov_idxS (cs' := rpx p) rfl rfl (by omega) (by omega) hat hne) ?_
    repeat (refine A1 ⟨?_⟩; intros)
    rename_i b5
    refine WP.loopS (ι := Nat) (fun j => j ≤ pat out p) (fun j => out.length - j) (fun j => fm [(3, rps out), (5, lit (.pointer (some ⟨b5, 0, none⟩))), (6, lit (.int .i64 j)), (7, rps l), (8, lit (.int .i64 l.length)), (9, lit (.int .i64 k))])
      (fun _ => [(b5, 76, rpx p)]) 0 (Nat.zero_le _) (by (repeat (first | exact LeF.nil _ | refine LeF.cons (Le.refl _) ?_ | refine LeF.cons (Le.int (by omega)) ?_))) (List.Sublist.refl _) ?_
    rintro j hj K2 hK2
    have hpl := pat_le out p
    have hfl := flat_len rpx_len out
    have hins := ins_cells rpx_len out p j
    have hdl : (((out.map rpx).flatten).drop (j * 6)).length = (out.length - j) * 6 := by rw [List.length_drop, hfl, Nat.sub_mul]
    have hln : j + (1 + (out.length - j)) = (out.take j ++ p :: out.drop j).length := by rw [List.length_append, List.length_cons, List.length_take, List.length_drop]; omega
    have htl : (((out.map rpx).flatten).take (j * 6)).length = j * 6 := by rw [List.length_take, hfl]; omega
    have hpl2 : (rpx p ++ ((out.map rpx).flatten).drop (j * 6)).length = (1 + (out.length - j)) * 6 := by rw [List.length_append, hdl, rpx_len]; omega
    by_cases hjl : j < out.length
    · have hgo2 := out[j]?
      have hget2 := List.getElem?_eq_getElem hjl
      generalize out[j] = o at hget2
      have ho := hsm o (List.mem_of_getElem? hget2)
      have hat2 := flat_at (f := rpx) (n := 6) rpx_len hget2
      have hne2 : (out.map rpx).flatten ≠ [] := flat_ne rpx_len (by omega) (fun e => by rw [e] at hjl; simp at hjl)
      have c := pcmp_pu o p ho hp
      obtain ⟨s1, s2⟩ := pat_step hj hget2
      cases hlt : plt o p with
      | true =>
        have hneg : pcmp o p < 0 := by unfold plt at hlt; exact of_decide_eq_true hlt
        have hj1 := s1 hlt
        generalize pcmp o p = s at c hneg
        clear hgo s1 s2
        repeat (refine A1 ⟨?_⟩; intros)
        refine Wdog (ov_idxS (cs' := rpx o) rfl rfl (by omega) (by omega) hat2 hne2) ?_
        repeat (first | (refine A1 ⟨?_⟩; intros) | (refine Wcx (c) ?_) | (refine Wdcx (c) ?_) | (refine Wcgx (c) ?_) | (refine Wdcgx (c) ?_))
        exact hK2 _ _ (j + 1) hj1 (by omega) (by (repeat (first | exact LeF.nil _ | refine LeF.cons (Le.refl _) ?_ | refine LeF.cons (Le.int (by omega)) ?_))) (List.Sublist.refl _)
      | false =>
        have hneg : ¬pcmp o p < 0 := by unfold plt at hlt; exact of_decide_eq_false hlt
        have hje := s2 hlt
        clear hK2 s1 s2
        by_cases hz : o = p
        · have h0 := pcmp_zero.2 hz
          have hpi : pins out p = out := by unfold pins; rw [if_pos (by rw [← hje, hget2, hz])]
          rw [hpi] at hgo
          rw [h0] at c
          clear hneg hlt
          repeat (refine A1 ⟨?_⟩; intros)
          refine Wdog (ov_idxS (cs' := rpx o) rfl rfl (by omega) (by omega) hat2 hne2) ?_
          repeat (first | (refine A1 ⟨?_⟩; intros) | (refine Wcx (c) ?_) | (refine Wdcx (c) ?_) | (refine Wcgx (c) ?_) | (refine Wdcgx (c) ?_))
          refine Wdog (ov_idxS (cs' := rpx o) rfl rfl (by omega) (by omega) hat2 hne2) ?_
          repeat (first | (refine A1 ⟨?_⟩; intros) | (refine Wcx (c) ?_) | (refine Wdcx (c) ?_) | (refine Wcgx (c) ?_) | (refine Wdcgx (c) ?_))
          exact hgo _ _ (by (repeat (first | exact LeF.nil _ | refine LeF.cons (Le.refl _) ?_ | refine LeF.cons (Le.int (by omega)) ?_))) (List.nil_sublist _)
        · have h0 : ¬pcmp o p = 0 := fun e => hz (pcmp_zero.1 e)
          have hpi : pins out p = out.take j ++ p :: out.drop j := by unfold pins; rw [← hje, if_neg (by rw [hget2]; exact fun e => hz (Option.some.inj e))]
          rw [hpi] at hgo
          have hpos : 0 < pcmp o p := by omega
          generalize pcmp o p = s at c hpos
          clear hneg hlt h0
          repeat (refine A1 ⟨?_⟩; intros)
          refine Wdog (ov_idxS (cs' := rpx o) rfl rfl (by omega) (by omega) hat2 hne2) ?_
          repeat (first | (refine A1 ⟨?_⟩; intros) | (refine Wcx (c) ?_) | (refine Wdcx (c) ?_) | (refine Wcgx (c) ?_) | (refine Wdcgx (c) ?_))
          refine Wdog (ov_idxS (cs' := rpx o) rfl rfl (by omega) (by omega) hat2 hne2) ?_
          repeat (first | (refine A1 ⟨?_⟩; intros) | (refine Wcx (c) ?_) | (refine Wdcx (c) ?_) | (refine Wcgx (c) ?_) | (refine Wdcgx (c) ?_))
          refine Wdo (ov_sl3X j rfl rfl rfl rfl rfl hfl (by omega)) ?_
          repeat (first | (refine Wdo (ov_bsX (s := ag (rpx p)) (ds := rpx p) rfl inferInstance) ?_) | (refine Wdo (ov_slFn j rfl rfl rfl hfl (by omega)) ?_) | (refine A1 ⟨?_⟩; intros))
          refine Wdo (ov_appXK (k := 1) (k0 := out.length - j) rfl rfl rfl hdl (by omega)) ?_
          refine Wdo (ov_appXK (k := j) (k0 := 1 + (out.length - j)) rfl rfl htl hpl2 (by omega)) ?_
          rw [hins, hln]
          repeat (refine A1 ⟨?_⟩; intros)
          exact hgo _ _ (by (repeat (first | exact LeF.nil _ | refine LeF.cons (Le.refl _) ?_ | refine LeF.cons (Le.int (by omega)) ?_))) (List.nil_sublist _)
    · have hje : j = pat out p := by omega
      have hpi : pins out p = out.take j ++ p :: out.drop j := by unfold pins; rw [← hje, if_neg (by rw [List.getElem?_eq_none (by omega)]; intro e; cases e)]
      rw [hpi] at hgo
      clear hK2
      repeat (refine A1 ⟨?_⟩; intros)
      refine Wdo (ov_sl3X j rfl rfl rfl rfl rfl hfl (by omega)) ?_
      repeat (first | (refine Wdo (ov_bsX (s := ag (rpx p)) (ds := rpx p) rfl inferInstance) ?_) | (refine Wdo (ov_slFn j rfl rfl rfl hfl (by omega)) ?_) | (refine A1 ⟨?_⟩; intros))
      refine Wdo (ov_appXK (k := 1) (k0 := out.length - j) rfl rfl rfl hdl (by omega)) ?_
      refine Wdo (ov_appXK (k := j) (k0 := 1 + (out.length - j)) rfl rfl htl hpl2 (by omega)) ?_
      rw [hins, hln]
      repeat (refine A1 ⟨?_⟩; intros)
      exact hgo _ _ (by (repeat (first | exact LeF.nil _ | refine LeF.cons (Le.refl _) ?_ | refine LeF.cons (Le.int (by omega)) ?_))) (List.nil_sublist _)
  · have hke : k = l.length := by omega
    subst hke
    rw [List.take_length]
    repeat (refine A1 ⟨?_⟩; intros)
    exact endR (end1 (RV.tmp rfl) (Le.refl _))
def Li.neg (l : Li) : Li := ⟨-l.a, -l.b, -l.c⟩
section
variable {P : Program} {F : Fr} {H : LH}
variable {C : Ctx} {n : Nat} {ops : Array Oper} {K : Fr → LH → Prop} {rest : List Oper} {ty : TypeId} {pos : String} {aft : Array Edge}
theorem endNwR {rs : Array ResultVar} {T : TypeId} {cs : List SV} (b : Nat) (cs0 : List SV) (h : Ends P rs.toList (lit (.pointer (some ⟨b, 0, none⟩))) F H) (hm : (b, T, cs0) ∈ H) (hl : LeL cs0 cs) : endNw P rs T cs .ret F H := ⟨b, cs0, h, hm, hl⟩
end
theorem regular_t {m : M6 Rat} {L : Nat} (h : m.le L) (hL : L ≤ 100000) (h0 : m.det ≠ 0) : Pu Tryz.prog 28 [mq m] (Ab.tup [mf m, lit .nilIface]) := by
  have hd := adet_pu h (by omega)
  have ho := aof_q (m := m) ⟨Nat.le_trans h.a (by omega), Nat.le_trans h.b (by omega), Nat.le_trans h.c (by omega), Nat.le_trans h.d (by omega), Nat.le_trans h.e (by omega), Nat.le_trans h.f (by omega)⟩
  have hz := zero_pu m.det
  rw [show m.a * m.e - m.d * m.b = m.det from rfl] at hd
  rw [decide_eq_false (fun e => h0 (Rat.num_eq_zero.1 e))] at hz
  refine Pu.intro Tryz.func28 rfl (by kernel_rfl) fun C => ?_
  repeat (first | (refine A1 ⟨?_⟩; intros) | (refine Wcx (ho) ?_) | (refine Wdcx (ho) ?_) | (refine Wcgx (ho) ?_) | (refine Wdcgx (ho) ?_) | (refine Wcx (hd) ?_) | (refine Wdcx (hd) ?_) | (refine Wcgx (hd) ?_) | (refine Wdcgx (hd) ?_) | (refine Wcx (hz) ?_) | (refine Wdcx (hz) ?_) | (refine Wcgx (hz) ?_) | (refine Wdcgx (hz) ?_))
  ((first | refine endR ?_ | refine endN ?_); exact end2 (RV.cellA rfl (by repeat (first | exact List.mem_cons_self | apply List.mem_cons_of_mem)) (by (try simp only [List.drop_succ_cons, List.drop_zero, List.drop_nil, List.take_succ_cons, List.take_zero, List.take_nil, Nat.zero_add, Nat.add_zero, Nat.reduceAdd]) <;> exact rfl) rfl) (RV.tmp rfl) (Le.refl _))
abbrev mz : SV := ag [lit (.bool false), lit (.slice none 0 0), lit (.slice none 0 0), lit (.bool false), lit (.slice none 0 0), lit (.slice none 0 0), lit (.bool false), lit (.slice none 0 0), lit (.slice none 0 0), lit (.bool false), lit (.slice none 0 0), lit (.slice none 0 0), lit (.bool false), lit (.slice none 0 0), lit (.slice none 0 0), lit (.bool false), lit (.slice none 0 0), lit (.slice none 0 0)]
end Go.Ab
