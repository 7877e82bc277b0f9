/- Texts laid one behind the other: StkA, RExpr, PExpr, Add64, BndP, BndN. -/
import Derived.Test.YtijejidpcfgioaaGreatDoorB18
import Derived.Test.YtijejidpcfgioaaGreatDoorB03
import Derived.Test.YtijejidpcfgioaaGreatDoorB19
import Derived.Test.YtijejidpcfgioaaGreatDoorB17
import Derived.Test.YtijejidpcfgioaaGreatDoorB09
import Derived.Laws.Externs
/- Slices of exact capacity; appending one element to them makes a new row, at once finished. -/
namespace Go.Ab
open Go.Proofs
set_option linter.unusedSectionVars false
set_option linter.unusedVariables false
set_option linter.unusedSimpArgs false
variable [Base]
/-- a slice of k elements that has no room -/
@[irreducible] def xsl (cs : List SV) (k : Nat) : SV := ⟨fun m v => ∃ a, v = .slice a k k ∧ k ≤ maxLen ∧ (a = none → k = 0) ∧ (cs = [] ∨ ∃ b off, a = some ⟨b, off, none⟩ ∧ cellsAt m b off cs),
  fun h ⟨a, e, x, y, k⟩ => ⟨a, e, x, y, k.imp id fun ⟨b, off, e, k⟩ => ⟨b, off, e, k.mono h⟩⟩⟩
section
variable {P : Program} {C : Ctx} {n : Nat} {F : Fr} {H : LH} {ty : TypeId}
/-- a new block that is finished at once -/
theorem pub_new {m : Mem} {w w' : World} {arr : Array Value} {e : TypeId} (h1 : MemIn m w) (hw : w' = w.alloc (.cells arr e) ∨ w' = w.drew.alloc (.cells arr e)) :
    ∃ m', MemIn m' w' ∧ Rel [] m w m' w' ∧ m' w.heap.size = some (.cells arr e (0, 0)) := by
  have hnone : m w.heap.size = none := by
    cases hmm : m w.heap.size with
    | none => rfl
    | some o => have := h1 _ _ hmm; rw [Array.getElem?_eq_none (Nat.le_refl _)] at this; cases this
  have hsize : w'.heap.size = w.heap.size + 1 := by rcases hw with rfl | rfl <;> exact World.size_alloc ..
  have hold : ∀ b, b < w.heap.size → w'.heap[b]? = w.heap[b]? := by
    rcases hw with rfl | rfl
    · exact fun b hb => heap_alloc_old w _ b hb
    · exact fun b hb => heap_alloc_old w.drew _ b hb
  have hnew : w'.heap[w.heap.size]? = some (.cells arr e (0, 0)) := by
    rcases hw with rfl | rfl
    · exact heap_alloc_new w _
    · exact heap_alloc_new w.drew _
  have hos : w'.os = w.os ∧ w'.tape = w.tape ∧ w'.output = w.output := by rcases hw with rfl | rfl <;> exact ⟨rfl, rfl, rfl⟩
  have hle : m.le fun b => if b = w.heap.size then some (.cells arr e (0, 0)) else m b := fun b o hb => by
    have : b ≠ w.heap.size := fun e => by rw [e, hnone] at hb; cases hb
    simp only [if_neg this]; exact hb
  refine ⟨fun b => if b = w.heap.size then some (.cells arr e (0, 0)) else m b, ⟨fun b o hb => ?_, Mem.le_trans h1.base hle⟩, ⟨hle, fun b hb _ => ?_, hos.1, hos.2.1, hos.2.2, by omega, fun b hb _ => hold b hb⟩, by simp⟩
  · by_cases hbe : b = w.heap.size
    · subst hbe
      simp only [if_true] at hb
      obtain rfl := Option.some.inj hb
      exact hnew
    · simp only [if_neg hbe] at hb
      have := h1 b o hb
      rw [hold b (Array.getElem?_eq_some_iff.1 this).1]; exact this
  · simp only [if_neg (Nat.ne_of_lt hb)]
theorem OpV.pubN {op : Op} {T : TypeId} {z : List SV} {mk : Nat → Value} {sv : SV} (hn : NewOk P op F T z mk) (hsv : ∀ (m : Mem) (b : Nat) (arr : Array Value), m b = some (.cells arr T (0, 0)) → All2 m z arr.toList → sv.p m (mk b)) : OpV P op ty F H sv := by
  refine OpV.of0 ?_
  intro m w o a ho hty h1 h2 h3 K Q hK
  obtain ⟨arr, hrun, hall⟩ := hn w o a ho ⟨m, h3⟩
  obtain ⟨m', g1, g2, g3⟩ := pub_new (w' := w.alloc (.cells arr T)) h1 (.inl rfl)
  unfold Oper.wp
  rw [hrun]
  exact hK _ m' _ (hsv m' _ arr g3 ((hall m h3).mono g2.le)) g1 g2
theorem sl_new {m : Mem} {b k : Nat} {arr : Array Value} {T : TypeId} {cs : List SV} (hb : m b = some (.cells arr T (0, 0))) (h : All2 m cs arr.toList) (hk : k ≤ maxLen) : (sl cs k).p m (.slice (some ⟨b, 0, none⟩) k k) :=
  sl_mk (Nat.le_refl _) hk (.inr ⟨b, 0, rfl, arr, T, (0, 0), hb, by rw [List.drop_zero, ← h.length, List.take_length]; exact h⟩)
/-- one element in a new slice -/
theorem ov_bs1 {T e : TypeId} {by_ : Nat} {z : List SV} {g : Bool} [hS : TSl P T e] [hT : TY P e 1 by_ z g] {x : Operand} {s : SV} (hp : Parts F [(0, x)] [(0, [s])]) : OpV P (.buildSlice T 1 [(0, x)].toArray) ty F H (sl [s] 1) := by
  have hz1 : z.length = 1 := by
    obtain ⟨l, _, h2, _, h4⟩ := hT.info
    rw [← h2, List.length_map, h4]
  have hf : fillS ((List.range 1).map fun i => (i * 1, 1)) (List.replicate 1 z).flatten [(0, [s])] = some [s] := by
    match z, hz1 with
    | [y], _ => rfl
  exact OpV.pubN (nk_bslice hp hf (by decide) (by decide)) fun m b arr hb h => sl_new hb h (by simp only [maxLen]; omega)
/-- appending one element to a slice without room -/
theorem ov_appX {T e : TypeId} {by_ : Nat} {z : List SV} {g : Bool} [hS : TSl P T e] [hT : TY P e 1 by_ z g] {x y : Operand} {cs : List SV} {s : SV} {k : Nat} (hx : ev F x = xsl cs k) (hy : ev F y = sl [s] 1) (hk : cs.length = k) (hl : k ≤ 1000000) (hby : by_ ≤ 10000) :
    OpV P (.call ⟨.builtin .append, #[x, y], #[T, T]⟩) ty F H (sl (cs ++ [s]) (k + 1)) := by
  refine OpV.of0 ?_
  intro m w o a ho hty h1 h2 h3 K Q hK
  have e0 := evA (x := x) h3 (by simp [Op.operands, Call.operands]); rw [hx] at e0
  have e1 := evA (x := y) h3 (by simp [Op.operands, Call.operands]); rw [hy] at e1
  unfold xsl at e0
  obtain ⟨ad, e0, hkm, hadn, hca⟩ := e0
  obtain ⟨ad2, cap2, e1, hc1, hc2, hcb⟩ := sl_cells e1
  obtain ⟨b2, off2, rfl, arr2, T2, fz2, hb2, hall2⟩ := hcb.resolve_left (by simp)
  obtain ⟨i, v, hi, hsz, hbyt, hz, hzl, hfl, hvs⟩ := hT.run_bytes
  have hw2 := h1 _ _ hb2
  have hlen2' : ((arr2.toList.drop off2).take 1).length = 1 := hall2.length
  have hall2 : All2 m [s] ((arr2.toList.drop off2).take 1) := hall2
  have hys : ∀ j u, ((arr2.toList.drop off2).take 1)[j]? = some u → w.cell? ((⟨b2, off2, none⟩ : Addr).add j) = some u := fun j u hj => by
    rw [add_none, cell_of w b2 _ arr2 _ _ hw2]
    rw [List.getElem?_take] at hj
    split at hj
    · rw [List.getElem?_drop] at hj; simpa using hj
    · cases hj
  have hmul : ∀ q, q ≤ 2000001 → q * by_ ≤ 140737488355328 := fun q hq => Nat.le_trans (Nat.mul_le_mul hq hby) (by decide)
  have hexec : execOp a.eval o = (do let v ← Builtin.append_ #[T, T] o.type #[a.eval x, a.eval y]; pure (.value v)) := by
    simp [execOp, ho, resolve, invoke, builtin]
  have fin : ∀ (c : Nat) (arr : Array Value), k + 1 ≤ c → c ≤ maxLen → All2 m (cs ++ [s]) (arr.toList.take (k + 1)) → (Builtin.append_ #[T, T] o.type #[a.eval x, a.eval y]).run P w = .ok (.slice (some ⟨w.heap.size, 0, none⟩) (k + 1) c) (w.drew.alloc (.cells arr e)) → o.wp P a w K Q := by
    intro c arr hc hcm hall hrun
    unfold Oper.wp
    rw [hexec]
    simp only [Sem.run_bind, hrun, Result.andThen_ok, Sem.run_pure]
    obtain ⟨m', g1, g2, g3⟩ := pub_new (w' := w.drew.alloc (.cells arr e)) h1 (.inr rfl)
    refine hK _ m' _ (sl_mk hc hcm (.inr ⟨w.heap.size, 0, rfl, arr, e, (0, 0), g3, ?_⟩)) g1 g2
    rw [List.drop_zero, List.length_append, hk, List.length_singleton]
    exact hall.mono g2.le
  rcases hca with hnil | ⟨b1, off1, rfl, arr1, T1, fz1, hb1, hall1⟩
  · subst hnil
    simp only [List.length_nil] at hk
    subst hk
    cases ad with
    | none =>
      refine fin _ _ (grownCap_ge w 1 0 e) (grownCap_le_maxLen w 1 0 e (by simp only [maxLen]; omega)) ?_ (by rw [e0, e1]; exact run_append_nil (P := P) w T o.type e i v hS.h hi hz ⟨b2, off2, none⟩ 1 cap2 ((arr2.toList.drop off2).take 1) (by rw [hlen2', hsz]) hys (by omega) (by omega) (by rw [hbyt]; have := hmul 1 (by omega); omega))
      simp only [Array.toList_append, List.toList_toArray, List.nil_append]
      rw [List.take_append_of_le_length (by rw [hlen2']; simp), List.take_of_length_le (by rw [hlen2']; simp)]
      exact hall2
    | some ad =>
      refine fin _ _ (grownCap_ge w (0 + 1) 0 e) (grownCap_le_maxLen w (0 + 1) 0 e (by simp only [maxLen]; omega)) ?_ (by rw [e0, e1]; exact run_append_grow (P := P) w T o.type e i v hS.h hi hz ad 0 0 [] (by simp) (by intro j u hj; simp at hj) ⟨b2, off2, none⟩ 1 cap2 ((arr2.toList.drop off2).take 1) (by rw [hlen2', hsz]) hys (by omega) (by omega) (growslice_fits (by omega) (by rw [hbyt]; exact hmul _ (by omega))))
      simp only [Array.toList_append, List.toList_toArray, List.nil_append]
      rw [List.take_append_of_le_length (by rw [hlen2']; simp), List.take_of_length_le (by rw [hlen2']; simp)]
      exact hall2
  · have hw1 := h1 _ _ hb1
    have hlen1 := hall1.length
    rw [hk] at hall1 hlen1
    have hxs : ∀ j u, ((arr1.toList.drop off1).take k)[j]? = some u → w.cell? ((⟨b1, off1, none⟩ : Addr).add j) = some u := fun j u hj => by
      rw [add_none, cell_of w b1 _ arr1 _ _ hw1]
      rw [List.getElem?_take] at hj
      split at hj
      · rw [List.getElem?_drop] at hj; simpa using hj
      · cases hj
    refine fin _ _ (grownCap_ge w (k + 1) k e) (grownCap_le_maxLen w (k + 1) k e (by simp only [maxLen]; omega)) ?_ (by rw [e0, e1]; exact run_append_grow (P := P) w T o.type e i v hS.h hi hz ⟨b1, off1, none⟩ k k ((arr1.toList.drop off1).take k) (by rw [hlen1, hsz, Nat.mul_one]) hxs ⟨b2, off2, none⟩ 1 cap2 ((arr2.toList.drop off2).take 1) (by rw [hlen2', hsz]) hys (by omega) (by omega) (growslice_fits (by omega) (by rw [hbyt]; exact hmul _ (by omega))))
    simp only [Array.toList_append, List.toList_toArray]
    have hlk : ((arr1.toList.drop off1).take k ++ (arr2.toList.drop off2).take 1).length = k + 1 := by rw [List.length_append, hlen1, hlen2']
    rw [List.take_append_of_le_length (by rw [hlk]; exact Nat.le_refl _), List.take_of_length_le (by rw [hlk]; exact Nat.le_refl _)]
    exact hall1.append hall2
theorem run_bound {P : Program} {w : World} {v : Value} (l u : Nat) {ki : IntKind} (code : BoundsCode) (hy : v = .int ki l) (hle : l ≤ u) : (Instr.sliceBound v u code).run P w = .ok l w := by
  have h1 : (l : Int) ≤ (u : Int) := by omega
  subst hy
  simp [Instr.sliceBound, asIntOf, h1]
/-- x[:j:j] -/
theorem ov_sl3 {T e : TypeId} {by_ : Nat} {z : List SV} {g : Bool} [hS : TSl P T e] [hT : TY P e 1 by_ z g] {x y y' : Operand} {cs : List SV} {k : Nat} {v v' : Int} (j : Nat) (hx : ev F x = sl cs k) (hy : ev F y = lit (.int .i64 v)) (hy' : ev F y' = lit (.int .i64 v')) (hv : v = (j : Int)) (hv' : v' = (j : Int)) (hk : cs.length = k) (hj : j ≤ k) :
    OpV P (.slice T x none (some y) (some y')) ty F H (xsl (cs.take j) j) :=
  OpV.pure fun m w o a ho _ _ _ h => by
    have e0 := h x (by simp [Op.operands]); rw [hx] at e0
    have e1 := h y (by simp [Op.operands]); rw [hy, lit_p] at e1
    have e2 := h y' (by simp [Op.operands]); rw [hy', lit_p] at e2
    subst hv hv'
    obtain ⟨ad, cap, e0, hc1, hc2, hca⟩ := sl_cells e0
    have hb : (Instr.sliceBounds true k cap none (some (a.eval y)) (some (a.eval y'))).run P w = .ok (0, j, j) w := by
      simp [Instr.sliceBounds, run_bound j cap _ e2 (by omega), run_bound j j _ e1 (Nat.le_refl _)]
    have hrun : ∃ a', (execOp a.eval o).run P w = .ok (.value (.slice a' j j)) w ∧ (ad = none → a' = none) ∧ (∀ q, ad = some q → ∃ q', a' = some q') ∧ ∀ b off, ad = some ⟨b, off, none⟩ → a' = some ⟨b, off, none⟩ := by
      refine ⟨if j = 0 then ad else ad.map (·.add 0), ?_, ?_, ?_, ?_⟩
      · simp [execOp, ho, Instr.sliceAt, Instr.slice, underlying, hS.h, e0, hb, hT.run_size]
      · rintro rfl; simp
      · rintro q rfl; split <;> simp
      · rintro b off rfl; simp [add_none]
    obtain ⟨a', hr, q1, q2, q3⟩ := hrun
    refine ⟨_, hr, ?_⟩
    unfold xsl
    refine ⟨a', rfl, by omega, fun hn => ?_, ?_⟩
    · rcases hca with hnil | ⟨b, off, rfl, _⟩
      · rw [hnil] at hk; simp at hk; omega
      · obtain ⟨q', hq⟩ := q2 _ rfl; rw [hq] at hn; cases hn
    · rcases hca with hnil | ⟨b, off, rfl, hca⟩
      · left; rw [hnil, List.take_nil]
      · exact .inr ⟨b, off, q3 b off rfl, hca.take j⟩
/-- x[j:] -/
theorem ov_slF {T e : TypeId} {by_ : Nat} {z : List SV} {g : Bool} [hS : TSl P T e] [hT : TY P e 1 by_ z g] {x y : Operand} {cs : List SV} {k : Nat} {v : Int} (j : Nat) (hx : ev F x = sl cs k) (hy : ev F y = lit (.int .i64 v)) (hv : v = (j : Int)) (hk : cs.length = k) (hj : j ≤ k) :
    OpV P (.slice T x (some y) none none) ty F H (sl (cs.drop j) (k - j)) :=
  OpV.pure fun m w o a ho _ _ _ h => by
    have e0 := h x (by simp [Op.operands]); rw [hx] at e0
    have e1 := h y (by simp [Op.operands]); rw [hy, lit_p] at e1
    subst hv
    obtain ⟨ad, cap, e0, hc1, hc2, hca⟩ := sl_cells e0
    have hb : (Instr.sliceBounds true k cap (some (a.eval y)) none none).run P w = .ok (j, k, cap) w := by
      simp [Instr.sliceBounds, run_bound j k _ e1 hj]
    have hrun : ∃ a', (execOp a.eval o).run P w = .ok (.value (.slice a' (k - j) (cap - j))) w ∧ (cs.drop j = [] ∨ ∃ b off, ad = some ⟨b, off, none⟩ ∧ a' = some ⟨b, off + j, none⟩ ∧ cellsAt m b off cs) := by
      refine ⟨if cap = j then ad else ad.map (·.add (j * 1)), ?_, ?_⟩
      · simp [execOp, ho, Instr.sliceAt, Instr.slice, underlying, hS.h, e0, hb, hT.run_size]
      · rcases hca with hnil | ⟨b, off, rfl, hca⟩
        · left; rw [hnil, List.drop_nil]
        · by_cases hci : cap = j
          · left
            exact List.drop_eq_nil_of_le (by omega)
          · right
            refine ⟨b, off, rfl, ?_, hca⟩
            rw [if_neg hci]
            simp [add_none]
    obtain ⟨a', hr, hcs⟩ := hrun
    refine ⟨_, hr, sl_mk (by omega) (by omega) ?_⟩
    rcases hcs with hnil | ⟨b, off, _, rfl, hca⟩
    · left; exact hnil
    · right
      exact ⟨b, off + j, rfl, hca.drop j⟩
theorem le_nilS : Le (lit (.slice none 0 0)) (sl [] 0) := fun m v h => by
  rw [lit_p] at h
  subst h
  exact sl_mk (Nat.le_refl _) (Nat.zero_le _) (.inl rfl)
end
end Go.Ab
/- The reference's printer: expressions, by a stack. -/
namespace Go.Ab
open Go.Proofs
set_option linter.unusedSectionVars false
set_option linter.unusedVariables false
set_option linter.unusedSimpArgs false
variable [Base]
section
variable {P : Program} {C : Ctx} {n : Nat} {Q : Exit → Fr → LH → Prop} {F : Fr} {H : LH} {ops : Array Oper}
/-- a join behind the rest of a region and two more pieces -/
theorem WPL.viaS2 {l : List Oper} {B D R : Code} (J : Fr → LH → Prop) (h : WPL P C n ops l (fun F H => thenQ (fun F H => WP P C n B (thenQ (fun F H => WP P C n D (thenQ J Q) F H) Q) F H) Q .normal F H) F H)
    (k : ∀ F H, J F H → WP P C n R Q F H) : WPL P C n ops l (fun F H => thenQ (WP P C n (.seq B (.seq D R)) Q) Q .normal F H) F H :=
  WPL.via _ h fun F H hB => WP.join _ hB fun F H hD => WP.join _ hD k
end
theorem stop_top {x : Ex} {j : Nat} {r : List (Ex × Nat)} : ((stop ((x, j) :: r)).drop r.length).take 1 = [lit (.int .i64 (j : Nat))] := by
  rw [stop_cons, ← stop_len r]; simp
theorem stop_two {x y : Ex} {j k : Nat} {r : List (Ex × Nat)} : ((stop ((y, k) :: (x, j) :: r)).drop r.length).take 1 = [lit (.int .i64 (j : Nat))] ∧ ((stop ((y, k) :: (x, j) :: r)).drop (r.length + 1)).take 1 = [lit (.int .i64 (k : Nat))] := by
  rw [stop_cons, stop_cons]
  constructor
  · rw [← stop_len r]; simp
  · rw [show r.length + 1 = (stop r ++ [lit (.int .i64 (j : Nat))]).length by simp [stop_len], List.drop_left]; simp
theorem bor3 : ∀ b g1 g3 : Bool, (b || !g3 || !g1) = (b || !(g1 && g3)) := by decide
/-- what the reference's walk knows when a part may be written: m operands stand on the stack -/
def Rdy (ns : List Nd) (w k : Nat) (n : Nd) (st : List (Ex × Nat)) (bad : Bool) (m : Nat) : Prop := ∃ (r : List (Ex × Nat)) (t : Ex) (kT kD : List SV), stp k n st = some ((t, k) :: r) ∧ st.length = r.length + m ∧ stxt st = stxt r ++ kT ∧ sdep st = sdep r ++ kD ∧
  (stop st).take r.length = stop r ∧
  PuH Tryz.prog 64 [lit (.pointer (some ⟨w, 0, none⟩)), ag (ndx n), sl (ns.map ndx).flatten ns.length, sl kT m, sl kD m] [(w, wT, wC (bad || !stGood st) false)]
    (fun r' H => r' = Ab.tup [str t.rtxt, lit (.int .i64 t.dep)] ∧ H = [(w, wT, wC (bad || !stGood ((t, k) :: r)) false)]) noX
set_option maxHeartbeats 4000000 in
theorem rexpr_pu (w : Nat) (ns : List Nd) {L : Nat} (hok : ∀ n ∈ ns, n.ok L) (hL : L ≤ 20) (hns : ns.length ≤ 90) (bad : Bool) :
    PuH Tryz.prog 43 [lit (.pointer (some ⟨w, 0, none⟩)), sl (ns.map ndx).flatten ns.length] [(w, wT, wC bad false)]
      (fun r H => (okL ns = false ∧ r = str [] ∧ H = [(w, wT, wC true false)]) ∨ ∃ t : Ex, okL ns = true ∧ t.At ns (ns.length - 1) ∧ t.size = ns.length ∧ r = str t.rtxt ∧ H = [(w, wT, wC (bad || !t.good) false)]) noX := by
  have hspec := stk_okL ns
  refine PuH.intro Tryz.func43 rfl (by kernel_rfl) fun C hC => ?_
  repeat (refine A1 ⟨?_⟩; intros)
  refine WP.loopS (ι := Nat × List (Ex × Nat)) (fun x => x.1 ≤ ns.length ∧ stk (ns.drop x.1) x.1 x.2 = stk ns 0 [] ∧ ∃ ss : List Nat, ss.length = x.1 ∧ Sk ns ss x.1 x.2) (fun x => ns.length - x.1)
    (fun x => fm [(0, lit (.pointer (some ⟨w, 0, none⟩))), (1, sl (ns.map ndx).flatten ns.length), (5, sl (stxt x.2) x.2.length), (6, sl (stop x.2) x.2.length), (7, sl (sdep x.2) x.2.length), (14, sl (ns.map ndx).flatten ns.length), (15, lit (.int .i64 ns.length)), (16, lit (.int .i64 x.1))])
    (fun x => [(w, wT, wC (bad || !stGood x.2) false)]) (0, [])
    ⟨Nat.zero_le _, rfl, [], rfl, .nil⟩ (LeF.cons (Le.refl _) (LeF.cons (Le.refl _) (LeF.cons le_nilS (LeF.cons le_nilS (LeF.cons le_nilS (by (repeat (first | exact LeF.nil _ | refine LeF.cons (Le.refl _) ?_ | refine LeF.cons (Le.int (by omega)) ?_)))))))) (by show [(w, wT, wC (bad || false) false)].Sublist _; rw [Bool.or_false]; exact List.Sublist.refl _) ?_
  rintro ⟨k, st⟩ ⟨hk, hstk, ss, hss, hSk⟩ K hK
  simp only at hk hstk hss hSk ⊢
  have hstl := hSk.len
  by_cases hkl : k < ns.length
  · have hget := List.getElem?_eq_getElem hkl
    generalize ns[k] = n at hget
    have hmem : n ∈ ns := List.mem_of_getElem? hget
    have hat := flat_at (f := ndx) (n := 19) ndx_len hget
    have hne : (ns.map ndx).flatten ≠ [] := flat_ne ndx_len (by omega) (fun e => by rw [e] at hkl; simp at hkl)
    have c0 := shape_pu n (hok n hmem) (by omega)
    rw [drop_cons hget, stk_cons] at hstk
    have hfail : stp k n st = none → okL ns = false := fun h => by
      rw [h] at hstk; rw [← hstk] at hspec; exact hspec
    have hgo : ∀ st', stp k n st = some st' → ∀ F' H', LeF F' (fm [(0, lit (.pointer (some ⟨w, 0, none⟩))), (1, sl (ns.map ndx).flatten ns.length), (5, sl (stxt st') st'.length), (6, sl (stop st') st'.length), (7, sl (sdep st') st'.length), (14, sl (ns.map ndx).flatten ns.length), (15, lit (.int .i64 ns.length)), (16, lit (.int .i64 (k + 1 : Nat)))]) →
        [(w, wT, wC (bad || !stGood st') false)].Sublist H' → K F' H' := fun st' hs F' H' h1 h2 => by
      have h3 := stp_step (ns := ns) (ss := ss) (n := n) (st := st) (by rw [hss]; exact hget) (by rw [hss]; exact hSk)
      rw [hss, hs] at h3
      obtain ⟨s, _, h4⟩ := h3
      rw [hs] at hstk
      exact hK F' H' (k + 1, st') ⟨by simp only; omega, hstk, ss ++ [s], by simp [hss], h4⟩ (by simp only; omega) h1 h2
    have hall := hSk.all
    clear hK hstk hspec
    repeat (refine A1 ⟨?_⟩; intros)
    refine Wo (ov_idxS (cs' := ndx n) rfl rfl (by omega) (by omega) hat hne) ?_
    repeat (refine A1 ⟨?_⟩; intros)
    rename_i b9
    refine Wc c0 ?_
    cases e : okN n with
    | false =>
      repeat (refine A1 ⟨?_⟩; intros)
      exact endHR _ _ (end1 (RV.tmp rfl) (Le.refl _)) (List.Sublist.cons _ (List.Sublist.refl _)) (.inl ⟨hfail (by unfold stp; rw [if_neg (by rw [e]; decide)]), rfl, rfl⟩)
    | true =>
      obtain ⟨hnk, hno⟩ := okN_k e
      refine O1 ⟨?_⟩
      repeat (refine AS ⟨?_⟩; intros)
      refine WPL.viaS2 (fun F H => ∃ m : Nat, m ≤ 2 ∧ Rdy ns w k n st bad m ∧ LeF F (fm [(0, lit (.pointer (some ⟨w, 0, none⟩))), (1, sl (ns.map ndx).flatten ns.length), (5, sl (stxt st) st.length), (6, sl (stop st) st.length), (7, sl (sdep st) st.length), (8, lit (.int .i64 k)), (9, lit (.pointer (some ⟨b9, 0, none⟩))), (10, lit (.int .i64 m)), (14, sl (ns.map ndx).flatten ns.length), (15, lit (.int .i64 ns.length)), (16, lit (.int .i64 k))]) ∧
        H = [(b9, 35, ndx n), (w, wT, wC (bad || !stGood st) false)]) ?_ ?_
      · have hbnd : ∀ e ∈ st, e.1.At ns e.2 ∧ e.1.rtxt.length ≤ 900000 ∧ e.1.dep ≤ 900000 := fun q hq => by
          obtain ⟨a1, a2, _⟩ := hall q hq
          have := Ex.rtxt_len hL hok a1
          have := q.1.dep_le
          exact ⟨a1, by omega, by omega⟩
        by_cases k5 : n.k = 5
        · cases st with
          | nil =>
            have h0 : ([] : List (Ex × Nat)).length = 0 := rfl
            have hf := hfail (by unfold stp; rw [if_pos e, if_pos k5])
            clear hbnd hall hgo hfail
            repeat (first | (refine AS ⟨?_⟩; intros) | (refine O1 ⟨?_⟩; intros))
            refine WdM [] _ (fun _ => []) ?_
            refine MkD 35 ?_
            repeat (refine A1 ⟨?_⟩; intros)
            refine mkD0 ?_
            refine MkN ?_
            repeat (refine A1 ⟨?_⟩; intros)
            exact endHR _ _ (end1 (RV.tmp rfl) (Le.refl _)) (List.Sublist.cons _ (List.Sublist.refl _)) (.inl ⟨hf, rfl, rfl⟩)
          | cons q r =>
            obtain ⟨x, j⟩ := q
            obtain ⟨a1, a2, a3⟩ := hbnd (x, j) (by simp)
            simp only at a1 a2 a3
            have h0 : ((x, j) :: r).length = r.length + 1 := rfl
            by_cases hx : n.x = (j : Nat)
            · have hs : stp k n ((x, j) :: r) = some ((.un n x, k) :: r) := by unfold stp; rw [if_pos e, if_pos k5]; simp only; rw [if_pos hx]
              have hpart := rpart_un (ns := ns) (by omega) w n x j k5 hx a1.top a2 a3 (bad || !stGood ((x, j) :: r))
              clear hbnd hall hgo hfail
              repeat (first | (refine AS ⟨?_⟩; intros) | (refine O1 ⟨?_⟩; intros))
              refine WdM [] _ (fun _ => []) ?_
              refine MkD 35 ?_
              repeat (refine A1 ⟨?_⟩; intros)
              refine Wdog (ov_idxS (cs' := [lit (.int .i64 (j : Nat))]) rfl rfl (by omega) (by omega) (by rw [show (((((x, j) :: r).length : Nat) : Int) - 1).toNat * 1 = r.length by omega]; exact stop_top) (by rw [stop_cons]; simp)) ?_
              repeat (refine A1 ⟨?_⟩; intros)
              refine mkD0 ?_
              refine MkN ?_
              repeat (refine A1 ⟨?_⟩; intros)
              exact ⟨1, by omega, ⟨r, .un n x, [str x.rtxt], [lit (.int .i64 (x.dep : Nat))], hs, h0, stxt_cons _ _, sdep_cons _ _, by rw [stop_cons, ← stop_len r, List.take_left], hpart⟩, by (repeat (first | exact LeF.nil _ | refine LeF.cons (Le.refl _) ?_ | refine LeF.cons (Le.int (by omega)) ?_)), rfl⟩
            · have hf := hfail (by unfold stp; rw [if_pos e, if_pos k5]; simp only; rw [if_neg hx])
              clear hbnd hall hgo hfail
              repeat (first | (refine AS ⟨?_⟩; intros) | (refine O1 ⟨?_⟩; intros))
              refine WdM [] _ (fun _ => []) ?_
              refine MkD 35 ?_
              repeat (refine A1 ⟨?_⟩; intros)
              refine Wdog (ov_idxS (cs' := [lit (.int .i64 (j : Nat))]) rfl rfl (by omega) (by omega) (by rw [show (((((x, j) :: r).length : Nat) : Int) - 1).toNat * 1 = r.length by omega]; exact stop_top) (by rw [stop_cons]; simp)) ?_
              repeat (refine A1 ⟨?_⟩; intros)
              refine mkD0 ?_
              refine MkN ?_
              repeat (refine A1 ⟨?_⟩; intros)
              exact endHR _ _ (end1 (RV.tmp rfl) (Le.refl _)) (List.Sublist.cons _ (List.Sublist.refl _)) (.inl ⟨hf, rfl, rfl⟩)
        by_cases k6 : n.k = 6
        · cases st with
          | nil =>
            have h0 : ([] : List (Ex × Nat)).length = 0 := rfl
            have hf := hfail (by unfold stp; rw [if_pos e, if_neg k5, if_pos k6])
            clear hbnd hall hgo hfail
            repeat (first | (refine AS ⟨?_⟩; intros) | (refine O1 ⟨?_⟩; intros))
            refine WdM [] _ (fun _ => []) ?_
            refine MkD 35 ?_
            repeat (refine A1 ⟨?_⟩; intros)
            refine mkD0 ?_
            refine MkN ?_
            repeat (refine A1 ⟨?_⟩; intros)
            exact endHR _ _ (end1 (RV.tmp rfl) (Le.refl _)) (List.Sublist.cons _ (List.Sublist.refl _)) (.inl ⟨hf, rfl, rfl⟩)
          | cons q r1 =>
            obtain ⟨y, i⟩ := q
            cases r1 with
            | nil =>
              have h0 : ([(y, i)] : List (Ex × Nat)).length = 1 := rfl
              have hf := hfail (by unfold stp; rw [if_pos e, if_neg k5, if_pos k6])
              clear hbnd hall hgo hfail
              repeat (first | (refine AS ⟨?_⟩; intros) | (refine O1 ⟨?_⟩; intros))
              refine WdM [] _ (fun _ => []) ?_
              refine MkD 35 ?_
              repeat (refine A1 ⟨?_⟩; intros)
              refine mkD0 ?_
              refine MkN ?_
              repeat (refine A1 ⟨?_⟩; intros)
              exact endHR _ _ (end1 (RV.tmp rfl) (Le.refl _)) (List.Sublist.cons _ (List.Sublist.refl _)) (.inl ⟨hf, rfl, rfl⟩)
            | cons q r =>
              obtain ⟨x, j⟩ := q
              obtain ⟨b1, b2, b3⟩ := hbnd (y, i) (by simp)
              obtain ⟨a1, a2, a3⟩ := hbnd (x, j) (by simp)
              simp only at a1 a2 a3 b1 b2 b3
              have h0 : ((y, i) :: (x, j) :: r).length = r.length + 2 := rfl
              by_cases hx : n.x = (j : Nat)
              case neg =>
                have hf := hfail (by unfold stp; rw [if_pos e, if_neg k5, if_pos k6]; simp only; rw [if_neg (fun h => hx h.1)])
                clear hbnd hall hgo hfail
                repeat (first | (refine AS ⟨?_⟩; intros) | (refine O1 ⟨?_⟩; intros))
                refine WdM [] _ (fun _ => []) ?_
                refine MkD 35 ?_
                repeat (refine A1 ⟨?_⟩; intros)
                refine Wdog (ov_idxS (cs' := [lit (.int .i64 (j : Nat))]) rfl rfl (by omega) (by omega) (by rw [show (((((y, i) :: (x, j) :: r).length : Nat) : Int) - 2).toNat * 1 = r.length by omega]; exact stop_two.1) (by rw [stop_cons]; simp)) ?_
                repeat (refine A1 ⟨?_⟩; intros)
                refine mkD0 ?_
                refine MkN ?_
                repeat (refine A1 ⟨?_⟩; intros)
                exact endHR _ _ (end1 (RV.tmp rfl) (Le.refl _)) (List.Sublist.cons _ (List.Sublist.refl _)) (.inl ⟨hf, rfl, rfl⟩)
              by_cases hy : n.y = (i : Nat)
              case neg =>
                have hf := hfail (by unfold stp; rw [if_pos e, if_neg k5, if_pos k6]; simp only; rw [if_neg (fun h => hy h.2)])
                clear hbnd hall hgo hfail
                repeat (first | (refine AS ⟨?_⟩; intros) | (refine O1 ⟨?_⟩; intros))
                refine WdM [] _ (fun _ => []) ?_
                refine MkD 35 ?_
                repeat (refine A1 ⟨?_⟩; intros)
                refine Wdog (ov_idxS (cs' := [lit (.int .i64 (j : Nat))]) rfl rfl (by omega) (by omega) (by rw [show (((((y, i) :: (x, j) :: r).length : Nat) : Int) - 2).toNat * 1 = r.length by omega]; exact stop_two.1) (by rw [stop_cons]; simp)) ?_
                repeat (refine A1 ⟨?_⟩; intros)
                refine Wdog (ov_idxS (cs' := [lit (.int .i64 (i : Nat))]) rfl rfl (by omega) (by omega) (by rw [show (((((y, i) :: (x, j) :: r).length : Nat) : Int) - 1).toNat * 1 = r.length + 1 by omega]; exact stop_two.2) (by rw [stop_cons]; simp)) ?_
                repeat (refine A1 ⟨?_⟩; intros)
                refine mkD0 ?_
                refine MkN ?_
                repeat (refine A1 ⟨?_⟩; intros)
                exact endHR _ _ (end1 (RV.tmp rfl) (Le.refl _)) (List.Sublist.cons _ (List.Sublist.refl _)) (.inl ⟨hf, rfl, rfl⟩)
              have hs : stp k n ((y, i) :: (x, j) :: r) = some ((.bi n x y, k) :: r) := by unfold stp; rw [if_pos e, if_neg k5, if_pos k6]; simp only; rw [if_pos ⟨hx, hy⟩]
              have hpart := rpart_bi (ns := ns) (by omega) w n x y j i k6 (hno k6).1 (hno k6).2 hx hy a1.top b1.top a2 b2 a3 b3 (bad || !stGood ((y, i) :: (x, j) :: r))
              have hgd : stGood ((y, i) :: (x, j) :: r) = stGood ((Ex.bi n x y, k) :: r) := by
                show (y.good && (x.good && stGood r)) = ((x.good && y.good) && stGood r)
                generalize x.good = g1; generalize y.good = g2; generalize stGood r = g3
                revert g1 g2 g3; decide
              clear hbnd hall hgo hfail
              repeat (first | (refine AS ⟨?_⟩; intros) | (refine O1 ⟨?_⟩; intros))
              refine WdM [] _ (fun _ => []) ?_
              refine MkD 35 ?_
              repeat (refine A1 ⟨?_⟩; intros)
              refine Wdog (ov_idxS (cs' := [lit (.int .i64 (j : Nat))]) rfl rfl (by omega) (by omega) (by rw [show (((((y, i) :: (x, j) :: r).length : Nat) : Int) - 2).toNat * 1 = r.length by omega]; exact stop_two.1) (by rw [stop_cons]; simp)) ?_
              repeat (refine A1 ⟨?_⟩; intros)
              refine Wdog (ov_idxS (cs' := [lit (.int .i64 (i : Nat))]) rfl rfl (by omega) (by omega) (by rw [show (((((y, i) :: (x, j) :: r).length : Nat) : Int) - 1).toNat * 1 = r.length + 1 by omega]; exact stop_two.2) (by rw [stop_cons]; simp)) ?_
              repeat (refine A1 ⟨?_⟩; intros)
              refine mkD0 ?_
              refine MkN ?_
              repeat (refine A1 ⟨?_⟩; intros)
              refine ⟨2, by omega, ⟨r, .bi n x y, [str x.rtxt, str y.rtxt], [lit (.int .i64 (x.dep : Nat)), lit (.int .i64 (y.dep : Nat))], hs, h0, by rw [stxt_cons, stxt_cons, List.append_assoc]; rfl, by rw [sdep_cons, sdep_cons, List.append_assoc]; rfl, by rw [stop_cons, stop_cons, ← stop_len r, List.append_assoc, List.take_left], ?_⟩, by (repeat (first | exact LeF.nil _ | refine LeF.cons (Le.refl _) ?_ | refine LeF.cons (Le.int (by omega)) ?_)), rfl⟩
              rw [← hgd]; exact hpart
        · have hs : stp k n st = some ((.leaf n, k) :: st) := by unfold stp; rw [if_pos e, if_neg k5, if_neg k6]
          have hpart := rpart_leaf w n (hok n hmem) hL (by omega) (by omega) (bad || !stGood st) (sl (ns.map ndx).flatten ns.length) (sl [] 0) (sl [] 0)
          have hgd : (bad || !stGood st || !(Ex.leaf n).good) = (bad || !stGood ((Ex.leaf n, k) :: st)) := by
            show _ = (bad || !((Ex.leaf n).good && stGood st))
            exact bor3 _ _ _
          clear hbnd hall hgo hfail
          repeat (first | (refine AS ⟨?_⟩; intros) | (refine O1 ⟨?_⟩; intros))
          refine WdM [] _ (fun _ => []) ?_
          refine MkD 35 ?_
          repeat (refine A1 ⟨?_⟩; intros)
          refine mkD0 ?_
          refine MkN ?_
          repeat (refine A1 ⟨?_⟩; intros)
          refine ⟨0, by omega, ⟨st, .leaf n, [], [], hs, rfl, by rw [List.append_nil], by rw [List.append_nil], by rw [← stop_len st, List.take_length], ?_⟩, by (repeat (first | exact LeF.nil _ | refine LeF.cons (Le.refl _) ?_ | refine LeF.cons (Le.int (by omega)) ?_)), rfl⟩
          rw [← hgd]; exact hpart
      rintro F H ⟨m, hm2, ⟨r, t, kT, kD, hstp, hlen, hT, hD, hO, hpart⟩, hF, rfl⟩
      refine WP.le hF ?_
      clear hF hat hne c0 hfail hget hmem e hnk hno hall
      have hTl : kT.length = m := by have := congrArg List.length hT; rw [List.length_append, stxt_len, stxt_len] at this; omega
      have hDl : kD.length = m := by have := congrArg List.length hD; rw [List.length_append, sdep_len, sdep_len] at this; omega
      have e1 : (stxt st).drop r.length = kT := by rw [hT, ← stxt_len r, List.drop_left]
      have e2 : (sdep st).drop r.length = kD := by rw [hD, ← sdep_len r, List.drop_left]
      have e3 : (stxt st).take r.length = stxt r := by rw [hT, ← stxt_len r, List.take_left]
      have e4 : (sdep st).take r.length = sdep r := by rw [hD, ← sdep_len r, List.take_left]
      have e5 : st.length - r.length = m := by omega
      have e6 : (st.length : Int) - (m : Nat) = (r.length : Nat) := by omega
      have hgo' := hgo _ hstp
      clear hgo hstp
      repeat (first | (refine AS ⟨?_⟩; intros) | (refine O1 ⟨?_⟩; intros))
      refine WP.perm (List.Perm.swap _ _ _) ?_
      refine WdM [9] [(b9, 35, ndx n)] (fun s => [(w, wT, wC ([bad || !stGood st, bad || !stGood ((t, k) :: r)].getD s false) false)]) ?_
      refine MkD 9 ?_
      repeat (refine A1 ⟨?_⟩; intros)
      refine Wdo (ov_slF (cs := stxt st) r.length rfl rfl e6 (stxt_len st) (by omega)) ?_
      rw [e1, e5]
      repeat (refine A1 ⟨?_⟩; intros)
      refine Wdo (ov_slF (cs := sdep st) r.length rfl rfl e6 (sdep_len st) (by omega)) ?_
      rw [e2, e5]
      repeat (refine A1 ⟨?_⟩; intros)
      refine mkD0 ?_
      refine MkC hpart ?_
      refine MkD 5 ?_
      repeat (refine A1 ⟨?_⟩; intros)
      refine mkD0 ?_
      refine MkN ?_
      repeat (first | (refine AS ⟨?_⟩; intros) | (refine O1 ⟨?_⟩; intros))
      refine WdM [] _ (fun _ => []) ?_
      refine MkD 24 ?_
      repeat (refine A1 ⟨?_⟩; intros)
      refine Wdo (ov_sl3 (cs := stxt st) r.length rfl rfl rfl e6 e6 (stxt_len st) (by omega)) ?_
      rw [e3]
      refine Wdo (ov_move rfl) ?_
      refine Wdo (ov_bs1 (s := str t.rtxt) (by repeat (first | exact Parts.nil | (apply Parts.cons; exact Eq.refl (lit _); infer_instance)))) ?_
      refine Wdo (ov_appX rfl rfl (stxt_len r) (by omega) (by decide)) ?_
      repeat (refine A1 ⟨?_⟩; intros)
      refine Wdo (ov_sl3 (cs := stop st) r.length rfl rfl rfl e6 e6 (stop_len st) (by omega)) ?_
      rw [hO]
      refine Wdo (ov_move rfl) ?_
      refine Wdo (ov_bs1 (s := lit (.int .i64 (k : Nat))) (by repeat (first | exact Parts.nil | (apply Parts.cons; exact Eq.refl (lit _); infer_instance)))) ?_
      refine Wdo (ov_appX rfl rfl (stop_len r) (by omega) (by decide)) ?_
      repeat (refine A1 ⟨?_⟩; intros)
      refine Wdo (ov_sl3 (cs := sdep st) r.length rfl rfl rfl e6 e6 (sdep_len st) (by omega)) ?_
      rw [e4]
      refine Wdo (ov_move rfl) ?_
      refine Wdo (ov_bs1 (s := lit (.int .i64 (t.dep : Nat))) (by repeat (first | exact Parts.nil | (apply Parts.cons; exact Eq.refl (lit _); infer_instance)))) ?_
      refine Wdo (ov_appX rfl rfl (sdep_len r) (by omega) (by decide)) ?_
      repeat (refine A1 ⟨?_⟩; intros)
      refine mkD0 ?_
      refine MkN ?_
      repeat (refine A1 ⟨?_⟩; intros)
      exact hgo' _ _ (LeF.cons (Le.refl _) (LeF.cons (Le.refl _) (LeF.cons (Le.of_eq (by rw [stxt_cons]; rfl)) (LeF.cons (Le.of_eq (by rw [stop_cons]; rfl)) (LeF.cons (Le.of_eq (by rw [sdep_cons]; rfl)) (by (repeat (first | exact LeF.nil _ | refine LeF.cons (Le.refl _) ?_ | refine LeF.cons (Le.int (by omega)) ?_)))))))) (List.sublist_append_left _ _)
  · have hke : k = ns.length := by omega
    subst hke
    rw [List.drop_length, show stk [] ns.length st = some st from rfl] at hstk
    rw [← hstk] at hspec
    simp only at hspec
    obtain ⟨hz, hsp⟩ := hspec
    have hall := hSk.all
    clear hK hstk
    by_cases h1 : st.length = 1
    · obtain ⟨⟨t, j⟩, rfl⟩ := List.length_eq_one_iff.1 h1
      obtain ⟨ht, hr⟩ := hsp t j [] rfl
      obtain ⟨rfl, hsz⟩ := hr rfl
      rw [decide_eq_true h1] at hz
      have hd := t.dep_le
      clear hsp hr hall
      repeat (refine A1 ⟨?_⟩; intros)
      refine Wog (ov_idxS (cs' := [lit (.int .i64 (t.dep : Nat))]) (i := 0) rfl rfl (by omega) (by omega) rfl (by simp [sdep])) ?_
      repeat (refine A1 ⟨?_⟩; intros)
      refine Wo (ov_idxS (cs' := [str t.rtxt]) (i := 0) rfl rfl (by omega) (by omega) rfl (by simp [stxt])) ?_
      repeat (refine A1 ⟨?_⟩; intros)
      exact endHR _ _ (end1 (RV.tmp rfl) (Le.refl _)) (List.Sublist.refl _) (.inr ⟨t, hz, ht, hsz, rfl, by rw [show stGood [(t, ns.length - 1)] = (t.good && true) from rfl, Bool.and_true]⟩)
    · rw [decide_eq_false h1] at hz
      clear hsp hall
      repeat (refine A1 ⟨?_⟩; intros)
      exact endHR _ _ (end1 (RV.tmp rfl) (Le.refl _)) (List.Sublist.refl _) (.inl ⟨hz, rfl, rfl⟩)
end Go.Ab
/- Printing an expression: program and reference give the same text, or refuse alike. -/
namespace Go.Ab
open Go.Proofs
set_option linter.unusedSectionVars false
set_option linter.unusedVariables false
set_option linter.unusedSimpArgs false
variable [Base]
/-- the text of a list of parts, if it is one printable expression -/
def otx (ns : List Nd) : Option (List UInt8) := match stk ns 0 [] with
  | some [(t, _)] => if t.good = true then some t.txt else none
  | _ => none
theorem otx_spec (ns : List Nd) : (okL ns = false ∧ otx ns = none) ∨ ∃ t : Ex, okL ns = true ∧ t.At ns (ns.length - 1) ∧ t.size = ns.length ∧ otx ns = if t.good = true then some t.txt else none := by
  have h := stk_okL ns
  unfold otx
  cases hst : stk ns 0 [] with
  | none => rw [hst] at h; exact .inl ⟨h, rfl⟩
  | some st =>
    rw [hst] at h
    simp only at h
    obtain ⟨h1, h2⟩ := h
    match st, h1, h2 with
    | [], h1, _ => exact .inl ⟨by rw [h1]; rfl, rfl⟩
    | [(t, j)], h1, h2 =>
      obtain ⟨a, b⟩ := h2 t j [] rfl
      obtain ⟨rfl, c⟩ := b rfl
      exact .inr ⟨t, by rw [h1]; rfl, a, c, rfl⟩
    | _ :: _ :: r, h1, _ => exact .inl ⟨by rw [h1]; simp, rfl⟩
theorem Ex.txt_ne : ∀ {t : Ex} {ns : List Nd} {i : Nat}, t.At ns i → t.good = true → t.txt ≠ []
  | .leaf n, ns, i, hat, h => by
    obtain ⟨_, h1, h4⟩ := hat
    unfold Ex.txt
    unfold Ex.good at h
    by_cases k1 : n.k = 1
    · rw [if_pos k1] at h ⊢
      intro e
      rw [e] at h
      revert h
      decide
    rw [if_neg k1]
    by_cases k2 : n.k = 2
    · rw [if_pos k2]; decide
    rw [if_neg k2]
    by_cases k3 : n.k = 3
    · rw [if_pos k3]; decide
    rw [if_neg k3]
    simp
  | .un n x, ns, i, hat, h => by
    unfold Ex.txt
    simp
  | .bi n l r, ns, i, hat, h => by
    unfold Ex.txt
    have := sgn_len n.op
    intro e
    have h2 := congrArg List.length e
    simp only [List.length_append, List.length_nil] at h2
    omega
theorem Ex.txt_len {L : Nat} (hL : L ≤ 20) {ns : List Nd} (hok : ∀ n ∈ ns, n.ok L) : ∀ {t : Ex} {i : Nat}, t.At ns i → t.txt.length ≤ 2000 * t.size
  | .leaf n, i, hat => by
    have hm := hok n (List.mem_of_getElem? hat.1)
    have h1 := ptxt_len hm.a hm.b
    have h2 := ptxt_len hm.c hm.e
    have h3 := hm.nm
    simp only [Ex.txt, Ex.size]
    split
    · omega
    split
    · simp
    split
    · simp
    · unfold ptxt2
      simp only [List.length_append, List.length_cons, List.length_nil]; omega
  | .un n x, i, hat => by
    obtain ⟨_, _, j, _, hx⟩ := hat
    have h1 := Ex.txt_len hL hok hx
    have h2 := par_len (decide (rk x.top < 3)) x.txt
    simp only [Ex.txt, Ex.size, List.length_append, List.length_cons, List.length_nil]
    omega
  | .bi n l r, i, hat => by
    obtain ⟨_, _, _, j, k, _, _, hl, hr⟩ := hat
    have h1 := Ex.txt_len hL hok hl
    have h2 := Ex.txt_len hL hok hr
    have h3 := par_len (decide (rk l.top < rk n)) l.txt
    have h4 := par_len (decide (rk r.top < rk n + 1)) r.txt
    have h5 := sgn_len n.op
    simp only [Ex.txt, Ex.size, List.length_append]
    omega
/-- the answer of the program's printer -/
def pans (g : Nat) : Option (List UInt8) → SV
  | some t => Ab.tup [str t, lit .nilIface]
  | none => Ab.tup [str [], lit (sent g)]
/-- .. of the reference's -/
def rans : Option (List UInt8) → SV
  | some t => Ab.tup [str t, lit (.int .i64 0)]
  | none => Ab.tup [str [], lit (.int .i64 1)]
theorem txt_len {L : Nat} (hL : L ≤ 20) {ns : List Nd} (hok : ∀ n ∈ ns, n.ok L) (hns : ns.length ≤ 30) {t : Ex} {i : Nat} (hat : t.At ns i) (hs : t.size = ns.length) : t.rtxt.length ≤ 65536 := by
  have := Ex.rtxt_len hL hok hat
  omega
theorem writeExpr_pu [Sent 0] (ns : List Nd) {L : Nat} (hok : ∀ n ∈ ns, n.ok L) (hL : L ≤ 20) (hns : ns.length ≤ 30) : Pu Tryz.prog 49 [sl (ns.map ndx).flatten ns.length] (pans 0 (otx ns)) := by
  rcases otx_spec ns with ⟨h1, h2⟩ | ⟨t, h1, h2, h3, h4⟩
  · rw [h2]
    show Pu _ _ _ (Ab.tup [str [], lit (sent 0)])
    have c := fun b => write_pu (b := b) (T := 36) (cs := [sl (ns.map ndx).flatten ns.length]) (good := false) (t := []) (fun h => by cases h) (by simp) (fun w => (wexpr1_f (b := b) hok (by omega) (by omega) (wtr_new w) h1).mono (fun _ _ h => h.elim) fun pv _ h => ⟨rfl, h⟩)
    refine Pu.intro Tryz.func49 rfl (by kernel_rfl) fun C => ?_
    repeat (refine A1 ⟨?_⟩; intros)
    refine WfT (c _) ?_
    rintro _ H' rfl
    repeat (refine A1 ⟨?_⟩; intros)
    ((first | refine endR ?_ | refine endN ?_); exact end2 (RV.tmp rfl) (RV.tmp rfl) (Le.refl _))
  · have hl := txt_len hL hok hns h2 h3
    rw [h4]
    cases hg : t.good with
    | true =>
      rw [Ex.rtxt_good hg ns _ h2] at hl
      rw [if_pos rfl]
      show Pu _ _ _ (Ab.tup [str t.txt, lit .nilIface])
      have c := fun b => write_pu (b := b) (T := 36) (cs := [sl (ns.map ndx).flatten ns.length]) (good := true) (t := t.txt) (fun _ => Ex.txt_ne h2 hg) hl
        (fun w => (wexpr1_t (b := b) hok (by omega) (by omega) (wtr_new w) h1 h2 h3 (by simp; omega)).mono (fun _ _ h => ⟨rfl, h.2.1, h.2.2⟩) fun pv _ h => by rw [hg] at h; exact absurd h.1 (by decide))
      refine Pu.intro Tryz.func49 rfl (by kernel_rfl) fun C => ?_
      repeat (refine A1 ⟨?_⟩; intros)
      refine WfT (c _) ?_
      rintro _ H' rfl
      repeat (refine A1 ⟨?_⟩; intros)
      ((first | refine endR ?_ | refine endN ?_); exact end2 (RV.tmp rfl) (RV.tmp rfl) (Le.refl _))
    | false =>
      rw [if_neg (by decide)]
      show Pu _ _ _ (Ab.tup [str [], lit (sent 0)])
      have c := fun b => write_pu (b := b) (T := 36) (cs := [sl (ns.map ndx).flatten ns.length]) (good := false) (t := []) (fun h => by cases h) (by simp)
        (fun w => (wexpr1_t (b := b) hok (by omega) (by omega) (wtr_new w) h1 h2 h3 (by simp; exact Nat.le_trans (Ex.txt_len hL hok h2) (by omega))).mono (fun _ _ h => by rw [hg] at h; exact absurd h.1 (by decide)) fun pv _ h => ⟨rfl, h.2⟩)
      refine Pu.intro Tryz.func49 rfl (by kernel_rfl) fun C => ?_
      repeat (refine A1 ⟨?_⟩; intros)
      refine WfT (c _) ?_
      rintro _ H' rfl
      repeat (refine A1 ⟨?_⟩; intros)
      ((first | refine endR ?_ | refine endN ?_); exact end2 (RV.tmp rfl) (RV.tmp rfl) (Le.refl _))
theorem pexpr_pu [Sent 0] (ns : List Nd) {L : Nat} (hok : ∀ n ∈ ns, n.ok L) (hL : L ≤ 20) (hns : ns.length ≤ 30) : Pu Tryz.prog 27 [sl (ns.map ndx).flatten ns.length] (pans 0 (otx ns)) := by
  have c := writeExpr_pu ns hok hL hns
  cases h : otx ns with
  | some t =>
    rw [h] at c
    unfold pans at c ⊢
    refine Pu.intro Tryz.func27 rfl (by kernel_rfl) fun C => ?_
    repeat (first | (refine A1 ⟨?_⟩; intros) | (refine Wcx (c) ?_) | (refine Wdcx (c) ?_) | (refine Wcgx (c) ?_) | (refine Wdcgx (c) ?_))
    ((first | refine endR ?_ | refine endN ?_); exact end2 (RV.tmp rfl) (RV.tmp rfl) (Le.refl _))
  | none =>
    rw [h] at c
    unfold pans at c ⊢
    refine Pu.intro Tryz.func27 rfl (by kernel_rfl) fun C => ?_
    repeat (first | (refine A1 ⟨?_⟩; intros) | (refine Wcx (c) ?_) | (refine Wdcx (c) ?_) | (refine Wcgx (c) ?_) | (refine Wdcgx (c) ?_))
    ((first | refine endR ?_ | refine endN ?_); exact end2 (RV.tmp rfl) (RV.tmp rfl) (Le.refl _))
theorem rExpr_pu (ns : List Nd) {L : Nat} (hok : ∀ n ∈ ns, n.ok L) (hL : L ≤ 20) (hns : ns.length ≤ 30) : Pu Tryz.prog 21 [sl (ns.map ndx).flatten ns.length] (rans (otx ns)) := by
  rcases otx_spec ns with ⟨h1, h2⟩ | ⟨t, h1, h2, h3, h4⟩
  · rw [h2]
    show Pu _ _ _ (Ab.tup [str [], lit (.int .i64 1)])
    have c := fun w => (rexpr_pu w ns hok hL (by omega) false).mono (R' := fun r H => r = str [] ∧ H = [(w, wT, wC true false)]) (fun s H h => by
      rcases h with ⟨_, h⟩ | ⟨t, h, _⟩
      · exact h
      · rw [h1] at h; cases h) (fun _ _ h => h)
    have d := fun w => result_pu w [] (by simp) true
    refine Pu.intro Tryz.func21 rfl (by kernel_rfl) fun C => ?_
    repeat (refine A1 ⟨?_⟩; intros)
    refine WfT (c _) ?_
    rintro _ H' ⟨rfl, rfl⟩
    repeat (refine A1 ⟨?_⟩; intros)
    refine WfT (d _) ?_
    rintro _ H' rfl
    repeat (refine A1 ⟨?_⟩; intros)
    ((first | refine endR ?_ | refine endN ?_); exact end2 (RV.tmp rfl) (RV.tmp rfl) (Le.refl _))
  · have hl := txt_len hL hok hns h2 h3
    have c := fun w => (rexpr_pu w ns hok hL (by omega) false).mono (R' := fun r H => r = str t.rtxt ∧ H = [(w, wT, wC (!t.good) false)]) (fun s H h => by
      rcases h with ⟨h, _⟩ | ⟨t', _, h5, _, h6, h7⟩
      · rw [h1] at h; cases h
      · obtain rfl := Ex.At.uniq h2 h5
        exact ⟨h6, by rw [h7, Bool.false_or]⟩) (fun _ _ h => h)
    have d := fun w => result_pu w t.rtxt hl (!t.good)
    rw [h4]
    cases hg : t.good with
    | true =>
      rw [hg] at c d
      rw [if_pos rfl]
      rw [Ex.rtxt_good hg ns _ h2] at c d
      show Pu _ _ _ (Ab.tup [str t.txt, lit (.int .i64 0)])
      refine Pu.intro Tryz.func21 rfl (by kernel_rfl) fun C => ?_
      repeat (refine A1 ⟨?_⟩; intros)
      refine WfT (c _) ?_
      rintro _ H' ⟨rfl, rfl⟩
      repeat (refine A1 ⟨?_⟩; intros)
      refine WfT (d _) ?_
      rintro _ H' rfl
      repeat (refine A1 ⟨?_⟩; intros)
      ((first | refine endR ?_ | refine endN ?_); exact end2 (RV.tmp rfl) (RV.tmp rfl) (Le.refl _))
    | false =>
      rw [hg] at c d
      rw [if_neg (by decide)]
      show Pu _ _ _ (Ab.tup [str [], lit (.int .i64 1)])
      refine Pu.intro Tryz.func21 rfl (by kernel_rfl) fun C => ?_
      repeat (refine A1 ⟨?_⟩; intros)
      refine WfT (c _) ?_
      rintro _ H' ⟨rfl, rfl⟩
      repeat (refine A1 ⟨?_⟩; intros)
      refine WfT (d _) ?_
      rintro _ H' rfl
      repeat (refine A1 ⟨?_⟩; intros)
      ((first | refine endR ?_ | refine endN ?_); exact end2 (RV.tmp rfl) (RV.tmp rfl) (Le.refl _))
end Go.Ab
/- Package math/bits: the sum of two words. -/
namespace Go.Ab
open Go.Proofs
set_option linter.unusedSectionVars false
set_option linter.unusedVariables false
set_option linter.unusedSimpArgs false
variable [Base]
section
variable {F : Fr} {H : LH} {ty : TypeId}
theorem ov_add64 {x y z : Operand} {X Y : Nat} {tys : Array TypeId} (hx : ev F x = lit (.int .u64 X)) (hy : ev F y = lit (.int .u64 Y)) (hz : ev F z = lit (.int .u64 0)) :
    OpV Tryz.prog (.call ⟨.value (.func 39), [x, y, z].toArray, tys⟩) ty F H (tup [lit (.int .u64 ((X + Y) % 18446744073709551616 : Nat)), lit (.int .u64 ((X + Y) / 18446744073709551616 : Nat))]) :=
  OpV.pure fun m w o a ho _ _ _ h => by
    have h0 := h x (by simp [Op.operands, Call.operands]); rw [hx, lit_p] at h0
    have h1 := h y (by simp [Op.operands, Call.operands]); rw [hy, lit_p] at h1
    have h2 := h z (by simp [Op.operands, Call.operands]); rw [hz, lit_p] at h2
    have h8 := @run_callFunc_extern Tryz.prog 39 _ add64Entry Tryz.func39 (by kernel_rfl) (by kernel_rfl) (by kernel_rfl) (by kernel_rfl)
    refine ⟨.tuple #[.int .u64 ((X + Y) % 18446744073709551616 : Nat), .int .u64 ((X + Y) / 18446744073709551616 : Nat)], ?_, ?_⟩
    · have := h8 #[a.eval x, a.eval y, a.eval z] w
      rw [h0, h1, h2, run_add64 _ _ _ (by omega) (by omega) (by omega) (by omega)] at this
      have q1 : ((X : Int) + Y + 0) % 18446744073709551616 = ((X + Y) % 18446744073709551616 : Nat) := by omega
      have q2 : ((X : Int) + Y + 0) / 18446744073709551616 = ((X + Y) / 18446744073709551616 : Nat) := by omega
      rw [q1, q2] at this
      simp only [execOp, ho, resolve, Sem.run_bind, Sem.run_pure, Result.andThen_ok]
      have e1 : a.eval (.func 39) = .func (.func 39) #[] #[] := rfl
      simp only [e1, Deferred.ofValue, Sem.run_pure, Result.andThen_ok, invoke, List.map_toArray, List.map_cons, List.map_nil, Array.empty_append, Array.append_empty, h0, h1, h2, this]
    · unfold tup
      exact ⟨_, rfl, lit_p.2 rfl, lit_p.2 rfl, trivial⟩
end
end Go.Ab
/- Bounds of the parts of an expression, as plain functions. -/
namespace Go.Ab
open Go.Proofs
set_option linter.unusedSectionVars false
set_option linter.unusedVariables false
set_option linter.unusedSimpArgs false
variable [Base]
abbrev maxI : Nat := 9223372036854775807
/-- the bound of an operator -/
def bnd (m n : Nat) : Nat := min (m + (m + 1) * n) maxI
def tri (n : Nat) : Nat := min (n * (n + 1) / 2) maxI
theorem bnd_le (m n : Nat) : bnd m n ≤ maxI := Nat.min_le_right _ _
/-- the value of a part, and what is left of the stack below it -/
def bstep (env : List UInt8 → Option Nat) (n : Nd) (st : List Nat) : Option (Nat × List Nat) :=
  if n.k = 1 then (match env n.nm with
    | some v => some (v, st)
    | none => none)
  else if n.k = 4 then some (1, st)
  else if n.k = 5 then (match st with
    | a :: r => some (a, r)
    | [] => none)
  else if n.k = 6 then (match st with
    | b :: a :: r => some (bnd a b, r)
    | _ => none)
  else some (0, st)
/-- the values of all parts, behind those that stand already -/
def brun (env : List UInt8 → Option Nat) : List Nd → List Nat → List Nat → Option (List Nat)
  | [], _, out => some out
  | n :: ns, st, out => match bstep env n st with
    | some (v, r) => brun env ns (v :: r) (out ++ [v])
    | none => none
theorem brun_cons (env : List UInt8 → Option Nat) (n : Nd) (ns : List Nd) (st out : List Nat) : brun env (n :: ns) st out = match bstep env n st with
    | some (v, r) => brun env ns (v :: r) (out ++ [v])
    | none => none := rfl
/-- the values on the stack are those of the trees there -/
inductive BS (out : List Nat) : List (Ex × Nat) → List Nat → Prop
  | nil : BS out [] []
  | cons {x : Ex} {j v : Nat} {st : List (Ex × Nat)} {vs : List Nat} (h : out[j]? = some v) (k : BS out st vs) : BS out ((x, j) :: st) (v :: vs)
theorem BS.more {out : List Nat} {st : List (Ex × Nat)} {vs : List Nat} (h : BS out st vs) (v : Nat) : BS (out ++ [v]) st vs := by
  induction h with
  | nil => exact .nil
  | cons h _ ih => exact .cons (by rw [List.getElem?_append_left (List.getElem?_eq_some_iff.1 h).1]; exact h) ih
theorem BS.len {out : List Nat} {st : List (Ex × Nat)} {vs : List Nat} (h : BS out st vs) : vs.length = st.length := by
  induction h with
  | nil => rfl
  | cons _ _ ih => simp [ih]
/-- where the list is an expression, only an unknown name stops -/
theorem bstep_stk {env : List UInt8 → Option Nat} {n : Nd} {st st' : List (Ex × Nat)} {vs out : List Nat} {i : Nat} (h : stp i n st = some st') (hb : BS out st vs) (hi : out.length = i) :
    match bstep env n vs with
    | some (v, r) => BS (out ++ [v]) st' (v :: r)
    | none => n.k = 1 ∧ env n.nm = none := by
  have hlast : ∀ v, (out ++ [v])[i]? = some v := fun v => by rw [← hi]; simp
  unfold stp at h
  by_cases e : okN n = true
  case neg => rw [if_neg e] at h; cases h
  rw [if_pos e] at h
  obtain ⟨hk, _⟩ := okN_k e
  unfold bstep
  by_cases k5 : n.k = 5
  · rw [if_neg (by omega), if_neg (by omega), if_pos k5]
    rw [if_pos k5] at h
    cases hb with
    | nil => cases h
    | cons h1 h2 =>
      simp only at h ⊢
      split at h
      · obtain rfl := Option.some.inj h
        exact .cons (hlast _) (h2.more _)
      · cases h
  rw [if_neg k5] at h
  by_cases k6 : n.k = 6
  · rw [if_neg (by omega), if_neg (by omega), if_neg k5, if_pos k6]
    rw [if_pos k6] at h
    cases hb with
    | nil => cases h
    | cons h1 h2 =>
      cases h2 with
      | nil => cases h
      | cons h3 h4 =>
        simp only at h ⊢
        split at h
        · obtain rfl := Option.some.inj h
          exact .cons (hlast _) (h4.more _)
        · cases h
  rw [if_neg k6] at h
  obtain rfl := Option.some.inj h
  by_cases k1 : n.k = 1
  · rw [if_pos k1]
    cases he : env n.nm with
    | none => exact ⟨k1, rfl⟩
    | some v => exact .cons (hlast _) (hb.more _)
  rw [if_neg k1]
  by_cases k4 : n.k = 4
  · rw [if_pos k4]; exact .cons (hlast _) (hb.more _)
  · rw [if_neg k4, if_neg k5, if_neg k6]; exact .cons (hlast _) (hb.more _)
theorem brun_len {env : List UInt8 → Option Nat} : ∀ {ns : List Nd} {st out o : List Nat}, brun env ns st out = some o → o.length = out.length + ns.length
  | [], st, out, o, h => by obtain rfl := Option.some.inj h; simp
  | n :: ns, st, out, o, h => by
    rw [brun_cons] at h
    cases hb : bstep env n st with
    | none => rw [hb] at h; cases h
    | some q =>
      rw [hb] at h
      have := brun_len h
      simp only [List.length_append, List.length_singleton, List.length_cons, List.length_nil] at this ⊢
      omega
theorem bstep_le {env : List UInt8 → Option Nat} (hE : ∀ s v, env s = some v → v ≤ maxI) {n : Nd} {st r : List Nat} {v : Nat} (hs : ∀ x ∈ st, x ≤ maxI) (h : bstep env n st = some (v, r)) : v ≤ maxI ∧ ∀ x ∈ r, x ≤ maxI := by
  unfold bstep at h
  by_cases k1 : n.k = 1
  · rw [if_pos k1] at h
    cases he : env n.nm with
    | none => rw [he] at h; cases h
    | some u => rw [he] at h; simp only [Option.some.injEq, Prod.mk.injEq] at h; obtain ⟨rfl, rfl⟩ := h; exact ⟨hE _ _ he, hs⟩
  rw [if_neg k1] at h
  by_cases k4 : n.k = 4
  · rw [if_pos k4] at h; simp only [Option.some.injEq, Prod.mk.injEq] at h; obtain ⟨rfl, rfl⟩ := h; exact ⟨by decide, hs⟩
  rw [if_neg k4] at h
  by_cases k5 : n.k = 5
  · rw [if_pos k5] at h
    match st, h with
    | a :: r', h => simp only [Option.some.injEq, Prod.mk.injEq] at h; obtain ⟨rfl, rfl⟩ := h; exact ⟨hs a (by simp), fun x hx => hs x (by simp [hx])⟩
  rw [if_neg k5] at h
  by_cases k6 : n.k = 6
  · rw [if_pos k6] at h
    match st, h with
    | b :: a :: r', h => simp only [Option.some.injEq, Prod.mk.injEq] at h; obtain ⟨rfl, rfl⟩ := h; exact ⟨bnd_le _ _, fun x hx => hs x (by simp [hx])⟩
  rw [if_neg k6] at h
  simp only [Option.some.injEq, Prod.mk.injEq] at h; obtain ⟨rfl, rfl⟩ := h; exact ⟨Nat.zero_le _, hs⟩
/-- greater sizes, greater bounds -/
def LeS : List Nat → List Nat → Prop
  | [], [] => True
  | a :: l, b :: m => a ≤ b ∧ LeS l m
  | _, _ => False
theorem LeS.getD : ∀ {l m : List Nat} (k : Nat), LeS l m → l.getD k 0 ≤ m.getD k 0
  | [], [], _, _ => Nat.le_refl _
  | _ :: _, _ :: _, 0, h => h.1
  | _ :: _, _ :: _, k + 1, h => LeS.getD k h.2
  | [], _ :: _, _, h => h.elim
  | _ :: _, [], _, h => h.elim
def lmax (l : List Nat) : Nat := l.foldl max 0
theorem lmax_snoc (l : List Nat) (x : Nat) : lmax (l ++ [x]) = max (lmax l) x := by unfold lmax; rw [List.foldl_append]; rfl
theorem foldl_max_le : ∀ (l : List Nat) (a b : Nat), a ≤ b → (∀ x ∈ l, x ≤ b) → l.foldl max a ≤ b
  | [], a, b, h, _ => h
  | c :: l, a, b, h, k => foldl_max_le l (max a c) b (Nat.max_le.2 ⟨h, k c (by simp)⟩) fun x hx => k x (by simp [hx])
theorem lmax_le {l : List Nat} {b : Nat} (h : ∀ x ∈ l, x ≤ b) : lmax l ≤ b := foldl_max_le l 0 b (Nat.zero_le _) h
end Go.Ab
/- Bounds of numbers: the plain arithmetic of merges and triangles. -/
namespace Go.Ab
open Go.Proofs
set_option linter.unusedSectionVars false
set_option linter.unusedVariables false
set_option linter.unusedSimpArgs false
variable [Base]
theorem bnd_zero (m : Nat) (h : m ≤ maxI) : bnd m 0 = m := by unfold bnd; omega
theorem bnd_big {m n : Nat} (h : maxI < m + (m + 1) * n) : bnd m n = maxI := by unfold bnd; omega
theorem bnd_fit {m n : Nat} (h : m + (m + 1) * n ≤ maxI) : bnd m n = m + (m + 1) * n := by unfold bnd; omega
theorem bnd_topN {n : Nat} (h : n ≠ 0) : bnd 9223372036854775807 n = 9223372036854775807 := by
  refine bnd_big ?_
  have := Nat.mul_le_mul_left (9223372036854775807 + 1) (Nat.pos_of_ne_zero h)
  unfold maxI
  omega
/-- the reference's test passes: the product fits -/
theorem bnd_small {m n : Nat} (hm : m ≤ 9223372036854775807) (h0 : n ≠ 0) (h : ¬(9223372036854775807 - m) / n < m + 1) : (m + 1) * n ≤ 9223372036854775807 - m ∧ bnd m n = m + (m + 1) * n := by
  have h1 : ¬(maxI - m) < (m + 1) * n := fun hh => h ((Nat.div_lt_iff_lt_mul (Nat.pos_of_ne_zero h0)).2 hh)
  unfold maxI at h1
  exact ⟨by omega, bnd_fit (by unfold maxI; omega)⟩
theorem bnd_over {m n : Nat} (hm : m ≤ 9223372036854775807) (h0 : n ≠ 0) (h : (9223372036854775807 - m) / n < m + 1) : bnd m n = 9223372036854775807 := by
  have h1 : (maxI - m) < (m + 1) * n := (Nat.div_lt_iff_lt_mul (Nat.pos_of_ne_zero h0)).1 h
  refine bnd_big ?_
  unfold maxI at *
  omega
end Go.Ab
