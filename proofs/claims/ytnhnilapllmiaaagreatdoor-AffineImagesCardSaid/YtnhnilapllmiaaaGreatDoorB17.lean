/- Texts laid one behind the other: Ins, ArrA, Edg, RSrt, ImM. -/
import Derived.Test.YtnhnilapllmiaaaGreatDoorB16
import Derived.Test.YtnhnilapllmiaaaGreatDoorB03
import Derived.Test.YtnhnilapllmiaaaGreatDoorB04
import Derived.LoopNIn
import Derived.Test.YtnhnilapllmiaaaGreatDoorB10
import Derived.Test.YtnhnilapllmiaaaGreatDoorB14
import Derived.Test.YtnhnilapllmiaaaGreatDoorB13
set_option linter.unusedSectionVars false
set_option linter.unusedVariables false
set_option linter.unusedSimpArgs false
namespace Go.Ab
open Go.Proofs
variable [Base]
section
variable {P : Program} {C : Ctx} {n : Nat} {F : Fr} {H : LH} {ty : TypeId}
theorem xsl_new {m : Mem} {b k : Nat} {arr : Array Value} {T : TypeId} {cs : List SV} (hb : m b = some (.cells arr T (0, 0))) (h : All2 m cs arr.toList) (hk : k ≤ maxLen) : (xsl cs k).p m (.slice (some ⟨b, 0, none⟩) k k) := by
  unfold xsl
  exact ⟨some ⟨b, 0, none⟩, rfl, hk, fun e => (by cases e), .inr ⟨b, 0, rfl, arr, T, (0, 0), hb, by rw [List.drop_zero, ← h.length, List.take_length]; exact h⟩⟩
theorem ov_bsX {T e : TypeId} {sz by_ : Nat} {z : List SV} {g : Bool} [hS : TSl P T e] [hT : TY P e sz by_ z g] {x : Operand} {s : SV} {ds : List SV} (hx : ev F x = s) (hco : CO s ds) (hf : fillS ((List.range 1).map fun i => (i * sz, sz)) (List.replicate 1 z).flatten [(0, ds)] = some ds := by exact rfl)
    (hsz : Nat.ble (1 * sz) 16777216 = true := by exact rfl) (hpos : Nat.blt 0 sz = true := by exact rfl) : OpV P (.buildSlice T 1 [(0, x)].toArray) ty F H (xsl ds 1) :=
  OpV.pubN (nk_bslice (.cons hx hco .nil) hf hsz hpos) fun m b arr hb h => xsl_new hb h (by simp only [maxLen]; omega)
theorem ov_bsK {T e : TypeId} {sz by_ : Nat} {z : List SV} {g : Bool} [hS : TSl P T e] [hT : TY P e sz by_ z g] {len : Nat} {l : List (Nat × Operand)} {r : List (Nat × List SV)} {cs : List SV} (hp : Parts F l r) (hf : fillS ((List.range len).map fun i => (i * sz, sz)) (List.replicate len z).flatten r = some cs := by exact rfl)
    (hsz : Nat.ble (len * sz) 16777216 = true := by exact rfl) (hpos : Nat.blt 0 sz = true := by exact rfl) (hl : Nat.ble len 1000 = true := by exact rfl) : OpV P (.buildSlice T len l.toArray) ty F H (sl cs len) :=
  OpV.pubN (nk_bslice hp hf hsz hpos) fun m b arr hb h => sl_new hb h (by have := Nat.le_of_ble_eq_true hl; simp only [maxLen]; omega)
theorem ov_slT {T e : TypeId} {sz by_ : Nat} {z : List SV} {g : Bool} [hS : TSl P T e] [hT : TY P e sz by_ z g] {x y : Operand} {cs : List SV} {k : Nat} {v : Int} (j : Nat) (hx : ev F x = sl cs k) (hy : ev F y = lit (.int .i64 v)) (hv : v = (j : Int)) (hj : j ≤ k) :
    OpV P (.slice T x none (some y) none) ty F H (sl (cs.take (j * sz)) j) :=
  OpV.pure fun m w o a ho _ _ _ h => by
    have e0 := h x (by simp [Op.operands]); rw [hx] at e0
    have e1 := h y (by simp [Op.operands]); rw [hy, lit_p] at e1
    subst hv
    obtain ⟨ad, cap, e0, hc1, hc2, hca⟩ := sl_cells e0
    have hb : (Instr.sliceBounds true k cap none (some (a.eval y)) none).run P w = .ok (0, j, cap) w := by
      simp [Instr.sliceBounds, run_bound j cap _ e1 (by omega)]
    have hrun : ∃ a', (execOp a.eval o).run P w = .ok (.value (.slice a' j cap)) w ∧ ∀ b off, ad = some ⟨b, off, none⟩ → a' = some ⟨b, off, none⟩ := by
      refine ⟨if cap = 0 then ad else ad.map (·.add 0), ?_, ?_⟩
      · simp [execOp, ho, Instr.sliceAt, Instr.slice, underlying, hS.h, e0, hb, hT.run_size]
      · rintro b off rfl; simp [add_none]
    obtain ⟨a', hr, q3⟩ := hrun
    refine ⟨_, hr, sl_mk (by omega) hc2 ?_⟩
    rcases hca with hnil | ⟨b, off, rfl, hca⟩
    · left; rw [hnil, List.take_nil]
    · exact .inr ⟨b, off, q3 b off rfl, hca.take _⟩
theorem ov_sl3X {T e : TypeId} {sz by_ : Nat} {z : List SV} {g : Bool} [hS : TSl P T e] [hT : TY P e sz by_ z g] {x y y' : Operand} {cs : List SV} {k : Nat} {v v' : Int} (j : Nat) (hx : ev F x = sl cs k) (hy : ev F y = lit (.int .i64 v)) (hy' : ev F y' = lit (.int .i64 v')) (hv : v = (j : Int)) (hv' : v' = (j : Int)) (hk : cs.length = k * sz) (hj : j ≤ k) (hpos : 0 < sz := by decide) :
    OpV P (.slice T x none (some y) (some y')) ty F H (xsl (cs.take (j * sz)) j) :=
  OpV.pure fun m w o a ho _ _ _ h => by
    have e0 := h x (by simp [Op.operands]); rw [hx] at e0
    have e1 := h y (by simp [Op.operands]); rw [hy, lit_p] at e1
    have e2 := h y' (by simp [Op.operands]); rw [hy', lit_p] at e2
    subst hv hv'
    obtain ⟨ad, cap, e0, hc1, hc2, hca⟩ := sl_cells e0
    have hb : (Instr.sliceBounds true k cap none (some (a.eval y)) (some (a.eval y'))).run P w = .ok (0, j, j) w := by
      simp [Instr.sliceBounds, run_bound j cap _ e2 (by omega), run_bound j j _ e1 (Nat.le_refl _)]
    have hrun : ∃ a', (execOp a.eval o).run P w = .ok (.value (.slice a' j j)) w ∧ (∀ q, ad = some q → ∃ q', a' = some q') ∧ ∀ b off, ad = some ⟨b, off, none⟩ → a' = some ⟨b, off, none⟩ := by
      refine ⟨if j = 0 then ad else ad.map (·.add 0), ?_, ?_, ?_⟩
      · simp [execOp, ho, Instr.sliceAt, Instr.slice, underlying, hS.h, e0, hb, hT.run_size]
      · rintro q rfl; split <;> simp
      · rintro b off rfl; simp [add_none]
    obtain ⟨a', hr, q2, q3⟩ := hrun
    refine ⟨_, hr, ?_⟩
    unfold xsl
    refine ⟨a', rfl, by omega, fun hn => ?_, ?_⟩
    · rcases hca with hnil | ⟨b, off, rfl, _⟩
      · rw [hnil, List.length_nil] at hk
        rcases Nat.mul_eq_zero.mp hk.symm with h | h <;> omega
      · obtain ⟨q', hq⟩ := q2 _ rfl; rw [hq] at hn; cases hn
    · rcases hca with hnil | ⟨b, off, rfl, hca⟩
      · left; rw [hnil, List.take_nil]
      · exact .inr ⟨b, off, q3 b off rfl, hca.take _⟩
theorem ov_appXK {T e : TypeId} {sz by_ : Nat} {z : List SV} {g : Bool} [hS : TSl P T e] [hT : TY P e sz by_ z g] {x y : Operand} {cs ds : List SV} {k k0 : Nat} (hx : ev F x = xsl cs k) (hy : ev F y = sl ds k0) (hk : cs.length = k * sz) (hds : ds.length = k0 * sz) (hl : k + k0 ≤ 1000000) (hpos : 0 < sz := by decide) (hby : by_ ≤ 10000 := by decide) :
    OpV P (.call ⟨.builtin .append, #[x, y], #[T, T]⟩) ty F H (sl (cs ++ ds) (k + k0)) := by
  refine OpV.of0 ?_
  intro m w o a ho hty h1 h2 h3 K Q hK
  have e0 := evA (x := x) h3 (by simp [Op.operands, Call.operands]); rw [hx] at e0
  have e1 := evA (x := y) h3 (by simp [Op.operands, Call.operands]); rw [hy] at e1
  unfold xsl at e0
  obtain ⟨ad, e0, hkm, hadn, hca⟩ := e0
  have e1s := e1
  obtain ⟨ad2, cap2, e2, hc1, hc2, hcb⟩ := sl_cells e1s
  obtain ⟨i, v, hi, hsz, hbyt, hz, hzl, hfl, hvs⟩ := hT.run_bytes
  have hmul : ∀ q, q ≤ 2000001 → q * by_ ≤ 140737488355328 := fun q hq => Nat.le_trans (Nat.mul_le_mul hq hby) (by decide)
  have hexec : execOp a.eval o = (do let v ← Builtin.append_ #[T, T] o.type #[a.eval x, a.eval y]; pure (.value v)) := by
    simp [execOp, ho, resolve, invoke, builtin]
  by_cases hk0 : k0 = 0
  · subst hk0
    rw [Nat.zero_mul] at hds
    obtain rfl := List.eq_nil_of_length_eq_zero hds
    have hs : Src P i.size T (.slice ad2 0 cap2) 0 [] w := by
      cases ad2 with
      | none => exact Src.ofNil w hS.h cap2
      | some a2 => exact Src.ofSlice w hS.h a2 0 cap2 [] (by simp) (by intro j u hj; simp at hj) (by intro u hu; cases hu)
    have hrun := run_append_nothing (P := P) w T T o.type e i hS.h hi ad k k (Nat.le_refl _) _ hs
    unfold Oper.wp
    rw [hexec, e0, e2]
    simp only [Sem.run_bind, hrun, Result.andThen_ok, Sem.run_pure]
    refine hK _ m w (sl_mk (Nat.le_refl _) hkm ?_) h1 (Rel.refl _ _ _)
    rw [List.append_nil]
    exact hca
  · obtain ⟨b2, off2, rfl, arr2, T2, fz2, hb2, hall2⟩ := hcb.resolve_left (fun h => by
      rw [h, List.length_nil] at hds
      rcases Nat.mul_eq_zero.mp hds.symm with h | h <;> omega)
    have hw2 := h1 _ _ hb2
    rw [hds] at hall2
    generalize hl2 : (arr2.toList.drop off2).take (k0 * sz) = l2 at hall2
    have hlen2 : l2.length = k0 * sz := by rw [hall2.length, hds]
    have hys : ∀ j u, l2[j]? = some u → w.cell? ((⟨b2, off2, none⟩ : Addr).add j) = some u := fun j u hj => by
      rw [add_none, cell_of w b2 _ arr2 _ _ hw2]
      rw [← hl2, List.getElem?_take] at hj
      split at hj
      · rw [List.getElem?_drop] at hj; simpa using hj
      · cases hj
    have fin : ∀ (c : Nat) (arr : Array Value), k + k0 ≤ c → c ≤ maxLen → All2 m (cs ++ ds) (arr.toList.take ((k + k0) * sz)) → (Builtin.append_ #[T, T] o.type #[a.eval x, a.eval y]).run P w = .ok (.slice (some ⟨w.heap.size, 0, none⟩) (k + k0) c) (w.drew.alloc (.cells arr e)) → o.wp P a w K Q := by
      intro c arr hc hcm hall hrun
      unfold Oper.wp
      rw [hexec]
      simp only [Sem.run_bind, hrun, Result.andThen_ok, Sem.run_pure]
      obtain ⟨m', g1, g2, g3⟩ := pub_new (w' := w.drew.alloc (.cells arr e)) h1 (.inr rfl)
      refine hK _ m' _ (sl_mk hc hcm (.inr ⟨w.heap.size, 0, rfl, arr, e, (0, 0), g3, ?_⟩)) g1 g2
      rw [List.drop_zero, List.length_append, hk, hds, ← Nat.add_mul]
      exact hall.mono g2.le
    have tk : ∀ (l1 r : List Value), All2 m cs l1 → l1.length = k * sz → All2 m (cs ++ ds) ((l1 ++ l2 ++ r).take ((k + k0) * sz)) := fun l1 r hall1 hlen1 => by
      have hlk : (l1 ++ l2).length = (k + k0) * sz := by rw [List.length_append, hlen1, hlen2, Nat.add_mul]
      rw [List.take_append_of_le_length (by rw [hlk]; exact Nat.le_refl _), List.take_of_length_le (by rw [hlk]; exact Nat.le_refl _)]
      exact hall1.append hall2
    rcases hca with hnil | ⟨b1, off1, rfl, arr1, T1, fz1, hb1, hall1⟩
    · subst hnil
      have hk1 : k = 0 := by
        rw [List.length_nil] at hk
        rcases Nat.mul_eq_zero.mp hk.symm with h | h <;> omega
      subst hk1
      cases ad with
      | none =>
        have hrun := run_append_nil (P := P) w T o.type e i v hS.h hi hz ⟨b2, off2, none⟩ k0 cap2 l2 (by rw [hlen2, hsz]) hys (by omega) (by omega) (by rw [hbyt]; have := hmul k0 (by omega); omega)
        rw [← e0, ← e2] at hrun
        refine fin (grownCap w k0 0 e) _ (by rw [Nat.zero_add]; exact grownCap_ge w k0 0 e) (grownCap_le_maxLen w k0 0 e (by simp only [maxLen]; omega)) ?_ (by rw [Nat.zero_add]; exact hrun)
        simp only [Array.toList_append, List.toList_toArray]
        exact tk [] _ trivial (by simp)
      | some ad =>
        refine fin _ _ (grownCap_ge w (0 + k0) 0 e) (grownCap_le_maxLen w (0 + k0) 0 e (by simp only [maxLen]; omega)) ?_ (by rw [e0, e2]; exact run_append_grow (P := P) w T o.type e i v hS.h hi hz ad 0 0 [] (by simp) (by intro j u hj; simp at hj) ⟨b2, off2, none⟩ k0 cap2 l2 (by rw [hlen2, hsz]) hys (by omega) (by omega) (growslice_fits (by omega) (by rw [hbyt]; exact hmul _ (by omega))))
        simp only [Array.toList_append, List.toList_toArray]
        exact tk [] _ trivial (by simp)
    · have hw1 := h1 _ _ hb1
      have hlen1 := hall1.length
      rw [hk] at hall1 hlen1
      have hxs : ∀ j u, ((arr1.toList.drop off1).take (k * sz))[j]? = some u → w.cell? ((⟨b1, off1, none⟩ : Addr).add j) = some u := fun j u hj => by
        rw [add_none, cell_of w b1 _ arr1 _ _ hw1]
        rw [List.getElem?_take] at hj
        split at hj
        · rw [List.getElem?_drop] at hj; simpa using hj
        · cases hj
      refine fin _ _ (grownCap_ge w (k + k0) k e) (grownCap_le_maxLen w (k + k0) k e (by simp only [maxLen]; omega)) ?_ (by rw [e0, e2]; exact run_append_grow (P := P) w T o.type e i v hS.h hi hz ⟨b1, off1, none⟩ k k ((arr1.toList.drop off1).take (k * sz)) (by rw [hlen1, hsz]) hxs ⟨b2, off2, none⟩ k0 cap2 l2 (by rw [hlen2, hsz]) hys (by omega) (by omega) (growslice_fits (by omega) (by rw [hbyt]; exact hmul _ (by omega))))
      simp only [Array.toList_append, List.toList_toArray]
      exact tk _ _ hall1 hlen1
end
theorem ins_cells {α : Type} {f : α → List SV} {sz : Nat} (hf : ∀ a, (f a).length = sz) (l : List α) (x : α) (j : Nat) : ((l.map f).flatten).take (j * sz) ++ (f x ++ ((l.map f).flatten).drop (j * sz)) = (((l.take j) ++ x :: l.drop j).map f).flatten := by
  have h : ∀ (l : List α) (j : Nat), ((l.map f).flatten).take (j * sz) = ((l.take j).map f).flatten ∧ ((l.map f).flatten).drop (j * sz) = ((l.drop j).map f).flatten := by
    intro l
    induction l with
    | nil => intro j; simp
    | cons a l ih =>
      intro j
      cases j with
      | zero => simp
      | succ j =>
        obtain ⟨i1, i2⟩ := ih j
        have e : (j + 1) * sz = (f a).length + j * sz := by rw [hf, Nat.succ_mul]; omega
        constructor
        · rw [List.map_cons, List.flatten_cons, e, List.take_length_add_append, i1, List.take_succ_cons, List.map_cons, List.flatten_cons]
        · rw [List.map_cons, List.flatten_cons, e, List.drop_length_add_append, i2, List.drop_succ_cons]
  obtain ⟨i1, i2⟩ := h l j
  rw [i1, i2, List.map_append, List.flatten_append, List.map_cons, List.flatten_cons]
theorem flat_len {α : Type} {f : α → List SV} {sz : Nat} (hf : ∀ a, (f a).length = sz) (l : List α) : ((l.map f).flatten).length = l.length * sz := by
  induction l with
  | nil => simp
  | cons a l ih => rw [List.map_cons, List.flatten_cons, List.length_append, ih, hf, List.length_cons, Nat.succ_mul, Nat.add_comm]
theorem flat_take {α : Type} {f : α → List SV} {sz : Nat} (hf : ∀ a, (f a).length = sz) : ∀ (l : List α) (j : Nat), ((l.map f).flatten).take (j * sz) = ((l.take j).map f).flatten
  | [], j => by simp
  | a :: l, 0 => by simp
  | a :: l, j + 1 => by
    have e : (j + 1) * sz = (f a).length + j * sz := by rw [hf, Nat.succ_mul]; omega
    rw [List.map_cons, List.flatten_cons, e, List.take_length_add_append, flat_take hf l j, List.take_succ_cons, List.map_cons, List.flatten_cons]
theorem row_at {α : Type} {f : α → List SV} {sz : Nat} (hf : ∀ a, (f a).length = sz) : ∀ {l : List α} {k : Nat} {a : α} (r : List SV), l[k]? = some a → (((l.map f).flatten ++ r).drop (k * sz)).take sz = f a
  | [], k, a, r, h => by simp at h
  | b :: l, 0, a, r, h => by
    simp only [List.getElem?_cons_zero, Option.some.injEq] at h
    subst h
    rw [Nat.zero_mul, List.drop_zero, List.map_cons, List.flatten_cons, List.append_assoc, List.take_append_of_le_length (by rw [hf]; exact Nat.le_refl _), List.take_of_length_le (by rw [hf]; exact Nat.le_refl _)]
  | b :: l, k + 1, a, r, h => by
    have e : (k + 1) * sz = (f b).length + k * sz := by rw [hf, Nat.succ_mul]; omega
    rw [List.map_cons, List.flatten_cons, List.append_assoc, e, List.drop_length_add_append]
    exact row_at hf r (by simpa using h)
def enumP : Nat → List (List SV) → List (Nat × List SV)
  | _, [] => []
  | i, d :: r => (i, d) :: enumP (i + 1) r
theorem spl_mid : ∀ (ds pre zs : List SV), ds.length ≤ zs.length → spl (pre ++ zs) pre.length ds = pre ++ ds ++ zs.drop ds.length
  | [], pre, zs, _ => by rw [spl]; simp
  | d :: ds, pre, [], h => by simp at h
  | d :: ds, pre, z :: zs, h => by
    have e : (pre ++ z :: zs).set pre.length d = (pre ++ [d]) ++ zs := by
      rw [List.set_append_right _ _ (Nat.le_refl _), Nat.sub_self, List.set_cons_zero]; simp
    rw [spl, e, show pre.length + 1 = (pre ++ [d]).length by simp, spl_mid ds (pre ++ [d]) zs (by simpa using h)]
    simp
theorem fill_enum {sz len : Nat} : ∀ (dss : List (List SV)) (i : Nat) (pre zs : List SV), (∀ d ∈ dss, d.length = sz) → pre.length = i * sz → i + dss.length = len → zs.length = dss.length * sz →
    fillS ((List.range len).map fun i => (i * sz, sz)) (pre ++ zs) (enumP i dss) = some (pre ++ dss.flatten)
  | [], i, pre, zs, _, _, _, hz => by
    rw [List.length_nil, Nat.zero_mul] at hz
    rw [List.eq_nil_of_length_eq_zero hz, enumP, fillS]; rfl
  | d :: dss, i, pre, zs, hd, hp, hl, hz => by
    have hd0 := hd d List.mem_cons_self
    rw [List.length_cons, Nat.succ_mul] at hz
    have hg : ((List.range len).map fun i => (i * sz, sz))[i]? = some (i * sz, sz) := by
      rw [List.getElem?_map, List.getElem?_range (by simp only [List.length_cons] at hl; omega)]; rfl
    have hsp := spl_mid d pre zs (by omega)
    rw [enumP, fillS, hg]
    simp only
    rw [hd0, show Nat.beq sz sz = true from Nat.beq_refl sz, show Nat.ble (i * sz + sz) (pre ++ zs).length = true from Nat.ble_eq_true_of_le (by rw [List.length_append]; omega), ← hp, hsp]
    simp only [Bool.and_self, cond_true]
    rw [fill_enum dss (i + 1) (pre ++ d) (zs.drop d.length) (fun x hx => hd x (List.mem_cons_of_mem _ hx)) (by rw [List.length_append, hp, hd0, Nat.succ_mul]) (by simp only [List.length_cons] at hl; omega) (by rw [List.length_drop]; omega)]
    simp
theorem ov_bsL {P : Program} {F : Fr} {H : LH} {ty T e : TypeId} {sz by_ : Nat} {z : List SV} {g : Bool} [hS : TSl P T e] [hT : TY P e sz by_ z g] {α : Type} {f : α → List SV} (hf : ∀ a, (f a).length = sz) (ps : List α) {len : Nat} {l : List (Nat × Operand)} {r : List (Nat × List SV)} (hp : Parts F l r)
    (hr : r = enumP 0 (ps.map f) := by exact rfl) (hn : len = ps.length := by exact rfl) (hsz : Nat.ble (len * sz) 16777216 = true := by exact rfl) (hpos : Nat.blt 0 sz = true := by exact rfl) (hl : Nat.ble len 1000 = true := by exact rfl) : OpV P (.buildSlice T len l.toArray) ty F H (sl (ps.map f).flatten ps.length) := by
  have hz1 : z.length = sz := by
    obtain ⟨l, _, h2, _, h4⟩ := hT.info
    rw [← h2, List.length_map, h4]
  subst hn hr
  refine ov_bsK hp ?_ hsz hpos hl
  have := fill_enum (sz := sz) (len := ps.length) (ps.map f) 0 [] (List.replicate ps.length z).flatten (fun d hd => by
    obtain ⟨a, _, rfl⟩ := List.mem_map.1 hd
    exact hf a) (by simp) (by simp) (by
    have h : ∀ k : Nat, ((List.replicate k z).flatten).length = k * sz := fun k => by
      induction k with
      | zero => simp
      | succ k ih => rw [List.replicate_succ, List.flatten_cons, List.length_append, ih, hz1, Nat.succ_mul, Nat.add_comm]
    rw [h, List.length_map])
  simpa using this
theorem Parts.pt {F : Fr} {i : Nat} {x : Operand} {cs : List SV} {l : List (Nat × Operand)} {r : List (Nat × List SV)} (hx : ev F x = ag cs) (h : Parts F l r) : Parts F ((i, x) :: l) ((i, cs) :: r) := .cons hx inferInstance h
section
variable {P : Program} {C : Ctx} {n : Nat} {Q : Exit → Fr → LH → Prop} {F : Fr} {H : LH}
theorem WP.rowS {c : Code} {T : TypeId} {sz k : Nat} {cs : List SV} {s : SV} {Hs R : LH} (d : Nat) (hown : Own T sz k cs s Hs) (hF : F d = s) (hp : H.Perm (Hs ++ R)) (h : WP P C n c Q (upd F d (sl cs k)) R) : WP P C n c Q F H := by
  refine WP.perm hp ?_
  obtain ⟨hcl, ⟨rfl, rfl, rfl⟩ | ⟨b, c', h1, h2, rfl, rfl⟩⟩ := hown
  · rw [Nat.zero_mul] at hcl
    obtain rfl := List.eq_nil_of_length_eq_zero hcl
    refine WP.le (F' := upd F d (sl [] 0)) (fun t => ?_) h
    by_cases ht : t = d
    · subst ht; rw [upd_eq, hF]; exact le_nilS
    · rw [upd_ne ht]; exact Le.refl _
  · exact WP.pub (HDel.here _) hF (fun m arr g1 g2 => pub_ownL g1 g2 h1 h2) h
theorem WPL.rowS {l : List Oper} {ops : Array Oper} {K : Fr → LH → Prop} {T : TypeId} {sz k : Nat} {cs : List SV} {s : SV} {Hs R : LH} (d : Nat) (hown : Own T sz k cs s Hs) (hF : F d = s) (hp : H.Perm (Hs ++ R)) (h : WPL P C n ops l K (upd F d (sl cs k)) R) : WPL P C n ops l K F H := by
  refine WPL.perm hp ?_
  obtain ⟨hcl, ⟨rfl, rfl, rfl⟩ | ⟨b, c', h1, h2, rfl, rfl⟩⟩ := hown
  · rw [Nat.zero_mul] at hcl
    obtain rfl := List.eq_nil_of_length_eq_zero hcl
    refine WPL.le (F' := upd F d (sl [] 0)) (fun t => ?_) h
    by_cases ht : t = d
    · subst ht; rw [upd_eq, hF]; exact le_nilS
    · rw [upd_ne ht]; exact Le.refl _
  · exact WPL.pub (HDel.here _) hF (fun m arr g1 g2 => pub_ownL g1 g2 h1 h2) h
end
section
variable {P : Program} {F : Fr} {H : LH} {ty : TypeId}
theorem ov_buildA {T e : TypeId} {len k sz by_ by2 : Nat} {z z2 : List SV} {g g2 : Bool} [hE : TY P e k by2 z2 g2] [hT : TY P T sz by_ z g] (hA : P.underlying T = some (.array len e)) {l : List (Nat × Operand)} {r : List (Nat × List SV)} {cs : List SV}
    (hp : Parts F l r) (hf : fillS ((List.range len).map fun i => (i * k, k)) z r = some cs) : OpV P (.build T l.toArray) ty F H (ag cs) :=
  OpV.pure fun m w o a ho _ _ _ h => by
    obtain ⟨v, hz, hall⟩ := hT.run_zero w
    have hv : ∀ p ∈ l, (ev F p.2).p m (a.eval p.2) := fun p hp' => h p.2 (by simp only [Op.operands, List.mem_toArray, List.mem_map]; exact ⟨p, hp', rfl⟩)
    obtain ⟨arr', hfill, hall'⟩ := fill_all' (m := m) (ρ := a.eval) (fun i => some (i * k, k)) (fun i p h => by
      simp only [List.getElem?_map, Option.map_eq_some_iff] at h
      obtain ⟨j, hj, rfl⟩ := h
      obtain ⟨hlt, rfl⟩ := List.getElem?_eq_some_iff.1 hj
      simp) hp hv z v.cells cs (hall m) hf
    refine ⟨.agg arr', ?_, by unfold ag; exact ⟨arr', rfl, hall'⟩⟩
    simp only [execOp, ho, Instr.build, Sem.run_bind, hz, Result.andThen_ok, underlying, run_program, hA, Sem.run_pure, hE.run_size, List.map_toArray]
    rw [hfill]
    rfl
theorem ov_idxA {x ix : Operand} {T e : TypeId} {len k by2 : Nat} {z2 : List SV} {g2 : Bool} [hE : TY P e k by2 z2 g2] (hA : P.underlying T = some (.array len e)) {ki : IntKind} {b : Nat} {i : Int}
    (hx : ev F x = lit (.pointer (some ⟨b, 0, none⟩))) (hi : ev F ix = lit (.int ki i)) (h0 : 0 ≤ i) (h1 : i < len) : OpV P (.indexAddr T x ix) ty F H (lit (.pointer (some ⟨b, i.toNat * k, none⟩))) :=
  OpV.pure fun m w o a hop _ _ _ h => by
    have e0 := h x (by simp [Op.operands]); rw [hx, lit_p] at e0
    have e1 := h ix (by simp [Op.operands]); rw [hi, lit_p] at e1
    refine ⟨.pointer (some ⟨b, i.toNat * k, none⟩), ?_, lit_p.2 rfl⟩
    simp [execOp, hop, e0, e1, Instr.indexAt, Instr.sureAddr, asIntOf, underlying, hA, h0, h1, hE.run_size, add_none]
end
abbrev ppx (p : Pq) : List SV := [lit (.int .i64 (r0 p.1)), lit (.int .i64 (r1 p.1)), r2 p.1, lit (.int .i64 (r0 p.2)), lit (.int .i64 (r1 p.2)), r2 p.2]
theorem ppx_len (p : Pq) : (ppx p).length = 6 := rfl
abbrev pps (l : List Pq) : SV := sl (l.map ppx).flatten l.length
abbrev edgS (l : List Pq) (i : Nat) : List SV := [lit (.int .i64 (i : Nat)), ag (ppx (l.getD i (0, 0)) ++ ppx (l.getD ((i + 1) % l.length) (0, 0)))]
theorem edges_pu (l : List Pq) : Pu Tryz.prog 97 [pps l] (fnv 146 [] [pt [pps l]]) := by
  refine Pu.intro Tryz.func97 rfl (by kernel_rfl) fun C => ?_
  repeat (refine AS ⟨?_⟩; intros)
  (refine O1 ⟨?_⟩; intros)
  refine WpubP 1 rfl (HDel.here _) ?_
  repeat (refine A1 ⟨?_⟩; intros)
  exact endR (end1 (RV.tmp rfl) (Le.refl _))
section
variable {P : Program} {C : Ctx} {n : Nat} {F : Fr} {H : LH} {Post : Exit → Act → World → Prop}
attribute [local semireducible] WP WPL thenQ blkQ Dk
def WPY (P : Program) (C : Ctx) (n : Nat) (c : Code) (Post : Exit → Act → World → Prop) (F : Fr) (H : LH) : Prop := ∀ a w, St C n F H a w → ∀ d, c.wpIn (fe none) d P Post a w
theorem WPY.seq {x y : Code} (hpan : ∀ pv H, ¬ C.pan pv H) (h : WPX none P C n x (onlyN fun F H => WPY P C n y Post F H) F H) : WPY P C n (.seq x y) Post F H := by
  intro a w hs d
  refine wpIn_seq (wpIn_mono (h a w hs d) ?_)
  rintro e a' w' (⟨F', H', hs', hq⟩ | ⟨ch, rfl, _, m, v, pv, H', _, _, _, _, _, _, hx⟩)
  · cases e with
    | normal => exact hq a' w' hs' d
    | _ => exact hq.elim
  · exact absurd hx (hpan _ _)
theorem onlyN.i {K : Fr → LH → Prop} (h : K F H) : onlyN K .normal F H := h
theorem WPY.le {c : Code} {F' : Fr} (k : LeF F F') (h : WPY P C n c Post F' H) : WPY P C n c Post F H := fun a w hs => h a w (hs.le k)
theorem WPY.exitF {c : Operand} {id : Nat} {y : Code} (hc : ev F c = lit (.bool false)) (h : ∀ a w, St C n F H a w → Post (.exit id) a w) : WPY P C n (.seq (.cond c .skip (.exit id)) y) Post F H := by
  intro a w hs d
  obtain ⟨m, _, hp⟩ := hs.evp
  have hv := hp c
  rw [hc, lit_p] at hv
  exact wpIn_seq (wpIn_cond_false hv (wpIn_exit (h a w hs)))
theorem WPY.goT {c : Operand} {id : Nat} {y : Code} (hc : ev F c = lit (.bool true)) (h : WPY P C n y Post F H) : WPY P C n (.seq (.cond c .skip (.exit id)) y) Post F H := by
  intro a w hs d
  obtain ⟨m, _, hp⟩ := hs.evp
  have hv := hp c
  rw [hc, lit_p] at hv
  exact wpIn_seq (wpIn_cond_true hv (wpIn_skip (h a w hs d)))
theorem WPY.seqB {id : Nat} {x y : Code} (h : WPY P C n x (Exit.inBlock id (Exit.then (fun a w => ∀ d, y.wpIn (fe none) d P Post a w) Post)) F H) : WPY P C n (.seq (.block id x) y) Post F H := by
  intro a w hs d
  refine wpIn_seq (wpIn_block (wpIn_mono (h a w hs d) ?_))
  intro e a w hq
  cases e with
  | normal => exact hq d
  | exit id' =>
    simp only [Exit.inBlock] at hq ⊢
    split
    · rename_i e; rw [if_pos e] at hq; exact hq d
    · rename_i e; rw [if_neg e] at hq; exact hq
  | _ => exact hq
theorem WPY.last {c : Code} {Q : Exit → Fr → LH → Prop} (h : WPX none P C n c Q F H) (k : ∀ e a w, liftQ C n Q e a w → Post e a w) : WPY P C n c Post F H := fun a w hs d => wpIn_mono (h a w hs d) k
theorem WPY.block {id : Nat} {c : Code} (h : WPY P C n c (Exit.inBlock id Post) F H) : WPY P C n (.block id c) Post F H := fun a w hs d => wpIn_block (h a w hs d)
theorem WPY.loop {c : Code} (J : Nat → Fr) (I : Nat → Prop) (L : LH) (k : Nat) (hI : I k) (h0 : LeF F (J k)) (hH : L.Sublist H) (hs : ∀ k, I k → WPY P C n c (Exit.then (fun a w => ∃ j, j < k ∧ I j ∧ St C n (J j) L a w) Post) (J k) L) : WPY P C n (.loop c) Post F H := by
  intro a w hst d
  have key : ∀ k a w, I k → St C n (J k) L a w → Code.roundsIn (fe none) d P c Post (k + 1) a w := by
    intro k
    induction k using Nat.strongRecOn with
    | ind k ih =>
      intro a w hIk hst
      refine wpIn_mono (hs k hIk a w hst d) ?_
      intro e a' w' hq
      cases e with
      | normal =>
        obtain ⟨j, hj, hIj, hst'⟩ := hq
        have h1 := ih j hj a' w' hIj hst'
        have mono : ∀ (q q' : Nat) (a : Act) (w : World), q ≤ q' → Code.roundsIn (fe none) d P c Post q a w → Code.roundsIn (fe none) d P c Post q' a w := by
          intro q
          induction q with
          | zero => intro q' a w _ h; exact h.elim
          | succ q ihq =>
            intro q' a w hle h
            obtain ⟨q'', rfl⟩ : ∃ q'', q' = q'' + 1 := ⟨q' - 1, by omega⟩
            refine wpIn_mono h ?_
            intro e a w hq
            cases e with
            | normal => exact ihq q'' a w (by omega) hq
            | _ => exact hq
        exact mono (j + 1) k a' w' (by omega) h1
      | _ => exact hq
  exact wpIn_loop_rounds (k + 1) (key k a w hI ((hst.sub hH).le h0))
end
theorem run_yieldOp {P : Program} {w w' : World} {a : Act} {x : Operand} {l : Nat} {nx : Next} {args : List Operand} {tys : Array TypeId} {d : Option Nat} {ty : TypeId} {pos : String} {aft : Array Edge} (hx : a.eval x = .func (.yield l) #[] #[]) (hy : (Instr.yield l (args.map a.eval).toArray).run P w = .ok nx w') :
    (execOp a.eval (⟨d, .call ⟨.value x, args.toArray, tys⟩, ty, pos, aft, none⟩ : Oper)).run P w = .ok nx w' := by
  simp only [execOp, resolve, hx, Sem.run_bind, Deferred.ofValue, Sem.run_pure, Result.andThen_ok, invoke, List.map_toArray, Array.empty_append, Array.append_empty]
  exact hy
theorem listIn_yield {P : Program} {ops : Array Oper} {Q : Exit → Act → World → Prop} {rest : List Oper} {dd : Nat} {w : World} {a : Act} {x : Operand} {l l' : Nat} {args : List Operand} {tys : Array TypeId} {d : Option Nat} {ty : TypeId} {pos : String} {aft : Array Edge} {fn : FuncId} {tmps : Array Value} {asg bdy : Code}
    (hx : a.eval x = .func (.yield l) #[] #[]) (hy : (Instr.yield l (args.map a.eval).toArray).run P w = .ok (.round l' fn tmps asg bdy) w) (hR : RoundIn (fe none) (dd - 1) P l' fn tmps asg bdy w fun
      | .returned v, w'' => wpListIn (fe none) dd P ops Q rest (a.put d v) w''
      | .panicked chain, w'' => Q (.panic chain) a w''
      | .outgrown, _ => LetsOut Q) : wpListIn (fe none) dd P ops Q (⟨d, .call ⟨.value x, args.toArray, tys⟩, ty, pos, aft, none⟩ :: rest) a w := by
  unfold wpListIn
  rw [if_pos (show Region.wanted _ _ = true from rfl)]
  refine ⟨fun _ _ => trivial, ?_⟩
  rw [Oper.semAt_eq _ _ _ (fun c e => by cases e), run_yieldOp hx hy]
  exact ⟨(fun e => by cases e), hR⟩
theorem listIn_val {P : Program} {ops : Array Oper} {Q : Exit → Act → World → Prop} {rest : List Oper} {dd : Nat} {w w' : World} {a : Act} {o : Oper} {v : Value} (hg : o.guard = none) (hd : (!isDefer o.op) = true) (hr : (execOp a.eval o).run P w = .ok (.value v) w') (h : wpListIn (fe none) dd P ops Q rest (a.put o.dst v) w') : wpListIn (fe none) dd P ops Q (o :: rest) a w := by
  unfold wpListIn
  rw [if_pos (show Region.wanted _ _ = true by simp only [Region.wanted, hg])]
  refine ⟨fun _ _ => trivial, ?_⟩
  rw [Oper.semAt_eq _ _ _ (not_defer hd), hr]
  exact h
theorem run_notOp {P : Program} {w : World} {a : Act} {x : Operand} {b : Bool} {T : TypeId} {d : Option Nat} {ty : TypeId} {pos : String} {aft : Array Edge} (hx : a.eval x = .bool b) : (execOp a.eval (⟨d, .unOp .not T x, ty, pos, aft, none⟩ : Oper)).run P w = .ok (.value (.bool (!b))) w := by simp only [execOp, hx]; cases b <;> rfl
theorem getD_at {l : List Pq} {i : Nat} (h : i < l.length) : l[i]? = some (l.getD i (0, 0)) := by
  rw [List.getD_eq_getElem?_getD, List.getElem?_eq_getElem h]; rfl
abbrev edgF (y : Nat) (ps : List Pq) (i : Nat) : Fr := fm [(0, lit (.func (.yield y) #[] #[])), (1, pt [pps ps]), (5, pps ps), (6, lit (.int .i64 (ps.length : Nat))), (7, lit (.int .i64 (i : Nat)))]
set_option maxHeartbeats 4000000 in
theorem edges1_ok (ps : List Pq) (hl : ps.length ≤ 100000) : ItOk Tryz.prog 146 [pt [pps ps]] (edgS ps) ps.length := by
  refine ⟨by kernel_rfl, ?_⟩
  intro l rec G Gx T m w lb hs hpd hm hH hmn hlk hL hargs hY
  have hLt := lt_of_at hL
  refine (callsIn_wide (n := 5)).1 (callsIn_of_wp Tryz.func146 rfl trivial ?_ rfl)
  obtain ⟨C, hC⟩ : ∃ C : Ctx, C = ⟨keys G, m, w, noX, []⟩ := ⟨_, rfl⟩
  have hpan : ∀ pv H, ¬ C.pan pv H := by rw [hC]; exact fun _ _ h => h
  have hst : St C 27 (ini [lit (.func (.yield l) #[] #[]), pt [pps ps]]) G { tmps := (Value.func (.yield l) #[] #[] :: lb).toArray ++ Array.replicate (27 - (Value.func (.yield l) #[] #[] :: lb).toArray.size) undef, defers := [] } w := by
    rw [hC]
    refine ⟨rfl, by simp only [Array.size_append, Array.size_replicate]; omega, m, hm, hH, Rel.refl _ _ _, fun e he => .inl (mem_keys he), fun t => ?_⟩
    have := ini_ok (us := List.replicate (27 - (Value.func (.yield l) #[] #[] :: lb).toArray.size) undef) (show ArgsOk m [lit (.func (.yield l) #[] #[]), pt [pps ps]] (Value.func (.yield l) #[] #[] :: lb) from ⟨lit_p.2 rfl, hargs⟩) t
    rw [show (Value.func (.yield l) #[] #[] :: lb).toArray ++ Array.replicate (27 - (Value.func (.yield l) #[] #[] :: lb).toArray.size) undef = ((Value.func (.yield l) #[] #[] :: lb) ++ List.replicate (27 - (Value.func (.yield l) #[] #[] :: lb).toArray.size) undef).toArray from by simp]
    exact this
  have hfin : (∀ i, i < ps.length → T i) → ∀ F a w', St C 27 F G a w' → bodyPost Tryz.prog Tryz.f146 (fun e w' => (∃ v, e = .returned v) ∧
      (((∀ i, i < ps.length → T i) ∧ w'.heap[l]? = some (.loop rec) ∧ ∃ m', MemIn m' w' ∧ HOk m' w' G ∧ Rel (keys G) m w m' w') ∨
       (w'.heap[l]? = some (.loop { rec with state := .done, pending := some .ret }) ∧ ∃ m' H', MemIn m' w' ∧ HOk m' w' H' ∧ Rel (l :: keys G) m w m' w' ∧ m' l = none ∧ (∀ e ∈ H', e.1 ∈ keys G ∨ w.heap.size ≤ e.1) ∧ Gx H'))) .normal a w' := by
    rintro hTT F a w' ⟨hdef, _, m', h1, h2, h3, h4, _⟩
    rw [hC] at hdef h3
    exact ⟨hdef, .tuple #[], by simp [results], ⟨_, rfl⟩, .inl ⟨hTT, (h3.block l hLt hlk).trans hL, m', h1, h2, h3⟩⟩
  generalize hPost : bodyPost Tryz.prog Tryz.f146 _ = Post at hfin ⊢
  have hstop : ∀ a w', a.defers = [] → w'.heap[l]? = some (.loop { rec with state := .done, pending := some .ret }) → (∃ m' H', MemIn m' w' ∧ HOk m' w' H' ∧ Rel (l :: keys G) m w m' w' ∧ m' l = none ∧ (∀ e ∈ H', e.1 ∈ keys G ∨ w.heap.size ≤ e.1) ∧ Gx H') → Post .ret a w' := by
    intro a w' h1 h2 h3
    rw [← hPost]
    exact ⟨h1, .tuple #[], by simp [results], ⟨_, rfl⟩, .inr ⟨h2, h3⟩⟩
  clear hPost
  suffices h : WPY Tryz.prog C 27 _ Post (ini [lit (.func (.yield l) #[] #[]), pt [pps ps]]) G from h _ _ hst 5
  clear hst
  refine WPY.seq hpan ?_
  refine WPX.reg ?_
  repeat (refine A1 ⟨?_⟩; intros)
  refine onlyN.i ?_
  refine WPY.block ?_
  refine WPY.loop (fun k => edgF l ps (ps.length - k)) (fun k => ∀ j, j < ps.length - k → T j) G ps.length (fun j hj => by omega) (by rw [Nat.sub_self]; (repeat (first | exact LeF.nil _ | refine LeF.cons (Le.refl _) ?_ | refine LeF.cons (Le.int (by omega)) ?_))) (List.Sublist.refl _) fun k hTk => ?_
  obtain ⟨i, hi⟩ : ∃ i, i = ps.length - k := ⟨_, rfl⟩
  rw [← hi] at hTk
  have hle : i ≤ ps.length := by omega
  rw [show edgF l ps (ps.length - k) = edgF l ps i by rw [hi]]
  refine WPY.seq hpan (WPX.reg ?_)
  by_cases hlt : i < ps.length
  case neg =>
    have hie : i = ps.length := by omega
    repeat (refine A1 ⟨?_⟩; intros)
    refine onlyN.i (WPY.exitF rfl fun a w' h => ?_)
    show (if (0 : Nat) = 0 then Post .normal a w' else Post (.exit 0) a w')
    rw [if_pos rfl]
    exact hfin (fun j hj => hTk j (by omega)) _ a w' h
  have hget := getD_at hlt
  have hml : (i + 1) % ps.length < ps.length := Nat.mod_lt _ (by omega)
  have hget2 := getD_at hml
  have hYi := hY i hlt
  simp only [edgS] at hYi
  generalize ps.getD i (0, 0) = p at hget hYi
  generalize ps.getD ((i + 1) % ps.length) (0, 0) = q at hget2 hYi
  have hat := flat_at (f := ppx) (n := 6) ppx_len hget
  have hat2 := flat_at (f := ppx) (n := 6) ppx_len hget2
  have hne : (ps.map ppx).flatten ≠ [] := flat_ne ppx_len (by omega) (fun e => by rw [e] at hlt; simp at hlt)
  repeat (refine A1 ⟨?_⟩; intros)
  refine onlyN.i (WPY.goT rfl (WPY.seqB (WPY.seq hpan (WPX.reg ?_))))
  repeat (refine A1 ⟨?_⟩; intros)
  refine Wo (ov_idxS (cs' := ppx p) rfl rfl (by omega) (by omega) hat hne) ?_
  repeat (refine A1 ⟨?_⟩; intros)
  refine onlyN.i ?_
  rename_i b4
  intro a2 w2 hst2 d2
  refine wpIn_seq (wpIn_mono (drawX (Q' := fun e a w' => e = .normal ∧ ((T i ∧ ∃ F', St C 27 F' G a w' ∧ LeF F' (fm [(0, lit (.func (.yield l) #[] #[])), (1, pt [pps ps]), (5, pps ps), (6, lit (.int .i64 (ps.length : Nat))), (7, lit (.int .i64 (i : Nat))), (25, lit (.bool false))])) ∨
    (a.tmps.getD 25 undef = .bool true ∧ a.defers = [] ∧ w'.heap[l]? = some (.loop { rec with state := .done, pending := some .ret }) ∧ ∃ m' H', MemIn m' w' ∧ HOk m' w' H' ∧ Rel (l :: keys G) m w m' w' ∧ m' l = none ∧ (∀ e ∈ H', e.1 ∈ keys G ∨ w.heap.size ≤ e.1) ∧ Gx H'))) 12 ?_ (fun _ _ h => by cases h.1) hst2) ?_)
  · repeat (refine A1 ⟨?_⟩; intros)
    refine Wdo (ov_idxS (cs' := ppx q) rfl rfl (Int.natCast_nonneg _) (by exact_mod_cast hml) hat2 hne) ?_
    repeat (refine A1 ⟨?_⟩; intros)
    refine Wdo (ov_buildA (len := 2) (k := 6) (r := [(0, ppx p), (1, ppx q)]) (cs := ppx p ++ ppx q) Tryz.underlying176 (.pt rfl (.pt rfl .nil)) rfl) ?_
    refine Dk.nil ?_
    refine ⟨rfl, ?_⟩
    intro a4 w4 hst4
    have hev := hst4
    obtain ⟨hdef, hn, m4, h1, h2, h3, h4, h5⟩ := hst4
    rw [hC] at hdef h3
    have v0 := lit_p.1 (h5 12)
    have hargs4 : ArgsOk m4 [lit (.int .i64 (i : Nat)), ag (ppx p ++ ppx q)] [a4.tmps.getD 13 undef, a4.tmps.getD 23 undef] := ⟨h5 13, h5 23, trivial⟩
    have hml4 : m4 l = none := (h3.old l hLt hlk).trans hmn
    have hL4 : w4.heap[l]? = some (.loop rec) := (h3.block l hLt hlk).trans hL
    obtain ⟨fn, tmps, asg, bdy, hy, hR⟩ := hYi m4 w4 _ h1 (h2.sub' (List.sublist_cons_self _ _)) h3.le hml4 hlk hL4 hargs4
    have hsz : 25 < a4.tmps.size := Nat.lt_of_lt_of_le (by decide) hn
    have n24 : ∀ b : Bool, (a4.put (some 24) (.bool b)).eval (.tmp 24) = .bool b := fun b => by
      show (a4.put (some 24) _).tmps.getD 24 undef = _
      rw [getD_put (by omega), if_pos rfl]
    have n25 : ∀ b c : Bool, ((a4.put (some 24) (.bool b)).put (some 25) (.bool c)).tmps.getD 25 undef = .bool c := fun b c => by
      rw [getD_put (by simpa [Act.put] using hsz), if_pos rfl]
    have h5' : ∀ t, (edgF l ps i t).p m4 (a4.tmps.getD t undef) := fun t => (show LeF _ (edgF l ps i) from by (repeat (first | exact LeF.nil _ | refine LeF.cons (Le.refl _) ?_ | refine LeF.cons (Le.int (by omega)) ?_))) t _ _ (h5 t)
    refine listIn_yield (show a4.eval (.tmp 12) = _ from v0) hy ((hR _).mono ?_)
    rintro e w5 (⟨rfl, hTi, hl5, m5, q1, q2, q3⟩ | ⟨rfl, hl5, m5, H5, q1, q2, q3, q4, q5, q6⟩)
    · refine listIn_val rfl rfl (run_notOp (n24 true)) ?_
      refine ⟨rfl, .inl ⟨hTi, upd (upd (edgF l ps i) 24 (lit (.bool true))) 25 (lit (.bool false)), ?_, by (repeat (first | exact LeF.nil _ | refine LeF.cons (Le.refl _) ?_ | refine LeF.cons (Le.int (by omega)) ?_))⟩⟩
      rw [hC]
      refine ⟨hdef, by simpa [Act.put] using hn, m5, q1, q2, h3.trans q3 (fun b _ h => h), fun e he => .inl (mem_keys he), fun t => ?_⟩
      by_cases ht : t = 25
      · subst ht
        rw [upd_eq]
        exact lit_p.2 (n25 true false)
      · show SV.p _ _ (((a4.put (some 24) (.bool true)).put (some 25) (.bool false)).tmps.getD t undef)
        rw [upd_ne ht, getD_put (by simpa [Act.put] using hsz), if_neg ht, getD_put (by omega)]
        by_cases ht2 : t = 24
        · subst ht2
          rw [upd_eq, if_pos rfl]
          exact lit_p.2 rfl
        · rw [upd_ne ht2, if_neg ht2]
          exact SV.mono _ q3.le (h5' t)
    · refine listIn_val rfl rfl (run_notOp (n24 false)) ?_
      refine ⟨rfl, .inr ⟨n25 false true, hdef, hl5, m5, H5, q1, q2, ?_, q4, fun e he => ?_, q6⟩⟩
      · exact (h3.mono fun b hb => List.mem_cons_of_mem _ hb).trans q3 fun b _ h => h
      · rcases q5 e he with h | h
        · exact .inl h
        · exact .inr (Nat.le_trans h3.size h)
  · rintro e a3 w3 ⟨rfl, ⟨hTi, F', hst3, hF'⟩ | ⟨ht, hd3, hl3, hx3⟩⟩
    · have hst5 := hst3.le hF'
      obtain ⟨m3, _, hp3⟩ := hst5.evp
      have hv := lit_p.1 (hp3 (.tmp 25))
      refine wpIn_cond_false hv (wpIn_skip ?_)
      intro d4
      suffices hreg : WPY Tryz.prog C 27 _ (Exit.then (fun a w => ∃ j, j < k ∧ (∀ j', j' < ps.length - j → T j') ∧ St C 27 (edgF l ps (ps.length - j)) G a w) (Exit.inBlock 0 Post)) (fm [(0, lit (.func (.yield l) #[] #[])), (1, pt [pps ps]), (5, pps ps), (6, lit (.int .i64 (ps.length : Nat))), (7, lit (.int .i64 (i : Nat))), (25, lit (.bool false))]) G from hreg a3 w3 hst5 d4
      refine WPY.last (Q := onlyN fun F H => LeF F (edgF l ps (i + 1)) ∧ H = G) (WPX.reg ?_) ?_
      · repeat (refine A1 ⟨?_⟩; intros)
        exact ⟨by (repeat (first | exact LeF.nil _ | refine LeF.cons (Le.refl _) ?_ | refine LeF.cons (Le.int (by omega)) ?_)), rfl⟩
      · rintro e a6 w6 (⟨F6, H6, hs6, hq6⟩ | ⟨ch, rfl, _, _, _, _, _, _, _, _, _, _, _, hx⟩)
        · cases e with
          | normal =>
            obtain ⟨hF6, rfl⟩ := hq6
            refine ⟨ps.length - (i + 1), by omega, fun j' hj' => (if he : j' = i then he ▸ hTi else hTk j' (by omega)), ?_⟩
            rw [show ps.length - (ps.length - (i + 1)) = i + 1 by omega]
            exact hs6.le hF6
          | _ => exact hq6.elim
        · exact absurd hx (hpan _ _)
    · refine wpIn_cond_true (show a3.eval (.tmp 25) = .bool true from ht) (wpIn_ret ?_)
      exact hstop _ _ hd3 hl3 hx3
abbrev rpx (p : Pq) : List SV := [lit (.bool (decide (p.1.num < 0))), nat p.1.num.natAbs, dg (dden p.1.den), lit (.bool (decide (p.2.num < 0))), nat p.2.num.natAbs, dg (dden p.2.den)]
theorem rpx_len (p : Pq) : (rpx p).length = 6 := rfl
abbrev rps (l : List Pq) : SV := sl (l.map rpx).flatten l.length
theorem pcmp_pu (p q : Pq) (h1 : ht p.1 ≤ 3000000 ∧ ht p.2 ≤ 3000000) (h2 : ht q.1 ≤ 3000000 ∧ ht q.2 ≤ 3000000) : Pu Tryz.prog 77 [ag (rpx p), ag (rpx q)] (lit (.int .i64 (pcmp p q))) := by
  obtain ⟨x, y⟩ := p
  obtain ⟨u, v⟩ := q
  have c1 := rc_pu x u h1.1 h2.1
  have c2 := rc_pu y v h1.2 h2.2
  have e1 := sub_sign_zero (x := x) (y := u)
  unfold pcmp
  simp only
  generalize (x - u).num.sign = s at *
  generalize (y - v).num.sign = t at *
  clear h1 h2
  by_cases h : x = u
  · have hs := e1.2 h
    rw [if_pos h]
    clear e1 h
    subst hs
    refine Pu.intro Tryz.func77 rfl (by kernel_rfl) fun C => ?_
    repeat (first | (refine A1 ⟨?_⟩; intros) | (refine Wcx (c1) ?_) | (refine Wdcx (c1) ?_) | (refine Wcgx (c1) ?_) | (refine Wdcgx (c1) ?_) | (refine Wcx (c2) ?_) | (refine Wdcx (c2) ?_) | (refine Wcgx (c2) ?_) | (refine Wdcgx (c2) ?_))
    ((first | refine endR ?_ | refine endN ?_); exact end1 (RV.tmp rfl) (Le.refl _))
  · have hs : s ≠ 0 := fun e => h (e1.1 e)
    rw [if_neg h]
    clear e1 h
    refine Pu.intro Tryz.func77 rfl (by kernel_rfl) fun C => ?_
    repeat (first | (refine A1 ⟨?_⟩; intros) | (refine Wcx (c1) ?_) | (refine Wdcx (c1) ?_) | (refine Wcgx (c1) ?_) | (refine Wdcgx (c1) ?_) | (refine Wcx (c2) ?_) | (refine Wdcx (c2) ?_) | (refine Wcgx (c2) ?_) | (refine Wdcgx (c2) ?_))
    ((first | refine endR ?_ | refine endN ?_); exact end1 (RV.tmp rfl) (Le.refl _))
set_option maxHeartbeats 4000000 in
theorem sorted_pu (l : List Pq) (hl : l.length ≤ 100000) (hh : ∀ p ∈ l, ht p.1 ≤ 3000000 ∧ ht p.2 ≤ 3000000) : Pu Tryz.prog 36 [rps l] (rps (srt l)) := by
  refine Pu.intro Tryz.func36 rfl (by kernel_rfl) fun C => ?_
  repeat (refine A1 ⟨?_⟩; intros)
  refine WP.loopS (ι := Nat) (fun k => k ≤ l.length) (fun k => l.length - k) (fun k => fm [(3, rps (srt (l.take k))), (7, rps l), (8, lit (.int .i64 l.length)), (9, lit (.int .i64 k))]) (fun _ => []) 0
    (Nat.zero_le _) (LeF.cons le_nilS (by (repeat (first | exact LeF.nil _ | refine LeF.cons (Le.refl _) ?_ | refine LeF.cons (Le.int (by omega)) ?_)))) (List.nil_sublist _) ?_
  rintro k hk K hK
  by_cases hkl : k < l.length
  · have hget := List.getElem?_eq_getElem hkl
    generalize l[k] = p at hget
    have hp := hh p (List.mem_of_getElem? hget)
    have hat := flat_at (f := rpx) (n := 6) rpx_len hget
    have hne : (l.map rpx).flatten ≠ [] := flat_ne rpx_len (by omega) (fun e => by rw [e] at hkl; simp at hkl)
    have hgo := fun F' H' h1 h2 => hK F' H' (k + 1) (by omega) (by omega) h1 h2
    rw [srt_take hget] at hgo
    have hsm : ∀ q ∈ srt (l.take k), ht q.1 ≤ 3000000 ∧ ht q.2 ≤ 3000000 := fun q hq => hh q (List.mem_of_mem_take ((srt_mem _ q).1 hq))
    have hsl := srt_len (l.take k)
    rw [List.length_take] at hsl
    generalize srt (l.take k) = out at hgo hsm hsl ⊢
    clear hK hh
    repeat (refine A1 ⟨?_⟩; intros)
    refine Wo (ov_idxS (cs' := rpx p) rfl rfl (by omega) (by omega) hat hne) ?_
    repeat (refine A1 ⟨?_⟩; intros)
    rename_i b5
    refine WP.loopS (ι := Nat) (fun j => j ≤ pat out p) (fun j => out.length - j) (fun j => fm [(3, rps out), (5, lit (.pointer (some ⟨b5, 0, none⟩))), (6, lit (.int .i64 j)), (7, rps l), (8, lit (.int .i64 l.length)), (9, lit (.int .i64 k))])
      (fun _ => [(b5, 83, rpx p)]) 0 (Nat.zero_le _) (by (repeat (first | exact LeF.nil _ | refine LeF.cons (Le.refl _) ?_ | refine LeF.cons (Le.int (by omega)) ?_))) (List.Sublist.refl _) ?_
    rintro j hj K2 hK2
    have hpl := pat_le out p
    have hfl := flat_len rpx_len out
    have hins := ins_cells rpx_len out p j
    have hdl : (((out.map rpx).flatten).drop (j * 6)).length = (out.length - j) * 6 := by rw [List.length_drop, hfl, Nat.sub_mul]
    have hln : j + (1 + (out.length - j)) = (out.take j ++ p :: out.drop j).length := by rw [List.length_append, List.length_cons, List.length_take, List.length_drop]; omega
    have htl : (((out.map rpx).flatten).take (j * 6)).length = j * 6 := by rw [List.length_take, hfl]; omega
    have hpl2 : (rpx p ++ ((out.map rpx).flatten).drop (j * 6)).length = (1 + (out.length - j)) * 6 := by rw [List.length_append, hdl, rpx_len]; omega
    by_cases hjl : j < out.length
    · have hgo2 := out[j]?
      have hget2 := List.getElem?_eq_getElem hjl
      generalize out[j] = o at hget2
      have ho := hsm o (List.mem_of_getElem? hget2)
      have hat2 := flat_at (f := rpx) (n := 6) rpx_len hget2
      have hne2 : (out.map rpx).flatten ≠ [] := flat_ne rpx_len (by omega) (fun e => by rw [e] at hjl; simp at hjl)
      have c := pcmp_pu o p ho hp
      obtain ⟨s1, s2⟩ := pat_step hj hget2
      cases hlt : plt o p with
      | true =>
        have hneg : pcmp o p < 0 := by unfold plt at hlt; exact of_decide_eq_true hlt
        have hj1 := s1 hlt
        generalize pcmp o p = s at c hneg
        clear hgo s1 s2
        repeat (refine A1 ⟨?_⟩; intros)
        refine Wdog (ov_idxS (cs' := rpx o) rfl rfl (by omega) (by omega) hat2 hne2) ?_
        repeat (first | (refine A1 ⟨?_⟩; intros) | (refine Wcx (c) ?_) | (refine Wdcx (c) ?_) | (refine Wcgx (c) ?_) | (refine Wdcgx (c) ?_))
        exact hK2 _ _ (j + 1) hj1 (by omega) (by (repeat (first | exact LeF.nil _ | refine LeF.cons (Le.refl _) ?_ | refine LeF.cons (Le.int (by omega)) ?_))) (List.Sublist.refl _)
      | false =>
        have hneg : ¬pcmp o p < 0 := by unfold plt at hlt; exact of_decide_eq_false hlt
        have hje := s2 hlt
        clear hK2 s1 s2
        by_cases hz : o = p
        · have h0 := pcmp_zero.2 hz
          have hpi : pins out p = out := by unfold pins; rw [if_pos (by rw [← hje, hget2, hz])]
          rw [hpi] at hgo
          rw [h0] at c
          clear hneg hlt
          repeat (refine A1 ⟨?_⟩; intros)
          refine Wdog (ov_idxS (cs' := rpx o) rfl rfl (by omega) (by omega) hat2 hne2) ?_
          repeat (first | (refine A1 ⟨?_⟩; intros) | (refine Wcx (c) ?_) | (refine Wdcx (c) ?_) | (refine Wcgx (c) ?_) | (refine Wdcgx (c) ?_))
          refine Wdog (ov_idxS (cs' := rpx o) rfl rfl (by omega) (by omega) hat2 hne2) ?_
          repeat (first | (refine A1 ⟨?_⟩; intros) | (refine Wcx (c) ?_) | (refine Wdcx (c) ?_) | (refine Wcgx (c) ?_) | (refine Wdcgx (c) ?_))
          exact hgo _ _ (by (repeat (first | exact LeF.nil _ | refine LeF.cons (Le.refl _) ?_ | refine LeF.cons (Le.int (by omega)) ?_))) (List.nil_sublist _)
        · have h0 : ¬pcmp o p = 0 := fun e => hz (pcmp_zero.1 e)
          have hpi : pins out p = out.take j ++ p :: out.drop j := by unfold pins; rw [← hje, if_neg (by rw [hget2]; exact fun e => hz (Option.some.inj e))]
          rw [hpi] at hgo
          have hpos : 0 < pcmp o p := by omega
          generalize pcmp o p = s at c hpos
          clear hneg hlt h0
          repeat (refine A1 ⟨?_⟩; intros)
          refine Wdog (ov_idxS (cs' := rpx o) rfl rfl (by omega) (by omega) hat2 hne2) ?_
          repeat (first | (refine A1 ⟨?_⟩; intros) | (refine Wcx (c) ?_) | (refine Wdcx (c) ?_) | (refine Wcgx (c) ?_) | (refine Wdcgx (c) ?_))
          refine Wdog (ov_idxS (cs' := rpx o) rfl rfl (by omega) (by omega) hat2 hne2) ?_
          repeat (first | (refine A1 ⟨?_⟩; intros) | (refine Wcx (c) ?_) | (refine Wdcx (c) ?_) | (refine Wcgx (c) ?_) | (refine Wdcgx (c) ?_))
          refine Wdo (ov_sl3X j rfl rfl rfl rfl rfl hfl (by omega)) ?_
          repeat (first | (refine Wdo (ov_bsX (s := ag (rpx p)) (ds := rpx p) rfl inferInstance) ?_) | (refine Wdo (ov_slFn j rfl rfl rfl hfl (by omega)) ?_) | (refine A1 ⟨?_⟩; intros))
          refine Wdo (ov_appXK (k := 1) (k0 := out.length - j) rfl rfl rfl hdl (by omega)) ?_
          refine Wdo (ov_appXK (k := j) (k0 := 1 + (out.length - j)) rfl rfl htl hpl2 (by omega)) ?_
          rw [hins, hln]
          repeat (refine A1 ⟨?_⟩; intros)
          exact hgo _ _ (by (repeat (first | exact LeF.nil _ | refine LeF.cons (Le.refl _) ?_ | refine LeF.cons (Le.int (by omega)) ?_))) (List.nil_sublist _)
    · have hje : j = pat out p := by omega
      have hpi : pins out p = out.take j ++ p :: out.drop j := by unfold pins; rw [← hje, if_neg (by rw [List.getElem?_eq_none (by omega)]; intro e; cases e)]
      rw [hpi] at hgo
      clear hK2
      repeat (refine A1 ⟨?_⟩; intros)
      refine Wdo (ov_sl3X j rfl rfl rfl rfl rfl hfl (by omega)) ?_
      repeat (first | (refine Wdo (ov_bsX (s := ag (rpx p)) (ds := rpx p) rfl inferInstance) ?_) | (refine Wdo (ov_slFn j rfl rfl rfl hfl (by omega)) ?_) | (refine A1 ⟨?_⟩; intros))
      refine Wdo (ov_appXK (k := 1) (k0 := out.length - j) rfl rfl rfl hdl (by omega)) ?_
      refine Wdo (ov_appXK (k := j) (k0 := 1 + (out.length - j)) rfl rfl htl hpl2 (by omega)) ?_
      rw [hins, hln]
      repeat (refine A1 ⟨?_⟩; intros)
      exact hgo _ _ (by (repeat (first | exact LeF.nil _ | refine LeF.cons (Le.refl _) ?_ | refine LeF.cons (Le.int (by omega)) ?_))) (List.nil_sublist _)
  · have hke : k = l.length := by omega
    subst hke
    rw [List.take_length]
    repeat (refine A1 ⟨?_⟩; intros)
    exact endR (end1 (RV.tmp rfl) (Le.refl _))
def Li.neg (l : Li) : Li := ⟨-l.a, -l.b, -l.c⟩
theorem g3_ints (a b c : Int) : g3 a b c = ((Nat.gcd (Nat.gcd a.natAbs b.natAbs) c.natAbs : Nat) : Rat) := by
  unfold g3
  rw [rgcd_ints, show ((Nat.gcd a.natAbs b.natAbs : Nat) : Rat) = (((Nat.gcd a.natAbs b.natAbs : Nat) : Int) : Rat) from rfl, rgcd_ints, Int.natAbs_natCast]
theorem mul_inv_int {a : Int} {g : Nat} (hg : g ≠ 0) (h : g ∣ a.natAbs) : ((a : Rat) * ((g : Nat) : Rat)⁻¹).num = sv (decide (a < 0)) (a.natAbs / g) := by
  obtain ⟨k, hk⟩ := h
  have hgr : ((g : Nat) : Rat) ≠ 0 := by exact_mod_cast hg
  have ek : a.natAbs / g = k := by rw [hk, Nat.mul_div_cancel_left _ (Nat.pos_of_ne_zero hg)]
  have ea : a = (g : Int) * sv (decide (a < 0)) k := by
    have h0 := sv_int a
    rw [hk] at h0
    conv => lhs; rw [← h0]
    cases decide (a < 0)
    · simp [sv]
    · simp [sv, Int.mul_neg]
  rw [ek]
  generalize sv (decide (a < 0)) k = z at *
  have : (a : Rat) * ((g : Nat) : Rat)⁻¹ = (z : Rat) := by
    rw [ea, Rat.intCast_mul, Rat.mul_comm, ← Rat.mul_assoc]
    rw [show ((g : Int) : Rat) = ((g : Nat) : Rat) from rfl, Rat.inv_mul_cancel _ hgr, Rat.one_mul]
  rw [this, Rat.num_intCast]
theorem g_ne {a b : Int} (c : Int) (h : a ≠ 0 ∨ b ≠ 0) : Nat.gcd (Nat.gcd a.natAbs b.natAbs) c.natAbs ≠ 0 := by
  intro e
  have h1 := (Nat.gcd_eq_zero_iff.1 e).1
  have h2 := Nat.gcd_eq_zero_iff.1 h1
  omega
theorem prim_ints {a b : Int} (c : Int) (h : a ≠ 0 ∨ b ≠ 0) : prim a b c = ⟨sv (decide (a < 0)) (a.natAbs / Nat.gcd (Nat.gcd a.natAbs b.natAbs) c.natAbs), sv (decide (b < 0)) (b.natAbs / Nat.gcd (Nat.gcd a.natAbs b.natAbs) c.natAbs),
    sv (decide (c < 0)) (c.natAbs / Nat.gcd (Nat.gcd a.natAbs b.natAbs) c.natAbs)⟩ := by
  have hg := g_ne c h
  have d1 : Nat.gcd (Nat.gcd a.natAbs b.natAbs) c.natAbs ∣ a.natAbs := Nat.dvd_trans (Nat.gcd_dvd_left _ _) (Nat.gcd_dvd_left _ _)
  have d2 : Nat.gcd (Nat.gcd a.natAbs b.natAbs) c.natAbs ∣ b.natAbs := Nat.dvd_trans (Nat.gcd_dvd_left _ _) (Nat.gcd_dvd_right _ _)
  have d3 : Nat.gcd (Nat.gcd a.natAbs b.natAbs) c.natAbs ∣ c.natAbs := Nat.gcd_dvd_right _ _
  unfold prim
  rw [g3_ints]
  generalize Nat.gcd (Nat.gcd a.natAbs b.natAbs) c.natAbs = g at *
  rw [mul_inv_int hg d1, mul_inv_int hg d2, mul_inv_int hg d3]
theorem prim_abs {a b : Int} (c : Int) (h : a ≠ 0 ∨ b ≠ 0) : (prim a b c).a.natAbs ≤ a.natAbs ∧ (prim a b c).b.natAbs ≤ b.natAbs ∧ (prim a b c).c.natAbs ≤ c.natAbs := by
  rw [prim_ints c h]
  simp only [sv_abs]
  exact ⟨Nat.div_le_self _ _, Nat.div_le_self _ _, Nat.div_le_self _ _⟩
theorem rgcd_neg (x y : Rat) : rgcd (-x) (-y) = rgcd x y := by
  unfold rgcd
  rw [Rat.neg_num, Rat.neg_den, Rat.neg_num, Rat.neg_den, Int.natAbs_neg, Int.natAbs_neg]
theorem rgcd_negr (x y : Rat) : rgcd x (-y) = rgcd x y := by
  unfold rgcd
  rw [Rat.neg_num, Rat.neg_den, Int.natAbs_neg]
theorem prim_neg (a b c : Rat) : prim (-a) (-b) (-c) = (prim a b c).neg := by
  unfold prim Li.neg g3
  rw [rgcd_neg, rgcd_negr]
  simp only [Rat.neg_mul, Rat.neg_num]
def thr (x y u v : Rat) : Li := prim (-(v - y)) (u - x) (-(-(v - y) * x + (u - x) * y))
def Li.rim (m : M6 Rat) (l : Li) : Li :=
  let f : Rat := -(l.c / (l.b * l.b + -l.a * -l.a))
  let x := f * l.a
  let y := f * l.b
  let u := x + 1 * l.b
  let v := y + 1 * -l.a
  let t := thr (m.a * x + m.b * y + m.c) (m.d * x + m.e * y + m.f) (m.a * u + m.b * v + m.c) (m.d * u + m.e * v + m.f)
  if m.det < 0 then t.neg else t
theorem Li.n_pos {l : Li} (hl : l.ok) : (0 : Rat) < l.b * l.b + -l.a * -l.a := by
  have h : 0 < l.b * l.b + -l.a * -l.a := by
    have h1 : 0 ≤ l.b * l.b := by rcases Int.le_total 0 l.b with h | h; exact Int.mul_nonneg h h; exact Int.mul_nonneg_of_nonpos_of_nonpos h h
    have h2 : 0 ≤ -l.a * -l.a := by rcases Int.le_total 0 (-l.a) with h | h; exact Int.mul_nonneg h h; exact Int.mul_nonneg_of_nonpos_of_nonpos h h
    rcases hl.2 with h | h
    · have : -l.a * -l.a ≠ 0 := fun e => by rcases Int.mul_eq_zero.1 e with e | e <;> omega
      omega
    · have : l.b * l.b ≠ 0 := fun e => by rcases Int.mul_eq_zero.1 e with e | e <;> omega
      omega
  exact_mod_cast h
theorem Li.rim_im {m : M6 Rat} {l : Li} (h : m.det ≠ 0) (hl : l.ok) : l.rim m = l.im m := by
  have hn := Li.n_pos hl
  have hne : (l.b * l.b + -l.a * -l.a : Rat) ≠ 0 := fun e => by rw [e] at hn; exact absurd hn (by decide)
  obtain ⟨f, hf⟩ : ∃ f : Rat, f = -(l.c / (l.b * l.b + -l.a * -l.a)) := ⟨_, rfl⟩
  have hfn : f * (l.b * l.b + -l.a * -l.a) = -l.c := by rw [hf, Rat.neg_mul, Rat.div_mul_cancel hne]
  have h1 : m.det * m.det⁻¹ = 1 := Rat.mul_inv_cancel _ h
  have hd : m.det = m.a * m.e - m.d * m.b := rfl
  unfold Li.rim thr
  simp only []
  rw [← hf]
  have key : ∀ t : Rat, t * m.det⁻¹ = 1 → prim (-(m.d * (f * l.a + 1 * l.b) + m.e * (f * l.b + 1 * -l.a) + m.f - (m.d * (f * l.a) + m.e * (f * l.b) + m.f))) (m.a * (f * l.a + 1 * l.b) + m.b * (f * l.b + 1 * -l.a) + m.c - (m.a * (f * l.a) + m.b * (f * l.b) + m.c))
      (-(-(m.d * (f * l.a + 1 * l.b) + m.e * (f * l.b + 1 * -l.a) + m.f - (m.d * (f * l.a) + m.e * (f * l.b) + m.f)) * (m.a * (f * l.a) + m.b * (f * l.b) + m.c) + (m.a * (f * l.a + 1 * l.b) + m.b * (f * l.b + 1 * -l.a) + m.c - (m.a * (f * l.a) + m.b * (f * l.b) + m.c)) * (m.d * (f * l.a) + m.e * (f * l.b) + m.f)))
      = prim (t * (l.a * m.inv.a + l.b * m.inv.d)) (t * (l.a * m.inv.b + l.b * m.inv.e)) (t * (l.a * m.inv.c + l.b * m.inv.f + l.c)) := by
    intro t ht
    unfold M6.inv
    simp only []
    generalize m.det⁻¹ = k at *
    generalize m.det = D at *
    have e : t = D := by grind
    subst e
    clear hf hn hne hl
    generalize (l.a : Rat) = A at *
    generalize (l.b : Rat) = B at *
    generalize (l.c : Rat) = C at *
    obtain ⟨a, b, c, d, e, f'⟩ := m
    simp only at *
    congr 1 <;> grind
  rw [key m.det h1]
  by_cases hneg : m.det < 0
  · rw [if_pos hneg]
    have hp : 0 < -m.det := by have := Rat.neg_lt_neg hneg; rwa [Rat.neg_zero] at this
    have e : ∀ x : Rat, m.det * x = -(-m.det * x) := fun x => by rw [Rat.neg_mul, Rat.neg_neg]
    rw [e, e, e, prim_neg, prim_mul _ _ _ _ hp]
    unfold Li.neg Li.im
    simp
  · rw [if_neg hneg]
    have hp : 0 < m.det := by
      rcases Rat.le_iff_lt_or_eq.1 (Rat.not_lt.1 hneg) with h2 | h2
      · exact h2
      · exact absurd h2.symm h
    rw [prim_mul _ _ _ _ hp]
    rfl
end Go.Ab
