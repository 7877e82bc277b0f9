/- Texts laid one behind the other: StrB, AtoiB, AtoiC, GPT, GPS, ParseE, WExpr. -/
import Derived.Test.YtebghnhocigmlaaGreatDoorB11
import Derived.Test.YtebghnhocigmlaaGreatDoorB21
import Derived.Test.YtebghnhocigmlaaGreatDoorB18
import Derived.Test.YtebghnhocigmlaaGreatDoorB12
import Derived.Lib.BufferWrite
import Derived.LaidEql
import Derived.Test.YtebghnhocigmlaaGreatDoorB20
import Derived.Test.YtebghnhocigmlaaGreatDoorB14
namespace Go.Ab
open Go.Proofs
set_option linter.unusedSectionVars false
set_option linter.unusedVariables false
set_option linter.unusedSimpArgs false
variable [Base]
theorem getD_cell {w : World} {b : Nat} {T : TypeId} {arr : Array Value} {l : List UInt8} {rest : List SV} {m : Mem} (hb : w.heap[b]? = some (.cells arr T (0, 0))) (hall : All2 m (bys l ++ rest) arr.toList) (j : Nat) (y : UInt8) (hj : l[j]? = some y) : w.cell? ((⟨b, 0, none⟩ : Addr).add j) = some (.int .u8 y.toNat) := by
  rw [add_none, cell_of w b _ arr _ _ hb]
  have hjl : j < l.length := (List.getElem?_eq_some_iff.1 hj).1
  have hg : (bys l ++ rest)[j]? = some (lit (.int .u8 (y.toNat : Nat))) := by
    rw [List.getElem?_append_left (by rw [bys_len]; exact hjl)]
    simp [bys, hj]
  obtain ⟨v, hv, hp, _⟩ := hall.get hg
  rw [lit_p] at hp
  subst hp
  simpa using hv
section
variable {P : Program} {C : Ctx} {n : Nat} {F : Fr} {H : LH} {ops : Array Oper} {K : Fr → LH → Prop} {rest : List Oper} {ty : TypeId} {pos : String} {aft : Array Edge}
theorem freeze_other (w : World) (b n k : Nat) (h : k ≠ b) : (w.freeze ⟨b, 0, none⟩ n).heap[k]? = w.heap[k]? := by
  unfold World.freeze
  split
  · rfl
  · simp only [Array.getElem?_modify]; rw [if_neg (fun e => h e.symm)]
theorem WPL.unsafeStr {d : Nat} {x y : Operand} {pt it e : TypeId} {g : Nat} {l : List UInt8} {more : List SV} {H' : LH} (hp : P.underlying pt = some (.pointer e)) (hc : P.cellsOf e = 1) (hx : ev F x = lit (.pointer (some ⟨g, 0, none⟩))) (hy : ev F y = lit (.int .i64 l.length)) (hl : l ≠ []) (hl2 : l.length ≤ 9223372036854775807)
    (hdel : HDel g e (bys l ++ more) H H') (k : WPL P C n ops rest K (upd F d (str l)) H') (hd : Nat.blt d n = true) :
    WPL P C n ops (⟨some d, .call ⟨.builtin .unsafeString, #[x, y], #[pt, it]⟩, ty, pos, aft, none⟩ :: rest) K F H := by
  unfold WPL
  intro a w hs Q hq
  refine wpList_plain rfl fun K' hK' => ?_
  have hs' := hs.drop hdel
  obtain ⟨hdef, hn, m, h1, h2, h3, h4, h5⟩ := hs
  have hpp : ∀ x, (ev F x).p m (a.eval x) := fun x => by
    cases x with
    | tmp t => exact h5 t
    | const v => unfold ev lit; rfl
    | global g => unfold ev lit; rfl
    | func f => unfold ev lit; rfl
  have e0 := hpp x; rw [hx, lit_p] at e0
  have e1 := hpp y; rw [hy, lit_p] at e1
  obtain ⟨hmb, arr, hb, hall⟩ := h2.2 _ hdel.mem
  have hlen := hall.length
  simp only [List.length_append, bys_len, Array.length_toList] at hlen
  have hsh : w.shape? g = some (e, arr.size) := by simp [World.shape?, hb]
  have hrun := Lib.run_unsafeString_row (P := P) (w := w) pt it ty e hp hc g arr.size hsh l hl (by omega) hl2 (fun j y hj => getD_cell hb hall j y hj)
  unfold Oper.wp
  have hexec : execOp a.eval (⟨some d, .call ⟨.builtin .unsafeString, #[x, y], #[pt, it]⟩, ty, pos, aft, none⟩ : Oper) = (do let v ← Builtin.unsafeString_ #[pt, it] ty #[a.eval x, a.eval y]; pure (.value v)) := by
    simp [execOp, resolve, invoke, builtin]
  rw [hexec, e0, e1]
  simp only [Sem.run_bind, hrun, Result.andThen_ok, Sem.run_pure]
  unfold WPL at k
  have hkeys := hdel.keys h2.1
  refine hK' _ _ (k (a.put (some d) (.string ⟨l.toArray⟩)) _ ⟨hdef, by simpa [Act.put] using hn, m, ?_, ?_, ?_, fun e he => h4 e (hdel.sub e he), fun t => ?_⟩ Q hq)
  · exact ⟨fun j o hj => by rw [freeze_other _ _ _ _ (fun e => by rw [e, hmb] at hj; cases hj)]; exact h1 j o hj, h1.base⟩
  · refine ⟨hkeys.1, fun e he => ?_⟩
    obtain ⟨q1, arr', q2, q3⟩ := h2.2 e (hdel.sub e he)
    exact ⟨q1, arr', by rw [freeze_other _ _ _ _ (hkeys.2 e he)]; exact q2, q3⟩
  · have hz : (w.freeze ⟨g, 0, none⟩ l.length).heap.size = w.heap.size := by unfold World.freeze; split <;> simp
    have ho : (w.freeze ⟨g, 0, none⟩ l.length).os = w.os ∧ (w.freeze ⟨g, 0, none⟩ l.length).tape = w.tape ∧ (w.freeze ⟨g, 0, none⟩ l.length).output = w.output := by unfold World.freeze; split <;> exact ⟨rfl, rfl, rfl⟩
    refine ⟨h3.le, h3.old, ho.1.trans h3.os, ho.2.1.trans h3.tape, ho.2.2.trans h3.output, hz ▸ h3.size, fun j hlt hnj => ?_⟩
    rw [freeze_other _ _ _ _ ?_]
    · exact h3.block j hlt hnj
    · rintro rfl
      rcases h4 _ hdel.mem with h | h
      · exact hnj h
      · exact absurd hlt (Nat.not_lt.2 h)
  · rw [getD_put (Nat.lt_of_lt_of_le (Nat.blt_eq.mp hd) hn)]
    unfold Ab.upd
    by_cases ht : t = d
    · subst ht; rw [if_pos rfl, Nat.beq_refl]; exact lit_p.2 rfl
    · rw [if_neg ht]
      have : Nat.beq t d = false := by
        cases hbb : Nat.beq t d with
        | false => rfl
        | true => exact absurd (Nat.eq_of_beq_eq_true hbb) ht
      rw [this]
      exact h5 t
end
open Go.Lib Go.RowKit
section
variable {P : Program} {C : Ctx} {n : Nat} {F : Fr} {H : LH} {ops : Array Oper} {K : Fr → LH → Prop} {rest : List Oper} {ty : TypeId} {pos : String} {aft : Array Edge}
theorem bys_cells (l : List UInt8) (m : Mem) : All2 m (bys l) (byteCells l) := by
  unfold bys byteCells
  induction l with
  | nil => trivial
  | cons b l ih => exact ⟨⟨lit_p.2 rfl, rfl⟩, ih⟩
theorem WPL.copyStr {d : Nat} {x y : Operand} {dT sT e T : TypeId} {b c : Nat} {l : List UInt8} {cs : List SV} {H' : LH} (hu : P.underlying dT = some (.slice e)) (hsz : (P.info? e).map (·.size) = some 1) (hx : ev F x = lit (.slice (some ⟨b, 0, none⟩) l.length c)) (hy : ev F y = str l)
    (hl : cs.length = l.length) (hup : HUpd b T cs (bys l) H H') (k : WPL P C n ops rest K (upd F d (lit (.int .i64 (l.length : Nat)))) H') (hd : Nat.blt d n = true) :
    WPL P C n ops (⟨some d, .call ⟨.builtin .copy, #[x, y], #[dT, sT]⟩, ty, pos, aft, none⟩ :: rest) K F H := by
  unfold WPL
  intro a w hs Q hq
  refine wpList_plain rfl fun K' hK' => ?_
  obtain ⟨hdef, hn, m, h1, h2, h3, h4, h5⟩ := hs
  have hpp : ∀ x, (ev F x).p m (a.eval x) := fun x => by
    cases x with
    | tmp t => exact h5 t
    | const v => unfold ev lit; rfl
    | global g => unfold ev lit; rfl
    | func f => unfold ev lit; rfl
  have e0 := hpp x; rw [hx, lit_p] at e0
  have e1 := hpp y; rw [hy] at e1
  have e1' : a.eval y = .string ⟨l.toArray⟩ := by unfold str at e1; exact lit_p.1 e1
  obtain ⟨hmb, arr, hb, hall⟩ := h2.2 _ hup.mem
  have hlen := hall.length
  simp only [Array.length_toList] at hlen
  have hsize : (⟨l.toArray⟩ : ByteArray).size = l.length := by simp [ByteArray.size]
  have hrun := run_copy_row_string (P := P) w dT sT ty e b 0 l.length c ⟨l.toArray⟩ arr T hu hsz hb (by rw [hsize]; exact Nat.le_refl _) (by rw [hsize]; omega)
  unfold Oper.wp
  have hexec : execOp a.eval (⟨some d, .call ⟨.builtin .copy, #[x, y], #[dT, sT]⟩, ty, pos, aft, none⟩ : Oper) = (do let v ← Builtin.copy_ #[dT, sT] ty #[a.eval x, a.eval y]; pure (.value v)) := by
    simp [execOp, resolve, invoke, builtin]
  rw [hexec, e0, e1']
  simp only [Sem.run_bind, hrun, Result.andThen_ok, Sem.run_pure, hsize]
  have hcells : (arr.toList.take 0 ++ byteCells l ++ arr.toList.drop (0 + l.length)) = byteCells l := by
    rw [List.take_zero, List.nil_append, List.drop_eq_nil_of_le (by simp only [Array.length_toList]; omega), List.append_nil]
  have hcells' : (arr.toList.take 0 ++ byteCells (⟨l.toArray⟩ : ByteArray).data.toList ++ arr.toList.drop (0 + l.length)) = byteCells l := hcells
  rw [hcells']
  obtain ⟨q1, q2, q3, q4⟩ := write_ok (w' := w.setRow b (byteCells l).toArray) h1 h2 h3 h4 hup (setRow_heap w b arr _ T _ hb) (fun j hj => setRow_other w b j _ hj) rfl rfl rfl (by simp) (by simpa using bys_cells l m)
  unfold WPL at k
  refine hK' _ _ (k (a.put (some d) (.int .i64 (l.length : Nat))) _ ⟨hdef, by simpa [Act.put] using hn, m, q1, q2, q3, q4, fun t => ?_⟩ Q hq)
  rw [getD_put (Nat.lt_of_lt_of_le (Nat.blt_eq.mp hd) hn)]
  unfold Ab.upd
  by_cases ht : t = d
  · subst ht; rw [if_pos rfl, Nat.beq_refl]; exact lit_p.2 rfl
  · rw [if_neg ht]
    have : Nat.beq t d = false := by
      cases hbb : Nat.beq t d with
      | false => rfl
      | true => exact absurd (Nat.eq_of_beq_eq_true hbb) ht
    rw [this]
    exact h5 t
end
theorem sclone_pu (l : List UInt8) (hne : l ≠ []) (hl : l.length ≤ 1000000) : Pu Tryz.prog 314 [str l] (str l) := by
  have hpos := List.length_pos_iff.2 hne
  refine PuH.toPu ?_
  refine PuH.intro Tryz.func314 rfl (by kernel_rfl) fun C hC => ?_
  repeat (refine A1 ⟨?_⟩; intros)
  refine WPL.make (k := l.length) rfl rfl (by omega) (by omega) rfl fun b => ?_
  repeat (refine A1 ⟨?_⟩; intros)
  refine WPL.copyStr (e := 5) (by kernel_rfl) (by kernel_rfl) rfl rfl (by simp) (.here _) ?_ rfl
  repeat (refine A1 ⟨?_⟩; intros)
  refine WPL.unsafeStr (more := []) (by kernel_rfl) (by kernel_rfl) rfl rfl hne (by omega) (by rw [List.append_nil]; exact .here _) ?_ rfl
  repeat (refine A1 ⟨?_⟩; intros)
  exact endHR _ _ (end1 (RV.tmp rfl) (Le.refl _)) (List.nil_sublist _) rfl
abbrev seT : TypeId := 341
abbrev eRg : Value := .iface seT (.int .i64 1)
section
variable {F : Fr} {H : LH} {T' ty : TypeId} {x y : Operand}
theorem eqIn_int {P : Program} (w : World) (d : Nat) {ti tn : TypeId} {ms : Array (String × TypeId)} {i : TypeInfo} {k : IntKind} (a b : Int) (hi : P.underlying ti = some (.interface ms)) (hn : P.underlying tn = some (.int k)) (hinfo : P.info? tn = some i) (hcomp : i.comparable = true) :
    (Op.equalIn (d + 2) ti (.iface tn (.int k a)) (.iface tn (.int k b))).run P w = .ok (a == b) w := by
  simp [Op.equalIn, run_underlying hi, run_underlying hn, typeInfo, hinfo, hcomp]
theorem eql_se (a b : Int) (w : World) : (Go.binOp .eql 25 (.iface seT (.int .i64 a)) (.iface seT (.int .i64 b))).run Tryz.prog w = .ok (.bool (a == b)) w := by
  have hb : (match (Tryz.prog).underlying 25 with
    | some (.interface _) => true
    | _ => false) = true := by kernel_rfl
  obtain ⟨ms, hi⟩ : ∃ ms, (Tryz.prog).underlying 25 = some (.interface ms) := by
    split at hb
    · next ms h => exact ⟨ms, h⟩
    · cases hb
  have hn : (Tryz.prog).underlying seT = some (.int .i64) := by kernel_rfl
  have hc : (match (Tryz.prog).info? seT with
    | some i => i.comparable
    | none => false) = true := by kernel_rfl
  obtain ⟨i, hinfo, hcomp⟩ : ∃ i, (Tryz.prog).info? seT = some i ∧ i.comparable = true := by
    split at hc
    · next i h => exact ⟨i, h, hc⟩
    · cases hc
  simp only [Go.binOp]
  simp [Op.equal, Op.maxDepth, eqIn_int w 9998 a b hi hn hinfo hcomp]
theorem ov_seEq {a b : Int} {r : Bool} (hx : ev F x = lit (.iface seT (.int .i64 a))) (hy : ev F y = lit (.iface seT (.int .i64 b))) (hr : decide (a = b) = r) : OpV Tryz.prog (.binOp .eql 25 x y T') ty F H (lit (.bool r)) :=
  ov_bin hx hy (fun w => by rw [eql_se, ← hr]; rfl) (fun w => by simp [Go.eqGuard])
end
theorem ov_seNe {F : Fr} {H : LH} {T' ty : TypeId} {x y : Operand} {a b : Int} {r : Bool} (hx : ev F x = lit (.iface seT (.int .i64 a))) (hy : ev F y = lit (.iface seT (.int .i64 b))) (hr : decide (a ≠ b) = r) : OpV Tryz.prog (.binOp .neq 25 x y T') ty F H (lit (.bool r)) :=
  ov_bin hx hy (fun w => by
    have h := eql_se a b w
    simp only [Go.binOp, Sem.run_bind] at h ⊢
    revert h
    generalize (Op.equal 25 (.iface seT (.int .i64 a)) (.iface seT (.int .i64 b))).run Tryz.prog w = q
    intro h
    cases q with
    | ok v w' =>
      simp only [Result.andThen_ok, Sem.run_pure, Result.ok.injEq, Value.bool.injEq] at h ⊢
      obtain ⟨h1, h2⟩ := h
      exact ⟨by rw [h1, ← hr]; simp; exact ibeq a b, h2⟩
    | halt _ _ => simp at h) (fun w => by simp [Go.eqGuard])
theorem rangeError_pu [Sent 7] (f l : List UInt8) (hne : l ≠ []) (hl : l.length ≤ 1000000) : Pu Tryz.prog 260 [str f, str l] (pt [str f, str l, lit (sent 7)]) := by
  have c := sclone_pu l hne hl
  refine Pu.intro Tryz.func260 rfl (by kernel_rfl) fun C => ?_
  repeat (first | (refine A1 ⟨?_⟩; intros) | (refine Wcx (c) ?_) | (refine Wdcx (c) ?_) | (refine Wcgx (c) ?_) | (refine Wdcgx (c) ?_))
  refine Wdo (ov_boxP (sv := ag [str f, str l, lit (sent 7)]) rfl) ?_
  repeat (refine A1 ⟨?_⟩; intros)
  exact endR (end1 (RV.tmp rfl) (Le.refl _))
abbrev errN : SV := ifc 344 Ab.top
theorem toError_pu [Sent 7] (f l : List UInt8) (hne : l ≠ []) (hl : l.length ≤ 1000000) : Pu Tryz.prog 207 [str f, str l, lit (.int .i64 0), lit (.int .i64 0), lit eRg] errN := by
  have c := rangeError_pu f l hne hl
  refine Pu.intro Tryz.func207 rfl (by kernel_rfl) fun C => ?_
  repeat (refine A1 ⟨?_⟩; intros)
  refine Wo (ov_seEq (r := false) rfl rfl (by decide)) ?_
  repeat (refine A1 ⟨?_⟩; intros)
  refine Wo (ov_seEq (r := true) rfl rfl (by decide)) ?_
  repeat (first | (refine A1 ⟨?_⟩; intros) | (refine Wcx (c) ?_) | (refine Wdcx (c) ?_) | (refine Wcgx (c) ?_) | (refine Wdcgx (c) ?_))
  exact endR (end1 (RV.tmp rfl) Le.ifcT)
theorem dcv_mono {l : List UInt8} (k : Nat) : dcv (l.take k) ≤ dcv l := by
  have h := dcv_append (l.take k) (l.drop k)
  rw [List.take_append_drop] at h
  rw [h]
  have : 1 ≤ 10 ^ (l.drop k).length := Nat.one_le_pow _ _ (by decide)
  have := Nat.mul_le_mul_left (dcv (l.take k)) this
  omega
def puR (l : List UInt8) : SV := if dcv l ≤ 18446744073709551615 then Ab.tup [lit (.int .u64 (dcv l : Nat)), lit .nilIface] else Ab.tup [lit (.int .u64 18446744073709551615), lit eRg]
set_option maxHeartbeats 4000000 in
theorem puint_pu (l : List UInt8) (h : allD l) (hne : l ≠ []) (hl : l.length ≤ 1000000) : Pu Tryz.prog 313 [str l, lit (.int .i64 10), lit (.int .i64 0)] (puR l) := by
  have hpos : 0 < l.length := List.length_pos_iff.2 hne
  have hbl : (bys l).length = l.length := by unfold bys; simp
  refine Pu.intro Tryz.func313 rfl (by kernel_rfl) fun C => ?_
  repeat (refine A1 ⟨?_⟩; intros)
  refine Wo (ov_bytes (e := 5) (l := l) (by kernel_rfl) (by kernel_rfl) (by kernel_rfl) rfl (by omega)) ?_
  repeat (refine A1 ⟨?_⟩; intros)
  refine WP.loopS (ι := Nat) (fun i => i ≤ l.length ∧ dcv (l.take i) ≤ 18446744073709551615) (fun i => l.length - i)
    (fun i => fm [(1, lit (.int .i64 10)), (8, lit (.bool false)), (9, str l), (10, lit (.int .u64 1844674407370955162)), (11, lit (.int .u64 18446744073709551615)), (12, lit (.bool false)), (13, lit (.int .u64 (dcv (l.take i) : Nat))), (99, sl (bys l) l.length), (100, lit (.int .i64 l.length)), (101, lit (.int .i64 i))]) (fun _ => []) 0 ⟨Nat.zero_le _, by rw [List.take_zero]; decide⟩ (by (repeat (first | exact LeF.nil _ | refine LeF.cons (Le.refl _) ?_ | refine LeF.cons (Le.int (by omega)) ?_))) (List.Sublist.refl _) ?_
  rintro i ⟨hi, hm⟩ K hK
  by_cases hlt : i < l.length
  · have hat := h.at hlt
    have hts := dcv_take_succ hlt
    have hmo := dcv_mono (l := l) (i + 1)
    have hcell : ((bys l).drop (i * 1)).take 1 = [lit (.int .u8 ((l.getD i 0).toNat : Nat))] := by
      unfold bys
      rw [Nat.mul_one, ← List.map_drop, ← List.map_take, List.drop_eq_getElem_cons hlt, List.take_succ_cons, List.take_zero, List.map_cons, List.map_nil, List.getD, List.getElem?_eq_getElem hlt]
      rfl
    have hgo := fun F' H'' h2 => hK F' H'' (i + 1) ⟨hlt, h2⟩ (by omega)
    rw [hts] at hgo hmo
    generalize (l.getD i 0).toNat = ch at *
    generalize dcv (l.take i) = m at *
    clear hts hK
    by_cases hc : 1844674407370955162 ≤ m
    · have hR : puR l = Ab.tup [lit (.int .u64 18446744073709551615), lit eRg] := if_neg (by omega)
      rw [hR]
      clear hgo hmo
      repeat (refine A1 ⟨?_⟩; intros)
      refine Wo (ov_idxS (cs' := [lit (.int .u8 (ch : Nat))]) (i := i) rfl rfl (by omega) (by omega) hcell (fun h => by rw [h] at hbl; simp at hbl; omega)) ?_
      repeat (refine A1 ⟨?_⟩; intros)
      exact endR (end2 (RV.tmp rfl) (RV.tmp rfl) (Le.refl _))
    · by_cases hov : m * 10 + (ch - 48) ≤ 18446744073709551615
      · replace hgo := fun F' H'' => hgo F' H'' hov
        clear hmo
        repeat (refine A1 ⟨?_⟩; intros)
        refine Wo (ov_idxS (cs' := [lit (.int .u8 (ch : Nat))]) (i := i) rfl rfl (by omega) (by omega) hcell (fun h => by rw [h] at hbl; simp at hbl; omega)) ?_
        repeat (refine A1 ⟨?_⟩; intros)
        exact hgo _ _ (by repeat (first | exact LeF.nil _ | refine LeF.cons (Le.refl _) ?_ | refine LeF.cons (Le.int (by omega)) ?_)) (List.Sublist.refl _)
      · have hR : puR l = Ab.tup [lit (.int .u64 18446744073709551615), lit eRg] := if_neg (by omega)
        rw [hR]
        clear hgo hmo
        repeat (refine A1 ⟨?_⟩; intros)
        refine Wo (ov_idxS (cs' := [lit (.int .u8 (ch : Nat))]) (i := i) rfl rfl (by omega) (by omega) hcell (fun h => by rw [h] at hbl; simp at hbl; omega)) ?_
        repeat (refine A1 ⟨?_⟩; intros)
        exact endR (end2 (RV.tmp rfl) (RV.tmp rfl) (Le.refl _))
  · have : i = l.length := by omega
    subst this
    clear hK
    rw [List.take_length] at hm ⊢
    have hR : puR l = Ab.tup [lit (.int .u64 (dcv l : Nat)), lit .nilIface] := if_pos hm
    rw [hR]
    repeat (refine A1 ⟨?_⟩; intros)
    exact endR (end2 (RV.tmp rfl) (RV.tmp rfl) (Le.refl _))
def piR (l : List UInt8) : SV := if dcv l ≤ 9223372036854775807 then Ab.tup [lit (.int .i64 (dcv l : Nat)), lit .nilIface] else Ab.tup [lit (.int .i64 9223372036854775807), lit eRg]
theorem shl63 : IntKind.u64.wrap (1 * 2 ^ min (Int.toNat 63) IntKind.u64.bits) = 9223372036854775808 := by decide +kernel
set_option maxHeartbeats 4000000 in
theorem pint_pu (l : List UInt8) (h : allD l) (hne : l ≠ []) (hl : l.length ≤ 1000000) : Pu Tryz.prog 258 [str l, lit (.int .i64 10), lit (.int .i64 0)] (piR l) := by
  have hpos : 0 < l.length := List.length_pos_iff.2 hne
  have h0 := h.at hpos
  have c := puint_pu l h hne hl
  have e43 : decide (((l.getD 0 0).toNat : Int) = 43) = false := decide_eq_false (by omega)
  have e45 : decide (((l.getD 0 0).toNat : Int) = 45) = false := decide_eq_false (by omega)
  by_cases h64 : dcv l ≤ 18446744073709551615
  · rw [puR, if_pos h64] at c
    by_cases h63 : dcv l ≤ 9223372036854775807
    · rw [piR, if_pos h63]
      generalize dcv l = m at *
      refine Pu.intro Tryz.func258 rfl (by kernel_rfl) fun C => ?_
      repeat (refine A1 ⟨?_⟩; intros)
      rw [e43]
      repeat (refine A1 ⟨?_⟩; intros)
      rw [e45]
      repeat (first | (refine A1 ⟨?_⟩; intros) | (refine Wcx (c) ?_) | (refine Wdcx (c) ?_) | (refine Wcgx (c) ?_) | (refine Wdcgx (c) ?_))
      rw [shl63, show decide ((9223372036854775808 : Int) ≤ (m : Nat)) = false from decide_eq_false (by omega)]
      repeat (refine A1 ⟨?_⟩; intros)
      exact endR (end2 (RV.tmp rfl) (RV.tmp rfl) (Le.refl _))
    · rw [piR, if_neg h63]
      generalize dcv l = m at *
      refine Pu.intro Tryz.func258 rfl (by kernel_rfl) fun C => ?_
      repeat (refine A1 ⟨?_⟩; intros)
      rw [e43]
      repeat (refine A1 ⟨?_⟩; intros)
      rw [e45]
      repeat (first | (refine A1 ⟨?_⟩; intros) | (refine Wcx (c) ?_) | (refine Wdcx (c) ?_) | (refine Wcgx (c) ?_) | (refine Wdcgx (c) ?_))
      rw [shl63, show decide ((9223372036854775808 : Int) ≤ (m : Nat)) = true from decide_eq_true (by omega)]
      repeat (refine A1 ⟨?_⟩; intros)
      exact endR (end2 (RV.tmp rfl) (RV.tmp rfl) (Le.refl _))
  · rw [puR, if_neg h64] at c
    rw [piR, if_neg (by omega)]
    refine Pu.intro Tryz.func258 rfl (by kernel_rfl) fun C => ?_
    repeat (refine A1 ⟨?_⟩; intros)
    rw [e43]
    repeat (refine A1 ⟨?_⟩; intros)
    rw [e45]
    repeat (first | (refine A1 ⟨?_⟩; intros) | (refine Wcx (c) ?_) | (refine Wdcx (c) ?_) | (refine Wcgx (c) ?_) | (refine Wdcgx (c) ?_))
    refine WgE ?_
    refine Wo (ov_seNe (r := false) rfl rfl (by decide)) ?_
    repeat (refine A1 ⟨?_⟩; intros)
    rw [shl63]
    repeat (refine A1 ⟨?_⟩; intros)
    exact endR (end2 (RV.tmp rfl) (RV.tmp rfl) (Le.refl _))
end Go.Ab
namespace Go.Ab
open Go.Proofs
set_option linter.unusedSectionVars false
set_option linter.unusedVariables false
set_option linter.unusedSimpArgs false
variable [Base]
def atR (l : List UInt8) : SV := if dcv l ≤ 9223372036854775807 then Ab.tup [lit (.int .i64 (dcv l : Nat)), lit .nilIface] else Ab.tup [lit (.int .i64 9223372036854775807), errN]
theorem dcv_18 {l : List UInt8} (h : allD l) (hl : l.length ≤ 18) : dcv l ≤ 9223372036854775807 := by
  have h1 := dcv_lt h
  have h2 : 10 ^ l.length ≤ 10 ^ 18 := Nat.pow_le_pow_right (by decide) hl
  have h3 : (10 : Nat) ^ 18 = 1000000000000000000 := by decide
  omega
theorem iatoi_l (l : List UInt8) (h : allD l) (hl : 18 < l.length) (hl2 : l.length ≤ 1000000) : Pu Tryz.prog 206 [str l] (piR l) := by
  have hne : l ≠ [] := fun e => by rw [e] at hl; simp at hl
  have c := pint_pu l h hne hl2
  unfold piR at *
  by_cases h63 : dcv l ≤ 9223372036854775807
  · rw [if_pos h63] at c ⊢
    generalize dcv l = m at *
    refine Pu.intro Tryz.func206 rfl (by kernel_rfl) fun C => ?_
    repeat (first | (refine A1 ⟨?_⟩; intros) | (refine Wcx (c) ?_) | (refine Wdcx (c) ?_) | (refine Wcgx (c) ?_) | (refine Wdcgx (c) ?_))
    exact endR (end2 (RV.tmp rfl) (RV.tmp rfl) (Le.refl _))
  · rw [if_neg h63] at c ⊢
    refine Pu.intro Tryz.func206 rfl (by kernel_rfl) fun C => ?_
    repeat (first | (refine A1 ⟨?_⟩; intros) | (refine Wcx (c) ?_) | (refine Wdcx (c) ?_) | (refine Wcgx (c) ?_) | (refine Wdcgx (c) ?_))
    exact endR (end2 (RV.tmp rfl) (RV.tmp rfl) (Le.refl _))
theorem atoi_pu [Sent 7] (l : List UInt8) (h : allD l) (hne : l ≠ []) (hl2 : l.length ≤ 1000000) : Pu Tryz.prog 147 [str l] (atR l) := by
  unfold atR
  by_cases hl : l.length ≤ 18
  · rw [if_pos (dcv_18 h hl)]
    exact atoi_f l h hne hl
  · have c := iatoi_l l h (by omega) hl2
    have c2 := toError_pu [65, 116, 111, 105] l hne hl2
    unfold piR at c
    by_cases h63 : dcv l ≤ 9223372036854775807
    · rw [if_pos h63] at c ⊢
      generalize dcv l = m at *
      refine Pu.intro Tryz.func147 rfl (by kernel_rfl) fun C => ?_
      repeat (first | (refine A1 ⟨?_⟩; intros) | (refine Wcx (c) ?_) | (refine Wdcx (c) ?_) | (refine Wcgx (c) ?_) | (refine Wdcgx (c) ?_))
      exact endR (end2 (RV.tmp rfl) (RV.tmp rfl) (Le.refl _))
    · rw [if_neg h63] at c ⊢
      refine Pu.intro Tryz.func147 rfl (by kernel_rfl) fun C => ?_
      repeat (first | (refine A1 ⟨?_⟩; intros) | (refine Wcx (c) ?_) | (refine Wdcx (c) ?_) | (refine Wcgx (c) ?_) | (refine Wdcgx (c) ?_) | (refine Wcx (c2) ?_) | (refine Wdcx (c2) ?_) | (refine Wcgx (c2) ?_) | (refine Wdcgx (c2) ?_))
      exact endR (end2 (RV.tmp rfl) (RV.tmp rfl) (Le.refl _))
set_option maxHeartbeats 4000000 in
theorem gbudget_pu [Sent 4] [Sent 3] [Sent 7] (s : SV) (hco : CO s [s]) (p : Nat) (ts : List Tok) (hG : GOk ts) (d : Nat) (hr : ts.length ≤ 1000000) : PuH Tryz.prog 98 [lit (.pointer (some ⟨p, 0, none⟩))] [(p, psT, psC ts d s)]
    (fun v H => ∃ b ts', gbudget ts = .ok (b, ts') ∧ GOk ts' ∧ b ≤ 65536 ∧ v = lit (.int .i64 (b : Nat)) ∧ H = [(p, psT, psC ts' d s)]) (fun pv _ => ∃ e, gbudget ts = .error e ∧ pv = erSV e) := by
  obtain ⟨a, r, rfl, hga⟩ := hG.cons
  simp only [List.length_cons] at hr
  have c1 := gnumber_pu s hco p a r d (by omega)
  refine PuH.intro Tryz.func98 rfl (by kernel_rfl) fun C hC => ?_
  repeat (refine A1 ⟨?_⟩; intros)
  refine WfX c1 ?_ ?_ (hs := Tk.cons (HDel.here _) (Tk.nil _))
  · rintro _ _ ⟨hk, rfl, rfl⟩
    have hn : gnum (a :: r) = .ok (a.t, r) := by unfold gnum; rw [if_pos (show (hd (a :: r)).k = 2 from hk)]; rfl
    have hd2 : allD a.t ∧ a.t ≠ [] ∧ a.t.length ≤ 4096 := by
      rcases hga with ⟨h, _⟩ | h | ⟨_, h1, h2, h3⟩ | h
      · omega
      · omega
      · exact ⟨h1, h2, h3⟩
      · omega
    have g1 : GOk r := hG.tail (by omega)
    have c2 := atoi_pu a.t hd2.1 hd2.2.1 (by omega)
    have c4 := gfail_pu s hco p a r d (by omega) 2
    unfold atR at c2
    simp only [List.cons_append, List.nil_append]
    by_cases h63 : dcv a.t ≤ 9223372036854775807
    · rw [if_pos h63] at c2
      by_cases hb : 65536 < dcv a.t
      · have hres : gbudget (a :: r) = .error (ger 2 (a :: r)) := by unfold gbudget; rw [hn]; exact if_pos hb
        generalize dcv a.t = m at *
        repeat (first | (refine A1 ⟨?_⟩; intros) | (refine Wcx (c2) ?_) | (refine Wdcx (c2) ?_) | (refine Wcgx (c2) ?_) | (refine Wdcgx (c2) ?_))
        refine WfX c4 ?_ ?_ (hs := Tk.cons (HDel.here _) (Tk.nil _))
        · rintro _ _ ⟨⟩
        · rintro _ _ hx
          rw [hC]
          exact ⟨_, hres, hx⟩
      · have hres : gbudget (a :: r) = .ok (dcv a.t, r) := by unfold gbudget; rw [hn]; exact if_neg hb
        generalize dcv a.t = m at *
        repeat (first | (refine A1 ⟨?_⟩; intros) | (refine Wcx (c2) ?_) | (refine Wdcx (c2) ?_) | (refine Wcgx (c2) ?_) | (refine Wdcgx (c2) ?_))
        exact endHR _ _ (end1 (RV.tmp rfl) (Le.refl _)) (List.Sublist.refl _) ⟨m, r, hres, g1, by omega, rfl, rfl⟩
    · rw [if_neg h63] at c2
      have hres : gbudget (a :: r) = .error (ger 2 (a :: r)) := by unfold gbudget; rw [hn]; exact if_pos (by omega)
      repeat (first | (refine A1 ⟨?_⟩; intros) | (refine Wcx (c2) ?_) | (refine Wdcx (c2) ?_) | (refine Wcgx (c2) ?_) | (refine Wdcgx (c2) ?_))
      refine Wo (ov_ineF (s := Ab.top) (by kernel_rfl) rfl) ?_
      repeat (refine A1 ⟨?_⟩; intros)
      refine WfX c4 ?_ ?_ (hs := Tk.cons (HDel.here _) (Tk.nil _))
      · rintro _ _ ⟨⟩
      · rintro _ _ hx
        rw [hC]
        exact ⟨_, hres, hx⟩
  · rintro _ _ ⟨hk, hx⟩
    rw [hC]
    exact ⟨_, by unfold gbudget gnum; rw [if_neg (show ¬(hd (a :: r)).k = 2 from hk)], hx⟩
def semi (x : Except Er (Stm × List Tok)) : Except Er (Stm × List Tok) := match x with
  | .error e => .error e
  | .ok (s, t1) => match gexpect [59] t1 with
    | .error e => .error e
    | .ok t2 => .ok (s, t2)
theorem gstm_q {n : Nat} {a : Tok} {r : List Tok} (h1 : gkQ a.t ≠ 0) (hk : a.k = 1) (hn : n < 1000) : gstm n (a :: r) = semi (gquery (stm0 (gkQ a.t) a) r) := by
  have hg : gkind a.t = gkQ a.t := if_neg h1
  unfold gstm semi
  rw [if_neg (by simp only [hd, List.headD_cons, hg]; omega), if_neg (by omega)]
  simp only [hd, List.headD_cons, hg, if_pos h1, List.tail_cons]
  rfl
theorem gstm_b {n : Nat} {a : Tok} {r : List Tok} (h1 : gkQ a.t = 0) (h2 : gkD a.t = 1) (hk : a.k = 1) (hn : n < 1000) : gstm n (a :: r) = semi (match gbudget r with
    | .error e => .error e
    | .ok (b, t1) => .ok ({ stm0 1 a with bd := b }, t1)) := by
  have hg : gkind a.t = 1 := by unfold gkind; rw [if_pos h1, h2]
  unfold gstm semi
  rw [if_neg (by simp only [hd, List.headD_cons, hg]; omega), if_neg (by omega)]
  simp only [hd, List.headD_cons, hg, h1, List.tail_cons, ne_eq, not_true_eq_false, if_false, if_true]
  rfl
theorem gstm_d {n : Nat} {a : Tok} {r : List Tok} (h1 : gkQ a.t = 0) (h2 : gkD a.t ≠ 1) (h0 : gkD a.t ≠ 0) (hk : a.k = 1) (hn : n < 1000) : gstm n (a :: r) = semi (gdefn (stm0 (gkD a.t) a) r) := by
  have hg : gkind a.t = gkD a.t := by unfold gkind; rw [if_pos h1]
  unfold gstm semi
  rw [if_neg (by simp only [hd, List.headD_cons, hg]; omega), if_neg (by omega)]
  simp only [hd, List.headD_cons, hg, h1, List.tail_cons, ne_eq, not_true_eq_false, if_false, if_neg h2]
  rfl
theorem gstm_e1 {n : Nat} {a : Tok} {r : List Tok} (h : gkind a.t = 0 ∨ a.k ≠ 1) : gstm n (a :: r) = .error (ger 1 (a :: r)) := by
  unfold gstm
  exact if_pos h
theorem gstm_e2 {n : Nat} {a : Tok} {r : List Tok} (h : ¬(gkind a.t = 0 ∨ a.k ≠ 1)) (hn : 1000 ≤ n) : gstm n (a :: r) = .error (ger 2 (a :: r)) := by
  unfold gstm
  rw [if_neg (show ¬(gkind (hd (a :: r)).t = 0 ∨ (hd (a :: r)).k ≠ 1) from h), if_pos hn]
theorem gkQ_le (t : List UInt8) : gkQ t ≤ 15 := by unfold gkQ; repeat (first | omega | split)
theorem gkD_le (t : List UInt8) : gkD t ≤ 5 := by unfold gkD; repeat (first | omega | split)
def StR (n p : Nat) (ts : List Tok) : SV → LH → Prop := fun v H => ∃ s' ts' s1, gstm n ts = .ok (s', ts') ∧ GOk ts' ∧ CO s1 [s1] ∧ v = ag (stx s') ∧ H = [(p, psT, psC ts' 0 s1)]
theorem stm0_low (k : Nat) (a : Tok) : LeL [lit (.int .i64 (k : Nat)), lit (.int .i64 (a.l : Nat)), lit (.int .i64 (a.c : Nat)), lit (.string ⟨#[]⟩), lit (.int .i64 0), lit (.slice none 0 0), lit (.int .i64 0), lit (.slice none 0 0), lit (.bool false), lit (.slice none 0 0), lit (.slice none 0 0), lit (.slice none 0 0), lit (.slice none 0 0),
    lit (.bool false), lit (.slice none 0 0), lit (.slice none 0 0), lit (.bool false), lit (.slice none 0 0), lit (.slice none 0 0)] (stx (stm0 k a)) := by
  repeat (first | exact trivial | refine ⟨?_, ?_⟩ | exact Le.refl _ | exact le_nilK | exact le_nil)
theorem stm0_lowN (k : Nat) (a : Tok) : LeL [lit (.int .i64 (k : Nat)), lit (.int .i64 (a.l : Nat)), lit (.int .i64 (a.c : Nat)), lit (.string ⟨#[]⟩), lit (.int .i64 0), lit (.slice none 0 0), lit (.int .i64 0), lit (.slice none 0 0), lit (.bool false), lit (.slice none 0 0), lit (.slice none 0 0), lit (.slice none 0 0), lit (.slice none 0 0),
    lit (.bool false), lit (.slice none 0 0), lit (.slice none 0 0), lit (.bool false), lit (.slice none 0 0), lit (.slice none 0 0)] (stn (stm0 k a)) := by
  repeat (first | exact trivial | refine ⟨?_, ?_⟩ | exact Le.refl _ | exact le_nilK | exact le_nil)
set_option maxHeartbeats 8000000 in
theorem gstatement_q [Sent 4] [Sent 3] [Sent 5] [Sent 7] (p n : Nat) (hn : n < 1000) (a : Tok) (r : List Tok) (hG : GOk (a :: r)) (hl : r.length ≤ 90000) (s0 : SV) (hs : CO s0 [s0]) (hq : gkQ a.t ≠ 0) (hk : a.k = 1) :
    PuH Tryz.prog 52 [ptrP p, lit (.int .i64 (n : Nat))] [(p, psT, psC (a :: r) 0 s0)] (StR n p (a :: r)) (fun pv _ => ∃ e, gstm n (a :: r) = .error e ∧ pv = erSV e) := by
  have c0 := pnext_pu s0 hs a r 0 (by omega)
  have c1 := gqueries_pu a.t
  have c3 := ptake_pu s0 hs p a r 0 (by omega)
  have hst := gstm_q (r := r) hq hk hn
  have hQ := gkQ_le a.t
  have g1 : GOk r := hG.tail (by omega)
  have c4 := fun b => gquery_pu p b r g1 (by omega) s0 hs (stm0 (gkQ a.t) a) (show gkQ a.t ≤ 100 by omega)
  have hlow := stm0_low (gkQ a.t) a
  have hglen := Nt.query (s := stm0 (gkQ a.t) a) (t := stm0 (gkQ a.t) a) rfl
  have hpf := Pf.query (stm0 (gkQ a.t) a)
  rw [← rquery_eq] at hpf
  unfold StR
  clear hglen hG
  refine PuH.intro Tryz.func52 rfl (by kernel_rfl) fun C hC => ?_
  repeat (refine A1 ⟨?_⟩; intros)
  refine Wo (ov_callT c0 rfl (by repeat (first | exact List.mem_cons_self | apply List.mem_cons_of_mem))) ?_
  repeat (first | (refine A1 ⟨?_⟩; intros) | (refine Wcx (c1) ?_) | (refine Wdcx (c1) ?_) | (refine Wcgx (c1) ?_) | (refine Wdcgx (c1) ?_))
  refine WfT c3 ?_ (hs := Tk.skip _ (Tk.skip _ (Tk.cons (HDel.here _) (Tk.nil _))))
  rintro _ _ ⟨rfl, rfl⟩
  simp only [List.cons_append, List.nil_append]
  repeat (refine A1 ⟨?_⟩; intros)
  refine WPL.lowB (.here _) hlow ?_
  refine WfX (c4 _) ?_ ?_ (hs := Tk.cons (.there _ (.there _ (.there _ (HDel.here _)))) (Tk.cons (HDel.here _) (Tk.nil _)))
  · rintro _ _ ⟨s', t2, s1, hb, g2, hco1, rfl, rfl⟩
    have hlen : t2.length ≤ 100000 := by
      have := hpf.len _ _ _ hb
      omega
    simp only [List.cons_append, List.nil_append]
    clear c0 c1 c3 c4 hlow hpf
    obtain ⟨a2, r2, rfl, -⟩ := g2.cons
    have hl2 : (a2 :: r2).length ≤ 100000 := hlen
    simp only [List.length_cons] at hl2
    have c7 := gexpect_pu s1 hco1 p a2 r2 0 (by omega) [59]
    repeat (refine A1 ⟨?_⟩; intros)
    refine WfX c7 ?_ ?_ (hs := Tk.skip _ (Tk.skip _ (Tk.skip _ (Tk.cons (HDel.here _) (Tk.nil _)))))
    · rintro _ _ ⟨e7, h7, rfl, rfl⟩
      have g7 := g2.next h7
      simp only [List.cons_append, List.nil_append]
      try dsimp only [stx]
      repeat (refine A1 ⟨?_⟩; intros)
      exact endHR _ _ (end1 (RV.cellA rfl (by repeat (first | exact List.mem_cons_self | refine List.mem_cons_of_mem _ ?_)) rfl rfl) (Le.refl _)) (by repeat (first | exact List.nil_sublist _ | refine List.Sublist.cons_cons _ ?_ | refine List.Sublist.cons _ ?_)) ⟨s', r2, s1, by rw [hst, hb]; simp only [semi, e7], g7, hco1, rfl, rfl⟩
    · rintro _ _ ⟨e7, hx⟩
      rw [hC]
      exact ⟨_, by rw [hst, hb]; simp only [semi, e7], hx⟩
  · rintro _ _ ⟨e, hb, hx⟩
    rw [hC]
    exact ⟨e, by rw [hst, hb]; rfl, hx⟩
set_option maxHeartbeats 8000000 in
theorem gstatement_d [Sent 4] [Sent 3] [Sent 5] [Sent 7] (p n : Nat) (hn : n < 1000) (a : Tok) (r : List Tok) (hG : GOk (a :: r)) (hl : r.length ≤ 90000) (s0 : SV) (hs : CO s0 [s0]) (hq : gkQ a.t = 0) (h2 : gkD a.t ≠ 1) (h0 : gkD a.t ≠ 0) (hk : a.k = 1) :
    PuH Tryz.prog 52 [ptrP p, lit (.int .i64 (n : Nat))] [(p, psT, psC (a :: r) 0 s0)] (StR n p (a :: r)) (fun pv _ => ∃ e, gstm n (a :: r) = .error e ∧ pv = erSV e) := by
  have c0 := pnext_pu s0 hs a r 0 (by omega)
  have c1 := gqueries_pu a.t
  have c2 := gdefinitions_pu a.t
  rw [hq] at c1
  have c3 := ptake_pu s0 hs p a r 0 (by omega)
  have hst := gstm_d (r := r) hq h2 h0 hk hn
  have hQ := gkD_le a.t
  have g1 : GOk r := hG.tail (by omega)
  have c4 := fun b => gdefn_pu p b r g1 (by omega) s0 hs (stm0 (gkD a.t) a) (show gkD a.t ≤ 100 by omega) rfl
  have hlow := stm0_lowN (gkD a.t) a
  have hpf := Pf.defn (stm0 (gkD a.t) a)
  rw [← rdefn_eq] at hpf
  unfold StR
  clear hG
  refine PuH.intro Tryz.func52 rfl (by kernel_rfl) fun C hC => ?_
  repeat (refine A1 ⟨?_⟩; intros)
  refine Wo (ov_callT c0 rfl (by repeat (first | exact List.mem_cons_self | apply List.mem_cons_of_mem))) ?_
  repeat (first | (refine A1 ⟨?_⟩; intros) | (refine Wcx (c1) ?_) | (refine Wdcx (c1) ?_) | (refine Wcgx (c1) ?_) | (refine Wdcgx (c1) ?_) | (refine Wcx (c2) ?_) | (refine Wdcx (c2) ?_) | (refine Wcgx (c2) ?_) | (refine Wdcgx (c2) ?_))
  refine WfT c3 ?_ (hs := Tk.skip _ (Tk.skip _ (Tk.cons (HDel.here _) (Tk.nil _))))
  rintro _ _ ⟨rfl, rfl⟩
  simp only [List.cons_append, List.nil_append]
  repeat (refine A1 ⟨?_⟩; intros)
  refine WPL.lowB (.here _) hlow ?_
  refine WfX (c4 _) ?_ ?_ (hs := Tk.cons (.there _ (.there _ (.there _ (HDel.here _)))) (Tk.cons (HDel.here _) (Tk.nil _)))
  · rintro _ _ ⟨s', t2, s1, hb, g2, hco1, rfl, rfl⟩
    have hlen : t2.length ≤ 100000 := by
      have := hpf.len _ _ _ hb
      omega
    simp only [List.cons_append, List.nil_append]
    clear c0 c1 c2 c3 c4 hlow hpf
    obtain ⟨a2, r2, rfl, -⟩ := g2.cons
    have hl2 : (a2 :: r2).length ≤ 100000 := hlen
    simp only [List.length_cons] at hl2
    have c7 := gexpect_pu s1 hco1 p a2 r2 0 (by omega) [59]
    repeat (refine A1 ⟨?_⟩; intros)
    refine WfX c7 ?_ ?_ (hs := Tk.skip _ (Tk.skip _ (Tk.skip _ (Tk.cons (HDel.here _) (Tk.nil _)))))
    · rintro _ _ ⟨e7, h7, rfl, rfl⟩
      have g7 := g2.next h7
      simp only [List.cons_append, List.nil_append]
      try dsimp only [stx]
      repeat (refine A1 ⟨?_⟩; intros)
      exact endHR _ _ (end1 (RV.cellA rfl (by repeat (first | exact List.mem_cons_self | refine List.mem_cons_of_mem _ ?_)) rfl rfl) (Le.refl _)) (by repeat (first | exact List.nil_sublist _ | refine List.Sublist.cons_cons _ ?_ | refine List.Sublist.cons _ ?_)) ⟨s', r2, s1, by rw [hst, hb]; simp only [semi, e7], g7, hco1, rfl, rfl⟩
    · rintro _ _ ⟨e7, hx⟩
      rw [hC]
      exact ⟨_, by rw [hst, hb]; simp only [semi, e7], hx⟩
  · rintro _ _ ⟨e, hb, hx⟩
    rw [hC]
    exact ⟨e, by rw [hst, hb]; rfl, hx⟩
set_option maxHeartbeats 8000000 in
theorem gstatement_b [Sent 4] [Sent 3] [Sent 5] [Sent 7] (p n : Nat) (hn : n < 1000) (a : Tok) (r : List Tok) (hG : GOk (a :: r)) (hl : r.length ≤ 90000) (s0 : SV) (hs : CO s0 [s0]) (hq : gkQ a.t = 0) (h2 : gkD a.t = 1) (hk : a.k = 1) :
    PuH Tryz.prog 52 [ptrP p, lit (.int .i64 (n : Nat))] [(p, psT, psC (a :: r) 0 s0)] (StR n p (a :: r)) (fun pv _ => ∃ e, gstm n (a :: r) = .error e ∧ pv = erSV e) := by
  have c0 := pnext_pu s0 hs a r 0 (by omega)
  have c1 := gqueries_pu a.t
  have c2 := gdefinitions_pu a.t
  rw [hq] at c1
  have c3 := ptake_pu s0 hs p a r 0 (by omega)
  have hst := gstm_b (r := r) hq h2 hk hn
  rw [h2] at c2
  have g1 : GOk r := hG.tail (by omega)
  have c4 := gbudget_pu s0 hs p r g1 0 (by omega)
  have hlow := stm0_low 1 a
  have hpf := Pf.numC (fun n => decide (65536 < dcv n)) 2 dcv
  unfold StR
  clear hG
  refine PuH.intro Tryz.func52 rfl (by kernel_rfl) fun C hC => ?_
  repeat (refine A1 ⟨?_⟩; intros)
  refine Wo (ov_callT c0 rfl (by repeat (first | exact List.mem_cons_self | apply List.mem_cons_of_mem))) ?_
  repeat (first | (refine A1 ⟨?_⟩; intros) | (refine Wcx (c1) ?_) | (refine Wdcx (c1) ?_) | (refine Wcgx (c1) ?_) | (refine Wdcgx (c1) ?_) | (refine Wcx (c2) ?_) | (refine Wdcx (c2) ?_) | (refine Wcgx (c2) ?_) | (refine Wdcgx (c2) ?_))
  refine WfT c3 ?_ (hs := Tk.skip _ (Tk.skip _ (Tk.cons (HDel.here _) (Tk.nil _))))
  rintro _ _ ⟨rfl, rfl⟩
  simp only [List.cons_append, List.nil_append]
  repeat (refine A1 ⟨?_⟩; intros)
  refine WPL.lowB (.here _) hlow ?_
  dsimp only [stx, stm0]
  repeat (refine A1 ⟨?_⟩; intros)
  refine WfX c4 ?_ ?_ (hs := Tk.skip _ (Tk.skip _ (Tk.skip _ (Tk.cons (HDel.here _) (Tk.nil _)))))
  · rintro _ _ ⟨bd, t2, hb, g2, hbd, rfl, rfl⟩
    have hlen : t2.length ≤ 100000 := by
      have h := hb
      rw [rbudget_eq] at h
      have := hpf.len _ _ _ h
      omega
    have s1eq : CO s0 [s0] := hs
    obtain ⟨s1, rfl⟩ : ∃ s1, s1 = s0 := ⟨_, rfl⟩
    have hco1 := hs
    simp only [List.cons_append, List.nil_append]
    clear c0 c1 c2 c3 c4 hlow hpf
    obtain ⟨a2, r2, rfl, -⟩ := g2.cons
    have hl2 : (a2 :: r2).length ≤ 100000 := hlen
    simp only [List.length_cons] at hl2
    have c7 := gexpect_pu s1 hco1 p a2 r2 0 (by omega) [59]
    repeat (refine A1 ⟨?_⟩; intros)
    refine WfX c7 ?_ ?_ (hs := Tk.skip _ (Tk.skip _ (Tk.skip _ (Tk.cons (HDel.here _) (Tk.nil _)))))
    · rintro _ _ ⟨e7, h7, rfl, rfl⟩
      have g7 := g2.next h7
      simp only [List.cons_append, List.nil_append]
      try dsimp only [stx]
      repeat (refine A1 ⟨?_⟩; intros)
      exact endHR _ _ (end1 (RV.cellA rfl (by repeat (first | exact List.mem_cons_self | refine List.mem_cons_of_mem _ ?_)) rfl rfl) (Le.refl _)) (by repeat (first | exact List.nil_sublist _ | refine List.Sublist.cons_cons _ ?_ | refine List.Sublist.cons _ ?_)) ⟨{ stm0 1 a with bd := bd }, r2, s1, by rw [hst, hb]; simp only [semi, e7], g7, hco1, rfl, rfl⟩
    · rintro _ _ ⟨e7, hx⟩
      rw [hC]
      exact ⟨_, by rw [hst, hb]; simp only [semi, e7], hx⟩
  · rintro _ _ ⟨e, hb, hx⟩
    rw [hC]
    exact ⟨e, by rw [hst, hb]; rfl, hx⟩
set_option maxHeartbeats 8000000 in
theorem gstatement_1 [Sent 4] (p n : Nat) (a : Tok) (r : List Tok) (hl : r.length ≤ 90000) (s0 : SV) (hs : CO s0 [s0]) (h : gkind a.t = 0 ∨ a.k ≠ 1) :
    PuH Tryz.prog 52 [ptrP p, lit (.int .i64 (n : Nat))] [(p, psT, psC (a :: r) 0 s0)] (fun _ _ => False) (fun pv _ => pv = erSV (ger 1 (a :: r))) := by
  have c0 := pnext_pu s0 hs a r 0 (by omega)
  have c1 := gqueries_pu a.t
  have c2 := gdefinitions_pu a.t
  have c4 := gfail_pu s0 hs p a r 0 (by omega) 1
  by_cases hq : gkQ a.t = 0
  · have hg : gkind a.t = gkD a.t := if_pos hq
    rw [hg] at h
    rw [hq] at c1
    by_cases hd : gkD a.t = 0
    · rw [hd] at c2
      clear h
      refine PuH.intro Tryz.func52 rfl (by kernel_rfl) fun C hC => ?_
      repeat (refine A1 ⟨?_⟩; intros)
      refine Wo (ov_callT c0 rfl (by repeat (first | exact List.mem_cons_self | apply List.mem_cons_of_mem))) ?_
      repeat (first | (refine A1 ⟨?_⟩; intros) | (refine Wcx (c1) ?_) | (refine Wdcx (c1) ?_) | (refine Wcgx (c1) ?_) | (refine Wdcgx (c1) ?_) | (refine Wcx (c2) ?_) | (refine Wdcx (c2) ?_) | (refine Wcgx (c2) ?_) | (refine Wdcgx (c2) ?_))
      refine WfX c4 (fun _ _ h => h.elim) ?_ (hs := Tk.skip _ (Tk.skip _ (Tk.cons (HDel.here _) (Tk.nil _))))
      rintro _ _ hx
      rw [hC]
      exact hx
    · have hk : a.k ≠ 1 := by omega
      clear h
      refine PuH.intro Tryz.func52 rfl (by kernel_rfl) fun C hC => ?_
      repeat (refine A1 ⟨?_⟩; intros)
      refine Wo (ov_callT c0 rfl (by repeat (first | exact List.mem_cons_self | apply List.mem_cons_of_mem))) ?_
      repeat (first | (refine A1 ⟨?_⟩; intros) | (refine Wcx (c1) ?_) | (refine Wdcx (c1) ?_) | (refine Wcgx (c1) ?_) | (refine Wdcgx (c1) ?_) | (refine Wcx (c2) ?_) | (refine Wdcx (c2) ?_) | (refine Wcgx (c2) ?_) | (refine Wdcgx (c2) ?_))
      refine WfX c4 (fun _ _ h => h.elim) ?_ (hs := Tk.skip _ (Tk.skip _ (Tk.cons (HDel.here _) (Tk.nil _))))
      rintro _ _ hx
      rw [hC]
      exact hx
  · have hg : gkind a.t = gkQ a.t := if_neg hq
    have hk : a.k ≠ 1 := by omega
    clear h
    refine PuH.intro Tryz.func52 rfl (by kernel_rfl) fun C hC => ?_
    repeat (refine A1 ⟨?_⟩; intros)
    refine Wo (ov_callT c0 rfl (by repeat (first | exact List.mem_cons_self | apply List.mem_cons_of_mem))) ?_
    repeat (first | (refine A1 ⟨?_⟩; intros) | (refine Wcx (c1) ?_) | (refine Wdcx (c1) ?_) | (refine Wcgx (c1) ?_) | (refine Wdcgx (c1) ?_))
    refine WfX c4 (fun _ _ h => h.elim) ?_ (hs := Tk.skip _ (Tk.skip _ (Tk.cons (HDel.here _) (Tk.nil _))))
    rintro _ _ hx
    rw [hC]
    exact hx
set_option maxHeartbeats 8000000 in
theorem gstatement_2 [Sent 3] (p n : Nat) (hn : 1000 ≤ n) (hn2 : n ≤ 1000000000) (a : Tok) (r : List Tok) (hl : r.length ≤ 90000) (s0 : SV) (hs : CO s0 [s0]) (h : gkind a.t ≠ 0) (hk : a.k = 1) :
    PuH Tryz.prog 52 [ptrP p, lit (.int .i64 (n : Nat))] [(p, psT, psC (a :: r) 0 s0)] (fun _ _ => False) (fun pv _ => pv = erSV (ger 2 (a :: r))) := by
  have c0 := pnext_pu s0 hs a r 0 (by omega)
  have c1 := gqueries_pu a.t
  have c2 := gdefinitions_pu a.t
  have c4 := gfail_pu s0 hs p a r 0 (by omega) 2
  by_cases hq : gkQ a.t = 0
  · have hg : gkind a.t = gkD a.t := if_pos hq
    rw [hg] at h
    rw [hq] at c1
    refine PuH.intro Tryz.func52 rfl (by kernel_rfl) fun C hC => ?_
    repeat (refine A1 ⟨?_⟩; intros)
    refine Wo (ov_callT c0 rfl (by repeat (first | exact List.mem_cons_self | apply List.mem_cons_of_mem))) ?_
    repeat (first | (refine A1 ⟨?_⟩; intros) | (refine Wcx (c1) ?_) | (refine Wdcx (c1) ?_) | (refine Wcgx (c1) ?_) | (refine Wdcgx (c1) ?_) | (refine Wcx (c2) ?_) | (refine Wdcx (c2) ?_) | (refine Wcgx (c2) ?_) | (refine Wdcgx (c2) ?_))
    refine WfX c4 (fun _ _ h => h.elim) ?_ (hs := Tk.skip _ (Tk.skip _ (Tk.cons (HDel.here _) (Tk.nil _))))
    rintro _ _ hx
    rw [hC]
    exact hx
  · have hg : gkind a.t = gkQ a.t := if_neg hq
    refine PuH.intro Tryz.func52 rfl (by kernel_rfl) fun C hC => ?_
    repeat (refine A1 ⟨?_⟩; intros)
    refine Wo (ov_callT c0 rfl (by repeat (first | exact List.mem_cons_self | apply List.mem_cons_of_mem))) ?_
    repeat (first | (refine A1 ⟨?_⟩; intros) | (refine Wcx (c1) ?_) | (refine Wdcx (c1) ?_) | (refine Wcgx (c1) ?_) | (refine Wdcgx (c1) ?_))
    refine WfX c4 (fun _ _ h => h.elim) ?_ (hs := Tk.skip _ (Tk.skip _ (Tk.cons (HDel.here _) (Tk.nil _))))
    rintro _ _ hx
    rw [hC]
    exact hx
theorem gstatement_pu [Sent 4] [Sent 3] [Sent 5] [Sent 7] (p n : Nat) (hn : n ≤ 1000000) (a : Tok) (r : List Tok) (hG : GOk (a :: r)) (hl : r.length ≤ 90000) (s0 : SV) (hs : CO s0 [s0]) :
    PuH Tryz.prog 52 [ptrP p, lit (.int .i64 (n : Nat))] [(p, psT, psC (a :: r) 0 s0)] (StR n p (a :: r)) (fun pv _ => ∃ e, gstm n (a :: r) = .error e ∧ pv = erSV e) := by
  by_cases h1 : gkind a.t = 0 ∨ a.k ≠ 1
  · exact (gstatement_1 p n a r hl s0 hs h1).mono (fun _ _ h => h.elim) fun _ _ h => ⟨_, gstm_e1 h1, h⟩
  have hk : a.k = 1 := Classical.byContradiction fun h => h1 (.inr h)
  have hg : gkind a.t ≠ 0 := fun h => h1 (.inl h)
  by_cases h2 : 1000 ≤ n
  · exact (gstatement_2 p n h2 (by omega) a r hl s0 hs hg hk).mono (fun _ _ h => h.elim) fun _ _ h => ⟨_, gstm_e2 h1 h2, h⟩
  by_cases hq : gkQ a.t = 0
  · have hgd : gkind a.t = gkD a.t := if_pos hq
    by_cases hd : gkD a.t = 1
    · exact gstatement_b p n (by omega) a r hG hl s0 hs hq hd hk
    · exact gstatement_d p n (by omega) a r hG hl s0 hs hq hd (by omega) hk
  · exact gstatement_q p n (by omega) a r hG hl s0 hs hq hk
theorem stx_len (s : Stm) : (stx s).length = 19 := rfl
structure SsSt where
  f : Nat
  ts : List Tok
  ss : List Stm
  s : SV
  Hs : LH
  s1 : SV
structure SsOk (ts0 : List Tok) (y : SsSt) : Prop where
  gok : GOk y.ts
  len : y.ts.length < y.f
  cnt : y.ss.length + y.ts.length ≤ 90000
  own : Own stT 19 y.ss.length (y.ss.map stx).flatten y.s y.Hs
  co : CO y.s1 [y.s1]
  eq : gstmsF gF 0 ts0 = match gstmsF y.f y.ss.length y.ts with
    | .error e => .error e
    | .ok tt => .ok (y.ss ++ tt)
section
variable {α : Type} {p : α} {x : List α}
theorem permK : (p :: x).Perm (x ++ [p]) := List.perm_append_comm (l₁ := [p]) (l₂ := x)
end
set_option maxHeartbeats 8000000 in
theorem gscript1_pu [Sent 4] [Sent 3] [Sent 5] [Sent 7] (p : Nat) (ts : List Tok) (hG : GOk ts) (hl : ts.length ≤ 90000) (s0 : SV) (hs : CO s0 [s0]) :
    PuH Tryz.prog 50 [ptrP p] [(p, psT, psC ts 0 s0)] (fun v H => ∃ ss e s1 Hs, gstmsF gF 0 ts = .ok ss ∧ ss.length ≤ 90000 ∧ e.k = 0 ∧ CO s1 [s1] ∧ Own stT 19 ss.length (ss.map stx).flatten v Hs ∧ H = (p, psT, psC [e] 0 s1) :: Hs)
      (fun pv _ => ∃ e, gstmsF gF 0 ts = .error e ∧ pv = erSV e) := by
  have hgF := gF_eq
  refine PuH.intro Tryz.func50 rfl (by kernel_rfl) fun C hC => ?_
  repeat (refine A1 ⟨?_⟩; intros)
  refine WP.loopS (ι := SsSt) (SsOk ts) (fun y => y.ts.length) (fun y => fm [(0, ptrP p), (3, y.s)]) (fun y => (p, psT, psC y.ts 0 y.s1) :: y.Hs)
    ⟨gF, ts, [], lit (.slice none 0 0), [], s0⟩ ⟨hG, by simp only; omega, by simp only [List.length_nil]; omega, Own.nil _ _, hs, by
      simp only [List.length_nil, List.nil_append]
      cases gstmsF gF 0 ts <;> rfl⟩ (by (repeat (first | exact LeF.nil _ | refine LeF.cons (Le.refl _) ?_ | refine LeF.cons (Le.int (by omega)) ?_))) (List.Sublist.refl _) ?_
  rintro ⟨f', ts', ss, s, Hs, s1⟩ ⟨hG', hf', hcnt, hown, hco1, heq⟩ K hK
  simp only at hG' hf' hcnt hown hco1 heq ⊢
  obtain ⟨a, r, rfl, -⟩ := hG'.cons
  simp only [List.length_cons] at hf' hcnt
  obtain ⟨f', rfl⟩ : ∃ g, f' = g + 1 := ⟨f' - 1, by omega⟩
  have hco := hown.co
  have c0 := pnext_pu s1 hco1 a r 0 (by omega)
  rw [stms_succ, ← rstm_eq] at heq
  by_cases hk : a.k = 0
  · rw [if_pos (show (hd (a :: r)).k = 0 from hk)] at heq
    simp only [List.append_nil] at heq
    have hr := hG'.end hk
    subst hr
    clear hK
    repeat (refine A1 ⟨?_⟩; intros)
    refine Wo (ov_callT c0 rfl (by repeat (first | exact List.mem_cons_self | apply List.mem_cons_of_mem))) ?_
    repeat (refine A1 ⟨?_⟩; intros)
    exact endHR _ _ (end1 (RV.tmp (s := s) rfl) (Le.refl _)) (List.Sublist.refl _) ⟨ss, a, s1, Hs, heq, by omega, hk, hco1, hown, rfl⟩
  · rw [if_neg (show ¬ (hd (a :: r)).k = 0 from hk)] at heq
    have c1 := gstatement_pu p ss.length (by omega) a r hG' (by omega) s1 hco1
    unfold StR at c1
    repeat (refine A1 ⟨?_⟩; intros)
    refine Wo (ov_callT c0 rfl (by repeat (first | exact List.mem_cons_self | apply List.mem_cons_of_mem))) ?_
    repeat (refine A1 ⟨?_⟩; intros)
    refine Wo (ov_lenOwn hown rfl) ?_
    refine WfX c1 ?_ ?_ (hs := Tk.cons (HDel.here _) (Tk.nil _))
    · rintro _ _ ⟨s', t1, s2, e1, g1, hco2, rfl, rfl⟩
      rw [e1] at heq
      simp only at heq
      have hlt := stm_len (by rw [← rstm_eq]; exact e1)
      simp only [List.length_cons] at hlt
      refine Wo (ov_bsN (s := ag (stx s')) (ds := stx s') rfl inferInstance) ?_
      refine WPL.appOwnS hown rfl rfl (Spl.app _ _) rfl (by decide) (by omega) (by decide) (fun s3 H3 hown3 => ?_) rfl
      have hco3 := hown3.co
      refine WPL.perm permK.symm ?_
      have hgo := fun F' H'' => hK F' H'' ⟨f', t1, ss ++ [s'], s3, H3, s2⟩ ⟨g1, by simp only; omega, by simp only [List.length_append, List.length_singleton]; omega, by
        simp only
        rw [flat_snoc, List.length_append, List.length_singleton]; exact hown3, hco2, by
        simp only
        rw [heq, List.length_append, List.length_singleton]
        cases gstmsF f' (ss.length + 1) t1 with
        | error e => rfl
        | ok tt => simp⟩ (by simp only [List.length_cons]; omega)
      clear hK heq hown hown3 c0 c1
      repeat (refine A1 ⟨?_⟩; intros)
      exact hgo _ _ (by (repeat (first | exact LeF.nil _ | refine LeF.cons (Le.refl _) ?_ | refine LeF.cons (Le.int (by omega)) ?_))) (List.Sublist.refl _)
    · rintro _ _ ⟨e, e1, hx⟩
      rw [hC]
      exact ⟨e, by rw [heq, e1], hx⟩
theorem plevels [Sent 4] [Sent 3] (p : Nat) : ∀ f, Lv 144 p f 1 ∧ Lv 199 p f 2 ∧ Lv 253 p f 3 := by
  intro f
  induction f using Nat.strongRecOn with
  | _ f ih =>
    cases f with
    | zero =>
      refine ⟨fun ts d ns H hT _ _ hf _ => ?_, fun ts d ns H hT _ _ hf _ => ?_, fun ts d ns H hT _ _ hf _ => ?_⟩ <;>
      · have := hT.pos
        omega
    | succ f => exact ⟨psum_of fun f' h => (ih f' (by omega)).2.1, pprod_of fun f' h => (ih f' (by omega)).2.2, pfactor_of (ih f (by omega)).2.2 (ih f (by omega)).1⟩
theorem pexpression_pu [Sent 4] [Sent 3] (p : Nat) (ts : List Tok) (hT : TOk ts) (hl : ts.length ≤ 100000) :
    PuH Tryz.prog 90 [ptrP p] [(p, psT, psC ts 0 (lit (.slice none 0 0)))]
      (fun v H' => ∃ A x ts' Hs, prs (8 * ts.length + 8) 1 0 0 ts none = some (A, x, ts') ∧ Own exPT 19 A.length (A.map ndx).flatten v Hs ∧ H' = (p, psT, psC ts' 0 v) :: Hs)
      (fun pv _ => prs (8 * ts.length + 8) 1 0 0 ts none = none ∧ isE pv) := by
  have c := (plevels p (8 * ts.length + 8)).1 ts 0 [] _ hT (by omega) (by simp; omega) (by omega) ⟨_, _, Own.nil exPT 19, rfl⟩
  unfold LvR LvX at c
  simp only [List.length_nil, List.nil_append] at c
  refine PuH.intro Tryz.func90 rfl (by kernel_rfl) fun C hC => ?_
  repeat (refine A1 ⟨?_⟩; intros)
  refine WfX c ?_ ?_
  · rintro _ _ ⟨A, x, ts', hp, rfl, s, Hs, hown, rfl⟩
    have hco := hown.co
    simp only [List.cons_append, List.nil_append, List.append_nil]
    repeat (refine A1 ⟨?_⟩; intros)
    exact endHR _ _ (end1 (RV.tmp rfl) (Le.refl _)) (List.Sublist.refl _) ⟨A, x, ts', Hs, hp, hown, rfl⟩
  · rintro _ _ hx
    rw [hC]
    exact hx
end Go.Ab
