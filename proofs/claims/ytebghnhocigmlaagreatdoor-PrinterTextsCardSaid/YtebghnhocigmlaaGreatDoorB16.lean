/- Texts laid one behind the other: Atoi, AtoiB, AtoiC, GPT, GPS, ParseE, Def, Read, GLexY, GLexG, ReadS, Same. -/
import Derived.Test.YtebghnhocigmlaaGreatDoorB15
import Derived.Test.YtebghnhocigmlaaGreatDoorB12
import Derived.Test.YtebghnhocigmlaaGreatDoorB03
import Derived.Test.YtebghnhocigmlaaGreatDoorB11
import Derived.Test.YtebghnhocigmlaaGreatDoorB14
import Derived.Lib.BufferWrite
import Derived.LaidEql
import Derived.Test.YtebghnhocigmlaaGreatDoorB10
import Derived.Defers
import Derived.Recover
import Derived.Test.YtebghnhocigmlaaGreatDoorB13
set_option linter.unusedSectionVars false
set_option linter.unusedVariables false
set_option linter.unusedSimpArgs false
namespace Go.Ab
open Go.Proofs
variable [Base]
set_option maxHeartbeats 4000000 in
theorem iatoi_f (l : List UInt8) (h : allD l) (hne : l ≠ []) (hl : l.length ≤ 18) : Pu Tryz.prog 206 [str l] (Ab.tup [lit (.int .i64 (dcv l)), lit .nilIface]) := by
  have hpos : 0 < l.length := List.length_pos_iff.2 hne
  have h0 := h.at hpos
  have e45 : decide (((l.getD 0 0).toNat : Int) = 45) = false := decide_eq_false (by omega)
  have e43 : decide (((l.getD 0 0).toNat : Int) = 43) = false := decide_eq_false (by omega)
  refine Pu.intro Tryz.func206 rfl (by kernel_rfl) fun C => ?_
  repeat (refine A1 ⟨?_⟩; intros)
  rw [e45]
  repeat (refine A1 ⟨?_⟩; intros)
  rw [e43]
  repeat (refine A1 ⟨?_⟩; intros)
  refine Wo (ov_bytes (e := 5) (l := l) (by kernel_rfl) (by kernel_rfl) (by kernel_rfl) rfl (by omega)) ?_
  have hbl : (bys l).length = l.length := by unfold bys; simp
  repeat (refine A1 ⟨?_⟩; intros)
  refine WP.loopS (ι := Nat) (fun i => i ≤ l.length) (fun i => l.length - i)
    (fun i => fm [(5, str l), (6, lit (.int .i64 (dcv (l.take i)))), (47, sl (bys l) l.length), (48, lit (.int .i64 l.length)), (49, lit (.int .i64 i))]) (fun _ => []) 0 (Nat.zero_le _) (by (repeat (first | exact LeF.nil _ | refine LeF.cons (Le.refl _) ?_ | refine LeF.cons (Le.int (by omega)) ?_))) (List.Sublist.refl _) ?_
  intro i hi K hK
  by_cases hlt : i < l.length
  · have hat := h.at hlt
    have hts := dcv_take_succ hlt
    have hb9 := dcv_lt (h.take i)
    have hgo := fun F' H'' => hK F' H'' (i + 1) hlt (by omega)
    rw [hts] at hgo
    have hcell : ((bys l).drop (i * 1)).take 1 = [lit (.int .u8 ((l.getD i 0).toNat : Nat))] := by
      unfold bys
      rw [Nat.mul_one, ← List.map_drop, ← List.map_take, List.drop_eq_getElem_cons hlt, List.take_succ_cons, List.take_zero, List.map_cons, List.map_nil, List.getD, List.getElem?_eq_getElem hlt]
      rfl
    have hp18 : dcv (l.take i) < 10 ^ 17 := by
      refine Nat.lt_of_lt_of_le hb9 (Nat.pow_le_pow_right (by decide) ?_)
      rw [List.length_take]
      omega
    rw [show (10 : Nat) ^ 17 = 100000000000000000 by decide] at hp18
    generalize (l.getD i 0).toNat = ch at *
    generalize dcv (l.take i) = m at *
    clear hts hb9 hK
    repeat (refine A1 ⟨?_⟩; intros)
    refine Wo (ov_idxS (cs' := [lit (.int .u8 (ch : Nat))]) (i := i) rfl rfl (by omega) (by omega) hcell (fun h => by rw [h] at hbl; simp at hbl; omega)) ?_
    repeat (refine A1 ⟨?_⟩; intros)
    exact hgo _ _ (LeF.cons (Le.refl _) (LeF.cons (Le.int (by omega)) (LeF.cons (Le.refl _) (LeF.cons (Le.refl _) (LeF.cons (Le.int (by omega)) (LeF.nil _)))))) (List.Sublist.refl _)
  · have : i = l.length := by omega
    subst this
    clear hK
    rw [List.take_length]
    repeat (refine A1 ⟨?_⟩; intros)
    rw [e45]
    repeat (refine A1 ⟨?_⟩; intros)
    exact endR (end2 (RV.tmp rfl) (RV.tmp rfl) (Le.refl _))
theorem atoi_f (l : List UInt8) (h : allD l) (hne : l ≠ []) (hl : l.length ≤ 18) : Pu Tryz.prog 147 [str l] (Ab.tup [lit (.int .i64 (dcv l)), lit .nilIface]) := by
  have c := iatoi_f l h hne hl
  refine Pu.intro Tryz.func147 rfl (by kernel_rfl) fun C => ?_
  repeat (first | (refine A1 ⟨?_⟩; intros) | (refine Wcx (c) ?_) | (refine Wdcx (c) ?_) | (refine Wcgx (c) ?_) | (refine Wdcgx (c) ?_))
  exact endR (end2 (RV.tmp rfl) (RV.tmp rfl) (Le.refl _))
open Go.Lib Go.RowKit
section
variable {P : Program} {C : Ctx} {n : Nat} {F : Fr} {H : LH} {ops : Array Oper} {K : Fr → LH → Prop} {rest : List Oper} {ty : TypeId} {pos : String} {aft : Array Edge}
theorem bys_cells (l : List UInt8) (m : Mem) : All2 m (bys l) (byteCells l) := by
  unfold bys byteCells
  induction l with
  | nil => trivial
  | cons b l ih => exact ⟨⟨lit_p.2 rfl, rfl⟩, ih⟩
theorem WPL.copyStr {d : Nat} {x y : Operand} {dT sT e T : TypeId} {b c : Nat} {l : List UInt8} {cs : List SV} {H' : LH} (hu : P.underlying dT = some (.slice e)) (hsz : (P.info? e).map (·.size) = some 1) (hx : ev F x = lit (.slice (some ⟨b, 0, none⟩) l.length c)) (hy : ev F y = str l)
    (hl : cs.length = l.length) (hup : HUpd b T cs (bys l) H H') (k : WPL P C n ops rest K (upd F d (lit (.int .i64 (l.length : Nat)))) H') (hd : Nat.blt d n = true) :
    WPL P C n ops (⟨some d, .call ⟨.builtin .copy, #[x, y], #[dT, sT]⟩, ty, pos, aft, none⟩ :: rest) K F H := by
  unfold WPL
  intro a w hs Q hq
  refine wpList_plain rfl fun K' hK' => ?_
  obtain ⟨hdef, hn, m, h1, h2, h3, h4, h5⟩ := hs
  have hpp : ∀ x, (ev F x).p m (a.eval x) := fun x => by
    cases x with
    | tmp t => exact h5 t
    | const v => unfold ev lit; rfl
    | global g => unfold ev lit; rfl
    | func f => unfold ev lit; rfl
  have e0 := hpp x; rw [hx, lit_p] at e0
  have e1 := hpp y; rw [hy] at e1
  have e1' : a.eval y = .string ⟨l.toArray⟩ := by unfold str at e1; exact lit_p.1 e1
  obtain ⟨hmb, arr, hb, hall⟩ := h2.2 _ hup.mem
  have hlen := hall.length
  simp only [Array.length_toList] at hlen
  have hsize : (⟨l.toArray⟩ : ByteArray).size = l.length := by simp [ByteArray.size]
  have hrun := run_copy_row_string (P := P) w dT sT ty e b 0 l.length c ⟨l.toArray⟩ arr T hu hsz hb (by rw [hsize]; exact Nat.le_refl _) (by rw [hsize]; omega)
  unfold Oper.wp
  have hexec : execOp a.eval (⟨some d, .call ⟨.builtin .copy, #[x, y], #[dT, sT]⟩, ty, pos, aft, none⟩ : Oper) = (do let v ← Builtin.copy_ #[dT, sT] ty #[a.eval x, a.eval y]; pure (.value v)) := by
    simp [execOp, resolve, invoke, builtin]
  rw [hexec, e0, e1']
  simp only [Sem.run_bind, hrun, Result.andThen_ok, Sem.run_pure, hsize]
  have hcells : (arr.toList.take 0 ++ byteCells l ++ arr.toList.drop (0 + l.length)) = byteCells l := by
    rw [List.take_zero, List.nil_append, List.drop_eq_nil_of_le (by simp only [Array.length_toList]; omega), List.append_nil]
  have hcells' : (arr.toList.take 0 ++ byteCells (⟨l.toArray⟩ : ByteArray).data.toList ++ arr.toList.drop (0 + l.length)) = byteCells l := hcells
  rw [hcells']
  obtain ⟨q1, q2, q3, q4⟩ := write_ok (w' := w.setRow b (byteCells l).toArray) h1 h2 h3 h4 hup (setRow_heap w b arr _ T _ hb) (fun j hj => setRow_other w b j _ hj) rfl rfl rfl (by simp) (by simpa using bys_cells l m)
  unfold WPL at k
  refine hK' _ _ (k (a.put (some d) (.int .i64 (l.length : Nat))) _ ⟨hdef, by simpa [Act.put] using hn, m, q1, q2, q3, q4, fun t => ?_⟩ Q hq)
  rw [getD_put (Nat.lt_of_lt_of_le (Nat.blt_eq.mp hd) hn)]
  unfold Ab.upd
  by_cases ht : t = d
  · subst ht; rw [if_pos rfl, Nat.beq_refl]; exact lit_p.2 rfl
  · rw [if_neg ht]
    have : Nat.beq t d = false := by
      cases hbb : Nat.beq t d with
      | false => rfl
      | true => exact absurd (Nat.eq_of_beq_eq_true hbb) ht
    rw [this]
    exact h5 t
end
theorem sclone_pu (l : List UInt8) (hne : l ≠ []) (hl : l.length ≤ 1000000) : Pu Tryz.prog 314 [str l] (str l) := by
  have hpos := List.length_pos_iff.2 hne
  refine PuH.toPu ?_
  refine PuH.intro Tryz.func314 rfl (by kernel_rfl) fun C hC => ?_
  repeat (refine A1 ⟨?_⟩; intros)
  refine WPL.make (k := l.length) rfl rfl (by omega) (by omega) rfl fun b => ?_
  repeat (refine A1 ⟨?_⟩; intros)
  refine WPL.copyStr (e := 5) (by kernel_rfl) (by kernel_rfl) rfl rfl (by simp) (.here _) ?_ rfl
  repeat (refine A1 ⟨?_⟩; intros)
  refine WPL.unsafeStr (more := []) (by kernel_rfl) (by kernel_rfl) rfl rfl hne (by omega) (by rw [List.append_nil]; exact .here _) ?_ rfl
  repeat (refine A1 ⟨?_⟩; intros)
  exact endHR _ _ (end1 (RV.tmp rfl) (Le.refl _)) (List.nil_sublist _) rfl
abbrev seT : TypeId := 341
abbrev eRg : Value := .iface seT (.int .i64 1)
section
variable {F : Fr} {H : LH} {T' ty : TypeId} {x y : Operand}
theorem eqIn_int {P : Program} (w : World) (d : Nat) {ti tn : TypeId} {ms : Array (String × TypeId)} {i : TypeInfo} {k : IntKind} (a b : Int) (hi : P.underlying ti = some (.interface ms)) (hn : P.underlying tn = some (.int k)) (hinfo : P.info? tn = some i) (hcomp : i.comparable = true) :
    (Op.equalIn (d + 2) ti (.iface tn (.int k a)) (.iface tn (.int k b))).run P w = .ok (a == b) w := by
  simp [Op.equalIn, run_underlying hi, run_underlying hn, typeInfo, hinfo, hcomp]
theorem eql_se (a b : Int) (w : World) : (Go.binOp .eql 25 (.iface seT (.int .i64 a)) (.iface seT (.int .i64 b))).run Tryz.prog w = .ok (.bool (a == b)) w := by
  have hb : (match (Tryz.prog).underlying 25 with
    | some (.interface _) => true
    | _ => false) = true := by kernel_rfl
  obtain ⟨ms, hi⟩ : ∃ ms, (Tryz.prog).underlying 25 = some (.interface ms) := by
    split at hb
    · next ms h => exact ⟨ms, h⟩
    · cases hb
  have hn : (Tryz.prog).underlying seT = some (.int .i64) := by kernel_rfl
  have hc : (match (Tryz.prog).info? seT with
    | some i => i.comparable
    | none => false) = true := by kernel_rfl
  obtain ⟨i, hinfo, hcomp⟩ : ∃ i, (Tryz.prog).info? seT = some i ∧ i.comparable = true := by
    split at hc
    · next i h => exact ⟨i, h, hc⟩
    · cases hc
  simp only [Go.binOp]
  simp [Op.equal, Op.maxDepth, eqIn_int w 9998 a b hi hn hinfo hcomp]
theorem ov_seEq {a b : Int} {r : Bool} (hx : ev F x = lit (.iface seT (.int .i64 a))) (hy : ev F y = lit (.iface seT (.int .i64 b))) (hr : decide (a = b) = r) : OpV Tryz.prog (.binOp .eql 25 x y T') ty F H (lit (.bool r)) :=
  ov_bin hx hy (fun w => by rw [eql_se, ← hr]; rfl) (fun w => by simp [Go.eqGuard])
end
theorem ov_seNe {F : Fr} {H : LH} {T' ty : TypeId} {x y : Operand} {a b : Int} {r : Bool} (hx : ev F x = lit (.iface seT (.int .i64 a))) (hy : ev F y = lit (.iface seT (.int .i64 b))) (hr : decide (a ≠ b) = r) : OpV Tryz.prog (.binOp .neq 25 x y T') ty F H (lit (.bool r)) :=
  ov_bin hx hy (fun w => by
    have h := eql_se a b w
    simp only [Go.binOp, Sem.run_bind] at h ⊢
    revert h
    generalize (Op.equal 25 (.iface seT (.int .i64 a)) (.iface seT (.int .i64 b))).run Tryz.prog w = q
    intro h
    cases q with
    | ok v w' =>
      simp only [Result.andThen_ok, Sem.run_pure, Result.ok.injEq, Value.bool.injEq] at h ⊢
      obtain ⟨h1, h2⟩ := h
      exact ⟨by rw [h1, ← hr]; simp; exact ibeq a b, h2⟩
    | halt _ _ => simp at h) (fun w => by simp [Go.eqGuard])
theorem rangeError_pu [Sent 7] (f l : List UInt8) (hne : l ≠ []) (hl : l.length ≤ 1000000) : Pu Tryz.prog 260 [str f, str l] (pt [str f, str l, lit (sent 7)]) := by
  have c := sclone_pu l hne hl
  refine Pu.intro Tryz.func260 rfl (by kernel_rfl) fun C => ?_
  repeat (first | (refine A1 ⟨?_⟩; intros) | (refine Wcx (c) ?_) | (refine Wdcx (c) ?_) | (refine Wcgx (c) ?_) | (refine Wdcgx (c) ?_))
  refine Wdo (ov_boxP (sv := ag [str f, str l, lit (sent 7)]) rfl) ?_
  repeat (refine A1 ⟨?_⟩; intros)
  exact endR (end1 (RV.tmp rfl) (Le.refl _))
abbrev errN : SV := ifc 344 Ab.top
theorem toError_pu [Sent 7] (f l : List UInt8) (hne : l ≠ []) (hl : l.length ≤ 1000000) : Pu Tryz.prog 207 [str f, str l, lit (.int .i64 0), lit (.int .i64 0), lit eRg] errN := by
  have c := rangeError_pu f l hne hl
  refine Pu.intro Tryz.func207 rfl (by kernel_rfl) fun C => ?_
  repeat (refine A1 ⟨?_⟩; intros)
  refine Wo (ov_seEq (r := false) rfl rfl (by decide)) ?_
  repeat (refine A1 ⟨?_⟩; intros)
  refine Wo (ov_seEq (r := true) rfl rfl (by decide)) ?_
  repeat (first | (refine A1 ⟨?_⟩; intros) | (refine Wcx (c) ?_) | (refine Wdcx (c) ?_) | (refine Wcgx (c) ?_) | (refine Wdcgx (c) ?_))
  exact endR (end1 (RV.tmp rfl) Le.ifcT)
theorem dcv_mono {l : List UInt8} (k : Nat) : dcv (l.take k) ≤ dcv l := by
  have h := dcv_append (l.take k) (l.drop k)
  rw [List.take_append_drop] at h
  rw [h]
  have : 1 ≤ 10 ^ (l.drop k).length := Nat.one_le_pow _ _ (by decide)
  have := Nat.mul_le_mul_left (dcv (l.take k)) this
  omega
def puR (l : List UInt8) : SV := if dcv l ≤ 18446744073709551615 then Ab.tup [lit (.int .u64 (dcv l : Nat)), lit .nilIface] else Ab.tup [lit (.int .u64 18446744073709551615), lit eRg]
set_option maxHeartbeats 4000000 in
theorem puint_pu (l : List UInt8) (h : allD l) (hne : l ≠ []) (hl : l.length ≤ 1000000) : Pu Tryz.prog 313 [str l, lit (.int .i64 10), lit (.int .i64 0)] (puR l) := by
  have hpos : 0 < l.length := List.length_pos_iff.2 hne
  have hbl : (bys l).length = l.length := by unfold bys; simp
  refine Pu.intro Tryz.func313 rfl (by kernel_rfl) fun C => ?_
  repeat (refine A1 ⟨?_⟩; intros)
  refine Wo (ov_bytes (e := 5) (l := l) (by kernel_rfl) (by kernel_rfl) (by kernel_rfl) rfl (by omega)) ?_
  repeat (refine A1 ⟨?_⟩; intros)
  refine WP.loopS (ι := Nat) (fun i => i ≤ l.length ∧ dcv (l.take i) ≤ 18446744073709551615) (fun i => l.length - i)
    (fun i => fm [(1, lit (.int .i64 10)), (8, lit (.bool false)), (9, str l), (10, lit (.int .u64 1844674407370955162)), (11, lit (.int .u64 18446744073709551615)), (12, lit (.bool false)), (13, lit (.int .u64 (dcv (l.take i) : Nat))), (99, sl (bys l) l.length), (100, lit (.int .i64 l.length)), (101, lit (.int .i64 i))]) (fun _ => []) 0 ⟨Nat.zero_le _, by rw [List.take_zero]; decide⟩ (by (repeat (first | exact LeF.nil _ | refine LeF.cons (Le.refl _) ?_ | refine LeF.cons (Le.int (by omega)) ?_))) (List.Sublist.refl _) ?_
  rintro i ⟨hi, hm⟩ K hK
  by_cases hlt : i < l.length
  · have hat := h.at hlt
    have hts := dcv_take_succ hlt
    have hmo := dcv_mono (l := l) (i + 1)
    have hcell : ((bys l).drop (i * 1)).take 1 = [lit (.int .u8 ((l.getD i 0).toNat : Nat))] := by
      unfold bys
      rw [Nat.mul_one, ← List.map_drop, ← List.map_take, List.drop_eq_getElem_cons hlt, List.take_succ_cons, List.take_zero, List.map_cons, List.map_nil, List.getD, List.getElem?_eq_getElem hlt]
      rfl
    have hgo := fun F' H'' h2 => hK F' H'' (i + 1) ⟨hlt, h2⟩ (by omega)
    rw [hts] at hgo hmo
    generalize (l.getD i 0).toNat = ch at *
    generalize dcv (l.take i) = m at *
    clear hts hK
    by_cases hc : 1844674407370955162 ≤ m
    · have hR : puR l = Ab.tup [lit (.int .u64 18446744073709551615), lit eRg] := if_neg (by omega)
      rw [hR]
      clear hgo hmo
      repeat (refine A1 ⟨?_⟩; intros)
      refine Wo (ov_idxS (cs' := [lit (.int .u8 (ch : Nat))]) (i := i) rfl rfl (by omega) (by omega) hcell (fun h => by rw [h] at hbl; simp at hbl; omega)) ?_
      repeat (refine A1 ⟨?_⟩; intros)
      exact endR (end2 (RV.tmp rfl) (RV.tmp rfl) (Le.refl _))
    · by_cases hov : m * 10 + (ch - 48) ≤ 18446744073709551615
      · replace hgo := fun F' H'' => hgo F' H'' hov
        clear hmo
        repeat (refine A1 ⟨?_⟩; intros)
        refine Wo (ov_idxS (cs' := [lit (.int .u8 (ch : Nat))]) (i := i) rfl rfl (by omega) (by omega) hcell (fun h => by rw [h] at hbl; simp at hbl; omega)) ?_
        repeat (refine A1 ⟨?_⟩; intros)
        exact hgo _ _ (by repeat (first | exact LeF.nil _ | refine LeF.cons (Le.refl _) ?_ | refine LeF.cons (Le.int (by omega)) ?_)) (List.Sublist.refl _)
      · have hR : puR l = Ab.tup [lit (.int .u64 18446744073709551615), lit eRg] := if_neg (by omega)
        rw [hR]
        clear hgo hmo
        repeat (refine A1 ⟨?_⟩; intros)
        refine Wo (ov_idxS (cs' := [lit (.int .u8 (ch : Nat))]) (i := i) rfl rfl (by omega) (by omega) hcell (fun h => by rw [h] at hbl; simp at hbl; omega)) ?_
        repeat (refine A1 ⟨?_⟩; intros)
        exact endR (end2 (RV.tmp rfl) (RV.tmp rfl) (Le.refl _))
  · have : i = l.length := by omega
    subst this
    clear hK
    rw [List.take_length] at hm ⊢
    have hR : puR l = Ab.tup [lit (.int .u64 (dcv l : Nat)), lit .nilIface] := if_pos hm
    rw [hR]
    repeat (refine A1 ⟨?_⟩; intros)
    exact endR (end2 (RV.tmp rfl) (RV.tmp rfl) (Le.refl _))
def piR (l : List UInt8) : SV := if dcv l ≤ 9223372036854775807 then Ab.tup [lit (.int .i64 (dcv l : Nat)), lit .nilIface] else Ab.tup [lit (.int .i64 9223372036854775807), lit eRg]
theorem shl63 : IntKind.u64.wrap (1 * 2 ^ min (Int.toNat 63) IntKind.u64.bits) = 9223372036854775808 := by decide +kernel
set_option maxHeartbeats 4000000 in
theorem pint_pu (l : List UInt8) (h : allD l) (hne : l ≠ []) (hl : l.length ≤ 1000000) : Pu Tryz.prog 258 [str l, lit (.int .i64 10), lit (.int .i64 0)] (piR l) := by
  have hpos : 0 < l.length := List.length_pos_iff.2 hne
  have h0 := h.at hpos
  have c := puint_pu l h hne hl
  have e43 : decide (((l.getD 0 0).toNat : Int) = 43) = false := decide_eq_false (by omega)
  have e45 : decide (((l.getD 0 0).toNat : Int) = 45) = false := decide_eq_false (by omega)
  by_cases h64 : dcv l ≤ 18446744073709551615
  · rw [puR, if_pos h64] at c
    by_cases h63 : dcv l ≤ 9223372036854775807
    · rw [piR, if_pos h63]
      generalize dcv l = m at *
      refine Pu.intro Tryz.func258 rfl (by kernel_rfl) fun C => ?_
      repeat (refine A1 ⟨?_⟩; intros)
      rw [e43]
      repeat (refine A1 ⟨?_⟩; intros)
      rw [e45]
      repeat (first | (refine A1 ⟨?_⟩; intros) | (refine Wcx (c) ?_) | (refine Wdcx (c) ?_) | (refine Wcgx (c) ?_) | (refine Wdcgx (c) ?_))
      rw [shl63, show decide ((9223372036854775808 : Int) ≤ (m : Nat)) = false from decide_eq_false (by omega)]
      repeat (refine A1 ⟨?_⟩; intros)
      exact endR (end2 (RV.tmp rfl) (RV.tmp rfl) (Le.refl _))
    · rw [piR, if_neg h63]
      generalize dcv l = m at *
      refine Pu.intro Tryz.func258 rfl (by kernel_rfl) fun C => ?_
      repeat (refine A1 ⟨?_⟩; intros)
      rw [e43]
      repeat (refine A1 ⟨?_⟩; intros)
      rw [e45]
      repeat (first | (refine A1 ⟨?_⟩; intros) | (refine Wcx (c) ?_) | (refine Wdcx (c) ?_) | (refine Wcgx (c) ?_) | (refine Wdcgx (c) ?_))
      rw [shl63, show decide ((9223372036854775808 : Int) ≤ (m : Nat)) = true from decide_eq_true (by omega)]
      repeat (refine A1 ⟨?_⟩; intros)
      exact endR (end2 (RV.tmp rfl) (RV.tmp rfl) (Le.refl _))
  · rw [puR, if_neg h64] at c
    rw [piR, if_neg (by omega)]
    refine Pu.intro Tryz.func258 rfl (by kernel_rfl) fun C => ?_
    repeat (refine A1 ⟨?_⟩; intros)
    rw [e43]
    repeat (refine A1 ⟨?_⟩; intros)
    rw [e45]
    repeat (first | (refine A1 ⟨?_⟩; intros) | (refine Wcx (c) ?_) | (refine Wdcx (c) ?_) | (refine Wcgx (c) ?_) | (refine Wdcgx (c) ?_))
    refine WgE ?_
    refine Wo (ov_seNe (r := false) rfl rfl (by decide)) ?_
    repeat (refine A1 ⟨?_⟩; intros)
    rw [shl63]
    repeat (refine A1 ⟨?_⟩; intros)
    exact endR (end2 (RV.tmp rfl) (RV.tmp rfl) (Le.refl _))
end Go.Ab
namespace Go.Ab
open Go.Proofs
variable [Base]
def atR (l : List UInt8) : SV := if dcv l ≤ 9223372036854775807 then Ab.tup [lit (.int .i64 (dcv l : Nat)), lit .nilIface] else Ab.tup [lit (.int .i64 9223372036854775807), errN]
theorem dcv_18 {l : List UInt8} (h : allD l) (hl : l.length ≤ 18) : dcv l ≤ 9223372036854775807 := by
  have h1 := dcv_lt h
  have h2 : 10 ^ l.length ≤ 10 ^ 18 := Nat.pow_le_pow_right (by decide) hl
  have h3 : (10 : Nat) ^ 18 = 1000000000000000000 := by decide
  omega
theorem iatoi_l (l : List UInt8) (h : allD l) (hl : 18 < l.length) (hl2 : l.length ≤ 1000000) : Pu Tryz.prog 206 [str l] (piR l) := by
  have hne : l ≠ [] := fun e => by rw [e] at hl; simp at hl
  have c := pint_pu l h hne hl2
  unfold piR at *
  by_cases h63 : dcv l ≤ 9223372036854775807
  · rw [if_pos h63] at c ⊢
    generalize dcv l = m at *
    refine Pu.intro Tryz.func206 rfl (by kernel_rfl) fun C => ?_
    repeat (first | (refine A1 ⟨?_⟩; intros) | (refine Wcx (c) ?_) | (refine Wdcx (c) ?_) | (refine Wcgx (c) ?_) | (refine Wdcgx (c) ?_))
    exact endR (end2 (RV.tmp rfl) (RV.tmp rfl) (Le.refl _))
  · rw [if_neg h63] at c ⊢
    refine Pu.intro Tryz.func206 rfl (by kernel_rfl) fun C => ?_
    repeat (first | (refine A1 ⟨?_⟩; intros) | (refine Wcx (c) ?_) | (refine Wdcx (c) ?_) | (refine Wcgx (c) ?_) | (refine Wdcgx (c) ?_))
    exact endR (end2 (RV.tmp rfl) (RV.tmp rfl) (Le.refl _))
theorem atoi_pu [Sent 7] (l : List UInt8) (h : allD l) (hne : l ≠ []) (hl2 : l.length ≤ 1000000) : Pu Tryz.prog 147 [str l] (atR l) := by
  unfold atR
  by_cases hl : l.length ≤ 18
  · rw [if_pos (dcv_18 h hl)]
    exact atoi_f l h hne hl
  · have c := iatoi_l l h (by omega) hl2
    have c2 := toError_pu [65, 116, 111, 105] l hne hl2
    unfold piR at c
    by_cases h63 : dcv l ≤ 9223372036854775807
    · rw [if_pos h63] at c ⊢
      generalize dcv l = m at *
      refine Pu.intro Tryz.func147 rfl (by kernel_rfl) fun C => ?_
      repeat (first | (refine A1 ⟨?_⟩; intros) | (refine Wcx (c) ?_) | (refine Wdcx (c) ?_) | (refine Wcgx (c) ?_) | (refine Wdcgx (c) ?_))
      exact endR (end2 (RV.tmp rfl) (RV.tmp rfl) (Le.refl _))
    · rw [if_neg h63] at c ⊢
      refine Pu.intro Tryz.func147 rfl (by kernel_rfl) fun C => ?_
      repeat (first | (refine A1 ⟨?_⟩; intros) | (refine Wcx (c) ?_) | (refine Wdcx (c) ?_) | (refine Wcgx (c) ?_) | (refine Wdcgx (c) ?_) | (refine Wcx (c2) ?_) | (refine Wdcx (c2) ?_) | (refine Wcgx (c2) ?_) | (refine Wdcgx (c2) ?_))
      exact endR (end2 (RV.tmp rfl) (RV.tmp rfl) (Le.refl _))
set_option maxHeartbeats 4000000 in
theorem gbudget_pu [Sent 4] [Sent 3] [Sent 7] (s : SV) (hco : CO s [s]) (p : Nat) (ts : List Tok) (hG : GOk ts) (d : Nat) (hr : ts.length ≤ 1000000) : PuH Tryz.prog 98 [lit (.pointer (some ⟨p, 0, none⟩))] [(p, psT, psC ts d s)]
    (fun v H => ∃ b ts', gbudget ts = .ok (b, ts') ∧ GOk ts' ∧ b ≤ 65536 ∧ v = lit (.int .i64 (b : Nat)) ∧ H = [(p, psT, psC ts' d s)]) (fun pv _ => ∃ e, gbudget ts = .error e ∧ pv = erSV e) := by
  obtain ⟨a, r, rfl, hga⟩ := hG.cons
  simp only [List.length_cons] at hr
  have c1 := gnumber_pu s hco p a r d (by omega)
  refine PuH.intro Tryz.func98 rfl (by kernel_rfl) fun C hC => ?_
  repeat (refine A1 ⟨?_⟩; intros)
  refine WfX c1 ?_ ?_ (hs := Tk.cons (HDel.here _) (Tk.nil _))
  · rintro _ _ ⟨hk, rfl, rfl⟩
    have hn : gnum (a :: r) = .ok (a.t, r) := by unfold gnum; rw [if_pos (show (hd (a :: r)).k = 2 from hk)]; rfl
    have hd2 : allD a.t ∧ a.t ≠ [] ∧ a.t.length ≤ 4096 := by
      rcases hga with ⟨h, _⟩ | h | ⟨_, h1, h2, h3⟩ | h
      · omega
      · omega
      · exact ⟨h1, h2, h3⟩
      · omega
    have g1 : GOk r := hG.tail (by omega)
    have c2 := atoi_pu a.t hd2.1 hd2.2.1 (by omega)
    have c4 := gfail_pu s hco p a r d (by omega) 2
    unfold atR at c2
    simp only [List.cons_append, List.nil_append]
    by_cases h63 : dcv a.t ≤ 9223372036854775807
    · rw [if_pos h63] at c2
      by_cases hb : 65536 < dcv a.t
      · have hres : gbudget (a :: r) = .error (ger 2 (a :: r)) := by unfold gbudget; rw [hn]; exact if_pos hb
        generalize dcv a.t = m at *
        repeat (first | (refine A1 ⟨?_⟩; intros) | (refine Wcx (c2) ?_) | (refine Wdcx (c2) ?_) | (refine Wcgx (c2) ?_) | (refine Wdcgx (c2) ?_))
        refine WfX c4 ?_ ?_ (hs := Tk.cons (HDel.here _) (Tk.nil _))
        · rintro _ _ ⟨⟩
        · rintro _ _ hx
          rw [hC]
          exact ⟨_, hres, hx⟩
      · have hres : gbudget (a :: r) = .ok (dcv a.t, r) := by unfold gbudget; rw [hn]; exact if_neg hb
        generalize dcv a.t = m at *
        repeat (first | (refine A1 ⟨?_⟩; intros) | (refine Wcx (c2) ?_) | (refine Wdcx (c2) ?_) | (refine Wcgx (c2) ?_) | (refine Wdcgx (c2) ?_))
        exact endHR _ _ (end1 (RV.tmp rfl) (Le.refl _)) (List.Sublist.refl _) ⟨m, r, hres, g1, by omega, rfl, rfl⟩
    · rw [if_neg h63] at c2
      have hres : gbudget (a :: r) = .error (ger 2 (a :: r)) := by unfold gbudget; rw [hn]; exact if_pos (by omega)
      repeat (first | (refine A1 ⟨?_⟩; intros) | (refine Wcx (c2) ?_) | (refine Wdcx (c2) ?_) | (refine Wcgx (c2) ?_) | (refine Wdcgx (c2) ?_))
      refine Wo (ov_ineF (s := Ab.top) (by kernel_rfl) rfl) ?_
      repeat (refine A1 ⟨?_⟩; intros)
      refine WfX c4 ?_ ?_ (hs := Tk.cons (HDel.here _) (Tk.nil _))
      · rintro _ _ ⟨⟩
      · rintro _ _ hx
        rw [hC]
        exact ⟨_, hres, hx⟩
  · rintro _ _ ⟨hk, hx⟩
    rw [hC]
    exact ⟨_, by unfold gbudget gnum; rw [if_neg (show ¬(hd (a :: r)).k = 2 from hk)], hx⟩
def semi (x : Except Er (Stm × List Tok)) : Except Er (Stm × List Tok) := match x with
  | .error e => .error e
  | .ok (s, t1) => match gexpect [59] t1 with
    | .error e => .error e
    | .ok t2 => .ok (s, t2)
theorem gstm_q {n : Nat} {a : Tok} {r : List Tok} (h1 : gkQ a.t ≠ 0) (hk : a.k = 1) (hn : n < 1000) : gstm n (a :: r) = semi (gquery (stm0 (gkQ a.t) a) r) := by
  have hg : gkind a.t = gkQ a.t := if_neg h1
  unfold gstm semi
  rw [if_neg (by simp only [hd, List.headD_cons, hg]; omega), if_neg (by omega)]
  simp only [hd, List.headD_cons, hg, if_pos h1, List.tail_cons]
  rfl
theorem gstm_b {n : Nat} {a : Tok} {r : List Tok} (h1 : gkQ a.t = 0) (h2 : gkD a.t = 1) (hk : a.k = 1) (hn : n < 1000) : gstm n (a :: r) = semi (match gbudget r with
    | .error e => .error e
    | .ok (b, t1) => .ok ({ stm0 1 a with bd := b }, t1)) := by
  have hg : gkind a.t = 1 := by unfold gkind; rw [if_pos h1, h2]
  unfold gstm semi
  rw [if_neg (by simp only [hd, List.headD_cons, hg]; omega), if_neg (by omega)]
  simp only [hd, List.headD_cons, hg, h1, List.tail_cons, ne_eq, not_true_eq_false, if_false, if_true]
  rfl
theorem gstm_d {n : Nat} {a : Tok} {r : List Tok} (h1 : gkQ a.t = 0) (h2 : gkD a.t ≠ 1) (h0 : gkD a.t ≠ 0) (hk : a.k = 1) (hn : n < 1000) : gstm n (a :: r) = semi (gdefn (stm0 (gkD a.t) a) r) := by
  have hg : gkind a.t = gkD a.t := by unfold gkind; rw [if_pos h1]
  unfold gstm semi
  rw [if_neg (by simp only [hd, List.headD_cons, hg]; omega), if_neg (by omega)]
  simp only [hd, List.headD_cons, hg, h1, List.tail_cons, ne_eq, not_true_eq_false, if_false, if_neg h2]
  rfl
theorem gstm_e1 {n : Nat} {a : Tok} {r : List Tok} (h : gkind a.t = 0 ∨ a.k ≠ 1) : gstm n (a :: r) = .error (ger 1 (a :: r)) := by
  unfold gstm
  exact if_pos h
theorem gstm_e2 {n : Nat} {a : Tok} {r : List Tok} (h : ¬(gkind a.t = 0 ∨ a.k ≠ 1)) (hn : 1000 ≤ n) : gstm n (a :: r) = .error (ger 2 (a :: r)) := by
  unfold gstm
  rw [if_neg (show ¬(gkind (hd (a :: r)).t = 0 ∨ (hd (a :: r)).k ≠ 1) from h), if_pos hn]
theorem gkQ_le (t : List UInt8) : gkQ t ≤ 15 := by unfold gkQ; repeat (first | omega | split)
theorem gkD_le (t : List UInt8) : gkD t ≤ 5 := by unfold gkD; repeat (first | omega | split)
def StR (n p : Nat) (ts : List Tok) : SV → LH → Prop := fun v H => ∃ s' ts' s1, gstm n ts = .ok (s', ts') ∧ GOk ts' ∧ CO s1 [s1] ∧ v = ag (stx s') ∧ H = [(p, psT, psC ts' 0 s1)]
theorem stm0_low (k : Nat) (a : Tok) : LeL [lit (.int .i64 (k : Nat)), lit (.int .i64 (a.l : Nat)), lit (.int .i64 (a.c : Nat)), lit (.string ⟨#[]⟩), lit (.int .i64 0), lit (.slice none 0 0), lit (.int .i64 0), lit (.slice none 0 0), lit (.bool false), lit (.slice none 0 0), lit (.slice none 0 0), lit (.slice none 0 0), lit (.slice none 0 0),
    lit (.bool false), lit (.slice none 0 0), lit (.slice none 0 0), lit (.bool false), lit (.slice none 0 0), lit (.slice none 0 0)] (stx (stm0 k a)) := by
  repeat (first | exact trivial | refine ⟨?_, ?_⟩ | exact Le.refl _ | exact le_nilK | exact le_nil)
theorem stm0_lowN (k : Nat) (a : Tok) : LeL [lit (.int .i64 (k : Nat)), lit (.int .i64 (a.l : Nat)), lit (.int .i64 (a.c : Nat)), lit (.string ⟨#[]⟩), lit (.int .i64 0), lit (.slice none 0 0), lit (.int .i64 0), lit (.slice none 0 0), lit (.bool false), lit (.slice none 0 0), lit (.slice none 0 0), lit (.slice none 0 0), lit (.slice none 0 0),
    lit (.bool false), lit (.slice none 0 0), lit (.slice none 0 0), lit (.bool false), lit (.slice none 0 0), lit (.slice none 0 0)] (stn (stm0 k a)) := by
  repeat (first | exact trivial | refine ⟨?_, ?_⟩ | exact Le.refl _ | exact le_nilK | exact le_nil)
set_option maxHeartbeats 8000000 in
theorem gstatement_q [Sent 4] [Sent 3] [Sent 5] [Sent 7] (p n : Nat) (hn : n < 1000) (a : Tok) (r : List Tok) (hG : GOk (a :: r)) (hl : r.length ≤ 90000) (s0 : SV) (hs : CO s0 [s0]) (hq : gkQ a.t ≠ 0) (hk : a.k = 1) :
    PuH Tryz.prog 52 [ptrP p, lit (.int .i64 (n : Nat))] [(p, psT, psC (a :: r) 0 s0)] (StR n p (a :: r)) (fun pv _ => ∃ e, gstm n (a :: r) = .error e ∧ pv = erSV e) := by
  have c0 := pnext_pu s0 hs a r 0 (by omega)
  have c1 := gqueries_pu a.t
  have c3 := ptake_pu s0 hs p a r 0 (by omega)
  have hst := gstm_q (r := r) hq hk hn
  have hQ := gkQ_le a.t
  have g1 : GOk r := hG.tail (by omega)
  have c4 := fun b => gquery_pu p b r g1 (by omega) s0 hs (stm0 (gkQ a.t) a) (show gkQ a.t ≤ 100 by omega)
  have hlow := stm0_low (gkQ a.t) a
  have hglen := Nt.query (s := stm0 (gkQ a.t) a) (t := stm0 (gkQ a.t) a) rfl
  have hpf := Pf.query (stm0 (gkQ a.t) a)
  rw [← rquery_eq] at hpf
  unfold StR
  clear hglen hG
  refine PuH.intro Tryz.func52 rfl (by kernel_rfl) fun C hC => ?_
  repeat (refine A1 ⟨?_⟩; intros)
  refine Wo (ov_callT c0 rfl (by repeat (first | exact List.mem_cons_self | apply List.mem_cons_of_mem))) ?_
  repeat (first | (refine A1 ⟨?_⟩; intros) | (refine Wcx (c1) ?_) | (refine Wdcx (c1) ?_) | (refine Wcgx (c1) ?_) | (refine Wdcgx (c1) ?_))
  refine WfT c3 ?_ (hs := Tk.skip _ (Tk.skip _ (Tk.cons (HDel.here _) (Tk.nil _))))
  rintro _ _ ⟨rfl, rfl⟩
  simp only [List.cons_append, List.nil_append]
  repeat (refine A1 ⟨?_⟩; intros)
  refine WPL.lowB (.here _) hlow ?_
  refine WfX (c4 _) ?_ ?_ (hs := Tk.cons (.there _ (.there _ (.there _ (HDel.here _)))) (Tk.cons (HDel.here _) (Tk.nil _)))
  · rintro _ _ ⟨s', t2, s1, hb, g2, hco1, rfl, rfl⟩
    have hlen : t2.length ≤ 100000 := by
      have := hpf.len _ _ _ hb
      omega
    simp only [List.cons_append, List.nil_append]
    clear c0 c1 c3 c4 hlow hpf
    obtain ⟨a2, r2, rfl, -⟩ := g2.cons
    have hl2 : (a2 :: r2).length ≤ 100000 := hlen
    simp only [List.length_cons] at hl2
    have c7 := gexpect_pu s1 hco1 p a2 r2 0 (by omega) [59]
    repeat (refine A1 ⟨?_⟩; intros)
    refine WfX c7 ?_ ?_ (hs := Tk.skip _ (Tk.skip _ (Tk.skip _ (Tk.cons (HDel.here _) (Tk.nil _)))))
    · rintro _ _ ⟨e7, h7, rfl, rfl⟩
      have g7 := g2.next h7
      simp only [List.cons_append, List.nil_append]
      try dsimp only [stx]
      repeat (refine A1 ⟨?_⟩; intros)
      exact endHR _ _ (end1 (RV.cellA rfl (by repeat (first | exact List.mem_cons_self | refine List.mem_cons_of_mem _ ?_)) rfl rfl) (Le.refl _)) (by repeat (first | exact List.nil_sublist _ | refine List.Sublist.cons_cons _ ?_ | refine List.Sublist.cons _ ?_)) ⟨s', r2, s1, by rw [hst, hb]; simp only [semi, e7], g7, hco1, rfl, rfl⟩
    · rintro _ _ ⟨e7, hx⟩
      rw [hC]
      exact ⟨_, by rw [hst, hb]; simp only [semi, e7], hx⟩
  · rintro _ _ ⟨e, hb, hx⟩
    rw [hC]
    exact ⟨e, by rw [hst, hb]; rfl, hx⟩
set_option maxHeartbeats 8000000 in
theorem gstatement_d [Sent 4] [Sent 3] [Sent 5] [Sent 7] (p n : Nat) (hn : n < 1000) (a : Tok) (r : List Tok) (hG : GOk (a :: r)) (hl : r.length ≤ 90000) (s0 : SV) (hs : CO s0 [s0]) (hq : gkQ a.t = 0) (h2 : gkD a.t ≠ 1) (h0 : gkD a.t ≠ 0) (hk : a.k = 1) :
    PuH Tryz.prog 52 [ptrP p, lit (.int .i64 (n : Nat))] [(p, psT, psC (a :: r) 0 s0)] (StR n p (a :: r)) (fun pv _ => ∃ e, gstm n (a :: r) = .error e ∧ pv = erSV e) := by
  have c0 := pnext_pu s0 hs a r 0 (by omega)
  have c1 := gqueries_pu a.t
  have c2 := gdefinitions_pu a.t
  rw [hq] at c1
  have c3 := ptake_pu s0 hs p a r 0 (by omega)
  have hst := gstm_d (r := r) hq h2 h0 hk hn
  have hQ := gkD_le a.t
  have g1 : GOk r := hG.tail (by omega)
  have c4 := fun b => gdefn_pu p b r g1 (by omega) s0 hs (stm0 (gkD a.t) a) (show gkD a.t ≤ 100 by omega) rfl
  have hlow := stm0_lowN (gkD a.t) a
  have hpf := Pf.defn (stm0 (gkD a.t) a)
  rw [← rdefn_eq] at hpf
  unfold StR
  clear hG
  refine PuH.intro Tryz.func52 rfl (by kernel_rfl) fun C hC => ?_
  repeat (refine A1 ⟨?_⟩; intros)
  refine Wo (ov_callT c0 rfl (by repeat (first | exact List.mem_cons_self | apply List.mem_cons_of_mem))) ?_
  repeat (first | (refine A1 ⟨?_⟩; intros) | (refine Wcx (c1) ?_) | (refine Wdcx (c1) ?_) | (refine Wcgx (c1) ?_) | (refine Wdcgx (c1) ?_) | (refine Wcx (c2) ?_) | (refine Wdcx (c2) ?_) | (refine Wcgx (c2) ?_) | (refine Wdcgx (c2) ?_))
  refine WfT c3 ?_ (hs := Tk.skip _ (Tk.skip _ (Tk.cons (HDel.here _) (Tk.nil _))))
  rintro _ _ ⟨rfl, rfl⟩
  simp only [List.cons_append, List.nil_append]
  repeat (refine A1 ⟨?_⟩; intros)
  refine WPL.lowB (.here _) hlow ?_
  refine WfX (c4 _) ?_ ?_ (hs := Tk.cons (.there _ (.there _ (.there _ (HDel.here _)))) (Tk.cons (HDel.here _) (Tk.nil _)))
  · rintro _ _ ⟨s', t2, s1, hb, g2, hco1, rfl, rfl⟩
    have hlen : t2.length ≤ 100000 := by
      have := hpf.len _ _ _ hb
      omega
    simp only [List.cons_append, List.nil_append]
    clear c0 c1 c2 c3 c4 hlow hpf
    obtain ⟨a2, r2, rfl, -⟩ := g2.cons
    have hl2 : (a2 :: r2).length ≤ 100000 := hlen
    simp only [List.length_cons] at hl2
    have c7 := gexpect_pu s1 hco1 p a2 r2 0 (by omega) [59]
    repeat (refine A1 ⟨?_⟩; intros)
    refine WfX c7 ?_ ?_ (hs := Tk.skip _ (Tk.skip _ (Tk.skip _ (Tk.cons (HDel.here _) (Tk.nil _)))))
    · rintro _ _ ⟨e7, h7, rfl, rfl⟩
      have g7 := g2.next h7
      simp only [List.cons_append, List.nil_append]
      try dsimp only [stx]
      repeat (refine A1 ⟨?_⟩; intros)
      exact endHR _ _ (end1 (RV.cellA rfl (by repeat (first | exact List.mem_cons_self | refine List.mem_cons_of_mem _ ?_)) rfl rfl) (Le.refl _)) (by repeat (first | exact List.nil_sublist _ | refine List.Sublist.cons_cons _ ?_ | refine List.Sublist.cons _ ?_)) ⟨s', r2, s1, by rw [hst, hb]; simp only [semi, e7], g7, hco1, rfl, rfl⟩
    · rintro _ _ ⟨e7, hx⟩
      rw [hC]
      exact ⟨_, by rw [hst, hb]; simp only [semi, e7], hx⟩
  · rintro _ _ ⟨e, hb, hx⟩
    rw [hC]
    exact ⟨e, by rw [hst, hb]; rfl, hx⟩
set_option maxHeartbeats 8000000 in
theorem gstatement_b [Sent 4] [Sent 3] [Sent 5] [Sent 7] (p n : Nat) (hn : n < 1000) (a : Tok) (r : List Tok) (hG : GOk (a :: r)) (hl : r.length ≤ 90000) (s0 : SV) (hs : CO s0 [s0]) (hq : gkQ a.t = 0) (h2 : gkD a.t = 1) (hk : a.k = 1) :
    PuH Tryz.prog 52 [ptrP p, lit (.int .i64 (n : Nat))] [(p, psT, psC (a :: r) 0 s0)] (StR n p (a :: r)) (fun pv _ => ∃ e, gstm n (a :: r) = .error e ∧ pv = erSV e) := by
  have c0 := pnext_pu s0 hs a r 0 (by omega)
  have c1 := gqueries_pu a.t
  have c2 := gdefinitions_pu a.t
  rw [hq] at c1
  have c3 := ptake_pu s0 hs p a r 0 (by omega)
  have hst := gstm_b (r := r) hq h2 hk hn
  rw [h2] at c2
  have g1 : GOk r := hG.tail (by omega)
  have c4 := gbudget_pu s0 hs p r g1 0 (by omega)
  have hlow := stm0_low 1 a
  have hpf := Pf.numC (fun n => decide (65536 < dcv n)) 2 dcv
  unfold StR
  clear hG
  refine PuH.intro Tryz.func52 rfl (by kernel_rfl) fun C hC => ?_
  repeat (refine A1 ⟨?_⟩; intros)
  refine Wo (ov_callT c0 rfl (by repeat (first | exact List.mem_cons_self | apply List.mem_cons_of_mem))) ?_
  repeat (first | (refine A1 ⟨?_⟩; intros) | (refine Wcx (c1) ?_) | (refine Wdcx (c1) ?_) | (refine Wcgx (c1) ?_) | (refine Wdcgx (c1) ?_) | (refine Wcx (c2) ?_) | (refine Wdcx (c2) ?_) | (refine Wcgx (c2) ?_) | (refine Wdcgx (c2) ?_))
  refine WfT c3 ?_ (hs := Tk.skip _ (Tk.skip _ (Tk.cons (HDel.here _) (Tk.nil _))))
  rintro _ _ ⟨rfl, rfl⟩
  simp only [List.cons_append, List.nil_append]
  repeat (refine A1 ⟨?_⟩; intros)
  refine WPL.lowB (.here _) hlow ?_
  dsimp only [stx, stm0]
  repeat (refine A1 ⟨?_⟩; intros)
  refine WfX c4 ?_ ?_ (hs := Tk.skip _ (Tk.skip _ (Tk.skip _ (Tk.cons (HDel.here _) (Tk.nil _)))))
  · rintro _ _ ⟨bd, t2, hb, g2, hbd, rfl, rfl⟩
    have hlen : t2.length ≤ 100000 := by
      have h := hb
      rw [rbudget_eq] at h
      have := hpf.len _ _ _ h
      omega
    have s1eq : CO s0 [s0] := hs
    obtain ⟨s1, rfl⟩ : ∃ s1, s1 = s0 := ⟨_, rfl⟩
    have hco1 := hs
    simp only [List.cons_append, List.nil_append]
    clear c0 c1 c2 c3 c4 hlow hpf
    obtain ⟨a2, r2, rfl, -⟩ := g2.cons
    have hl2 : (a2 :: r2).length ≤ 100000 := hlen
    simp only [List.length_cons] at hl2
    have c7 := gexpect_pu s1 hco1 p a2 r2 0 (by omega) [59]
    repeat (refine A1 ⟨?_⟩; intros)
    refine WfX c7 ?_ ?_ (hs := Tk.skip _ (Tk.skip _ (Tk.skip _ (Tk.cons (HDel.here _) (Tk.nil _)))))
    · rintro _ _ ⟨e7, h7, rfl, rfl⟩
      have g7 := g2.next h7
      simp only [List.cons_append, List.nil_append]
      try dsimp only [stx]
      repeat (refine A1 ⟨?_⟩; intros)
      exact endHR _ _ (end1 (RV.cellA rfl (by repeat (first | exact List.mem_cons_self | refine List.mem_cons_of_mem _ ?_)) rfl rfl) (Le.refl _)) (by repeat (first | exact List.nil_sublist _ | refine List.Sublist.cons_cons _ ?_ | refine List.Sublist.cons _ ?_)) ⟨{ stm0 1 a with bd := bd }, r2, s1, by rw [hst, hb]; simp only [semi, e7], g7, hco1, rfl, rfl⟩
    · rintro _ _ ⟨e7, hx⟩
      rw [hC]
      exact ⟨_, by rw [hst, hb]; simp only [semi, e7], hx⟩
  · rintro _ _ ⟨e, hb, hx⟩
    rw [hC]
    exact ⟨e, by rw [hst, hb]; rfl, hx⟩
set_option maxHeartbeats 8000000 in
theorem gstatement_1 [Sent 4] (p n : Nat) (a : Tok) (r : List Tok) (hl : r.length ≤ 90000) (s0 : SV) (hs : CO s0 [s0]) (h : gkind a.t = 0 ∨ a.k ≠ 1) :
    PuH Tryz.prog 52 [ptrP p, lit (.int .i64 (n : Nat))] [(p, psT, psC (a :: r) 0 s0)] (fun _ _ => False) (fun pv _ => pv = erSV (ger 1 (a :: r))) := by
  have c0 := pnext_pu s0 hs a r 0 (by omega)
  have c1 := gqueries_pu a.t
  have c2 := gdefinitions_pu a.t
  have c4 := gfail_pu s0 hs p a r 0 (by omega) 1
  by_cases hq : gkQ a.t = 0
  · have hg : gkind a.t = gkD a.t := if_pos hq
    rw [hg] at h
    rw [hq] at c1
    by_cases hd : gkD a.t = 0
    · rw [hd] at c2
      clear h
      refine PuH.intro Tryz.func52 rfl (by kernel_rfl) fun C hC => ?_
      repeat (refine A1 ⟨?_⟩; intros)
      refine Wo (ov_callT c0 rfl (by repeat (first | exact List.mem_cons_self | apply List.mem_cons_of_mem))) ?_
      repeat (first | (refine A1 ⟨?_⟩; intros) | (refine Wcx (c1) ?_) | (refine Wdcx (c1) ?_) | (refine Wcgx (c1) ?_) | (refine Wdcgx (c1) ?_) | (refine Wcx (c2) ?_) | (refine Wdcx (c2) ?_) | (refine Wcgx (c2) ?_) | (refine Wdcgx (c2) ?_))
      refine WfX c4 (fun _ _ h => h.elim) ?_ (hs := Tk.skip _ (Tk.skip _ (Tk.cons (HDel.here _) (Tk.nil _))))
      rintro _ _ hx
      rw [hC]
      exact hx
    · have hk : a.k ≠ 1 := by omega
      clear h
      refine PuH.intro Tryz.func52 rfl (by kernel_rfl) fun C hC => ?_
      repeat (refine A1 ⟨?_⟩; intros)
      refine Wo (ov_callT c0 rfl (by repeat (first | exact List.mem_cons_self | apply List.mem_cons_of_mem))) ?_
      repeat (first | (refine A1 ⟨?_⟩; intros) | (refine Wcx (c1) ?_) | (refine Wdcx (c1) ?_) | (refine Wcgx (c1) ?_) | (refine Wdcgx (c1) ?_) | (refine Wcx (c2) ?_) | (refine Wdcx (c2) ?_) | (refine Wcgx (c2) ?_) | (refine Wdcgx (c2) ?_))
      refine WfX c4 (fun _ _ h => h.elim) ?_ (hs := Tk.skip _ (Tk.skip _ (Tk.cons (HDel.here _) (Tk.nil _))))
      rintro _ _ hx
      rw [hC]
      exact hx
  · have hg : gkind a.t = gkQ a.t := if_neg hq
    have hk : a.k ≠ 1 := by omega
    clear h
    refine PuH.intro Tryz.func52 rfl (by kernel_rfl) fun C hC => ?_
    repeat (refine A1 ⟨?_⟩; intros)
    refine Wo (ov_callT c0 rfl (by repeat (first | exact List.mem_cons_self | apply List.mem_cons_of_mem))) ?_
    repeat (first | (refine A1 ⟨?_⟩; intros) | (refine Wcx (c1) ?_) | (refine Wdcx (c1) ?_) | (refine Wcgx (c1) ?_) | (refine Wdcgx (c1) ?_))
    refine WfX c4 (fun _ _ h => h.elim) ?_ (hs := Tk.skip _ (Tk.skip _ (Tk.cons (HDel.here _) (Tk.nil _))))
    rintro _ _ hx
    rw [hC]
    exact hx
set_option maxHeartbeats 8000000 in
theorem gstatement_2 [Sent 3] (p n : Nat) (hn : 1000 ≤ n) (hn2 : n ≤ 1000000000) (a : Tok) (r : List Tok) (hl : r.length ≤ 90000) (s0 : SV) (hs : CO s0 [s0]) (h : gkind a.t ≠ 0) (hk : a.k = 1) :
    PuH Tryz.prog 52 [ptrP p, lit (.int .i64 (n : Nat))] [(p, psT, psC (a :: r) 0 s0)] (fun _ _ => False) (fun pv _ => pv = erSV (ger 2 (a :: r))) := by
  have c0 := pnext_pu s0 hs a r 0 (by omega)
  have c1 := gqueries_pu a.t
  have c2 := gdefinitions_pu a.t
  have c4 := gfail_pu s0 hs p a r 0 (by omega) 2
  by_cases hq : gkQ a.t = 0
  · have hg : gkind a.t = gkD a.t := if_pos hq
    rw [hg] at h
    rw [hq] at c1
    refine PuH.intro Tryz.func52 rfl (by kernel_rfl) fun C hC => ?_
    repeat (refine A1 ⟨?_⟩; intros)
    refine Wo (ov_callT c0 rfl (by repeat (first | exact List.mem_cons_self | apply List.mem_cons_of_mem))) ?_
    repeat (first | (refine A1 ⟨?_⟩; intros) | (refine Wcx (c1) ?_) | (refine Wdcx (c1) ?_) | (refine Wcgx (c1) ?_) | (refine Wdcgx (c1) ?_) | (refine Wcx (c2) ?_) | (refine Wdcx (c2) ?_) | (refine Wcgx (c2) ?_) | (refine Wdcgx (c2) ?_))
    refine WfX c4 (fun _ _ h => h.elim) ?_ (hs := Tk.skip _ (Tk.skip _ (Tk.cons (HDel.here _) (Tk.nil _))))
    rintro _ _ hx
    rw [hC]
    exact hx
  · have hg : gkind a.t = gkQ a.t := if_neg hq
    refine PuH.intro Tryz.func52 rfl (by kernel_rfl) fun C hC => ?_
    repeat (refine A1 ⟨?_⟩; intros)
    refine Wo (ov_callT c0 rfl (by repeat (first | exact List.mem_cons_self | apply List.mem_cons_of_mem))) ?_
    repeat (first | (refine A1 ⟨?_⟩; intros) | (refine Wcx (c1) ?_) | (refine Wdcx (c1) ?_) | (refine Wcgx (c1) ?_) | (refine Wdcgx (c1) ?_))
    refine WfX c4 (fun _ _ h => h.elim) ?_ (hs := Tk.skip _ (Tk.skip _ (Tk.cons (HDel.here _) (Tk.nil _))))
    rintro _ _ hx
    rw [hC]
    exact hx
theorem gstatement_pu [Sent 4] [Sent 3] [Sent 5] [Sent 7] (p n : Nat) (hn : n ≤ 1000000) (a : Tok) (r : List Tok) (hG : GOk (a :: r)) (hl : r.length ≤ 90000) (s0 : SV) (hs : CO s0 [s0]) :
    PuH Tryz.prog 52 [ptrP p, lit (.int .i64 (n : Nat))] [(p, psT, psC (a :: r) 0 s0)] (StR n p (a :: r)) (fun pv _ => ∃ e, gstm n (a :: r) = .error e ∧ pv = erSV e) := by
  by_cases h1 : gkind a.t = 0 ∨ a.k ≠ 1
  · exact (gstatement_1 p n a r hl s0 hs h1).mono (fun _ _ h => h.elim) fun _ _ h => ⟨_, gstm_e1 h1, h⟩
  have hk : a.k = 1 := Classical.byContradiction fun h => h1 (.inr h)
  have hg : gkind a.t ≠ 0 := fun h => h1 (.inl h)
  by_cases h2 : 1000 ≤ n
  · exact (gstatement_2 p n h2 (by omega) a r hl s0 hs hg hk).mono (fun _ _ h => h.elim) fun _ _ h => ⟨_, gstm_e2 h1 h2, h⟩
  by_cases hq : gkQ a.t = 0
  · have hgd : gkind a.t = gkD a.t := if_pos hq
    by_cases hd : gkD a.t = 1
    · exact gstatement_b p n (by omega) a r hG hl s0 hs hq hd hk
    · exact gstatement_d p n (by omega) a r hG hl s0 hs hq hd (by omega) hk
  · exact gstatement_q p n (by omega) a r hG hl s0 hs hq hk
theorem stx_len (s : Stm) : (stx s).length = 19 := rfl
structure SsSt where
  f : Nat
  ts : List Tok
  ss : List Stm
  s : SV
  Hs : LH
  s1 : SV
structure SsOk (ts0 : List Tok) (y : SsSt) : Prop where
  gok : GOk y.ts
  len : y.ts.length < y.f
  cnt : y.ss.length + y.ts.length ≤ 90000
  own : Own stT 19 y.ss.length (y.ss.map stx).flatten y.s y.Hs
  co : CO y.s1 [y.s1]
  eq : gstmsF gF 0 ts0 = match gstmsF y.f y.ss.length y.ts with
    | .error e => .error e
    | .ok tt => .ok (y.ss ++ tt)
section
variable {α : Type} {p : α} {x : List α}
theorem permK : (p :: x).Perm (x ++ [p]) := List.perm_append_comm (l₁ := [p]) (l₂ := x)
end
set_option maxHeartbeats 8000000 in
theorem gscript1_pu [Sent 4] [Sent 3] [Sent 5] [Sent 7] (p : Nat) (ts : List Tok) (hG : GOk ts) (hl : ts.length ≤ 90000) (s0 : SV) (hs : CO s0 [s0]) :
    PuH Tryz.prog 50 [ptrP p] [(p, psT, psC ts 0 s0)] (fun v H => ∃ ss e s1 Hs, gstmsF gF 0 ts = .ok ss ∧ ss.length ≤ 90000 ∧ e.k = 0 ∧ CO s1 [s1] ∧ Own stT 19 ss.length (ss.map stx).flatten v Hs ∧ H = (p, psT, psC [e] 0 s1) :: Hs)
      (fun pv _ => ∃ e, gstmsF gF 0 ts = .error e ∧ pv = erSV e) := by
  have hgF := gF_eq
  refine PuH.intro Tryz.func50 rfl (by kernel_rfl) fun C hC => ?_
  repeat (refine A1 ⟨?_⟩; intros)
  refine WP.loopS (ι := SsSt) (SsOk ts) (fun y => y.ts.length) (fun y => fm [(0, ptrP p), (3, y.s)]) (fun y => (p, psT, psC y.ts 0 y.s1) :: y.Hs)
    ⟨gF, ts, [], lit (.slice none 0 0), [], s0⟩ ⟨hG, by simp only; omega, by simp only [List.length_nil]; omega, Own.nil _ _, hs, by
      simp only [List.length_nil, List.nil_append]
      cases gstmsF gF 0 ts <;> rfl⟩ (by (repeat (first | exact LeF.nil _ | refine LeF.cons (Le.refl _) ?_ | refine LeF.cons (Le.int (by omega)) ?_))) (List.Sublist.refl _) ?_
  rintro ⟨f', ts', ss, s, Hs, s1⟩ ⟨hG', hf', hcnt, hown, hco1, heq⟩ K hK
  simp only at hG' hf' hcnt hown hco1 heq ⊢
  obtain ⟨a, r, rfl, -⟩ := hG'.cons
  simp only [List.length_cons] at hf' hcnt
  obtain ⟨f', rfl⟩ : ∃ g, f' = g + 1 := ⟨f' - 1, by omega⟩
  have hco := hown.co
  have c0 := pnext_pu s1 hco1 a r 0 (by omega)
  rw [stms_succ, ← rstm_eq] at heq
  by_cases hk : a.k = 0
  · rw [if_pos (show (hd (a :: r)).k = 0 from hk)] at heq
    simp only [List.append_nil] at heq
    have hr := hG'.end hk
    subst hr
    clear hK
    repeat (refine A1 ⟨?_⟩; intros)
    refine Wo (ov_callT c0 rfl (by repeat (first | exact List.mem_cons_self | apply List.mem_cons_of_mem))) ?_
    repeat (refine A1 ⟨?_⟩; intros)
    exact endHR _ _ (end1 (RV.tmp (s := s) rfl) (Le.refl _)) (List.Sublist.refl _) ⟨ss, a, s1, Hs, heq, by omega, hk, hco1, hown, rfl⟩
  · rw [if_neg (show ¬ (hd (a :: r)).k = 0 from hk)] at heq
    have c1 := gstatement_pu p ss.length (by omega) a r hG' (by omega) s1 hco1
    unfold StR at c1
    repeat (refine A1 ⟨?_⟩; intros)
    refine Wo (ov_callT c0 rfl (by repeat (first | exact List.mem_cons_self | apply List.mem_cons_of_mem))) ?_
    repeat (refine A1 ⟨?_⟩; intros)
    refine Wo (ov_lenOwn hown rfl) ?_
    refine WfX c1 ?_ ?_ (hs := Tk.cons (HDel.here _) (Tk.nil _))
    · rintro _ _ ⟨s', t1, s2, e1, g1, hco2, rfl, rfl⟩
      rw [e1] at heq
      simp only at heq
      have hlt := stm_len (by rw [← rstm_eq]; exact e1)
      simp only [List.length_cons] at hlt
      refine Wo (ov_bsN (s := ag (stx s')) (ds := stx s') rfl inferInstance) ?_
      refine WPL.appOwnS hown rfl rfl (Spl.app _ _) rfl (by decide) (by omega) (by decide) (fun s3 H3 hown3 => ?_) rfl
      have hco3 := hown3.co
      refine WPL.perm permK.symm ?_
      have hgo := fun F' H'' => hK F' H'' ⟨f', t1, ss ++ [s'], s3, H3, s2⟩ ⟨g1, by simp only; omega, by simp only [List.length_append, List.length_singleton]; omega, by
        simp only
        rw [flat_snoc, List.length_append, List.length_singleton]; exact hown3, hco2, by
        simp only
        rw [heq, List.length_append, List.length_singleton]
        cases gstmsF f' (ss.length + 1) t1 with
        | error e => rfl
        | ok tt => simp⟩ (by simp only [List.length_cons]; omega)
      clear hK heq hown hown3 c0 c1
      repeat (refine A1 ⟨?_⟩; intros)
      exact hgo _ _ (by (repeat (first | exact LeF.nil _ | refine LeF.cons (Le.refl _) ?_ | refine LeF.cons (Le.int (by omega)) ?_))) (List.Sublist.refl _)
    · rintro _ _ ⟨e, e1, hx⟩
      rw [hC]
      exact ⟨e, by rw [heq, e1], hx⟩
section
variable {P : Program} {C : Ctx} {n : Nat} {F : Fr} {H : LH} {Post : Exit → Act → World → Prop} {ops : Array Oper} {rest : List Oper}
def WPT (P : Program) (C : Ctx) (n : Nat) (c : Code) (Post : Exit → Act → World → Prop) (F : Fr) (H : LH) : Prop := ∀ a w, St C n F H a w → c.wp P Post a w
def WTL (P : Program) (C : Ctx) (n : Nat) (ops : Array Oper) (l : List Oper) (Post : Exit → Act → World → Prop) (F : Fr) (H : LH) : Prop := ∀ a w, St C n F H a w → wpList P ops Post l a w
def onN (K : Fr → LH → Prop) : Exit → Fr → LH → Prop
  | .normal, F, H => K F H
  | _, _, _ => False
theorem onN.i {K : Fr → LH → Prop} (h : K F H) : onN K .normal F H := h
theorem WPT.seq {x y : Code} (hpan : ∀ pv H, ¬ C.pan pv H) (h : WP P C n x (onN fun F H => WPT P C n y Post F H) F H) : WPT P C n (.seq x y) Post F H := by
  intro a w hs
  unfold WP at h
  refine wp_seq (wp_mono (h a w hs) ?_)
  rintro e a' w' (⟨F', H', hs', hq⟩ | ⟨ch, rfl, _, m, v, pv, H', _, _, _, _, _, _, hx⟩)
  · cases e with
    | normal => exact hq a' w' hs'
    | _ => exact hq.elim
  · exact absurd hx (hpan _ _)
theorem WPT.fin {c : Code} {Q : Exit → Fr → LH → Prop} (h : WP P C n c Q F H) (k : ∀ e a w, liftQ C n Q e a w → Post e a w) : WPT P C n c Post F H := by
  unfold WP at h
  exact fun a w hs => wp_mono (h a w hs) k
theorem WPT.reg {id : Nat} {l : List Oper} {y : Code} (h : WTL P C n l.toArray l (Exit.then (y.wp P Post) Post) F H) : WPT P C n (.seq (.region id l.toArray false) y) Post F H :=
  fun a w hs => wp_seq (wp_region_lit (h a w hs))
theorem WTL.nil {y : Code} (h : WPT P C n y Post F H) : WTL P C n ops [] (Exit.then (y.wp P Post) Post) F H := fun a w hs => wpList_nil (h a w hs)
theorem WTL.val {d : Nat} {op : Op} {ty : TypeId} {pos : String} {aft : Array Edge} {sv : SV} (hop : OpV P op ty F H sv) (k : WTL P C n ops rest Post (upd F d sv) H) (hd : Nat.blt d n = true) : WTL P C n ops (⟨some d, op, ty, pos, aft, none⟩ :: rest) Post F H := by
  intro a w hs
  obtain ⟨hdef, hn, m, h1, h2, h3, h4, h5⟩ := hs
  refine wpList_plain rfl fun K' hK' => ?_
  unfold OpV at hop
  refine hop m w _ a rfl rfl h1 h2 (fun t _ => h5 t) K' Post fun v m' w' hv hm' hH' r => hK' _ _ ?_
  exact k _ _ (St.put (Nat.blt_eq.mp hd) hdef hn h2 h3 h4 h5 hv hm' hH' r)
theorem ArgsOk.lits {m : Mem} : ∀ {cv vs : List Value}, ArgsOk m (cv.map lit) vs → vs = cv
  | [], [], _ => rfl
  | _ :: _, _ :: _, h => by rw [lit_p.1 h.1, h.2.lits]
  | [], _ :: _, h => h.elim
  | _ :: _, [], h => h.elim
theorem WPT.defer {id d : Nat} {f : FuncId} {l2 : List Operand} {tys : Array TypeId} {ty ty2 : TypeId} {pos pos2 : String} {aft aft2 : Array Edge} {y : Code} {cv : List Value} {X1 : SV → LH → Prop} (hcap : l2.map (ev F) = cv.map lit) (hd : Nat.blt d n = true)
    (k : ∀ C1 : Ctx, C1 = { C with pan := X1, dfs := ⟨.fn (.func f) cv.toArray, #[]⟩ :: C.dfs } → WPT P C1 n y Post (upd F d (fnv f [] (cv.map lit))) H) :
    WPT P C n (.seq (.region id [⟨some d, .makeFunc (.func f) #[] l2.toArray, ty, pos, aft, none⟩, ⟨none, .defer ⟨.value (.tmp d), #[], tys⟩, ty2, pos2, aft2, none⟩].toArray false) y) Post F H := by
  intro a w hs
  refine wp_seq (wp_region_lit ?_)
  obtain ⟨hdef, hn, m, h1, h2, h3, h4, h5⟩ := hs
  refine wpList_plain rfl fun K1 hK1 => ?_
  have hop : OpV P (.makeFunc (.func f) ([] : List Operand).toArray l2.toArray) ty F H (fnv f [] (cv.map lit)) := ov_makeFunc rfl hcap
  unfold OpV at hop
  refine hop m w _ a rfl rfl h1 h2 (fun t _ => h5 t) K1 _ fun v m' w' hv hm' hH' r => hK1 _ _ ?_
  have hst := St.put (Nat.blt_eq.mp hd) hdef hn h2 h3 h4 h5 hv hm' hH' r
  unfold fnv at hv
  obtain ⟨x, yv, rfl, hx, hy⟩ := hv
  have hx' : x = #[] := by
    cases x with
    | mk l => cases l with
      | nil => rfl
      | cons _ _ => exact hx.elim
  have hy' := hy.lits
  have hyv : yv = cv.toArray := by rw [← hy']
  subst hx' hyv
  refine wpList_plain rfl fun K2 hK2 => ?_
  unfold Oper.wp
  have hev : (a.put (some d) (.func (.func f) #[] cv.toArray)).eval (.tmp d) = .func (.func f) #[] cv.toArray := by
    show (a.put (some d) _).tmps.getD d undef = _
    rw [getD_put (Nat.lt_of_lt_of_le (Nat.blt_eq.mp hd) hn), if_pos rfl]
  have hrun : (execOp (a.put (some d) (.func (.func f) #[] cv.toArray)).eval (⟨none, .defer ⟨.value (.tmp d), #[], tys⟩, ty2, pos2, aft2, none⟩ : Oper)).run P w' = .ok (.defer ⟨.fn (.func f) cv.toArray, #[]⟩) w' := by
    simp [execOp, resolve, hev, Deferred.ofValue]
  rw [hrun]
  refine hK2 _ _ (wpList_nil ?_)
  refine k _ rfl _ _ ?_
  obtain ⟨gdef, gn, gm, g1, g2, g3, g4, g5⟩ := hst
  exact ⟨by show _ :: _ = _ :: _; rw [gdef], gn, gm, g1, g2, g3, g4, g5⟩
theorem WTL.call {d : Nat} {x : Operand} {s : SV} {f : FuncId} {first caps : List SV} {l : List Operand} {tys : Array TypeId} {ty : TypeId} {pos : String} {aft : Array Edge} {svs : List SV} {Hin Rs : LH} {R X : SV → LH → Prop} (hx : ev F x = s) [hfv : FV s f first caps] (hc : PuH P f svs Hin R X)
    (hs : H.Perm (Hin ++ Rs)) (ha : first ++ l.map (ev F) ++ caps = svs) (hd : Nat.blt d n = true)
    (k : ∀ res H', R res H' → WTL P C n ops rest Post (upd F d res) (H' ++ Rs))
    (kx : ∀ v pv H' m' (a : Act) w', X pv H' → a.defers = C.dfs → MemIn m' w' → HOk m' w' (H' ++ Rs) → Rel C.ks C.m C.w m' w' → (∀ e ∈ H' ++ Rs, e.1 ∈ C.ks ∨ C.w.heap.size ≤ e.1) → pv.p m' v → (∀ t, (F t).p m' (a.tmps.getD t undef)) → Post (.panic [{ v := v, recovered := false }]) a w') :
    WTL P C n ops (⟨some d, .call ⟨.value x, l.toArray, tys⟩, ty, pos, aft, none⟩ :: rest) Post F H := by
  intro a w hst
  obtain ⟨hdef, hn, m, h1, h2, h3, h4, h5⟩ := hst
  have hp : ∀ x, (ev F x).p m (a.eval x) := fun x => by
    cases x with
    | tmp t => exact h5 t
    | const v => unfold ev lit; rfl
    | global g => unfold ev lit; rfl
    | func f => unfold ev lit; rfl
  have hargs := evs_ok (m := m) (a := a) l fun x _ => hp x
  have e0 := hp x; rw [hx] at e0
  obtain ⟨fa, ca, hv, hfa, hca⟩ := hfv.h _ _ e0
  have hall : ArgsOk m svs (fa.toList ++ l.map a.eval ++ ca.toList) := ha ▸ (hfa.append hargs).append hca
  have h2' := h2.perm hs
  have hHin : HOk m w Hin := ⟨by have := h2'.1; rw [List.map_append] at this; exact (List.nodup_append.1 this).1, fun e he => h2'.2 e (by simp [he])⟩
  unfold PuH at hc
  have hcall := hc.2 m w _ h1 hHin hall
  refine wpList_plain rfl fun K' hK' => ?_
  unfold Oper.wp
  rw [run_callV hc.1 hv]
  refine Calls.mono hcall ?_
  rintro _ w' ⟨m', H', hm', hH', hr, hnew, hres⟩
  have hnk : ∀ e ∈ Rs, e.1 ∉ keys Hin := fun e he hk => by
    obtain ⟨e', he', hke⟩ := List.mem_map.1 hk
    have := h2'.1
    rw [List.map_append] at this
    exact (List.nodup_append.1 this).2.2 _ (List.mem_map.2 ⟨e', he', rfl⟩) _ (List.mem_map.2 ⟨e, he, rfl⟩) hke
  have hRs : ∀ e ∈ Rs, m' e.1 = none ∧ CellsOk m' w' e.1 e.2.1 e.2.2 := fun e he => by
    obtain ⟨g1, g2⟩ := h2'.2 e (by simp [he])
    have hlt := g2.lt
    obtain ⟨arr, g3, g4⟩ := g2
    exact ⟨(hr.old _ hlt (hnk e he)).trans g1, arr, (hr.block _ hlt (hnk e he)).trans g3, g4.mono hr.le⟩
  have hHn : HOk m' w' (H' ++ Rs) := by
    refine ⟨?_, fun e he => ?_⟩
    · rw [List.map_append, List.nodup_append]
      refine ⟨hH'.1, by have := h2'.1; rw [List.map_append] at this; exact (List.nodup_append.1 this).2.1, fun x hx y hy hxy => ?_⟩
      obtain ⟨e1, he1, rfl⟩ := List.mem_map.1 hx
      obtain ⟨e2, he2, rfl⟩ := List.mem_map.1 hy
      rcases hnew e1 he1 with h | h
      · exact hnk e2 he2 (hxy ▸ h)
      · have := (h2'.2 e2 (by simp [he2])).2.lt
        omega
    · rcases List.mem_append.1 he with h | h
      · exact hH'.2 e h
      · exact hRs e h
  have hrel : Rel C.ks C.m C.w m' w' := h3.trans hr fun b hb hk => by
    obtain ⟨e', he', rfl⟩ := List.mem_map.1 hk
    rcases h4 e' (hs.mem_iff.2 (by simp [he'])) with h | h
    · exact h
    · exact absurd hb (Nat.not_lt.2 h)
  have hown : ∀ e ∈ H' ++ Rs, e.1 ∈ C.ks ∨ C.w.heap.size ≤ e.1 := fun e he => by
    rcases List.mem_append.1 he with h | h
    · rcases hnew e h with h | h
      · obtain ⟨e', he', hke⟩ := List.mem_map.1 h
        have := h4 e' (hs.mem_iff.2 (by simp [he']))
        rw [hke] at this; exact this
      · exact .inr (Nat.le_trans h3.size h)
    · exact h4 e (hs.mem_iff.2 (by simp [h]))
  rcases hres with ⟨v, res, rfl, hv', hR⟩ | ⟨v, pv, rfl, hv', hX⟩
  · refine hK' _ _ (k res H' hR _ _ ?_)
    refine ⟨hdef, by simpa [Act.put] using hn, m', hm', hHn, hrel, hown, fun t => ?_⟩
    rw [getD_put (Nat.lt_of_lt_of_le (Nat.blt_eq.mp hd) hn)]
    unfold Ab.upd
    by_cases ht : t = d
    · subst ht; rw [if_pos rfl, Nat.beq_refl]; exact hv'
    · rw [if_neg ht]
      have : Nat.beq t d = false := by
        cases hb : Nat.beq t d with
        | false => rfl
        | true => exact absurd (Nat.eq_of_beq_eq_true hb) ht
      rw [this]
      exact (F t).mono hr.le (h5 t)
  · exact kx v pv H' m' a w' hX hdef hm' hHn hrel hown hv' fun t => (F t).mono hr.le (h5 t)
def dRes (C : Ctx) (R : SV → LH → Prop) : Ending → World → Prop := fun e w' => ∃ m' H', MemIn m' w' ∧ HOk m' w' H' ∧ Rel C.ks C.m C.w m' w' ∧ (∀ e ∈ H', e.1 ∈ C.ks ∨ C.w.heap.size ≤ e.1) ∧ ∃ v res, e = .returned v ∧ res.p m' v ∧ R res H'
theorem PuH.introD {f : FuncId} {fn : Func} {c : Code} {args : List SV} {Hin : LH} {R : SV → LH → Prop} (hf : P.funcs[f]? = some fn) (hb : fn.body = some c) (hbod : bodied P f = true)
    (h : ∀ C : Ctx, (∀ pv H, ¬ C.pan pv H) → C.dfs = [] → WPT P C fn.ntmps c (bodyPostD P fn (dRes C R)) (ini args) Hin) : PuH P f args Hin R noX := by
  unfold PuH
  refine ⟨hbod, fun m w vs hm hH ha => ?_⟩
  refine Calls.mono (calls_of_wp_defers hf hb ?_) (R := dRes ⟨keys Hin, m, w, noX, []⟩ R) ?_
  · refine h ⟨keys Hin, m, w, noX, []⟩ (fun _ _ h => h) rfl _ w ?_
    refine ⟨rfl, by simp only [Array.size_append, Array.size_replicate]; omega, m, hm, hH, Rel.refl _ _ _, fun e he => .inl (mem_keys he), fun t => ?_⟩
    have := ini_ok (us := List.replicate (fn.ntmps - vs.toArray.size) undef) ha t
    rw [show vs.toArray ++ Array.replicate (fn.ntmps - vs.toArray.size) undef = (vs ++ List.replicate (fn.ntmps - vs.toArray.size) undef).toArray from by simp]
    exact this
  · rintro e w' ⟨m', H', a1, a2, a3, a4, v, res, a5, a6, a7⟩
    exact ⟨m', H', a1, a2, a3, a4, .inl ⟨v, res, a5, a6, a7⟩⟩
theorem dfin {fn : Func} {C1 C : Ctx} {g : FuncId} {cv : Array Value} {R : SV → LH → Prop} (hC : ∃ X, C1 = { C with pan := X, dfs := [⟨.fn (.func g) cv, #[]⟩] }) (hb : bodied P g = true) (hpan : ∀ pv H, ¬ C1.pan pv H)
    (hidle : ∀ w, CallsD P g cv .returning w fun e u' w' => (∃ v, e = .returned v) ∧ u' = .returning ∧ w' = w) : ∀ e a w, liftQ C1 n (endH P fn.results R) e a w → bodyPostD P fn (dRes C R) e a w := by
  obtain ⟨X, rfl⟩ := hC
  rintro e a w (⟨F', H', ⟨hdef, _, m', hm', hH', hr', h4', hp'⟩, hq⟩ | ⟨ch, rfl, _, m', v, pv, H', _, _, _, _, _, _, hx⟩)
  · have fin : (∃ res H2, Ends P fn.results.toList res F' H' ∧ H2.Sublist H' ∧ R res H2) → Leaves P fn a.tmps (dRes C R) a.defers .returning w := by
      rintro ⟨res, H2, he, hsub, hR⟩
      obtain ⟨v, hv, hpv⟩ := run_end rfl he hm' hH' hp'
      rw [hdef]
      refine leaves_cons (f := g) (args := cv) (by simp) (by simp only [invoke, run_callFunc hb, Array.empty_append]) ?_
      refine (hidle w).mono ?_
      rintro e u' w' ⟨⟨v0, rfl⟩, rfl, rfl⟩
      exact ⟨v, hv, m', H2, hm', hH'.sub' hsub, hr', fun e he => h4' e (hsub.subset he), v, res, rfl, hpv, hR⟩
    unfold endH at hq
    cases e with
    | normal => exact fin hq
    | ret => exact fin hq
    | exit id => exact hq.elim
    | goto l => exact hq.elim
    | panic ch => exact hq.elim
    | outgrown => exact hq.elim
  · exact absurd hx (hpan _ _)
theorem dpan {fn : Func} {C : Ctx} {g : FuncId} {cv : Array Value} {R : SV → LH → Prop} {a : Act} {w : World} {v : Value} (hb : bodied P g = true) (hdef : a.defers = [⟨.fn (.func g) cv, #[]⟩])
    (h : CallsD P g cv (.panicking [{ v := v, recovered := false }]) w fun e u' w' => (∃ v', e = .returned v') ∧ u' = .panicking [{ v := v, recovered := true }] ∧ ∃ v2, (results fn a.tmps).run P w' = .ok v2 w' ∧ dRes C R (.returned v2) w') :
    bodyPostD P fn (dRes C R) (.panic [{ v := v, recovered := false }]) a w := by
  show Leaves P fn a.tmps (dRes C R) a.defers _ w
  rw [hdef]
  refine leaves_cons (f := g) (args := cv) (by simp) (by simp only [invoke, run_callFunc hb, Array.empty_append]) ?_
  refine h.mono ?_
  rintro e u' w' ⟨⟨v0, rfl⟩, rfl, v2, h1, h2⟩
  exact ⟨v2, h1, h2⟩
theorem fm_ok {m : Mem} {tmps : Array Value} : ∀ (l : List (Nat × SV)), (∀ e ∈ l, e.2.p m (tmps.getD e.1 undef)) → ∀ t, (fm l t).p m (tmps.getD t undef)
  | [], _, t => by show (Ab.top).p m _; unfold Ab.top; trivial
  | (d, s) :: r, h, t => by
    show (upd (fm r) d s t).p m _
    by_cases ht : t = d
    · subst ht; rw [upd_eq]; exact h (t, s) (by simp)
    · rw [upd_ne ht]; exact fm_ok r (fun e he => h e (by simp [he])) t
theorem wpS_eng {c : Code} {Q : Exit → Fr → LH → Prop} {Q' : Exit → Act → List Frame → World → Prop} {a : Act} {w : World} {cs : List Frame} (h : WP P C n c Q F H) (hst : St C n F H a w) (k : ∀ e a' w', liftQ C n Q e a' w' → Q' e a' cs w') : c.wpS P Q' a cs w :=
  wpS_of_wp (wp_mono (by unfold WP at h; exact h a w hst) k)
end
theorem catch_idle (p q : Addr) (w : World) : CallsD Tryz.prog 108 #[.pointer (some p), .pointer (some q)] .returning w fun e u' w' => (∃ v, e = .returned v) ∧ u' = .returning ∧ w' = w := by
  refine callsD_of_wpS Tryz.func108 rfl fun c₀ cs hu => ?_
  apply wpS_seq
  apply wpS_region
  simp [wpOpsS, go_sem, recoverD, hu, Exit.thenS]
  apply wpS_seq
  apply wpS_region
  simp [wpOpsS, go_sem, Exit.thenS]
  refine wpS_cond (t := false) (by simp [Act.eval, Array.replicate]) ?_
  simp only [Bool.false_eq_true, if_false]
  refine wpS_of_wp (wp_skip ?_)
  cases c₀
  simp_all [bodyPostS, results, Exit.thenS]
theorem ov_assertInv {F : Fr} {H : LH} {ty : TypeId} {x : Operand} (hx : ev F x = inval) : OpV Tryz.prog (.typeAssert x 20 194 true) ty F H (Ab.tup [ag [], lit (.bool true)]) :=
  OpV.pure fun m w o a ho _ _ _ h => by
    have h0 := h x (by simp [Op.operands]); rw [hx, lit_p] at h0
    have hrun : (Instr.typeAssert (.iface 194 (.agg #[])) 20 194 true).run Tryz.prog w = .ok (.tuple #[.agg #[], .bool true]) w := by kernel_rfl
    refine ⟨.tuple #[.agg #[], .bool true], by simp [execOp, ho, h0, hrun], ?_⟩
    unfold Ab.tup
    exact ⟨_, rfl, by unfold ag; exact ⟨#[], rfl, trivial⟩, lit_p.2 rfl, trivial⟩
theorem catch_rec [Sent 2] {b2 b3 : Nat} {w : World} {m : Mem} {s0 e0 : SV} {v : Value} (hm : MemIn m w) (hv : inval.p m v) (hH : HOk m w [(b3, 25, [e0]), (b2, 9, [s0])]) :
    CallsD Tryz.prog 108 #[.pointer (some ⟨b2, 0, none⟩), .pointer (some ⟨b3, 0, none⟩)] (.panicking [{ v := v, recovered := false }]) w fun e u' w' => (∃ v', e = .returned v') ∧ u' = .panicking [{ v := v, recovered := true }] ∧
      ∃ m', MemIn m' w' ∧ HOk m' w' [(b3, 25, [lit (sent 2)]), (b2, 9, [str []])] ∧ Rel [b3, b2] m w m' w' := by
  have hv' := lit_p.1 hv
  subst hv'
  refine callsD_of_wpS Tryz.func108 rfl fun c₀ cs hu => ?_
  apply wpS_seq
  apply wpS_region
  simp [wpOpsS, go_sem, recoverD, hu, Exit.thenS]
  refine wpS_eng (C := ⟨[b3, b2], m, w, noX, []⟩) (n := 17) (F := fm [(0, lit (.pointer (some ⟨b2, 0, none⟩))), (1, lit (.pointer (some ⟨b3, 0, none⟩))), (2, inval)]) (H := [(b3, 25, [e0]), (b2, 9, [s0])])
    (Q := fun e _ H' => e = .normal ∧ [(b3, 25, [lit (sent 2)]), (b2, 9, [str []])].Sublist H') ?_ ⟨rfl, by simp, m, hm, hH, Rel.refl _ _ _, fun e he => .inl (by simp at he ⊢; rcases he with rfl | rfl <;> simp), fm_ok _ ?_⟩ ?_
  · repeat (refine A1 ⟨?_⟩; intros)
    refine Wo (ov_assertInv rfl) ?_
    repeat (refine A1 ⟨?_⟩; intros)
    exact ⟨rfl, by repeat (first | exact List.Sublist.refl _ | refine List.Sublist.cons _ ?_)⟩
  · intro e he
    simp only [List.mem_cons, List.not_mem_nil, or_false] at he
    rcases he with rfl | rfl | rfl
    · rw [lit_p]; simp
    · rw [lit_p]; simp
    · rw [lit_p]; simp
  · rintro e a' w' (⟨F', H', ⟨hdef, _, m', hm', hH', hr', h4', hp'⟩, rfl, hsub⟩ | ⟨ch, rfl, _, _, _, _, _, _, _, _, _, _, _, hx⟩)
    · refine ⟨hdef, _, rfl, .tuple #[], ?_, ⟨_, rfl⟩, rfl, m', hm', hH'.sub' hsub, hr'⟩
      simp [results]
    · exact hx.elim
theorem write_pu [Sent 2] {b : Nat} {T : TypeId} {cs : List SV} {g : FuncId} {good : Bool} {t : List UInt8} (hne : good = true → t ≠ []) (hlen : t.length ≤ 65536)
    (hc : ∀ w, PuH Tryz.prog g [lit (.pointer (some ⟨w, 0, none⟩)), lit (.pointer (some ⟨b, 0, none⟩))] [(b, T, cs), (w, 201, wrC fresh (lit (.slice none 0 0)) 0 false)] (fun r H' => good = true ∧ r = Ab.tup [] ∧ Wtr w t 0 H') (fun pv _ => good = false ∧ pv = inval)) :
    PuH Tryz.prog 61 [fnv g [] [lit (.pointer (some ⟨b, 0, none⟩))]] [(b, T, cs)] (fun r _ => r = (if good = true then Ab.tup [str t, lit .nilIface] else Ab.tup [str [], lit (sent 2)])) noX := by
  refine PuH.introD Tryz.func61 rfl (by kernel_rfl) fun C hC0 hC1 => ?_
  refine WPT.seq hC0 ?_
  repeat (refine A1 ⟨?_⟩; intros)
  rename_i b2 b3
  refine onN.i ?_
  refine WPT.defer (cv := [.pointer (some ⟨b2, 0, none⟩), .pointer (some ⟨b3, 0, none⟩)]) (X1 := noX) rfl rfl fun C1 hC => ?_
  rw [hC1] at hC
  have hC2 : ∀ pv H, ¬ C1.pan pv H := fun pv H h => by rw [hC] at h; exact h
  refine WPT.seq hC2 ?_
  repeat (refine A1 ⟨?_⟩; intros)
  rename_i w
  refine onN.i ?_
  refine WPT.reg ?_
  refine WTL.val (op := .move _) Ov0 ?_ rfl
  refine WTL.val (op := .move _) Ov0 ?_ rfl
  refine WTL.call (s := fnv g [] [lit (.pointer (some ⟨b, 0, none⟩))]) (l := [.tmp 9]) rfl (hc w) (Tk.perm (Tk.cons (HDel.there _ (HDel.there _ (HDel.there _ (HDel.here _)))) (Tk.cons (HDel.here _) (Tk.nil _)))) rfl rfl ?_ ?_
  · rintro _ H' ⟨hg, rfl, a, s, Hb, ha, hb, rfl⟩
    refine WTL.nil ?_
    refine WPT.fin (Q := endH Tryz.prog Tryz.f61.results fun r _ => r = (if good = true then Ab.tup [str t, lit .nilIface] else Ab.tup [str [], lit (sent 2)])) ?_ (dfin ⟨_, hC⟩ (by kernel_rfl) hC2 fun w => catch_idle _ _ w)
    have hl0 := hne hg
    refine WP.perm List.perm_append_comm ?_
    simp only [List.cons_append, List.nil_append]
    repeat (refine A1 ⟨?_⟩; intros)
    refine WgE ?_
    refine WfH (len_pu ⟨a, s, Hb, ha, hb, rfl⟩) ?_
    rintro _ _ ⟨rfl, rfl⟩
    refine WPL.perm List.perm_append_comm ?_
    simp only [List.cons_append, List.nil_append]
    repeat (refine A1 ⟨?_⟩; intros)
    refine WfH (bstring_pu ⟨a, s, Hb, ha, hb, rfl⟩ hl0 (by omega)) ?_
    rintro _ H2 rfl
    refine WPL.perm List.perm_append_comm ?_
    simp only [List.cons_append, List.nil_append]
    repeat (refine A1 ⟨?_⟩; intros)
    exact endHR _ _ (end2 (RV.cell1 (b := b2) rfl (List.mem_cons_of_mem _ List.mem_cons_self) rfl) (RV.cell1 (b := b3) rfl List.mem_cons_self rfl) (Le.refl _)) (List.nil_sublist _) (by rw [if_pos hg])
  · subst hC
    rintro v pv H' m' a' w' ⟨hg, rfl⟩ hdef hm' hH' hrel hown hpv hF
    refine dpan (g := 108) (cv := #[.pointer (some ⟨b2, 0, none⟩), .pointer (some ⟨b3, 0, none⟩)]) (by kernel_rfl) hdef ?_
    have hsub : ∀ e ∈ [(b3, 25, [lit (sent 2)]), (b2, 9, [str []])], e.1 ∈ C.ks ∨ C.w.heap.size ≤ e.1 := fun e he => by
      simp only [List.mem_cons, List.not_mem_nil, or_false] at he
      rcases he with rfl | rfl
      · exact hown (b3, 25, [lit .nilIface]) (List.mem_append_right _ (List.mem_cons_self))
      · exact hown (b2, 9, [lit (.string ⟨#[]⟩)]) (List.mem_append_right _ (List.mem_cons_of_mem _ (List.mem_cons_self)))
    refine (catch_rec hm' hpv hH'.tail).mono ?_
    rintro e u' w2 ⟨he, hu, m2, g1, g2, g3⟩
    refine ⟨he, hu, ?_⟩
    obtain ⟨v2, hv2, hp2⟩ := run_end (fn := Tryz.f61) (tmps := a'.tmps) (P := Tryz.prog) rfl (end2 (RV.cell1 (b := b2) rfl (List.mem_cons_of_mem _ List.mem_cons_self) rfl) (RV.cell1 (b := b3) rfl List.mem_cons_self rfl) (Le.refl _)) g1 g2 fun x => SV.mono _ g3.le (hF x)
    refine ⟨v2, hv2, m2, _, g1, g2, hrel.trans g3 fun x hx hk => ?_, hsub, v2, _, rfl, hp2, by rw [hg]; rfl⟩
    have : x ∈ C.ks ∨ C.w.heap.size ≤ x := by
      simp only [keys, List.map_cons, List.map_nil, List.mem_cons, List.not_mem_nil, or_false] at hk
      rcases hk with rfl | rfl
      · exact hsub _ List.mem_cons_self
      · exact hsub _ (List.mem_cons_of_mem _ List.mem_cons_self)
    rcases this with h | h
    · exact h
    · exact absurd hx (Nat.not_lt.2 h)
section
variable {P : Program} {C : Ctx} {n : Nat} {F : Fr} {H : LH} {Post : Exit → Act → World → Prop}
def onR (C : Ctx) (n : Nat) (Post : Exit → Act → World → Prop) (K : Fr → LH → Prop) : Exit → Fr → LH → Prop
  | .normal, F, H => K F H
  | .ret, F, H => ∀ a w, St C n F H a w → Post .ret a w
  | _, _, _ => False
theorem onR.i {K : Fr → LH → Prop} (h : K F H) : onR C n Post K .normal F H := h
theorem onR.r {K : Fr → LH → Prop} (h : ∀ a w, St C n F H a w → Post .ret a w) : onR C n Post K .ret F H := h
theorem WPT.seqR {x y : Code} (hpan : ∀ pv H, ¬ C.pan pv H) (h : WP P C n x (onR C n Post fun F H => WPT P C n y Post F H) F H) : WPT P C n (.seq x y) Post F H := by
  intro a w hs
  unfold WP at h
  refine wp_seq (wp_mono (h a w hs) ?_)
  rintro e a' w' (⟨F', H', hs', hq⟩ | ⟨ch, rfl, _, m, v, pv, H', _, _, _, _, _, _, hx⟩)
  · cases e with
    | normal => exact hq a' w' hs'
    | ret => exact hq a' w' hs'
    | _ => exact hq.elim
  · exact absurd hx (hpan _ _)
theorem WPT.region {id : Nat} {l : List Oper} (h : WTL P C n l.toArray l Post F H) : WPT P C n (.region id l.toArray false) Post F H := fun a w hs => wp_region_lit (h a w hs)
theorem WTL.wpl {ops : Array Oper} {l : List Oper} {y : Code} (hpan : ∀ pv H, ¬ C.pan pv H) (h : WPL P C n ops l (fun F H => WPT P C n y Post F H) F H) : WTL P C n ops l (Exit.then (y.wp P Post) Post) F H := by
  unfold WPL at h
  intro a w hs
  refine h a w hs _ ⟨fun a' w' F' H' hs' hk => hk a' w' hs', fun ch a' w' hp => ?_⟩
  obtain ⟨_, _, _, _, _, _, _, _, _, _, _, hx⟩ := hp
  exact absurd hx (hpan _ _)
theorem WPT.cond {c : Operand} {x y : Code} {t : Bool} (hc : ev F c = lit (.bool t)) (h : WPT P C n (if t then x else y) Post F H) : WPT P C n (.cond c x y) Post F H := by
  intro a w hs
  obtain ⟨m, _, hp⟩ := hs.evp
  have e := hp c
  rw [hc, lit_p] at e
  exact wp_cond e (h a w hs)
theorem dret {fn : Func} {R : SV → LH → Prop} (hC : C.dfs = []) {res : SV} {H2 : LH} (he : Ends P fn.results.toList res F H) (hsub : H2.Sublist H) (hR : R res H2) : ∀ a w, St C n F H a w → bodyPostD P fn (dRes C R) .ret a w := by
  rintro a w ⟨hdef, _, m', hm', hH', hr', h4', hp'⟩
  obtain ⟨v, hv, hpv⟩ := run_end rfl he hm' hH' hp'
  show Leaves P fn a.tmps (dRes C R) a.defers .returning w
  rw [hdef, hC]
  exact ⟨v, hv, m', H2, hm', hH'.sub' hsub, hr', fun e he => h4' e (hsub.subset he), v, res, rfl, hpv, hR⟩
end
theorem gnx_bd {l : List UInt8} {ln cl : Nat} {t : Tok} {n : Nat} (h : gnx l ln cl = .ok (t, n)) : n ≤ l.length ∧ (t.k ≠ 0 → 0 < n) ∧ ((gsk false l ln cl).1 + t.t.length = n ∧ t.l = (gsk false l ln cl).2.1 ∧ t.c = (gsk false l ln cl).2.2) := by
  have hle := gsk_le false l ln cl
  unfold gnx at h
  generalize gsk false l ln cl = q at *
  obtain ⟨q, lq, cq⟩ := q
  simp only at h hle ⊢
  cases hr : l.drop q with
  | nil =>
    rw [hr] at h
    simp only [Except.ok.injEq, Prod.mk.injEq] at h
    obtain ⟨rfl, rfl⟩ := h
    exact ⟨hle, fun h => absurd rfl h, rfl, rfl, rfl⟩
  | cons b r =>
    rw [hr] at h
    simp only at h
    have hlen : l.length - q = r.length + 1 := by rw [← List.length_drop, hr]; rfl
    have key : ∀ p, p (clsN b.toNat) = true → 1 ≤ grun p (b :: r) ∧ grun p (b :: r) ≤ r.length + 1 ∧ ((b :: r).take (grun p (b :: r))).length = grun p (b :: r) := fun p hp => by
      have h1 := grun_t hp r
      have h2 := grun_le p (b :: r)
      simp only [List.length_cons] at h2
      exact ⟨by omega, h2, by rw [List.length_take, List.length_cons]; omega⟩
    by_cases h3 : clsN b.toNat = 3
    · rw [if_pos h3] at h
      obtain ⟨g1, g2, g3⟩ := key isLD (by rw [h3]; rfl)
      split at h
      · cases h
      · simp only [Except.ok.injEq, Prod.mk.injEq] at h
        obtain ⟨rfl, rfl⟩ := h
        exact ⟨by omega, fun _ => by omega, by simp only; omega, rfl, rfl⟩
    rw [if_neg h3] at h
    by_cases h4 : clsN b.toNat = 4
    · rw [if_pos h4] at h
      obtain ⟨g1, g2, g3⟩ := key isD (by rw [h4]; rfl)
      split at h
      · cases h
      · simp only [Except.ok.injEq, Prod.mk.injEq] at h
        obtain ⟨rfl, rfl⟩ := h
        exact ⟨by omega, fun _ => by omega, by simp only; omega, rfl, rfl⟩
    rw [if_neg h4] at h
    split at h
    · simp only [Except.ok.injEq, Prod.mk.injEq] at h
      obtain ⟨rfl, rfl⟩ := h
      exact ⟨by omega, fun _ => by omega, by simp, rfl, rfl⟩
    · cases h
def gttsR (o : Except Er (List Tok)) : SV := match o with
  | .ok ts => Ab.tup [toks ts, lit .nilIface]
  | .error e => Ab.tup [lit (.slice none 0 0), erSV e]
structure LxSt where
  f : Nat
  k : Nat
  ln : Nat
  cl : Nat
  A : List Tok
  s : SV
  Hs : LH
set_option maxHeartbeats 4000000 in
theorem gtokens_pu [Sent 3] [Sent 4] (l : List UInt8) (hl : l.length ≤ 65536) : Pu Tryz.prog 91 [str l] (gttsR (glex l)) := by
  refine Pu.intro Tryz.func91 rfl (by kernel_rfl) fun C => ?_
  repeat (refine A1 ⟨?_⟩; intros)
  rename_i r
  refine WP.loopS (ι := LxSt) (fun x => x.k ≤ l.length ∧ l.length + 1 ≤ x.f + x.k ∧ x.A.length ≤ x.k ∧ (x.ln ≤ x.k + 1 ∧ x.cl ≤ x.k + 1) ∧ Own tkT 4 x.A.length (x.A.map tkx).flatten x.s x.Hs ∧ glex l = (match glexF x.f (l.drop x.k) x.ln x.cl with
      | .ok ts => .ok (x.A ++ ts)
      | .error e => .error e)) (fun x => l.length - x.k)
    (fun x => fm [(4, lit (.pointer (some ⟨r, 0, none⟩))), (5, x.s)]) (fun x => (r, rdT, rdG l x.k x.ln x.cl) :: x.Hs) ⟨l.length + 1, 0, 1, 1, [], lit (.slice none 0 0), []⟩
    ⟨Nat.zero_le _, by simp, Nat.le_refl _, ⟨Nat.le_refl _, Nat.le_refl _⟩, Own.nil _ _, by simp only [List.drop_zero, List.nil_append]; unfold glex; split <;> (rename_i h; exact h)⟩ (by (repeat (first | exact LeF.nil _ | refine LeF.cons (Le.refl _) ?_ | refine LeF.cons (Le.int (by omega)) ?_))) (List.Sublist.refl _) ?_
  rintro ⟨f, k, ln, cl, A, s, Hs⟩ ⟨hk, hf, hA, ⟨hln, hcl⟩, hown, hlex⟩ K hK
  simp only at hk hf hA hln hcl hown hlex ⊢
  obtain ⟨f, rfl⟩ : ∃ f', f = f' + 1 := ⟨f - 1, by omega⟩
  rw [glexF_succ] at hlex
  have hco := hown.co
  have c := gnext_pu r l k ln cl hk (by omega) hln hcl
  cases hn : gnx (l.drop k) ln cl with
  | error e =>
    rw [hn] at c hlex
    simp only at c hlex
    rw [hlex]
    clear hK
    repeat (refine A1 ⟨?_⟩; intros)
    refine WfT c ?_
    rintro _ H' rfl
    repeat (refine A1 ⟨?_⟩; intros)
    refine Wo (ov_ineF (s := pt _) (by kernel_rfl) rfl) ?_
    repeat (refine A1 ⟨?_⟩; intros)
    refine endR (end2 (RV.tmp rfl) (RV.tmp rfl) (Le.of_eq rfl))
  | ok q =>
    obtain ⟨t, n⟩ := q
    rw [hn] at c hlex
    simp only at c hlex
    obtain ⟨g1, g2, g3, g4, g5⟩ := gnx_bd hn
    rw [List.length_drop] at g1
    have hbd := gsk_bd false (l.drop k) ln cl k hln hcl
    rw [← g4, ← g5] at hbd
    repeat (refine A1 ⟨?_⟩; intros)
    refine WfT c ?_
    rintro _ _ ⟨rfl, rfl⟩
    refine WPL.perm List.perm_append_comm ?_
    simp only [List.cons_append, List.nil_append]
    repeat (refine A1 ⟨?_⟩; intros)
    refine Wown hown (by omega) (fun s' H' hown' => ?_)
    simp only [List.cons_append, List.nil_append]
    have hown'' : Own tkT 4 (A ++ [t]).length ((A ++ [t]).map tkx).flatten s' H' := by
      rw [toks_snoc, List.length_append, List.length_singleton]; exact hown'
    by_cases h0 : t.k = 0
    · rw [if_pos h0] at hlex
      simp only at hlex
      rw [hlex]
      clear hK hown'
      obtain ⟨hcl, ⟨h0', _⟩ | ⟨b2, c2, hnc, hcm, rfl, rfl⟩⟩ := hown''
      · simp at h0'
      refine WPL.pub (d := 29) (s' := toks (A ++ [t])) (HDel.there _ (HDel.there _ (HDel.there _ (HDel.here _)))) rfl (fun m arr h1 h2 => pub_ownL h1 h2 hnc hcm) ?_
      repeat (refine A1 ⟨?_⟩; intros)
      refine endR (end2 (RV.tmp rfl) (RV.tmp rfl) (Le.of_eq rfl))
    · rw [if_neg h0] at hlex
      have hn0 := g2 h0
      have hgo := fun F' H'' => hK F' H'' ⟨f, k + n, t.l, t.c + t.t.length, A ++ [t], s', H'⟩ ⟨by simp only; omega, by simp only; omega, by simp only [List.length_append, List.length_singleton]; omega, ⟨by simp only; omega, by simp only; omega⟩, hown'', by
        simp only
        rw [hlex, List.drop_drop]
        cases glexF f (l.drop (k + n)) t.l (t.c + t.t.length) with
        | error e => rfl
        | ok ts => simp⟩ (by simp only; omega)
      have hco' := hown''.co
      clear hK hlex hown hown'
      repeat (refine A1 ⟨?_⟩; intros)
      exact hgo _ _ (by (repeat (first | exact LeF.nil _ | refine LeF.cons (Le.refl _) ?_ | refine LeF.cons (Le.int (by omega)) ?_))) (List.Sublist.cons _ (List.Sublist.cons _ (List.Sublist.refl _)))
theorem cls4 {b : Nat} (h : clsN b = 4) : 48 ≤ b ∧ b ≤ 57 := by
  unfold clsN at h
  split at h
  · exact absurd h (by decide)
  · split at h
    · exact absurd h (by decide)
    · split at h
      · assumption
      · split at h
        · exact absurd h (by decide)
        · split at h <;> exact absurd h (by decide)
theorem grun_D : ∀ (l : List UInt8), allD (l.take (grun isD l))
  | [] => by intro b hb; cases hb
  | a :: l => by
    cases h : isD (clsN a.toNat) with
    | false => rw [grun_f h]; intro b hb; cases hb
    | true =>
      rw [grun_t h]
      intro b hb
      rw [List.take_succ_cons] at hb
      rcases List.mem_cons.1 hb with rfl | hb
      · exact cls4 (of_decide_eq_true h)
      · exact grun_D l b hb
theorem gnx_gok {l : List UInt8} {ln cl : Nat} {t : Tok} {n : Nat} (h : gnx l ln cl = .ok (t, n)) : t.gok ∧ (t.k = 0 → t.t = []) := by
  unfold gnx at h
  generalize gsk false l ln cl = q at *
  obtain ⟨q, lq, cq⟩ := q
  simp only at h
  cases hr : l.drop q with
  | nil =>
    rw [hr] at h
    simp only [Except.ok.injEq, Prod.mk.injEq] at h
    obtain ⟨rfl, rfl⟩ := h
    exact ⟨.inl ⟨rfl, rfl⟩, fun _ => rfl⟩
  | cons b r =>
    rw [hr] at h
    simp only at h
    by_cases h3 : clsN b.toNat = 3
    · rw [if_pos h3] at h
      split at h
      · cases h
      · simp only [Except.ok.injEq, Prod.mk.injEq] at h
        obtain ⟨rfl, rfl⟩ := h
        exact ⟨.inr (.inl rfl), fun h => by cases h⟩
    rw [if_neg h3] at h
    by_cases h4 : clsN b.toNat = 4
    · rw [if_pos h4] at h
      split at h
      · cases h
      · next hle =>
        simp only [Except.ok.injEq, Prod.mk.injEq] at h
        obtain ⟨rfl, rfl⟩ := h
        refine ⟨.inr (.inr (.inl ⟨rfl, grun_D _, ?_, ?_⟩)), fun h => by cases h⟩
        · simp only
          rw [grun_t (show isD (clsN b.toNat) = true by rw [h4]; rfl), List.take_succ_cons]
          exact List.cons_ne_nil _ _
        · simp only [List.length_take]
          omega
    rw [if_neg h4] at h
    split at h
    · simp only [Except.ok.injEq, Prod.mk.injEq] at h
      obtain ⟨rfl, rfl⟩ := h
      exact ⟨.inr (.inr (.inr rfl)), fun h => by cases h⟩
    · cases h
theorem GOk.mk {t : Tok} {ts : List Tok} (h0 : t.k ≠ 0) (hg : t.gok) (h : GOk ts) : GOk (t :: ts) := by
  cases ts with
  | nil => exact h.elim
  | cons a r => exact ⟨⟨h0, hg⟩, h⟩
theorem glexF_ok : ∀ (f : Nat) (l : List UInt8) (ln cl : Nat) (ts : List Tok), glexF f l ln cl = .ok ts → GOk ts ∧ ts.length ≤ l.length + 1 := by
  intro f
  induction f with
  | zero => intro l ln cl ts h; cases h
  | succ f ih =>
    intro l ln cl ts h
    rw [glexF_succ] at h
    cases hn : gnx l ln cl with
    | error e => rw [hn] at h; cases h
    | ok q =>
      obtain ⟨t, n⟩ := q
      rw [hn] at h
      simp only at h
      have hg := gnx_gok hn
      have hb := gnx_bd hn
      split at h
      · next h0 =>
        cases h
        exact ⟨⟨h0, hg.2 h0⟩, by simp⟩
      · next h0 =>
        split at h
        · cases h
        · next ts2 hr =>
          cases h
          have := ih _ _ _ _ hr
          rw [List.length_drop] at this
          have := hb.2.1 h0
          exact ⟨GOk.mk h0 hg.1 (ih _ _ _ _ hr).1, by simp only [List.length_cons]; omega⟩
theorem glex_ok {l : List UInt8} {ts : List Tok} (h : glex l = .ok ts) : GOk ts ∧ ts.length ≤ l.length + 1 := glexF_ok _ _ _ _ _ h
abbrev readSF : FuncId := 49
abbrev readSC : FuncId := 92
theorem scatch_idle (p q : Addr) (w : World) : CallsD Tryz.prog readSC #[.pointer (some p), .pointer (some q)] .returning w fun e u' w' => (∃ v, e = .returned v) ∧ u' = .returning ∧ w' = w := by
  refine callsD_of_wpS Tryz.func92 rfl fun c₀ cs hu => ?_
  apply wpS_seq
  apply wpS_region
  simp [wpOpsS, go_sem, recoverD, hu, Exit.thenS]
  apply wpS_seq
  apply wpS_region
  simp [wpOpsS, go_sem, Exit.thenS]
  refine wpS_cond (t := false) (by simp [Act.eval, Array.replicate]) ?_
  simp only [Bool.false_eq_true, if_false]
  refine wpS_of_wp (wp_skip ?_)
  cases c₀
  simp_all [bodyPostS, results, Exit.thenS]
theorem ov_assertS {F : Fr} {H : LH} {ty : TypeId} {x : Operand} {ad : Addr} (hx : ev F x = lit (.iface 32 (.pointer (some ad)))) : OpV Tryz.prog (.typeAssert x 20 32 true) ty F H (Ab.tup [lit (.pointer (some ad)), lit (.bool true)]) :=
  OpV.pure fun m w o a ho _ _ _ h => by
    have h0 := h x (by simp [Op.operands]); rw [hx, lit_p] at h0
    have hrun : (Instr.typeAssert (.iface 32 (.pointer (some ad))) 20 32 true).run Tryz.prog w = .ok (.tuple #[.pointer (some ad), .bool true]) w := by kernel_rfl
    refine ⟨.tuple #[.pointer (some ad), .bool true], by simp [execOp, ho, h0, hrun], ?_⟩
    unfold Ab.tup
    exact ⟨_, rfl, lit_p.2 rfl, lit_p.2 rfl, trivial⟩
theorem scatch_rec {b2 b3 : Nat} {ad : Addr} {w : World} {m : Mem} {s0 e0 : SV} {v : Value} (hm : MemIn m w) (hv : (lit (.iface 32 (.pointer (some ad)))).p m v) (hH : HOk m w [(b3, 25, [e0]), (b2, 23, [s0])]) :
    CallsD Tryz.prog readSC #[.pointer (some ⟨b2, 0, none⟩), .pointer (some ⟨b3, 0, none⟩)] (.panicking [{ v := v, recovered := false }]) w fun e u' w' => (∃ v', e = .returned v') ∧ u' = .panicking [{ v := v, recovered := true }] ∧
      ∃ m', MemIn m' w' ∧ HOk m' w' [(b3, 25, [lit (.iface 32 (.pointer (some ad)))]), (b2, 23, [lit (.slice none 0 0)])] ∧ Rel [b3, b2] m w m' w' := by
  have hv' := lit_p.1 hv
  subst hv'
  refine callsD_of_wpS Tryz.func92 rfl fun c₀ cs hu => ?_
  apply wpS_seq
  apply wpS_region
  simp [wpOpsS, go_sem, recoverD, hu, Exit.thenS]
  refine wpS_eng (C := ⟨[b3, b2], m, w, noX, []⟩) (n := 20) (F := fm [(0, lit (.pointer (some ⟨b2, 0, none⟩))), (1, lit (.pointer (some ⟨b3, 0, none⟩))), (2, lit (.iface 32 (.pointer (some ad))))]) (H := [(b3, 25, [e0]), (b2, 23, [s0])])
    (Q := fun e _ H' => e = .normal ∧ [(b3, 25, [lit (.iface 32 (.pointer (some ad)))]), (b2, 23, [lit (.slice none 0 0)])].Sublist H') ?_ ⟨rfl, by simp, m, hm, hH, Rel.refl _ _ _, fun e he => .inl (by simp at he ⊢; rcases he with rfl | rfl <;> simp), fm_ok _ ?_⟩ ?_
  · repeat (refine A1 ⟨?_⟩; intros)
    refine Wo (ov_assertS rfl) ?_
    repeat (refine A1 ⟨?_⟩; intros)
    exact ⟨rfl, by repeat (first | exact List.Sublist.refl _ | refine List.Sublist.cons _ ?_)⟩
  · intro e he
    simp only [List.mem_cons, List.not_mem_nil, or_false] at he
    rcases he with rfl | rfl | rfl
    · rw [lit_p]; simp
    · rw [lit_p]; simp
    · rw [lit_p]; simp
  · rintro e a' w' (⟨F', H', ⟨hdef, _, m', hm', hH', hr', h4', hp'⟩, rfl, hsub⟩ | ⟨ch, rfl, _, _, _, _, _, _, _, _, _, _, _, hx⟩)
    · refine ⟨hdef, _, rfl, .tuple #[], ?_, ⟨_, rfl⟩, rfl, m', hm', hH'.sub' hsub, hr'⟩
      simp [results]
    · exact hx.elim
theorem tup2_lit {m : Mem} {a b : SV} {u v : Value} (h : (Ab.tup [a, lit u]).p m v) (hu : b.p m u) : (Ab.tup [a, b]).p m v := by
  unfold Ab.tup at *
  obtain ⟨arr, rfl, hall⟩ := h
  refine ⟨arr, rfl, ?_⟩
  revert hall
  generalize arr.toList = l
  intro hall
  match l, hall with
  | [x, y], hall =>
    have h2 := lit_p.1 hall.2.1
    subst h2
    exact ⟨hall.1, hu, trivial⟩
theorem sread_pan {C : Ctx} {b4 b5 : Nat} {a' : Act} {w' : World} {m' : Mem} {F : Fr} {Hx : LH} {s0 e0 pv : SV} {v : Value} {R : SV → LH → Prop} (hdef : a'.defers = [⟨.fn (.func readSC) #[.pointer (some ⟨b4, 0, none⟩), .pointer (some ⟨b5, 0, none⟩)], #[]⟩]) (hm' : MemIn m' w')
    (hH : HOk m' w' Hx) (hs : [(b5, 25, [e0]), (b4, 23, [s0])].Sublist Hx) (hrel : Rel C.ks C.m C.w m' w') (hown : ∀ e ∈ Hx, e.1 ∈ C.ks ∨ C.w.heap.size ≤ e.1) {er : Er} (hE : pv = erSV er) (hpv : pv.p m' v) (hF : ∀ t, (F t).p m' (a'.tmps.getD t undef))
    (h4 : F 4 = lit (.pointer (some ⟨b4, 0, none⟩))) (h5 : F 5 = lit (.pointer (some ⟨b5, 0, none⟩))) (hR : R (Ab.tup [lit (.slice none 0 0), erSV er]) []) : bodyPostD Tryz.prog Tryz.f49 (dRes C R) (.panic [{ v := v, recovered := false }]) a' w' := by
  subst hE
  have hpv0 := hpv
  unfold erSV ifc pt at hpv0
  obtain ⟨u, rfl, bb, off, rfl, _⟩ := hpv0
  refine dpan (g := readSC) (cv := #[.pointer (some ⟨b4, 0, none⟩), .pointer (some ⟨b5, 0, none⟩)]) (by kernel_rfl) hdef ?_
  refine (scatch_rec (ad := ⟨bb, off, none⟩) hm' (lit_p.2 rfl) (hH.sub' hs)).mono ?_
  rintro e u' w2 ⟨he, hu, m2, g1, g2, g3⟩
  refine ⟨he, hu, ?_⟩
  have hFt : ∀ t, (F t).p m2 (a'.tmps.getD t undef) := fun x => SV.mono _ g3.le (hF x)
  obtain ⟨v2, hv2, hp2⟩ := run_end (fn := Tryz.f49) (tmps := a'.tmps) (P := Tryz.prog) rfl (end2 (RV.cell1 (b := b4) h4 (List.mem_cons_of_mem _ List.mem_cons_self) rfl) (RV.cell1 (b := b5) h5 List.mem_cons_self rfl) (Le.refl _)) g1 g2 hFt
  refine ⟨v2, hv2, m2, [], g1, ⟨by simp, fun e he => by cases he⟩, hrel.trans g3 fun x hx hk => ?_, (fun e he => by cases he), v2, _, rfl, tup2_lit hp2 ((erSV er).mono g3.le hpv), hR⟩
  have : x ∈ C.ks ∨ C.w.heap.size ≤ x := by
    simp only [List.mem_cons, List.not_mem_nil, or_false] at hk
    rcases hk with rfl | rfl
    · exact hown _ (hs.subset List.mem_cons_self)
    · exact hown _ (hs.subset (List.mem_cons_of_mem _ List.mem_cons_self))
  rcases this with h | h
  · exact h
  · exact absurd hx (Nat.not_lt.2 h)
def gpR (l : List UInt8) : SV → LH → Prop := fun r H' => match gscript l with
  | .ok ss => ∃ s, r = Ab.tup [s, lit .nilIface] ∧ Own stT 19 ss.length (ss.map stx).flatten s H'
  | .error e => r = Ab.tup [lit (.slice none 0 0), erSV e]
set_option maxHeartbeats 4000000 in
theorem sread_pu [Sent 4] [Sent 3] [Sent 5] [Sent 7] (l : List UInt8) (hl : l.length ≤ 65536) :
    PuH Tryz.prog readSF [str l, lit (.func (.func 50) #[] #[])] [] (gpR l) noX := by
  have c0 := gtokens_pu l hl
  unfold gpR gscript
  cases hlx : glex l with
  | error e =>
    rw [hlx] at c0
    change Pu _ _ _ (Ab.tup [lit (.slice none 0 0), erSV e]) at c0
    refine PuH.introD Tryz.func49 rfl (by kernel_rfl) fun C hC0 hC1 => ?_
    refine WPT.seqR hC0 ?_
    repeat (refine A1 ⟨?_⟩; intros)
    rename_i b4 b5
    refine onR.i ?_
    refine WPT.seqR hC0 ?_
    repeat (first | (refine A1 ⟨?_⟩; intros) | (refine Wcx (c0) ?_) | (refine Wdcx (c0) ?_) | (refine Wcgx (c0) ?_) | (refine Wdcgx (c0) ?_))
    refine Ss ?_
    refine Ws (sv := erSV e) ?_
    repeat (refine A1 ⟨?_⟩; intros)
    refine onR.i ?_
    refine WPT.seqR hC0 ?_
    repeat (refine A1 ⟨?_⟩; intros)
    refine Wo (ov_ineF (s := pt _) (by kernel_rfl) rfl) ?_
    repeat (first | (refine AS ⟨?_⟩; intros) | (refine O1 ⟨?_⟩; intros))
    refine WdA ?_
    repeat' (first | (refine A1 ⟨?_⟩; intros) | exact WPI.nil | refine And.intro ?_ ?_ | (refine Ss ?_; refine Ws (sv := erSV e) ?_))
    all_goals
      refine onR.r ?_
      exact dret hC1 (end2 (RV.cell1 (b := b4) rfl (List.mem_cons_of_mem _ List.mem_cons_self) rfl) (RV.cell1 (b := b5) rfl List.mem_cons_self rfl) (Le.refl _)) (List.nil_sublist _) rfl
  | ok ts =>
    rw [hlx] at c0
    change Pu _ _ _ (Ab.tup [toks ts, lit .nilIface]) at c0
    refine PuH.introD Tryz.func49 rfl (by kernel_rfl) fun C hC0 hC1 => ?_
    refine WPT.seqR hC0 ?_
    repeat (refine A1 ⟨?_⟩; intros)
    rename_i b4 b5
    refine onR.i ?_
    refine WPT.seqR hC0 ?_
    repeat (first | (refine A1 ⟨?_⟩; intros) | (refine Wcx (c0) ?_) | (refine Wdcx (c0) ?_) | (refine Wcgx (c0) ?_) | (refine Wdcgx (c0) ?_))
    refine onR.i ?_
    refine WPT.seqR hC0 ?_
    repeat (refine A1 ⟨?_⟩; intros)
    refine onR.i ?_
    refine WPT.defer (cv := [.pointer (some ⟨b4, 0, none⟩), .pointer (some ⟨b5, 0, none⟩)]) (X1 := noX) rfl rfl fun C1 hC => ?_
    rw [hC1] at hC
    have hC2 : ∀ pv H, ¬ C1.pan pv H := fun pv H h => by rw [hC] at h; exact h
    refine WPT.seq hC2 ?_
    repeat (refine A1 ⟨?_⟩; intros)
    rename_i p
    refine onN.i ?_
    refine WPT.reg ?_
    refine WTL.val (op := .move _) Ov0 ?_ rfl
    refine WTL.val (op := .move _) Ov0 ?_ rfl
    have hT := glex_ok hlx
    have ce := gscript1_pu p ts hT.1 (by omega) (lit (.slice none 0 0)) inferInstance
    refine WTL.call (s := lit (.func (.func 50) #[] #[])) (l := [.tmp 22]) rfl ce (Tk.perm (Tk.cons (HDel.here _) (Tk.nil _))) rfl rfl ?_ ?_
    · rintro v H' ⟨ss, e, s1, Hs, hp, hss, he0, hco1, hown, rfl⟩
      have hco := hown.co
      have c1 := pnext_pu s1 hco1 e [] 0 (by simp)
      refine WTL.wpl hC2 ?_
      refine WPL.perm (H' := (p, psT, psC [e] 0 s1) :: (b5, 25, [lit Value.nilIface]) :: (b4, 23, [lit (Value.slice none 0 0)]) :: Hs) (List.Perm.cons _ List.perm_append_comm) ?_
      refine Ss ?_
      refine Ws (sv := v) ?_
      repeat (refine A1 ⟨?_⟩; intros)
      refine WPT.fin (Q := endH Tryz.prog Tryz.f49.results _) ?_ (dfin ⟨_, hC⟩ (by kernel_rfl) hC2 fun w => scatch_idle _ _ w)
      repeat (refine A1 ⟨?_⟩; intros)
      refine Wo (ov_callT c1 rfl (by repeat (first | exact List.mem_cons_self | apply List.mem_cons_of_mem))) ?_
      repeat (refine A1 ⟨?_⟩; intros)
      refine Ss ?_
      refine Ws (sv := v) ?_
      repeat (refine A1 ⟨?_⟩; intros)
      refine endHR _ Hs (end2 (RV.cell1 (b := b4) rfl (List.mem_cons_of_mem _ (List.mem_cons_of_mem _ List.mem_cons_self)) rfl) (RV.cell1 (b := b5) rfl (List.mem_cons_of_mem _ List.mem_cons_self) rfl) (Le.refl _)) (by repeat (first | exact List.Sublist.refl _ | refine List.Sublist.cons _ ?_)) ?_
      simp only [hp]
      exact ⟨v, rfl, hown⟩
    · subst hC
      rintro v pv H' m' a' w' ⟨e, hn, hE⟩ hdef hm' hH' hrel hown hpv hF
      refine sread_pan (b4 := b4) (b5 := b5) (s0 := lit (.slice none 0 0)) (e0 := lit .nilIface) hdef hm' hH' (List.Sublist.trans ?_ (List.sublist_append_right _ _)) hrel hown hE hpv hF rfl rfl ?_
      · exact List.Sublist.cons_cons _ (List.Sublist.cons_cons _ (List.nil_sublist _))
      · simp only [hn]
abbrev stsS (ss : List Stm) : SV := sl (ss.map stx).flatten ss.length
def gpS (l : List UInt8) : SV := match gscript l with
  | .ok ss => Ab.tup [stsS ss, lit .nilIface]
  | .error e => Ab.tup [lit (.slice none 0 0), erSV e]
theorem gscript_pu [Sent 4] [Sent 3] [Sent 5] [Sent 7] (l : List UInt8) (hl : l.length ≤ 65536) : Pu Tryz.prog 25 [str l] (gpS l) := by
  have c := sread_pu l hl
  unfold gpS
  refine PuH.toPu ?_
  cases hp : gscript l with
  | error e =>
    replace c := c.mono (R' := fun r _ => r = Ab.tup [lit (.slice none 0 0), erSV e]) (X' := noX) (fun r H h => by unfold gpR at h; rw [hp] at h; exact h) (fun _ _ h => h)
    refine PuH.intro Tryz.func25 rfl (by kernel_rfl) fun C hC => ?_
    repeat (refine A1 ⟨?_⟩; intros)
    refine WfT c ?_
    rintro _ H' rfl
    repeat (refine A1 ⟨?_⟩; intros)
    exact endHR _ _ (end2 (RV.tmp rfl) (RV.tmp rfl) (Le.refl _)) (List.nil_sublist _) rfl
  | ok ss =>
    replace c := c.mono (R' := fun r H' => ∃ s, r = Ab.tup [s, lit .nilIface] ∧ Own stT 19 ss.length (ss.map stx).flatten s H') (X' := noX) (fun r H h => by unfold gpR at h; rw [hp] at h; exact h) (fun _ _ h => h)
    refine PuH.intro Tryz.func25 rfl (by kernel_rfl) fun C hC => ?_
    repeat (refine A1 ⟨?_⟩; intros)
    refine WfT c ?_
    rintro _ H' ⟨s, rfl, hown⟩
    simp only [List.nil_append]
    (refine O1 ⟨?_⟩; intros)
    refine WPL.pubOwn (d := 6) (Rs := []) hown (by rw [List.append_nil]) rfl ?_
    repeat (refine A1 ⟨?_⟩; intros)
    exact endHR _ _ (end2 (RV.tmp rfl) (RV.tmp rfl) (Le.refl _)) (List.nil_sublist _) rfl
theorem parseT_pu [Sent 4] [Sent 3] [Sent 5] [Sent 7] (l : List UInt8) (hl : l.length ≤ 65536) : Pu Tryz.prog 9 [str l] (gpS l) := by
  have c := gscript_pu l hl
  unfold gpS at *
  cases hp : gscript l with
  | error e =>
    rw [hp] at c
    simp only at c ⊢
    refine Pu.intro Tryz.func9 rfl (by kernel_rfl) fun C => ?_
    repeat (first | (refine A1 ⟨?_⟩; intros) | (refine Wcx (c) ?_) | (refine Wdcx (c) ?_) | (refine Wcgx (c) ?_) | (refine Wdcgx (c) ?_))
    exact endR (end2 (RV.tmp rfl) (RV.tmp rfl) (Le.refl _))
  | ok ss =>
    rw [hp] at c
    simp only at c ⊢
    refine Pu.intro Tryz.func9 rfl (by kernel_rfl) fun C => ?_
    repeat (first | (refine A1 ⟨?_⟩; intros) | (refine Wcx (c) ?_) | (refine Wdcx (c) ?_) | (refine Wcgx (c) ?_) | (refine Wdcgx (c) ?_))
    exact endR (end2 (RV.tmp rfl) (RV.tmp rfl) (Le.refl _))
end Go.Ab
