/- The reference's numbers: sum and difference of digits. -/
import Derived.Test.YthgobgompobhhaaGreatDoorRefA
namespace Go.Ab
open Go.Proofs
set_option linter.unusedSectionVars false
variable [Base]
section
variable {P : Program} {F : Fr} {H : LH} {ty : TypeId}
theorem ofInt_bv (X : BitVec 32) : BitVec.ofInt (IntKind.bits .u32) (X.toNat : Int) = X := by
  show BitVec.ofInt 32 (X.toNat : Int) = X
  rw [BitVec.ofInt_natCast, BitVec.ofNat_toNat, BitVec.setWidth_eq]
theorem wrap_bv (X : BitVec 32) : IntKind.u32.wrap (X.toNat : Int) = (X.toNat : Int) := wu32 (by omega) (by have := X.isLt; omega)
theorem ov_xorB {T T' : TypeId} {x y : Operand} (X Y : BitVec 32) (hx : ev F x = lit (.int .u32 X.toNat)) (hy : ev F y = lit (.int .u32 Y.toNat)) : OpV P (.binOp .xor T x y T') ty F H (lit (.int .u32 (X ^^^ Y).toNat)) :=
  ov_bin hx hy (fun w => by simp only [Go.binOp, ne_eq, not_true_eq_false, if_false, Op.intBits, Sem.run_pure, ofInt_bv]; exact congrArg (fun z => Result.ok (Value.int .u32 z) w) (wrap_bv _)) guard_int
theorem ov_andB {T T' : TypeId} {x y : Operand} (X Y : BitVec 32) (hx : ev F x = lit (.int .u32 X.toNat)) (hy : ev F y = lit (.int .u32 Y.toNat)) : OpV P (.binOp .and T x y T') ty F H (lit (.int .u32 (X &&& Y).toNat)) :=
  ov_bin hx hy (fun w => by simp only [Go.binOp, ne_eq, not_true_eq_false, if_false, Op.intBits, Sem.run_pure, ofInt_bv]; exact congrArg (fun z => Result.ok (Value.int .u32 z) w) (wrap_bv _)) guard_int
theorem ov_orB {T T' : TypeId} {x y : Operand} (X Y : BitVec 32) (hx : ev F x = lit (.int .u32 X.toNat)) (hy : ev F y = lit (.int .u32 Y.toNat)) : OpV P (.binOp .or T x y T') ty F H (lit (.int .u32 (X ||| Y).toNat)) :=
  ov_bin hx hy (fun w => by simp only [Go.binOp, ne_eq, not_true_eq_false, if_false, Op.intBits, Sem.run_pure, ofInt_bv]; exact congrArg (fun z => Result.ok (Value.int .u32 z) w) (wrap_bv _)) guard_int
theorem ov_compB {T : TypeId} {x : Operand} (X : BitVec 32) (hx : ev F x = lit (.int .u32 X.toNat)) : OpV P (.unOp .xor T x) ty F H (lit (.int .u32 (~~~X).toNat)) :=
  OpV.pure fun m w o a ho _ _ _ h => by
    have h0 := h x (by simp [Op.operands]); rw [hx, lit_p] at h0
    refine ⟨.int .u32 (~~~X).toNat, ?_, lit_p.2 rfl⟩
    have e : BitVec.ofInt (IntKind.bits .u32) (IntKind.max .u32) = BitVec.allOnes 32 := by
      show BitVec.ofInt 32 4294967295 = BitVec.allOnes 32
      decide
    have e2 : IntKind.u32.wrap ((BitVec.allOnes 32 ^^^ X).toNat : Int) = ((~~~X).toNat : Int) := by rw [BitVec.allOnes_xor]; exact wrap_bv _
    simp only [execOp, ho, h0, Op.unary, Op.intBits, IntKind.signed, Bool.false_eq_true, if_false, e, ofInt_bv, Sem.run_bind, Sem.run_pure, Result.andThen_ok]
    exact congrArg (fun z => Result.ok (Next.value (Value.int .u32 z)) w) e2
end
theorem bv_top (X : BitVec 32) : X.toNat / 2147483648 = X.msb.toNat := by
  have h := X.isLt
  rw [BitVec.msb_eq_decide]
  by_cases hc : 2 ^ (32 - 1) ≤ X.toNat <;> simp [hc] <;> omega
theorem bv_nat {a : Int} {n : Nat} (h : a = (n : Int)) (hn : n < 4294967296) : a = ((BitVec.ofNat 32 n).toNat : Int) := by
  rw [h, BitVec.toNat_ofNat, Nat.mod_eq_of_lt hn]
theorem rsub_digit {vo va vb p c c' x y d : Nat} (h : vo + vb = va + p * c) (hd : x + 4294967296 * c' = d + c + y) : vo + p * d + (vb + p * y) = va + p * x + p * 4294967296 * c' := by
  have := congrArg (fun t => p * t) hd
  simp only [Nat.mul_add, ← Nat.mul_assoc] at this
  omega
theorem radd_digit {vo va vb p c s x y : Nat} (h : vo + p * c = va + vb) (hs : s = x + y + c) : vo + p * (s % 4294967296) + p * 4294967296 * (s / 4294967296) = va + p * x + (vb + p * y) := by
  subst hs
  have e := Nat.div_add_mod (x + y + c) 4294967296
  rw [Nat.mul_assoc, Nat.add_assoc, ← Nat.mul_add, Nat.add_comm ((x + y + c) % 4294967296), e, Nat.mul_add, Nat.mul_add]
  omega
set_option maxHeartbeats 2000000 in
theorem sub32_pu (x y b : Nat) (hx : x < 4294967296) (hy : y < 4294967296) (hb : b ≤ 1) : Pu Tryz.prog 186 [lit (.int .u32 x), lit (.int .u32 y), lit (.int .u32 b)] (tup [lit (.int .u32 ((x + 8589934592 - y - b) % 4294967296 : Nat)), lit (.int .u32 (if x < y + b then 1 else 0))]) := by
  obtain ⟨X, eX⟩ : ∃ X : BitVec 32, x = X.toNat := ⟨BitVec.ofNat 32 x, by rw [BitVec.toNat_ofNat, Nat.mod_eq_of_lt hx]⟩
  obtain ⟨Y, eY⟩ : ∃ X : BitVec 32, y = X.toNat := ⟨BitVec.ofNat 32 y, by rw [BitVec.toNat_ofNat, Nat.mod_eq_of_lt hy]⟩
  obtain ⟨Z, eZ⟩ : ∃ X : BitVec 32, (x + 8589934592 - y - b) % 4294967296 = X.toNat := ⟨BitVec.ofNat 32 ((x + 8589934592 - y - b) % 4294967296), by rw [BitVec.toNat_ofNat, Nat.mod_mod]⟩
  have fin : (((~~~X &&& Y) ||| (~~~(X ^^^ Y) &&& Z)).toNat : Int) / 2147483648 = if x < y + b then 1 else 0 := by
    have e : (((~~~X &&& Y) ||| (~~~(X ^^^ Y) &&& Z)).toNat : Int) / 2147483648 = ((((~~~X &&& Y) ||| (~~~(X ^^^ Y) &&& Z)).toNat / 2147483648 : Nat) : Int) := rfl
    rw [e, bv_top]
    have mX := bv_top X
    have mY := bv_top Y
    have mZ := bv_top Z
    rw [← eX] at mX
    rw [← eY] at mY
    rw [← eZ] at mZ
    have mm : ((~~~X &&& Y) ||| (~~~(X ^^^ Y) &&& Z)).msb = (((!X.msb) && Y.msb) || ((!(X.msb ^^ Y.msb)) && Z.msb)) := by simp [BitVec.msb_or, BitVec.msb_and, BitVec.msb_xor, BitVec.msb_not]
    rw [mm]
    clear mm e eX eY eZ
    generalize X.msb = p at *
    generalize Y.msb = q at *
    generalize Z.msb = r at *
    by_cases hlt : x < y + b
    · rw [if_pos hlt]
      cases p <;> cases q <;> cases r <;> simp only [Bool.toNat_true, Bool.toNat_false] at mX mY mZ <;> first | rfl | (exfalso; omega)
    · rw [if_neg hlt]
      cases p <;> cases q <;> cases r <;> simp only [Bool.toNat_true, Bool.toNat_false] at mX mY mZ <;> first | rfl | (exfalso; omega)
  rw [eZ]
  refine Pu.intro Tryz.func186 rfl (by kernel_rfl) fun C => ?_
  repeat (refine A1 ⟨?_⟩; intros)
  rw [show (((x : Int) - y) % 4294967296 - b) % 4294967296 = (Z.toNat : Int) from by rw [← eZ]; omega]
  rw [eX, eY] at *
  refine Wo (ov_compB X rfl) ?_
  repeat (refine A1 ⟨?_⟩; intros)
  refine Wo (ov_andB (~~~X) Y rfl rfl) ?_
  repeat (refine A1 ⟨?_⟩; intros)
  refine Wo (ov_xorB X Y rfl rfl) ?_
  refine Wo (ov_compB (X ^^^ Y) rfl) ?_
  repeat (refine A1 ⟨?_⟩; intros)
  refine Wo (ov_andB (~~~(X ^^^ Y)) Z rfl rfl) ?_
  refine Wo (ov_orB (~~~X &&& Y) (~~~(X ^^^ Y) &&& Z) rfl rfl) ?_
  repeat (refine A1 ⟨?_⟩; intros)
  rw [fin]
  ((first | refine endR ?_ | refine endN ?_); exact end2 (RV.tmp rfl) (RV.tmp rfl) (Le.refl _))
set_option maxHeartbeats 2000000 in
theorem rsum_pu (a b : Nat) (ha : (dgs a).length ≤ 100000000) (hb : (dgs b).length ≤ 100000000) : Pu Tryz.prog 158 [nat a, nat b] (nat (a + b)) := by
  have hP := D_dgs a
  have hQ := D_dgs b
  have hva := val_dgs a
  have hvb := val_dgs b
  show Pu _ _ [dg (dgs a), dg (dgs b)] _
  generalize dgs a = p at *
  generalize dgs b = q at *
  obtain ⟨n, hn⟩ : ∃ n, n = max p.length q.length := ⟨_, rfl⟩
  refine Pu.intro Tryz.func158 rfl (by kernel_rfl) fun C => ?_
  repeat (refine A1 ⟨?_⟩; intros)
  refine Wo (ov_max rfl rfl (r := (n : Int)) (by split <;> omega)) ?_
  repeat (refine A1 ⟨?_⟩; intros)
  refine WmkD (n + 1) rfl rfl (by omega) (by omega) fun bb => ?_
  repeat (refine A1 ⟨?_⟩; intros)
  refine WP.loop (ι := Nat × Nat × List Nat) (fun s => s.1 ≤ n ∧ s.2.1 ≤ 1 ∧ s.2.2.length = n + 1 ∧ D s.2.2 ∧ val (s.2.2.take s.1) + 4294967296 ^ s.1 * s.2.1 = val (p.take s.1) + val (q.take s.1)) (fun s => n - s.1)
    (fun s => fm [(0, dg p), (1, dg q), (5, lit (.int .i64 n)), (6, lit (.slice (some ⟨bb, 0, none⟩) (n + 1) (n + 1))), (7, lit (.int .u32 s.2.1)), (8, lit (.int .i64 s.1))])
    (fun s => [(bb, 174, dcells s.2.2)]) (0, 0, List.replicate (n + 1) 0) ⟨Nat.zero_le _, Nat.zero_le _, by simp, D.rep _, by simp [val]⟩ (by (repeat (first | exact LeF.nil _ | refine LeF.cons (Le.refl _) ?_ | refine LeF.cons (Le.int (by omega)) ?_))) rfl ?_
  rintro ⟨k, c, os⟩ ⟨hk, hc, hol, hO, hval⟩ K hK
  simp only at hk hc hol hO hval ⊢
  by_cases hkl : k < n
  · have hp := hP.get k
    have hq := hQ.get k
    repeat (refine A1 ⟨?_⟩; intros)
    refine WP.via (fun F H => LeF F (fm [(0, dg p), (1, dg q), (5, lit (.int .i64 n)), (6, lit (.slice (some ⟨bb, 0, none⟩) (n + 1) (n + 1))), (7, lit (.int .u32 c)), (8, lit (.int .i64 k)), (9, lit (.int .u32 (p.getD k 0 : Nat))), (10, lit (.int .u32 0))]) ∧ H = [(bb, 174, dcells os)]) ?_ ?_
    · refine WPd (fun h => ?_) (fun h => ?_)
      · repeat (refine A1 ⟨?_⟩; intros)
        exact ⟨by (repeat (first | exact LeF.nil _ | refine LeF.cons (Le.refl _) ?_ | refine LeF.cons (Le.int (by omega)) ?_)), rfl⟩
      · have h0 : p.getD k 0 = 0 := by simp [List.getD, List.getElem?_eq_none (show p.length ≤ k by omega)]
        repeat (refine A1 ⟨?_⟩; intros)
        exact ⟨by (repeat (first | exact LeF.nil _ | refine LeF.cons (Le.refl _) ?_ | refine LeF.cons (Le.int (by omega)) ?_)), rfl⟩
    rintro F H ⟨hF, rfl⟩
    refine WP.le hF ?_
    repeat (refine A1 ⟨?_⟩; intros)
    refine WP.via (fun F H => LeF F (fm [(0, dg p), (1, dg q), (5, lit (.int .i64 n)), (6, lit (.slice (some ⟨bb, 0, none⟩) (n + 1) (n + 1))), (7, lit (.int .u32 c)), (8, lit (.int .i64 k)), (9, lit (.int .u32 (p.getD k 0 : Nat))), (10, lit (.int .u32 (q.getD k 0 : Nat)))]) ∧ H = [(bb, 174, dcells os)]) ?_ ?_
    · refine WPd (fun h => ?_) (fun h => ?_)
      · repeat (refine A1 ⟨?_⟩; intros)
        exact ⟨by (repeat (first | exact LeF.nil _ | refine LeF.cons (Le.refl _) ?_ | refine LeF.cons (Le.int (by omega)) ?_)), rfl⟩
      · have h0 : q.getD k 0 = 0 := by simp [List.getD, List.getElem?_eq_none (show q.length ≤ k by omega)]
        repeat (refine A1 ⟨?_⟩; intros)
        exact ⟨by (repeat (first | exact LeF.nil _ | refine LeF.cons (Le.refl _) ?_ | refine LeF.cons (Le.int (by omega)) ?_)), rfl⟩
    rintro F H ⟨hF, rfl⟩
    refine WP.le hF ?_
    repeat (refine A1 ⟨?_⟩; intros)
    refine Wc (add32_pu (p.getD k 0) (q.getD k 0) c hp hq hc) ?_
    repeat (refine A1 ⟨?_⟩; intros)
    refine WstD ((p.getD k 0 + q.getD k 0 + c) % 4294967296) rfl rfl rfl (HUpd.here _) (by omega) ?_
    repeat (refine A1 ⟨?_⟩; intros)
    refine hK _ _ (k + 1, (p.getD k 0 + q.getD k 0 + c) / 4294967296, os.set k ((p.getD k 0 + q.getD k 0 + c) % 4294967296)) ⟨by simp only; omega, by simp only; omega, by simpa using hol, hO.set k (by omega), ?_⟩ (by simp only; omega) (by (repeat (first | exact LeF.nil _ | refine LeF.cons (Le.refl _) ?_ | refine LeF.cons (Le.int (by omega)) ?_))) rfl
    simp only
    rw [val_take_set os k _ (by omega), val_take_succ', val_take_succ', Nat.pow_succ]
    exact radd_digit hval rfl
  · have hke : k = n := by omega
    subst hke
    repeat (refine A1 ⟨?_⟩; intros)
    refine WstD c rfl rfl (by omega) (HUpd.here _) (by omega) ?_
    repeat (refine A1 ⟨?_⟩; intros)
    refine WpubD (ds := os.set k c) 54 rfl (HDel.here _) (by simpa using hol) (by omega) (by omega) ?_
    refine Wc (rtrim_nat (os.set k c) (by simp; omega) (hO.set _ (by omega))) ?_
    have hfull : val (os.set k c) = a + b := by
      have h1 := val_take_set os k c (by omega)
      rw [List.take_of_length_le (by simp; omega)] at h1
      rw [h1, hval, List.take_of_length_le (by omega), List.take_of_length_le (by omega), hva, hvb]
    rw [hfull]
    repeat (refine A1 ⟨?_⟩; intros)
    ((first | refine endR ?_ | refine endN ?_); exact end1 (RV.tmp rfl) (Le.refl _))
end Go.Ab
