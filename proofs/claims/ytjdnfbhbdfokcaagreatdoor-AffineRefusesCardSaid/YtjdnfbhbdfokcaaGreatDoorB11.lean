/- Texts laid one behind the other: RefD, RefG. -/
import Derived.Test.YtjdnfbhbdfokcaaGreatDoorB10
import Derived.Test.YtjdnfbhbdfokcaaGreatDoorB05
set_option linter.unusedSectionVars false
set_option linter.unusedVariables false
set_option linter.unusedSimpArgs false
namespace Go.Ab
open Go.Proofs
variable [Base]
theorem rmake_pu (s : Bool) (n : Nat) (h : (dgs n).length ≤ 1000000000) : Pu Tryz.prog 103 [lit (.bool s), nat n] (int (sv s n)) := by
  rw [int_sv]
  by_cases h0 : n = 0
  · subst h0
    have hl : (dgs 0).length = 0 := by rw [dgs_zero]; rfl
    cases s <;> simp only [Nat.lt_irrefl, decide_false, Bool.and_false]
    all_goals
      refine Pu.intro Tryz.func103 rfl (by kernel_rfl) fun C => ?_
      repeat (refine A1 ⟨?_⟩; intros)
      ((first | refine endR ?_ | refine endN ?_); refine end1 (RV.cellA rfl (by repeat (first | exact List.mem_cons_self | apply List.mem_cons_of_mem)) (by (try simp only [List.drop_succ_cons, List.drop_zero, List.drop_nil, List.take_succ_cons, List.take_zero, List.take_nil, Nat.zero_add, Nat.add_zero, Nat.reduceAdd]) <;> exact rfl) rfl) (Le.refl _))
  · have hl := dgs_len_pos h0
    cases s <;> simp only [Bool.false_and, Bool.true_and, decide_eq_true (Nat.pos_of_ne_zero h0)]
    all_goals
      refine Pu.intro Tryz.func103 rfl (by kernel_rfl) fun C => ?_
      repeat (refine A1 ⟨?_⟩; intros)
      ((first | refine endR ?_ | refine endN ?_); refine end1 (RV.cellA rfl (by repeat (first | exact List.mem_cons_self | apply List.mem_cons_of_mem)) (by (try simp only [List.drop_succ_cons, List.drop_zero, List.drop_nil, List.take_succ_cons, List.take_zero, List.take_nil, Nat.zero_add, Nat.add_zero, Nat.reduceAdd]) <;> exact rfl) rfl) (Le.refl _))
theorem rsign_int (z : Int) (h : (dgs z.natAbs).length ≤ 1000000000) : Pu Tryz.prog 114 [int z] (lit (.int .i64 z.sign)) := by
  rcases Int.lt_trichotomy z 0 with h0 | h0 | h0
  · have hl := dgs_len_pos (n := z.natAbs) (by omega)
    rw [Int.sign_eq_neg_one_of_neg h0, int, decide_eq_true h0]
    refine Pu.intro Tryz.func114 rfl (by kernel_rfl) fun C => ?_
    repeat (refine A1 ⟨?_⟩; intros)
    ((first | refine endR ?_ | refine endN ?_); exact end1 (RV.tmp rfl) (Le.refl _))
  · subst h0
    have hl : (dgs (Int.natAbs 0)).length = 0 := by rw [show Int.natAbs 0 = 0 from rfl, dgs_zero]; rfl
    refine Pu.intro Tryz.func114 rfl (by kernel_rfl) fun C => ?_
    repeat (refine A1 ⟨?_⟩; intros)
    ((first | refine endR ?_ | refine endN ?_); exact end1 (RV.tmp rfl) (Le.refl _))
  · have hl := dgs_len_pos (n := z.natAbs) (by omega)
    rw [Int.sign_eq_one_of_pos h0, int, decide_eq_false (by omega)]
    refine Pu.intro Tryz.func114 rfl (by kernel_rfl) fun C => ?_
    repeat (refine A1 ⟨?_⟩; intros)
    ((first | refine endR ?_ | refine endN ?_); exact end1 (RV.tmp rfl) (Le.refl _))
theorem rminus_int (z : Int) (h : (dgs z.natAbs).length ≤ 1000000000) : Pu Tryz.prog 179 [int z] (int (-z)) := by
  have m := rmake_pu (!decide (z < 0)) z.natAbs h
  rw [show sv (!decide (z < 0)) z.natAbs = -z from by by_cases h : z < 0 <;> simp [sv, h] <;> omega] at m
  refine Pu.intro Tryz.func179 rfl (by kernel_rfl) fun C => ?_
  repeat (refine A1 ⟨?_⟩; intros)
  refine Wc m ?_
  repeat (refine A1 ⟨?_⟩; intros)
  ((first | refine endR ?_ | refine endN ?_); refine end1 (RV.cellA rfl (by repeat (first | exact List.mem_cons_self | apply List.mem_cons_of_mem)) (by (try simp only [List.drop_succ_cons, List.drop_zero, List.drop_nil, List.take_succ_cons, List.take_zero, List.take_nil, Nat.zero_add, Nat.add_zero, Nat.reduceAdd]) <;> exact rfl) rfl) (Le.refl _))
theorem rmul_int (a b : Int) (h1 : (dgs a.natAbs).length ≤ 100000000) (h2 : (dgs b.natAbs).length ≤ 100000000) : Pu Tryz.prog 177 [int a, int b] (int (a * b)) := by
  have hl := dlen_mul a.natAbs b.natAbs
  have m := rmake_pu (decide (a < 0) != decide (b < 0)) (a.natAbs * b.natAbs) (by omega)
  rw [sv_mul, sv_int, sv_int] at m
  refine Pu.intro Tryz.func177 rfl (by kernel_rfl) fun C => ?_
  repeat (refine A1 ⟨?_⟩; intros)
  refine Wdc (rprod_pu a.natAbs b.natAbs h1 h2) ?_
  repeat (refine A1 ⟨?_⟩; intros)
  refine Wdc m ?_
  repeat (refine A1 ⟨?_⟩; intros)
  ((first | refine endR ?_ | refine endN ?_); refine end1 (RV.cellA rfl (by repeat (first | exact List.mem_cons_self | apply List.mem_cons_of_mem)) (by (try simp only [List.drop_succ_cons, List.drop_zero, List.drop_nil, List.take_succ_cons, List.take_zero, List.take_nil, Nat.zero_add, Nat.add_zero, Nat.reduceAdd]) <;> exact rfl) rfl) (Le.refl _))
set_option maxHeartbeats 1000000 in
theorem radd_int (a b : Int) (h1 : (dgs a.natAbs).length ≤ 100000000) (h2 : (dgs b.natAbs).length ≤ 100000000) : Pu Tryz.prog 176 [int a, int b] (int (a + b)) := by
  have key : ∀ (s t : Bool) (x y : Nat), (dgs x).length ≤ 100000000 → (dgs y).length ≤ 100000000 → Pu Tryz.prog 176 [raw s (dgs x), raw t (dgs y)] (int (sv s x + sv t y)) := by
    intro s t x y hx hy
    have cm := rcmp_pu x y (by omega) (by omega)
    have cb := cmpN_bd x y
    by_cases hst : s = t
    · subst hst
      have hl := dlen_add x y
      rw [← sv_add]
      cases s
      all_goals
        refine Pu.intro Tryz.func176 rfl (by kernel_rfl) fun C => ?_
        repeat (refine A1 ⟨?_⟩; intros)
        refine Wdc (rsum_pu x y hx hy) ?_
        repeat (refine A1 ⟨?_⟩; intros)
        refine Wdc (rmake_pu _ (x + y) (by omega)) ?_
        repeat (refine A1 ⟨?_⟩; intros)
        ((first | refine endR ?_ | refine endN ?_); refine end1 (RV.cellA rfl (by repeat (first | exact List.mem_cons_self | apply List.mem_cons_of_mem)) (by (try simp only [List.drop_succ_cons, List.drop_zero, List.drop_nil, List.take_succ_cons, List.take_zero, List.take_nil, Nat.zero_add, Nat.add_zero, Nat.reduceAdd]) <;> exact rfl) rfl) (Le.refl _))
    · by_cases hlt : x < y
      · have hl := len_mono (Nat.sub_le y x)
        rw [cmpN_lt hlt] at cm
        clear cb
        rw [Int.add_comm, ← sv_sub t s (Ne.symm hst) (by omega)]
        cases s <;> cases t <;> first | exact absurd rfl hst | skip
        all_goals
          refine Pu.intro Tryz.func176 rfl (by kernel_rfl) fun C => ?_
          repeat (refine A1 ⟨?_⟩; intros)
          refine Wc cm ?_
          repeat (refine A1 ⟨?_⟩; intros)
          refine Wdc (rless_pu y x (by omega) hy) ?_
          repeat (refine A1 ⟨?_⟩; intros)
          refine Wdc (rmake_pu _ (y - x) (by omega)) ?_
          repeat (refine A1 ⟨?_⟩; intros)
          ((first | refine endR ?_ | refine endN ?_); refine end1 (RV.cellA rfl (by repeat (first | exact List.mem_cons_self | apply List.mem_cons_of_mem)) (by (try simp only [List.drop_succ_cons, List.drop_zero, List.drop_nil, List.take_succ_cons, List.take_zero, List.take_nil, Nat.zero_add, Nat.add_zero, Nat.reduceAdd]) <;> exact rfl) rfl) (Le.refl _))
      · have hl := len_mono (Nat.sub_le x y)
        have hc : 0 ≤ cmpN x y := by omega
        generalize cmpN x y = c at *
        have hc2 : c ≤ 1 := cb.2.1
        clear cb
        rw [← sv_sub s t hst (by omega)]
        cases s <;> cases t <;> first | exact absurd rfl hst | skip
        all_goals
          refine Pu.intro Tryz.func176 rfl (by kernel_rfl) fun C => ?_
          repeat (refine A1 ⟨?_⟩; intros)
          refine Wc cm ?_
          repeat (refine A1 ⟨?_⟩; intros)
          refine Wdc (rless_pu x y (by omega) hx) ?_
          repeat (refine A1 ⟨?_⟩; intros)
          refine Wdc (rmake_pu _ (x - y) (by omega)) ?_
          repeat (refine A1 ⟨?_⟩; intros)
          ((first | refine endR ?_ | refine endN ?_); refine end1 (RV.cellA rfl (by repeat (first | exact List.mem_cons_self | apply List.mem_cons_of_mem)) (by (try simp only [List.drop_succ_cons, List.drop_zero, List.drop_nil, List.take_succ_cons, List.take_zero, List.take_nil, Nat.zero_add, Nat.add_zero, Nat.reduceAdd]) <;> exact rfl) rfl) (Le.refl _))
  have k := key (decide (a < 0)) (decide (b < 0)) a.natAbs b.natAbs h1 h2
  rwa [sv_int, sv_int] at k
theorem rint_pu (z : Int) (h0 : -9223372036854775808 ≤ z) (h1 : z ≤ 9223372036854775807) : Pu Tryz.prog 63 [lit (.int .i64 z)] (int z) := by
  have hl := len_le (n := z.natAbs) (k := 2) (by omega)
  have m1 := rmake_pu true z.natAbs (by omega)
  have m2 := rmake_pu false z.natAbs (by omega)
  by_cases h : z < 0
  · rw [show sv true z.natAbs = z from by simp only [sv, cond_true]; omega] at m1
    refine Pu.intro Tryz.func63 rfl (by kernel_rfl) fun C => ?_
    repeat (refine A1 ⟨?_⟩; intros)
    rw [show -(z % 18446744073709551616) % 18446744073709551616 = (z.natAbs : Int) from by omega]
    refine Wc (word_pu z.natAbs (by omega)) ?_
    repeat (refine A1 ⟨?_⟩; intros)
    refine Wc m1 ?_
    repeat (refine A1 ⟨?_⟩; intros)
    ((first | refine endR ?_ | refine endN ?_); refine end1 (RV.cellA rfl (by repeat (first | exact List.mem_cons_self | apply List.mem_cons_of_mem)) (by (try simp only [List.drop_succ_cons, List.drop_zero, List.drop_nil, List.take_succ_cons, List.take_zero, List.take_nil, Nat.zero_add, Nat.add_zero, Nat.reduceAdd]) <;> exact rfl) rfl) (Le.refl _))
  · rw [show sv false z.natAbs = z from by simp only [sv, cond_false]; omega] at m2
    have wp := word_pu z.natAbs (by omega)
    rw [show (z.natAbs : Int) = z from by omega] at wp
    refine Pu.intro Tryz.func63 rfl (by kernel_rfl) fun C => ?_
    repeat (refine A1 ⟨?_⟩; intros)
    refine Wc wp ?_
    repeat (refine A1 ⟨?_⟩; intros)
    refine Wc m2 ?_
    repeat (refine A1 ⟨?_⟩; intros)
    ((first | refine endR ?_ | refine endN ?_); refine end1 (RV.cellA rfl (by repeat (first | exact List.mem_cons_self | apply List.mem_cons_of_mem)) (by (try simp only [List.drop_succ_cons, List.drop_zero, List.drop_nil, List.take_succ_cons, List.take_zero, List.take_nil, Nat.zero_add, Nat.add_zero, Nat.reduceAdd]) <;> exact rfl) rfl) (Le.refl _))
theorem or32z {a b : Int} (h : Nat) (ha : a = 0) (hb : b = (h : Int)) (hh : h < 4294967296) : IntKind.u32.wrap ((BitVec.ofInt (IntKind.bits .u32) a ||| BitVec.ofInt (IntKind.bits .u32) b).toNat : Int) = (h : Int) := by
  have := or32 (a := a) (b := b) 0 h 0 ha (by rw [hb, Nat.pow_zero, Nat.one_mul]) (by simp) (by rw [Nat.pow_zero, Nat.one_mul]; exact hh)
  rw [this, Nat.pow_zero, Nat.one_mul, Nat.add_zero]
theorem pow_split (k : Nat) : 2 ^ k = 4294967296 ^ (k / 32) * 2 ^ (k % 32) := by
  conv => lhs; rw [← Nat.div_add_mod k 32]
  rw [Nat.pow_add, Nat.pow_mul]
set_option maxHeartbeats 2000000 in
theorem rleft_pu (a k : Nat) (hla : (dgs a).length + k / 32 ≤ 100000000) : Pu Tryz.prog 230 [nat a, lit (.int .i64 k)] (nat (a * 2 ^ k)) := by
  have hs : k % 32 < 32 := by omega
  have hP := D_dgs a
  suffices h : Pu Tryz.prog 230 [dg (dgs a), lit (.int .i64 k)] (nat (val (dgs a) * (4294967296 ^ (k / 32) * 2 ^ (k % 32)))) by
    rw [val_dgs] at h; rw [pow_split k]; exact h
  obtain ⟨w1, w2, w3⟩ := pow32 hs
  generalize dgs a = p at *
  refine Pu.intro Tryz.func230 rfl (by kernel_rfl) fun C => ?_
  repeat (refine A1 ⟨?_⟩; intros)
  refine WmkD (k / 32 + p.length + 1) rfl rfl (by omega) (by omega) fun bb => ?_
  repeat (refine A1 ⟨?_⟩; intros)
  refine WP.loop (ι := Nat × List Nat) (fun st => st.1 ≤ p.length ∧ st.2.length = k / 32 + p.length + 1 ∧ D st.2 ∧ val st.2 = 4294967296 ^ (k / 32) * (val (p.take st.1) * 2 ^ (k % 32)) ∧ st.2.getD (k / 32 + st.1) 0 < 2 ^ (k % 32) ∧ ∀ j, k / 32 + st.1 < j → st.2.getD j 0 = 0) (fun st => p.length - st.1)
    (fun st => fm [(1, lit (.int .i64 k)), (6, lit (.int .u64 ((k % 32 : Nat) : Int))), (5, lit (.slice (some ⟨bb, 0, none⟩) (k / 32 + p.length + 1) (k / 32 + p.length + 1))), (20, dg p), (21, lit (.int .i64 p.length)), (22, lit (.int .i64 st.1))])
    (fun st => [(bb, 216, dcells st.2)]) (0, List.replicate (k / 32 + p.length + 1) 0) ⟨Nat.zero_le _, by simp, D.rep _, by simp [val, val_rep], by simp [List.getD, List.getElem?_replicate]; split <;> simp [w2], fun j _ => by simp [List.getD, List.getElem?_replicate]; split <;> simp⟩ (by (repeat (first | exact LeF.nil _ | refine LeF.cons (Le.refl _) ?_ | refine LeF.cons (Le.int (by omega)) ?_))) rfl ?_
  rintro ⟨i, os⟩ ⟨hi, hol, hO, hval, hlo, hz⟩ K hK
  simp only at hi hol hO hval hlo hz ⊢
  by_cases hil : i < p.length
  · have hx := hP.get i
    obtain ⟨a1, a2, y, a3, a4⟩ := shl_halves (d := p.getD i 0) hs hx
    have hz1 := hz (k / 32 + i + 1) (by omega)
    have hlo' : Hid (os.getD (k / 32 + i) 0 < 2 ^ (k % 32)) := hlo
    have hvh : Hid (val os = 4294967296 ^ (k / 32) * (val (p.take i) * 2 ^ (k % 32))) := hval
    clear hval hlo
    repeat (refine A1 ⟨?_⟩; intros)
    rw [shlN (p.getD i 0) (k % 32) (by omega) a1]
    repeat (refine A1 ⟨?_⟩; intros)
    refine Wo (ov_or rfl rfl (or32 (os.getD (k / 32 + i) 0) y (k % 32) rfl (by rw [← a3, Int.natCast_emod]; rfl) hlo'.out (by have := hlo'.out; omega))) ?_
    repeat (refine A1 ⟨?_⟩; intros)
    refine WstD (2 ^ (k % 32) * y + os.getD (k / 32 + i) 0) rfl rfl rfl (HUpd.here _) (by omega) ?_
    have hl1 : (os.set (k / 32 + i) (2 ^ (k % 32) * y + os.getD (k / 32 + i) 0)).length = k / 32 + p.length + 1 := by simpa using hol
    repeat (refine A1 ⟨?_⟩; intros)
    rw [getD_set_ne' _ _ _ _ (by omega), hz1]
    refine Wo (ov_or rfl rfl (or32z (p.getD i 0 * 2 ^ (k % 32) / 4294967296) rfl rfl (by omega))) ?_
    repeat (refine A1 ⟨?_⟩; intros)
    refine WstD (p.getD i 0 * 2 ^ (k % 32) / 4294967296) rfl rfl rfl (HUpd.here _) (by omega) ?_
    repeat (refine A1 ⟨?_⟩; intros)
    have hlo := hlo'.out
    refine hK _ _ (i + 1, (os.set (k / 32 + i) (2 ^ (k % 32) * y + os.getD (k / 32 + i) 0)).set (k / 32 + i + 1) (p.getD i 0 * 2 ^ (k % 32) / 4294967296)) ⟨by simp only; omega, by simpa using hol, (hO.set _ (by omega)).set _ (by omega), ?_, ?_, ?_⟩ (by simp only; omega) (by (repeat (first | exact LeF.nil _ | refine LeF.cons (Le.refl _) ?_ | refine LeF.cons (Le.int (by omega)) ?_))) rfl
    · simp only
      have e1 := val_set os (k / 32 + i) (2 ^ (k % 32) * y + os.getD (k / 32 + i) 0) (by omega)
      have e2 := val_set (os.set (k / 32 + i) (2 ^ (k % 32) * y + os.getD (k / 32 + i) 0)) (k / 32 + i + 1) (p.getD i 0 * 2 ^ (k % 32) / 4294967296) (by simp; omega)
      rw [getD_set_ne' _ _ _ _ (by omega), hz1, Nat.mul_zero, Nat.add_zero] at e2
      rw [e2, val_take_succ', Nat.add_mul, Nat.mul_add, ← hvh.out, ← Nat.mul_assoc, ← Nat.mul_assoc, ← Nat.pow_add, Nat.mul_assoc (4294967296 ^ (k / 32 + i))]
      have e3 := Nat.div_add_mod (p.getD i 0 * 2 ^ (k % 32)) 4294967296
      have e4 : 4294967296 ^ (k / 32 + i) * (p.getD i 0 * 2 ^ (k % 32)) = 4294967296 ^ (k / 32 + i + 1) * (p.getD i 0 * 2 ^ (k % 32) / 4294967296) + 4294967296 ^ (k / 32 + i) * (2 ^ (k % 32) * y) := by
        conv => lhs; rw [← e3]
        rw [Nat.mul_add, a3, Nat.pow_succ, Nat.mul_assoc]
      rw [e4]
      rw [Nat.mul_add] at e1
      omega
    · simp only
      rw [show ((os.set (k / 32 + i) (2 ^ (k % 32) * y + os.getD (k / 32 + i) 0)).set (k / 32 + i + 1) (p.getD i 0 * 2 ^ (k % 32) / 4294967296)).getD (k / 32 + (i + 1)) 0 = p.getD i 0 * 2 ^ (k % 32) / 4294967296 from by
        have : k / 32 + i + 1 < os.length := by omega
        rw [← Nat.add_assoc]
        simp [List.getD, this]]
      exact a2
    · intro j hj
      simp only at hj ⊢
      rw [getD_set_ne' _ _ _ _ (by omega), getD_set_ne' _ _ _ _ (by omega)]
      exact hz j (by omega)
  · have hie : i = p.length := by omega
    subst hie
    rw [List.take_length] at hval
    have hvh : Hid (val os = 4294967296 ^ (k / 32) * (val p * 2 ^ (k % 32))) := hval
    clear hval hlo
    repeat (refine A1 ⟨?_⟩; intros)
    refine WpubD (ds := os) 56 rfl (HDel.here _) hol (by omega) (by omega) ?_
    refine Wc (rtrim_nat os (by omega) hO) ?_
    rw [hvh.out, Nat.mul_left_comm]
    repeat (refine A1 ⟨?_⟩; intros)
    ((first | refine endR ?_ | refine endN ?_); exact end1 (RV.tmp rfl) (Le.refl _))
set_option maxHeartbeats 2000000 in
theorem rright_pu (a s : Nat) (hla : (dgs a).length ≤ 100000000) (hs : s < 32) : Pu Tryz.prog 232 [nat a, lit (.int .i64 s)] (nat (a / 2 ^ s)) := by
  have hP := D_dgs a
  suffices h : Pu Tryz.prog 232 [dg (dgs a), lit (.int .i64 s)] (nat (val (dgs a) / 2 ^ s)) by rw [val_dgs] at h; exact h
  obtain ⟨w1, w2, w3⟩ := pow32 hs
  generalize dgs a = p at *
  have hq0 : s / 32 = 0 := by omega
  have hr0 : s % 32 = s := by omega
  by_cases h0 : p = []
  · subst h0
    refine Pu.intro Tryz.func232 rfl (by kernel_rfl) fun C => ?_
    repeat (refine A1 ⟨?_⟩; intros)
    refine endR (end1 (RV.tmp rfl) ?_)
    simp only [val, Nat.zero_div]
    rw [show nat 0 = dg [] from by show dg (dgs 0) = _; rw [dgs_zero]]
    exact le_nil
  · have hpos := List.length_pos_iff.2 h0
    refine Pu.intro Tryz.func232 rfl (by kernel_rfl) fun C => ?_
    repeat (refine A1 ⟨?_⟩; intros)
    rw [hr0]
    refine Wo (ov_sliceD (i := 0) (j := p.length) (ds' := p) rfl (fun y h => ⟨_, _, by cases h; exact rfl, by omega⟩) (fun h => by cases h) (fun y h => by cases h) (fun _ => rfl) (by omega) (by omega) (by simp)) ?_
    repeat (refine A1 ⟨?_⟩; intros)
    refine WmkD p.length rfl rfl (by omega) (by omega) fun bb => ?_
    repeat (refine A1 ⟨?_⟩; intros)
    refine WP.loop (ι := Nat × List Nat) (fun st => st.1 ≤ p.length ∧ st.2.length = p.length ∧ D st.2 ∧ Hid (val (st.2.take st.1) = val p / 2 ^ s % 4294967296 ^ st.1)) (fun st => p.length - st.1)
      (fun st => fm [(5, lit (.int .u64 s)), (6, dg p), (7, lit (.slice (some ⟨bb, 0, none⟩) p.length p.length)), (26, dg p), (27, lit (.int .i64 p.length)), (28, lit (.int .i64 st.1))])
      (fun st => [(bb, 216, dcells st.2)]) (0, List.replicate p.length 0) ⟨Nat.zero_le _, by simp, D.rep _, by simp [val, Nat.mod_one, Hid]⟩ (by (repeat (first | exact LeF.nil _ | refine LeF.cons (Le.refl _) ?_ | refine LeF.cons (Le.int (by omega)) ?_))) rfl ?_
    rintro ⟨k, os⟩ ⟨hk, hol, hO, hval⟩ K hK
    simp only at hk hol hO hval ⊢
    by_cases hkl : k < p.length
    · have hx := hP.get k
      have hx1 := hP.get (k + 1)
      repeat (refine A1 ⟨?_⟩; intros)
      refine WP.via (fun F H => LeF F (fm [(5, lit (.int .u64 s)), (6, dg p), (7, lit (.slice (some ⟨bb, 0, none⟩) p.length p.length)), (8, lit (.int .i64 k)), (10, lit (.int .u64 (p.getD k 0 + p.getD (k + 1) 0 * 4294967296 : Nat))), (26, dg p), (27, lit (.int .i64 p.length)), (28, lit (.int .i64 k))]) ∧ H = [(bb, 216, dcells os)]) ?_ ?_
      · refine WPd (fun h => ?_) (fun h => ?_)
        · repeat (refine A1 ⟨?_⟩; intros)
          refine Wo (ov_or rfl rfl (or64' (p.getD (k + 1) 0) (p.getD k 0) rfl rfl hx1 hx)) ?_
          repeat (refine A1 ⟨?_⟩; intros)
          exact ⟨by (repeat (first | exact LeF.nil _ | refine LeF.cons (Le.refl _) ?_ | refine LeF.cons (Le.int (by omega)) ?_)), rfl⟩
        · have h0 : p.getD (k + 1) 0 = 0 := by simp [List.getD, List.getElem?_eq_none (show p.length ≤ k + 1 by omega)]
          repeat (refine A1 ⟨?_⟩; intros)
          exact ⟨by (repeat (first | exact LeF.nil _ | refine LeF.cons (Le.refl _) ?_ | refine LeF.cons (Le.int (by omega)) ?_)), rfl⟩
      · rintro F H ⟨hF, rfl⟩
        refine WP.le hF ?_
        repeat (refine A1 ⟨?_⟩; intros)
        rw [shrN _ s (by omega)]
        refine WstD ((p.getD k 0 + p.getD (k + 1) 0 * 4294967296) / 2 ^ s % 4294967296) rfl rfl (by rw [Int.natCast_emod]; rfl) (HUpd.here _) (by omega) ?_
        repeat (refine A1 ⟨?_⟩; intros)
        refine hK _ _ (k + 1, os.set k ((p.getD k 0 + p.getD (k + 1) 0 * 4294967296) / 2 ^ s % 4294967296)) ⟨by simp only; omega, by simpa using hol, hO.set _ (by omega), ?_⟩ (by simp only; omega) (by (repeat (first | exact LeF.nil _ | refine LeF.cons (Le.refl _) ?_ | refine LeF.cons (Le.int (by omega)) ?_))) rfl
        simp only [Hid]
        rw [val_take_set _ _ _ (by omega), hval.out, Nat.mod_pow_succ, shr_digit k hs ((val_div_pow p hP k hk).trans (drop_two p k hkl))]
    · have hke : k = p.length := by omega
      subst hke
      have hval := hval.out
      rw [Nat.mod_eq_of_lt (Nat.lt_of_le_of_lt (Nat.div_le_self _ _) (val_lt hP)), List.take_of_length_le (by omega)] at hval
      have hval : Hid _ := hval
      repeat (refine A1 ⟨?_⟩; intros)
      refine WpubD (ds := os) 57 rfl (HDel.here _) hol (by omega) (by omega) ?_
      refine Wc (rtrim_nat os (by omega) hO) ?_
      rw [hval.out]
      repeat (refine A1 ⟨?_⟩; intros)
      ((first | refine endR ?_ | refine endN ?_); exact end1 (RV.tmp rfl) (Le.refl _))
end Go.Ab
