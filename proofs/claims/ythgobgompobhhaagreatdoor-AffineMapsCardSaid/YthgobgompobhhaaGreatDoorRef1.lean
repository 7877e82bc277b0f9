/- The reference of layer 1: numbers of package api. -/
import Derived.Test.YthgobgompobhhaaGreatDoorRefF
import Derived.Test.YthgobgompobhhaaGreatDoorRefL
import Derived.Test.YthgobgompobhhaaGreatDoorGeo
namespace Go.Ab
open Go.Proofs
set_option linter.unusedSectionVars false
variable [Base]
theorem le_decF {p : Prop} [Decidable p] (h : ¬p) : Le (lit (.bool false)) (lit (.bool (decide p))) := by rw [decide_eq_false h]; exact Le.refl _
theorem le_decT {p : Prop} [Decidable p] (h : p) : Le (lit (.bool true)) (lit (.bool (decide p))) := by rw [decide_eq_true h]; exact Le.refl _
theorem sameN_pu (xs ys : List Nat) (hx : xs.length ≤ 1000000000) (hy : ys.length ≤ 1000000000) : Pu Tryz.prog 56 [dg xs, dg ys] (lit (.bool (decide (xs = ys)))) := by
  by_cases hl : xs.length = ys.length
  · refine Pu.intro Tryz.func56 rfl (by kernel_rfl) fun C => ?_
    repeat (refine A1 ⟨?_⟩; intros)
    refine WP.loop (ι := Nat) (fun k => k ≤ xs.length ∧ xs.take k = ys.take k) (fun k => xs.length - k) (fun k => fm [(0, dg xs), (1, dg ys), (11, dg xs), (12, lit (.int .i64 xs.length)), (13, lit (.int .i64 k))]) (fun _ => []) 0
      ⟨Nat.zero_le _, rfl⟩ (by (repeat (first | exact LeF.nil _ | refine LeF.cons (Le.refl _) ?_ | refine LeF.cons (Le.int (by omega)) ?_))) rfl ?_
    rintro k ⟨hk, he⟩ K hK
    by_cases hkl : k < xs.length
    · by_cases hd : xs.getD k 0 = ys.getD k 0
      · repeat (refine A1 ⟨?_⟩; intros)
        exact hK _ _ (k + 1) ⟨by omega, by rw [take_succ_getD xs k hkl, take_succ_getD ys k (by omega), he, hd]⟩ (by omega) (by (repeat (first | exact LeF.nil _ | refine LeF.cons (Le.refl _) ?_ | refine LeF.cons (Le.int (by omega)) ?_))) rfl
      · repeat (refine A1 ⟨?_⟩; intros)
        exact endR (end1 (RV.tmp rfl) (le_decF fun e => hd (by rw [e])))
    · have hke : k = xs.length := by omega
      subst hke
      rw [List.take_length, hl, List.take_length] at he
      repeat (refine A1 ⟨?_⟩; intros)
      exact endR (end1 (RV.tmp rfl) (le_decT he))
  · refine Pu.intro Tryz.func56 rfl (by kernel_rfl) fun C => ?_
    repeat (refine A1 ⟨?_⟩; intros)
    exact endR (end1 (RV.tmp rfl) (le_decF fun e => hl (by rw [e])))
theorem toN_pu (xs : List Nat) (h : xs.length ≤ 1000000000) : Pu Tryz.prog 60 [dg xs] (dg xs) := by
  refine Pu.intro Tryz.func60 rfl (by kernel_rfl) fun C => ?_
  repeat (refine A1 ⟨?_⟩; intros)
  ((first | refine endR ?_ | refine endN ?_); exact end1 (RV.tmp rfl) (Le.refl _))
theorem n_pu (xs : List Nat) (h : xs.length ≤ 1000000000) (hD : D xs) : Pu Tryz.prog 80 [dg xs] (nat (val xs)) := by
  refine Pu.intro Tryz.func80 rfl (by kernel_rfl) fun C => ?_
  repeat (first | (refine A1 ⟨?_⟩; intros) | (refine Wcx (rtrim_nat _ h hD) ?_) | (refine Wdcx (rtrim_nat _ h hD) ?_) | (refine Wcgx (rtrim_nat _ h hD) ?_) | (refine Wdcgx (rtrim_nat _ h hD) ?_))
  ((first | refine endR ?_ | refine endN ?_); exact end1 (RV.tmp rfl) (Le.refl _))
theorem i_pu (s : Bool) (xs : List Nat) (h : xs.length ≤ 1000000000) (hD : D xs) : Pu Tryz.prog 82 [raw s xs] (int (sv s (val xs))) := by
  have hl := dlen_val hD
  refine Pu.intro Tryz.func82 rfl (by kernel_rfl) fun C => ?_
  repeat (first | (refine A1 ⟨?_⟩; intros) | (refine Wcx (n_pu _ h hD) ?_) | (refine Wdcx (n_pu _ h hD) ?_) | (refine Wcgx (n_pu _ h hD) ?_) | (refine Wdcgx (n_pu _ h hD) ?_) | (refine Wcx (rmake_pu _ _ (by omega)) ?_) | (refine Wdcx (rmake_pu _ _ (by omega)) ?_) | (refine Wcgx (rmake_pu _ _ (by omega)) ?_) | (refine Wdcgx (rmake_pu _ _ (by omega)) ?_))
  ((first | refine endR ?_ | refine endN ?_); refine end1 (RV.cellA rfl (by (first | exact List.mem_cons_self | exact (List.mem_cons_of_mem _ List.mem_cons_self) | exact (List.mem_cons_of_mem _ (List.mem_cons_of_mem _ List.mem_cons_self)) | exact (List.mem_cons_of_mem _ (List.mem_cons_of_mem _ (List.mem_cons_of_mem _ List.mem_cons_self))) | exact (List.mem_cons_of_mem _ (List.mem_cons_of_mem _ (List.mem_cons_of_mem _ (List.mem_cons_of_mem _ List.mem_cons_self)))) | exact (List.mem_cons_of_mem _ (List.mem_cons_of_mem _ (List.mem_cons_of_mem _ (List.mem_cons_of_mem _ (List.mem_cons_of_mem _ List.mem_cons_self))))) | exact (List.mem_cons_of_mem _ (List.mem_cons_of_mem _ (List.mem_cons_of_mem _ (List.mem_cons_of_mem _ (List.mem_cons_of_mem _ (List.mem_cons_of_mem _ List.mem_cons_self)))))) | exact (List.mem_cons_of_mem _ (List.mem_cons_of_mem _ (List.mem_cons_of_mem _ (List.mem_cons_of_mem _ (List.mem_cons_of_mem _ (List.mem_cons_of_mem _ (List.mem_cons_of_mem _ List.mem_cons_self))))))))) (by (first | (simp only [List.drop_succ_cons, List.drop_zero, List.drop_nil, List.take_succ_cons, List.take_zero, List.take_nil, Nat.zero_add, Nat.add_zero, Nat.reduceAdd]; done) | (simp only [List.drop_succ_cons, List.drop_zero, List.drop_nil, List.take_succ_cons, List.take_zero, List.take_nil, Nat.zero_add, Nat.add_zero, Nat.reduceAdd]; exact rfl) | exact rfl)) rfl) (Le.refl _))
theorem toI_pu (z : Int) (h : il z ≤ 1000000000) : Pu Tryz.prog 59 [int z] (int z) := by
  have h' : (dgs z.natAbs).length ≤ 1000000000 := h
  refine Pu.intro Tryz.func59 rfl (by kernel_rfl) fun C => ?_
  repeat (first | (refine A1 ⟨?_⟩; intros) | (refine Wcx (toN_pu _ h') ?_) | (refine Wdcx (toN_pu _ h') ?_) | (refine Wcgx (toN_pu _ h') ?_) | (refine Wdcgx (toN_pu _ h') ?_))
  ((first | refine endR ?_ | refine endN ?_); refine end1 (RV.cellA rfl (by (first | exact List.mem_cons_self | exact (List.mem_cons_of_mem _ List.mem_cons_self) | exact (List.mem_cons_of_mem _ (List.mem_cons_of_mem _ List.mem_cons_self)) | exact (List.mem_cons_of_mem _ (List.mem_cons_of_mem _ (List.mem_cons_of_mem _ List.mem_cons_self))) | exact (List.mem_cons_of_mem _ (List.mem_cons_of_mem _ (List.mem_cons_of_mem _ (List.mem_cons_of_mem _ List.mem_cons_self)))) | exact (List.mem_cons_of_mem _ (List.mem_cons_of_mem _ (List.mem_cons_of_mem _ (List.mem_cons_of_mem _ (List.mem_cons_of_mem _ List.mem_cons_self))))) | exact (List.mem_cons_of_mem _ (List.mem_cons_of_mem _ (List.mem_cons_of_mem _ (List.mem_cons_of_mem _ (List.mem_cons_of_mem _ (List.mem_cons_of_mem _ List.mem_cons_self)))))) | exact (List.mem_cons_of_mem _ (List.mem_cons_of_mem _ (List.mem_cons_of_mem _ (List.mem_cons_of_mem _ (List.mem_cons_of_mem _ (List.mem_cons_of_mem _ (List.mem_cons_of_mem _ List.mem_cons_self))))))))) (by (first | (simp only [List.drop_succ_cons, List.drop_zero, List.drop_nil, List.take_succ_cons, List.take_zero, List.take_nil, Nat.zero_add, Nat.add_zero, Nat.reduceAdd]; done) | (simp only [List.drop_succ_cons, List.drop_zero, List.drop_nil, List.take_succ_cons, List.take_zero, List.take_nil, Nat.zero_add, Nat.add_zero, Nat.reduceAdd]; exact rfl) | exact rfl)) rfl) (Le.refl _))
theorem sameI_pu (s t : Bool) (xs ys : List Nat) (hx : xs.length ≤ 1000000000) (hy : ys.length ≤ 1000000000) : Pu Tryz.prog 55 [raw s xs, raw t ys] (lit (.bool (decide (s = t ∧ xs = ys)))) := by
  cases s <;> cases t
  · refine Pu.intro Tryz.func55 rfl (by kernel_rfl) fun C => ?_
    repeat (first | (refine A1 ⟨?_⟩; intros) | (refine Wcx (sameN_pu _ _ hx hy) ?_) | (refine Wdcx (sameN_pu _ _ hx hy) ?_) | (refine Wcgx (sameN_pu _ _ hx hy) ?_) | (refine Wdcgx (sameN_pu _ _ hx hy) ?_))
    refine endR (end1 (RV.tmp rfl) (Le.bool ?_)); simp
  · refine Pu.intro Tryz.func55 rfl (by kernel_rfl) fun C => ?_
    repeat (first | (refine A1 ⟨?_⟩; intros) | (refine Wcx (sameN_pu _ _ hx hy) ?_) | (refine Wdcx (sameN_pu _ _ hx hy) ?_) | (refine Wcgx (sameN_pu _ _ hx hy) ?_) | (refine Wdcgx (sameN_pu _ _ hx hy) ?_))
    refine endR (end1 (RV.tmp rfl) (Le.bool ?_)); simp
  · refine Pu.intro Tryz.func55 rfl (by kernel_rfl) fun C => ?_
    repeat (first | (refine A1 ⟨?_⟩; intros) | (refine Wcx (sameN_pu _ _ hx hy) ?_) | (refine Wdcx (sameN_pu _ _ hx hy) ?_) | (refine Wcgx (sameN_pu _ _ hx hy) ?_) | (refine Wdcgx (sameN_pu _ _ hx hy) ?_))
    refine endR (end1 (RV.tmp rfl) (Le.bool ?_)); simp
  · refine Pu.intro Tryz.func55 rfl (by kernel_rfl) fun C => ?_
    repeat (first | (refine A1 ⟨?_⟩; intros) | (refine Wcx (sameN_pu _ _ hx hy) ?_) | (refine Wdcx (sameN_pu _ _ hx hy) ?_) | (refine Wcgx (sameN_pu _ _ hx hy) ?_) | (refine Wdcgx (sameN_pu _ _ hx hy) ?_))
    refine endR (end1 (RV.tmp rfl) (Le.bool ?_)); simp
theorem lit_dec {p : Prop} [Decidable p] (h : p) : lit (.bool (decide p)) = lit (.bool true) := by rw [decide_eq_true h]
theorem sameN_t (xs : List Nat) (hx : xs.length ≤ 1000000000) : Pu Tryz.prog 56 [dg xs, dg xs] (lit (.bool true)) := lit_dec (p := xs = xs) rfl ▸ sameN_pu xs xs hx hx
theorem sameI_t (s : Bool) (xs : List Nat) (hx : xs.length ≤ 1000000000) : Pu Tryz.prog 55 [raw s xs, raw s xs] (lit (.bool true)) := lit_dec (p := s = s ∧ xs = xs) ⟨rfl, rfl⟩ ▸ sameI_pu s s xs xs hx hx
theorem sameQ_t (s : Bool) (xs ys : List Nat) (hx : xs.length ≤ 1000000000) (hy : ys.length ≤ 1000000000) : Pu Tryz.prog 16 [qraw s xs ys, qraw s xs ys] (lit (.bool true)) := by
  refine Pu.intro Tryz.func16 rfl (by kernel_rfl) fun C => ?_
  repeat (first | (refine A1 ⟨?_⟩; intros) | (refine Wcx (sameN_t _ hy) ?_) | (refine Wdcx (sameN_t _ hy) ?_) | (refine Wcgx (sameN_t _ hy) ?_) | (refine Wdcgx (sameN_t _ hy) ?_) | (refine Wcx (sameI_t _ _ hx) ?_) | (refine Wdcx (sameI_t _ _ hx) ?_) | (refine Wcgx (sameI_t _ _ hx) ?_) | (refine Wdcgx (sameI_t _ _ hx) ?_))
  ((first | refine endR ?_ | refine endN ?_); exact end1 (RV.tmp rfl) (Le.refl _))
theorem sameq_pu (x : Rat) (h : ht x ≤ 1000000000) : Pu Tryz.prog 16 [q x, q x] (lit (.bool true)) := by
  have h1 := ht_num x
  have h2 := ht_den x
  exact sameQ_t _ _ _ (by have : il x.num = (dgs x.num.natAbs).length := rfl; omega) (by omega)
theorem toQ_pu (x : Rat) (h : ht x ≤ 100000000) : Pu Tryz.prog 18 [rq x] (q x) := by
  have h1 := ht_num x
  have h2 := ht_den x
  refine Pu.intro Tryz.func18 rfl (by kernel_rfl) fun C => ?_
  repeat (first | (refine A1 ⟨?_⟩; intros) | (refine Wcx (toI_pu _ (by omega)) ?_) | (refine Wdcx (toI_pu _ (by omega)) ?_) | (refine Wcgx (toI_pu _ (by omega)) ?_) | (refine Wdcgx (toI_pu _ (by omega)) ?_) | (refine Wcx (rden_pu x) ?_) | (refine Wdcx (rden_pu x) ?_) | (refine Wcgx (rden_pu x) ?_) | (refine Wdcgx (rden_pu x) ?_) | (refine Wcx (toN_pu _ (by omega)) ?_) | (refine Wdcx (toN_pu _ (by omega)) ?_) | (refine Wcgx (toN_pu _ (by omega)) ?_) | (refine Wdcgx (toN_pu _ (by omega)) ?_))
  ((first | refine endR ?_ | refine endN ?_); refine end1 (RV.cellA rfl (by (first | exact List.mem_cons_self | exact (List.mem_cons_of_mem _ List.mem_cons_self) | exact (List.mem_cons_of_mem _ (List.mem_cons_of_mem _ List.mem_cons_self)) | exact (List.mem_cons_of_mem _ (List.mem_cons_of_mem _ (List.mem_cons_of_mem _ List.mem_cons_self))) | exact (List.mem_cons_of_mem _ (List.mem_cons_of_mem _ (List.mem_cons_of_mem _ (List.mem_cons_of_mem _ List.mem_cons_self)))) | exact (List.mem_cons_of_mem _ (List.mem_cons_of_mem _ (List.mem_cons_of_mem _ (List.mem_cons_of_mem _ (List.mem_cons_of_mem _ List.mem_cons_self))))) | exact (List.mem_cons_of_mem _ (List.mem_cons_of_mem _ (List.mem_cons_of_mem _ (List.mem_cons_of_mem _ (List.mem_cons_of_mem _ (List.mem_cons_of_mem _ List.mem_cons_self)))))) | exact (List.mem_cons_of_mem _ (List.mem_cons_of_mem _ (List.mem_cons_of_mem _ (List.mem_cons_of_mem _ (List.mem_cons_of_mem _ (List.mem_cons_of_mem _ (List.mem_cons_of_mem _ List.mem_cons_self))))))))) (by (first | (simp only [List.drop_succ_cons, List.drop_zero, List.drop_nil, List.take_succ_cons, List.take_zero, List.take_nil, Nat.zero_add, Nat.add_zero, Nat.reduceAdd]; done) | (simp only [List.drop_succ_cons, List.drop_zero, List.drop_nil, List.take_succ_cons, List.take_zero, List.take_nil, Nat.zero_add, Nat.add_zero, Nat.reduceAdd]; exact rfl) | exact rfl)) rfl) (Le.refl _))
theorem rq_zero : rq 0 = ag [lit (.bool false), nat 0, dg []] := by rw [rq, show (0 : Rat).num = 0 from rfl, show (0 : Rat).den = 1 from rfl, dden_one]; rfl
theorem q_pu {r : RQ} {L : Nat} (h : r.ok L) (hL : L ≤ 1000000) : Pu Tryz.prog 34 [qr r] (rq r.v) := by
  obtain ⟨h1, h2, h3, h4⟩ := h
  have hl := dlen_val h2
  have hi := il_sv (s := r.s) h1
  by_cases h0 : val r.d = 0
  · have hv : r.v = 0 := by unfold RQ.v; rw [h0]; exact Rat.mkRat_zero _
    rw [hv, rq_zero]
    have hn := n_pu r.d (by omega) h2
    rw [h0] at hn
    have hl0 : (dgs 0).length = 0 := by rw [dgs_zero]; rfl
    refine Pu.intro Tryz.func34 rfl (by kernel_rfl) fun C => ?_
    repeat (first | (refine A1 ⟨?_⟩; intros) | (refine Wcx (hn) ?_) | (refine Wdcx (hn) ?_) | (refine Wcgx (hn) ?_) | (refine Wdcgx (hn) ?_))
    refine endR (end1 (RV.cellA rfl List.mem_cons_self rfl rfl) (Le.ag ⟨Le.refl _, ?_, le_nil, trivial⟩))
    rw [show nat 0 = dg [] from by show dg (dgs 0) = _; rw [dgs_zero]]
    exact le_nil
  · have hp := dgs_len_pos h0
    refine Pu.intro Tryz.func34 rfl (by kernel_rfl) fun C => ?_
    repeat (first | (refine A1 ⟨?_⟩; intros) | (refine Wcx (n_pu r.d (by omega) h2) ?_) | (refine Wdcx (n_pu r.d (by omega) h2) ?_) | (refine Wcgx (n_pu r.d (by omega) h2) ?_) | (refine Wdcgx (n_pu r.d (by omega) h2) ?_) | (refine Wcx (i_pu _ _ (by omega) h1) ?_) | (refine Wdcx (i_pu _ _ (by omega) h1) ?_) | (refine Wcgx (i_pu _ _ (by omega) h1) ?_) | (refine Wdcgx (i_pu _ _ (by omega) h1) ?_) | (refine Wcx (rfrac_pu _ _ (by omega) (by omega) h0) ?_) | (refine Wdcx (rfrac_pu _ _ (by omega) (by omega) h0) ?_) | (refine Wcgx (rfrac_pu _ _ (by omega) (by omega) h0) ?_) | (refine Wdcgx (rfrac_pu _ _ (by omega) (by omega) h0) ?_))
    ((first | refine endR ?_ | refine endN ?_); refine end1 (RV.cellA rfl (by (first | exact List.mem_cons_self | exact (List.mem_cons_of_mem _ List.mem_cons_self) | exact (List.mem_cons_of_mem _ (List.mem_cons_of_mem _ List.mem_cons_self)) | exact (List.mem_cons_of_mem _ (List.mem_cons_of_mem _ (List.mem_cons_of_mem _ List.mem_cons_self))) | exact (List.mem_cons_of_mem _ (List.mem_cons_of_mem _ (List.mem_cons_of_mem _ (List.mem_cons_of_mem _ List.mem_cons_self)))) | exact (List.mem_cons_of_mem _ (List.mem_cons_of_mem _ (List.mem_cons_of_mem _ (List.mem_cons_of_mem _ (List.mem_cons_of_mem _ List.mem_cons_self))))) | exact (List.mem_cons_of_mem _ (List.mem_cons_of_mem _ (List.mem_cons_of_mem _ (List.mem_cons_of_mem _ (List.mem_cons_of_mem _ (List.mem_cons_of_mem _ List.mem_cons_self)))))) | exact (List.mem_cons_of_mem _ (List.mem_cons_of_mem _ (List.mem_cons_of_mem _ (List.mem_cons_of_mem _ (List.mem_cons_of_mem _ (List.mem_cons_of_mem _ (List.mem_cons_of_mem _ List.mem_cons_self))))))))) (by (first | (simp only [List.drop_succ_cons, List.drop_zero, List.drop_nil, List.take_succ_cons, List.take_zero, List.take_nil, Nat.zero_add, Nat.add_zero, Nat.reduceAdd]; done) | (simp only [List.drop_succ_cons, List.drop_zero, List.drop_nil, List.take_succ_cons, List.take_zero, List.take_nil, Nat.zero_add, Nat.add_zero, Nat.reduceAdd]; exact rfl) | exact rfl)) rfl) (Le.refl _))
end Go.Ab
