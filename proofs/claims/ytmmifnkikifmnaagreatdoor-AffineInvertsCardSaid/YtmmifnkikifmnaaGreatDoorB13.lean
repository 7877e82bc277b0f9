/- Texts laid one behind the other: Ref1, Ref4, Scene1, Law26A, FracE. -/
import Derived.Test.YtmmifnkikifmnaaGreatDoorB12
import Derived.Test.YtmmifnkikifmnaaGreatDoorRefL
import Derived.Test.YtmmifnkikifmnaaGreatDoorB03
import Derived.Test.YtmmifnkikifmnaaGreatDoorFracD
/- The reference of layer 1: numbers of package api. -/
namespace Go.Ab
open Go.Proofs
set_option linter.unusedSectionVars false
set_option linter.unusedVariables false
set_option linter.unusedSimpArgs false
variable [Base]
theorem le_decF {p : Prop} [Decidable p] (h : ¬p) : Le (lit (.bool false)) (lit (.bool (decide p))) := by rw [decide_eq_false h]; exact Le.refl _
theorem le_decT {p : Prop} [Decidable p] (h : p) : Le (lit (.bool true)) (lit (.bool (decide p))) := by rw [decide_eq_true h]; exact Le.refl _
theorem sameN_pu (xs ys : List Nat) (hx : xs.length ≤ 1000000000) (hy : ys.length ≤ 1000000000) : Pu Tryz.prog 112 [dg xs, dg ys] (lit (.bool (decide (xs = ys)))) := by
  by_cases hl : xs.length = ys.length
  · refine Pu.intro Tryz.func112 rfl (by kernel_rfl) fun C => ?_
    repeat (refine A1 ⟨?_⟩; intros)
    refine WP.loop (ι := Nat) (fun k => k ≤ xs.length ∧ xs.take k = ys.take k) (fun k => xs.length - k) (fun k => fm [(0, dg xs), (1, dg ys), (11, dg xs), (12, lit (.int .i64 xs.length)), (13, lit (.int .i64 k))]) (fun _ => []) 0
      ⟨Nat.zero_le _, rfl⟩ (by (repeat (first | exact LeF.nil _ | refine LeF.cons (Le.refl _) ?_ | refine LeF.cons (Le.int (by omega)) ?_))) rfl ?_
    rintro k ⟨hk, he⟩ K hK
    by_cases hkl : k < xs.length
    · by_cases hd : xs.getD k 0 = ys.getD k 0
      · repeat (refine A1 ⟨?_⟩; intros)
        exact hK _ _ (k + 1) ⟨by omega, by rw [take_succ_getD xs k hkl, take_succ_getD ys k (by omega), he, hd]⟩ (by omega) (by (repeat (first | exact LeF.nil _ | refine LeF.cons (Le.refl _) ?_ | refine LeF.cons (Le.int (by omega)) ?_))) rfl
      · repeat (refine A1 ⟨?_⟩; intros)
        exact endR (end1 (RV.tmp rfl) (le_decF fun e => hd (by rw [e])))
    · have hke : k = xs.length := by omega
      subst hke
      rw [List.take_length, hl, List.take_length] at he
      repeat (refine A1 ⟨?_⟩; intros)
      exact endR (end1 (RV.tmp rfl) (le_decT he))
  · refine Pu.intro Tryz.func112 rfl (by kernel_rfl) fun C => ?_
    repeat (refine A1 ⟨?_⟩; intros)
    exact endR (end1 (RV.tmp rfl) (le_decF fun e => hl (by rw [e])))
theorem toN_pu (xs : List Nat) (h : xs.length ≤ 1000000000) : Pu Tryz.prog 108 [dg xs] (dg xs) := by
  refine Pu.intro Tryz.func108 rfl (by kernel_rfl) fun C => ?_
  repeat (refine A1 ⟨?_⟩; intros)
  ((first | refine endR ?_ | refine endN ?_); exact end1 (RV.tmp rfl) (Le.refl _))
theorem n_pu (xs : List Nat) (h : xs.length ≤ 1000000000) (hD : D xs) : Pu Tryz.prog 68 [dg xs] (nat (val xs)) := by
  refine Pu.intro Tryz.func68 rfl (by kernel_rfl) fun C => ?_
  repeat (first | (refine A1 ⟨?_⟩; intros) | (refine Wcx (rtrim_nat _ h hD) ?_) | (refine Wdcx (rtrim_nat _ h hD) ?_) | (refine Wcgx (rtrim_nat _ h hD) ?_) | (refine Wdcgx (rtrim_nat _ h hD) ?_))
  ((first | refine endR ?_ | refine endN ?_); exact end1 (RV.tmp rfl) (Le.refl _))
theorem i_pu (s : Bool) (xs : List Nat) (h : xs.length ≤ 1000000000) (hD : D xs) : Pu Tryz.prog 70 [raw s xs] (int (sv s (val xs))) := by
  have hl := dlen_val hD
  refine Pu.intro Tryz.func70 rfl (by kernel_rfl) fun C => ?_
  repeat (first | (refine A1 ⟨?_⟩; intros) | (refine Wcx (n_pu _ h hD) ?_) | (refine Wdcx (n_pu _ h hD) ?_) | (refine Wcgx (n_pu _ h hD) ?_) | (refine Wdcgx (n_pu _ h hD) ?_) | (refine Wcx (rmake_pu _ _ (by omega)) ?_) | (refine Wdcx (rmake_pu _ _ (by omega)) ?_) | (refine Wcgx (rmake_pu _ _ (by omega)) ?_) | (refine Wdcgx (rmake_pu _ _ (by omega)) ?_))
  ((first | refine endR ?_ | refine endN ?_); refine end1 (RV.cellA rfl (by (first | exact List.mem_cons_self | exact (List.mem_cons_of_mem _ List.mem_cons_self) | exact (List.mem_cons_of_mem _ (List.mem_cons_of_mem _ List.mem_cons_self)) | exact (List.mem_cons_of_mem _ (List.mem_cons_of_mem _ (List.mem_cons_of_mem _ List.mem_cons_self))) | exact (List.mem_cons_of_mem _ (List.mem_cons_of_mem _ (List.mem_cons_of_mem _ (List.mem_cons_of_mem _ List.mem_cons_self)))) | exact (List.mem_cons_of_mem _ (List.mem_cons_of_mem _ (List.mem_cons_of_mem _ (List.mem_cons_of_mem _ (List.mem_cons_of_mem _ List.mem_cons_self))))) | exact (List.mem_cons_of_mem _ (List.mem_cons_of_mem _ (List.mem_cons_of_mem _ (List.mem_cons_of_mem _ (List.mem_cons_of_mem _ (List.mem_cons_of_mem _ List.mem_cons_self)))))) | exact (List.mem_cons_of_mem _ (List.mem_cons_of_mem _ (List.mem_cons_of_mem _ (List.mem_cons_of_mem _ (List.mem_cons_of_mem _ (List.mem_cons_of_mem _ (List.mem_cons_of_mem _ List.mem_cons_self))))))))) (by (first | (simp only [List.drop_succ_cons, List.drop_zero, List.drop_nil, List.take_succ_cons, List.take_zero, List.take_nil, Nat.zero_add, Nat.add_zero, Nat.reduceAdd]; done) | (simp only [List.drop_succ_cons, List.drop_zero, List.drop_nil, List.take_succ_cons, List.take_zero, List.take_nil, Nat.zero_add, Nat.add_zero, Nat.reduceAdd]; exact rfl) | exact rfl)) rfl) (Le.refl _))
theorem toI_pu (z : Int) (h : il z ≤ 1000000000) : Pu Tryz.prog 86 [int z] (int z) := by
  have h' : (dgs z.natAbs).length ≤ 1000000000 := h
  refine Pu.intro Tryz.func86 rfl (by kernel_rfl) fun C => ?_
  repeat (first | (refine A1 ⟨?_⟩; intros) | (refine Wcx (toN_pu _ h') ?_) | (refine Wdcx (toN_pu _ h') ?_) | (refine Wcgx (toN_pu _ h') ?_) | (refine Wdcgx (toN_pu _ h') ?_))
  ((first | refine endR ?_ | refine endN ?_); refine end1 (RV.cellA rfl (by (first | exact List.mem_cons_self | exact (List.mem_cons_of_mem _ List.mem_cons_self) | exact (List.mem_cons_of_mem _ (List.mem_cons_of_mem _ List.mem_cons_self)) | exact (List.mem_cons_of_mem _ (List.mem_cons_of_mem _ (List.mem_cons_of_mem _ List.mem_cons_self))) | exact (List.mem_cons_of_mem _ (List.mem_cons_of_mem _ (List.mem_cons_of_mem _ (List.mem_cons_of_mem _ List.mem_cons_self)))) | exact (List.mem_cons_of_mem _ (List.mem_cons_of_mem _ (List.mem_cons_of_mem _ (List.mem_cons_of_mem _ (List.mem_cons_of_mem _ List.mem_cons_self))))) | exact (List.mem_cons_of_mem _ (List.mem_cons_of_mem _ (List.mem_cons_of_mem _ (List.mem_cons_of_mem _ (List.mem_cons_of_mem _ (List.mem_cons_of_mem _ List.mem_cons_self)))))) | exact (List.mem_cons_of_mem _ (List.mem_cons_of_mem _ (List.mem_cons_of_mem _ (List.mem_cons_of_mem _ (List.mem_cons_of_mem _ (List.mem_cons_of_mem _ (List.mem_cons_of_mem _ List.mem_cons_self))))))))) (by (first | (simp only [List.drop_succ_cons, List.drop_zero, List.drop_nil, List.take_succ_cons, List.take_zero, List.take_nil, Nat.zero_add, Nat.add_zero, Nat.reduceAdd]; done) | (simp only [List.drop_succ_cons, List.drop_zero, List.drop_nil, List.take_succ_cons, List.take_zero, List.take_nil, Nat.zero_add, Nat.add_zero, Nat.reduceAdd]; exact rfl) | exact rfl)) rfl) (Le.refl _))
theorem sameI_pu (s t : Bool) (xs ys : List Nat) (hx : xs.length ≤ 1000000000) (hy : ys.length ≤ 1000000000) : Pu Tryz.prog 93 [raw s xs, raw t ys] (lit (.bool (decide (s = t ∧ xs = ys)))) := by
  cases s <;> cases t
  · refine Pu.intro Tryz.func93 rfl (by kernel_rfl) fun C => ?_
    repeat (first | (refine A1 ⟨?_⟩; intros) | (refine Wcx (sameN_pu _ _ hx hy) ?_) | (refine Wdcx (sameN_pu _ _ hx hy) ?_) | (refine Wcgx (sameN_pu _ _ hx hy) ?_) | (refine Wdcgx (sameN_pu _ _ hx hy) ?_))
    refine endR (end1 (RV.tmp rfl) (Le.bool ?_)); simp
  · refine Pu.intro Tryz.func93 rfl (by kernel_rfl) fun C => ?_
    repeat (first | (refine A1 ⟨?_⟩; intros) | (refine Wcx (sameN_pu _ _ hx hy) ?_) | (refine Wdcx (sameN_pu _ _ hx hy) ?_) | (refine Wcgx (sameN_pu _ _ hx hy) ?_) | (refine Wdcgx (sameN_pu _ _ hx hy) ?_))
    refine endR (end1 (RV.tmp rfl) (Le.bool ?_)); simp
  · refine Pu.intro Tryz.func93 rfl (by kernel_rfl) fun C => ?_
    repeat (first | (refine A1 ⟨?_⟩; intros) | (refine Wcx (sameN_pu _ _ hx hy) ?_) | (refine Wdcx (sameN_pu _ _ hx hy) ?_) | (refine Wcgx (sameN_pu _ _ hx hy) ?_) | (refine Wdcgx (sameN_pu _ _ hx hy) ?_))
    refine endR (end1 (RV.tmp rfl) (Le.bool ?_)); simp
  · refine Pu.intro Tryz.func93 rfl (by kernel_rfl) fun C => ?_
    repeat (first | (refine A1 ⟨?_⟩; intros) | (refine Wcx (sameN_pu _ _ hx hy) ?_) | (refine Wdcx (sameN_pu _ _ hx hy) ?_) | (refine Wcgx (sameN_pu _ _ hx hy) ?_) | (refine Wdcgx (sameN_pu _ _ hx hy) ?_))
    refine endR (end1 (RV.tmp rfl) (Le.bool ?_)); simp
theorem lit_dec {p : Prop} [Decidable p] (h : p) : lit (.bool (decide p)) = lit (.bool true) := by rw [decide_eq_true h]
theorem sameN_t (xs : List Nat) (hx : xs.length ≤ 1000000000) : Pu Tryz.prog 112 [dg xs, dg xs] (lit (.bool true)) := lit_dec (p := xs = xs) rfl ▸ sameN_pu xs xs hx hx
theorem sameI_t (s : Bool) (xs : List Nat) (hx : xs.length ≤ 1000000000) : Pu Tryz.prog 93 [raw s xs, raw s xs] (lit (.bool true)) := lit_dec (p := s = s ∧ xs = xs) ⟨rfl, rfl⟩ ▸ sameI_pu s s xs xs hx hx
theorem sameQ_t (s : Bool) (xs ys : List Nat) (hx : xs.length ≤ 1000000000) (hy : ys.length ≤ 1000000000) : Pu Tryz.prog 55 [qraw s xs ys, qraw s xs ys] (lit (.bool true)) := by
  refine Pu.intro Tryz.func55 rfl (by kernel_rfl) fun C => ?_
  repeat (first | (refine A1 ⟨?_⟩; intros) | (refine Wcx (sameN_t _ hy) ?_) | (refine Wdcx (sameN_t _ hy) ?_) | (refine Wcgx (sameN_t _ hy) ?_) | (refine Wdcgx (sameN_t _ hy) ?_) | (refine Wcx (sameI_t _ _ hx) ?_) | (refine Wdcx (sameI_t _ _ hx) ?_) | (refine Wcgx (sameI_t _ _ hx) ?_) | (refine Wdcgx (sameI_t _ _ hx) ?_))
  ((first | refine endR ?_ | refine endN ?_); exact end1 (RV.tmp rfl) (Le.refl _))
theorem sameq_pu (x : Rat) (h : ht x ≤ 1000000000) : Pu Tryz.prog 55 [q x, q x] (lit (.bool true)) := by
  have h1 := ht_num x
  have h2 := ht_den x
  exact sameQ_t _ _ _ (by have : il x.num = (dgs x.num.natAbs).length := rfl; omega) (by omega)
theorem toQ_pu (x : Rat) (h : ht x ≤ 100000000) : Pu Tryz.prog 49 [rq x] (q x) := by
  have h1 := ht_num x
  have h2 := ht_den x
  refine Pu.intro Tryz.func49 rfl (by kernel_rfl) fun C => ?_
  repeat (first | (refine A1 ⟨?_⟩; intros) | (refine Wcx (toI_pu _ (by omega)) ?_) | (refine Wdcx (toI_pu _ (by omega)) ?_) | (refine Wcgx (toI_pu _ (by omega)) ?_) | (refine Wdcgx (toI_pu _ (by omega)) ?_) | (refine Wcx (rden_pu x) ?_) | (refine Wdcx (rden_pu x) ?_) | (refine Wcgx (rden_pu x) ?_) | (refine Wdcgx (rden_pu x) ?_) | (refine Wcx (toN_pu _ (by omega)) ?_) | (refine Wdcx (toN_pu _ (by omega)) ?_) | (refine Wcgx (toN_pu _ (by omega)) ?_) | (refine Wdcgx (toN_pu _ (by omega)) ?_))
  ((first | refine endR ?_ | refine endN ?_); refine end1 (RV.cellA rfl (by (first | exact List.mem_cons_self | exact (List.mem_cons_of_mem _ List.mem_cons_self) | exact (List.mem_cons_of_mem _ (List.mem_cons_of_mem _ List.mem_cons_self)) | exact (List.mem_cons_of_mem _ (List.mem_cons_of_mem _ (List.mem_cons_of_mem _ List.mem_cons_self))) | exact (List.mem_cons_of_mem _ (List.mem_cons_of_mem _ (List.mem_cons_of_mem _ (List.mem_cons_of_mem _ List.mem_cons_self)))) | exact (List.mem_cons_of_mem _ (List.mem_cons_of_mem _ (List.mem_cons_of_mem _ (List.mem_cons_of_mem _ (List.mem_cons_of_mem _ List.mem_cons_self))))) | exact (List.mem_cons_of_mem _ (List.mem_cons_of_mem _ (List.mem_cons_of_mem _ (List.mem_cons_of_mem _ (List.mem_cons_of_mem _ (List.mem_cons_of_mem _ List.mem_cons_self)))))) | exact (List.mem_cons_of_mem _ (List.mem_cons_of_mem _ (List.mem_cons_of_mem _ (List.mem_cons_of_mem _ (List.mem_cons_of_mem _ (List.mem_cons_of_mem _ (List.mem_cons_of_mem _ List.mem_cons_self))))))))) (by (first | (simp only [List.drop_succ_cons, List.drop_zero, List.drop_nil, List.take_succ_cons, List.take_zero, List.take_nil, Nat.zero_add, Nat.add_zero, Nat.reduceAdd]; done) | (simp only [List.drop_succ_cons, List.drop_zero, List.drop_nil, List.take_succ_cons, List.take_zero, List.take_nil, Nat.zero_add, Nat.add_zero, Nat.reduceAdd]; exact rfl) | exact rfl)) rfl) (Le.refl _))
theorem rq_zero : rq 0 = ag [lit (.bool false), nat 0, dg []] := by rw [rq, show (0 : Rat).num = 0 from rfl, show (0 : Rat).den = 1 from rfl, dden_one]; rfl
theorem q_pu {r : RQ} {L : Nat} (h : r.ok L) (hL : L ≤ 1000000) : Pu Tryz.prog 21 [qr r] (rq r.v) := by
  obtain ⟨h1, h2, h3, h4⟩ := h
  have hl := dlen_val h2
  have hi := il_sv (s := r.s) h1
  by_cases h0 : val r.d = 0
  · have hv : r.v = 0 := by unfold RQ.v; rw [h0]; exact Rat.mkRat_zero _
    rw [hv, rq_zero]
    have hn := n_pu r.d (by omega) h2
    rw [h0] at hn
    have hl0 : (dgs 0).length = 0 := by rw [dgs_zero]; rfl
    refine Pu.intro Tryz.func21 rfl (by kernel_rfl) fun C => ?_
    repeat (first | (refine A1 ⟨?_⟩; intros) | (refine Wcx (hn) ?_) | (refine Wdcx (hn) ?_) | (refine Wcgx (hn) ?_) | (refine Wdcgx (hn) ?_))
    refine endR (end1 (RV.cellA rfl List.mem_cons_self rfl rfl) (Le.ag ⟨Le.refl _, ?_, le_nil, trivial⟩))
    rw [show nat 0 = dg [] from by show dg (dgs 0) = _; rw [dgs_zero]]
    exact le_nil
  · have hp := dgs_len_pos h0
    refine Pu.intro Tryz.func21 rfl (by kernel_rfl) fun C => ?_
    repeat (first | (refine A1 ⟨?_⟩; intros) | (refine Wcx (n_pu r.d (by omega) h2) ?_) | (refine Wdcx (n_pu r.d (by omega) h2) ?_) | (refine Wcgx (n_pu r.d (by omega) h2) ?_) | (refine Wdcgx (n_pu r.d (by omega) h2) ?_) | (refine Wcx (i_pu _ _ (by omega) h1) ?_) | (refine Wdcx (i_pu _ _ (by omega) h1) ?_) | (refine Wcgx (i_pu _ _ (by omega) h1) ?_) | (refine Wdcgx (i_pu _ _ (by omega) h1) ?_) | (refine Wcx (rfrac_pu _ _ (by omega) (by omega) h0) ?_) | (refine Wdcx (rfrac_pu _ _ (by omega) (by omega) h0) ?_) | (refine Wcgx (rfrac_pu _ _ (by omega) (by omega) h0) ?_) | (refine Wdcgx (rfrac_pu _ _ (by omega) (by omega) h0) ?_))
    ((first | refine endR ?_ | refine endN ?_); refine end1 (RV.cellA rfl (by (first | exact List.mem_cons_self | exact (List.mem_cons_of_mem _ List.mem_cons_self) | exact (List.mem_cons_of_mem _ (List.mem_cons_of_mem _ List.mem_cons_self)) | exact (List.mem_cons_of_mem _ (List.mem_cons_of_mem _ (List.mem_cons_of_mem _ List.mem_cons_self))) | exact (List.mem_cons_of_mem _ (List.mem_cons_of_mem _ (List.mem_cons_of_mem _ (List.mem_cons_of_mem _ List.mem_cons_self)))) | exact (List.mem_cons_of_mem _ (List.mem_cons_of_mem _ (List.mem_cons_of_mem _ (List.mem_cons_of_mem _ (List.mem_cons_of_mem _ List.mem_cons_self))))) | exact (List.mem_cons_of_mem _ (List.mem_cons_of_mem _ (List.mem_cons_of_mem _ (List.mem_cons_of_mem _ (List.mem_cons_of_mem _ (List.mem_cons_of_mem _ List.mem_cons_self)))))) | exact (List.mem_cons_of_mem _ (List.mem_cons_of_mem _ (List.mem_cons_of_mem _ (List.mem_cons_of_mem _ (List.mem_cons_of_mem _ (List.mem_cons_of_mem _ (List.mem_cons_of_mem _ List.mem_cons_self))))))))) (by (first | (simp only [List.drop_succ_cons, List.drop_zero, List.drop_nil, List.take_succ_cons, List.take_zero, List.take_nil, Nat.zero_add, Nat.add_zero, Nat.reduceAdd]; done) | (simp only [List.drop_succ_cons, List.drop_zero, List.drop_nil, List.take_succ_cons, List.take_zero, List.take_nil, Nat.zero_add, Nat.add_zero, Nat.reduceAdd]; exact rfl) | exact rfl)) rfl) (Le.refl _))
end Go.Ab
/- The references of layers 4 and 26: points and maps. -/
namespace Go.Ab
open Go.Proofs
set_option linter.unusedSectionVars false
set_option linter.unusedVariables false
set_option linter.unusedSimpArgs false
variable [Base]
abbrev rp (x y : Rat) : SV := ag [lit (.bool (decide (x.num < 0))), nat x.num.natAbs, dg (dden x.den), lit (.bool (decide (y.num < 0))), nat y.num.natAbs, dg (dden y.den)]
theorem toP_pu (x y : Rat) (hx : ht x ≤ 100000000) (hy : ht y ≤ 100000000) : Pu Tryz.prog 11 [rp x y] (pq x y) := by
  refine Pu.intro Tryz.func11 rfl (by kernel_rfl) fun C => ?_
  repeat (first | (refine A1 ⟨?_⟩; intros) | (refine Wcx (toQ_pu _ hx) ?_) | (refine Wdcx (toQ_pu _ hx) ?_) | (refine Wcgx (toQ_pu _ hx) ?_) | (refine Wdcgx (toQ_pu _ hx) ?_) | (refine Wcx (toQ_pu _ hy) ?_) | (refine Wdcx (toQ_pu _ hy) ?_) | (refine Wcgx (toQ_pu _ hy) ?_) | (refine Wdcgx (toQ_pu _ hy) ?_))
  ((first | refine endR ?_ | refine endN ?_); refine end1 (RV.cellA rfl (by (first | exact List.mem_cons_self | exact (List.mem_cons_of_mem _ List.mem_cons_self) | exact (List.mem_cons_of_mem _ (List.mem_cons_of_mem _ List.mem_cons_self)) | exact (List.mem_cons_of_mem _ (List.mem_cons_of_mem _ (List.mem_cons_of_mem _ List.mem_cons_self))) | exact (List.mem_cons_of_mem _ (List.mem_cons_of_mem _ (List.mem_cons_of_mem _ (List.mem_cons_of_mem _ List.mem_cons_self)))) | exact (List.mem_cons_of_mem _ (List.mem_cons_of_mem _ (List.mem_cons_of_mem _ (List.mem_cons_of_mem _ (List.mem_cons_of_mem _ List.mem_cons_self))))) | exact (List.mem_cons_of_mem _ (List.mem_cons_of_mem _ (List.mem_cons_of_mem _ (List.mem_cons_of_mem _ (List.mem_cons_of_mem _ (List.mem_cons_of_mem _ List.mem_cons_self)))))) | exact (List.mem_cons_of_mem _ (List.mem_cons_of_mem _ (List.mem_cons_of_mem _ (List.mem_cons_of_mem _ (List.mem_cons_of_mem _ (List.mem_cons_of_mem _ (List.mem_cons_of_mem _ List.mem_cons_self))))))))) (by (first | (simp only [List.drop_succ_cons, List.drop_zero, List.drop_nil, List.take_succ_cons, List.take_zero, List.take_nil, Nat.zero_add, Nat.add_zero, Nat.reduceAdd]; done) | (simp only [List.drop_succ_cons, List.drop_zero, List.drop_nil, List.take_succ_cons, List.take_zero, List.take_nil, Nat.zero_add, Nat.add_zero, Nat.reduceAdd]; exact rfl) | exact rfl)) rfl) (Le.refl _))
theorem pt_pu {a b : RQ} {L : Nat} (ha : a.ok L) (hb : b.ok L) (hL : L ≤ 1000000) : Pu Tryz.prog 263 [pr a b] (rp a.v b.v) := by
  refine Pu.intro Tryz.func263 rfl (by kernel_rfl) fun C => ?_
  repeat (first | (refine A1 ⟨?_⟩; intros) | (refine Wcx (q_pu ha hL) ?_) | (refine Wdcx (q_pu ha hL) ?_) | (refine Wcgx (q_pu ha hL) ?_) | (refine Wdcgx (q_pu ha hL) ?_) | (refine Wcx (q_pu hb hL) ?_) | (refine Wdcx (q_pu hb hL) ?_) | (refine Wcgx (q_pu hb hL) ?_) | (refine Wdcgx (q_pu hb hL) ?_))
  ((first | refine endR ?_ | refine endN ?_); refine end1 (RV.cellA rfl (by (first | exact List.mem_cons_self | exact (List.mem_cons_of_mem _ List.mem_cons_self) | exact (List.mem_cons_of_mem _ (List.mem_cons_of_mem _ List.mem_cons_self)) | exact (List.mem_cons_of_mem _ (List.mem_cons_of_mem _ (List.mem_cons_of_mem _ List.mem_cons_self))) | exact (List.mem_cons_of_mem _ (List.mem_cons_of_mem _ (List.mem_cons_of_mem _ (List.mem_cons_of_mem _ List.mem_cons_self)))) | exact (List.mem_cons_of_mem _ (List.mem_cons_of_mem _ (List.mem_cons_of_mem _ (List.mem_cons_of_mem _ (List.mem_cons_of_mem _ List.mem_cons_self))))) | exact (List.mem_cons_of_mem _ (List.mem_cons_of_mem _ (List.mem_cons_of_mem _ (List.mem_cons_of_mem _ (List.mem_cons_of_mem _ (List.mem_cons_of_mem _ List.mem_cons_self)))))) | exact (List.mem_cons_of_mem _ (List.mem_cons_of_mem _ (List.mem_cons_of_mem _ (List.mem_cons_of_mem _ (List.mem_cons_of_mem _ (List.mem_cons_of_mem _ (List.mem_cons_of_mem _ List.mem_cons_self))))))))) (by (first | (simp only [List.drop_succ_cons, List.drop_zero, List.drop_nil, List.take_succ_cons, List.take_zero, List.take_nil, Nat.zero_add, Nat.add_zero, Nat.reduceAdd]; done) | (simp only [List.drop_succ_cons, List.drop_zero, List.drop_nil, List.take_succ_cons, List.take_zero, List.take_nil, Nat.zero_add, Nat.add_zero, Nat.reduceAdd]; exact rfl) | exact rfl)) rfl) (Le.refl _))
theorem sameP_pu (x y : Rat) (hx : ht x ≤ 100000000) (hy : ht y ≤ 100000000) : Pu Tryz.prog 15 [pq x y, pq x y] (lit (.bool true)) := by
  refine Pu.intro Tryz.func15 rfl (by kernel_rfl) fun C => ?_
  repeat (first | (refine A1 ⟨?_⟩; intros) | (refine Wcx (sameq_pu _ (Nat.le_trans hx (by omega))) ?_) | (refine Wdcx (sameq_pu _ (Nat.le_trans hx (by omega))) ?_) | (refine Wcgx (sameq_pu _ (Nat.le_trans hx (by omega))) ?_) | (refine Wdcgx (sameq_pu _ (Nat.le_trans hx (by omega))) ?_) | (refine Wcx (sameq_pu _ (Nat.le_trans hy (by omega))) ?_) | (refine Wdcx (sameq_pu _ (Nat.le_trans hy (by omega))) ?_) | (refine Wcgx (sameq_pu _ (Nat.le_trans hy (by omega))) ?_) | (refine Wdcgx (sameq_pu _ (Nat.le_trans hy (by omega))) ?_))
  ((first | refine endR ?_ | refine endN ?_); exact end1 (RV.tmp rfl) (Le.refl _))
theorem xy_pu (a b : Int) (ha : -9223372036854775808 ≤ a) (ha' : a ≤ 9223372036854775807) (hb : -9223372036854775808 ≤ b) (hb' : b ≤ 9223372036854775807) : Pu Tryz.prog 65 [lit (.int .i64 a), lit (.int .i64 b)] (rp (a : Rat) (b : Rat)) := by
  refine Pu.intro Tryz.func65 rfl (by kernel_rfl) fun C => ?_
  repeat (first | (refine A1 ⟨?_⟩; intros) | (refine Wcx (rof_pu a ha ha') ?_) | (refine Wdcx (rof_pu a ha ha') ?_) | (refine Wcgx (rof_pu a ha ha') ?_) | (refine Wdcgx (rof_pu a ha ha') ?_) | (refine Wcx (rof_pu b hb hb') ?_) | (refine Wdcx (rof_pu b hb hb') ?_) | (refine Wcgx (rof_pu b hb hb') ?_) | (refine Wdcgx (rof_pu b hb hb') ?_))
  ((first | refine endR ?_ | refine endN ?_); refine end1 (RV.cellA rfl (by (first | exact List.mem_cons_self | exact (List.mem_cons_of_mem _ List.mem_cons_self) | exact (List.mem_cons_of_mem _ (List.mem_cons_of_mem _ List.mem_cons_self)) | exact (List.mem_cons_of_mem _ (List.mem_cons_of_mem _ (List.mem_cons_of_mem _ List.mem_cons_self))) | exact (List.mem_cons_of_mem _ (List.mem_cons_of_mem _ (List.mem_cons_of_mem _ (List.mem_cons_of_mem _ List.mem_cons_self)))) | exact (List.mem_cons_of_mem _ (List.mem_cons_of_mem _ (List.mem_cons_of_mem _ (List.mem_cons_of_mem _ (List.mem_cons_of_mem _ List.mem_cons_self))))) | exact (List.mem_cons_of_mem _ (List.mem_cons_of_mem _ (List.mem_cons_of_mem _ (List.mem_cons_of_mem _ (List.mem_cons_of_mem _ (List.mem_cons_of_mem _ List.mem_cons_self)))))) | exact (List.mem_cons_of_mem _ (List.mem_cons_of_mem _ (List.mem_cons_of_mem _ (List.mem_cons_of_mem _ (List.mem_cons_of_mem _ (List.mem_cons_of_mem _ (List.mem_cons_of_mem _ List.mem_cons_self))))))))) (by (first | (simp only [List.drop_succ_cons, List.drop_zero, List.drop_nil, List.take_succ_cons, List.take_zero, List.take_nil, Nat.zero_add, Nat.add_zero, Nat.reduceAdd]; done) | (simp only [List.drop_succ_cons, List.drop_zero, List.drop_nil, List.take_succ_cons, List.take_zero, List.take_nil, Nat.zero_add, Nat.add_zero, Nat.reduceAdd]; exact rfl) | exact rfl)) rfl) (Le.refl _))
theorem gadd_pu (x y k u v : Rat) (hx : ht x ≤ 1000000) (hy : ht y ≤ 1000000) (hk : ht k ≤ 1000000) (hu : ht u ≤ 1000000) (hv : ht v ≤ 1000000) : Pu Tryz.prog 78 [rp x y, rq k, rp u v] (rp (x + k * u) (y + k * v)) := by
  have h1 := ht_mul k u
  have h2 := ht_mul k v
  refine Pu.intro Tryz.func78 rfl (by kernel_rfl) fun C => ?_
  repeat (first | (refine A1 ⟨?_⟩; intros) | (refine Wcx (rtimes_pu k u (by omega) (by omega)) ?_) | (refine Wdcx (rtimes_pu k u (by omega) (by omega)) ?_) | (refine Wcgx (rtimes_pu k u (by omega) (by omega)) ?_) | (refine Wdcgx (rtimes_pu k u (by omega) (by omega)) ?_) | (refine Wcx (rplus_pu x (k * u) (by omega) (by omega)) ?_) | (refine Wdcx (rplus_pu x (k * u) (by omega) (by omega)) ?_) | (refine Wcgx (rplus_pu x (k * u) (by omega) (by omega)) ?_) | (refine Wdcgx (rplus_pu x (k * u) (by omega) (by omega)) ?_) | (refine Wcx (rtimes_pu k v (by omega) (by omega)) ?_) | (refine Wdcx (rtimes_pu k v (by omega) (by omega)) ?_) | (refine Wcgx (rtimes_pu k v (by omega) (by omega)) ?_) | (refine Wdcgx (rtimes_pu k v (by omega) (by omega)) ?_) | (refine Wcx (rplus_pu y (k * v) (by omega) (by omega)) ?_) | (refine Wdcx (rplus_pu y (k * v) (by omega) (by omega)) ?_) | (refine Wcgx (rplus_pu y (k * v) (by omega) (by omega)) ?_) | (refine Wdcgx (rplus_pu y (k * v) (by omega) (by omega)) ?_))
  ((first | refine endR ?_ | refine endN ?_); refine end1 (RV.cellA rfl (by (first | exact List.mem_cons_self | exact (List.mem_cons_of_mem _ List.mem_cons_self) | exact (List.mem_cons_of_mem _ (List.mem_cons_of_mem _ List.mem_cons_self)) | exact (List.mem_cons_of_mem _ (List.mem_cons_of_mem _ (List.mem_cons_of_mem _ List.mem_cons_self))) | exact (List.mem_cons_of_mem _ (List.mem_cons_of_mem _ (List.mem_cons_of_mem _ (List.mem_cons_of_mem _ List.mem_cons_self)))) | exact (List.mem_cons_of_mem _ (List.mem_cons_of_mem _ (List.mem_cons_of_mem _ (List.mem_cons_of_mem _ (List.mem_cons_of_mem _ List.mem_cons_self))))) | exact (List.mem_cons_of_mem _ (List.mem_cons_of_mem _ (List.mem_cons_of_mem _ (List.mem_cons_of_mem _ (List.mem_cons_of_mem _ (List.mem_cons_of_mem _ List.mem_cons_self)))))) | exact (List.mem_cons_of_mem _ (List.mem_cons_of_mem _ (List.mem_cons_of_mem _ (List.mem_cons_of_mem _ (List.mem_cons_of_mem _ (List.mem_cons_of_mem _ (List.mem_cons_of_mem _ List.mem_cons_self))))))))) (by (first | (simp only [List.drop_succ_cons, List.drop_zero, List.drop_nil, List.take_succ_cons, List.take_zero, List.take_nil, Nat.zero_add, Nat.add_zero, Nat.reduceAdd]; done) | (simp only [List.drop_succ_cons, List.drop_zero, List.drop_nil, List.take_succ_cons, List.take_zero, List.take_nil, Nat.zero_add, Nat.add_zero, Nat.reduceAdd]; exact rfl) | exact rfl)) rfl) (Le.refl _))
abbrev rm (m : M6 Rat) : SV := ag [lit (.bool (decide (m.a.num < 0))), nat m.a.num.natAbs, dg (dden m.a.den), lit (.bool (decide (m.b.num < 0))), nat m.b.num.natAbs, dg (dden m.b.den), lit (.bool (decide (m.c.num < 0))), nat m.c.num.natAbs, dg (dden m.c.den),
  lit (.bool (decide (m.d.num < 0))), nat m.d.num.natAbs, dg (dden m.d.den), lit (.bool (decide (m.e.num < 0))), nat m.e.num.natAbs, dg (dden m.e.den), lit (.bool (decide (m.f.num < 0))), nat m.f.num.natAbs, dg (dden m.f.den)]
theorem writeM_pu {m : M6 Rat} {L : Nat} (h : m.le L) (hL : L ≤ 1000000) : Pu Tryz.prog 9 [rm m] (mq m) := by
  obtain ⟨ha, hb, hc, hd, he, hf⟩ := h
  refine Pu.intro Tryz.func9 rfl (by kernel_rfl) fun C => ?_
  repeat (first | (refine A1 ⟨?_⟩; intros) | (refine Wcx (toQ_pu m.a (by omega)) ?_) | (refine Wdcx (toQ_pu m.a (by omega)) ?_) | (refine Wcgx (toQ_pu m.a (by omega)) ?_) | (refine Wdcgx (toQ_pu m.a (by omega)) ?_) | (refine Wcx (toQ_pu m.b (by omega)) ?_) | (refine Wdcx (toQ_pu m.b (by omega)) ?_) | (refine Wcgx (toQ_pu m.b (by omega)) ?_) | (refine Wdcgx (toQ_pu m.b (by omega)) ?_) | (refine Wcx (toQ_pu m.c (by omega)) ?_) | (refine Wdcx (toQ_pu m.c (by omega)) ?_) | (refine Wcgx (toQ_pu m.c (by omega)) ?_) | (refine Wdcgx (toQ_pu m.c (by omega)) ?_) | (refine Wcx (toQ_pu m.d (by omega)) ?_) | (refine Wdcx (toQ_pu m.d (by omega)) ?_) | (refine Wcgx (toQ_pu m.d (by omega)) ?_) | (refine Wdcgx (toQ_pu m.d (by omega)) ?_) | (refine Wcx (toQ_pu m.e (by omega)) ?_) | (refine Wdcx (toQ_pu m.e (by omega)) ?_) | (refine Wcgx (toQ_pu m.e (by omega)) ?_) | (refine Wdcgx (toQ_pu m.e (by omega)) ?_) | (refine Wcx (toQ_pu m.f (by omega)) ?_) | (refine Wdcx (toQ_pu m.f (by omega)) ?_) | (refine Wcgx (toQ_pu m.f (by omega)) ?_) | (refine Wdcgx (toQ_pu m.f (by omega)) ?_))
  ((first | refine endR ?_ | refine endN ?_); refine end1 (RV.cellA rfl (by (first | exact List.mem_cons_self | exact (List.mem_cons_of_mem _ List.mem_cons_self) | exact (List.mem_cons_of_mem _ (List.mem_cons_of_mem _ List.mem_cons_self)) | exact (List.mem_cons_of_mem _ (List.mem_cons_of_mem _ (List.mem_cons_of_mem _ List.mem_cons_self))) | exact (List.mem_cons_of_mem _ (List.mem_cons_of_mem _ (List.mem_cons_of_mem _ (List.mem_cons_of_mem _ List.mem_cons_self)))) | exact (List.mem_cons_of_mem _ (List.mem_cons_of_mem _ (List.mem_cons_of_mem _ (List.mem_cons_of_mem _ (List.mem_cons_of_mem _ List.mem_cons_self))))) | exact (List.mem_cons_of_mem _ (List.mem_cons_of_mem _ (List.mem_cons_of_mem _ (List.mem_cons_of_mem _ (List.mem_cons_of_mem _ (List.mem_cons_of_mem _ List.mem_cons_self)))))) | exact (List.mem_cons_of_mem _ (List.mem_cons_of_mem _ (List.mem_cons_of_mem _ (List.mem_cons_of_mem _ (List.mem_cons_of_mem _ (List.mem_cons_of_mem _ (List.mem_cons_of_mem _ List.mem_cons_self))))))))) (by (first | (simp only [List.drop_succ_cons, List.drop_zero, List.drop_nil, List.take_succ_cons, List.take_zero, List.take_nil, Nat.zero_add, Nat.add_zero, Nat.reduceAdd]; done) | (simp only [List.drop_succ_cons, List.drop_zero, List.drop_nil, List.take_succ_cons, List.take_zero, List.take_nil, Nat.zero_add, Nat.add_zero, Nat.reduceAdd]; exact rfl) | exact rfl)) rfl) (Le.refl _))
theorem mdet_pu {m : M6 Rat} {L : Nat} (h : m.le L) (hL : L ≤ 1000000) : Pu Tryz.prog 31 [rm m] (rq (m.a * m.e - m.b * m.d)) := by
  obtain ⟨ha, hb, hc, hd, he, hf⟩ := h
  have h1 := ht_mul m.a m.e
  have h2 := ht_mul m.b m.d
  refine Pu.intro Tryz.func31 rfl (by kernel_rfl) fun C => ?_
  repeat (first | (refine A1 ⟨?_⟩; intros) | (refine Wcx (rtimes_pu m.a m.e (by omega) (by omega)) ?_) | (refine Wdcx (rtimes_pu m.a m.e (by omega) (by omega)) ?_) | (refine Wcgx (rtimes_pu m.a m.e (by omega) (by omega)) ?_) | (refine Wdcgx (rtimes_pu m.a m.e (by omega) (by omega)) ?_) | (refine Wcx (rtimes_pu m.b m.d (by omega) (by omega)) ?_) | (refine Wdcx (rtimes_pu m.b m.d (by omega) (by omega)) ?_) | (refine Wcgx (rtimes_pu m.b m.d (by omega) (by omega)) ?_) | (refine Wdcgx (rtimes_pu m.b m.d (by omega) (by omega)) ?_) | (refine Wcx (rqsub_pu _ _ (by omega) (by omega)) ?_) | (refine Wdcx (rqsub_pu _ _ (by omega) (by omega)) ?_) | (refine Wcgx (rqsub_pu _ _ (by omega) (by omega)) ?_) | (refine Wdcgx (rqsub_pu _ _ (by omega) (by omega)) ?_))
  ((first | refine endR ?_ | refine endN ?_); refine end1 (RV.cellA rfl (by (first | exact List.mem_cons_self | exact (List.mem_cons_of_mem _ List.mem_cons_self) | exact (List.mem_cons_of_mem _ (List.mem_cons_of_mem _ List.mem_cons_self)) | exact (List.mem_cons_of_mem _ (List.mem_cons_of_mem _ (List.mem_cons_of_mem _ List.mem_cons_self))) | exact (List.mem_cons_of_mem _ (List.mem_cons_of_mem _ (List.mem_cons_of_mem _ (List.mem_cons_of_mem _ List.mem_cons_self)))) | exact (List.mem_cons_of_mem _ (List.mem_cons_of_mem _ (List.mem_cons_of_mem _ (List.mem_cons_of_mem _ (List.mem_cons_of_mem _ List.mem_cons_self))))) | exact (List.mem_cons_of_mem _ (List.mem_cons_of_mem _ (List.mem_cons_of_mem _ (List.mem_cons_of_mem _ (List.mem_cons_of_mem _ (List.mem_cons_of_mem _ List.mem_cons_self)))))) | exact (List.mem_cons_of_mem _ (List.mem_cons_of_mem _ (List.mem_cons_of_mem _ (List.mem_cons_of_mem _ (List.mem_cons_of_mem _ (List.mem_cons_of_mem _ (List.mem_cons_of_mem _ List.mem_cons_self))))))))) (by (first | (simp only [List.drop_succ_cons, List.drop_zero, List.drop_nil, List.take_succ_cons, List.take_zero, List.take_nil, Nat.zero_add, Nat.add_zero, Nat.reduceAdd]; done) | (simp only [List.drop_succ_cons, List.drop_zero, List.drop_nil, List.take_succ_cons, List.take_zero, List.take_nil, Nat.zero_add, Nat.add_zero, Nat.reduceAdd]; exact rfl) | exact rfl)) rfl) (Le.refl _))
theorem mvector_pu {m : M6 Rat} {L : Nat} (h : m.le L) (hL : L ≤ 100000) (x y : Rat) (hx : ht x ≤ L) (hy : ht y ≤ L) : Pu Tryz.prog 157 [rm m, rp x y] (rp (m.a * x + m.b * y) (m.d * x + m.e * y)) := by
  obtain ⟨ha, hb, hc, hd, he, hf⟩ := h
  have h1 := ht_mul m.a x
  have h2 := ht_mul m.b y
  have h3 := ht_mul m.d x
  have h4 := ht_mul m.e y
  refine Pu.intro Tryz.func157 rfl (by kernel_rfl) fun C => ?_
  repeat (first | (refine A1 ⟨?_⟩; intros) | (refine Wcx (rtimes_pu m.a x (by omega) (by omega)) ?_) | (refine Wdcx (rtimes_pu m.a x (by omega) (by omega)) ?_) | (refine Wcgx (rtimes_pu m.a x (by omega) (by omega)) ?_) | (refine Wdcgx (rtimes_pu m.a x (by omega) (by omega)) ?_) | (refine Wcx (rtimes_pu m.b y (by omega) (by omega)) ?_) | (refine Wdcx (rtimes_pu m.b y (by omega) (by omega)) ?_) | (refine Wcgx (rtimes_pu m.b y (by omega) (by omega)) ?_) | (refine Wdcgx (rtimes_pu m.b y (by omega) (by omega)) ?_) | (refine Wcx (rtimes_pu m.d x (by omega) (by omega)) ?_) | (refine Wdcx (rtimes_pu m.d x (by omega) (by omega)) ?_) | (refine Wcgx (rtimes_pu m.d x (by omega) (by omega)) ?_) | (refine Wdcgx (rtimes_pu m.d x (by omega) (by omega)) ?_) | (refine Wcx (rtimes_pu m.e y (by omega) (by omega)) ?_) | (refine Wdcx (rtimes_pu m.e y (by omega) (by omega)) ?_) | (refine Wcgx (rtimes_pu m.e y (by omega) (by omega)) ?_) | (refine Wdcgx (rtimes_pu m.e y (by omega) (by omega)) ?_) | (refine Wcx (rplus_pu _ _ (by omega) (by omega)) ?_) | (refine Wdcx (rplus_pu _ _ (by omega) (by omega)) ?_) | (refine Wcgx (rplus_pu _ _ (by omega) (by omega)) ?_) | (refine Wdcgx (rplus_pu _ _ (by omega) (by omega)) ?_))
  ((first | refine endR ?_ | refine endN ?_); refine end1 (RV.cellA rfl (by (first | exact List.mem_cons_self | exact (List.mem_cons_of_mem _ List.mem_cons_self) | exact (List.mem_cons_of_mem _ (List.mem_cons_of_mem _ List.mem_cons_self)) | exact (List.mem_cons_of_mem _ (List.mem_cons_of_mem _ (List.mem_cons_of_mem _ List.mem_cons_self))) | exact (List.mem_cons_of_mem _ (List.mem_cons_of_mem _ (List.mem_cons_of_mem _ (List.mem_cons_of_mem _ List.mem_cons_self)))) | exact (List.mem_cons_of_mem _ (List.mem_cons_of_mem _ (List.mem_cons_of_mem _ (List.mem_cons_of_mem _ (List.mem_cons_of_mem _ List.mem_cons_self))))) | exact (List.mem_cons_of_mem _ (List.mem_cons_of_mem _ (List.mem_cons_of_mem _ (List.mem_cons_of_mem _ (List.mem_cons_of_mem _ (List.mem_cons_of_mem _ List.mem_cons_self)))))) | exact (List.mem_cons_of_mem _ (List.mem_cons_of_mem _ (List.mem_cons_of_mem _ (List.mem_cons_of_mem _ (List.mem_cons_of_mem _ (List.mem_cons_of_mem _ (List.mem_cons_of_mem _ List.mem_cons_self))))))))) (by (first | (simp only [List.drop_succ_cons, List.drop_zero, List.drop_nil, List.take_succ_cons, List.take_zero, List.take_nil, Nat.zero_add, Nat.add_zero, Nat.reduceAdd]; done) | (simp only [List.drop_succ_cons, List.drop_zero, List.drop_nil, List.take_succ_cons, List.take_zero, List.take_nil, Nat.zero_add, Nat.add_zero, Nat.reduceAdd]; exact rfl) | exact rfl)) rfl) (Le.refl _))
theorem ht_one : ht 1 = 1 := by
  unfold ht
  rw [show (1 : Rat).num = 1 from rfl, show (1 : Rat).den = 1 from rfl]
  unfold il
  rw [show (1 : Int).natAbs = 1 from rfl, dgs_one]; rfl
theorem rof1 : Pu Tryz.prog 50 [lit (.int .i64 1)] (rq 1) := rof_pu 1 (by omega) (by omega)
theorem mapply_pu {m : M6 Rat} {L : Nat} (h : m.le L) (hL : L ≤ 100000) (x y : Rat) (hx : ht x ≤ L) (hy : ht y ≤ L) : Pu Tryz.prog 95 [rm m, rp x y] (rp (m.a * x + m.b * y + m.c) (m.d * x + m.e * y + m.f)) := by
  have hv := mvector_pu h hL x y hx hy
  obtain ⟨ha, hb, hc, hd, he, hf⟩ := h
  have h1 := ht_mul m.a x
  have h2 := ht_mul m.b y
  have h3 := ht_mul m.d x
  have h4 := ht_mul m.e y
  have h5 := ht_add (m.a * x) (m.b * y)
  have h6 := ht_add (m.d * x) (m.e * y)
  have h7 := ht_one
  have ha := gadd_pu (m.a * x + m.b * y) (m.d * x + m.e * y) 1 m.c m.f (by omega) (by omega) (by omega) (by omega) (by omega)
  rw [Rat.one_mul, Rat.one_mul] at ha
  refine Pu.intro Tryz.func95 rfl (by kernel_rfl) fun C => ?_
  repeat (first | (refine A1 ⟨?_⟩; intros) | (refine Wcx (hv) ?_) | (refine Wdcx (hv) ?_) | (refine Wcgx (hv) ?_) | (refine Wdcgx (hv) ?_) | (refine Wcx (rof1) ?_) | (refine Wdcx (rof1) ?_) | (refine Wcgx (rof1) ?_) | (refine Wdcgx (rof1) ?_) | (refine Wcx (ha) ?_) | (refine Wdcx (ha) ?_) | (refine Wcgx (ha) ?_) | (refine Wdcgx (ha) ?_))
  ((first | refine endR ?_ | refine endN ?_); refine end1 (RV.cellA rfl (by (first | exact List.mem_cons_self | exact (List.mem_cons_of_mem _ List.mem_cons_self) | exact (List.mem_cons_of_mem _ (List.mem_cons_of_mem _ List.mem_cons_self)) | exact (List.mem_cons_of_mem _ (List.mem_cons_of_mem _ (List.mem_cons_of_mem _ List.mem_cons_self))) | exact (List.mem_cons_of_mem _ (List.mem_cons_of_mem _ (List.mem_cons_of_mem _ (List.mem_cons_of_mem _ List.mem_cons_self)))) | exact (List.mem_cons_of_mem _ (List.mem_cons_of_mem _ (List.mem_cons_of_mem _ (List.mem_cons_of_mem _ (List.mem_cons_of_mem _ List.mem_cons_self))))) | exact (List.mem_cons_of_mem _ (List.mem_cons_of_mem _ (List.mem_cons_of_mem _ (List.mem_cons_of_mem _ (List.mem_cons_of_mem _ (List.mem_cons_of_mem _ List.mem_cons_self)))))) | exact (List.mem_cons_of_mem _ (List.mem_cons_of_mem _ (List.mem_cons_of_mem _ (List.mem_cons_of_mem _ (List.mem_cons_of_mem _ (List.mem_cons_of_mem _ (List.mem_cons_of_mem _ List.mem_cons_self))))))))) (by (first | (simp only [List.drop_succ_cons, List.drop_zero, List.drop_nil, List.take_succ_cons, List.take_zero, List.take_nil, Nat.zero_add, Nat.add_zero, Nat.reduceAdd]; done) | (simp only [List.drop_succ_cons, List.drop_zero, List.drop_nil, List.take_succ_cons, List.take_zero, List.take_nil, Nat.zero_add, Nat.add_zero, Nat.reduceAdd]; exact rfl) | exact rfl)) rfl) (Le.refl _))
end Go.Ab
/- The scenes: how long numbers are. -/
namespace Go.Ab
open Go.Proofs
set_option linter.unusedSectionVars false
set_option linter.unusedVariables false
set_option linter.unusedSimpArgs false
variable [Base]
abbrev qcells (r : RQ) : List SV := [lit (.bool r.s), dg r.n, dg r.d]
def RQ.short (n : Nat) (r : RQ) : Prop := r.n.length ≤ n ∧ r.d.length ≤ n
instance (n : Nat) (r : RQ) : Decidable (r.short n) := by unfold RQ.short; infer_instance
theorem qcells_len (r : RQ) : (qcells r).length = 3 := rfl
theorem take_snoc {α : Type} {l : List α} {k : Nat} {a : α} (h : l[k]? = some a) : l.take (k + 1) = l.take k ++ [a] := by
  obtain ⟨h1, h2⟩ := List.getElem?_eq_some_iff.1 h
  rw [List.take_succ_eq_append_getElem h1, h2]
theorem smallQ_pu (n : Nat) (hn : n ≤ 1000000000) (rs : List RQ) (hl : rs.length ≤ 1000000000) : Pu Tryz.prog 98 [lit (.int .i64 n), sl (rs.map qcells).flatten rs.length] (lit (.bool (decide (∀ r ∈ rs, r.short n)))) := by
  refine Pu.intro Tryz.func98 rfl (by kernel_rfl) fun C => ?_
  repeat (refine A1 ⟨?_⟩; intros)
  refine WP.loopS (ι := Nat) (fun k => k ≤ rs.length ∧ ∀ r ∈ rs.take k, r.short n) (fun k => rs.length - k) (fun k => fm [(0, lit (.int .i64 n)), (7, sl (rs.map qcells).flatten rs.length), (8, lit (.int .i64 rs.length)), (9, lit (.int .i64 k))]) (fun _ => []) 0
    ⟨Nat.zero_le _, by simp⟩ (by (repeat (first | exact LeF.nil _ | refine LeF.cons (Le.refl _) ?_ | refine LeF.cons (Le.int (by omega)) ?_))) (List.nil_sublist _) ?_
  rintro k ⟨hk, hr⟩ K hK
  by_cases hkl : k < rs.length
  · have hget := List.getElem?_eq_getElem hkl
    generalize rs[k] = r at hget
    have hmem : r ∈ rs := List.mem_of_getElem? hget
    have hat := flat_at (f := qcells) (n := 3) qcells_len hget
    have hne : (rs.map qcells).flatten ≠ [] := flat_ne qcells_len (by omega) (fun e => by rw [e] at hkl; simp at hkl)
    by_cases h1 : r.n.length ≤ n
    · by_cases h2 : r.d.length ≤ n
      · have hK2 := hK
        repeat (refine A1 ⟨?_⟩; intros)
        refine Wo (ov_idxS (cs' := qcells r) rfl rfl (by omega) (by omega) hat hne) ?_
        repeat (refine A1 ⟨?_⟩; intros)
        refine hK _ _ (k + 1) ⟨by omega, ?_⟩ (by omega) (by (repeat (first | exact LeF.nil _ | refine LeF.cons (Le.refl _) ?_ | refine LeF.cons (Le.int (by omega)) ?_))) (List.nil_sublist _)
        rw [take_snoc hget]
        intro x hx
        rcases List.mem_append.1 hx with hx | hx
        · exact hr x hx
        · rw [List.mem_singleton] at hx; subst hx; exact ⟨h1, h2⟩
      · repeat (refine A1 ⟨?_⟩; intros)
        refine Wo (ov_idxS (cs' := qcells r) rfl rfl (by omega) (by omega) hat hne) ?_
        repeat (refine A1 ⟨?_⟩; intros)
        exact endR (end1 (RV.tmp rfl) (le_decF fun h => h2 (h r hmem).2))
    · repeat (refine A1 ⟨?_⟩; intros)
      refine Wo (ov_idxS (cs' := qcells r) rfl rfl (by omega) (by omega) hat hne) ?_
      repeat (refine A1 ⟨?_⟩; intros)
      exact endR (end1 (RV.tmp rfl) (le_decF fun h => h1 (h r hmem).1))
  · have hke : k = rs.length := by omega
    subst hke
    rw [List.take_length] at hr
    repeat (refine A1 ⟨?_⟩; intros)
    exact endR (end1 (RV.tmp rfl) (le_decT hr))
theorem smallQ_t (n : Nat) (hn : n ≤ 1000000000) (rs : List RQ) (hl : rs.length ≤ 1000000000) (h : ∀ r ∈ rs, r.short n) : Pu Tryz.prog 98 [lit (.int .i64 n), sl (rs.map qcells).flatten rs.length] (lit (.bool true)) := by
  have := smallQ_pu n hn rs hl; rwa [decide_eq_true h] at this
theorem smallQ_f (n : Nat) (hn : n ≤ 1000000000) (rs : List RQ) (hl : rs.length ≤ 1000000000) (h : ¬∀ r ∈ rs, r.short n) : Pu Tryz.prog 98 [lit (.int .i64 n), sl (rs.map qcells).flatten rs.length] (lit (.bool false)) := by
  have := smallQ_pu n hn rs hl; rwa [decide_eq_false h] at this
abbrev pcells (p : RQ × RQ) : List SV := [lit (.bool p.1.s), dg p.1.n, dg p.1.d, lit (.bool p.2.s), dg p.2.n, dg p.2.d]
theorem pcells_len (p : RQ × RQ) : (pcells p).length = 6 := rfl
theorem smallP_pu (n : Nat) (hn : n ≤ 1000000000) (ps : List (RQ × RQ)) (hl : ps.length ≤ 1000000000) : Pu Tryz.prog 39 [lit (.int .i64 n), sl (ps.map pcells).flatten ps.length] (lit (.bool (decide (∀ p ∈ ps, p.1.short n ∧ p.2.short n)))) := by
  refine Pu.intro Tryz.func39 rfl (by kernel_rfl) fun C => ?_
  repeat (refine A1 ⟨?_⟩; intros)
  refine WP.loopS (ι := Nat) (fun k => k ≤ ps.length ∧ ∀ p ∈ ps.take k, p.1.short n ∧ p.2.short n) (fun k => ps.length - k) (fun k => fm [(0, lit (.int .i64 n)), (7, sl (ps.map pcells).flatten ps.length), (8, lit (.int .i64 ps.length)), (9, lit (.int .i64 k))]) (fun _ => []) 0
    ⟨Nat.zero_le _, by simp⟩ (by (repeat (first | exact LeF.nil _ | refine LeF.cons (Le.refl _) ?_ | refine LeF.cons (Le.int (by omega)) ?_))) (List.nil_sublist _) ?_
  rintro k ⟨hk, hr⟩ K hK
  by_cases hkl : k < ps.length
  · have hget := List.getElem?_eq_getElem hkl
    generalize ps[k] = p at hget
    have hmem : p ∈ ps := List.mem_of_getElem? hget
    have hat := flat_at (f := pcells) (n := 6) pcells_len hget
    have hne : (ps.map pcells).flatten ≠ [] := flat_ne pcells_len (by omega) (fun e => by rw [e] at hkl; simp at hkl)
    by_cases h1 : ∀ r ∈ [p.1, p.2], r.short n
    · have hc := smallQ_t n hn [p.1, p.2] (by simp) h1
      have h2 := h1 p.1 (by simp)
      have h3 := h1 p.2 (by simp)
      repeat (refine A1 ⟨?_⟩; intros)
      refine Wo (ov_idxS (cs' := pcells p) rfl rfl (by omega) (by omega) hat hne) ?_
      repeat (refine A1 ⟨?_⟩; intros)
      refine WpubS 18 rfl (HDel.here _) (by omega) (by omega) ?_
      refine Wcx hc ?_
      repeat (refine A1 ⟨?_⟩; intros)
      refine hK _ _ (k + 1) ⟨by omega, ?_⟩ (by omega) (by (repeat (first | exact LeF.nil _ | refine LeF.cons (Le.refl _) ?_ | refine LeF.cons (Le.int (by omega)) ?_))) (List.nil_sublist _)
      rw [take_snoc hget]
      intro x hx
      rcases List.mem_append.1 hx with hx | hx
      · exact hr x hx
      · rw [List.mem_singleton] at hx; subst hx; exact ⟨h2, h3⟩
    · have hc := smallQ_f n hn [p.1, p.2] (by simp) h1
      repeat (refine A1 ⟨?_⟩; intros)
      refine Wo (ov_idxS (cs' := pcells p) rfl rfl (by omega) (by omega) hat hne) ?_
      repeat (refine A1 ⟨?_⟩; intros)
      refine WpubS 18 rfl (HDel.here _) (by omega) (by omega) ?_
      refine Wcx hc ?_
      repeat (refine A1 ⟨?_⟩; intros)
      exact endR (end1 (RV.tmp rfl) (le_decF fun h => h1 fun r hr => by
        have := h p hmem
        simp only [List.mem_cons, List.not_mem_nil, or_false] at hr
        rcases hr with rfl | rfl
        · exact this.1
        · exact this.2))
  · have hke : k = ps.length := by omega
    subst hke
    rw [List.take_length] at hr
    repeat (refine A1 ⟨?_⟩; intros)
    exact endR (end1 (RV.tmp rfl) (le_decT hr))
theorem smallP_t (n : Nat) (hn : n ≤ 1000000000) (ps : List (RQ × RQ)) (hl : ps.length ≤ 1000000000) (h : ∀ p ∈ ps, p.1.short n ∧ p.2.short n) : Pu Tryz.prog 39 [lit (.int .i64 n), sl (ps.map pcells).flatten ps.length] (lit (.bool true)) := by
  have := smallP_pu n hn ps hl; rwa [decide_eq_true h] at this
theorem smallP_f (n : Nat) (hn : n ≤ 1000000000) (ps : List (RQ × RQ)) (hl : ps.length ≤ 1000000000) (h : ¬∀ p ∈ ps, p.1.short n ∧ p.2.short n) : Pu Tryz.prog 39 [lit (.int .i64 n), sl (ps.map pcells).flatten ps.length] (lit (.bool false)) := by
  have := smallP_pu n hn ps hl; rwa [decide_eq_false h] at this
end Go.Ab
/- Package affine: Translation; the law AffineRough, walked. -/
namespace Go.Ab
open Go.Proofs
set_option linter.unusedSectionVars false
set_option linter.unusedVariables false
set_option linter.unusedSimpArgs false
variable [Base]
theorem small0 : small 0 := by unfold small; rw [show (0 : Rat).num = 0 from rfl, show (0 : Rat).den = 1 from rfl]; omega
theorem r0_zero : r0 0 = 0 := r0_s small0
theorem r1_zero : r1 0 = 0 := (if_pos small0).trans (by rw [show (0 : Rat).den = 1 from rfl]; rfl)
theorem r2_zero : r2 0 = lit (.pointer none) := if_pos small0
theorem ht_zero : ht 0 = 1 := by
  unfold ht il
  rw [show (0 : Rat).num = 0 from rfl, show (0 : Rat).den = 1 from rfl, show (0 : Int).natAbs = 0 from rfl, dgs_zero, dgs_one]; rfl
theorem ptOf_q (x y : Rat) (hx : ht x ≤ 100000) (hy : ht y ≤ 100000) : Pu Tryz.prog 58 [pq x y] (pp x y) := by
  have := ptOf_pu (RQ.of_ok hx) (RQ.of_ok hy) (by omega)
  rwa [RQ.of_v, RQ.of_v] at this
theorem fint1 : Pu Tryz.prog 120 [lit (.int .i64 1)] (fr 1) := fint_pu 1 (by omega) (by omega)
theorem translation_pu (x y : Rat) (hx : ht x ≤ 10000) (hy : ht y ≤ 10000) : Pu Tryz.prog 64 [pq x y] (mq ⟨1, 0, x, 0, 1, y⟩) := by
  have h0 := ht_zero
  have h1 := ht_one
  have hw := awrite_pu (m := ⟨1, 0, x, 0, 1, y⟩) (L := 10000) ⟨by simp only; omega, by simp only; omega, hx, by simp only; omega, by simp only; omega, hy⟩ (by omega)
  simp only [mf, r0_zero, r1_zero, r2_zero] at hw
  refine Pu.intro Tryz.func64 rfl (by kernel_rfl) fun C => ?_
  repeat (first | (refine A1 ⟨?_⟩; intros) | (refine Wcx (fint1) ?_) | (refine Wdcx (fint1) ?_) | (refine Wcgx (fint1) ?_) | (refine Wdcgx (fint1) ?_) | (refine Wcx (ptOf_q x y (by omega) (by omega)) ?_) | (refine Wdcx (ptOf_q x y (by omega) (by omega)) ?_) | (refine Wcgx (ptOf_q x y (by omega) (by omega)) ?_) | (refine Wdcgx (ptOf_q x y (by omega) (by omega)) ?_) | (refine Wcx (hw) ?_) | (refine Wdcx (hw) ?_) | (refine Wcgx (hw) ?_) | (refine Wdcgx (hw) ?_))
  ((first | refine endR ?_ | refine endN ?_); refine end1 (RV.cellA rfl (by (first | exact List.mem_cons_self | exact (List.mem_cons_of_mem _ List.mem_cons_self) | exact (List.mem_cons_of_mem _ (List.mem_cons_of_mem _ List.mem_cons_self)) | exact (List.mem_cons_of_mem _ (List.mem_cons_of_mem _ (List.mem_cons_of_mem _ List.mem_cons_self))) | exact (List.mem_cons_of_mem _ (List.mem_cons_of_mem _ (List.mem_cons_of_mem _ (List.mem_cons_of_mem _ List.mem_cons_self)))) | exact (List.mem_cons_of_mem _ (List.mem_cons_of_mem _ (List.mem_cons_of_mem _ (List.mem_cons_of_mem _ (List.mem_cons_of_mem _ List.mem_cons_self))))) | exact (List.mem_cons_of_mem _ (List.mem_cons_of_mem _ (List.mem_cons_of_mem _ (List.mem_cons_of_mem _ (List.mem_cons_of_mem _ (List.mem_cons_of_mem _ List.mem_cons_self)))))) | exact (List.mem_cons_of_mem _ (List.mem_cons_of_mem _ (List.mem_cons_of_mem _ (List.mem_cons_of_mem _ (List.mem_cons_of_mem _ (List.mem_cons_of_mem _ (List.mem_cons_of_mem _ List.mem_cons_self))))))))) (by (first | (simp only [List.drop_succ_cons, List.drop_zero, List.drop_nil, List.take_succ_cons, List.take_zero, List.take_nil, Nat.zero_add, Nat.add_zero, Nat.reduceAdd]; done) | (simp only [List.drop_succ_cons, List.drop_zero, List.drop_nil, List.take_succ_cons, List.take_zero, List.take_nil, Nat.zero_add, Nat.add_zero, Nat.reduceAdd]; exact rfl) | exact rfl)) rfl) (Le.refl _))
theorem sameq1 (x : Rat) (h : ht x ≤ 1000000) : Pu Tryz.prog 55 [q x, q x] (lit (.bool true)) := sameq_pu x (by omega)
/-- a rational of package api, read by the reference -/
theorem q_of (x : Rat) (h : ht x ≤ 100000) : Pu Tryz.prog 21 [q x] (rq x) := by
  have := q_pu (RQ.of_ok h) (by omega)
  rwa [RQ.of_v] at this
def M6.of (m : M6 Rat) : M6 RQ := ⟨RQ.of m.a, RQ.of m.b, RQ.of m.c, RQ.of m.d, RQ.of m.e, RQ.of m.f⟩
theorem M6.of_v (m : M6 Rat) : m.of.v = m := by
  unfold M6.of M6.v
  simp only [RQ.of_v]
theorem M6.of_ok {m : M6 Rat} {L : Nat} (h : m.le L) : m.of.ok L := ⟨RQ.of_ok h.a, RQ.of_ok h.b, RQ.of_ok h.c, RQ.of_ok h.d, RQ.of_ok h.e, RQ.of_ok h.f⟩
theorem aDet_q {m : M6 Rat} (h : m.le 10000) : Pu Tryz.prog 22 [mq m] (q (m.a * m.e - m.d * m.b)) := by
  have := aDet_pu (M6.of_ok h) (by omega)
  rwa [M6.of_v] at this
theorem aApply_q {m : M6 Rat} (h : m.le 10000) {x y : Rat} (hx : ht x ≤ 10000) (hy : ht y ≤ 10000) : Pu Tryz.prog 16 [mq m, pq x y] (pq (m.a * x + m.b * y + m.c) (m.d * x + m.e * y + m.f)) := by
  have := aApply_pu (M6.of_ok h) (by omega) (RQ.of_ok hx) (RQ.of_ok hy)
  rwa [M6.of_v, RQ.of_v, RQ.of_v] at this
theorem ht_small (z : Int) (h : z.natAbs < 4294967296) : ht (z : Rat) ≤ 1 := by
  unfold ht
  rw [Rat.num_intCast, Rat.den_intCast, dgs_one]
  have : il z ≤ 1 := len_le (k := 1) (by simpa using h)
  simp; omega
theorem known26 : Pu Tryz.prog 19 [] (lit (.bool true)) := by
  have h0 := ht_zero
  have h1 := ht_one
  have h2 : ht 2 ≤ 1 := ht_small 2 (by omega)
  have h3 : ht 3 ≤ 1 := ht_small 3 (by omega)
  have h4 : ht 4 ≤ 1 := ht_small 4 (by omega)
  have a1 : Pu Tryz.prog 65 [lit (.int .i64 2), lit (.int .i64 3)] (rp 2 3) := xy_pu 2 3 (by omega) (by omega) (by omega) (by omega)
  have a2 : Pu Tryz.prog 65 [lit (.int .i64 1), lit (.int .i64 1)] (rp 1 1) := xy_pu 1 1 (by omega) (by omega) (by omega) (by omega)
  have a3 : Pu Tryz.prog 65 [lit (.int .i64 3), lit (.int .i64 4)] (rp 3 4) := xy_pu 3 4 (by omega) (by omega) (by omega) (by omega)
  have b1 := toP_pu 2 3 (by omega) (by omega)
  have b2 := toP_pu 1 1 (by omega) (by omega)
  have b3 := toP_pu 3 4 (by omega) (by omega)
  have hm : (⟨1, 0, 2, 0, 1, 3⟩ : M6 Rat).le 10000 := ⟨by simp only; omega, by simp only; omega, by simp only; omega, by simp only; omega, by simp only; omega, by simp only; omega⟩
  have c1 := translation_pu 2 3 (by omega) (by omega)
  have d1 := aDet_q hm
  simp only [show (1 : Rat) * 1 - 0 * 0 = 1 from by decide +kernel] at d1
  have d2 := aApply_q hm (x := 1) (y := 1) (by omega) (by omega)
  simp only [show (1 : Rat) * 1 + 0 * 1 + 2 = 3 from by decide +kernel, show (0 : Rat) * 1 + 1 * 1 + 3 = 4 from by decide +kernel] at d2
  have e1 := q_of 1 (by omega)
  have f1 := rc_pu 1 1 (by omega) (by omega)
  rw [show ((1 : Rat) - 1).num.sign = 0 from by decide +kernel] at f1
  have g1 := sameP_pu 3 4 (by omega) (by omega)
  refine Pu.intro Tryz.func19 rfl (by kernel_rfl) fun C => ?_
  repeat (first | (refine A1 ⟨?_⟩; intros) | (refine Wcx (a1) ?_) | (refine Wdcx (a1) ?_) | (refine Wcgx (a1) ?_) | (refine Wdcgx (a1) ?_) | (refine Wcx (a2) ?_) | (refine Wdcx (a2) ?_) | (refine Wcgx (a2) ?_) | (refine Wdcgx (a2) ?_) | (refine Wcx (a3) ?_) | (refine Wdcx (a3) ?_) | (refine Wcgx (a3) ?_) | (refine Wdcgx (a3) ?_) | (refine Wcx (b1) ?_) | (refine Wdcx (b1) ?_) | (refine Wcgx (b1) ?_) | (refine Wdcgx (b1) ?_) | (refine Wcx (b2) ?_) | (refine Wdcx (b2) ?_) | (refine Wcgx (b2) ?_) | (refine Wdcgx (b2) ?_) | (refine Wcx (b3) ?_) | (refine Wdcx (b3) ?_) | (refine Wcgx (b3) ?_) | (refine Wdcgx (b3) ?_) | (refine Wcx (c1) ?_) | (refine Wdcx (c1) ?_) | (refine Wcgx (c1) ?_) | (refine Wdcgx (c1) ?_) | (refine Wcx (d1) ?_) | (refine Wdcx (d1) ?_) | (refine Wcgx (d1) ?_) | (refine Wdcgx (d1) ?_) | (refine Wcx (d2) ?_) | (refine Wdcx (d2) ?_) | (refine Wcgx (d2) ?_) | (refine Wdcgx (d2) ?_) | (refine Wcx (e1) ?_) | (refine Wdcx (e1) ?_) | (refine Wcgx (e1) ?_) | (refine Wdcgx (e1) ?_) | (refine Wcx (rof1) ?_) | (refine Wdcx (rof1) ?_) | (refine Wcgx (rof1) ?_) | (refine Wdcgx (rof1) ?_) | (refine Wcx (f1) ?_) | (refine Wdcx (f1) ?_) | (refine Wcgx (f1) ?_) | (refine Wdcgx (f1) ?_) | (refine Wcx (g1) ?_) | (refine Wdcx (g1) ?_) | (refine Wcgx (g1) ?_) | (refine Wdcgx (g1) ?_))
  ((first | refine endR ?_ | refine endN ?_); exact end1 (RV.tmp rfl) (Le.refl _))
end Go.Ab
/- Package frac: Zero, Inv. -/
namespace Go.Ab
open Go.Proofs
set_option linter.unusedSectionVars false
set_option linter.unusedVariables false
set_option linter.unusedSimpArgs false
variable [Base]
theorem num_big {x : Rat} (h : ¬small x) : x.num ≠ 0 := fun e => h (by
  have hx : x = 0 := Rat.num_eq_zero.1 e
  subst hx
  unfold small; rw [show (0 : Rat).num = 0 from rfl, show (0 : Rat).den = 1 from rfl]; omega)
theorem zero_pu (x : Rat) : Pu Tryz.prog 116 [fr x] (lit (.bool (decide (x.num = 0)))) := by
  by_cases h : small x
  · rw [fr_s h]
    by_cases h0 : x.num = 0
    · rw [decide_eq_true h0, h0]
      refine Pu.intro Tryz.func116 rfl (by kernel_rfl) fun C => ?_
      repeat (refine A1 ⟨?_⟩; intros)
      ((first | refine endR ?_ | refine endN ?_); exact end1 (RV.tmp rfl) (Le.refl _))
    · rw [decide_eq_false h0]
      refine Pu.intro Tryz.func116 rfl (by kernel_rfl) fun C => ?_
      repeat (refine A1 ⟨?_⟩; intros)
      ((first | refine endR ?_ | refine endN ?_); exact end1 (RV.tmp rfl) (Le.refl _))
  · rw [fr_b h, decide_eq_false (num_big h)]
    refine Pu.intro Tryz.func116 rfl (by kernel_rfl) fun C => ?_
    repeat (refine A1 ⟨?_⟩; intros)
    ((first | refine endR ?_ | refine endN ?_); exact end1 (RV.tmp rfl) (Le.refl _))
theorem inv_mk (x : Rat) : mkRat (sv (decide (x.num < 0)) x.den) x.num.natAbs = x⁻¹ := by
  rw [Rat.inv_def]
  by_cases h : x.num < 0
  · rw [decide_eq_true h]
    have e : x.num = -((x.num.natAbs : Nat) : Int) := by omega
    conv => rhs; rw [e, Rat.divInt_neg', Rat.divInt_ofNat]
    rfl
  · rw [decide_eq_false h]
    have e : x.num = ((x.num.natAbs : Nat) : Int) := by omega
    conv => rhs; rw [e, Rat.divInt_ofNat]
    rfl
theorem ht_inv (x : Rat) : ht x⁻¹ ≤ ht x + 1 := by
  have h := ht_mk (sv (decide (x.num < 0)) x.den) x.num.natAbs
  rw [inv_mk] at h
  have h1 := ht_num x
  have h2 := ht_den x
  have h3 : il (sv (decide (x.num < 0)) x.den) = (dgs x.den).length := by unfold il; rw [sv_abs]
  have h4 : il x.num = (dgs x.num.natAbs).length := rfl
  omega
theorem inv_pu (x : Rat) (h : ht x ≤ 10000000) : Pu Tryz.prog 117 [fr x] (fr x⁻¹) := by
  have hn := Rat.num_inv x
  have hd := Rat.den_inv x
  have hp := x.den_pos
  by_cases hs : small x
  · have hsm : small x⁻¹ := by
      unfold small at *
      rw [hn, hd, Int.natAbs_mul]
      refine ⟨?_, by split <;> omega⟩
      have : x.num.sign.natAbs ≤ 1 := by rcases Int.lt_trichotomy x.num 0 with h | h | h <;> simp [Int.sign_eq_neg_one_of_neg, Int.sign_eq_one_of_pos, h]
      have h2 := Nat.mul_le_mul_right ((x.den : Int).natAbs) this
      rw [Nat.one_mul, Int.natAbs_natCast] at h2
      have := hs.2
      rw [Int.natAbs_natCast]; omega
    rw [fr_s hs, fr_s hsm, hn, hd]
    unfold small at hs
    rcases Int.lt_trichotomy x.num 0 with h0 | h0 | h0
    · rw [Int.sign_eq_neg_one_of_neg h0, if_neg (by omega)]
      refine Pu.intro Tryz.func117 rfl (by kernel_rfl) fun C => ?_
      repeat (refine A1 ⟨?_⟩; intros)
      refine endR (end1 (RV.cellA rfl List.mem_cons_self rfl rfl) (Le.ag ⟨Le.int (by omega), Le.int (by omega), Le.refl _, trivial⟩))
    · rw [h0]
      refine Pu.intro Tryz.func117 rfl (by kernel_rfl) fun C => ?_
      repeat (refine A1 ⟨?_⟩; intros)
      refine endR (end1 (RV.cellA rfl List.mem_cons_self rfl rfl) (Le.ag ⟨Le.int (by simp), Le.int (by simp), Le.refl _, trivial⟩))
    · rw [Int.sign_eq_one_of_pos h0, if_neg (by omega)]
      refine Pu.intro Tryz.func117 rfl (by kernel_rfl) fun C => ?_
      repeat (refine A1 ⟨?_⟩; intros)
      refine endR (end1 (RV.cellA rfl List.mem_cons_self rfl rfl) (Le.ag ⟨Le.int (by omega), Le.int (by omega), Le.refl _, trivial⟩))
  · have h1 := ht_num x
    have h2 := ht_den x
    have h4 : il x.num = (dgs x.num.natAbs).length := rfl
    have hr := reduce_pu (decide (x.num < 0)) (dgs x.den) (dgs x.num.natAbs) (by omega) (by omega) (D_dgs _) (D_dgs _)
    rw [val_dgs, val_dgs, inv_mk] at hr
    rw [fr_b hs]
    refine Pu.intro Tryz.func117 rfl (by kernel_rfl) fun C => ?_
    repeat (first | (refine A1 ⟨?_⟩; intros) | (refine Wcx (hr) ?_) | (refine Wdcx (hr) ?_) | (refine Wcgx (hr) ?_) | (refine Wdcgx (hr) ?_))
    refine endR (end1 (RV.cellA rfl (by first | exact List.mem_cons_self | exact List.mem_cons_of_mem _ List.mem_cons_self) rfl rfl) (Le.refl _))
end Go.Ab
