/- Texts laid one behind the other: Ref1, Ref4, Tape, Scene1, Law26A, TxtB, Err. -/
import Derived.Test.YtghaepkgceaboaaGreatDoorB13
import Derived.Test.YtghaepkgceaboaaGreatDoorRefL
import Derived.Test.YtghaepkgceaboaaGreatDoorB04
import Derived.Laws.Externs
/- The reference of layer 1: numbers of package api. -/
namespace Go.Ab
open Go.Proofs
set_option linter.unusedSectionVars false
set_option linter.unusedVariables false
set_option linter.unusedSimpArgs false
variable [Base]
theorem le_decF {p : Prop} [Decidable p] (h : ¬p) : Le (lit (.bool false)) (lit (.bool (decide p))) := by rw [decide_eq_false h]; exact Le.refl _
theorem le_decT {p : Prop} [Decidable p] (h : p) : Le (lit (.bool true)) (lit (.bool (decide p))) := by rw [decide_eq_true h]; exact Le.refl _
theorem sameN_pu (xs ys : List Nat) (hx : xs.length ≤ 1000000000) (hy : ys.length ≤ 1000000000) : Pu Tryz.prog 184 [dg xs, dg ys] (lit (.bool (decide (xs = ys)))) := by
  by_cases hl : xs.length = ys.length
  · refine Pu.intro Tryz.func184 rfl (by kernel_rfl) fun C => ?_
    repeat (refine A1 ⟨?_⟩; intros)
    refine WP.loop (ι := Nat) (fun k => k ≤ xs.length ∧ xs.take k = ys.take k) (fun k => xs.length - k) (fun k => fm [(0, dg xs), (1, dg ys), (11, dg xs), (12, lit (.int .i64 xs.length)), (13, lit (.int .i64 k))]) (fun _ => []) 0
      ⟨Nat.zero_le _, rfl⟩ (by (repeat (first | exact LeF.nil _ | refine LeF.cons (Le.refl _) ?_ | refine LeF.cons (Le.int (by omega)) ?_))) rfl ?_
    rintro k ⟨hk, he⟩ K hK
    by_cases hkl : k < xs.length
    · by_cases hd : xs.getD k 0 = ys.getD k 0
      · repeat (refine A1 ⟨?_⟩; intros)
        exact hK _ _ (k + 1) ⟨by omega, by rw [take_succ_getD xs k hkl, take_succ_getD ys k (by omega), he, hd]⟩ (by omega) (by (repeat (first | exact LeF.nil _ | refine LeF.cons (Le.refl _) ?_ | refine LeF.cons (Le.int (by omega)) ?_))) rfl
      · repeat (refine A1 ⟨?_⟩; intros)
        exact endR (end1 (RV.tmp rfl) (le_decF fun e => hd (by rw [e])))
    · have hke : k = xs.length := by omega
      subst hke
      rw [List.take_length, hl, List.take_length] at he
      repeat (refine A1 ⟨?_⟩; intros)
      exact endR (end1 (RV.tmp rfl) (le_decT he))
  · refine Pu.intro Tryz.func184 rfl (by kernel_rfl) fun C => ?_
    repeat (refine A1 ⟨?_⟩; intros)
    exact endR (end1 (RV.tmp rfl) (le_decF fun e => hl (by rw [e])))
theorem toN_pu (xs : List Nat) (h : xs.length ≤ 1000000000) : Pu Tryz.prog 88 [dg xs] (dg xs) := by
  refine Pu.intro Tryz.func88 rfl (by kernel_rfl) fun C => ?_
  repeat (refine A1 ⟨?_⟩; intros)
  ((first | refine endR ?_ | refine endN ?_); exact end1 (RV.tmp rfl) (Le.refl _))
theorem n_pu (xs : List Nat) (h : xs.length ≤ 1000000000) (hD : D xs) : Pu Tryz.prog 142 [dg xs] (nat (val xs)) := by
  refine Pu.intro Tryz.func142 rfl (by kernel_rfl) fun C => ?_
  repeat (first | (refine A1 ⟨?_⟩; intros) | (refine Wcx (rtrim_nat _ h hD) ?_) | (refine Wdcx (rtrim_nat _ h hD) ?_) | (refine Wcgx (rtrim_nat _ h hD) ?_) | (refine Wdcgx (rtrim_nat _ h hD) ?_))
  ((first | refine endR ?_ | refine endN ?_); exact end1 (RV.tmp rfl) (Le.refl _))
theorem i_pu (s : Bool) (xs : List Nat) (h : xs.length ≤ 1000000000) (hD : D xs) : Pu Tryz.prog 143 [raw s xs] (int (sv s (val xs))) := by
  have hl := dlen_val hD
  refine Pu.intro Tryz.func143 rfl (by kernel_rfl) fun C => ?_
  repeat (first | (refine A1 ⟨?_⟩; intros) | (refine Wcx (n_pu _ h hD) ?_) | (refine Wdcx (n_pu _ h hD) ?_) | (refine Wcgx (n_pu _ h hD) ?_) | (refine Wdcgx (n_pu _ h hD) ?_) | (refine Wcx (rmake_pu _ _ (by omega)) ?_) | (refine Wdcx (rmake_pu _ _ (by omega)) ?_) | (refine Wcgx (rmake_pu _ _ (by omega)) ?_) | (refine Wdcgx (rmake_pu _ _ (by omega)) ?_))
  ((first | refine endR ?_ | refine endN ?_); refine end1 (RV.cellA rfl (by (first | exact List.mem_cons_self | exact (List.mem_cons_of_mem _ List.mem_cons_self) | exact (List.mem_cons_of_mem _ (List.mem_cons_of_mem _ List.mem_cons_self)) | exact (List.mem_cons_of_mem _ (List.mem_cons_of_mem _ (List.mem_cons_of_mem _ List.mem_cons_self))) | exact (List.mem_cons_of_mem _ (List.mem_cons_of_mem _ (List.mem_cons_of_mem _ (List.mem_cons_of_mem _ List.mem_cons_self)))) | exact (List.mem_cons_of_mem _ (List.mem_cons_of_mem _ (List.mem_cons_of_mem _ (List.mem_cons_of_mem _ (List.mem_cons_of_mem _ List.mem_cons_self))))) | exact (List.mem_cons_of_mem _ (List.mem_cons_of_mem _ (List.mem_cons_of_mem _ (List.mem_cons_of_mem _ (List.mem_cons_of_mem _ (List.mem_cons_of_mem _ List.mem_cons_self)))))) | exact (List.mem_cons_of_mem _ (List.mem_cons_of_mem _ (List.mem_cons_of_mem _ (List.mem_cons_of_mem _ (List.mem_cons_of_mem _ (List.mem_cons_of_mem _ (List.mem_cons_of_mem _ List.mem_cons_self))))))))) (by (first | (simp only [List.drop_succ_cons, List.drop_zero, List.drop_nil, List.take_succ_cons, List.take_zero, List.take_nil, Nat.zero_add, Nat.add_zero, Nat.reduceAdd]; done) | (simp only [List.drop_succ_cons, List.drop_zero, List.drop_nil, List.take_succ_cons, List.take_zero, List.take_nil, Nat.zero_add, Nat.add_zero, Nat.reduceAdd]; exact rfl) | exact rfl)) rfl) (Le.refl _))
theorem toI_pu (z : Int) (h : il z ≤ 1000000000) : Pu Tryz.prog 87 [int z] (int z) := by
  have h' : (dgs z.natAbs).length ≤ 1000000000 := h
  refine Pu.intro Tryz.func87 rfl (by kernel_rfl) fun C => ?_
  repeat (first | (refine A1 ⟨?_⟩; intros) | (refine Wcx (toN_pu _ h') ?_) | (refine Wdcx (toN_pu _ h') ?_) | (refine Wcgx (toN_pu _ h') ?_) | (refine Wdcgx (toN_pu _ h') ?_))
  ((first | refine endR ?_ | refine endN ?_); refine end1 (RV.cellA rfl (by (first | exact List.mem_cons_self | exact (List.mem_cons_of_mem _ List.mem_cons_self) | exact (List.mem_cons_of_mem _ (List.mem_cons_of_mem _ List.mem_cons_self)) | exact (List.mem_cons_of_mem _ (List.mem_cons_of_mem _ (List.mem_cons_of_mem _ List.mem_cons_self))) | exact (List.mem_cons_of_mem _ (List.mem_cons_of_mem _ (List.mem_cons_of_mem _ (List.mem_cons_of_mem _ List.mem_cons_self)))) | exact (List.mem_cons_of_mem _ (List.mem_cons_of_mem _ (List.mem_cons_of_mem _ (List.mem_cons_of_mem _ (List.mem_cons_of_mem _ List.mem_cons_self))))) | exact (List.mem_cons_of_mem _ (List.mem_cons_of_mem _ (List.mem_cons_of_mem _ (List.mem_cons_of_mem _ (List.mem_cons_of_mem _ (List.mem_cons_of_mem _ List.mem_cons_self)))))) | exact (List.mem_cons_of_mem _ (List.mem_cons_of_mem _ (List.mem_cons_of_mem _ (List.mem_cons_of_mem _ (List.mem_cons_of_mem _ (List.mem_cons_of_mem _ (List.mem_cons_of_mem _ List.mem_cons_self))))))))) (by (first | (simp only [List.drop_succ_cons, List.drop_zero, List.drop_nil, List.take_succ_cons, List.take_zero, List.take_nil, Nat.zero_add, Nat.add_zero, Nat.reduceAdd]; done) | (simp only [List.drop_succ_cons, List.drop_zero, List.drop_nil, List.take_succ_cons, List.take_zero, List.take_nil, Nat.zero_add, Nat.add_zero, Nat.reduceAdd]; exact rfl) | exact rfl)) rfl) (Le.refl _))
theorem sameI_pu (s t : Bool) (xs ys : List Nat) (hx : xs.length ≤ 1000000000) (hy : ys.length ≤ 1000000000) : Pu Tryz.prog 183 [raw s xs, raw t ys] (lit (.bool (decide (s = t ∧ xs = ys)))) := by
  cases s <;> cases t
  · refine Pu.intro Tryz.func183 rfl (by kernel_rfl) fun C => ?_
    repeat (first | (refine A1 ⟨?_⟩; intros) | (refine Wcx (sameN_pu _ _ hx hy) ?_) | (refine Wdcx (sameN_pu _ _ hx hy) ?_) | (refine Wcgx (sameN_pu _ _ hx hy) ?_) | (refine Wdcgx (sameN_pu _ _ hx hy) ?_))
    refine endR (end1 (RV.tmp rfl) (Le.bool ?_)); simp
  · refine Pu.intro Tryz.func183 rfl (by kernel_rfl) fun C => ?_
    repeat (first | (refine A1 ⟨?_⟩; intros) | (refine Wcx (sameN_pu _ _ hx hy) ?_) | (refine Wdcx (sameN_pu _ _ hx hy) ?_) | (refine Wcgx (sameN_pu _ _ hx hy) ?_) | (refine Wdcgx (sameN_pu _ _ hx hy) ?_))
    refine endR (end1 (RV.tmp rfl) (Le.bool ?_)); simp
  · refine Pu.intro Tryz.func183 rfl (by kernel_rfl) fun C => ?_
    repeat (first | (refine A1 ⟨?_⟩; intros) | (refine Wcx (sameN_pu _ _ hx hy) ?_) | (refine Wdcx (sameN_pu _ _ hx hy) ?_) | (refine Wcgx (sameN_pu _ _ hx hy) ?_) | (refine Wdcgx (sameN_pu _ _ hx hy) ?_))
    refine endR (end1 (RV.tmp rfl) (Le.bool ?_)); simp
  · refine Pu.intro Tryz.func183 rfl (by kernel_rfl) fun C => ?_
    repeat (first | (refine A1 ⟨?_⟩; intros) | (refine Wcx (sameN_pu _ _ hx hy) ?_) | (refine Wdcx (sameN_pu _ _ hx hy) ?_) | (refine Wcgx (sameN_pu _ _ hx hy) ?_) | (refine Wdcgx (sameN_pu _ _ hx hy) ?_))
    refine endR (end1 (RV.tmp rfl) (Le.bool ?_)); simp
theorem lit_dec {p : Prop} [Decidable p] (h : p) : lit (.bool (decide p)) = lit (.bool true) := by rw [decide_eq_true h]
theorem sameN_t (xs : List Nat) (hx : xs.length ≤ 1000000000) : Pu Tryz.prog 184 [dg xs, dg xs] (lit (.bool true)) := lit_dec (p := xs = xs) rfl ▸ sameN_pu xs xs hx hx
theorem sameI_t (s : Bool) (xs : List Nat) (hx : xs.length ≤ 1000000000) : Pu Tryz.prog 183 [raw s xs, raw s xs] (lit (.bool true)) := lit_dec (p := s = s ∧ xs = xs) ⟨rfl, rfl⟩ ▸ sameI_pu s s xs xs hx hx
theorem sameQ_t (s : Bool) (xs ys : List Nat) (hx : xs.length ≤ 1000000000) (hy : ys.length ≤ 1000000000) : Pu Tryz.prog 140 [qraw s xs ys, qraw s xs ys] (lit (.bool true)) := by
  refine Pu.intro Tryz.func140 rfl (by kernel_rfl) fun C => ?_
  repeat (first | (refine A1 ⟨?_⟩; intros) | (refine Wcx (sameN_t _ hy) ?_) | (refine Wdcx (sameN_t _ hy) ?_) | (refine Wcgx (sameN_t _ hy) ?_) | (refine Wdcgx (sameN_t _ hy) ?_) | (refine Wcx (sameI_t _ _ hx) ?_) | (refine Wdcx (sameI_t _ _ hx) ?_) | (refine Wcgx (sameI_t _ _ hx) ?_) | (refine Wdcgx (sameI_t _ _ hx) ?_))
  ((first | refine endR ?_ | refine endN ?_); exact end1 (RV.tmp rfl) (Le.refl _))
theorem sameq_pu (x : Rat) (h : ht x ≤ 1000000000) : Pu Tryz.prog 140 [q x, q x] (lit (.bool true)) := by
  have h1 := ht_num x
  have h2 := ht_den x
  exact sameQ_t _ _ _ (by have : il x.num = (dgs x.num.natAbs).length := rfl; omega) (by omega)
theorem toQ_pu (x : Rat) (h : ht x ≤ 100000000) : Pu Tryz.prog 53 [rq x] (q x) := by
  have h1 := ht_num x
  have h2 := ht_den x
  refine Pu.intro Tryz.func53 rfl (by kernel_rfl) fun C => ?_
  repeat (first | (refine A1 ⟨?_⟩; intros) | (refine Wcx (toI_pu _ (by omega)) ?_) | (refine Wdcx (toI_pu _ (by omega)) ?_) | (refine Wcgx (toI_pu _ (by omega)) ?_) | (refine Wdcgx (toI_pu _ (by omega)) ?_) | (refine Wcx (rden_pu x) ?_) | (refine Wdcx (rden_pu x) ?_) | (refine Wcgx (rden_pu x) ?_) | (refine Wdcgx (rden_pu x) ?_) | (refine Wcx (toN_pu _ (by omega)) ?_) | (refine Wdcx (toN_pu _ (by omega)) ?_) | (refine Wcgx (toN_pu _ (by omega)) ?_) | (refine Wdcgx (toN_pu _ (by omega)) ?_))
  ((first | refine endR ?_ | refine endN ?_); refine end1 (RV.cellA rfl (by (first | exact List.mem_cons_self | exact (List.mem_cons_of_mem _ List.mem_cons_self) | exact (List.mem_cons_of_mem _ (List.mem_cons_of_mem _ List.mem_cons_self)) | exact (List.mem_cons_of_mem _ (List.mem_cons_of_mem _ (List.mem_cons_of_mem _ List.mem_cons_self))) | exact (List.mem_cons_of_mem _ (List.mem_cons_of_mem _ (List.mem_cons_of_mem _ (List.mem_cons_of_mem _ List.mem_cons_self)))) | exact (List.mem_cons_of_mem _ (List.mem_cons_of_mem _ (List.mem_cons_of_mem _ (List.mem_cons_of_mem _ (List.mem_cons_of_mem _ List.mem_cons_self))))) | exact (List.mem_cons_of_mem _ (List.mem_cons_of_mem _ (List.mem_cons_of_mem _ (List.mem_cons_of_mem _ (List.mem_cons_of_mem _ (List.mem_cons_of_mem _ List.mem_cons_self)))))) | exact (List.mem_cons_of_mem _ (List.mem_cons_of_mem _ (List.mem_cons_of_mem _ (List.mem_cons_of_mem _ (List.mem_cons_of_mem _ (List.mem_cons_of_mem _ (List.mem_cons_of_mem _ List.mem_cons_self))))))))) (by (first | (simp only [List.drop_succ_cons, List.drop_zero, List.drop_nil, List.take_succ_cons, List.take_zero, List.take_nil, Nat.zero_add, Nat.add_zero, Nat.reduceAdd]; done) | (simp only [List.drop_succ_cons, List.drop_zero, List.drop_nil, List.take_succ_cons, List.take_zero, List.take_nil, Nat.zero_add, Nat.add_zero, Nat.reduceAdd]; exact rfl) | exact rfl)) rfl) (Le.refl _))
theorem rq_zero : rq 0 = ag [lit (.bool false), nat 0, dg []] := by rw [rq, show (0 : Rat).num = 0 from rfl, show (0 : Rat).den = 1 from rfl, dden_one]; rfl
theorem q_pu {r : RQ} {L : Nat} (h : r.ok L) (hL : L ≤ 1000000) : Pu Tryz.prog 99 [qr r] (rq r.v) := by
  obtain ⟨h1, h2, h3, h4⟩ := h
  have hl := dlen_val h2
  have hi := il_sv (s := r.s) h1
  by_cases h0 : val r.d = 0
  · have hv : r.v = 0 := by unfold RQ.v; rw [h0]; exact Rat.mkRat_zero _
    rw [hv, rq_zero]
    have hn := n_pu r.d (by omega) h2
    rw [h0] at hn
    have hl0 : (dgs 0).length = 0 := by rw [dgs_zero]; rfl
    refine Pu.intro Tryz.func99 rfl (by kernel_rfl) fun C => ?_
    repeat (first | (refine A1 ⟨?_⟩; intros) | (refine Wcx (hn) ?_) | (refine Wdcx (hn) ?_) | (refine Wcgx (hn) ?_) | (refine Wdcgx (hn) ?_))
    refine endR (end1 (RV.cellA rfl List.mem_cons_self rfl rfl) (Le.ag ⟨Le.refl _, ?_, le_nil, trivial⟩))
    rw [show nat 0 = dg [] from by show dg (dgs 0) = _; rw [dgs_zero]]
    exact le_nil
  · have hp := dgs_len_pos h0
    refine Pu.intro Tryz.func99 rfl (by kernel_rfl) fun C => ?_
    repeat (first | (refine A1 ⟨?_⟩; intros) | (refine Wcx (n_pu r.d (by omega) h2) ?_) | (refine Wdcx (n_pu r.d (by omega) h2) ?_) | (refine Wcgx (n_pu r.d (by omega) h2) ?_) | (refine Wdcgx (n_pu r.d (by omega) h2) ?_) | (refine Wcx (i_pu _ _ (by omega) h1) ?_) | (refine Wdcx (i_pu _ _ (by omega) h1) ?_) | (refine Wcgx (i_pu _ _ (by omega) h1) ?_) | (refine Wdcgx (i_pu _ _ (by omega) h1) ?_) | (refine Wcx (rfrac_pu _ _ (by omega) (by omega) h0) ?_) | (refine Wdcx (rfrac_pu _ _ (by omega) (by omega) h0) ?_) | (refine Wcgx (rfrac_pu _ _ (by omega) (by omega) h0) ?_) | (refine Wdcgx (rfrac_pu _ _ (by omega) (by omega) h0) ?_))
    ((first | refine endR ?_ | refine endN ?_); refine end1 (RV.cellA rfl (by (first | exact List.mem_cons_self | exact (List.mem_cons_of_mem _ List.mem_cons_self) | exact (List.mem_cons_of_mem _ (List.mem_cons_of_mem _ List.mem_cons_self)) | exact (List.mem_cons_of_mem _ (List.mem_cons_of_mem _ (List.mem_cons_of_mem _ List.mem_cons_self))) | exact (List.mem_cons_of_mem _ (List.mem_cons_of_mem _ (List.mem_cons_of_mem _ (List.mem_cons_of_mem _ List.mem_cons_self)))) | exact (List.mem_cons_of_mem _ (List.mem_cons_of_mem _ (List.mem_cons_of_mem _ (List.mem_cons_of_mem _ (List.mem_cons_of_mem _ List.mem_cons_self))))) | exact (List.mem_cons_of_mem _ (List.mem_cons_of_mem _ (List.mem_cons_of_mem _ (List.mem_cons_of_mem _ (List.mem_cons_of_mem _ (List.mem_cons_of_mem _ List.mem_cons_self)))))) | exact (List.mem_cons_of_mem _ (List.mem_cons_of_mem _ (List.mem_cons_of_mem _ (List.mem_cons_of_mem _ (List.mem_cons_of_mem _ (List.mem_cons_of_mem _ (List.mem_cons_of_mem _ List.mem_cons_self))))))))) (by (first | (simp only [List.drop_succ_cons, List.drop_zero, List.drop_nil, List.take_succ_cons, List.take_zero, List.take_nil, Nat.zero_add, Nat.add_zero, Nat.reduceAdd]; done) | (simp only [List.drop_succ_cons, List.drop_zero, List.drop_nil, List.take_succ_cons, List.take_zero, List.take_nil, Nat.zero_add, Nat.add_zero, Nat.reduceAdd]; exact rfl) | exact rfl)) rfl) (Le.refl _))
end Go.Ab
/- The references of layers 4 and 26: points and maps. -/
namespace Go.Ab
open Go.Proofs
set_option linter.unusedSectionVars false
set_option linter.unusedVariables false
set_option linter.unusedSimpArgs false
variable [Base]
abbrev rp (x y : Rat) : SV := ag [lit (.bool (decide (x.num < 0))), nat x.num.natAbs, dg (dden x.den), lit (.bool (decide (y.num < 0))), nat y.num.natAbs, dg (dden y.den)]
theorem toP_pu (x y : Rat) (hx : ht x ≤ 100000000) (hy : ht y ≤ 100000000) : Pu Tryz.prog 29 [rp x y] (pq x y) := by
  refine Pu.intro Tryz.func29 rfl (by kernel_rfl) fun C => ?_
  repeat (first | (refine A1 ⟨?_⟩; intros) | (refine Wcx (toQ_pu _ hx) ?_) | (refine Wdcx (toQ_pu _ hx) ?_) | (refine Wcgx (toQ_pu _ hx) ?_) | (refine Wdcgx (toQ_pu _ hx) ?_) | (refine Wcx (toQ_pu _ hy) ?_) | (refine Wdcx (toQ_pu _ hy) ?_) | (refine Wcgx (toQ_pu _ hy) ?_) | (refine Wdcgx (toQ_pu _ hy) ?_))
  ((first | refine endR ?_ | refine endN ?_); refine end1 (RV.cellA rfl (by (first | exact List.mem_cons_self | exact (List.mem_cons_of_mem _ List.mem_cons_self) | exact (List.mem_cons_of_mem _ (List.mem_cons_of_mem _ List.mem_cons_self)) | exact (List.mem_cons_of_mem _ (List.mem_cons_of_mem _ (List.mem_cons_of_mem _ List.mem_cons_self))) | exact (List.mem_cons_of_mem _ (List.mem_cons_of_mem _ (List.mem_cons_of_mem _ (List.mem_cons_of_mem _ List.mem_cons_self)))) | exact (List.mem_cons_of_mem _ (List.mem_cons_of_mem _ (List.mem_cons_of_mem _ (List.mem_cons_of_mem _ (List.mem_cons_of_mem _ List.mem_cons_self))))) | exact (List.mem_cons_of_mem _ (List.mem_cons_of_mem _ (List.mem_cons_of_mem _ (List.mem_cons_of_mem _ (List.mem_cons_of_mem _ (List.mem_cons_of_mem _ List.mem_cons_self)))))) | exact (List.mem_cons_of_mem _ (List.mem_cons_of_mem _ (List.mem_cons_of_mem _ (List.mem_cons_of_mem _ (List.mem_cons_of_mem _ (List.mem_cons_of_mem _ (List.mem_cons_of_mem _ List.mem_cons_self))))))))) (by (first | (simp only [List.drop_succ_cons, List.drop_zero, List.drop_nil, List.take_succ_cons, List.take_zero, List.take_nil, Nat.zero_add, Nat.add_zero, Nat.reduceAdd]; done) | (simp only [List.drop_succ_cons, List.drop_zero, List.drop_nil, List.take_succ_cons, List.take_zero, List.take_nil, Nat.zero_add, Nat.add_zero, Nat.reduceAdd]; exact rfl) | exact rfl)) rfl) (Le.refl _))
theorem pt_pu {a b : RQ} {L : Nat} (ha : a.ok L) (hb : b.ok L) (hL : L ≤ 1000000) : Pu Tryz.prog 131 [pr a b] (rp a.v b.v) := by
  refine Pu.intro Tryz.func131 rfl (by kernel_rfl) fun C => ?_
  repeat (first | (refine A1 ⟨?_⟩; intros) | (refine Wcx (q_pu ha hL) ?_) | (refine Wdcx (q_pu ha hL) ?_) | (refine Wcgx (q_pu ha hL) ?_) | (refine Wdcgx (q_pu ha hL) ?_) | (refine Wcx (q_pu hb hL) ?_) | (refine Wdcx (q_pu hb hL) ?_) | (refine Wcgx (q_pu hb hL) ?_) | (refine Wdcgx (q_pu hb hL) ?_))
  ((first | refine endR ?_ | refine endN ?_); refine end1 (RV.cellA rfl (by (first | exact List.mem_cons_self | exact (List.mem_cons_of_mem _ List.mem_cons_self) | exact (List.mem_cons_of_mem _ (List.mem_cons_of_mem _ List.mem_cons_self)) | exact (List.mem_cons_of_mem _ (List.mem_cons_of_mem _ (List.mem_cons_of_mem _ List.mem_cons_self))) | exact (List.mem_cons_of_mem _ (List.mem_cons_of_mem _ (List.mem_cons_of_mem _ (List.mem_cons_of_mem _ List.mem_cons_self)))) | exact (List.mem_cons_of_mem _ (List.mem_cons_of_mem _ (List.mem_cons_of_mem _ (List.mem_cons_of_mem _ (List.mem_cons_of_mem _ List.mem_cons_self))))) | exact (List.mem_cons_of_mem _ (List.mem_cons_of_mem _ (List.mem_cons_of_mem _ (List.mem_cons_of_mem _ (List.mem_cons_of_mem _ (List.mem_cons_of_mem _ List.mem_cons_self)))))) | exact (List.mem_cons_of_mem _ (List.mem_cons_of_mem _ (List.mem_cons_of_mem _ (List.mem_cons_of_mem _ (List.mem_cons_of_mem _ (List.mem_cons_of_mem _ (List.mem_cons_of_mem _ List.mem_cons_self))))))))) (by (first | (simp only [List.drop_succ_cons, List.drop_zero, List.drop_nil, List.take_succ_cons, List.take_zero, List.take_nil, Nat.zero_add, Nat.add_zero, Nat.reduceAdd]; done) | (simp only [List.drop_succ_cons, List.drop_zero, List.drop_nil, List.take_succ_cons, List.take_zero, List.take_nil, Nat.zero_add, Nat.add_zero, Nat.reduceAdd]; exact rfl) | exact rfl)) rfl) (Le.refl _))
theorem sameP_pu (x y : Rat) (hx : ht x ≤ 100000000) (hy : ht y ≤ 100000000) : Pu Tryz.prog 130 [pq x y, pq x y] (lit (.bool true)) := by
  refine Pu.intro Tryz.func130 rfl (by kernel_rfl) fun C => ?_
  repeat (first | (refine A1 ⟨?_⟩; intros) | (refine Wcx (sameq_pu _ (Nat.le_trans hx (by omega))) ?_) | (refine Wdcx (sameq_pu _ (Nat.le_trans hx (by omega))) ?_) | (refine Wcgx (sameq_pu _ (Nat.le_trans hx (by omega))) ?_) | (refine Wdcgx (sameq_pu _ (Nat.le_trans hx (by omega))) ?_) | (refine Wcx (sameq_pu _ (Nat.le_trans hy (by omega))) ?_) | (refine Wdcx (sameq_pu _ (Nat.le_trans hy (by omega))) ?_) | (refine Wcgx (sameq_pu _ (Nat.le_trans hy (by omega))) ?_) | (refine Wdcgx (sameq_pu _ (Nat.le_trans hy (by omega))) ?_))
  ((first | refine endR ?_ | refine endN ?_); exact end1 (RV.tmp rfl) (Le.refl _))
theorem xy_pu (a b : Int) (ha : -9223372036854775808 ≤ a) (ha' : a ≤ 9223372036854775807) (hb : -9223372036854775808 ≤ b) (hb' : b ≤ 9223372036854775807) : Pu Tryz.prog 45 [lit (.int .i64 a), lit (.int .i64 b)] (rp (a : Rat) (b : Rat)) := by
  refine Pu.intro Tryz.func45 rfl (by kernel_rfl) fun C => ?_
  repeat (first | (refine A1 ⟨?_⟩; intros) | (refine Wcx (rof_pu a ha ha') ?_) | (refine Wdcx (rof_pu a ha ha') ?_) | (refine Wcgx (rof_pu a ha ha') ?_) | (refine Wdcgx (rof_pu a ha ha') ?_) | (refine Wcx (rof_pu b hb hb') ?_) | (refine Wdcx (rof_pu b hb hb') ?_) | (refine Wcgx (rof_pu b hb hb') ?_) | (refine Wdcgx (rof_pu b hb hb') ?_))
  ((first | refine endR ?_ | refine endN ?_); refine end1 (RV.cellA rfl (by (first | exact List.mem_cons_self | exact (List.mem_cons_of_mem _ List.mem_cons_self) | exact (List.mem_cons_of_mem _ (List.mem_cons_of_mem _ List.mem_cons_self)) | exact (List.mem_cons_of_mem _ (List.mem_cons_of_mem _ (List.mem_cons_of_mem _ List.mem_cons_self))) | exact (List.mem_cons_of_mem _ (List.mem_cons_of_mem _ (List.mem_cons_of_mem _ (List.mem_cons_of_mem _ List.mem_cons_self)))) | exact (List.mem_cons_of_mem _ (List.mem_cons_of_mem _ (List.mem_cons_of_mem _ (List.mem_cons_of_mem _ (List.mem_cons_of_mem _ List.mem_cons_self))))) | exact (List.mem_cons_of_mem _ (List.mem_cons_of_mem _ (List.mem_cons_of_mem _ (List.mem_cons_of_mem _ (List.mem_cons_of_mem _ (List.mem_cons_of_mem _ List.mem_cons_self)))))) | exact (List.mem_cons_of_mem _ (List.mem_cons_of_mem _ (List.mem_cons_of_mem _ (List.mem_cons_of_mem _ (List.mem_cons_of_mem _ (List.mem_cons_of_mem _ (List.mem_cons_of_mem _ List.mem_cons_self))))))))) (by (first | (simp only [List.drop_succ_cons, List.drop_zero, List.drop_nil, List.take_succ_cons, List.take_zero, List.take_nil, Nat.zero_add, Nat.add_zero, Nat.reduceAdd]; done) | (simp only [List.drop_succ_cons, List.drop_zero, List.drop_nil, List.take_succ_cons, List.take_zero, List.take_nil, Nat.zero_add, Nat.add_zero, Nat.reduceAdd]; exact rfl) | exact rfl)) rfl) (Le.refl _))
theorem gadd_pu (x y k u v : Rat) (hx : ht x ≤ 1000000) (hy : ht y ≤ 1000000) (hk : ht k ≤ 1000000) (hu : ht u ≤ 1000000) (hv : ht v ≤ 1000000) : Pu Tryz.prog 42 [rp x y, rq k, rp u v] (rp (x + k * u) (y + k * v)) := by
  have h1 := ht_mul k u
  have h2 := ht_mul k v
  refine Pu.intro Tryz.func42 rfl (by kernel_rfl) fun C => ?_
  repeat (first | (refine A1 ⟨?_⟩; intros) | (refine Wcx (rtimes_pu k u (by omega) (by omega)) ?_) | (refine Wdcx (rtimes_pu k u (by omega) (by omega)) ?_) | (refine Wcgx (rtimes_pu k u (by omega) (by omega)) ?_) | (refine Wdcgx (rtimes_pu k u (by omega) (by omega)) ?_) | (refine Wcx (rplus_pu x (k * u) (by omega) (by omega)) ?_) | (refine Wdcx (rplus_pu x (k * u) (by omega) (by omega)) ?_) | (refine Wcgx (rplus_pu x (k * u) (by omega) (by omega)) ?_) | (refine Wdcgx (rplus_pu x (k * u) (by omega) (by omega)) ?_) | (refine Wcx (rtimes_pu k v (by omega) (by omega)) ?_) | (refine Wdcx (rtimes_pu k v (by omega) (by omega)) ?_) | (refine Wcgx (rtimes_pu k v (by omega) (by omega)) ?_) | (refine Wdcgx (rtimes_pu k v (by omega) (by omega)) ?_) | (refine Wcx (rplus_pu y (k * v) (by omega) (by omega)) ?_) | (refine Wdcx (rplus_pu y (k * v) (by omega) (by omega)) ?_) | (refine Wcgx (rplus_pu y (k * v) (by omega) (by omega)) ?_) | (refine Wdcgx (rplus_pu y (k * v) (by omega) (by omega)) ?_))
  ((first | refine endR ?_ | refine endN ?_); refine end1 (RV.cellA rfl (by (first | exact List.mem_cons_self | exact (List.mem_cons_of_mem _ List.mem_cons_self) | exact (List.mem_cons_of_mem _ (List.mem_cons_of_mem _ List.mem_cons_self)) | exact (List.mem_cons_of_mem _ (List.mem_cons_of_mem _ (List.mem_cons_of_mem _ List.mem_cons_self))) | exact (List.mem_cons_of_mem _ (List.mem_cons_of_mem _ (List.mem_cons_of_mem _ (List.mem_cons_of_mem _ List.mem_cons_self)))) | exact (List.mem_cons_of_mem _ (List.mem_cons_of_mem _ (List.mem_cons_of_mem _ (List.mem_cons_of_mem _ (List.mem_cons_of_mem _ List.mem_cons_self))))) | exact (List.mem_cons_of_mem _ (List.mem_cons_of_mem _ (List.mem_cons_of_mem _ (List.mem_cons_of_mem _ (List.mem_cons_of_mem _ (List.mem_cons_of_mem _ List.mem_cons_self)))))) | exact (List.mem_cons_of_mem _ (List.mem_cons_of_mem _ (List.mem_cons_of_mem _ (List.mem_cons_of_mem _ (List.mem_cons_of_mem _ (List.mem_cons_of_mem _ (List.mem_cons_of_mem _ List.mem_cons_self))))))))) (by (first | (simp only [List.drop_succ_cons, List.drop_zero, List.drop_nil, List.take_succ_cons, List.take_zero, List.take_nil, Nat.zero_add, Nat.add_zero, Nat.reduceAdd]; done) | (simp only [List.drop_succ_cons, List.drop_zero, List.drop_nil, List.take_succ_cons, List.take_zero, List.take_nil, Nat.zero_add, Nat.add_zero, Nat.reduceAdd]; exact rfl) | exact rfl)) rfl) (Le.refl _))
abbrev rm (m : M6 Rat) : SV := ag [lit (.bool (decide (m.a.num < 0))), nat m.a.num.natAbs, dg (dden m.a.den), lit (.bool (decide (m.b.num < 0))), nat m.b.num.natAbs, dg (dden m.b.den), lit (.bool (decide (m.c.num < 0))), nat m.c.num.natAbs, dg (dden m.c.den),
  lit (.bool (decide (m.d.num < 0))), nat m.d.num.natAbs, dg (dden m.d.den), lit (.bool (decide (m.e.num < 0))), nat m.e.num.natAbs, dg (dden m.e.den), lit (.bool (decide (m.f.num < 0))), nat m.f.num.natAbs, dg (dden m.f.den)]
theorem ht_one : ht 1 = 1 := by
  unfold ht
  rw [show (1 : Rat).num = 1 from rfl, show (1 : Rat).den = 1 from rfl]
  unfold il
  rw [show (1 : Int).natAbs = 1 from rfl, dgs_one]; rfl
theorem rof1 : Pu Tryz.prog 48 [lit (.int .i64 1)] (rq 1) := rof_pu 1 (by omega) (by omega)
end Go.Ab
/- The scenes' tape: UNDER WAY. -/
namespace Go.Ab
open Go.Proofs
set_option linter.unusedSectionVars false
set_option linter.unusedVariables false
set_option linter.unusedSimpArgs false
variable [Base]
/-- a tape: its list, and any place in it -/
abbrev tapeC (zs : List Int) : List SV := [nsl .i64 zs, ex fun k : { k : Nat // k ≤ zs.length } => lit (.int .i64 (k.1 : Int))]
section
variable {P : Program} {F : Fr} {H : LH}
variable {C : Ctx} {n : Nat} {ops : Array Oper} {K : Fr → LH → Prop} {rest : List Oper} {ty : TypeId} {pos : String} {aft : Array Edge}
/-- a call of a function of the tape -/
theorem Wt {d : Nat} {f : FuncId} {l : List Operand} {tys : Array TypeId} {T : TypeId} {b : Nat} {args : Nat → List SV} {cs : List SV} {res : SV} (hc : PuM P f T args cs (fun _ : Unit => cs) (fun _ => res)) (hm : (b, T, cs) ∈ H) (k : WPL P C n ops rest K (upd F d res) H)
    (ha : l.map (ev F) = args b := by exact rfl) (hd : Nat.blt d n = true := by exact rfl) : WPL P C n ops (⟨some d, .call ⟨.value (.func f), l.toArray, tys⟩, ty, pos, aft, none⟩ :: rest) K F H := WPL.val (ov_callT hc ha hm) hd k
/-- .. whose result is one of many -/
theorem Wtx {d : Nat} {f : FuncId} {l : List Operand} {tys : Array TypeId} {T : TypeId} {b : Nat} {args : Nat → List SV} {cs : List SV} {α : Type} {res : α → SV} (hc : PuM P f T args cs (fun _ : Unit => cs) (fun _ => ex res)) (hm : (b, T, cs) ∈ H) (k : ∀ x, WPL P C n ops rest K (upd F d (res x)) H)
    (ha : l.map (ev F) = args b := by exact rfl) (hd : Nat.blt d n = true := by exact rfl) : WPL P C n ops (⟨some d, .call ⟨.value (.func f), l.toArray, tys⟩, ty, pos, aft, none⟩ :: rest) K F H :=
  WPL.val (ov_callT hc ha hm) hd (WPL.exd (d := d) upd_eq fun x => by
    have e : upd (upd F d (ex res)) d (res x) = upd F d (res x) := by
      funext t
      by_cases h : t = d
      · subst h; rw [upd_eq, upd_eq]
      · rw [upd_ne h, upd_ne h, upd_ne h]
    rw [e]; exact k x)
theorem endNwR {rs : Array ResultVar} {T : TypeId} {cs : List SV} (b : Nat) (cs0 : List SV) (h : Ends P rs.toList (lit (.pointer (some ⟨b, 0, none⟩))) F H) (hm : (b, T, cs0) ∈ H) (hl : LeL cs0 cs) : endNw P rs T cs .ret F H := ⟨b, cs0, h, hm, hl⟩
theorem endMR {rs : Array ResultVar} {α : Type} {b : Nat} {T : TypeId} {cs' : α → List SV} {res : α → SV} (x : α) (cs : List SV) (h : Ends P rs.toList (res x) F H) (hm : (b, T, cs) ∈ H) (hl : LeL cs (cs' x)) : endM P rs b T cs' res .ret F H := ⟨x, h, cs, hm, hl⟩
theorem All2.exI {α : Type} {m : Mem} {f : α → SV} : ∀ {cs : List SV} {vs : List Value} (i : Nat), All2 m cs vs → cs[i]? = some (ex f) → ∃ x, All2 m (cs.set i (f x)) vs
  | [], _, i, _, h => by simp at h
  | _ :: _, [], _, h, _ => h.elim
  | s :: cs, v :: vs, 0, h, hi => by
    simp only [List.getElem?_cons_zero, Option.some.injEq] at hi
    subst hi
    have h1 := h.1.1
    unfold ex at h1
    obtain ⟨x, hx⟩ := h1
    exact ⟨x, ⟨hx, h.1.2⟩, h.2⟩
  | s :: cs, v :: vs, i + 1, h, hi => by
    obtain ⟨x, hx⟩ := All2.exI i h.2 (by simpa using hi)
    exact ⟨x, h.1, hx⟩
/-- what a cell of a block holds is one of many -/
theorem WP.exH {C : Ctx} {n : Nat} {Q : Exit → Fr → LH → Prop} {α : Type} {f : α → SV} {c : Code} {b : Nat} {T : TypeId} {cs : List SV} {H' : α → LH} (i : Nat) (hi : cs[i]? = some (ex f)) (hu : ∀ x, HUpd b T cs (cs.set i (f x)) H (H' x)) (x0 : α)
    (k : ∀ x, WP P C n c Q F (H' x)) : WP P C n c Q F H := by
  unfold WP at *
  rintro a w ⟨hdef, hn, m, h1, h2, h3, h4, h5⟩
  obtain ⟨g1, arr, g2, g3⟩ := h2.2 _ (hu x0).mem
  obtain ⟨x, hx⟩ := g3.exI i hi
  refine k x a w ⟨hdef, hn, m, h1, ⟨(hu x).keys ▸ h2.1, fun e he => ?_⟩, h3, fun e he => ?_, h5⟩
  · rcases (hu x).mem' h2.1 e he with rfl | ⟨he', _⟩
    · exact ⟨g1, arr, g2, hx⟩
    · exact h2.2 e he'
  · have : e.1 ∈ (H' x).map (·.1) := List.mem_map.2 ⟨e, he, rfl⟩
    rw [(hu x).keys] at this
    obtain ⟨e', he', hk'⟩ := List.mem_map.1 this
    exact hk' ▸ h4 e' he'
end
theorem new_pu (zs : List Int) (hz : zs.length ≤ 9223372036854775807) : PuN Tryz.prog 12 75 [nsl .i64 zs] (tapeC (zs.take (min zs.length 400))) := by
  obtain ⟨k, hk⟩ : ∃ k, k = min zs.length 400 := ⟨_, rfl⟩
  rw [← hk]
  by_cases h : zs.length ≤ 400
  · have hk : k = zs.length := by omega
    subst hk
    refine PuN.intro Tryz.func12 rfl (by kernel_rfl) fun C => ?_
    repeat (refine A1 ⟨?_⟩; intros)
    refine Wo (ov_sliceN (i := 0) (j := zs.length) rfl (fun _ h => by cases h) (fun _ => rfl) (fun y h => ⟨_, _, by cases h; exact rfl, rfl⟩) (fun h => by cases h) (by omega) (by omega) rfl) ?_
    repeat (refine A1 ⟨?_⟩; intros)
    exact endNwR _ _ (end1 (RV.tmp rfl) (Le.refl _)) List.mem_cons_self ⟨Le.refl _, Le.ex ⟨0, by simp⟩ (Le.refl _), trivial⟩
  · have hk : k = 400 := by omega
    subst hk
    refine PuN.intro Tryz.func12 rfl (by kernel_rfl) fun C => ?_
    repeat (refine A1 ⟨?_⟩; intros)
    refine Wo (ov_sliceN (i := 0) (j := 400) rfl (fun _ h => by cases h) (fun _ => rfl) (fun y h => ⟨_, _, by cases h; exact rfl, rfl⟩) (fun h => by cases h) (by omega) (by omega) rfl) ?_
    repeat (refine A1 ⟨?_⟩; intros)
    exact endNwR _ _ (end1 (RV.tmp rfl) (Le.refl _)) List.mem_cons_self ⟨Le.refl _, Le.ex ⟨0, by simp⟩ (Le.refl _), trivial⟩
/-- a function of the tape, which goes on somewhere in it -/
abbrev PuT (f : FuncId) (zs : List Int) (args : List SV) (res : SV) : Prop := PuM Tryz.prog f 75 (fun b => lit (.pointer (some ⟨b, 0, none⟩)) :: args) (tapeC zs) (fun _ : Unit => tapeC zs) (fun _ => res)
/-- a number below n -/
abbrev below (n : Nat) : SV := ex fun k : { k : Nat // k < n } => lit (.int .i64 (k.1 : Int))
theorem next_pu (zs : List Int) (hz : zs.length ≤ 400) (n : Nat) (hn : 0 < n) (hn' : n ≤ 1000000000) : PuT 25 zs [lit (.int .i64 n)] (below n) := by
  refine PuM.intro Tryz.func25 rfl (by kernel_rfl) fun C b => ?_
  refine WP.exH 1 rfl (fun x => HUpd.here _) ⟨0, by omega⟩ fun x => ?_
  obtain ⟨k, hk⟩ := x
  simp only [tapeC, List.set_cons_succ, List.set_cons_zero]
  by_cases hkl : k < zs.length
  · have m1 := Int.tmod_lt_of_pos (zs.getD k 0) (show (0 : Int) < n by omega)
    have m2 := Int.lt_tmod_of_pos (zs.getD k 0) (show (0 : Int) < n by omega)
    repeat (refine A1 ⟨?_⟩; intros)
    generalize (zs.getD k 0).tmod (n : Int) = r at *
    refine WPd (fun h => ?_) (fun h => ?_)
    · repeat (refine A1 ⟨?_⟩; intros)
      exact endMR () _ (end1 (RV.tmp rfl) (Le.ex ⟨(r + n).toNat, by omega⟩ (Le.int (by simp only; omega)))) List.mem_cons_self ⟨Le.refl _, Le.ex ⟨k + 1, by omega⟩ (Le.refl _), trivial⟩
    · repeat (refine A1 ⟨?_⟩; intros)
      exact endMR () _ (end1 (RV.tmp rfl) (Le.ex ⟨r.toNat, by omega⟩ (Le.int (by simp only; omega)))) List.mem_cons_self ⟨Le.refl _, Le.ex ⟨k + 1, by omega⟩ (Le.refl _), trivial⟩
  · repeat (refine A1 ⟨?_⟩; intros)
    exact endMR () _ (end1 (RV.tmp rfl) (Le.ex ⟨0, hn⟩ (Le.refl _))) List.mem_cons_self ⟨Le.refl _, Le.ex ⟨k, hk⟩ (Le.refl _), trivial⟩
/-- a rational whose parts have one digit -/
abbrev smallR : SV := ex fun x : { x : Rat // ht x ≤ 1 } => rq x.1
theorem ht_mkz (z : Int) (d : Nat) (hz : z.natAbs < 4294967296) (hd : d < 4294967296) : ht (mkRat z d) ≤ 1 := by
  have h := ht_mk z d
  have h1 : il z ≤ 1 := len_le (k := 1) (by simpa using hz)
  have h2 := len_le (n := d) (k := 1) (by simpa using hd)
  omega
theorem ht_int (z : Int) (h : z.natAbs < 4294967296) : ht (z : Rat) ≤ 1 := by
  unfold ht
  rw [Rat.num_intCast, Rat.den_intCast, dgs_one]
  have : il z ≤ 1 := len_le (k := 1) (by simpa using h)
  simp; omega
theorem tq_pu (zs : List Int) (hz : zs.length ≤ 400) : PuT 43 zs [] smallR := by
  refine PuM.intro Tryz.func43 rfl (by kernel_rfl) fun C b => ?_
  repeat (refine A1 ⟨?_⟩; intros)
  refine Wtx (next_pu zs hz 9 (by omega) (by omega)) (List.mem_cons_of_mem _ List.mem_cons_self) fun k => ?_
  obtain ⟨k, hk⟩ := k
  simp only []
  repeat (refine A1 ⟨?_⟩; intros)
  refine Wtx (next_pu zs hz 6 (by omega) (by omega)) (List.mem_cons_of_mem _ List.mem_cons_self) fun j => ?_
  obtain ⟨j, hj⟩ := j
  simp only []
  have fin : ∀ (x : Rat), ht x ≤ 1 → Le (ag [lit (.bool (decide (x.num < 0))), nat x.num.natAbs, dg (dden x.den)]) smallR := fun x hx => Le.ex ⟨x, hx⟩ (Le.refl _)
  by_cases hj0 : j = 0
  · have hp := rpart_pu (2 * ((k : Int) - 4) + 1) 2 (by omega) (by omega) (by omega) (by omega)
    repeat (first | (refine A1 ⟨?_⟩; intros) | (refine Wcx (hp) ?_) | (refine Wdcx (hp) ?_) | (refine Wcgx (hp) ?_) | (refine Wdcgx (hp) ?_))
    exact endMR () _ (end1 (RV.cellA rfl List.mem_cons_self rfl rfl) (fin _ (ht_mkz _ _ (by omega) (by omega)))) (List.mem_cons_of_mem _ List.mem_cons_self) (LeL.refl _)
  · by_cases hj1 : j = 1
    · have hp := rpart_pu (3 * ((k : Int) - 4) + 1) 3 (by omega) (by omega) (by omega) (by omega)
      repeat (first | (refine A1 ⟨?_⟩; intros) | (refine Wcx (hp) ?_) | (refine Wdcx (hp) ?_) | (refine Wcgx (hp) ?_) | (refine Wdcgx (hp) ?_))
      exact endMR () _ (end1 (RV.cellA rfl List.mem_cons_self rfl rfl) (fin _ (ht_mkz _ _ (by omega) (by omega)))) (List.mem_cons_of_mem _ List.mem_cons_self) (LeL.refl _)
    · have hp := rof_pu ((k : Int) - 4) (by omega) (by omega)
      repeat (first | (refine A1 ⟨?_⟩; intros) | (refine Wcx (hp) ?_) | (refine Wdcx (hp) ?_) | (refine Wcgx (hp) ?_) | (refine Wdcgx (hp) ?_))
      exact endMR () _ (end1 (RV.cellA rfl List.mem_cons_self rfl rfl) (fin _ (ht_int _ (by omega)))) (List.mem_cons_of_mem _ List.mem_cons_self) (LeL.refl _)
theorem leN0 : Le (lit (.slice none 0 0)) (nat (0 : Rat).num.natAbs) := by
  rw [show (0 : Rat).num.natAbs = 0 from rfl, show nat 0 = dg [] from by show dg (dgs 0) = _; rw [dgs_zero]]
  exact le_nil
theorem leD0 : Le (lit (.slice none 0 0)) (dg (dden (0 : Rat).den)) := by
  rw [show (0 : Rat).den = 1 from rfl, dden_one]; exact le_nil
abbrev smallP : SV := ex fun p : { p : Rat × Rat // ht p.1 ≤ 1 ∧ ht p.2 ≤ 1 } => rp p.1.1 p.1.2
abbrev smallM : SV := ex fun m : { m : M6 Rat // m.le 1 } => rm m.1
theorem tpoint_pu (zs : List Int) (hz : zs.length ≤ 400) : PuT 30 zs [] smallP := by
  refine PuM.intro Tryz.func30 rfl (by kernel_rfl) fun C b => ?_
  repeat (refine A1 ⟨?_⟩; intros)
  refine Wtx (tq_pu zs hz) (List.mem_cons_of_mem _ List.mem_cons_self) fun x => ?_
  repeat (refine A1 ⟨?_⟩; intros)
  refine Wtx (tq_pu zs hz) (List.mem_cons_of_mem _ List.mem_cons_self) fun y => ?_
  repeat (refine A1 ⟨?_⟩; intros)
  exact endMR () _ (end1 (RV.cellA rfl List.mem_cons_self rfl rfl) (Le.ex ⟨(x.1, y.1), x.2, y.2⟩ (Le.refl _))) (List.mem_cons_of_mem _ List.mem_cons_self) (LeL.refl _)
end Go.Ab
/- The scenes: how long numbers are. -/
namespace Go.Ab
open Go.Proofs
set_option linter.unusedSectionVars false
set_option linter.unusedVariables false
set_option linter.unusedSimpArgs false
variable [Base]
abbrev qcells (r : RQ) : List SV := [lit (.bool r.s), dg r.n, dg r.d]
def RQ.short (n : Nat) (r : RQ) : Prop := r.n.length ≤ n ∧ r.d.length ≤ n
instance (n : Nat) (r : RQ) : Decidable (r.short n) := by unfold RQ.short; infer_instance
theorem qcells_len (r : RQ) : (qcells r).length = 3 := rfl
theorem take_snoc {α : Type} {l : List α} {k : Nat} {a : α} (h : l[k]? = some a) : l.take (k + 1) = l.take k ++ [a] := by
  obtain ⟨h1, h2⟩ := List.getElem?_eq_some_iff.1 h
  rw [List.take_succ_eq_append_getElem h1, h2]
theorem smallQ_pu (n : Nat) (hn : n ≤ 1000000000) (rs : List RQ) (hl : rs.length ≤ 1000000000) : Pu Tryz.prog 18 [lit (.int .i64 n), sl (rs.map qcells).flatten rs.length] (lit (.bool (decide (∀ r ∈ rs, r.short n)))) := by
  refine Pu.intro Tryz.func18 rfl (by kernel_rfl) fun C => ?_
  repeat (refine A1 ⟨?_⟩; intros)
  refine WP.loopS (ι := Nat) (fun k => k ≤ rs.length ∧ ∀ r ∈ rs.take k, r.short n) (fun k => rs.length - k) (fun k => fm [(0, lit (.int .i64 n)), (7, sl (rs.map qcells).flatten rs.length), (8, lit (.int .i64 rs.length)), (9, lit (.int .i64 k))]) (fun _ => []) 0
    ⟨Nat.zero_le _, by simp⟩ (by (repeat (first | exact LeF.nil _ | refine LeF.cons (Le.refl _) ?_ | refine LeF.cons (Le.int (by omega)) ?_))) (List.nil_sublist _) ?_
  rintro k ⟨hk, hr⟩ K hK
  by_cases hkl : k < rs.length
  · have hget := List.getElem?_eq_getElem hkl
    generalize rs[k] = r at hget
    have hmem : r ∈ rs := List.mem_of_getElem? hget
    have hat := flat_at (f := qcells) (n := 3) qcells_len hget
    have hne : (rs.map qcells).flatten ≠ [] := flat_ne qcells_len (by omega) (fun e => by rw [e] at hkl; simp at hkl)
    by_cases h1 : r.n.length ≤ n
    · by_cases h2 : r.d.length ≤ n
      · have hK2 := hK
        repeat (refine A1 ⟨?_⟩; intros)
        refine Wo (ov_idxS (cs' := qcells r) rfl rfl (by omega) (by omega) hat hne) ?_
        repeat (refine A1 ⟨?_⟩; intros)
        refine hK _ _ (k + 1) ⟨by omega, ?_⟩ (by omega) (by (repeat (first | exact LeF.nil _ | refine LeF.cons (Le.refl _) ?_ | refine LeF.cons (Le.int (by omega)) ?_))) (List.nil_sublist _)
        rw [take_snoc hget]
        intro x hx
        rcases List.mem_append.1 hx with hx | hx
        · exact hr x hx
        · rw [List.mem_singleton] at hx; subst hx; exact ⟨h1, h2⟩
      · repeat (refine A1 ⟨?_⟩; intros)
        refine Wo (ov_idxS (cs' := qcells r) rfl rfl (by omega) (by omega) hat hne) ?_
        repeat (refine A1 ⟨?_⟩; intros)
        exact endR (end1 (RV.tmp rfl) (le_decF fun h => h2 (h r hmem).2))
    · repeat (refine A1 ⟨?_⟩; intros)
      refine Wo (ov_idxS (cs' := qcells r) rfl rfl (by omega) (by omega) hat hne) ?_
      repeat (refine A1 ⟨?_⟩; intros)
      exact endR (end1 (RV.tmp rfl) (le_decF fun h => h1 (h r hmem).1))
  · have hke : k = rs.length := by omega
    subst hke
    rw [List.take_length] at hr
    repeat (refine A1 ⟨?_⟩; intros)
    exact endR (end1 (RV.tmp rfl) (le_decT hr))
theorem smallQ_t (n : Nat) (hn : n ≤ 1000000000) (rs : List RQ) (hl : rs.length ≤ 1000000000) (h : ∀ r ∈ rs, r.short n) : Pu Tryz.prog 18 [lit (.int .i64 n), sl (rs.map qcells).flatten rs.length] (lit (.bool true)) := by
  have := smallQ_pu n hn rs hl; rwa [decide_eq_true h] at this
theorem smallQ_f (n : Nat) (hn : n ≤ 1000000000) (rs : List RQ) (hl : rs.length ≤ 1000000000) (h : ¬∀ r ∈ rs, r.short n) : Pu Tryz.prog 18 [lit (.int .i64 n), sl (rs.map qcells).flatten rs.length] (lit (.bool false)) := by
  have := smallQ_pu n hn rs hl; rwa [decide_eq_false h] at this
abbrev pcells (p : RQ × RQ) : List SV := [lit (.bool p.1.s), dg p.1.n, dg p.1.d, lit (.bool p.2.s), dg p.2.n, dg p.2.d]
theorem pcells_len (p : RQ × RQ) : (pcells p).length = 6 := rfl
theorem smallP_pu (n : Nat) (hn : n ≤ 1000000000) (ps : List (RQ × RQ)) (hl : ps.length ≤ 1000000000) : Pu Tryz.prog 7 [lit (.int .i64 n), sl (ps.map pcells).flatten ps.length] (lit (.bool (decide (∀ p ∈ ps, p.1.short n ∧ p.2.short n)))) := by
  refine Pu.intro Tryz.func7 rfl (by kernel_rfl) fun C => ?_
  repeat (refine A1 ⟨?_⟩; intros)
  refine WP.loopS (ι := Nat) (fun k => k ≤ ps.length ∧ ∀ p ∈ ps.take k, p.1.short n ∧ p.2.short n) (fun k => ps.length - k) (fun k => fm [(0, lit (.int .i64 n)), (7, sl (ps.map pcells).flatten ps.length), (8, lit (.int .i64 ps.length)), (9, lit (.int .i64 k))]) (fun _ => []) 0
    ⟨Nat.zero_le _, by simp⟩ (by (repeat (first | exact LeF.nil _ | refine LeF.cons (Le.refl _) ?_ | refine LeF.cons (Le.int (by omega)) ?_))) (List.nil_sublist _) ?_
  rintro k ⟨hk, hr⟩ K hK
  by_cases hkl : k < ps.length
  · have hget := List.getElem?_eq_getElem hkl
    generalize ps[k] = p at hget
    have hmem : p ∈ ps := List.mem_of_getElem? hget
    have hat := flat_at (f := pcells) (n := 6) pcells_len hget
    have hne : (ps.map pcells).flatten ≠ [] := flat_ne pcells_len (by omega) (fun e => by rw [e] at hkl; simp at hkl)
    by_cases h1 : ∀ r ∈ [p.1, p.2], r.short n
    · have hc := smallQ_t n hn [p.1, p.2] (by simp) h1
      have h2 := h1 p.1 (by simp)
      have h3 := h1 p.2 (by simp)
      repeat (refine A1 ⟨?_⟩; intros)
      refine Wo (ov_idxS (cs' := pcells p) rfl rfl (by omega) (by omega) hat hne) ?_
      repeat (refine A1 ⟨?_⟩; intros)
      refine WpubS 18 rfl (HDel.here _) (by omega) (by omega) ?_
      refine Wcx hc ?_
      repeat (refine A1 ⟨?_⟩; intros)
      refine hK _ _ (k + 1) ⟨by omega, ?_⟩ (by omega) (by (repeat (first | exact LeF.nil _ | refine LeF.cons (Le.refl _) ?_ | refine LeF.cons (Le.int (by omega)) ?_))) (List.nil_sublist _)
      rw [take_snoc hget]
      intro x hx
      rcases List.mem_append.1 hx with hx | hx
      · exact hr x hx
      · rw [List.mem_singleton] at hx; subst hx; exact ⟨h2, h3⟩
    · have hc := smallQ_f n hn [p.1, p.2] (by simp) h1
      repeat (refine A1 ⟨?_⟩; intros)
      refine Wo (ov_idxS (cs' := pcells p) rfl rfl (by omega) (by omega) hat hne) ?_
      repeat (refine A1 ⟨?_⟩; intros)
      refine WpubS 18 rfl (HDel.here _) (by omega) (by omega) ?_
      refine Wcx hc ?_
      repeat (refine A1 ⟨?_⟩; intros)
      exact endR (end1 (RV.tmp rfl) (le_decF fun h => h1 fun r hr => by
        have := h p hmem
        simp only [List.mem_cons, List.not_mem_nil, or_false] at hr
        rcases hr with rfl | rfl
        · exact this.1
        · exact this.2))
  · have hke : k = ps.length := by omega
    subst hke
    rw [List.take_length] at hr
    repeat (refine A1 ⟨?_⟩; intros)
    exact endR (end1 (RV.tmp rfl) (le_decT hr))
theorem smallP_t (n : Nat) (hn : n ≤ 1000000000) (ps : List (RQ × RQ)) (hl : ps.length ≤ 1000000000) (h : ∀ p ∈ ps, p.1.short n ∧ p.2.short n) : Pu Tryz.prog 7 [lit (.int .i64 n), sl (ps.map pcells).flatten ps.length] (lit (.bool true)) := by
  have := smallP_pu n hn ps hl; rwa [decide_eq_true h] at this
theorem smallP_f (n : Nat) (hn : n ≤ 1000000000) (ps : List (RQ × RQ)) (hl : ps.length ≤ 1000000000) (h : ¬∀ p ∈ ps, p.1.short n ∧ p.2.short n) : Pu Tryz.prog 7 [lit (.int .i64 n), sl (ps.map pcells).flatten ps.length] (lit (.bool false)) := by
  have := smallP_pu n hn ps hl; rwa [decide_eq_false h] at this
end Go.Ab
/- Package affine: Translation; the law AffineRough, walked. -/
namespace Go.Ab
open Go.Proofs
set_option linter.unusedSectionVars false
set_option linter.unusedVariables false
set_option linter.unusedSimpArgs false
variable [Base]
theorem small0 : small 0 := by unfold small; rw [show (0 : Rat).num = 0 from rfl, show (0 : Rat).den = 1 from rfl]; omega
theorem r0_zero : r0 0 = 0 := r0_s small0
theorem r1_zero : r1 0 = 0 := (if_pos small0).trans (by rw [show (0 : Rat).den = 1 from rfl]; rfl)
theorem r2_zero : r2 0 = lit (.pointer none) := if_pos small0
theorem ht_zero : ht 0 = 1 := by
  unfold ht il
  rw [show (0 : Rat).num = 0 from rfl, show (0 : Rat).den = 1 from rfl, show (0 : Int).natAbs = 0 from rfl, dgs_zero, dgs_one]; rfl
theorem sameq1 (x : Rat) (h : ht x ≤ 1000000) : Pu Tryz.prog 140 [q x, q x] (lit (.bool true)) := sameq_pu x (by omega)
/-- a rational of package api, read by the reference -/
theorem q_of (x : Rat) (h : ht x ≤ 100000) : Pu Tryz.prog 99 [q x] (rq x) := by
  have := q_pu (RQ.of_ok h) (by omega)
  rwa [RQ.of_v] at this
def M6.of (m : M6 Rat) : M6 RQ := ⟨RQ.of m.a, RQ.of m.b, RQ.of m.c, RQ.of m.d, RQ.of m.e, RQ.of m.f⟩
theorem M6.of_v (m : M6 Rat) : m.of.v = m := by
  unfold M6.of M6.v
  simp only [RQ.of_v]
theorem M6.of_ok {m : M6 Rat} {L : Nat} (h : m.le L) : m.of.ok L := ⟨RQ.of_ok h.a, RQ.of_ok h.b, RQ.of_ok h.c, RQ.of_ok h.d, RQ.of_ok h.e, RQ.of_ok h.f⟩
theorem ht_small (z : Int) (h : z.natAbs < 4294967296) : ht (z : Rat) ≤ 1 := by
  unfold ht
  rw [Rat.num_intCast, Rat.den_intCast, dgs_one]
  have : il z ≤ 1 := len_le (k := 1) (by simpa using h)
  simp; omega
end Go.Ab
/- Decimal texts of rational numbers: the reference's. -/
namespace Go.Ab
open Go.Proofs
set_option linter.unusedSectionVars false
set_option linter.unusedVariables false
set_option linter.unusedSimpArgs false
variable [Base]
/-- the text of a rational number -/
def fmt (x : Rat) : List UInt8 := (if x.num < 0 then [45] ++ dec x.num.natAbs else dec x.num.natAbs) ++ (if x.den = 1 then [] else [47] ++ dec x.den)
theorem dec_len {n L : Nat} (h : (dgs n).length ≤ L) : (dec n).length ≤ 10 * L + 1 := by
  unfold dec
  split
  · simp
  · rw [List.length_reverse]; have := decR_len h; omega
theorem rformat_pu (x : Rat) {L : Nat} (hx : ht x ≤ L) (hL : L ≤ 10000) : Pu Tryz.prog 141 [rq x] (str (fmt x)) := by
  have n1 := ht_num x
  have n2 := ht_den x
  have c1 := rtext_pu x.num.natAbs (L := L) (show il x.num ≤ L by omega) (by omega)
  have c2 := rtext_pu x.den (L := L) (by omega) (by omega)
  have l1 := dec_len (n := x.num.natAbs) (L := L) (show il x.num ≤ L by omega)
  have l2 := dec_len (n := x.den) (L := L) (by omega)
  unfold fmt
  generalize hD1 : dec x.num.natAbs = D1 at *
  generalize hD2 : dec x.den = D2 at *
  have k1 : ([45] : List UInt8).length = 1 := rfl
  have k2 : ([47] : List UInt8).length = 1 := rfl
  have k3 : ([47] ++ D2).length = D2.length + 1 := by simp
  have k4 : ([45] ++ D1).length = D1.length + 1 := by simp
  show Pu _ _ [ag [lit (.bool (decide (x.num < 0))), nat x.num.natAbs, dg (dden x.den)]] _
  by_cases h2 : x.den = 1
  · rw [if_pos h2, List.append_nil]
    have e := dden_len1 h2
    by_cases h1 : x.num < 0
    · rw [if_pos h1, decide_eq_true h1]
      refine Pu.intro Tryz.func141 rfl (by kernel_rfl) fun C => ?_
      repeat (first | (refine A1 ⟨?_⟩; intros) | (refine Wcx (c1) ?_) | (refine Wdcx (c1) ?_) | (refine Wcgx (c1) ?_) | (refine Wdcgx (c1) ?_))
      ((first | refine endR ?_ | refine endN ?_); exact end1 (RV.tmp rfl) (Le.refl _))
    · rw [if_neg h1, decide_eq_false h1]
      refine Pu.intro Tryz.func141 rfl (by kernel_rfl) fun C => ?_
      repeat (first | (refine A1 ⟨?_⟩; intros) | (refine Wcx (c1) ?_) | (refine Wdcx (c1) ?_) | (refine Wcgx (c1) ?_) | (refine Wdcgx (c1) ?_))
      ((first | refine endR ?_ | refine endN ?_); exact end1 (RV.tmp rfl) (Le.refl _))
  · rw [if_neg h2]
    have e := dden_len x.den_nz h2
    rw [dden_ne h2] at *
    by_cases h1 : x.num < 0
    · rw [if_pos h1, decide_eq_true h1]
      refine Pu.intro Tryz.func141 rfl (by kernel_rfl) fun C => ?_
      repeat (first | (refine A1 ⟨?_⟩; intros) | (refine Wcx (c1) ?_) | (refine Wdcx (c1) ?_) | (refine Wcgx (c1) ?_) | (refine Wdcgx (c1) ?_) | (refine Wcx (c2) ?_) | (refine Wdcx (c2) ?_) | (refine Wcgx (c2) ?_) | (refine Wdcgx (c2) ?_))
      ((first | refine endR ?_ | refine endN ?_); exact end1 (RV.tmp rfl) (Le.refl _))
    · rw [if_neg h1, decide_eq_false h1]
      refine Pu.intro Tryz.func141 rfl (by kernel_rfl) fun C => ?_
      repeat (first | (refine A1 ⟨?_⟩; intros) | (refine Wcx (c1) ?_) | (refine Wdcx (c1) ?_) | (refine Wcgx (c1) ?_) | (refine Wdcgx (c1) ?_) | (refine Wcx (c2) ?_) | (refine Wdcx (c2) ?_) | (refine Wcgx (c2) ?_) | (refine Wdcgx (c2) ?_))
      ((first | refine endR ?_ | refine endN ?_); exact end1 (RV.tmp rfl) (Le.refl _))
theorem fmt_len {x : Rat} {L : Nat} (hx : ht x ≤ L) : (fmt x).length ≤ 20 * L + 4 ∧ 1 ≤ (fmt x).length := by
  have n1 := ht_num x
  have n2 := ht_den x
  have l1 := dec_len (n := x.num.natAbs) (L := L) (show il x.num ≤ L by omega)
  have l2 := dec_len (n := x.den) (L := L) (by omega)
  have p : ∀ n, 1 ≤ (dec n).length := fun n => by
    unfold dec
    split
    · simp
    · rename_i h; rw [decR_pos h]; simp
  have p1 := p x.num.natAbs
  unfold fmt
  split <;> split <;> simp <;> omega
theorem fmt_zero : fmt 0 = [48] := by
  unfold fmt dec
  simp
/-- the reference's text of a point whose second coordinate is 0 -/
theorem rtextP_pu (x : Rat) {L : Nat} (hx : ht x ≤ L) (hL : L ≤ 10000) : Pu Tryz.prog 98 [ag [lit (.bool (decide (x.num < 0))), nat x.num.natAbs, dg (dden x.den), lit (.bool false), lit (.slice none 0 0), lit (.slice none 0 0)]] (str ([40] ++ fmt x ++ [44] ++ [48] ++ [41])) := by
  have c1 := rformat_pu x hx hL
  have c2 := (rformat_pu 0 (L := 1) (by rw [ht_zero]; omega) (by omega)).arg (l' := [ag [lit (.bool false), lit (.slice none 0 0), lit (.slice none 0 0)]]) ⟨Le.ag (by repeat (first | exact trivial | refine ⟨?_, ?_⟩ | exact Le.refl _ | exact leN0 | exact leD0)), trivial⟩
  rw [fmt_zero] at c2
  have hl := fmt_len hx
  generalize fmt x = s at *
  have k1 : ([40] : List UInt8).length = 1 := rfl
  have k2 : ([44] : List UInt8).length = 1 := rfl
  have k3 : ([48] : List UInt8).length = 1 := rfl
  have k4 : ([41] : List UInt8).length = 1 := rfl
  have l1 : ([40] ++ s).length = s.length + 1 := by simp
  have l2 : ([40] ++ s ++ [44]).length = s.length + 2 := by simp
  have l3 : ([40] ++ s ++ [44] ++ [48]).length = s.length + 3 := by simp
  refine Pu.intro Tryz.func98 rfl (by kernel_rfl) fun C => ?_
  repeat (first | (refine A1 ⟨?_⟩; intros) | (refine Wcx (c1) ?_) | (refine Wdcx (c1) ?_) | (refine Wcgx (c1) ?_) | (refine Wdcgx (c1) ?_) | (refine Wcx (c2) ?_) | (refine Wdcx (c2) ?_) | (refine Wcgx (c2) ?_) | (refine Wdcgx (c2) ?_))
  ((first | refine endR ?_ | refine endN ?_); exact end1 (RV.tmp rfl) (Le.refl _))
/-- the reference's check of normal form, of what is in normal form -/
theorem normalQ_t (x : Rat) {L : Nat} (hx : ht x ≤ L) (hL : L ≤ 10000) : Pu Tryz.prog 97 [q x] (lit (.bool true)) := by
  have c1 := q_of x (by omega)
  have c2 := toQ_pu x (by omega)
  have c3 := sameq_pu x (by omega)
  have e := dgs_ne_nil x.den_nz
  refine Pu.intro Tryz.func97 rfl (by kernel_rfl) fun C => ?_
  repeat (first | (refine A1 ⟨?_⟩; intros) | (refine Wcx (c1) ?_) | (refine Wdcx (c1) ?_) | (refine Wcgx (c1) ?_) | (refine Wdcgx (c1) ?_) | (refine Wcx (c2) ?_) | (refine Wdcx (c2) ?_) | (refine Wcgx (c2) ?_) | (refine Wdcgx (c2) ?_) | (refine Wcx (c3) ?_) | (refine Wdcx (c3) ?_) | (refine Wcgx (c3) ?_) | (refine Wdcgx (c3) ?_))
  ((first | refine endR ?_ | refine endN ?_); exact end1 (RV.tmp rfl) (Le.refl _))
end Go.Ab
/- Sentinel errors: package variables that hold a pointer to an errors.errorString; errors.Is of one and the same. -/
namespace Go.Ab
open Go.Proofs
set_option linter.unusedSectionVars false
set_option linter.unusedVariables false
set_option linter.unusedSimpArgs false
variable [Base]
/-- where a sentinel's text lies -/
def addrIn : Option Value → Addr
  | some (.iface _ (.pointer (some a))) => a
  | _ => ⟨0, 0, none⟩
def gaddr (g : Nat) : Addr := match Base.mem g with
  | some (.cells arr _ _) => addrIn arr[0]?
  | _ => ⟨0, 0, none⟩
/-- a sentinel -/
abbrev sent (g : Nat) : Value := .iface 378 (.pointer (some (gaddr g)))
class Sent (g : Nat) : Prop where
  h : ∃ (a : Addr) (T : TypeId) (fz : Nat × Nat), Base.mem g = some (.cells #[.iface 378 (.pointer (some a))] T fz)
instance (g : Nat) [s : Sent g] : GV g (sent g) := ⟨by
  obtain ⟨a, T, fz, h⟩ := s.h
  refine ⟨T, fz, ?_⟩
  unfold sent gaddr
  rw [h]; rfl⟩
theorem isTypeOf (v : Value) (w : World) : (Extern.ReflectliteType.typeOf #[.iface 378 v]).run Tryz.prog w = .ok (.iface 144 (.agg #[.pointer (some ⟨(Tryz.prog).globals.size, 378, none⟩)])) w := by kernel_rfl
theorem isComparable (w : World) : ((Extern.ReflectliteType.method fun t => do Extern.Rtype.noPackHeld "Comparable" t; pure (.bool (← typeInfo t).comparable)) #[.agg #[.pointer (some ⟨(Tryz.prog).globals.size, 378, none⟩)]]).run Tryz.prog w = .ok (.bool true) w := by kernel_rfl
theorem isMethodC (v : Value) (w : World) : (Go.method ((Tryz.prog).types.size + Made.depth) 144 v "Comparable").run Tryz.prog w = .ok (315, v) w := by kernel_rfl
section
variable {F : Fr} {H : LH} {ty : TypeId}
theorem ov_typeOf {x : Operand} {v : Value} {tys : Array TypeId} (hx : ev F x = lit (.iface 378 v)) : OpV Tryz.prog (.call ⟨.value (.func 39), [x].toArray, tys⟩) ty F H (lit (.iface 144 (.agg #[.pointer (some ⟨(Tryz.prog).globals.size, 378, none⟩)]))) :=
  OpV.pure fun m w o a ho _ _ _ h => by
    have h0 := h x (by simp [Op.operands, Call.operands]); rw [hx, lit_p] at h0
    have h8 := @run_callFunc_extern Tryz.prog 39 _ Extern.ReflectliteType.typeOf Tryz.func39 (by kernel_rfl) (by kernel_rfl) (by kernel_rfl) (by kernel_rfl)
    refine ⟨_, ?_, lit_p.2 rfl⟩
    have := h8 #[a.eval x] w
    rw [h0, isTypeOf, ← h0] at this
    simp only [execOp, ho, resolve, Sem.run_bind, Sem.run_pure, Result.andThen_ok]
    have e1 : a.eval (.func 39) = .func (.func 39) #[] #[] := rfl
    simp only [e1, Deferred.ofValue, Sem.run_pure, Result.andThen_ok, invoke, List.map_toArray, List.map_cons, List.map_nil, Array.empty_append, Array.append_empty, this]
theorem ov_cmpble {x : Operand} {tys : Array TypeId} (hx : ev F x = lit (.iface 144 (.agg #[.pointer (some ⟨(Tryz.prog).globals.size, 378, none⟩)]))) : OpV Tryz.prog (.call ⟨.invoke x "Comparable", #[], tys⟩) ty F H (lit (.bool true)) :=
  OpV.pure fun m w o a ho _ _ _ h => by
    have h0 := h x (by simp [Op.operands, Call.operands]); rw [hx, lit_p] at h0
    have h8 := @run_callFunc_extern Tryz.prog 315 _ (Extern.ReflectliteType.method fun t => do Extern.Rtype.noPackHeld "Comparable" t; pure (.bool (← typeInfo t).comparable)) Tryz.func315 (by kernel_rfl) (by kernel_rfl) (by kernel_rfl) (by kernel_rfl)
    refine ⟨_, ?_, lit_p.2 rfl⟩
    have := h8 #[.agg #[.pointer (some ⟨(Tryz.prog).globals.size, 378, none⟩)]] w
    have hc := isComparable w
    have hm := isMethodC (.agg #[.pointer (some ⟨(Tryz.prog).globals.size, 378, none⟩)]) w
    rw [hc] at this
    have hz : (callMethod (.iface 144 (.agg #[.pointer (some ⟨(Tryz.prog).globals.size, 378, none⟩)])) "Comparable" #[]).run Tryz.prog w = .ok (.value (.bool true)) w := by
      simp only [callMethod, Sem.run_bind, run_program, Result.andThen_ok, hm, Array.append_empty, this]
    have he : execOp a.eval o = callMethod (a.eval x) "Comparable" #[] := by
      simp [execOp, ho, resolve, invoke]
    rw [he, h0, hz]
theorem ov_isame {g : Nat} {x y : Operand} {T' : TypeId} (hx : ev F x = lit (sent g)) (hy : ev F y = lit (sent g)) : OpV Tryz.prog (.binOp .eql 36 x y T') ty F H (lit (.bool true)) :=
  ov_bin hx hy (fun w => by
    obtain ⟨i, hi, hc⟩ := Option.map_eq_some_iff.1 (show ((Tryz.prog).info? 378).map (·.comparable) = some true by kernel_rfl)
    obtain ⟨j, hj, _⟩ := Option.map_eq_some_iff.1 (show ((Tryz.prog).info? 400).map (·.size) = some 1 by kernel_rfl)
    exact run_eql_iface_ptr_same w _ Tryz.underlying36 Tryz.underlying378 hi hc hj) (fun w => by simp [Go.eqGuard])
end
theorem is1_pu (g : Nat) : Pu Tryz.prog 40 [lit (sent g), lit (sent g), lit (.bool true)] (lit (.bool true)) := by
  refine Pu.intro Tryz.func40 rfl (by kernel_rfl) fun C => ?_
  repeat (refine A1 ⟨?_⟩; intros)
  refine WP.loop (ι := Unit) (fun _ => True) (fun _ => 0) (fun _ => fm [(0, lit (sent g)), (1, lit (sent g)), (2, lit (.bool true))]) (fun _ => []) () trivial (by (repeat (first | exact LeF.nil _ | refine LeF.cons (Le.refl _) ?_ | refine LeF.cons (Le.int (by omega)) ?_))) rfl ?_
  rintro _ _ K hK
  repeat (refine A1 ⟨?_⟩; intros)
  refine WgE ?_
  refine Wo (ov_isame rfl rfl) ?_
  repeat (refine A1 ⟨?_⟩; intros)
  ((first | refine endR ?_ | refine endN ?_); exact end1 (RV.tmp rfl) (Le.refl _))
theorem is_pu (g : Nat) : Pu Tryz.prog 22 [lit (sent g), lit (sent g)] (lit (.bool true)) := by
  refine Pu.intro Tryz.func22 rfl (by kernel_rfl) fun C => ?_
  repeat (refine A1 ⟨?_⟩; intros)
  refine Wo (ov_typeOf rfl) ?_
  refine Wo (ov_cmpble rfl) ?_
  repeat (first | (refine A1 ⟨?_⟩; intros) | (refine Wcx (is1_pu g) ?_) | (refine Wdcx (is1_pu g) ?_) | (refine Wcgx (is1_pu g) ?_) | (refine Wdcgx (is1_pu g) ?_))
  ((first | refine endR ?_ | refine endN ?_); exact end1 (RV.tmp rfl) (Le.refl _))
end Go.Ab
