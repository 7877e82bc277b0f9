/- The scenes: how long numbers are. -/
import Derived.Test.YtkhhdjbdeajlgaaGreatLoop
import Derived.Test.YtkhhdjbdeajlgaaGreatRef1
namespace Go.Ab
open Go.Proofs
abbrev qcells (r : RQ) : List SV := [lit (.bool r.s), dg r.n, dg r.d]
def RQ.short (n : Nat) (r : RQ) : Prop := r.n.length ≤ n ∧ r.d.length ≤ n
instance (n : Nat) (r : RQ) : Decidable (r.short n) := by unfold RQ.short; infer_instance
theorem qcells_len (r : RQ) : (qcells r).length = 3 := rfl
theorem take_snoc {α : Type} {l : List α} {k : Nat} {a : α} (h : l[k]? = some a) : l.take (k + 1) = l.take k ++ [a] := by
  obtain ⟨h1, h2⟩ := List.getElem?_eq_some_iff.1 h
  rw [List.take_succ_eq_append_getElem h1, h2]
theorem smallQ_pu (n : Nat) (hn : n ≤ 1000000000) (rs : List RQ) (hl : rs.length ≤ 1000000000) : Pu Tryz.prog 4 [lit (.int .i64 n), sl (rs.map qcells).flatten rs.length] (lit (.bool (decide (∀ r ∈ rs, r.short n)))) := by
  refine Pu.intro Tryz.func4 rfl (by kernel_rfl) fun C => ?_
  repeat (first | refine thenN ?_ | refine thenX ?_ | refine thenR ?_ | refine blkN ?_ | refine blkX ?_ | refine blkR ?_ | refine blkO ?_ | refine WP.seq' ?_ | refine WP.block ?_ | refine WP.reg ?_ | refine scR ?_ | refine scN ?_ | refine scX ?_ | refine WP.scope ?_ | refine WP.label ?_ | refine WP.skip ?_ | refine WP.exit ?_ | refine WP.ret ?_ | refine WPL.nil ?_ | (refine Ss ?_; refine Ws ?_) | (refine Sa ?_; refine Wa fun _ => ?_) | (refine Sb ?_; refine Wb fun _ => ?_) | (refine Sl ?_; refine Wl fun _ => ?_) | (refine Sp ?_; refine Wv ?_) | (refine Sg ?_; first | refine Wg ?_ | refine Wk ?_) | (refine WPt rfl ?_) | (refine WPf rfl ?_) | (refine Sdr ?_; refine Wdr ?_) | (refine Sdp ?_; first | refine Wda ?_ | refine Wdv ?_) | (refine Sdg ?_; first | refine Wdgv ?_ | refine Wdgk ?_) | refine Dk.nil ?_ | refine dK0 ?_ | (refine dK1 fun _ => ?_) | (refine dK2 fun _ _ => ?_))
  refine WP.loopS (ι := Nat) (fun k => k ≤ rs.length ∧ ∀ r ∈ rs.take k, r.short n) (fun k => rs.length - k) (fun k => fm [(0, lit (.int .i64 n)), (7, sl (rs.map qcells).flatten rs.length), (8, lit (.int .i64 rs.length)), (9, lit (.int .i64 k))]) (fun _ => []) 0
    ⟨Nat.zero_le _, by simp⟩ (by (repeat (first | exact LeF.nil _ | refine LeF.cons (Le.refl _) ?_ | refine LeF.cons (Le.int (by omega)) ?_))) (List.nil_sublist _) ?_
  rintro k ⟨hk, hr⟩ K hK
  by_cases hkl : k < rs.length
  · have hget := List.getElem?_eq_getElem hkl
    generalize rs[k] = r at hget
    have hmem : r ∈ rs := List.mem_of_getElem? hget
    have hat := flat_at (f := qcells) (n := 3) qcells_len hget
    have hne : (rs.map qcells).flatten ≠ [] := flat_ne qcells_len (by omega) (fun e => by rw [e] at hkl; simp at hkl)
    by_cases h1 : r.n.length ≤ n
    · by_cases h2 : r.d.length ≤ n
      · have hK2 := hK
        repeat (first | refine thenN ?_ | refine thenX ?_ | refine thenR ?_ | refine blkN ?_ | refine blkX ?_ | refine blkR ?_ | refine blkO ?_ | refine WP.seq' ?_ | refine WP.block ?_ | refine WP.reg ?_ | refine scR ?_ | refine scN ?_ | refine scX ?_ | refine WP.scope ?_ | refine WP.label ?_ | refine WP.skip ?_ | refine WP.exit ?_ | refine WP.ret ?_ | refine WPL.nil ?_ | (refine Ss ?_; refine Ws ?_) | (refine Sa ?_; refine Wa fun _ => ?_) | (refine Sb ?_; refine Wb fun _ => ?_) | (refine Sl ?_; refine Wl fun _ => ?_) | (refine Sp ?_; refine Wv ?_) | (refine Sg ?_; first | refine Wg ?_ | refine Wk ?_) | (refine WPt rfl ?_) | (refine WPf rfl ?_) | (refine Sdr ?_; refine Wdr ?_) | (refine Sdp ?_; first | refine Wda ?_ | refine Wdv ?_) | (refine Sdg ?_; first | refine Wdgv ?_ | refine Wdgk ?_) | refine Dk.nil ?_ | refine dK0 ?_ | (refine dK1 fun _ => ?_) | (refine dK2 fun _ _ => ?_))
        refine Wo (ov_idxS (cs' := qcells r) rfl rfl (by omega) (by omega) hat hne) ?_
        repeat (first | refine thenN ?_ | refine thenX ?_ | refine thenR ?_ | refine blkN ?_ | refine blkX ?_ | refine blkR ?_ | refine blkO ?_ | refine WP.seq' ?_ | refine WP.block ?_ | refine WP.reg ?_ | refine scR ?_ | refine scN ?_ | refine scX ?_ | refine WP.scope ?_ | refine WP.label ?_ | refine WP.skip ?_ | refine WP.exit ?_ | refine WP.ret ?_ | refine WPL.nil ?_ | (refine Ss ?_; refine Ws ?_) | (refine Sa ?_; refine Wa fun _ => ?_) | (refine Sb ?_; refine Wb fun _ => ?_) | (refine Sl ?_; refine Wl fun _ => ?_) | (refine Sp ?_; refine Wv ?_) | (refine Sg ?_; first | refine Wg ?_ | refine Wk ?_) | (refine WPt rfl ?_) | (refine WPf rfl ?_) | (refine Sdr ?_; refine Wdr ?_) | (refine Sdp ?_; first | refine Wda ?_ | refine Wdv ?_) | (refine Sdg ?_; first | refine Wdgv ?_ | refine Wdgk ?_) | refine Dk.nil ?_ | refine dK0 ?_ | (refine dK1 fun _ => ?_) | (refine dK2 fun _ _ => ?_))
        refine hK _ _ (k + 1) ⟨by omega, ?_⟩ (by omega) (by (repeat (first | exact LeF.nil _ | refine LeF.cons (Le.refl _) ?_ | refine LeF.cons (Le.int (by omega)) ?_))) (List.nil_sublist _)
        rw [take_snoc hget]
        intro x hx
        rcases List.mem_append.1 hx with hx | hx
        · exact hr x hx
        · rw [List.mem_singleton] at hx; subst hx; exact ⟨h1, h2⟩
      · repeat (first | refine thenN ?_ | refine thenX ?_ | refine thenR ?_ | refine blkN ?_ | refine blkX ?_ | refine blkR ?_ | refine blkO ?_ | refine WP.seq' ?_ | refine WP.block ?_ | refine WP.reg ?_ | refine scR ?_ | refine scN ?_ | refine scX ?_ | refine WP.scope ?_ | refine WP.label ?_ | refine WP.skip ?_ | refine WP.exit ?_ | refine WP.ret ?_ | refine WPL.nil ?_ | (refine Ss ?_; refine Ws ?_) | (refine Sa ?_; refine Wa fun _ => ?_) | (refine Sb ?_; refine Wb fun _ => ?_) | (refine Sl ?_; refine Wl fun _ => ?_) | (refine Sp ?_; refine Wv ?_) | (refine Sg ?_; first | refine Wg ?_ | refine Wk ?_) | (refine WPt rfl ?_) | (refine WPf rfl ?_) | (refine Sdr ?_; refine Wdr ?_) | (refine Sdp ?_; first | refine Wda ?_ | refine Wdv ?_) | (refine Sdg ?_; first | refine Wdgv ?_ | refine Wdgk ?_) | refine Dk.nil ?_ | refine dK0 ?_ | (refine dK1 fun _ => ?_) | (refine dK2 fun _ _ => ?_))
        refine Wo (ov_idxS (cs' := qcells r) rfl rfl (by omega) (by omega) hat hne) ?_
        repeat (first | refine thenN ?_ | refine thenX ?_ | refine thenR ?_ | refine blkN ?_ | refine blkX ?_ | refine blkR ?_ | refine blkO ?_ | refine WP.seq' ?_ | refine WP.block ?_ | refine WP.reg ?_ | refine scR ?_ | refine scN ?_ | refine scX ?_ | refine WP.scope ?_ | refine WP.label ?_ | refine WP.skip ?_ | refine WP.exit ?_ | refine WP.ret ?_ | refine WPL.nil ?_ | (refine Ss ?_; refine Ws ?_) | (refine Sa ?_; refine Wa fun _ => ?_) | (refine Sb ?_; refine Wb fun _ => ?_) | (refine Sl ?_; refine Wl fun _ => ?_) | (refine Sp ?_; refine Wv ?_) | (refine Sg ?_; first | refine Wg ?_ | refine Wk ?_) | (refine WPt rfl ?_) | (refine WPf rfl ?_) | (refine Sdr ?_; refine Wdr ?_) | (refine Sdp ?_; first | refine Wda ?_ | refine Wdv ?_) | (refine Sdg ?_; first | refine Wdgv ?_ | refine Wdgk ?_) | refine Dk.nil ?_ | refine dK0 ?_ | (refine dK1 fun _ => ?_) | (refine dK2 fun _ _ => ?_))
        exact endR (end1 (RV.tmp rfl) (le_decF fun h => h2 (h r hmem).2))
    · repeat (first | refine thenN ?_ | refine thenX ?_ | refine thenR ?_ | refine blkN ?_ | refine blkX ?_ | refine blkR ?_ | refine blkO ?_ | refine WP.seq' ?_ | refine WP.block ?_ | refine WP.reg ?_ | refine scR ?_ | refine scN ?_ | refine scX ?_ | refine WP.scope ?_ | refine WP.label ?_ | refine WP.skip ?_ | refine WP.exit ?_ | refine WP.ret ?_ | refine WPL.nil ?_ | (refine Ss ?_; refine Ws ?_) | (refine Sa ?_; refine Wa fun _ => ?_) | (refine Sb ?_; refine Wb fun _ => ?_) | (refine Sl ?_; refine Wl fun _ => ?_) | (refine Sp ?_; refine Wv ?_) | (refine Sg ?_; first | refine Wg ?_ | refine Wk ?_) | (refine WPt rfl ?_) | (refine WPf rfl ?_) | (refine Sdr ?_; refine Wdr ?_) | (refine Sdp ?_; first | refine Wda ?_ | refine Wdv ?_) | (refine Sdg ?_; first | refine Wdgv ?_ | refine Wdgk ?_) | refine Dk.nil ?_ | refine dK0 ?_ | (refine dK1 fun _ => ?_) | (refine dK2 fun _ _ => ?_))
      refine Wo (ov_idxS (cs' := qcells r) rfl rfl (by omega) (by omega) hat hne) ?_
      repeat (first | refine thenN ?_ | refine thenX ?_ | refine thenR ?_ | refine blkN ?_ | refine blkX ?_ | refine blkR ?_ | refine blkO ?_ | refine WP.seq' ?_ | refine WP.block ?_ | refine WP.reg ?_ | refine scR ?_ | refine scN ?_ | refine scX ?_ | refine WP.scope ?_ | refine WP.label ?_ | refine WP.skip ?_ | refine WP.exit ?_ | refine WP.ret ?_ | refine WPL.nil ?_ | (refine Ss ?_; refine Ws ?_) | (refine Sa ?_; refine Wa fun _ => ?_) | (refine Sb ?_; refine Wb fun _ => ?_) | (refine Sl ?_; refine Wl fun _ => ?_) | (refine Sp ?_; refine Wv ?_) | (refine Sg ?_; first | refine Wg ?_ | refine Wk ?_) | (refine WPt rfl ?_) | (refine WPf rfl ?_) | (refine Sdr ?_; refine Wdr ?_) | (refine Sdp ?_; first | refine Wda ?_ | refine Wdv ?_) | (refine Sdg ?_; first | refine Wdgv ?_ | refine Wdgk ?_) | refine Dk.nil ?_ | refine dK0 ?_ | (refine dK1 fun _ => ?_) | (refine dK2 fun _ _ => ?_))
      exact endR (end1 (RV.tmp rfl) (le_decF fun h => h1 (h r hmem).1))
  · have hke : k = rs.length := by omega
    subst hke
    rw [List.take_length] at hr
    repeat (first | refine thenN ?_ | refine thenX ?_ | refine thenR ?_ | refine blkN ?_ | refine blkX ?_ | refine blkR ?_ | refine blkO ?_ | refine WP.seq' ?_ | refine WP.block ?_ | refine WP.reg ?_ | refine scR ?_ | refine scN ?_ | refine scX ?_ | refine WP.scope ?_ | refine WP.label ?_ | refine WP.skip ?_ | refine WP.exit ?_ | refine WP.ret ?_ | refine WPL.nil ?_ | (refine Ss ?_; refine Ws ?_) | (refine Sa ?_; refine Wa fun _ => ?_) | (refine Sb ?_; refine Wb fun _ => ?_) | (refine Sl ?_; refine Wl fun _ => ?_) | (refine Sp ?_; refine Wv ?_) | (refine Sg ?_; first | refine Wg ?_ | refine Wk ?_) | (refine WPt rfl ?_) | (refine WPf rfl ?_) | (refine Sdr ?_; refine Wdr ?_) | (refine Sdp ?_; first | refine Wda ?_ | refine Wdv ?_) | (refine Sdg ?_; first | refine Wdgv ?_ | refine Wdgk ?_) | refine Dk.nil ?_ | refine dK0 ?_ | (refine dK1 fun _ => ?_) | (refine dK2 fun _ _ => ?_))
    exact endR (end1 (RV.tmp rfl) (le_decT hr))
theorem smallQ_t (n : Nat) (hn : n ≤ 1000000000) (rs : List RQ) (hl : rs.length ≤ 1000000000) (h : ∀ r ∈ rs, r.short n) : Pu Tryz.prog 4 [lit (.int .i64 n), sl (rs.map qcells).flatten rs.length] (lit (.bool true)) := by
  have := smallQ_pu n hn rs hl; rwa [decide_eq_true h] at this
theorem smallQ_f (n : Nat) (hn : n ≤ 1000000000) (rs : List RQ) (hl : rs.length ≤ 1000000000) (h : ¬∀ r ∈ rs, r.short n) : Pu Tryz.prog 4 [lit (.int .i64 n), sl (rs.map qcells).flatten rs.length] (lit (.bool false)) := by
  have := smallQ_pu n hn rs hl; rwa [decide_eq_false h] at this
abbrev pcells (p : RQ × RQ) : List SV := [lit (.bool p.1.s), dg p.1.n, dg p.1.d, lit (.bool p.2.s), dg p.2.n, dg p.2.d]
theorem pcells_len (p : RQ × RQ) : (pcells p).length = 6 := rfl
theorem smallP_pu (n : Nat) (hn : n ≤ 1000000000) (ps : List (RQ × RQ)) (hl : ps.length ≤ 1000000000) : Pu Tryz.prog 5 [lit (.int .i64 n), sl (ps.map pcells).flatten ps.length] (lit (.bool (decide (∀ p ∈ ps, p.1.short n ∧ p.2.short n)))) := by
  refine Pu.intro Tryz.func5 rfl (by kernel_rfl) fun C => ?_
  repeat (first | refine thenN ?_ | refine thenX ?_ | refine thenR ?_ | refine blkN ?_ | refine blkX ?_ | refine blkR ?_ | refine blkO ?_ | refine WP.seq' ?_ | refine WP.block ?_ | refine WP.reg ?_ | refine scR ?_ | refine scN ?_ | refine scX ?_ | refine WP.scope ?_ | refine WP.label ?_ | refine WP.skip ?_ | refine WP.exit ?_ | refine WP.ret ?_ | refine WPL.nil ?_ | (refine Ss ?_; refine Ws ?_) | (refine Sa ?_; refine Wa fun _ => ?_) | (refine Sb ?_; refine Wb fun _ => ?_) | (refine Sl ?_; refine Wl fun _ => ?_) | (refine Sp ?_; refine Wv ?_) | (refine Sg ?_; first | refine Wg ?_ | refine Wk ?_) | (refine WPt rfl ?_) | (refine WPf rfl ?_) | (refine Sdr ?_; refine Wdr ?_) | (refine Sdp ?_; first | refine Wda ?_ | refine Wdv ?_) | (refine Sdg ?_; first | refine Wdgv ?_ | refine Wdgk ?_) | refine Dk.nil ?_ | refine dK0 ?_ | (refine dK1 fun _ => ?_) | (refine dK2 fun _ _ => ?_))
  refine WP.loopS (ι := Nat) (fun k => k ≤ ps.length ∧ ∀ p ∈ ps.take k, p.1.short n ∧ p.2.short n) (fun k => ps.length - k) (fun k => fm [(0, lit (.int .i64 n)), (7, sl (ps.map pcells).flatten ps.length), (8, lit (.int .i64 ps.length)), (9, lit (.int .i64 k))]) (fun _ => []) 0
    ⟨Nat.zero_le _, by simp⟩ (by (repeat (first | exact LeF.nil _ | refine LeF.cons (Le.refl _) ?_ | refine LeF.cons (Le.int (by omega)) ?_))) (List.nil_sublist _) ?_
  rintro k ⟨hk, hr⟩ K hK
  by_cases hkl : k < ps.length
  · have hget := List.getElem?_eq_getElem hkl
    generalize ps[k] = p at hget
    have hmem : p ∈ ps := List.mem_of_getElem? hget
    have hat := flat_at (f := pcells) (n := 6) pcells_len hget
    have hne : (ps.map pcells).flatten ≠ [] := flat_ne pcells_len (by omega) (fun e => by rw [e] at hkl; simp at hkl)
    by_cases h1 : ∀ r ∈ [p.1, p.2], r.short n
    · have hc := smallQ_t n hn [p.1, p.2] (by simp) h1
      have h2 := h1 p.1 (by simp)
      have h3 := h1 p.2 (by simp)
      repeat (first | refine thenN ?_ | refine thenX ?_ | refine thenR ?_ | refine blkN ?_ | refine blkX ?_ | refine blkR ?_ | refine blkO ?_ | refine WP.seq' ?_ | refine WP.block ?_ | refine WP.reg ?_ | refine scR ?_ | refine scN ?_ | refine scX ?_ | refine WP.scope ?_ | refine WP.label ?_ | refine WP.skip ?_ | refine WP.exit ?_ | refine WP.ret ?_ | refine WPL.nil ?_ | (refine Ss ?_; refine Ws ?_) | (refine Sa ?_; refine Wa fun _ => ?_) | (refine Sb ?_; refine Wb fun _ => ?_) | (refine Sl ?_; refine Wl fun _ => ?_) | (refine Sp ?_; refine Wv ?_) | (refine Sg ?_; first | refine Wg ?_ | refine Wk ?_) | (refine WPt rfl ?_) | (refine WPf rfl ?_) | (refine Sdr ?_; refine Wdr ?_) | (refine Sdp ?_; first | refine Wda ?_ | refine Wdv ?_) | (refine Sdg ?_; first | refine Wdgv ?_ | refine Wdgk ?_) | refine Dk.nil ?_ | refine dK0 ?_ | (refine dK1 fun _ => ?_) | (refine dK2 fun _ _ => ?_))
      refine Wo (ov_idxS (cs' := pcells p) rfl rfl (by omega) (by omega) hat hne) ?_
      repeat (first | refine thenN ?_ | refine thenX ?_ | refine thenR ?_ | refine blkN ?_ | refine blkX ?_ | refine blkR ?_ | refine blkO ?_ | refine WP.seq' ?_ | refine WP.block ?_ | refine WP.reg ?_ | refine scR ?_ | refine scN ?_ | refine scX ?_ | refine WP.scope ?_ | refine WP.label ?_ | refine WP.skip ?_ | refine WP.exit ?_ | refine WP.ret ?_ | refine WPL.nil ?_ | (refine Ss ?_; refine Ws ?_) | (refine Sa ?_; refine Wa fun _ => ?_) | (refine Sb ?_; refine Wb fun _ => ?_) | (refine Sl ?_; refine Wl fun _ => ?_) | (refine Sp ?_; refine Wv ?_) | (refine Sg ?_; first | refine Wg ?_ | refine Wk ?_) | (refine WPt rfl ?_) | (refine WPf rfl ?_) | (refine Sdr ?_; refine Wdr ?_) | (refine Sdp ?_; first | refine Wda ?_ | refine Wdv ?_) | (refine Sdg ?_; first | refine Wdgv ?_ | refine Wdgk ?_) | refine Dk.nil ?_ | refine dK0 ?_ | (refine dK1 fun _ => ?_) | (refine dK2 fun _ _ => ?_))
      refine WpubS 18 rfl (HDel.here _) (by omega) (by omega) ?_
      refine Wcx hc ?_
      repeat (first | refine thenN ?_ | refine thenX ?_ | refine thenR ?_ | refine blkN ?_ | refine blkX ?_ | refine blkR ?_ | refine blkO ?_ | refine WP.seq' ?_ | refine WP.block ?_ | refine WP.reg ?_ | refine scR ?_ | refine scN ?_ | refine scX ?_ | refine WP.scope ?_ | refine WP.label ?_ | refine WP.skip ?_ | refine WP.exit ?_ | refine WP.ret ?_ | refine WPL.nil ?_ | (refine Ss ?_; refine Ws ?_) | (refine Sa ?_; refine Wa fun _ => ?_) | (refine Sb ?_; refine Wb fun _ => ?_) | (refine Sl ?_; refine Wl fun _ => ?_) | (refine Sp ?_; refine Wv ?_) | (refine Sg ?_; first | refine Wg ?_ | refine Wk ?_) | (refine WPt rfl ?_) | (refine WPf rfl ?_) | (refine Sdr ?_; refine Wdr ?_) | (refine Sdp ?_; first | refine Wda ?_ | refine Wdv ?_) | (refine Sdg ?_; first | refine Wdgv ?_ | refine Wdgk ?_) | refine Dk.nil ?_ | refine dK0 ?_ | (refine dK1 fun _ => ?_) | (refine dK2 fun _ _ => ?_))
      refine hK _ _ (k + 1) ⟨by omega, ?_⟩ (by omega) (by (repeat (first | exact LeF.nil _ | refine LeF.cons (Le.refl _) ?_ | refine LeF.cons (Le.int (by omega)) ?_))) (List.nil_sublist _)
      rw [take_snoc hget]
      intro x hx
      rcases List.mem_append.1 hx with hx | hx
      · exact hr x hx
      · rw [List.mem_singleton] at hx; subst hx; exact ⟨h2, h3⟩
    · have hc := smallQ_f n hn [p.1, p.2] (by simp) h1
      repeat (first | refine thenN ?_ | refine thenX ?_ | refine thenR ?_ | refine blkN ?_ | refine blkX ?_ | refine blkR ?_ | refine blkO ?_ | refine WP.seq' ?_ | refine WP.block ?_ | refine WP.reg ?_ | refine scR ?_ | refine scN ?_ | refine scX ?_ | refine WP.scope ?_ | refine WP.label ?_ | refine WP.skip ?_ | refine WP.exit ?_ | refine WP.ret ?_ | refine WPL.nil ?_ | (refine Ss ?_; refine Ws ?_) | (refine Sa ?_; refine Wa fun _ => ?_) | (refine Sb ?_; refine Wb fun _ => ?_) | (refine Sl ?_; refine Wl fun _ => ?_) | (refine Sp ?_; refine Wv ?_) | (refine Sg ?_; first | refine Wg ?_ | refine Wk ?_) | (refine WPt rfl ?_) | (refine WPf rfl ?_) | (refine Sdr ?_; refine Wdr ?_) | (refine Sdp ?_; first | refine Wda ?_ | refine Wdv ?_) | (refine Sdg ?_; first | refine Wdgv ?_ | refine Wdgk ?_) | refine Dk.nil ?_ | refine dK0 ?_ | (refine dK1 fun _ => ?_) | (refine dK2 fun _ _ => ?_))
      refine Wo (ov_idxS (cs' := pcells p) rfl rfl (by omega) (by omega) hat hne) ?_
      repeat (first | refine thenN ?_ | refine thenX ?_ | refine thenR ?_ | refine blkN ?_ | refine blkX ?_ | refine blkR ?_ | refine blkO ?_ | refine WP.seq' ?_ | refine WP.block ?_ | refine WP.reg ?_ | refine scR ?_ | refine scN ?_ | refine scX ?_ | refine WP.scope ?_ | refine WP.label ?_ | refine WP.skip ?_ | refine WP.exit ?_ | refine WP.ret ?_ | refine WPL.nil ?_ | (refine Ss ?_; refine Ws ?_) | (refine Sa ?_; refine Wa fun _ => ?_) | (refine Sb ?_; refine Wb fun _ => ?_) | (refine Sl ?_; refine Wl fun _ => ?_) | (refine Sp ?_; refine Wv ?_) | (refine Sg ?_; first | refine Wg ?_ | refine Wk ?_) | (refine WPt rfl ?_) | (refine WPf rfl ?_) | (refine Sdr ?_; refine Wdr ?_) | (refine Sdp ?_; first | refine Wda ?_ | refine Wdv ?_) | (refine Sdg ?_; first | refine Wdgv ?_ | refine Wdgk ?_) | refine Dk.nil ?_ | refine dK0 ?_ | (refine dK1 fun _ => ?_) | (refine dK2 fun _ _ => ?_))
      refine WpubS 18 rfl (HDel.here _) (by omega) (by omega) ?_
      refine Wcx hc ?_
      repeat (first | refine thenN ?_ | refine thenX ?_ | refine thenR ?_ | refine blkN ?_ | refine blkX ?_ | refine blkR ?_ | refine blkO ?_ | refine WP.seq' ?_ | refine WP.block ?_ | refine WP.reg ?_ | refine scR ?_ | refine scN ?_ | refine scX ?_ | refine WP.scope ?_ | refine WP.label ?_ | refine WP.skip ?_ | refine WP.exit ?_ | refine WP.ret ?_ | refine WPL.nil ?_ | (refine Ss ?_; refine Ws ?_) | (refine Sa ?_; refine Wa fun _ => ?_) | (refine Sb ?_; refine Wb fun _ => ?_) | (refine Sl ?_; refine Wl fun _ => ?_) | (refine Sp ?_; refine Wv ?_) | (refine Sg ?_; first | refine Wg ?_ | refine Wk ?_) | (refine WPt rfl ?_) | (refine WPf rfl ?_) | (refine Sdr ?_; refine Wdr ?_) | (refine Sdp ?_; first | refine Wda ?_ | refine Wdv ?_) | (refine Sdg ?_; first | refine Wdgv ?_ | refine Wdgk ?_) | refine Dk.nil ?_ | refine dK0 ?_ | (refine dK1 fun _ => ?_) | (refine dK2 fun _ _ => ?_))
      exact endR (end1 (RV.tmp rfl) (le_decF fun h => h1 fun r hr => by
        have := h p hmem
        simp only [List.mem_cons, List.not_mem_nil, or_false] at hr
        rcases hr with rfl | rfl
        · exact this.1
        · exact this.2))
  · have hke : k = ps.length := by omega
    subst hke
    rw [List.take_length] at hr
    repeat (first | refine thenN ?_ | refine thenX ?_ | refine thenR ?_ | refine blkN ?_ | refine blkX ?_ | refine blkR ?_ | refine blkO ?_ | refine WP.seq' ?_ | refine WP.block ?_ | refine WP.reg ?_ | refine scR ?_ | refine scN ?_ | refine scX ?_ | refine WP.scope ?_ | refine WP.label ?_ | refine WP.skip ?_ | refine WP.exit ?_ | refine WP.ret ?_ | refine WPL.nil ?_ | (refine Ss ?_; refine Ws ?_) | (refine Sa ?_; refine Wa fun _ => ?_) | (refine Sb ?_; refine Wb fun _ => ?_) | (refine Sl ?_; refine Wl fun _ => ?_) | (refine Sp ?_; refine Wv ?_) | (refine Sg ?_; first | refine Wg ?_ | refine Wk ?_) | (refine WPt rfl ?_) | (refine WPf rfl ?_) | (refine Sdr ?_; refine Wdr ?_) | (refine Sdp ?_; first | refine Wda ?_ | refine Wdv ?_) | (refine Sdg ?_; first | refine Wdgv ?_ | refine Wdgk ?_) | refine Dk.nil ?_ | refine dK0 ?_ | (refine dK1 fun _ => ?_) | (refine dK2 fun _ _ => ?_))
    exact endR (end1 (RV.tmp rfl) (le_decT hr))
theorem smallP_t (n : Nat) (hn : n ≤ 1000000000) (ps : List (RQ × RQ)) (hl : ps.length ≤ 1000000000) (h : ∀ p ∈ ps, p.1.short n ∧ p.2.short n) : Pu Tryz.prog 5 [lit (.int .i64 n), sl (ps.map pcells).flatten ps.length] (lit (.bool true)) := by
  have := smallP_pu n hn ps hl; rwa [decide_eq_true h] at this
theorem smallP_f (n : Nat) (hn : n ≤ 1000000000) (ps : List (RQ × RQ)) (hl : ps.length ≤ 1000000000) (h : ¬∀ p ∈ ps, p.1.short n ∧ p.2.short n) : Pu Tryz.prog 5 [lit (.int .i64 n), sl (ps.map pcells).flatten ps.length] (lit (.bool false)) := by
  have := smallP_pu n hn ps hl; rwa [decide_eq_false h] at this
end Go.Ab
