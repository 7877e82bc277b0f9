/- The law AffineRough, walked: it returns true. -/
import Derived.Test.YtkhhdjbdeajlgaaGreatLaw26A
namespace Go.Ab
open Go.Proofs
abbrev mlist (m : M6 RQ) : List RQ := [m.a, m.b, m.c, m.d, m.e, m.f]
theorem M6.ok_of {m : M6 RQ} (hD : ∀ r ∈ mlist m, D r.n ∧ D r.d) (h : ∀ r ∈ mlist m, r.short 3) : m.ok 3 := by
  have g : ∀ r ∈ mlist m, r.ok 3 := fun r hr => ⟨(hD r hr).1, (hD r hr).2, (h r hr).1, (h r hr).2⟩
  exact ⟨g _ (by simp), g _ (by simp), g _ (by simp), g _ (by simp), g _ (by simp), g _ (by simp)⟩
set_option maxRecDepth 20000 in
set_option maxHeartbeats 4000000 in
theorem rough_pu (m : M6 RQ) (x y : RQ) (hD : ∀ r ∈ mlist m, D r.n ∧ D r.d) (hx : D x.n ∧ D x.d) (hy : D y.n ∧ D y.d) : Pu Tryz.prog 3 [mr m, pr x y] (lit (.bool true)) := by
  by_cases h1 : ∀ r ∈ mlist m, r.short 3
  · have c1 := smallQ_t 3 (by omega) (mlist m) (by simp) h1
    by_cases h2 : ∀ p ∈ [(x, y)], p.1.short 3 ∧ p.2.short 3
    · have c2 := smallP_t 3 (by omega) [(x, y)] (by simp) h2
      have hm := M6.ok_of hD h1
      have hxx := (h2 (x, y) (by simp)).1
      have hyy := (h2 (x, y) (by simp)).2
      have kx : x.ok 3 := ⟨hx.1, hx.2, hxx.1, hxx.2⟩
      have ky : y.ok 3 := ⟨hy.1, hy.2, hyy.1, hyy.2⟩
      have kv := M6.v_le hm
      have kvx := ht_v kx
      have kvy := ht_v ky
      have d1 := readM_pu hm (by omega)
      have d2 := anorm_pu hm (by omega)
      have d3 := writeM_pu kv (by omega)
      have d4 := sameM_pu kv (by omega)
      have d5 := aDet_pu hm (by omega)
      have d6 := mdet_pu kv (by omega)
      have d7 := aApply_pu hm (by omega) kx ky
      have d8 := pt_pu kx ky (by omega)
      have d9 := mapply_pu kv (by omega) x.v y.v kvx kvy
      rw [Rat.mul_comm m.v.b m.v.d] at d6
      obtain ⟨ka, kb, kc, kd, ke, kf⟩ := kv
      have l1 := ht_mul m.v.a m.v.e
      have l2 := ht_mul m.v.d m.v.b
      have l3 := ht_sub (m.v.a * m.v.e) (m.v.d * m.v.b)
      have l4 := ht_mul m.v.a x.v
      have l5 := ht_mul m.v.b y.v
      have l6 := ht_mul m.v.d x.v
      have l7 := ht_mul m.v.e y.v
      have l8 := ht_add (m.v.a * x.v) (m.v.b * y.v)
      have l9 := ht_add (m.v.d * x.v) (m.v.e * y.v)
      have l10 := ht_add (m.v.a * x.v + m.v.b * y.v) m.v.c
      have l11 := ht_add (m.v.d * x.v + m.v.e * y.v) m.v.f
      have e1 := toQ_pu (m.v.a * m.v.e - m.v.d * m.v.b) (by omega)
      have e2 := sameq_pu (m.v.a * m.v.e - m.v.d * m.v.b) (by omega)
      have e3 := toP_pu (m.v.a * x.v + m.v.b * y.v + m.v.c) (m.v.d * x.v + m.v.e * y.v + m.v.f) (by omega) (by omega)
      have e4 := sameP_pu (m.v.a * x.v + m.v.b * y.v + m.v.c) (m.v.d * x.v + m.v.e * y.v + m.v.f) (by omega) (by omega)
      clear l1 l2 l3 l4 l5 l6 l7 l8 l9 l10 l11 ka kb kc kd ke kf kvx kvy
      refine Pu.intro Tryz.func3 rfl (by kernel_rfl) fun C => ?_
      repeat (first | refine thenN ?_ | refine thenX ?_ | refine thenR ?_ | refine blkN ?_ | refine blkX ?_ | refine blkR ?_ | refine blkO ?_ | refine WP.seq' ?_ | refine WP.block ?_ | refine WP.reg ?_ | refine scR ?_ | refine scN ?_ | refine scX ?_ | refine WP.scope ?_ | refine WP.label ?_ | refine WP.skip ?_ | refine WP.exit ?_ | refine WP.ret ?_ | refine WPL.nil ?_ | (refine Ss ?_; refine Ws ?_) | (refine Sa ?_; refine Wa fun _ => ?_) | (refine Sb ?_; refine Wb fun _ => ?_) | (refine Sl ?_; refine Wl fun _ => ?_) | (refine Sp ?_; refine Wv ?_) | (refine Sg ?_; first | refine Wg ?_ | refine Wk ?_) | (refine WPt rfl ?_) | (refine WPf rfl ?_) | (refine Sdr ?_; refine Wdr ?_) | (refine Sdp ?_; first | refine Wda ?_ | refine Wdv ?_) | (refine Sdg ?_; first | refine Wdgv ?_ | refine Wdgk ?_) | refine Dk.nil ?_ | refine dK0 ?_ | (refine dK1 fun _ => ?_) | (refine dK2 fun _ _ => ?_))
      refine WpubS 18 rfl (HDel.here _) (by omega) (by omega) ?_
      refine Wcx c1 ?_
      repeat (first | refine thenN ?_ | refine thenX ?_ | refine thenR ?_ | refine blkN ?_ | refine blkX ?_ | refine blkR ?_ | refine blkO ?_ | refine WP.seq' ?_ | refine WP.block ?_ | refine WP.reg ?_ | refine scR ?_ | refine scN ?_ | refine scX ?_ | refine WP.scope ?_ | refine WP.label ?_ | refine WP.skip ?_ | refine WP.exit ?_ | refine WP.ret ?_ | refine WPL.nil ?_ | (refine Ss ?_; refine Ws ?_) | (refine Sa ?_; refine Wa fun _ => ?_) | (refine Sb ?_; refine Wb fun _ => ?_) | (refine Sl ?_; refine Wl fun _ => ?_) | (refine Sp ?_; refine Wv ?_) | (refine Sg ?_; first | refine Wg ?_ | refine Wk ?_) | (refine WPt rfl ?_) | (refine WPf rfl ?_) | (refine Sdr ?_; refine Wdr ?_) | (refine Sdp ?_; first | refine Wda ?_ | refine Wdv ?_) | (refine Sdg ?_; first | refine Wdgv ?_ | refine Wdgk ?_) | refine Dk.nil ?_ | refine dK0 ?_ | (refine dK1 fun _ => ?_) | (refine dK2 fun _ _ => ?_))
      refine WgE ?_
      refine Sl ?_
      refine Wl fun _ => ?_
      refine WpubS 23 rfl (HDel.here _) (by omega) (by omega) ?_
      refine Wcgx c2 ?_
      repeat (first | refine thenN ?_ | refine thenX ?_ | refine thenR ?_ | refine blkN ?_ | refine blkX ?_ | refine blkR ?_ | refine blkO ?_ | refine WP.seq' ?_ | refine WP.block ?_ | refine WP.reg ?_ | refine scR ?_ | refine scN ?_ | refine scX ?_ | refine WP.scope ?_ | refine WP.label ?_ | refine WP.skip ?_ | refine WP.exit ?_ | refine WP.ret ?_ | refine WPL.nil ?_ | (refine Ss ?_; refine Ws ?_) | (refine Sa ?_; refine Wa fun _ => ?_) | (refine Sb ?_; refine Wb fun _ => ?_) | (refine Sl ?_; refine Wl fun _ => ?_) | (refine Sp ?_; refine Wv ?_) | (refine Sg ?_; first | refine Wg ?_ | refine Wk ?_) | (refine WPt rfl ?_) | (refine WPf rfl ?_) | (refine Sdr ?_; refine Wdr ?_) | (refine Sdp ?_; first | refine Wda ?_ | refine Wdv ?_) | (refine Sdg ?_; first | refine Wdgv ?_ | refine Wdgk ?_) | refine Dk.nil ?_ | refine dK0 ?_ | (refine dK1 fun _ => ?_) | (refine dK2 fun _ _ => ?_) | (refine Wcx (known26) ?_) | (refine Wdcx (known26) ?_) | (refine Wcgx (known26) ?_) | (refine Wdcgx (known26) ?_) | (refine Wcx (d1) ?_) | (refine Wdcx (d1) ?_) | (refine Wcgx (d1) ?_) | (refine Wdcgx (d1) ?_) | (refine Wcx (d2) ?_) | (refine Wdcx (d2) ?_) | (refine Wcgx (d2) ?_) | (refine Wdcgx (d2) ?_) | (refine Wcx (d3) ?_) | (refine Wdcx (d3) ?_) | (refine Wcgx (d3) ?_) | (refine Wdcgx (d3) ?_) | (refine Wcx (d4) ?_) | (refine Wdcx (d4) ?_) | (refine Wcgx (d4) ?_) | (refine Wdcgx (d4) ?_) | (refine Wcx (d5) ?_) | (refine Wdcx (d5) ?_) | (refine Wcgx (d5) ?_) | (refine Wdcgx (d5) ?_) | (refine Wcx (d6) ?_) | (refine Wdcx (d6) ?_) | (refine Wcgx (d6) ?_) | (refine Wdcgx (d6) ?_) | (refine Wcx (d7) ?_) | (refine Wdcx (d7) ?_) | (refine Wcgx (d7) ?_) | (refine Wdcgx (d7) ?_) | (refine Wcx (d8) ?_) | (refine Wdcx (d8) ?_) | (refine Wcgx (d8) ?_) | (refine Wdcgx (d8) ?_) | (refine Wcx (d9) ?_) | (refine Wdcx (d9) ?_) | (refine Wcgx (d9) ?_) | (refine Wdcgx (d9) ?_) | (refine Wcx (e1) ?_) | (refine Wdcx (e1) ?_) | (refine Wcgx (e1) ?_) | (refine Wdcgx (e1) ?_) | (refine Wcx (e2) ?_) | (refine Wdcx (e2) ?_) | (refine Wcgx (e2) ?_) | (refine Wdcgx (e2) ?_) | (refine Wcx (e3) ?_) | (refine Wdcx (e3) ?_) | (refine Wcgx (e3) ?_) | (refine Wdcgx (e3) ?_) | (refine Wcx (e4) ?_) | (refine Wdcx (e4) ?_) | (refine Wcgx (e4) ?_) | (refine Wdcgx (e4) ?_))
      ((first | refine endR ?_ | refine endN ?_); exact end1 (RV.tmp rfl) (Le.refl _))
    · have c2 := smallP_f 3 (by omega) [(x, y)] (by simp) h2
      refine Pu.intro Tryz.func3 rfl (by kernel_rfl) fun C => ?_
      repeat (first | refine thenN ?_ | refine thenX ?_ | refine thenR ?_ | refine blkN ?_ | refine blkX ?_ | refine blkR ?_ | refine blkO ?_ | refine WP.seq' ?_ | refine WP.block ?_ | refine WP.reg ?_ | refine scR ?_ | refine scN ?_ | refine scX ?_ | refine WP.scope ?_ | refine WP.label ?_ | refine WP.skip ?_ | refine WP.exit ?_ | refine WP.ret ?_ | refine WPL.nil ?_ | (refine Ss ?_; refine Ws ?_) | (refine Sa ?_; refine Wa fun _ => ?_) | (refine Sb ?_; refine Wb fun _ => ?_) | (refine Sl ?_; refine Wl fun _ => ?_) | (refine Sp ?_; refine Wv ?_) | (refine Sg ?_; first | refine Wg ?_ | refine Wk ?_) | (refine WPt rfl ?_) | (refine WPf rfl ?_) | (refine Sdr ?_; refine Wdr ?_) | (refine Sdp ?_; first | refine Wda ?_ | refine Wdv ?_) | (refine Sdg ?_; first | refine Wdgv ?_ | refine Wdgk ?_) | refine Dk.nil ?_ | refine dK0 ?_ | (refine dK1 fun _ => ?_) | (refine dK2 fun _ _ => ?_))
      refine WpubS 18 rfl (HDel.here _) (by omega) (by omega) ?_
      refine Wcx c1 ?_
      repeat (first | refine thenN ?_ | refine thenX ?_ | refine thenR ?_ | refine blkN ?_ | refine blkX ?_ | refine blkR ?_ | refine blkO ?_ | refine WP.seq' ?_ | refine WP.block ?_ | refine WP.reg ?_ | refine scR ?_ | refine scN ?_ | refine scX ?_ | refine WP.scope ?_ | refine WP.label ?_ | refine WP.skip ?_ | refine WP.exit ?_ | refine WP.ret ?_ | refine WPL.nil ?_ | (refine Ss ?_; refine Ws ?_) | (refine Sa ?_; refine Wa fun _ => ?_) | (refine Sb ?_; refine Wb fun _ => ?_) | (refine Sl ?_; refine Wl fun _ => ?_) | (refine Sp ?_; refine Wv ?_) | (refine Sg ?_; first | refine Wg ?_ | refine Wk ?_) | (refine WPt rfl ?_) | (refine WPf rfl ?_) | (refine Sdr ?_; refine Wdr ?_) | (refine Sdp ?_; first | refine Wda ?_ | refine Wdv ?_) | (refine Sdg ?_; first | refine Wdgv ?_ | refine Wdgk ?_) | refine Dk.nil ?_ | refine dK0 ?_ | (refine dK1 fun _ => ?_) | (refine dK2 fun _ _ => ?_))
      refine WgE ?_
      refine Sl ?_
      refine Wl fun _ => ?_
      refine WpubS 23 rfl (HDel.here _) (by omega) (by omega) ?_
      refine Wcgx c2 ?_
      repeat (first | refine thenN ?_ | refine thenX ?_ | refine thenR ?_ | refine blkN ?_ | refine blkX ?_ | refine blkR ?_ | refine blkO ?_ | refine WP.seq' ?_ | refine WP.block ?_ | refine WP.reg ?_ | refine scR ?_ | refine scN ?_ | refine scX ?_ | refine WP.scope ?_ | refine WP.label ?_ | refine WP.skip ?_ | refine WP.exit ?_ | refine WP.ret ?_ | refine WPL.nil ?_ | (refine Ss ?_; refine Ws ?_) | (refine Sa ?_; refine Wa fun _ => ?_) | (refine Sb ?_; refine Wb fun _ => ?_) | (refine Sl ?_; refine Wl fun _ => ?_) | (refine Sp ?_; refine Wv ?_) | (refine Sg ?_; first | refine Wg ?_ | refine Wk ?_) | (refine WPt rfl ?_) | (refine WPf rfl ?_) | (refine Sdr ?_; refine Wdr ?_) | (refine Sdp ?_; first | refine Wda ?_ | refine Wdv ?_) | (refine Sdg ?_; first | refine Wdgv ?_ | refine Wdgk ?_) | refine Dk.nil ?_ | refine dK0 ?_ | (refine dK1 fun _ => ?_) | (refine dK2 fun _ _ => ?_) | (refine Wcx (known26) ?_) | (refine Wdcx (known26) ?_) | (refine Wcgx (known26) ?_) | (refine Wdcgx (known26) ?_))
      ((first | refine endR ?_ | refine endN ?_); exact end1 (RV.tmp rfl) (Le.refl _))
  · have c1 := smallQ_f 3 (by omega) (mlist m) (by simp) h1
    refine Pu.intro Tryz.func3 rfl (by kernel_rfl) fun C => ?_
    repeat (first | refine thenN ?_ | refine thenX ?_ | refine thenR ?_ | refine blkN ?_ | refine blkX ?_ | refine blkR ?_ | refine blkO ?_ | refine WP.seq' ?_ | refine WP.block ?_ | refine WP.reg ?_ | refine scR ?_ | refine scN ?_ | refine scX ?_ | refine WP.scope ?_ | refine WP.label ?_ | refine WP.skip ?_ | refine WP.exit ?_ | refine WP.ret ?_ | refine WPL.nil ?_ | (refine Ss ?_; refine Ws ?_) | (refine Sa ?_; refine Wa fun _ => ?_) | (refine Sb ?_; refine Wb fun _ => ?_) | (refine Sl ?_; refine Wl fun _ => ?_) | (refine Sp ?_; refine Wv ?_) | (refine Sg ?_; first | refine Wg ?_ | refine Wk ?_) | (refine WPt rfl ?_) | (refine WPf rfl ?_) | (refine Sdr ?_; refine Wdr ?_) | (refine Sdp ?_; first | refine Wda ?_ | refine Wdv ?_) | (refine Sdg ?_; first | refine Wdgv ?_ | refine Wdgk ?_) | refine Dk.nil ?_ | refine dK0 ?_ | (refine dK1 fun _ => ?_) | (refine dK2 fun _ _ => ?_))
    refine WpubS 18 rfl (HDel.here _) (by omega) (by omega) ?_
    refine Wcx c1 ?_
    repeat (first | refine thenN ?_ | refine thenX ?_ | refine thenR ?_ | refine blkN ?_ | refine blkX ?_ | refine blkR ?_ | refine blkO ?_ | refine WP.seq' ?_ | refine WP.block ?_ | refine WP.reg ?_ | refine scR ?_ | refine scN ?_ | refine scX ?_ | refine WP.scope ?_ | refine WP.label ?_ | refine WP.skip ?_ | refine WP.exit ?_ | refine WP.ret ?_ | refine WPL.nil ?_ | (refine Ss ?_; refine Ws ?_) | (refine Sa ?_; refine Wa fun _ => ?_) | (refine Sb ?_; refine Wb fun _ => ?_) | (refine Sl ?_; refine Wl fun _ => ?_) | (refine Sp ?_; refine Wv ?_) | (refine Sg ?_; first | refine Wg ?_ | refine Wk ?_) | (refine WPt rfl ?_) | (refine WPf rfl ?_) | (refine Sdr ?_; refine Wdr ?_) | (refine Sdp ?_; first | refine Wda ?_ | refine Wdv ?_) | (refine Sdg ?_; first | refine Wdgv ?_ | refine Wdgk ?_) | refine Dk.nil ?_ | refine dK0 ?_ | (refine dK1 fun _ => ?_) | (refine dK2 fun _ _ => ?_) | (refine Wcx (known26) ?_) | (refine Wdcx (known26) ?_) | (refine Wcgx (known26) ?_) | (refine Wdcgx (known26) ?_))
    ((first | refine endR ?_ | refine endN ?_); exact end1 (RV.tmp rfl) (Le.refl _))
end Go.Ab
