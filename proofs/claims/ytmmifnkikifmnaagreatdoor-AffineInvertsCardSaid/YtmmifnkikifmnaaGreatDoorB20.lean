/- Texts laid one behind the other: AffT, Maps, Inverts, Open, RowKit, LaidKit. -/
import Derived.Test.YtmmifnkikifmnaaGreatDoorB19
import Derived.Test.YtmmifnkikifmnaaGreatDoorB15
import Derived.Test.YtmmifnkikifmnaaGreatDoorB03
import Derived.ProofKit
import Derived.OpenShut
import Derived.ChangeOld
import Derived.Below
import Derived.OpenVars
import Derived.Deep.Slices
import Derived.Test.YtmmifnkikifmnaaGreatDoorB13
import Derived.WalkKit
import Derived.Stop.LaidErr
import Derived.LaidMore
import Derived.Deep.DeepHandedRow
import Derived.Deep.DeepWitnessRowRef
/- Package affine: images of trees. -/
namespace Go.Ab
open Go.Proofs
set_option linter.unusedSectionVars false
set_option linter.unusedVariables false
set_option linter.unusedSimpArgs false
variable [Base]
def Tr.im (m : M6 Rat) : Tr → Tr
  | .leaf i => .leaf i
  | .node l a b => .node (l.im m) (a.im m) (b.im m)
theorem Tr.im_size (m : M6 Rat) : ∀ t : Tr, (t.im m).size = t.size
  | .leaf _ => rfl
  | .node _ a b => by simp only [Tr.im, Tr.size, im_size m a, im_size m b]
theorem Tr.all_mono {p q : Li → Prop} (h : ∀ l, p l → q l) : ∀ t : Tr, t.all p → t.all q
  | .leaf _, _ => trivial
  | .node _ a b, k => ⟨h _ k.1, all_mono h a k.2.1, all_mono h b k.2.2⟩
theorem Tr.im_all {m : M6 Rat} {p q : Li → Prop} (h : ∀ l, p l → q (l.im m)) : ∀ t : Tr, t.all p → (t.im m).all q
  | .leaf _, _ => trivial
  | .node _ a b, k => ⟨h _ k.1, im_all h a k.2.1, im_all h b k.2.2⟩
theorem Tr.im_inv {m : M6 Rat} (hdet : m.det ≠ 0) : ∀ t : Tr, t.all Li.ok → (t.im m).im m.inv = t
  | .leaf _, _ => rfl
  | .node l a b, k => by simp only [Tr.im, Li.im_inv hdet k.1, im_inv hdet a k.2.1, im_inv hdet b k.2.2]
theorem atree1_pu {m : M6 Rat} {L : Nat} (hm : m.le L) (h1 : 1 ≤ L) (hL : L ≤ 400) (hdet : m.det ≠ 0) : ∀ t : Tr, (t.all fun l => l.ok ∧ l.le L) → Pu Tryz.prog 74 [mf m, bt t] (bt (t.im m)) := by
  intro t
  induction t with
  | leaf i =>
    intro _
    have c1 := isLeaf_leaf i
    simp only [Tr.im]
    refine Pu.intro Tryz.func74 rfl (by kernel_rfl) fun C => ?_
    repeat (first | (refine A1 ⟨?_⟩; intros) | (refine Wcx (c1) ?_) | (refine Wdcx (c1) ?_) | (refine Wcgx (c1) ?_) | (refine Wdcgx (c1) ?_))
    ((first | refine endR ?_ | refine endN ?_); exact end1 (RV.tmp rfl) (Le.refl _))
  | node l a b iha ihb =>
    intro ⟨⟨hok, hle⟩, hla, hlb⟩
    have c1 := isLeaf_node l a b
    have c2 := aline_pu hm hle h1 hL hdet hok
    have c3 := iha hla
    have c4 := ihb hlb
    have c5 := bnew_pu (l.im m) (a.im m) (b.im m)
    simp only [Tr.im]
    unfold bt at *
    rw [bc_node] at *
    refine Pu.intro Tryz.func74 rfl (by kernel_rfl) fun C => ?_
    repeat (first | (refine A1 ⟨?_⟩; intros) | (refine Wcx (c1) ?_) | (refine Wdcx (c1) ?_) | (refine Wcgx (c1) ?_) | (refine Wdcgx (c1) ?_) | (refine Wcx (c2) ?_) | (refine Wdcx (c2) ?_) | (refine Wcgx (c2) ?_) | (refine Wdcgx (c2) ?_) | (refine Wcx (c3) ?_) | (refine Wdcx (c3) ?_) | (refine Wcgx (c3) ?_) | (refine Wdcgx (c3) ?_) | (refine Wcx (c4) ?_) | (refine Wdcx (c4) ?_) | (refine Wcgx (c4) ?_) | (refine Wdcgx (c4) ?_) | (refine Wcx (c5) ?_) | (refine Wdcx (c5) ?_) | (refine Wcgx (c5) ?_) | (refine Wdcgx (c5) ?_))
    ((first | refine endR ?_ | refine endN ?_); exact end1 (RV.tmp rfl) (Le.refl _))
theorem Li.im_le' {m : M6 Rat} {l : Li} {L : Nat} (hm : m.le L) (h : l.le L) (h1 : 1 ≤ L) (hL : L ≤ 400) : (l.im m).le 100000 := by
  have hi := Li.im_le hm h h1
  exact ⟨Nat.le_trans hi.a (by omega), Nat.le_trans hi.b (by omega), Nat.le_trans hi.c (by omega)⟩
theorem Li.le.to {l : Li} {L L' : Nat} (h : l.le L) (k : L ≤ L') : l.le L' := ⟨Nat.le_trans h.a k, Nat.le_trans h.b k, Nat.le_trans h.c k⟩
theorem aTree_t {m : M6 Rat} {t : Tr} {L : Nat} (hm : m.le L) (h1 : 1 ≤ L) (hL : L ≤ 400) (hdet : m.det ≠ 0) (ht : t.all fun l => l.ok ∧ l.le L) (hs : t.size ≤ 60000) : Pu Tryz.prog 23 [mq m, tq t] (Ab.tup [tq (t.im m), lit .nilIface]) := by
  have c1 := bof_pu t (t.all_mono (fun l h => ⟨h.1, h.2.to (by omega)⟩) ht) hs
  have c2 := regular_t hm (by omega) hdet
  have c3 := atree1_pu hm h1 hL hdet t ht
  have c4 := tapi_pu (t.im m) (t.im_all (fun l h => (Li.im_le' hm h.2 h1 hL).to (by omega)) ht) (by rw [Tr.im_size]; omega)
  refine Pu.intro Tryz.func23 rfl (by kernel_rfl) fun C => ?_
  repeat (first | (refine A1 ⟨?_⟩; intros) | (refine Wcx (c1) ?_) | (refine Wdcx (c1) ?_) | (refine Wcgx (c1) ?_) | (refine Wdcgx (c1) ?_) | (refine Wcx (c2) ?_) | (refine Wdcx (c2) ?_) | (refine Wcgx (c2) ?_) | (refine Wdcgx (c2) ?_) | (refine Wcx (c3) ?_) | (refine Wdcx (c3) ?_) | (refine Wcgx (c3) ?_) | (refine Wdcgx (c3) ?_) | (refine Wcx (c4) ?_) | (refine Wdcx (c4) ?_) | (refine Wcgx (c4) ?_) | (refine Wdcgx (c4) ?_))
  ((first | refine endR ?_ | refine endN ?_); exact end2 (RV.cellA rfl (by (first | exact List.mem_cons_self | exact (List.mem_cons_of_mem _ List.mem_cons_self) | exact (List.mem_cons_of_mem _ (List.mem_cons_of_mem _ List.mem_cons_self)) | exact (List.mem_cons_of_mem _ (List.mem_cons_of_mem _ (List.mem_cons_of_mem _ List.mem_cons_self))) | exact (List.mem_cons_of_mem _ (List.mem_cons_of_mem _ (List.mem_cons_of_mem _ (List.mem_cons_of_mem _ List.mem_cons_self)))) | exact (List.mem_cons_of_mem _ (List.mem_cons_of_mem _ (List.mem_cons_of_mem _ (List.mem_cons_of_mem _ (List.mem_cons_of_mem _ List.mem_cons_self))))) | exact (List.mem_cons_of_mem _ (List.mem_cons_of_mem _ (List.mem_cons_of_mem _ (List.mem_cons_of_mem _ (List.mem_cons_of_mem _ (List.mem_cons_of_mem _ List.mem_cons_self)))))) | exact (List.mem_cons_of_mem _ (List.mem_cons_of_mem _ (List.mem_cons_of_mem _ (List.mem_cons_of_mem _ (List.mem_cons_of_mem _ (List.mem_cons_of_mem _ (List.mem_cons_of_mem _ List.mem_cons_self))))))))) (by (first | (simp only [List.drop_succ_cons, List.drop_zero, List.drop_nil, List.take_succ_cons, List.take_zero, List.take_nil, Nat.zero_add, Nat.add_zero, Nat.reduceAdd]; done) | (simp only [List.drop_succ_cons, List.drop_zero, List.drop_nil, List.take_succ_cons, List.take_zero, List.take_nil, Nat.zero_add, Nat.add_zero, Nat.reduceAdd]; exact rfl) | exact rfl)) rfl) (RV.tmp rfl) (Le.refl _))
abbrev tz : SV := ag [lit (.int .i64 0), lit (.slice none 0 0)]
theorem aTree_f {m : M6 Rat} {t : Tr} {L : Nat} (hm : m.le L) (hL : L ≤ 400) (hdet : m.det = 0) (ht : t.all fun l => l.ok ∧ l.le 100000) (hs : t.size ≤ 60000) [Sent 0] : Pu Tryz.prog 23 [mq m, tq t] (Ab.tup [tz, lit (sent 0)]) := by
  have c1 := bof_pu t ht hs
  have c2 := regular_f hm (by omega) hdet
  refine Pu.intro Tryz.func23 rfl (by kernel_rfl) fun C => ?_
  repeat (first | (refine A1 ⟨?_⟩; intros) | (refine Wcx (c1) ?_) | (refine Wdcx (c1) ?_) | (refine Wcgx (c1) ?_) | (refine Wdcgx (c1) ?_) | (refine Wcx (c2) ?_) | (refine Wdcx (c2) ?_) | (refine Wcgx (c2) ?_) | (refine Wdcgx (c2) ?_))
  ((first | refine endR ?_ | refine endN ?_); exact end2 (RV.cellA rfl (by (first | exact List.mem_cons_self | exact (List.mem_cons_of_mem _ List.mem_cons_self) | exact (List.mem_cons_of_mem _ (List.mem_cons_of_mem _ List.mem_cons_self)) | exact (List.mem_cons_of_mem _ (List.mem_cons_of_mem _ (List.mem_cons_of_mem _ List.mem_cons_self))) | exact (List.mem_cons_of_mem _ (List.mem_cons_of_mem _ (List.mem_cons_of_mem _ (List.mem_cons_of_mem _ List.mem_cons_self)))) | exact (List.mem_cons_of_mem _ (List.mem_cons_of_mem _ (List.mem_cons_of_mem _ (List.mem_cons_of_mem _ (List.mem_cons_of_mem _ List.mem_cons_self))))) | exact (List.mem_cons_of_mem _ (List.mem_cons_of_mem _ (List.mem_cons_of_mem _ (List.mem_cons_of_mem _ (List.mem_cons_of_mem _ (List.mem_cons_of_mem _ List.mem_cons_self)))))) | exact (List.mem_cons_of_mem _ (List.mem_cons_of_mem _ (List.mem_cons_of_mem _ (List.mem_cons_of_mem _ (List.mem_cons_of_mem _ (List.mem_cons_of_mem _ (List.mem_cons_of_mem _ List.mem_cons_self))))))))) (by (first | (simp only [List.drop_succ_cons, List.drop_zero, List.drop_nil, List.take_succ_cons, List.take_zero, List.take_nil, Nat.zero_add, Nat.add_zero, Nat.reduceAdd]; done) | (simp only [List.drop_succ_cons, List.drop_zero, List.drop_nil, List.take_succ_cons, List.take_zero, List.take_nil, Nat.zero_add, Nat.add_zero, Nat.reduceAdd]; exact rfl) | exact rfl)) rfl) (RV.tmp rfl) (Le.refl _))
end Go.Ab
/- The law AffineMaps, walked: it returns true. -/
namespace Go.Ab
open Go.Proofs
set_option linter.unusedSectionVars false
set_option linter.unusedVariables false
set_option linter.unusedSimpArgs false
variable [Base]
theorem M6.le.le_mono {m : M6 Rat} {L L' : Nat} (h : m.le L) (k : L ≤ L') : m.le L' := ⟨Nat.le_trans h.a k, Nat.le_trans h.b k, Nat.le_trans h.c k, Nat.le_trans h.d k, Nat.le_trans h.e k, Nat.le_trans h.f k⟩
theorem vector_le {m : M6 Rat} {L : Nat} (h : m.le L) {x y : Rat} (hx : ht x ≤ L) (hy : ht y ≤ L) : ht (m.a * x + m.b * y) ≤ 4 * L + 3 ∧ ht (m.d * x + m.e * y) ≤ 4 * L + 3 := by
  obtain ⟨ha, hb, hc, hd, he, hf⟩ := h
  have h1 := ht_mul m.a x
  have h2 := ht_mul m.b y
  have h3 := ht_mul m.d x
  have h4 := ht_mul m.e y
  have h5 := ht_add (m.a * x) (m.b * y)
  have h6 := ht_add (m.d * x) (m.e * y)
  exact ⟨by omega, by omega⟩
theorem apply_le {m : M6 Rat} {L : Nat} (h : m.le L) {x y : Rat} (hx : ht x ≤ L) (hy : ht y ≤ L) : ht (m.a * x + m.b * y + m.c) ≤ 5 * L + 4 ∧ ht (m.d * x + m.e * y + m.f) ≤ 5 * L + 4 := by
  have hv := vector_le h hx hy
  obtain ⟨ha, hb, hc, hd, he, hf⟩ := h
  have h5 := ht_add (m.a * x + m.b * y) m.c
  have h6 := ht_add (m.d * x + m.e * y) m.f
  exact ⟨by omega, by omega⟩
end Go.Ab
/- The law AffineInverts, walked: it returns true. -/
namespace Go.Ab
open Go.Proofs
set_option linter.unusedSectionVars false
set_option linter.unusedVariables false
set_option linter.unusedSimpArgs false
variable [Base]
theorem M6.inv_apply {m : M6 Rat} (h : m.det ≠ 0) (x y : Rat) : m.inv.a * (m.a * x + m.b * y + m.c) + m.inv.b * (m.d * x + m.e * y + m.f) + m.inv.c = x ∧ m.inv.d * (m.a * x + m.b * y + m.c) + m.inv.e * (m.d * x + m.e * y + m.f) + m.inv.f = y := by
  have h1 : m.det * m.det⁻¹ = 1 := Rat.mul_inv_cancel _ h
  have hd : m.det = m.a * m.e - m.d * m.b := rfl
  unfold M6.inv
  simp only []
  generalize m.det⁻¹ = k at *
  generalize m.det = D at *
  constructor <;> grind
theorem M6.inv_ne {m : M6 Rat} (h : m.det ≠ 0) : m.inv.det ≠ 0 := by
  rw [M6.inv_det h]
  intro e
  have h2 := Rat.mul_inv_cancel _ h
  rw [e, Rat.mul_zero] at h2
  exact absurd h2 (by decide +kernel)
set_option maxRecDepth 20000 in
set_option maxHeartbeats 4000000 in
theorem inverts_pu (zs : List Int) (hz : zs.length ≤ 9223372036854775807) [Sent 0] : Pu Tryz.prog 3 [nsl .i64 zs] (lit (.bool true)) := by
  have hk : (zs.take (min zs.length 400)).length ≤ 400 := by simp; omega
  have hnew := new_pu zs hz
  generalize zs.take (min zs.length 400) = ys at *
  have hmap := tmap_pu ys hk
  have hpt := tpoint_pu ys hk
  have htr := ttree_pu ys hk 3 (by omega)
  clear hz
  refine Pu.intro Tryz.func3 rfl (by kernel_rfl) fun C => ?_
  repeat (refine A1 ⟨?_⟩; intros)
  refine WPL.callN hnew rfl rfl fun bb => ?_
  repeat (refine A1 ⟨?_⟩; intros)
  refine Wtx hmap (by (first | exact List.mem_cons_self | exact (List.mem_cons_of_mem _ List.mem_cons_self) | exact (List.mem_cons_of_mem _ (List.mem_cons_of_mem _ List.mem_cons_self)) | exact (List.mem_cons_of_mem _ (List.mem_cons_of_mem _ (List.mem_cons_of_mem _ List.mem_cons_self))) | exact (List.mem_cons_of_mem _ (List.mem_cons_of_mem _ (List.mem_cons_of_mem _ (List.mem_cons_of_mem _ List.mem_cons_self)))) | exact (List.mem_cons_of_mem _ (List.mem_cons_of_mem _ (List.mem_cons_of_mem _ (List.mem_cons_of_mem _ (List.mem_cons_of_mem _ List.mem_cons_self))))) | exact (List.mem_cons_of_mem _ (List.mem_cons_of_mem _ (List.mem_cons_of_mem _ (List.mem_cons_of_mem _ (List.mem_cons_of_mem _ (List.mem_cons_of_mem _ List.mem_cons_self)))))) | exact (List.mem_cons_of_mem _ (List.mem_cons_of_mem _ (List.mem_cons_of_mem _ (List.mem_cons_of_mem _ (List.mem_cons_of_mem _ (List.mem_cons_of_mem _ (List.mem_cons_of_mem _ List.mem_cons_self))))))))) fun ma => ?_
  obtain ⟨a, ha⟩ := ma
  simp only []
  repeat (first | (refine A1 ⟨?_⟩; intros) | (refine Wcx (writeM_pu ha (by omega)) ?_) | (refine Wdcx (writeM_pu ha (by omega)) ?_) | (refine Wcgx (writeM_pu ha (by omega)) ?_) | (refine Wdcgx (writeM_pu ha (by omega)) ?_))
  refine Wtx hmap (by (first | exact List.mem_cons_self | exact (List.mem_cons_of_mem _ List.mem_cons_self) | exact (List.mem_cons_of_mem _ (List.mem_cons_of_mem _ List.mem_cons_self)) | exact (List.mem_cons_of_mem _ (List.mem_cons_of_mem _ (List.mem_cons_of_mem _ List.mem_cons_self))) | exact (List.mem_cons_of_mem _ (List.mem_cons_of_mem _ (List.mem_cons_of_mem _ (List.mem_cons_of_mem _ List.mem_cons_self)))) | exact (List.mem_cons_of_mem _ (List.mem_cons_of_mem _ (List.mem_cons_of_mem _ (List.mem_cons_of_mem _ (List.mem_cons_of_mem _ List.mem_cons_self))))) | exact (List.mem_cons_of_mem _ (List.mem_cons_of_mem _ (List.mem_cons_of_mem _ (List.mem_cons_of_mem _ (List.mem_cons_of_mem _ (List.mem_cons_of_mem _ List.mem_cons_self)))))) | exact (List.mem_cons_of_mem _ (List.mem_cons_of_mem _ (List.mem_cons_of_mem _ (List.mem_cons_of_mem _ (List.mem_cons_of_mem _ (List.mem_cons_of_mem _ (List.mem_cons_of_mem _ List.mem_cons_self))))))))) fun mb => ?_
  obtain ⟨b, hb⟩ := mb
  simp only []
  repeat (first | (refine A1 ⟨?_⟩; intros) | (refine Wcx (writeM_pu hb (by omega)) ?_) | (refine Wdcx (writeM_pu hb (by omega)) ?_) | (refine Wcgx (writeM_pu hb (by omega)) ?_) | (refine Wdcgx (writeM_pu hb (by omega)) ?_))
  refine Wtx hpt (by (first | exact List.mem_cons_self | exact (List.mem_cons_of_mem _ List.mem_cons_self) | exact (List.mem_cons_of_mem _ (List.mem_cons_of_mem _ List.mem_cons_self)) | exact (List.mem_cons_of_mem _ (List.mem_cons_of_mem _ (List.mem_cons_of_mem _ List.mem_cons_self))) | exact (List.mem_cons_of_mem _ (List.mem_cons_of_mem _ (List.mem_cons_of_mem _ (List.mem_cons_of_mem _ List.mem_cons_self)))) | exact (List.mem_cons_of_mem _ (List.mem_cons_of_mem _ (List.mem_cons_of_mem _ (List.mem_cons_of_mem _ (List.mem_cons_of_mem _ List.mem_cons_self))))) | exact (List.mem_cons_of_mem _ (List.mem_cons_of_mem _ (List.mem_cons_of_mem _ (List.mem_cons_of_mem _ (List.mem_cons_of_mem _ (List.mem_cons_of_mem _ List.mem_cons_self)))))) | exact (List.mem_cons_of_mem _ (List.mem_cons_of_mem _ (List.mem_cons_of_mem _ (List.mem_cons_of_mem _ (List.mem_cons_of_mem _ (List.mem_cons_of_mem _ (List.mem_cons_of_mem _ List.mem_cons_self))))))))) fun p => ?_
  obtain ⟨⟨x, y⟩, hx, hy⟩ := p
  simp only at hx hy
  simp only []
  have c1 := toP_pu x y (by omega) (by omega)
  repeat (first | (refine A1 ⟨?_⟩; intros) | (refine Wcx (c1) ?_) | (refine Wdcx (c1) ?_) | (refine Wcgx (c1) ?_) | (refine Wdcgx (c1) ?_))
  refine Wtx htr (by (first | exact List.mem_cons_self | exact (List.mem_cons_of_mem _ List.mem_cons_self) | exact (List.mem_cons_of_mem _ (List.mem_cons_of_mem _ List.mem_cons_self)) | exact (List.mem_cons_of_mem _ (List.mem_cons_of_mem _ (List.mem_cons_of_mem _ List.mem_cons_self))) | exact (List.mem_cons_of_mem _ (List.mem_cons_of_mem _ (List.mem_cons_of_mem _ (List.mem_cons_of_mem _ List.mem_cons_self)))) | exact (List.mem_cons_of_mem _ (List.mem_cons_of_mem _ (List.mem_cons_of_mem _ (List.mem_cons_of_mem _ (List.mem_cons_of_mem _ List.mem_cons_self))))) | exact (List.mem_cons_of_mem _ (List.mem_cons_of_mem _ (List.mem_cons_of_mem _ (List.mem_cons_of_mem _ (List.mem_cons_of_mem _ (List.mem_cons_of_mem _ List.mem_cons_self)))))) | exact (List.mem_cons_of_mem _ (List.mem_cons_of_mem _ (List.mem_cons_of_mem _ (List.mem_cons_of_mem _ (List.mem_cons_of_mem _ (List.mem_cons_of_mem _ (List.mem_cons_of_mem _ List.mem_cons_self))))))))) fun t => ?_
  obtain ⟨t, ht, hs⟩ := t
  simp only []
  have hs' : t.size ≤ 8 := by have : 2 ^ 3 = 8 := rfl; omega
  have c2 := rwrite_pu t (t.all_mono (fun l h => h.2.to (by omega)) ht) (by omega)
  have hap := apply_le hb hx hy
  have haq := apply_le ha hx hy
  have hcm := M6.comp_le ha hb
  have c3 := compose_q (ha.le_mono (by omega)) (hb.le_mono (by omega))
  have c4 := aApply_q (m := a.comp b) (hcm.le_mono (by omega)) (x := x) (y := y) (by omega) (by omega)
  have c5 := aApply_q (hb.le_mono (by omega)) (x := x) (y := y) (by omega) (by omega)
  have hap2 := apply_le (ha.le_mono (L' := 9) (by omega)) (x := b.a * x + b.b * y + b.c) (y := b.d * x + b.e * y + b.f) (by omega) (by omega)
  have c6 := aApply_q (ha.le_mono (by omega)) (x := b.a * x + b.b * y + b.c) (y := b.d * x + b.e * y + b.f) (by omega) (by omega)
  have e1 : a.a * (b.a * x + b.b * y + b.c) + a.b * (b.d * x + b.e * y + b.f) + a.c = (a.comp b).a * x + (a.comp b).b * y + (a.comp b).c := by unfold M6.comp; simp only []; grind
  have e2 : a.d * (b.a * x + b.b * y + b.c) + a.e * (b.d * x + b.e * y + b.f) + a.f = (a.comp b).d * x + (a.comp b).e * y + (a.comp b).f := by unfold M6.comp; simp only []; grind
  rw [e1, e2] at c6 hap2
  have c7 := sameP_pu ((a.comp b).a * x + (a.comp b).b * y + (a.comp b).c) ((a.comp b).d * x + (a.comp b).e * y + (a.comp b).f) (by omega) (by omega)
  have hd := M6.det_ht ha
  clear hap hap2 e1 e2 hcm
  by_cases hz : a.det = 0
  · have d1 := invert_f ha (by omega) hz
    have d2 := aDet_q (ha.le_mono (by omega))
    rw [show a.a * a.e - a.d * a.b = a.det from rfl] at d2
    have d3 := q_of a.det (by omega)
    have d4 := rs_pu a.det (by omega)
    have hs : a.det.num.sign = 0 := by rw [hz]; rfl
    rw [hs] at d4
    clear hd haq
    repeat (first | (refine A1 ⟨?_⟩; intros) | (refine Wcx (c2) ?_) | (refine Wdcx (c2) ?_) | (refine Wcgx (c2) ?_) | (refine Wdcgx (c2) ?_) | (refine Wcx (c3) ?_) | (refine Wdcx (c3) ?_) | (refine Wcgx (c3) ?_) | (refine Wdcgx (c3) ?_) | (refine Wcx (c4) ?_) | (refine Wdcx (c4) ?_) | (refine Wcgx (c4) ?_) | (refine Wdcgx (c4) ?_) | (refine Wcx (c5) ?_) | (refine Wdcx (c5) ?_) | (refine Wcgx (c5) ?_) | (refine Wdcgx (c5) ?_) | (refine Wcx (c6) ?_) | (refine Wdcx (c6) ?_) | (refine Wcgx (c6) ?_) | (refine Wdcgx (c6) ?_) | (refine Wcx (c7) ?_) | (refine Wdcx (c7) ?_) | (refine Wcgx (c7) ?_) | (refine Wdcgx (c7) ?_) | (refine Wcx (d1) ?_) | (refine Wdcx (d1) ?_) | (refine Wcgx (d1) ?_) | (refine Wdcgx (d1) ?_) | (refine Wcx (d2) ?_) | (refine Wdcx (d2) ?_) | (refine Wcgx (d2) ?_) | (refine Wdcgx (d2) ?_) | (refine Wcx (d3) ?_) | (refine Wdcx (d3) ?_) | (refine Wcgx (d3) ?_) | (refine Wdcgx (d3) ?_) | (refine Wcx (d4) ?_) | (refine Wdcx (d4) ?_) | (refine Wcgx (d4) ?_) | (refine Wdcgx (d4) ?_) | (refine Wcx (known26) ?_) | (refine Wdcx (known26) ?_) | (refine Wcgx (known26) ?_) | (refine Wdcgx (known26) ?_))
    ((first | refine endR ?_ | refine endN ?_); exact end1 (RV.tmp rfl) (Le.refl _))
  · have d1 := invert_t ha (by omega) hz
    have hin := M6.inv_le ha
    have hdi := M6.inv_ne hz
    have d2 := aTree_t (ha.le_mono (L' := 400) (by omega)) (by omega) (by omega) hz (t.all_mono (fun l h => ⟨h.1, h.2.to (by omega)⟩) ht) (by omega)
    have d3 := aTree_t (t := t.im a) (hin.le_mono (L' := 400) (by omega)) (by omega) (by omega) hdi (t.im_all (fun l h => ⟨Li.im_ok hz h.1, (Li.im_le ha h.2 (by omega)).to (by omega)⟩) ht) (by rw [Tr.im_size]; omega)
    rw [Tr.im_inv hz t (t.all_mono (fun l h => h.1) ht)] at d3
    have d4 := aApply_q (ha.le_mono (by omega)) (x := x) (y := y) (by omega) (by omega)
    have d5 := aApply_q (m := a.inv) (hin.le_mono (by omega)) (x := a.a * x + a.b * y + a.c) (y := a.d * x + a.e * y + a.f) (by omega) (by omega)
    obtain ⟨e1, e2⟩ := M6.inv_apply hz x y
    rw [e1, e2] at d5
    have d6 := sameP_pu x y (by omega) (by omega)
    have d7 := sameT_pu t (t.all_mono (fun l h => h.2.to (by omega)) ht) (by omega)
    clear e1 e2 hin hd haq
    repeat (first | (refine A1 ⟨?_⟩; intros) | (refine Wcx (c2) ?_) | (refine Wdcx (c2) ?_) | (refine Wcgx (c2) ?_) | (refine Wdcgx (c2) ?_) | (refine Wcx (c3) ?_) | (refine Wdcx (c3) ?_) | (refine Wcgx (c3) ?_) | (refine Wdcgx (c3) ?_) | (refine Wcx (c4) ?_) | (refine Wdcx (c4) ?_) | (refine Wcgx (c4) ?_) | (refine Wdcgx (c4) ?_) | (refine Wcx (c5) ?_) | (refine Wdcx (c5) ?_) | (refine Wcgx (c5) ?_) | (refine Wdcgx (c5) ?_) | (refine Wcx (c6) ?_) | (refine Wdcx (c6) ?_) | (refine Wcgx (c6) ?_) | (refine Wdcgx (c6) ?_) | (refine Wcx (c7) ?_) | (refine Wdcx (c7) ?_) | (refine Wcgx (c7) ?_) | (refine Wdcgx (c7) ?_) | (refine Wcx (d1) ?_) | (refine Wdcx (d1) ?_) | (refine Wcgx (d1) ?_) | (refine Wdcgx (d1) ?_) | (refine Wcx (d2) ?_) | (refine Wdcx (d2) ?_) | (refine Wcgx (d2) ?_) | (refine Wdcgx (d2) ?_) | (refine Wcx (d3) ?_) | (refine Wdcx (d3) ?_) | (refine Wcgx (d3) ?_) | (refine Wdcgx (d3) ?_) | (refine Wcx (d4) ?_) | (refine Wdcx (d4) ?_) | (refine Wcgx (d4) ?_) | (refine Wdcgx (d4) ?_) | (refine Wcx (d5) ?_) | (refine Wdcx (d5) ?_) | (refine Wcgx (d5) ?_) | (refine Wdcgx (d5) ?_) | (refine Wcx (d6) ?_) | (refine Wdcx (d6) ?_) | (refine Wcgx (d6) ?_) | (refine Wdcgx (d6) ?_) | (refine Wcx (d7) ?_) | (refine Wdcx (d7) ?_) | (refine Wcgx (d7) ?_) | (refine Wdcgx (d7) ?_) | (refine Wcx (known26) ?_) | (refine Wdcx (known26) ?_) | (refine Wcgx (known26) ?_) | (refine Wdcgx (known26) ?_))
    ((first | refine endR ?_ | refine endN ?_); exact end1 (RV.tmp rfl) (Le.refl _))
end Go.Ab
/- From the reading of a law's arguments to what the abstract machine says of them; the frame of a law's row. -/
namespace Go.Ab
open Go.Proofs
set_option linter.unusedSectionVars false
set_option linter.unusedVariables false
set_option linter.unusedSimpArgs false
variable [Base]
open Go.ChangeShapes Go.WideShapes Go.ChangeAt Go.RowKit
section
variable {H : Type} {enc : TypeId × Value → H} {P : Program} {w : World} {sp : Nat → Bool} {held : Bool}
/-- the memory that lies there when a law is called -/
def memOf (w : World) : Mem := fun b => w.heap[b]?
theorem memOf_in (w : World) (h : Base.mem.le (memOf w)) : MemIn (memOf w) w := ⟨fun _ _ h => h, h⟩
/-- whatever reads as a datum of this type has cells of one of these shapes -/
def Opn (enc : TypeId × Value → H) (P : Program) (w : World) (sp : Nat → Bool) (held : Bool) (T : TypeId) (G : List SV → Prop) : Prop :=
  ∀ fuel cs x, DataW.trod enc P w 0 sp held fuel T cs = some x → ∃ svs, G svs ∧ All2 (memOf w) svs cs
/-- shapes laid one behind the other -/
inductive Cat : List (List SV → Prop) → List SV → Prop
  | nil : Cat [] []
  | cons {G : List SV → Prop} {Gs : List (List SV → Prop)} {a b : List SV} (h : G a) (k : Cat Gs b) : Cat (G :: Gs) (a ++ b)
def GBool : List SV → Prop := fun l => ∃ b, l = [lit (.bool b)]
def GInt (k : IntKind) : List SV → Prop := fun l => ∃ n, (Lit.int k n).wf = true ∧ l = [lit (.int k n)]
def GStr : List SV → Prop := fun l => ∃ s : ByteArray, s.size ≤ maxLen ∧ l = [lit (.string s)]
def GNat : List SV → Prop := fun l => ∃ xs, D xs ∧ l = [dg xs]
def GInts (k : IntKind) : List SV → Prop := fun l => ∃ zs : List Int, (∀ z ∈ zs, (Lit.int k z).wf = true) ∧ zs.length ≤ maxLen ∧ l = [nsl k zs]
def GSl (k : Nat) (G : List SV → Prop) : List SV → Prop := fun l => ∃ es : List (List SV), (∀ e ∈ es, G e ∧ e.length = k) ∧ es.length ≤ maxLen ∧ l = [sl es.flatten es.length]
theorem all2_one {m : Mem} {s : SV} {v : Value} (h : s.p m v) (f : v.oneCell' = true) : All2 m [s] [v] := ⟨⟨h, f⟩, trivial⟩
theorem opn_bool {T : TypeId} [hT : TBo P T] : Opn enc P w sp held T GBool := fun fuel cs x h => by
  obtain ⟨b, rfl, _⟩ := DataW.trod_bool hT.h h
  exact ⟨_, ⟨b, rfl⟩, all2_one (lit_p.2 rfl) rfl⟩
theorem opn_int {T : TypeId} {k : IntKind} [hT : TIn P T k] : Opn enc P w sp held T (GInt k) := fun fuel cs x h => by
  obtain ⟨n, rfl, _, hw⟩ := DataW.trod_int hT.h h
  exact ⟨_, ⟨n, hw, rfl⟩, all2_one (lit_p.2 rfl) rfl⟩
theorem opn_str {T : TypeId} [hT : TSr P T] : Opn enc P w sp held T GStr := fun fuel cs x h => by
  obtain ⟨s, rfl, _, hw⟩ := DataW.trod_string hT.h h
  exact ⟨_, ⟨s, hw, rfl⟩, all2_one (lit_p.2 rfl) rfl⟩
/-- the cells of a struct's fields, one behind the other -/
def laid (P : Program) : List Field → Nat → Nat → Bool
  | [], o, n => Nat.beq o n
  | f :: fs, o, n => Nat.beq f.offset o && laid P fs (o + P.cellsOf f.type) n
inductive Opns (enc : TypeId × Value → H) (P : Program) (w : World) (sp : Nat → Bool) (held : Bool) : List TypeId → List (List SV → Prop) → Prop
  | nil : Opns enc P w sp held [] []
  | cons {T : TypeId} {G : List SV → Prop} {Ts : List TypeId} {Gs : List (List SV → Prop)} (h : Opn enc P w sp held T G) (k : Opns enc P w sp held Ts Gs) : Opns enc P w sp held (T :: Ts) (G :: Gs)
theorem opn_cat {n : Nat} : ∀ {fs : List Field} {Gs : List (List SV → Prop)} {o : Nat} {cs : List Value}, Opns enc P w sp held (fs.map (·.type)) Gs → laid P fs o cs.length = true →
    (∀ (i : Nat) (f : Field), fs[i]? = some f → ∃ x, DataW.trod enc P w 0 sp held n f.type ((cs.drop f.offset).take (P.cellsOf f.type)) = some x) →
    ∃ svs, Cat Gs svs ∧ All2 (memOf w) svs (cs.drop o)
  | [], _, o, cs, h, hl, _ => by
    cases h
    simp only [laid] at hl
    have := Nat.eq_of_beq_eq_true hl
    subst this
    exact ⟨[], .nil, by rw [List.drop_length]; trivial⟩
  | f :: fs, _, o, cs, h, hl, hx => by
    cases h with
    | cons h k =>
      simp only [laid, Bool.and_eq_true] at hl
      have ho := Nat.eq_of_beq_eq_true hl.1
      obtain ⟨x, hx0⟩ := hx 0 f rfl
      rw [ho] at hx0
      obtain ⟨s0, g0, a0⟩ := h _ _ _ hx0
      obtain ⟨s1, g1, a1⟩ := opn_cat k hl.2 fun i f' hf => hx (i + 1) f' (by simpa using hf)
      refine ⟨s0 ++ s1, .cons g0 g1, ?_⟩
      have := a0.append a1
      rwa [← List.drop_drop, List.take_append_drop] at this
theorem opn_struct {T : TypeId} {fs : Array Field} {Gs : List (List SV → Prop)} (hT : P.underlying T = some (.struct fs)) (hl : laid P fs.toList 0 (P.cellsOf T) = true) (ho : Opns enc P w sp held (fs.toList.map (·.type)) Gs) : Opn enc P w sp held T (Cat Gs) := fun fuel cs x h => by
  obtain ⟨xs, n, _, _, hc, hlen, hf⟩ := DataW.trod_struct hT h
  have := opn_cat (n := n) (cs := cs) ho (by rw [hc]; exact hl) fun i f hi => by
    have h1 := hf i f (by simpa using hi)
    have h2 : i < xs.length := by
      have := (List.getElem?_eq_some_iff.1 hi).1
      simp at this; omega
    rw [List.getElem?_eq_getElem h2] at h1
    exact ⟨_, h1⟩
  simpa using this
theorem cells_get {a : Addr} {n : Nat} {cs : List Value} (h : w.cells? 0 a n = some cs) : cs.length = n ∧ ∀ j, j < n → w.cell? (a.add j) = cs[j]? := by
  unfold World.cells? at h
  rw [if_pos (Nat.zero_le _)] at h
  have hl := mapM_some_length h
  refine ⟨by simpa using hl, fun j hj => ?_⟩
  have := mapM_some_get h j j (by simp [hj])
  simpa using this
theorem flat_range {m : Mem} {f : Nat → List SV} {k : Nat} {vs : List Value} : ∀ {n : Nat}, (∀ i, i < n → (f i).length = k ∧ All2 m (f i) ((vs.drop (i * k)).take k)) → All2 m ((List.range n).map f).flatten (vs.take (n * k))
  | 0, _ => by simp [All2]
  | n + 1, h => by
    have h1 := flat_range (n := n) fun i hi => h i (by omega)
    have h2 := (h n (by omega)).2
    have := h1.append h2
    rw [List.range_succ, List.map_append, List.flatten_append, show (n + 1) * k = n * k + k from by rw [Nat.add_mul, Nat.one_mul], List.take_add]
    simpa using this
theorem opn_slice {T e : TypeId} {k : Nat} {G : List SV → Prop} [hT : TSl P T e] (hk : P.cellsOf e = k) (hk0 : 0 < k) (hG : Opn enc P w sp held e G) : Opn enc P w sp held T (GSl k G) := fun fuel cs x h => by
  rcases Deep.open_slice hT.h h with ⟨rfl, _⟩ | ⟨a, len, cap, m, n, Dd, Pl, rfl, _, hlc, hcm, hm, _, hx⟩
  · exact ⟨_, ⟨[], by simp, by simp, rfl⟩, all2_one (sl_mk (by simp) (by simp [maxLen]) (.inl rfl)) rfl⟩
  · have hlm : len ≤ m := by rw [hm]; split <;> omega
    have hcell : ∀ i, i < len → ∃ l, G l ∧ l.length = k ∧ ∃ cs', w.cells? 0 (a.add (i * k)) k = some cs' ∧ All2 (memOf w) l cs' := fun i hi => by
      obtain ⟨cs', h1, h2⟩ := hx i (by omega)
      rw [hk] at h1
      obtain ⟨l, g1, g2⟩ := hG _ _ _ h2
      exact ⟨l, g1, by rw [← g2.length, (cells_get h1).1], cs', h1, g2⟩
    have hch : ∀ i : Nat, ∃ l, i < len → G l ∧ l.length = k ∧ ∃ cs', w.cells? 0 (a.add (i * k)) k = some cs' ∧ All2 (memOf w) l cs' := fun i => by
      by_cases hi : i < len
      · obtain ⟨l, hl⟩ := hcell i hi
        exact ⟨l, fun _ => hl⟩
      · exact ⟨[], fun h => absurd h hi⟩
    obtain ⟨f, hf⟩ := Classical.axiomOfChoice hch
    refine ⟨_, ⟨(List.range len).map f, fun l hl => ?_, by simp; omega, rfl⟩, all2_one (v := .slice (some a) len cap) ?_ rfl⟩
    · obtain ⟨i, hi, rfl⟩ := List.mem_map.1 hl
      have := hf i (by simpa using hi)
      exact ⟨this.1, this.2.1⟩
    · rw [List.length_map, List.length_range]
      refine sl_mk hlc hcm ?_
      rcases Nat.eq_zero_or_pos len with h0 | h0
      · left; subst h0; rfl
      · right
        obtain ⟨_, hl0, cs0, hc0, _⟩ := hf 0 h0
        have hcc := (cells_get hc0).2 0 hk0
        rw [Nat.zero_mul] at hcc
        have hcl := (cells_get hc0).1
        rw [List.getElem?_eq_getElem (by omega)] at hcc
        obtain ⟨b, off, spot⟩ := a
        have hs : spot = none := by simpa [Addr.add] using World.cell?_spot hcc
        subst hs
        simp only [add_none, Nat.add_zero] at hcc
        have hb : ∃ arr T fz, w.heap[b]? = some (.cells arr T fz) := by
          unfold World.cell? at hcc
          cases hbb : w.heap[b]? with
          | none => simp [hbb] at hcc
          | some o => cases o with
            | cells arr T fz => exact ⟨arr, T, fz, rfl⟩
            | _ => simp [hbb] at hcc
        obtain ⟨arr, T', fz, hb⟩ := hb
        refine ⟨b, off, rfl, arr, T', fz, hb, ?_⟩
        have hfl : ((List.range len).map f).flatten.length = len * k := by
          have : ∀ n, n ≤ len → ((List.range n).map f).flatten.length = n * k := by
            intro n
            induction n with
            | zero => intro _; simp
            | succ n ih => intro hn; rw [List.range_succ, List.map_append, List.flatten_append, List.length_append, ih (by omega)]; simp [(hf n (by omega)).2.1, Nat.add_mul]
          exact this len (Nat.le_refl _)
        rw [hfl]
        refine flat_range fun i hi => ?_
        obtain ⟨_, hl, cs', hc, ha⟩ := hf i hi
        refine ⟨hl, ?_⟩
        have hcs : cs' = ((arr.toList.drop off).drop (i * k)).take k := by
          obtain ⟨g1, g2⟩ := cells_get hc
          apply List.ext_getElem?
          intro j
          by_cases hj : j < k
          · have h1 := g2 j hj
            simp only [add_none] at h1
            rw [cell_of w b _ arr _ _ hb] at h1
            rw [List.getElem?_take_of_lt hj, List.getElem?_drop, List.getElem?_drop, ← h1]
            simp [Nat.add_assoc]
          · rw [List.getElem?_eq_none (by omega), List.getElem?_eq_none (by rw [List.length_take]; omega)]
        rw [← hcs]; exact ha
theorem opn_ints {T e : TypeId} {k : IntKind} [hT : TSl P T e] [hE : TIn P e k] (hk : P.cellsOf e = 1) : Opn enc P w sp held T (GInts k) := fun fuel cs x h => by
  obtain ⟨svs, ⟨es, hes, hl, rfl⟩, ha⟩ := opn_slice (k := 1) hk (by omega) (opn_int (k := k)) fuel cs x h
  refine ⟨_, ?_, ha⟩
  have : ∃ zs : List Int, (∀ z ∈ zs, (Lit.int k z).wf = true) ∧ es = zs.map fun z => [lit (.int k z)] := by
    clear ha hl
    induction es with
    | nil => exact ⟨[], by simp, rfl⟩
    | cons e es ih =>
      obtain ⟨zs, h1, h2⟩ := ih fun x hx => hes x (by simp [hx])
      obtain ⟨⟨z, hz, rfl⟩, _⟩ := hes e (by simp)
      exact ⟨z :: zs, by simpa using ⟨hz, h1⟩, by rw [h2]; rfl⟩
  obtain ⟨zs, h1, rfl⟩ := this
  refine ⟨zs, h1, by simpa using hl, ?_⟩
  have hfl : (zs.map fun z => [lit (.int k z)]).flatten = zs.map fun z => lit (.int k z) := by
    clear hl hes ha h1
    induction zs with
    | nil => rfl
    | cons z zs ih => simp [ih]
  rw [hfl, List.length_map]
  unfold nsl; rfl
theorem opn_nat {T e : TypeId} [hT : TSl P T e] [hE : TIn P e .u32] (hk : P.cellsOf e = 1) : Opn enc P w sp held T GNat := fun fuel cs x h => by
  obtain ⟨svs, ⟨zs, hz, hl, rfl⟩, ha⟩ := opn_ints (k := .u32) hk fuel cs x h
  have : ∃ xs : List Nat, D xs ∧ zs = xs.map fun d : Nat => (d : Int) := by
    clear ha hl
    induction zs with
    | nil => exact ⟨[], D.nil, rfl⟩
    | cons z zs ih =>
      obtain ⟨xs, h1, h2⟩ := ih fun x hx => hz x (by simp [hx])
      have := hz z (by simp)
      simp only [Lit.wf, IntKind.min, IntKind.max, IntKind.signed, IntKind.bits, Bool.and_eq_true, decide_eq_true_eq] at this
      simp at this
      exact ⟨z.toNat :: xs, D.cons (by omega) h1, by rw [h2]; simp; omega⟩
  obtain ⟨xs, hD, rfl⟩ := this
  exact ⟨_, ⟨xs, hD, (dg_nsl xs).symm ▸ rfl⟩, ha⟩
end
end Go.Ab
/- The rows of this seat's laws: what is common to them. -/
namespace Go.Ab
open Go.Proofs
set_option linter.unusedSectionVars false
set_option linter.unusedVariables false
set_option linter.unusedSimpArgs false
variable [Base]
open Go.ChangeShapes Go.WideShapes Go.ChangeAt Go.RowKit
theorem agg_of {m : Mem} {svs : List SV} {v : Value} (h : All2 m svs v.cells.toList) (hl : 2 ≤ svs.length) : (ag svs).p m v := by
  have hlen := h.length
  unfold ag
  cases v with
  | agg arr => exact ⟨arr, rfl, h⟩
  | _ => simp [Value.cells] at hlen; omega
theorem calls_of {P : Program} {f : FuncId} {args : List SV} {W : World} {vs : List Value} (hB : Base.mem.le (memOf W)) (h : Pu P f args (lit (.bool true))) (ha : ArgsOk (memOf W) args vs) :
    Calls P f vs.toArray W fun e w' => e = .returned (.bool true) ∧ Below W.heap.size W w' := by
  unfold Pu at h
  refine (h.2 _ W vs (memOf_in W hB) ha).mono ?_
  rintro e w' ⟨v, m', rfl, hv, _, hr⟩
  rw [lit_p] at hv
  subst hv
  exact ⟨rfl, hr.os, hr.tape, hr.output, hr.size, fun k hk => hr.block k hk (by simp)⟩
theorem own0 : ownKnob Tryz.prog.godebug = none := by kernel_rfl
theorem laidOut0 : laidOutB Tryz.prog = true := by kernel_rfl
section
variable {H : Type} {enc : TypeId × Value → H} {W : World} {sp : Nat → Bool} {held : Bool}
abbrev GI : List SV → Prop := Cat [GBool, GNat]
abbrev GR : List SV → Prop := Cat [GI, GNat]
theorem opn_nat0 : Opn enc Tryz.prog W sp held 26 GNat := opn_nat (by kernel_rfl)
theorem opn_int0 : Opn enc Tryz.prog W sp held 28 GI := opn_struct Tryz.underlying28 (by kernel_rfl) (.cons opn_bool (.cons opn_nat0 .nil))
theorem opn_rat0 : Opn enc Tryz.prog W sp held 30 GR := opn_struct Tryz.underlying30 (by kernel_rfl) (.cons opn_int0 (.cons opn_nat0 .nil))
end
theorem cat_rat {l : List SV} (h : GR l) : ∃ r : RQ, (D r.n ∧ D r.d) ∧ l = qcells r := by
  cases h with
  | cons h k => cases h with
    | cons hb hk => cases hk with
      | cons hn hz => cases hz; cases k with
        | cons hd hz => cases hz
                        obtain ⟨b, rfl⟩ := hb
                        obtain ⟨xs, hx, rfl⟩ := hn
                        obtain ⟨ys, hy, rfl⟩ := hd
                        exact ⟨⟨b, xs, ys⟩, ⟨hx, hy⟩, rfl⟩
end Go.Ab
/- Rows that list package variables: what the list says to the abstract machine. -/
namespace Go.Ab
open Go.Proofs
set_option linter.unusedSectionVars false
set_option linter.unusedVariables false
set_option linter.unusedSimpArgs false
variable [Base]
open Go.ChangeShapes Go.WideShapes Go.ChangeAt Go.RowKit
theorem starE : "*" ++ "errors.errorString" = "*errors.errorString" := by decide
theorem rowE (u : TypeId) (h : (Tryz.prog).typeName? 3 u = some "*errors.errorString") : u = 481 :=
  typeName_ptr_named (nm := "errors.errorString") (by rw [starE]; kernel_rfl) (by kernel_rfl) (by decide) u (by rw [starE]; exact h)
/-- a listed sentinel, at the head of a list -/
theorem sent_head {n : String} {text : List UInt8} {r : List (String × DataW Unit)} {W : World} {g : Nat} (h : laidMet Tryz.prog ((n, .iface "*errors.errorString" (.ptr (.agg [.lit (.string text)]))) :: r) W)
    (hg : (Tryz.prog).globalNamed n = some g) (ht : ((Tryz.prog).globals[g]?).map (·.type) = some 58) : ∃ (a : Addr) (T : TypeId) (fz : Nat × Nat), W.heap[g]? = some (.cells #[.iface 481 (.pointer (some a))] T fz) := by
  obtain ⟨a, s, hv, _⟩ := laid_sentinel (tp := 481) h hg ht Tryz.underlying58 rowE Tryz.underlying481 Tryz.underlying503 rfl rfl Tryz.underlying9 (by kernel_rfl) (by kernel_rfl)
  unfold World.var? at hv
  rw [hg] at hv
  simp only [Option.bind_some] at hv
  cases hh : W.heap[g]? with
  | none => rw [hh] at hv; cases hv
  | some o =>
    rw [hh] at hv
    cases o with
    | cells cs T fz =>
      simp only [Option.some.injEq] at hv
      subst hv
      exact ⟨a, T, fz, rfl⟩
    | _ => cases hv
/-- the memory of a call, for a whole law -/
abbrev baseOf (W : World) : Base := ⟨memOf W⟩
end Go.Ab
