/- Texts laid one behind the other: GPW, GPN, GPO, GPX. -/
import Derived.Test.YtebghnhocigmlaaGreatDoorB17
import Derived.Test.YtebghnhocigmlaaGreatDoorB18
import Derived.Test.YtebghnhocigmlaaGreatDoorB16
/- The parser of scripts, walked: its small methods. -/
namespace Go.Ab
open Go.Proofs
set_option linter.unusedSectionVars false
set_option linter.unusedVariables false
set_option linter.unusedSimpArgs false
variable [Base]
section
variable {P : Program} {C : Ctx} {n : Nat} {F : Fr} {H : LH} {ops : Array Oper} {K : Fr → LH → Prop} {rest : List Oper} {ty : TypeId} {pos : String} {aft : Array Edge}
/-- a panic with an interface value of a known kind -/
theorem WpanF {x : Operand} {t : TypeId} {s : SV} (hx : ev F x = ifc t s) (kx : C.pan (ifc t s) H) {d : Option Nat} : WPL P C n ops (⟨d, .panic x, ty, pos, aft, none⟩ :: rest) K F H := by
  unfold WPL
  intro a w hst Q hq
  obtain ⟨hdef, hn, m, h1, h2, h3, h4, h5⟩ := hst
  have hp : ∀ x, (ev F x).p m (a.eval x) := fun x => by
    cases x with
    | tmp t => exact h5 t
    | const v => unfold ev lit; rfl
    | global g => unfold ev lit; rfl
    | func f => unfold ev lit; rfl
  have e0 := hp x; rw [hx] at e0
  have e0' := e0
  unfold ifc at e0'
  obtain ⟨u, e0', _⟩ := e0'
  refine wpList_plain rfl fun K' hK' => ?_
  unfold Oper.wp
  have hrun : (execOp a.eval (⟨d, .panic x, ty, pos, aft, none⟩ : Oper)).run P w = .halt (.panic (a.eval x)) w := by
    simp [execOp, e0', Instr.panic]
  rw [hrun]
  exact hq.pan _ _ _ ⟨hdef, m, _, ifc t s, H, rfl, h1, h2, h3, h4, e0, kx⟩
/-- a record behind an interface value becomes unchanging memory -/
theorem WpubI {l : List Oper} {b : Nat} {T t : TypeId} {cs : List SV} {H' : LH} (d : Nat) (hv : F d = lit (.iface t (.pointer (some ⟨b, 0, none⟩)))) (hdel : HDel b T cs H H')
    (h : WPL P C n ops l K (upd F d (ifc t (pt cs))) H') : WPL P C n ops l K F H :=
  WPL.pub hdel hv (fun m arr hm ha => by unfold ifc; exact ⟨_, rfl, pub_pt m arr hm ha⟩) h
end
theorem gfail_pu (s : SV) (hco : CO s [s]) (p : Nat) (a : Tok) (r : List Tok) (d : Nat) (hr : r.length ≤ 1000000) (k : Nat) : PuH Tryz.prog 93 [lit (.pointer (some ⟨p, 0, none⟩)), lit (sent (eg k))] [(p, psT, psC (a :: r) d s)] (fun _ _ => False) (fun pv _ => pv = erSV (ger k (a :: r))) := by
  have c := pnext_pu s hco a r d hr
  refine PuH.intro Tryz.func93 rfl (by kernel_rfl) fun C hC => ?_
  repeat (refine A1 ⟨?_⟩; intros)
  refine Wo (ov_callT c rfl (by (first | exact List.mem_cons_self | exact (List.mem_cons_of_mem _ List.mem_cons_self) | exact (List.mem_cons_of_mem _ (List.mem_cons_of_mem _ List.mem_cons_self)) | exact (List.mem_cons_of_mem _ (List.mem_cons_of_mem _ (List.mem_cons_of_mem _ List.mem_cons_self))) | exact (List.mem_cons_of_mem _ (List.mem_cons_of_mem _ (List.mem_cons_of_mem _ (List.mem_cons_of_mem _ List.mem_cons_self)))) | exact (List.mem_cons_of_mem _ (List.mem_cons_of_mem _ (List.mem_cons_of_mem _ (List.mem_cons_of_mem _ (List.mem_cons_of_mem _ List.mem_cons_self))))) | exact (List.mem_cons_of_mem _ (List.mem_cons_of_mem _ (List.mem_cons_of_mem _ (List.mem_cons_of_mem _ (List.mem_cons_of_mem _ (List.mem_cons_of_mem _ List.mem_cons_self)))))) | exact (List.mem_cons_of_mem _ (List.mem_cons_of_mem _ (List.mem_cons_of_mem _ (List.mem_cons_of_mem _ (List.mem_cons_of_mem _ (List.mem_cons_of_mem _ (List.mem_cons_of_mem _ List.mem_cons_self)))))))))) ?_
  repeat (refine A1 ⟨?_⟩; intros)
  refine WpubI 16 rfl (HDel.here _) ?_
  refine WpanF (t := 32) (s := pt _) rfl ?_
  rw [hC]
  rfl
theorem gis_pu (s : SV) (hco : CO s [s]) (a : Tok) (r : List Tok) (d : Nat) (hr : r.length ≤ 1000000) (w : List UInt8) :
    PuM Tryz.prog 154 psT (fun p => [lit (.pointer (some ⟨p, 0, none⟩)), str w]) (psC (a :: r) d s) (fun _ : Unit => psC (a :: r) d s) (fun _ => lit (.bool (gis (a :: r) w))) := by
  have c := pnext_pu s hco a r d hr
  rw [gis_cons]
  by_cases hw' : a.t = w
  · rw [decide_eq_true hw', Bool.and_true]
    by_cases h1 : a.k = 1
    · rw [decide_eq_true h1, Bool.true_or]
      refine PuM.intro Tryz.func154 rfl (by kernel_rfl) fun C b => ?_
      repeat (refine A1 ⟨?_⟩; intros)
      refine Wo (ov_callT c rfl (by (first | exact List.mem_cons_self | exact (List.mem_cons_of_mem _ List.mem_cons_self) | exact (List.mem_cons_of_mem _ (List.mem_cons_of_mem _ List.mem_cons_self)) | exact (List.mem_cons_of_mem _ (List.mem_cons_of_mem _ (List.mem_cons_of_mem _ List.mem_cons_self))) | exact (List.mem_cons_of_mem _ (List.mem_cons_of_mem _ (List.mem_cons_of_mem _ (List.mem_cons_of_mem _ List.mem_cons_self)))) | exact (List.mem_cons_of_mem _ (List.mem_cons_of_mem _ (List.mem_cons_of_mem _ (List.mem_cons_of_mem _ (List.mem_cons_of_mem _ List.mem_cons_self))))) | exact (List.mem_cons_of_mem _ (List.mem_cons_of_mem _ (List.mem_cons_of_mem _ (List.mem_cons_of_mem _ (List.mem_cons_of_mem _ (List.mem_cons_of_mem _ List.mem_cons_self)))))) | exact (List.mem_cons_of_mem _ (List.mem_cons_of_mem _ (List.mem_cons_of_mem _ (List.mem_cons_of_mem _ (List.mem_cons_of_mem _ (List.mem_cons_of_mem _ (List.mem_cons_of_mem _ List.mem_cons_self)))))))))) ?_
      repeat (refine A1 ⟨?_⟩; intros)
      exact endMR () _ (end1 (RV.tmp rfl) (Le.refl _)) (by (first | exact List.mem_cons_self | exact (List.mem_cons_of_mem _ List.mem_cons_self) | exact (List.mem_cons_of_mem _ (List.mem_cons_of_mem _ List.mem_cons_self)) | exact (List.mem_cons_of_mem _ (List.mem_cons_of_mem _ (List.mem_cons_of_mem _ List.mem_cons_self))) | exact (List.mem_cons_of_mem _ (List.mem_cons_of_mem _ (List.mem_cons_of_mem _ (List.mem_cons_of_mem _ List.mem_cons_self)))) | exact (List.mem_cons_of_mem _ (List.mem_cons_of_mem _ (List.mem_cons_of_mem _ (List.mem_cons_of_mem _ (List.mem_cons_of_mem _ List.mem_cons_self))))) | exact (List.mem_cons_of_mem _ (List.mem_cons_of_mem _ (List.mem_cons_of_mem _ (List.mem_cons_of_mem _ (List.mem_cons_of_mem _ (List.mem_cons_of_mem _ List.mem_cons_self)))))) | exact (List.mem_cons_of_mem _ (List.mem_cons_of_mem _ (List.mem_cons_of_mem _ (List.mem_cons_of_mem _ (List.mem_cons_of_mem _ (List.mem_cons_of_mem _ (List.mem_cons_of_mem _ List.mem_cons_self))))))))) (LeL.refl _)
    · by_cases h3 : a.k = 3
      · rw [decide_eq_false h1, decide_eq_true h3, Bool.false_or]
        refine PuM.intro Tryz.func154 rfl (by kernel_rfl) fun C b => ?_
        repeat (refine A1 ⟨?_⟩; intros)
        refine Wo (ov_callT c rfl (by (first | exact List.mem_cons_self | exact (List.mem_cons_of_mem _ List.mem_cons_self) | exact (List.mem_cons_of_mem _ (List.mem_cons_of_mem _ List.mem_cons_self)) | exact (List.mem_cons_of_mem _ (List.mem_cons_of_mem _ (List.mem_cons_of_mem _ List.mem_cons_self))) | exact (List.mem_cons_of_mem _ (List.mem_cons_of_mem _ (List.mem_cons_of_mem _ (List.mem_cons_of_mem _ List.mem_cons_self)))) | exact (List.mem_cons_of_mem _ (List.mem_cons_of_mem _ (List.mem_cons_of_mem _ (List.mem_cons_of_mem _ (List.mem_cons_of_mem _ List.mem_cons_self))))) | exact (List.mem_cons_of_mem _ (List.mem_cons_of_mem _ (List.mem_cons_of_mem _ (List.mem_cons_of_mem _ (List.mem_cons_of_mem _ (List.mem_cons_of_mem _ List.mem_cons_self)))))) | exact (List.mem_cons_of_mem _ (List.mem_cons_of_mem _ (List.mem_cons_of_mem _ (List.mem_cons_of_mem _ (List.mem_cons_of_mem _ (List.mem_cons_of_mem _ (List.mem_cons_of_mem _ List.mem_cons_self)))))))))) ?_
        repeat (refine A1 ⟨?_⟩; intros)
        exact endMR () _ (end1 (RV.tmp rfl) (Le.refl _)) (by (first | exact List.mem_cons_self | exact (List.mem_cons_of_mem _ List.mem_cons_self) | exact (List.mem_cons_of_mem _ (List.mem_cons_of_mem _ List.mem_cons_self)) | exact (List.mem_cons_of_mem _ (List.mem_cons_of_mem _ (List.mem_cons_of_mem _ List.mem_cons_self))) | exact (List.mem_cons_of_mem _ (List.mem_cons_of_mem _ (List.mem_cons_of_mem _ (List.mem_cons_of_mem _ List.mem_cons_self)))) | exact (List.mem_cons_of_mem _ (List.mem_cons_of_mem _ (List.mem_cons_of_mem _ (List.mem_cons_of_mem _ (List.mem_cons_of_mem _ List.mem_cons_self))))) | exact (List.mem_cons_of_mem _ (List.mem_cons_of_mem _ (List.mem_cons_of_mem _ (List.mem_cons_of_mem _ (List.mem_cons_of_mem _ (List.mem_cons_of_mem _ List.mem_cons_self)))))) | exact (List.mem_cons_of_mem _ (List.mem_cons_of_mem _ (List.mem_cons_of_mem _ (List.mem_cons_of_mem _ (List.mem_cons_of_mem _ (List.mem_cons_of_mem _ (List.mem_cons_of_mem _ List.mem_cons_self))))))))) (LeL.refl _)
      · rw [decide_eq_false h1, decide_eq_false h3, Bool.false_or]
        refine PuM.intro Tryz.func154 rfl (by kernel_rfl) fun C b => ?_
        repeat (refine A1 ⟨?_⟩; intros)
        refine Wo (ov_callT c rfl (by (first | exact List.mem_cons_self | exact (List.mem_cons_of_mem _ List.mem_cons_self) | exact (List.mem_cons_of_mem _ (List.mem_cons_of_mem _ List.mem_cons_self)) | exact (List.mem_cons_of_mem _ (List.mem_cons_of_mem _ (List.mem_cons_of_mem _ List.mem_cons_self))) | exact (List.mem_cons_of_mem _ (List.mem_cons_of_mem _ (List.mem_cons_of_mem _ (List.mem_cons_of_mem _ List.mem_cons_self)))) | exact (List.mem_cons_of_mem _ (List.mem_cons_of_mem _ (List.mem_cons_of_mem _ (List.mem_cons_of_mem _ (List.mem_cons_of_mem _ List.mem_cons_self))))) | exact (List.mem_cons_of_mem _ (List.mem_cons_of_mem _ (List.mem_cons_of_mem _ (List.mem_cons_of_mem _ (List.mem_cons_of_mem _ (List.mem_cons_of_mem _ List.mem_cons_self)))))) | exact (List.mem_cons_of_mem _ (List.mem_cons_of_mem _ (List.mem_cons_of_mem _ (List.mem_cons_of_mem _ (List.mem_cons_of_mem _ (List.mem_cons_of_mem _ (List.mem_cons_of_mem _ List.mem_cons_self)))))))))) ?_
        repeat (refine A1 ⟨?_⟩; intros)
        exact endMR () _ (end1 (RV.tmp rfl) (Le.refl _)) (by (first | exact List.mem_cons_self | exact (List.mem_cons_of_mem _ List.mem_cons_self) | exact (List.mem_cons_of_mem _ (List.mem_cons_of_mem _ List.mem_cons_self)) | exact (List.mem_cons_of_mem _ (List.mem_cons_of_mem _ (List.mem_cons_of_mem _ List.mem_cons_self))) | exact (List.mem_cons_of_mem _ (List.mem_cons_of_mem _ (List.mem_cons_of_mem _ (List.mem_cons_of_mem _ List.mem_cons_self)))) | exact (List.mem_cons_of_mem _ (List.mem_cons_of_mem _ (List.mem_cons_of_mem _ (List.mem_cons_of_mem _ (List.mem_cons_of_mem _ List.mem_cons_self))))) | exact (List.mem_cons_of_mem _ (List.mem_cons_of_mem _ (List.mem_cons_of_mem _ (List.mem_cons_of_mem _ (List.mem_cons_of_mem _ (List.mem_cons_of_mem _ List.mem_cons_self)))))) | exact (List.mem_cons_of_mem _ (List.mem_cons_of_mem _ (List.mem_cons_of_mem _ (List.mem_cons_of_mem _ (List.mem_cons_of_mem _ (List.mem_cons_of_mem _ (List.mem_cons_of_mem _ List.mem_cons_self))))))))) (LeL.refl _)
  · rw [decide_eq_false hw', Bool.and_false]
    refine PuM.intro Tryz.func154 rfl (by kernel_rfl) fun C b => ?_
    repeat (refine A1 ⟨?_⟩; intros)
    refine Wo (ov_callT c rfl (by (first | exact List.mem_cons_self | exact (List.mem_cons_of_mem _ List.mem_cons_self) | exact (List.mem_cons_of_mem _ (List.mem_cons_of_mem _ List.mem_cons_self)) | exact (List.mem_cons_of_mem _ (List.mem_cons_of_mem _ (List.mem_cons_of_mem _ List.mem_cons_self))) | exact (List.mem_cons_of_mem _ (List.mem_cons_of_mem _ (List.mem_cons_of_mem _ (List.mem_cons_of_mem _ List.mem_cons_self)))) | exact (List.mem_cons_of_mem _ (List.mem_cons_of_mem _ (List.mem_cons_of_mem _ (List.mem_cons_of_mem _ (List.mem_cons_of_mem _ List.mem_cons_self))))) | exact (List.mem_cons_of_mem _ (List.mem_cons_of_mem _ (List.mem_cons_of_mem _ (List.mem_cons_of_mem _ (List.mem_cons_of_mem _ (List.mem_cons_of_mem _ List.mem_cons_self)))))) | exact (List.mem_cons_of_mem _ (List.mem_cons_of_mem _ (List.mem_cons_of_mem _ (List.mem_cons_of_mem _ (List.mem_cons_of_mem _ (List.mem_cons_of_mem _ (List.mem_cons_of_mem _ List.mem_cons_self)))))))))) ?_
    repeat (refine A1 ⟨?_⟩; intros)
    exact endMR () _ (end1 (RV.tmp rfl) (Le.refl _)) (by (first | exact List.mem_cons_self | exact (List.mem_cons_of_mem _ List.mem_cons_self) | exact (List.mem_cons_of_mem _ (List.mem_cons_of_mem _ List.mem_cons_self)) | exact (List.mem_cons_of_mem _ (List.mem_cons_of_mem _ (List.mem_cons_of_mem _ List.mem_cons_self))) | exact (List.mem_cons_of_mem _ (List.mem_cons_of_mem _ (List.mem_cons_of_mem _ (List.mem_cons_of_mem _ List.mem_cons_self)))) | exact (List.mem_cons_of_mem _ (List.mem_cons_of_mem _ (List.mem_cons_of_mem _ (List.mem_cons_of_mem _ (List.mem_cons_of_mem _ List.mem_cons_self))))) | exact (List.mem_cons_of_mem _ (List.mem_cons_of_mem _ (List.mem_cons_of_mem _ (List.mem_cons_of_mem _ (List.mem_cons_of_mem _ (List.mem_cons_of_mem _ List.mem_cons_self)))))) | exact (List.mem_cons_of_mem _ (List.mem_cons_of_mem _ (List.mem_cons_of_mem _ (List.mem_cons_of_mem _ (List.mem_cons_of_mem _ (List.mem_cons_of_mem _ (List.mem_cons_of_mem _ List.mem_cons_self))))))))) (LeL.refl _)
theorem gexpect_pu [Sent 4] (s : SV) (hco : CO s [s]) (p : Nat) (a : Tok) (r : List Tok) (d : Nat) (hr : r.length ≤ 1000000) (w : List UInt8) :
    PuH Tryz.prog 100 [lit (.pointer (some ⟨p, 0, none⟩)), str w] [(p, psT, psC (a :: r) d s)] (fun v H => gexpect w (a :: r) = .ok r ∧ gis (a :: r) w = true ∧ v = Ab.tup [] ∧ H = [(p, psT, psC r d s)]) (fun pv _ => gexpect w (a :: r) = .error (ger 1 (a :: r)) ∧ pv = erSV (ger 1 (a :: r))) := by
  have c := gis_pu s hco a r d hr w
  have c3 := gfail_pu s hco p a r d hr 1
  unfold gexpect
  cases h : gis (a :: r) w with
  | true =>
    rw [h] at c
    refine PuH.intro Tryz.func100 rfl (by kernel_rfl) fun C hC => ?_
    repeat (refine A1 ⟨?_⟩; intros)
    refine Wo (ov_callT c rfl (by (first | exact List.mem_cons_self | exact (List.mem_cons_of_mem _ List.mem_cons_self) | exact (List.mem_cons_of_mem _ (List.mem_cons_of_mem _ List.mem_cons_self)) | exact (List.mem_cons_of_mem _ (List.mem_cons_of_mem _ (List.mem_cons_of_mem _ List.mem_cons_self))) | exact (List.mem_cons_of_mem _ (List.mem_cons_of_mem _ (List.mem_cons_of_mem _ (List.mem_cons_of_mem _ List.mem_cons_self)))) | exact (List.mem_cons_of_mem _ (List.mem_cons_of_mem _ (List.mem_cons_of_mem _ (List.mem_cons_of_mem _ (List.mem_cons_of_mem _ List.mem_cons_self))))) | exact (List.mem_cons_of_mem _ (List.mem_cons_of_mem _ (List.mem_cons_of_mem _ (List.mem_cons_of_mem _ (List.mem_cons_of_mem _ (List.mem_cons_of_mem _ List.mem_cons_self)))))) | exact (List.mem_cons_of_mem _ (List.mem_cons_of_mem _ (List.mem_cons_of_mem _ (List.mem_cons_of_mem _ (List.mem_cons_of_mem _ (List.mem_cons_of_mem _ (List.mem_cons_of_mem _ List.mem_cons_self)))))))))) ?_
    repeat (refine A1 ⟨?_⟩; intros)
    refine WfT (ptake_pu s hco p a r d hr) ?_
    rintro _ _ ⟨rfl, rfl⟩
    simp only [List.cons_append, List.nil_append]
    repeat (refine A1 ⟨?_⟩; intros)
    exact endHN _ _ end0 (List.Sublist.refl _) ⟨by trivial, by trivial, rfl, rfl⟩
  | false =>
    rw [h] at c
    refine PuH.intro Tryz.func100 rfl (by kernel_rfl) fun C hC => ?_
    repeat (refine A1 ⟨?_⟩; intros)
    refine Wo (ov_callT c rfl (by (first | exact List.mem_cons_self | exact (List.mem_cons_of_mem _ List.mem_cons_self) | exact (List.mem_cons_of_mem _ (List.mem_cons_of_mem _ List.mem_cons_self)) | exact (List.mem_cons_of_mem _ (List.mem_cons_of_mem _ (List.mem_cons_of_mem _ List.mem_cons_self))) | exact (List.mem_cons_of_mem _ (List.mem_cons_of_mem _ (List.mem_cons_of_mem _ (List.mem_cons_of_mem _ List.mem_cons_self)))) | exact (List.mem_cons_of_mem _ (List.mem_cons_of_mem _ (List.mem_cons_of_mem _ (List.mem_cons_of_mem _ (List.mem_cons_of_mem _ List.mem_cons_self))))) | exact (List.mem_cons_of_mem _ (List.mem_cons_of_mem _ (List.mem_cons_of_mem _ (List.mem_cons_of_mem _ (List.mem_cons_of_mem _ (List.mem_cons_of_mem _ List.mem_cons_self)))))) | exact (List.mem_cons_of_mem _ (List.mem_cons_of_mem _ (List.mem_cons_of_mem _ (List.mem_cons_of_mem _ (List.mem_cons_of_mem _ (List.mem_cons_of_mem _ (List.mem_cons_of_mem _ List.mem_cons_self)))))))))) ?_
    repeat (refine A1 ⟨?_⟩; intros)
    refine WfX c3 ?_ ?_
    · rintro _ _ ⟨⟩
    · rintro _ _ h
      rw [hC]
      exact ⟨rfl, h⟩
theorem gaccept_pu (s : SV) (hco : CO s [s]) (p : Nat) (a : Tok) (r : List Tok) (d : Nat) (hr : r.length ≤ 1000000) (w : List UInt8) :
    PuH Tryz.prog 208 [lit (.pointer (some ⟨p, 0, none⟩)), str w] [(p, psT, psC (a :: r) d s)] (fun v H => v = lit (.bool (gis (a :: r) w)) ∧ H = [(p, psT, psC (if gis (a :: r) w = true then r else a :: r) d s)]) noX := by
  have c := gis_pu s hco a r d hr w
  cases h : gis (a :: r) w with
  | true =>
    rw [h] at c
    refine PuH.intro Tryz.func208 rfl (by kernel_rfl) fun C hC => ?_
    repeat (refine A1 ⟨?_⟩; intros)
    refine Wo (ov_callT c rfl (by (first | exact List.mem_cons_self | exact (List.mem_cons_of_mem _ List.mem_cons_self) | exact (List.mem_cons_of_mem _ (List.mem_cons_of_mem _ List.mem_cons_self)) | exact (List.mem_cons_of_mem _ (List.mem_cons_of_mem _ (List.mem_cons_of_mem _ List.mem_cons_self))) | exact (List.mem_cons_of_mem _ (List.mem_cons_of_mem _ (List.mem_cons_of_mem _ (List.mem_cons_of_mem _ List.mem_cons_self)))) | exact (List.mem_cons_of_mem _ (List.mem_cons_of_mem _ (List.mem_cons_of_mem _ (List.mem_cons_of_mem _ (List.mem_cons_of_mem _ List.mem_cons_self))))) | exact (List.mem_cons_of_mem _ (List.mem_cons_of_mem _ (List.mem_cons_of_mem _ (List.mem_cons_of_mem _ (List.mem_cons_of_mem _ (List.mem_cons_of_mem _ List.mem_cons_self)))))) | exact (List.mem_cons_of_mem _ (List.mem_cons_of_mem _ (List.mem_cons_of_mem _ (List.mem_cons_of_mem _ (List.mem_cons_of_mem _ (List.mem_cons_of_mem _ (List.mem_cons_of_mem _ List.mem_cons_self)))))))))) ?_
    repeat (refine A1 ⟨?_⟩; intros)
    refine WfT (ptake_pu s hco p a r d hr) ?_
    rintro _ _ ⟨rfl, rfl⟩
    simp only [List.cons_append, List.nil_append]
    repeat (refine A1 ⟨?_⟩; intros)
    exact endHR _ _ (end1 (RV.tmp rfl) (Le.refl _)) (List.Sublist.refl _) ⟨rfl, rfl⟩
  | false =>
    rw [h] at c
    refine PuH.intro Tryz.func208 rfl (by kernel_rfl) fun C hC => ?_
    repeat (refine A1 ⟨?_⟩; intros)
    refine Wo (ov_callT c rfl (by (first | exact List.mem_cons_self | exact (List.mem_cons_of_mem _ List.mem_cons_self) | exact (List.mem_cons_of_mem _ (List.mem_cons_of_mem _ List.mem_cons_self)) | exact (List.mem_cons_of_mem _ (List.mem_cons_of_mem _ (List.mem_cons_of_mem _ List.mem_cons_self))) | exact (List.mem_cons_of_mem _ (List.mem_cons_of_mem _ (List.mem_cons_of_mem _ (List.mem_cons_of_mem _ List.mem_cons_self)))) | exact (List.mem_cons_of_mem _ (List.mem_cons_of_mem _ (List.mem_cons_of_mem _ (List.mem_cons_of_mem _ (List.mem_cons_of_mem _ List.mem_cons_self))))) | exact (List.mem_cons_of_mem _ (List.mem_cons_of_mem _ (List.mem_cons_of_mem _ (List.mem_cons_of_mem _ (List.mem_cons_of_mem _ (List.mem_cons_of_mem _ List.mem_cons_self)))))) | exact (List.mem_cons_of_mem _ (List.mem_cons_of_mem _ (List.mem_cons_of_mem _ (List.mem_cons_of_mem _ (List.mem_cons_of_mem _ (List.mem_cons_of_mem _ (List.mem_cons_of_mem _ List.mem_cons_self)))))))))) ?_
    repeat (refine A1 ⟨?_⟩; intros)
    exact endHR _ _ (end1 (RV.tmp rfl) (Le.refl _)) (List.Sublist.refl _) ⟨rfl, rfl⟩
theorem gname_pu [Sent 4] (s : SV) (hco : CO s [s]) (p : Nat) (a : Tok) (r : List Tok) (d : Nat) (hr : r.length ≤ 1000000) : PuH Tryz.prog 149 [lit (.pointer (some ⟨p, 0, none⟩))] [(p, psT, psC (a :: r) d s)]
    (fun v H => (a.k = 1 ∧ resv a.t = false) ∧ v = str a.t ∧ H = [(p, psT, psC r d s)]) (fun pv _ => ¬(a.k = 1 ∧ resv a.t = false) ∧ pv = erSV (ger 1 (a :: r))) := by
  have c := pisName_pu s hco a r d hr
  have c3 := gfail_pu s hco p a r d hr 1
  by_cases h : a.k = 1 ∧ resv a.t = false
  · rw [decide_eq_true h] at c
    have h' := h
    clear h
    have h := (show Hid _ from h')
    clear h'
    refine PuH.intro Tryz.func149 rfl (by kernel_rfl) fun C hC => ?_
    repeat (refine A1 ⟨?_⟩; intros)
    refine Wo (ov_callT c rfl (by (first | exact List.mem_cons_self | exact (List.mem_cons_of_mem _ List.mem_cons_self) | exact (List.mem_cons_of_mem _ (List.mem_cons_of_mem _ List.mem_cons_self)) | exact (List.mem_cons_of_mem _ (List.mem_cons_of_mem _ (List.mem_cons_of_mem _ List.mem_cons_self))) | exact (List.mem_cons_of_mem _ (List.mem_cons_of_mem _ (List.mem_cons_of_mem _ (List.mem_cons_of_mem _ List.mem_cons_self)))) | exact (List.mem_cons_of_mem _ (List.mem_cons_of_mem _ (List.mem_cons_of_mem _ (List.mem_cons_of_mem _ (List.mem_cons_of_mem _ List.mem_cons_self))))) | exact (List.mem_cons_of_mem _ (List.mem_cons_of_mem _ (List.mem_cons_of_mem _ (List.mem_cons_of_mem _ (List.mem_cons_of_mem _ (List.mem_cons_of_mem _ List.mem_cons_self)))))) | exact (List.mem_cons_of_mem _ (List.mem_cons_of_mem _ (List.mem_cons_of_mem _ (List.mem_cons_of_mem _ (List.mem_cons_of_mem _ (List.mem_cons_of_mem _ (List.mem_cons_of_mem _ List.mem_cons_self)))))))))) ?_
    repeat (refine A1 ⟨?_⟩; intros)
    refine WfT (ptake_pu s hco p a r d hr) ?_
    rintro _ _ ⟨rfl, rfl⟩
    simp only [List.cons_append, List.nil_append]
    repeat (refine A1 ⟨?_⟩; intros)
    exact endHR _ _ (end1 (RV.tmp rfl) (Le.refl _)) (List.Sublist.refl _) ⟨h, rfl, rfl⟩
  · rw [decide_eq_false h] at c
    have h' := h
    clear h
    have h := (show Hid _ from h')
    clear h'
    refine PuH.intro Tryz.func149 rfl (by kernel_rfl) fun C hC => ?_
    repeat (refine A1 ⟨?_⟩; intros)
    refine Wo (ov_callT c rfl (by (first | exact List.mem_cons_self | exact (List.mem_cons_of_mem _ List.mem_cons_self) | exact (List.mem_cons_of_mem _ (List.mem_cons_of_mem _ List.mem_cons_self)) | exact (List.mem_cons_of_mem _ (List.mem_cons_of_mem _ (List.mem_cons_of_mem _ List.mem_cons_self))) | exact (List.mem_cons_of_mem _ (List.mem_cons_of_mem _ (List.mem_cons_of_mem _ (List.mem_cons_of_mem _ List.mem_cons_self)))) | exact (List.mem_cons_of_mem _ (List.mem_cons_of_mem _ (List.mem_cons_of_mem _ (List.mem_cons_of_mem _ (List.mem_cons_of_mem _ List.mem_cons_self))))) | exact (List.mem_cons_of_mem _ (List.mem_cons_of_mem _ (List.mem_cons_of_mem _ (List.mem_cons_of_mem _ (List.mem_cons_of_mem _ (List.mem_cons_of_mem _ List.mem_cons_self)))))) | exact (List.mem_cons_of_mem _ (List.mem_cons_of_mem _ (List.mem_cons_of_mem _ (List.mem_cons_of_mem _ (List.mem_cons_of_mem _ (List.mem_cons_of_mem _ (List.mem_cons_of_mem _ List.mem_cons_self)))))))))) ?_
    repeat (refine A1 ⟨?_⟩; intros)
    refine WfX c3 ?_ ?_
    · rintro _ _ ⟨⟩
    · rintro _ _ hx
      rw [hC]
      exact ⟨h, hx⟩
theorem gnumber_pu [Sent 4] (s : SV) (hco : CO s [s]) (p : Nat) (a : Tok) (r : List Tok) (d : Nat) (hr : r.length ≤ 1000000) : PuH Tryz.prog 148 [lit (.pointer (some ⟨p, 0, none⟩))] [(p, psT, psC (a :: r) d s)]
    (fun v H => a.k = 2 ∧ v = str a.t ∧ H = [(p, psT, psC r d s)]) (fun pv _ => a.k ≠ 2 ∧ pv = erSV (ger 1 (a :: r))) := by
  have c := pnext_pu s hco a r d hr
  have c3 := gfail_pu s hco p a r d hr 1
  by_cases hk : a.k = 2
  · refine PuH.intro Tryz.func148 rfl (by kernel_rfl) fun C hC => ?_
    repeat (refine A1 ⟨?_⟩; intros)
    refine Wo (ov_callT c rfl (by (first | exact List.mem_cons_self | exact (List.mem_cons_of_mem _ List.mem_cons_self) | exact (List.mem_cons_of_mem _ (List.mem_cons_of_mem _ List.mem_cons_self)) | exact (List.mem_cons_of_mem _ (List.mem_cons_of_mem _ (List.mem_cons_of_mem _ List.mem_cons_self))) | exact (List.mem_cons_of_mem _ (List.mem_cons_of_mem _ (List.mem_cons_of_mem _ (List.mem_cons_of_mem _ List.mem_cons_self)))) | exact (List.mem_cons_of_mem _ (List.mem_cons_of_mem _ (List.mem_cons_of_mem _ (List.mem_cons_of_mem _ (List.mem_cons_of_mem _ List.mem_cons_self))))) | exact (List.mem_cons_of_mem _ (List.mem_cons_of_mem _ (List.mem_cons_of_mem _ (List.mem_cons_of_mem _ (List.mem_cons_of_mem _ (List.mem_cons_of_mem _ List.mem_cons_self)))))) | exact (List.mem_cons_of_mem _ (List.mem_cons_of_mem _ (List.mem_cons_of_mem _ (List.mem_cons_of_mem _ (List.mem_cons_of_mem _ (List.mem_cons_of_mem _ (List.mem_cons_of_mem _ List.mem_cons_self)))))))))) ?_
    repeat (refine A1 ⟨?_⟩; intros)
    refine WfT (ptake_pu s hco p a r d hr) ?_
    rintro _ _ ⟨rfl, rfl⟩
    simp only [List.cons_append, List.nil_append]
    repeat (refine A1 ⟨?_⟩; intros)
    exact endHR _ _ (end1 (RV.tmp rfl) (Le.refl _)) (List.Sublist.refl _) ⟨hk, rfl, rfl⟩
  · refine PuH.intro Tryz.func148 rfl (by kernel_rfl) fun C hC => ?_
    repeat (refine A1 ⟨?_⟩; intros)
    refine Wo (ov_callT c rfl (by (first | exact List.mem_cons_self | exact (List.mem_cons_of_mem _ List.mem_cons_self) | exact (List.mem_cons_of_mem _ (List.mem_cons_of_mem _ List.mem_cons_self)) | exact (List.mem_cons_of_mem _ (List.mem_cons_of_mem _ (List.mem_cons_of_mem _ List.mem_cons_self))) | exact (List.mem_cons_of_mem _ (List.mem_cons_of_mem _ (List.mem_cons_of_mem _ (List.mem_cons_of_mem _ List.mem_cons_self)))) | exact (List.mem_cons_of_mem _ (List.mem_cons_of_mem _ (List.mem_cons_of_mem _ (List.mem_cons_of_mem _ (List.mem_cons_of_mem _ List.mem_cons_self))))) | exact (List.mem_cons_of_mem _ (List.mem_cons_of_mem _ (List.mem_cons_of_mem _ (List.mem_cons_of_mem _ (List.mem_cons_of_mem _ (List.mem_cons_of_mem _ List.mem_cons_self)))))) | exact (List.mem_cons_of_mem _ (List.mem_cons_of_mem _ (List.mem_cons_of_mem _ (List.mem_cons_of_mem _ (List.mem_cons_of_mem _ (List.mem_cons_of_mem _ (List.mem_cons_of_mem _ List.mem_cons_self)))))))))) ?_
    repeat (refine A1 ⟨?_⟩; intros)
    refine WfX c3 ?_ ?_
    · rintro _ _ ⟨⟩
    · rintro _ _ hx
      rw [hC]
      exact ⟨hk, hx⟩
end Go.Ab
/- The parser of scripts, walked: coordinates. -/
namespace Go.Ab
open Go.Proofs
set_option linter.unusedSectionVars false
set_option linter.unusedVariables false
set_option linter.unusedSimpArgs false
variable [Base]
theorem GOk.num {a : Tok} {r : List Tok} (h : GOk (a :: r)) (hk : a.k = 2) : allD a.t ∧ a.t ≠ [] ∧ a.t.length ≤ 4096 := by
  obtain ⟨a', r', e, hg⟩ := h.cons
  cases e
  rcases hg with ⟨h, _⟩ | h | ⟨_, h⟩ | h
  · omega
  · omega
  · exact h
  · omega
theorem sgnT_ap (neg : Bool) (l : List UInt8) : sgnT neg [] ++ l = sgnT neg l := by cases neg <;> rfl
theorem sgn_mk (n : Nat) : (mkRat (sv false n) 1).num.sign = if n = 0 then 0 else 1 := by
  have e : mkRat (sv false n) 1 = ((n : Int) : Rat) := by rw [Rat.mkRat_one]; rfl
  rw [e, Rat.num_intCast]
  cases n with
  | zero => rfl
  | succ n => rfl
theorem gnum_k {a : Tok} {r : List Tok} (h : a.k = 2) : gnum (a :: r) = .ok (a.t, r) := if_pos h
theorem gnum_e {a : Tok} {r : List Tok} (h : a.k ≠ 2) : gnum (a :: r) = .error (ger 1 (a :: r)) := if_neg h
theorem gratS_ok {neg : Bool} {a : Tok} {r : List Tok} (hk : a.k = 2) (h47 : gis r [47] = false) : gratS neg (a :: r) = .ok (mkRat (sv neg (dcv a.t)) 1, r) := by
  rw [gratS, gnum_k hk]
  exact if_neg (fun h => by rw [h47] at h; cases h)
theorem gratS_e {neg : Bool} {a : Tok} {r : List Tok} (hk : a.k ≠ 2) : gratS neg (a :: r) = .error (ger 1 (a :: r)) := by
  rw [gratS, gnum_e hk]
theorem gratS_s {neg : Bool} {a b c : Tok} {r : List Tok} (hk : a.k = 2) (h47 : gis (b :: c :: r) [47] = true) : gratS neg (a :: b :: c :: r) = if c.k = 2 then (if dcv c.t = 0 then .error (ger 3 (c :: r)) else .ok (mkRat (sv neg (dcv a.t)) (dcv c.t), r)) else .error (ger 1 (c :: r)) := by
  rw [gratS, gnum_k hk]
  dsimp only
  rw [if_pos h47, List.tail_cons]
  by_cases hc : c.k = 2
  · rw [if_pos hc, gnum_k hc]
  · rw [if_neg hc, gnum_e hc]
set_option maxHeartbeats 4000000 in
theorem gratA_pu [Sent 4] [Sent 5] (s : SV) (hco : CO s [s]) (p : Nat) (neg : Bool) (ts ts2 : List Tok) (hG : GOk ts2) (d : Nat) (hr : ts2.length ≤ 1000000)
    (c : PuH Tryz.prog 208 [lit (.pointer (some ⟨p, 0, none⟩)), str [45]] [(p, psT, psC ts d s)] (fun v H => v = lit (.bool neg) ∧ H = [(p, psT, psC ts2 d s)]) noX) :
    PuH Tryz.prog 205 [lit (.pointer (some ⟨p, 0, none⟩))] [(p, psT, psC ts d s)] (fun v H => ∃ x ts', gratS neg ts2 = .ok (x, ts') ∧ v = q x ∧ H = [(p, psT, psC ts' d s)]) (fun pv _ => ∃ e, gratS neg ts2 = .error e ∧ pv = erSV e) := by
  obtain ⟨a, r, rfl, -⟩ := hG.cons
  simp only [List.length_cons] at hr
  have c1 := gnumber_pu s hco p a r d (by omega)
  have e1 := fun l h1 h2 h3 => rparse_i neg l h1 h2 h3
  have e2 := fun l r h1 h2 h3 h4 h5 h6 h7 => rparse_f neg l r h1 h2 h3 h4 h5 h6 h7
  cases neg <;>
  · refine PuH.intro Tryz.func205 rfl (by kernel_rfl) fun C hC => ?_
    repeat (refine A1 ⟨?_⟩; intros)
    refine WfT c ?_
    rintro _ _ ⟨rfl, rfl⟩
    simp only [List.cons_append, List.nil_append]
    repeat (refine A1 ⟨?_⟩; intros)
    refine WfX c1 ?_ ?_
    · rintro _ _ ⟨hk, rfl, rfl⟩
      simp only [List.cons_append, List.nil_append]
      obtain ⟨n1, n2, n3⟩ := hG.num hk
      replace hG := hG.tail (by omega)
      obtain ⟨b, r1, rfl, -⟩ := hG.cons
      simp only [List.length_cons] at hr
      repeat (refine A1 ⟨?_⟩; intros)
      first | refine Wo (ov_sadd (a := sgnT true []) (b := a.t) rfl rfl (by simp [sgnT]; omega)) ?_ | refine Wo (ov_sadd (a := sgnT false []) (b := a.t) rfl rfl (by simp [sgnT]; omega)) ?_
      rw [sgnT_ap]
      have c2 := gaccept_pu s hco p b r1 d (by omega) [47]
      cases h47 : gis (b :: r1) [47] with
      | false =>
        rw [h47, if_neg (by decide)] at c2
        have c3 := e1 a.t n1 n2 n3
        repeat (refine A1 ⟨?_⟩; intros)
        refine WfT c2 ?_
        rintro _ _ ⟨rfl, rfl⟩
        simp only [List.cons_append, List.nil_append]
        repeat (first | (refine A1 ⟨?_⟩; intros) | (refine Wcx (c3) ?_) | (refine Wdcx (c3) ?_) | (refine Wcgx (c3) ?_) | (refine Wdcgx (c3) ?_))
        exact endHR _ [(p, psT, psC (b :: r1) d s)] (end1 (RV.cellA rfl (by (first | exact List.mem_cons_self | exact (List.mem_cons_of_mem _ List.mem_cons_self) | exact (List.mem_cons_of_mem _ (List.mem_cons_of_mem _ List.mem_cons_self)) | exact (List.mem_cons_of_mem _ (List.mem_cons_of_mem _ (List.mem_cons_of_mem _ List.mem_cons_self))) | exact (List.mem_cons_of_mem _ (List.mem_cons_of_mem _ (List.mem_cons_of_mem _ (List.mem_cons_of_mem _ List.mem_cons_self)))) | exact (List.mem_cons_of_mem _ (List.mem_cons_of_mem _ (List.mem_cons_of_mem _ (List.mem_cons_of_mem _ (List.mem_cons_of_mem _ List.mem_cons_self))))) | exact (List.mem_cons_of_mem _ (List.mem_cons_of_mem _ (List.mem_cons_of_mem _ (List.mem_cons_of_mem _ (List.mem_cons_of_mem _ (List.mem_cons_of_mem _ List.mem_cons_self)))))) | exact (List.mem_cons_of_mem _ (List.mem_cons_of_mem _ (List.mem_cons_of_mem _ (List.mem_cons_of_mem _ (List.mem_cons_of_mem _ (List.mem_cons_of_mem _ (List.mem_cons_of_mem _ List.mem_cons_self))))))))) rfl rfl) (Le.refl _)) (by repeat (first | exact List.Sublist.refl _ | refine List.Sublist.cons _ ?_)) ⟨_, _, gratS_ok hk h47, rfl, rfl⟩
      | true =>
        obtain ⟨e, r2, rfl, -⟩ := (hG.next h47).cons
        replace hG := hG.next h47
        simp only [List.length_cons] at hr
        rw [h47, if_pos rfl] at c2
        have c4 := gnumber_pu s hco p e r2 d (by omega)
        repeat (refine A1 ⟨?_⟩; intros)
        refine WfT c2 ?_
        rintro _ _ ⟨rfl, rfl⟩
        simp only [List.cons_append, List.nil_append]
        repeat (refine A1 ⟨?_⟩; intros)
        refine WfX c4 ?_ ?_
        · rintro _ _ ⟨hk', rfl, rfl⟩
          obtain ⟨m1, m2, m3⟩ := hG.num hk'
          have c5 := rparse_i false e.t m1 m2 m3
          rw [show sgnT false e.t = e.t from rfl] at c5
          simp only [List.cons_append, List.nil_append]
          have c6 := rsign_pu (mkRat (sv false (dcv e.t)) 1) (by have := q_ht (neg := false) (n := dcv e.t) (d := 1) (dcv_len m1 m3) (by rw [dgs_one]; decide); omega)
          rw [sgn_mk] at c6
          by_cases h0 : dcv e.t = 0
          · rw [if_pos h0] at c6
            repeat (first | (refine A1 ⟨?_⟩; intros) | (refine Wcx (c5) ?_) | (refine Wdcx (c5) ?_) | (refine Wcgx (c5) ?_) | (refine Wdcgx (c5) ?_) | (refine Wcx (c6) ?_) | (refine Wdcx (c6) ?_) | (refine Wcgx (c6) ?_) | (refine Wdcgx (c6) ?_))
            refine WfX (gfail_pu s hco p e r2 d (by omega) 3) ?_ ?_
            · rintro _ _ ⟨⟩
            · rintro _ _ hx
              rw [hC]
              exact ⟨_, (gratS_s hk h47).trans ((if_pos hk').trans (if_pos h0)), hx⟩
          · rw [if_neg h0] at c6
            have c7 := e2 a.t e.t n1 n2 n3 m1 m2 m3 h0
            repeat (first | (refine A1 ⟨?_⟩; intros) | (refine Wcx (c5) ?_) | (refine Wdcx (c5) ?_) | (refine Wcgx (c5) ?_) | (refine Wdcgx (c5) ?_) | (refine Wcx (c6) ?_) | (refine Wdcx (c6) ?_) | (refine Wcgx (c6) ?_) | (refine Wdcgx (c6) ?_))
            refine Wo (ov_sadd (a := [47]) (b := e.t) rfl rfl (by simp; omega)) ?_
            refine Wo (ov_sadd (a := sgnT _ a.t) (b := [47] ++ e.t) rfl rfl (by simp [sgnT]; omega)) ?_
            repeat (first | (refine A1 ⟨?_⟩; intros) | (refine Wcx (c7) ?_) | (refine Wdcx (c7) ?_) | (refine Wcgx (c7) ?_) | (refine Wdcgx (c7) ?_))
            exact endHR _ [(p, psT, psC r2 d s)] (end1 (RV.cellA rfl (by (first | exact List.mem_cons_self | exact (List.mem_cons_of_mem _ List.mem_cons_self) | exact (List.mem_cons_of_mem _ (List.mem_cons_of_mem _ List.mem_cons_self)) | exact (List.mem_cons_of_mem _ (List.mem_cons_of_mem _ (List.mem_cons_of_mem _ List.mem_cons_self))) | exact (List.mem_cons_of_mem _ (List.mem_cons_of_mem _ (List.mem_cons_of_mem _ (List.mem_cons_of_mem _ List.mem_cons_self)))) | exact (List.mem_cons_of_mem _ (List.mem_cons_of_mem _ (List.mem_cons_of_mem _ (List.mem_cons_of_mem _ (List.mem_cons_of_mem _ List.mem_cons_self))))) | exact (List.mem_cons_of_mem _ (List.mem_cons_of_mem _ (List.mem_cons_of_mem _ (List.mem_cons_of_mem _ (List.mem_cons_of_mem _ (List.mem_cons_of_mem _ List.mem_cons_self)))))) | exact (List.mem_cons_of_mem _ (List.mem_cons_of_mem _ (List.mem_cons_of_mem _ (List.mem_cons_of_mem _ (List.mem_cons_of_mem _ (List.mem_cons_of_mem _ (List.mem_cons_of_mem _ List.mem_cons_self))))))))) rfl rfl) (Le.refl _)) (by repeat (first | exact List.Sublist.refl _ | refine List.Sublist.cons _ ?_)) ⟨_, _, (gratS_s hk h47).trans ((if_pos hk').trans (if_neg h0)), rfl, rfl⟩
        · rintro _ _ ⟨hk', hx⟩
          rw [hC]
          exact ⟨_, (gratS_s hk h47).trans (if_neg hk'), hx⟩
    · rintro _ _ ⟨hk, hx⟩
      rw [hC]
      exact ⟨_, gratS_e hk, hx⟩
theorem grational_pu [Sent 4] [Sent 5] (s : SV) (hco : CO s [s]) (p : Nat) (ts : List Tok) (hG : GOk ts) (d : Nat) (hr : ts.length ≤ 1000000) :
    PuH Tryz.prog 205 [lit (.pointer (some ⟨p, 0, none⟩))] [(p, psT, psC ts d s)] (fun v H => ∃ x ts', grat ts = .ok (x, ts') ∧ v = q x ∧ H = [(p, psT, psC ts' d s)]) (fun pv _ => ∃ e, grat ts = .error e ∧ pv = erSV e) := by
  obtain ⟨a, r, rfl, -⟩ := hG.cons
  have hr' := hr
  simp only [List.length_cons] at hr'
  have c := gaccept_pu s hco p a r d (by omega) [45]
  unfold grat
  cases h : gis (a :: r) [45] with
  | true =>
    rw [h, if_pos rfl] at c
    simp only [if_pos, List.tail_cons]
    exact gratA_pu s hco p true _ _ (hG.next h) d (by omega) c
  | false =>
    rw [h, if_neg (by decide)] at c
    simp only [Bool.false_eq_true, if_false]
    exact gratA_pu s hco p false _ _ hG d hr c
end Go.Ab
/- The parser of scripts, walked: a point. -/
namespace Go.Ab
open Go.Proofs
set_option linter.unusedSectionVars false
set_option linter.unusedVariables false
set_option linter.unusedSimpArgs false
variable [Base]
theorem gnum_ok {ts ts' : List Tok} {n : List UInt8} (hG : GOk ts) (h : gnum ts = .ok (n, ts')) : GOk ts' ∧ ts'.length + 1 = ts.length := by
  obtain ⟨a, r, rfl, -⟩ := hG.cons
  by_cases hk : a.k = 2
  · rw [gnum_k hk] at h
    cases h
    exact ⟨hG.tail (by omega), rfl⟩
  · rw [gnum_e hk] at h
    cases h
theorem gexpect_ok {ts ts' : List Tok} {w : List UInt8} (hG : GOk ts) (h : gexpect w ts = .ok ts') : GOk ts' ∧ ts'.length + 1 = ts.length := by
  obtain ⟨a, r, rfl, -⟩ := hG.cons
  unfold gexpect at h
  split at h
  · next hk =>
    cases h
    exact ⟨hG.next hk, rfl⟩
  · cases h
theorem gis_tl {ts : List Tok} {w : List UInt8} (hG : GOk ts) (h : gis ts w = true) : GOk ts.tail ∧ ts.tail.length + 1 = ts.length := by
  obtain ⟨a, r, rfl, -⟩ := hG.cons
  exact ⟨hG.next h, rfl⟩
theorem gratS_okL {neg : Bool} {ts ts' : List Tok} {x : Rat} (hG : GOk ts) (h : gratS neg ts = .ok (x, ts')) : GOk ts' ∧ ts'.length + 1 ≤ ts.length := by
  unfold gratS at h
  split at h
  · cases h
  · next n ts2 e1 =>
    have g1 := gnum_ok hG e1
    split at h
    · next h47 =>
      have g2 := gis_tl g1.1 h47
      split at h
      · cases h
      · next d ts3 e2 =>
        have g3 := gnum_ok g2.1 e2
        split at h
        · cases h
        · cases h
          exact ⟨g3.1, by omega⟩
    · cases h
      exact ⟨g1.1, by omega⟩
theorem grat_ok {ts ts' : List Tok} {x : Rat} (hG : GOk ts) (h : grat ts = .ok (x, ts')) : GOk ts' ∧ ts'.length + 1 ≤ ts.length := by
  unfold grat at h
  split at h
  · next hk =>
    have g := gis_tl hG hk
    have := gratS_okL g.1 h
    exact ⟨this.1, by omega⟩
  · exact gratS_okL hG h
theorem gpt_ok {ts ts' : List Tok} {x : Rat × Rat} (hG : GOk ts) (h : gpt ts = .ok (x, ts')) : GOk ts' ∧ ts'.length + 1 ≤ ts.length := by
  unfold gpt at h
  split at h
  · cases h
  · next t1 e1 =>
    have g1 := gexpect_ok hG e1
    split at h
    · cases h
    · next x t2 e2 =>
      have g2 := grat_ok g1.1 e2
      split at h
      · cases h
      · next t3 e3 =>
        have g3 := gexpect_ok g2.1 e3
        split at h
        · cases h
        · next y t4 e4 =>
          have g4 := grat_ok g3.1 e4
          split at h
          · cases h
          · next t5 e5 =>
            have g5 := gexpect_ok g4.1 e5
            cases h
            exact ⟨g5.1, by omega⟩
set_option maxHeartbeats 4000000 in
theorem gpoint_pu [Sent 4] [Sent 5] (s : SV) (hco : CO s [s]) (p : Nat) (ts : List Tok) (hG : GOk ts) (d : Nat) (hr : ts.length ≤ 1000000) :
    PuH Tryz.prog 146 [lit (.pointer (some ⟨p, 0, none⟩))] [(p, psT, psC ts d s)] (fun v H => ∃ x ts', gpt ts = .ok (x, ts') ∧ v = pq x.1 x.2 ∧ H = [(p, psT, psC ts' d s)]) (fun pv _ => ∃ e, gpt ts = .error e ∧ pv = erSV e) := by
  obtain ⟨a, r, rfl, -⟩ := hG.cons
  simp only [List.length_cons] at hr
  have c1 := gexpect_pu s hco p a r d (by omega) [40]
  refine PuH.intro Tryz.func146 rfl (by kernel_rfl) fun C hC => ?_
  repeat (refine A1 ⟨?_⟩; intros)
  refine WfX c1 ?_ ?_
  · rintro _ _ ⟨e1, h1, rfl, rfl⟩
    have g1 := hG.next h1
    clear hG c1 h1
    have c2 := grational_pu s hco p r g1 d (by omega)
    simp only [List.cons_append, List.nil_append]
    repeat (refine A1 ⟨?_⟩; intros)
    refine WfX c2 ?_ ?_
    · rintro _ _ ⟨x, t2, e2, rfl, rfl⟩
      have g2 := grat_ok g1 e2
      obtain ⟨b, r2, rfl, -⟩ := g2.1.cons
      clear c2 g1
      simp only [List.length_cons] at g2
      have c3 := gexpect_pu s hco p b r2 d (by omega) [44]
      simp only [List.cons_append, List.nil_append]
      repeat (refine A1 ⟨?_⟩; intros)
      refine WfX c3 ?_ ?_
      · rintro _ _ ⟨e3, h3, rfl, rfl⟩
        have g3 := g2.1.next h3
        replace g2 := g2.2
        clear h3 c3
        have c4 := grational_pu s hco p r2 g3 d (by omega)
        simp only [List.cons_append, List.nil_append]
        repeat (refine A1 ⟨?_⟩; intros)
        refine WfX c4 ?_ ?_
        · rintro _ _ ⟨y, t4, e4, rfl, rfl⟩
          have g4 := grat_ok g3 e4
          obtain ⟨b', r4, rfl, -⟩ := g4.1.cons
          simp only [List.length_cons] at g4
          replace g4 := g4.2
          clear c4 g3
          have c5 := gexpect_pu s hco p b' r4 d (by omega) [41]
          simp only [List.cons_append, List.nil_append]
          repeat (refine A1 ⟨?_⟩; intros)
          refine WfX c5 ?_ ?_
          · rintro _ _ ⟨e5, h5, rfl, rfl⟩
            simp only [List.cons_append, List.nil_append]
            repeat (refine A1 ⟨?_⟩; intros)
            exact endHR _ [(p, psT, psC r4 d s)] (end1 (RV.cellA rfl (by (first | exact List.mem_cons_self | exact (List.mem_cons_of_mem _ List.mem_cons_self) | exact (List.mem_cons_of_mem _ (List.mem_cons_of_mem _ List.mem_cons_self)) | exact (List.mem_cons_of_mem _ (List.mem_cons_of_mem _ (List.mem_cons_of_mem _ List.mem_cons_self))) | exact (List.mem_cons_of_mem _ (List.mem_cons_of_mem _ (List.mem_cons_of_mem _ (List.mem_cons_of_mem _ List.mem_cons_self)))) | exact (List.mem_cons_of_mem _ (List.mem_cons_of_mem _ (List.mem_cons_of_mem _ (List.mem_cons_of_mem _ (List.mem_cons_of_mem _ List.mem_cons_self))))) | exact (List.mem_cons_of_mem _ (List.mem_cons_of_mem _ (List.mem_cons_of_mem _ (List.mem_cons_of_mem _ (List.mem_cons_of_mem _ (List.mem_cons_of_mem _ List.mem_cons_self)))))) | exact (List.mem_cons_of_mem _ (List.mem_cons_of_mem _ (List.mem_cons_of_mem _ (List.mem_cons_of_mem _ (List.mem_cons_of_mem _ (List.mem_cons_of_mem _ (List.mem_cons_of_mem _ List.mem_cons_self))))))))) rfl rfl) (Le.refl _)) (by repeat (first | exact List.Sublist.refl _ | refine List.Sublist.cons _ ?_)) ⟨(x, y), r4, by simp only [gpt, e1, e2, e3, e4, e5], rfl, rfl⟩
          · rintro _ _ ⟨e5, hx⟩
            rw [hC]
            exact ⟨_, by simp only [gpt, e1, e2, e3, e4, e5], hx⟩
        · rintro _ _ ⟨e, e4, hx⟩
          rw [hC]
          exact ⟨_, by simp only [gpt, e1, e2, e3, e4], hx⟩
      · rintro _ _ ⟨e3, hx⟩
        rw [hC]
        exact ⟨_, by simp only [gpt, e1, e2, e3], hx⟩
    · rintro _ _ ⟨e, e2, hx⟩
      rw [hC]
      exact ⟨_, by simp only [gpt, e1, e2], hx⟩
  · rintro _ _ ⟨e1, hx⟩
    rw [hC]
    exact ⟨_, by simp only [gpt, e1], hx⟩
end Go.Ab
/- The plain grammar of expressions: what is left behind it. -/
namespace Go.Ab
open Go.Proofs
set_option linter.unusedSectionVars false
set_option linter.unusedVariables false
set_option linter.unusedSimpArgs false
variable [Base]
theorem gx_3 (f d i : Nat) (ts : List Tok) : gx (f + 1) 3 d i ts none = if gis ts [126] = true then
        (if 200 ≤ d then .error (ger 2 ts) else match gx f 3 (d + 1) i ts.tail none with
          | .ok (A, x, ts') => .ok (A ++ [ndU ((i + A.length : Nat) - 1) (hd ts)], .un (ndU ((i + A.length : Nat) - 1) (hd ts)) x, ts')
          | .error e => .error e)
      else if gis ts [40] = true then
        (if 200 ≤ d then .error (ger 2 ts) else match gx f 1 (d + 1) i ts.tail none with
          | .ok (A, x, ts') => if gis ts' [41] = true then .ok (A, x, ts'.tail) else .error (ger 1 ts')
          | .error e => .error e)
      else if gis ts wAll = true then .ok ([ndA 2 (hd ts)], .leaf (ndA 2 (hd ts)), ts.tail)
      else if gis ts wNone = true then .ok ([ndA 3 (hd ts)], .leaf (ndA 3 (hd ts)), ts.tail)
      else if gis ts wHalf = true then (match gpt ts.tail with
        | .error e => .error e
        | .ok (p, t1) => match gpt t1 with
          | .error e => .error e
          | .ok (q, t2) => .ok ([ndH p q (hd ts)], .leaf (ndH p q (hd ts)), t2))
      else if (hd ts).k = 1 ∧ resv (hd ts).t = false then .ok ([ndN (hd ts)], .leaf (ndN (hd ts)), ts.tail)
      else .error (ger 1 ts) := rfl
theorem gx_lv {f lv d i : Nat} {ts : List Tok} (h : lv ≠ 3) : gx (f + 1) lv d i ts none = match gx f (lv + 1) d i ts none with
      | .ok (A, x, ts') => gx f lv d i ts' (some (A, x))
      | .error e => .error e := by
  conv => lhs; unfold gx
  rw [if_neg h]
  rfl
theorem gx_some (f lv d i : Nat) (ts : List Tok) (A : List Nd) (x : Ex) : gx (f + 1) lv d i ts (some (A, x)) = if gop lv ts = 0 then .ok (A, x, ts)
    else match gx f (lv + 1) d (i + A.length) ts.tail none with
      | .ok (B, y, ts') => gx f lv d i ts' (some (A ++ B ++ [ndB (gop lv ts) ((i + A.length : Nat) - 1) ((i + A.length + B.length : Nat) - 1) (hd ts)], .bi (ndB (gop lv ts) ((i + A.length : Nat) - 1) ((i + A.length + B.length : Nat) - 1) (hd ts)) x y))
      | .error e => .error e := rfl
theorem gx_len : ∀ (f lv d i : Nat) (ts : List Tok) (acc : Option (List Nd × Ex)) (A : List Nd) (x : Ex) (ts' : List Tok), GOk ts → gx f lv d i ts acc = .ok (A, x, ts') → GOk ts' ∧ A.length + ts'.length ≤ ts.length + (match acc with
      | some (A0, _) => A0.length
      | none => 0) ∧ ts'.length + (if acc.isNone then 1 else 0) ≤ ts.length := by
  intro f
  induction f with
  | zero => intro lv d i ts acc A x ts' _ h; unfold gx at h; cases h
  | succ f ih =>
    intro lv d i ts acc A x ts' hG h
    cases acc with
    | none =>
      simp only [Option.isNone_none, if_true]
      by_cases l3 : lv = 3
      · subst l3
        rw [gx_3] at h
        have leafc : ∀ n : Nd, GOk ts.tail → ts.tail.length + 1 = ts.length → (A, x, ts') = ([n], Ex.leaf n, ts.tail) → GOk ts' ∧ A.length + ts'.length ≤ ts.length + 0 ∧ ts'.length + 1 ≤ ts.length := fun n hg hn e => by
          simp only [Prod.mk.injEq] at e
          obtain ⟨rfl, rfl, rfl⟩ := e
          simp only [List.length_cons, List.length_nil]
          exact ⟨hg, by omega, by omega⟩
        by_cases c1 : gis ts [126] = true
        · rw [if_pos c1] at h
          have tl := gis_tl hG c1
          split at h
          · cases h
          · cases hp : gx f 3 (d + 1) i ts.tail none with
            | error e => rw [hp] at h; cases h
            | ok q =>
              obtain ⟨A1, x1, t1⟩ := q
              rw [hp] at h
              simp only [Except.ok.injEq, Prod.mk.injEq] at h
              obtain ⟨rfl, rfl, rfl⟩ := h
              have := ih 3 _ _ _ _ _ _ _ tl.1 hp
              simp only [Option.isNone_none, if_true, List.length_append, List.length_singleton] at this ⊢
              exact ⟨this.1, by omega, by omega⟩
        rw [if_neg c1] at h
        by_cases c2 : gis ts [40] = true
        · rw [if_pos c2] at h
          have tl := gis_tl hG c2
          split at h
          · cases h
          · cases hp : gx f 1 (d + 1) i ts.tail none with
            | error e => rw [hp] at h; cases h
            | ok q =>
              obtain ⟨A1, x1, t1⟩ := q
              rw [hp] at h
              simp only at h
              have := ih 1 _ _ _ _ _ _ _ tl.1 hp
              simp only [Option.isNone_none, if_true] at this
              by_cases c3 : gis t1 [41] = true
              · rw [if_pos c3] at h
                have tl2 := gis_tl this.1 c3
                simp only [Except.ok.injEq, Prod.mk.injEq] at h
                obtain ⟨rfl, rfl, rfl⟩ := h
                exact ⟨tl2.1, by omega, by omega⟩
              · rw [if_neg c3] at h; cases h
        rw [if_neg c2] at h
        by_cases c3 : gis ts wAll = true
        · rw [if_pos c3] at h; exact leafc _ (gis_tl hG c3).1 (gis_tl hG c3).2 (Except.ok.inj h).symm
        rw [if_neg c3] at h
        by_cases c4 : gis ts wNone = true
        · rw [if_pos c4] at h; exact leafc _ (gis_tl hG c4).1 (gis_tl hG c4).2 (Except.ok.inj h).symm
        rw [if_neg c4] at h
        by_cases c5 : gis ts wHalf = true
        · rw [if_pos c5] at h
          have tl := gis_tl hG c5
          cases e1 : gpt ts.tail with
          | error e => rw [e1] at h; cases h
          | ok q =>
            obtain ⟨p, t1⟩ := q
            rw [e1] at h
            simp only at h
            have g1 := gpt_ok tl.1 e1
            cases e2 : gpt t1 with
            | error e => rw [e2] at h; cases h
            | ok q =>
              obtain ⟨p2, t2⟩ := q
              rw [e2] at h
              have g2 := gpt_ok g1.1 e2
              simp only [Except.ok.injEq, Prod.mk.injEq] at h
              obtain ⟨rfl, rfl, rfl⟩ := h
              exact ⟨g2.1, by simp only [List.length_singleton]; omega, by omega⟩
        rw [if_neg c5] at h
        by_cases c6 : (hd ts).k = 1 ∧ resv (hd ts).t = false
        · rw [if_pos c6] at h
          obtain ⟨a, r, rfl, -⟩ := hG.cons
          exact leafc _ (hG.tail (by have : a.k = 1 := c6.1; omega)) rfl (Except.ok.inj h).symm
        rw [if_neg c6] at h; cases h
      · rw [gx_lv l3] at h
        cases hp : gx f (lv + 1) d i ts none with
        | error e => rw [hp] at h; cases h
        | ok q =>
          obtain ⟨A1, x1, t1⟩ := q
          rw [hp] at h
          simp only at h
          have h4 := ih (lv + 1) _ _ _ _ _ _ _ hG hp
          have h5 := ih lv _ _ _ _ _ _ _ h4.1 h
          simp only [Option.isNone_none, if_true, Option.isNone_some] at h4 h5
          exact ⟨h5.1, by omega, by omega⟩
    | some q =>
      obtain ⟨A0, x0⟩ := q
      rw [gx_some] at h
      simp only [Option.isNone_some]
      by_cases ho : gop lv ts = 0
      · rw [if_pos ho] at h
        simp only [Except.ok.injEq, Prod.mk.injEq] at h
        obtain ⟨rfl, rfl, rfl⟩ := h
        exact ⟨hG, by omega, by simp⟩
      · rw [if_neg ho] at h
        obtain ⟨a, r, rfl, -⟩ := hG.cons
        have hG' := hG.tail (gop_ne ho).1
        simp only [List.tail_cons] at h
        cases hp : gx f (lv + 1) d (i + A0.length) r none with
        | error e => rw [hp] at h; cases h
        | ok q =>
          obtain ⟨B, y, t1⟩ := q
          rw [hp] at h
          simp only at h
          have h4 := ih (lv + 1) _ _ _ _ _ _ _ hG' hp
          have h5 := ih lv _ _ _ _ _ _ _ h4.1 h
          simp only [Option.isNone_none, if_true, Option.isNone_some, List.length_append, List.length_nil, List.length_cons] at h4 h5 ⊢
          exact ⟨h5.1, by omega, by have := h5.2.2; simp at this ⊢; omega⟩
end Go.Ab
