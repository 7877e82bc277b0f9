/- Texts laid one behind the other: GPY, GPZ. -/
import Derived.Test.YtebghnhocigmlaaGreatDoorB17
import Derived.Test.YtebghnhocigmlaaGreatDoorB21
import Derived.Test.YtebghnhocigmlaaGreatDoorB13
import Derived.Test.YtebghnhocigmlaaGreatDoorParseZ
/- The parser of scripts, walked: nested parts, operators, the levels of expressions. -/
namespace Go.Ab
open Go.Proofs
set_option linter.unusedSectionVars false
set_option linter.unusedVariables false
set_option linter.unusedSimpArgs false
variable [Base]
def GvR (p f lv d : Nat) (ts : List Tok) (ns : List Nd) : SV → LH → Prop := fun v H' => ∃ A x ts', gx f lv d ns.length ts none = .ok (A, x, ts') ∧ v = lit (.int .i64 ((ns.length + A.length : Nat) - 1)) ∧ Ps p ts' d (ns ++ A) H'
def GvX (f lv d : Nat) (ts : List Tok) (ns : List Nd) : SV → LH → Prop := fun pv _ => ∃ e, gx f lv d ns.length ts none = .error e ∧ pv = erSV e
/-- what a level's function does -/
def GLv (fn : FuncId) (p f lv : Nat) : Prop := ∀ (ts : List Tok) (d : Nat) (ns : List Nd) (H : LH), GOk ts → d ≤ 200 → ns.length + ts.length ≤ 100000 → 8 * ts.length + 7 ≤ f + 2 * lv → Ps p ts d ns H → PuH Tryz.prog fn [ptrP p] H (GvR p f lv d ts ns) (GvX f lv d ts ns)
theorem gnested_pu [Sent 3] (fn : FuncId) (p f lv : Nat) (a : Tok) (r : List Tok) (d : Nat) (ns : List Nd) (H : LH) (hd : d ≤ 200) (hr : ns.length + r.length ≤ 100000) (h : Ps p (a :: r) d ns H)
    (hin : d < 200 → ∀ H1, Ps p r (d + 1) ns H1 → PuH Tryz.prog fn [ptrP p] H1 (GvR p f lv (d + 1) r ns) (GvX f lv (d + 1) r ns)) :
    PuH Tryz.prog 307 [ptrP p, fnv fn [ptrP p] []] H (fun v H' => d < 200 ∧ ∃ A x ts', gx f lv (d + 1) ns.length r none = .ok (A, x, ts') ∧ v = lit (.int .i64 ((ns.length + A.length : Nat) - 1)) ∧ Ps p ts' d (ns ++ A) H')
      (fun pv _ => (200 ≤ d ∧ pv = erSV (ger 2 (a :: r))) ∨ (d < 200 ∧ ∃ e, gx f lv (d + 1) ns.length r none = .error e ∧ pv = erSV e)) := by
  obtain ⟨s, Hs, hown, rfl⟩ := h
  have hco := hown.co
  by_cases h200 : 200 ≤ d
  · clear hin
    refine PuH.intro Tryz.func307 rfl (by kernel_rfl) fun C hC => ?_
    repeat (refine A1 ⟨?_⟩; intros)
    refine WfX (gfail_pu s hco p a r d (by omega) 2) ?_ ?_
    · rintro _ _ ⟨⟩
    · rintro _ _ hx
      rw [hC]
      exact .inl ⟨h200, hx⟩
  · replace hin := hin (by omega)
    refine PuH.intro Tryz.func307 rfl (by kernel_rfl) fun C hC => ?_
    repeat (refine A1 ⟨?_⟩; intros)
    refine WfT (ptake_pu s hco p a r d (by omega)) ?_
    rintro _ _ ⟨rfl, rfl⟩
    refine WPL.perm List.perm_append_comm ?_
    simp only [List.cons_append, List.nil_append]
    repeat (refine A1 ⟨?_⟩; intros)
    refine WvX (hin _ ⟨s, Hs, hown, rfl⟩) ?_ ?_ (Tk.same _)
    · rintro _ _ ⟨A, x, ts', hp, rfl, s1, H1, hown1, rfl⟩
      have hco1 := hown1.co
      simp only [List.cons_append, List.nil_append]
      clear hin
      repeat (refine A1 ⟨?_⟩; intros)
      exact endHR _ _ (end1 (RV.tmp rfl) (Le.refl _)) (List.Sublist.refl _) ⟨by omega, A, x, ts', hp, rfl, s1, H1, hown1, by rw [show ((d + 1 : Nat) : Int) - 1 = (d : Int) by omega]⟩
    · rintro _ _ ⟨e, hp, hx⟩
      rw [hC]
      exact .inr ⟨by omega, e, hp, hx⟩
theorem gsum1_pu (p b : Nat) (a : Tok) (r : List Tok) (d : Nat) (s : SV) (hco : CO s [s]) (Hs : LH) (hr : r.length ≤ 1000000) :
    PuH Tryz.prog 200 [ptrP b] ((b, bxT, [ptrP p]) :: (p, psT, psC (a :: r) d s) :: Hs) (fun v H => v = lit (.int .i64 (gop 1 (a :: r))) ∧ H = (b, bxT, [ptrP p]) :: (p, psT, psC (a :: r) d s) :: Hs) noX := by
  have c1 := gis_pu s hco a r d hr [43]
  have c2 := gis_pu s hco a r d hr [45]
  have c3 := gis_pu s hco a r d hr [94]
  unfold gop
  rw [if_pos rfl]
  cases h1 : gis (a :: r) [43] with
  | true =>
    rw [h1] at c1
    refine PuH.intro Tryz.func200 rfl (by kernel_rfl) fun C hC => ?_
    repeat (refine A1 ⟨?_⟩; intros)
    refine Wo (ov_callT c1 rfl (by (first | exact List.mem_cons_self | exact (List.mem_cons_of_mem _ List.mem_cons_self) | exact (List.mem_cons_of_mem _ (List.mem_cons_of_mem _ List.mem_cons_self)) | exact (List.mem_cons_of_mem _ (List.mem_cons_of_mem _ (List.mem_cons_of_mem _ List.mem_cons_self))) | exact (List.mem_cons_of_mem _ (List.mem_cons_of_mem _ (List.mem_cons_of_mem _ (List.mem_cons_of_mem _ List.mem_cons_self)))) | exact (List.mem_cons_of_mem _ (List.mem_cons_of_mem _ (List.mem_cons_of_mem _ (List.mem_cons_of_mem _ (List.mem_cons_of_mem _ List.mem_cons_self))))) | exact (List.mem_cons_of_mem _ (List.mem_cons_of_mem _ (List.mem_cons_of_mem _ (List.mem_cons_of_mem _ (List.mem_cons_of_mem _ (List.mem_cons_of_mem _ List.mem_cons_self)))))) | exact (List.mem_cons_of_mem _ (List.mem_cons_of_mem _ (List.mem_cons_of_mem _ (List.mem_cons_of_mem _ (List.mem_cons_of_mem _ (List.mem_cons_of_mem _ (List.mem_cons_of_mem _ List.mem_cons_self)))))))))) ?_
    repeat (refine A1 ⟨?_⟩; intros)
    exact endHR _ _ (end1 (RV.tmp rfl) (Le.refl _)) (List.Sublist.refl _) ⟨rfl, rfl⟩
  | false =>
    rw [h1] at c1
    cases h2 : gis (a :: r) [45] with
    | true =>
      rw [h2] at c2
      refine PuH.intro Tryz.func200 rfl (by kernel_rfl) fun C hC => ?_
      repeat (refine A1 ⟨?_⟩; intros)
      refine Wo (ov_callT c1 rfl (by (first | exact List.mem_cons_self | exact (List.mem_cons_of_mem _ List.mem_cons_self) | exact (List.mem_cons_of_mem _ (List.mem_cons_of_mem _ List.mem_cons_self)) | exact (List.mem_cons_of_mem _ (List.mem_cons_of_mem _ (List.mem_cons_of_mem _ List.mem_cons_self))) | exact (List.mem_cons_of_mem _ (List.mem_cons_of_mem _ (List.mem_cons_of_mem _ (List.mem_cons_of_mem _ List.mem_cons_self)))) | exact (List.mem_cons_of_mem _ (List.mem_cons_of_mem _ (List.mem_cons_of_mem _ (List.mem_cons_of_mem _ (List.mem_cons_of_mem _ List.mem_cons_self))))) | exact (List.mem_cons_of_mem _ (List.mem_cons_of_mem _ (List.mem_cons_of_mem _ (List.mem_cons_of_mem _ (List.mem_cons_of_mem _ (List.mem_cons_of_mem _ List.mem_cons_self)))))) | exact (List.mem_cons_of_mem _ (List.mem_cons_of_mem _ (List.mem_cons_of_mem _ (List.mem_cons_of_mem _ (List.mem_cons_of_mem _ (List.mem_cons_of_mem _ (List.mem_cons_of_mem _ List.mem_cons_self)))))))))) ?_
      repeat (refine A1 ⟨?_⟩; intros)
      refine Wo (ov_callT c2 rfl (by (first | exact List.mem_cons_self | exact (List.mem_cons_of_mem _ List.mem_cons_self) | exact (List.mem_cons_of_mem _ (List.mem_cons_of_mem _ List.mem_cons_self)) | exact (List.mem_cons_of_mem _ (List.mem_cons_of_mem _ (List.mem_cons_of_mem _ List.mem_cons_self))) | exact (List.mem_cons_of_mem _ (List.mem_cons_of_mem _ (List.mem_cons_of_mem _ (List.mem_cons_of_mem _ List.mem_cons_self)))) | exact (List.mem_cons_of_mem _ (List.mem_cons_of_mem _ (List.mem_cons_of_mem _ (List.mem_cons_of_mem _ (List.mem_cons_of_mem _ List.mem_cons_self))))) | exact (List.mem_cons_of_mem _ (List.mem_cons_of_mem _ (List.mem_cons_of_mem _ (List.mem_cons_of_mem _ (List.mem_cons_of_mem _ (List.mem_cons_of_mem _ List.mem_cons_self)))))) | exact (List.mem_cons_of_mem _ (List.mem_cons_of_mem _ (List.mem_cons_of_mem _ (List.mem_cons_of_mem _ (List.mem_cons_of_mem _ (List.mem_cons_of_mem _ (List.mem_cons_of_mem _ List.mem_cons_self)))))))))) ?_
      repeat (refine A1 ⟨?_⟩; intros)
      exact endHR _ _ (end1 (RV.tmp rfl) (Le.refl _)) (List.Sublist.refl _) ⟨rfl, rfl⟩
    | false =>
      rw [h2] at c2
      cases h3 : gis (a :: r) [94] with
      | true =>
        rw [h3] at c3
        refine PuH.intro Tryz.func200 rfl (by kernel_rfl) fun C hC => ?_
        repeat (refine A1 ⟨?_⟩; intros)
        refine Wo (ov_callT c1 rfl (by (first | exact List.mem_cons_self | exact (List.mem_cons_of_mem _ List.mem_cons_self) | exact (List.mem_cons_of_mem _ (List.mem_cons_of_mem _ List.mem_cons_self)) | exact (List.mem_cons_of_mem _ (List.mem_cons_of_mem _ (List.mem_cons_of_mem _ List.mem_cons_self))) | exact (List.mem_cons_of_mem _ (List.mem_cons_of_mem _ (List.mem_cons_of_mem _ (List.mem_cons_of_mem _ List.mem_cons_self)))) | exact (List.mem_cons_of_mem _ (List.mem_cons_of_mem _ (List.mem_cons_of_mem _ (List.mem_cons_of_mem _ (List.mem_cons_of_mem _ List.mem_cons_self))))) | exact (List.mem_cons_of_mem _ (List.mem_cons_of_mem _ (List.mem_cons_of_mem _ (List.mem_cons_of_mem _ (List.mem_cons_of_mem _ (List.mem_cons_of_mem _ List.mem_cons_self)))))) | exact (List.mem_cons_of_mem _ (List.mem_cons_of_mem _ (List.mem_cons_of_mem _ (List.mem_cons_of_mem _ (List.mem_cons_of_mem _ (List.mem_cons_of_mem _ (List.mem_cons_of_mem _ List.mem_cons_self)))))))))) ?_
        repeat (refine A1 ⟨?_⟩; intros)
        refine Wo (ov_callT c2 rfl (by (first | exact List.mem_cons_self | exact (List.mem_cons_of_mem _ List.mem_cons_self) | exact (List.mem_cons_of_mem _ (List.mem_cons_of_mem _ List.mem_cons_self)) | exact (List.mem_cons_of_mem _ (List.mem_cons_of_mem _ (List.mem_cons_of_mem _ List.mem_cons_self))) | exact (List.mem_cons_of_mem _ (List.mem_cons_of_mem _ (List.mem_cons_of_mem _ (List.mem_cons_of_mem _ List.mem_cons_self)))) | exact (List.mem_cons_of_mem _ (List.mem_cons_of_mem _ (List.mem_cons_of_mem _ (List.mem_cons_of_mem _ (List.mem_cons_of_mem _ List.mem_cons_self))))) | exact (List.mem_cons_of_mem _ (List.mem_cons_of_mem _ (List.mem_cons_of_mem _ (List.mem_cons_of_mem _ (List.mem_cons_of_mem _ (List.mem_cons_of_mem _ List.mem_cons_self)))))) | exact (List.mem_cons_of_mem _ (List.mem_cons_of_mem _ (List.mem_cons_of_mem _ (List.mem_cons_of_mem _ (List.mem_cons_of_mem _ (List.mem_cons_of_mem _ (List.mem_cons_of_mem _ List.mem_cons_self)))))))))) ?_
        repeat (refine A1 ⟨?_⟩; intros)
        refine Wo (ov_callT c3 rfl (by (first | exact List.mem_cons_self | exact (List.mem_cons_of_mem _ List.mem_cons_self) | exact (List.mem_cons_of_mem _ (List.mem_cons_of_mem _ List.mem_cons_self)) | exact (List.mem_cons_of_mem _ (List.mem_cons_of_mem _ (List.mem_cons_of_mem _ List.mem_cons_self))) | exact (List.mem_cons_of_mem _ (List.mem_cons_of_mem _ (List.mem_cons_of_mem _ (List.mem_cons_of_mem _ List.mem_cons_self)))) | exact (List.mem_cons_of_mem _ (List.mem_cons_of_mem _ (List.mem_cons_of_mem _ (List.mem_cons_of_mem _ (List.mem_cons_of_mem _ List.mem_cons_self))))) | exact (List.mem_cons_of_mem _ (List.mem_cons_of_mem _ (List.mem_cons_of_mem _ (List.mem_cons_of_mem _ (List.mem_cons_of_mem _ (List.mem_cons_of_mem _ List.mem_cons_self)))))) | exact (List.mem_cons_of_mem _ (List.mem_cons_of_mem _ (List.mem_cons_of_mem _ (List.mem_cons_of_mem _ (List.mem_cons_of_mem _ (List.mem_cons_of_mem _ (List.mem_cons_of_mem _ List.mem_cons_self)))))))))) ?_
        repeat (refine A1 ⟨?_⟩; intros)
        exact endHR _ _ (end1 (RV.tmp rfl) (Le.refl _)) (List.Sublist.refl _) ⟨rfl, rfl⟩
      | false =>
        rw [h3] at c3
        refine PuH.intro Tryz.func200 rfl (by kernel_rfl) fun C hC => ?_
        repeat (refine A1 ⟨?_⟩; intros)
        refine Wo (ov_callT c1 rfl (by (first | exact List.mem_cons_self | exact (List.mem_cons_of_mem _ List.mem_cons_self) | exact (List.mem_cons_of_mem _ (List.mem_cons_of_mem _ List.mem_cons_self)) | exact (List.mem_cons_of_mem _ (List.mem_cons_of_mem _ (List.mem_cons_of_mem _ List.mem_cons_self))) | exact (List.mem_cons_of_mem _ (List.mem_cons_of_mem _ (List.mem_cons_of_mem _ (List.mem_cons_of_mem _ List.mem_cons_self)))) | exact (List.mem_cons_of_mem _ (List.mem_cons_of_mem _ (List.mem_cons_of_mem _ (List.mem_cons_of_mem _ (List.mem_cons_of_mem _ List.mem_cons_self))))) | exact (List.mem_cons_of_mem _ (List.mem_cons_of_mem _ (List.mem_cons_of_mem _ (List.mem_cons_of_mem _ (List.mem_cons_of_mem _ (List.mem_cons_of_mem _ List.mem_cons_self)))))) | exact (List.mem_cons_of_mem _ (List.mem_cons_of_mem _ (List.mem_cons_of_mem _ (List.mem_cons_of_mem _ (List.mem_cons_of_mem _ (List.mem_cons_of_mem _ (List.mem_cons_of_mem _ List.mem_cons_self)))))))))) ?_
        repeat (refine A1 ⟨?_⟩; intros)
        refine Wo (ov_callT c2 rfl (by (first | exact List.mem_cons_self | exact (List.mem_cons_of_mem _ List.mem_cons_self) | exact (List.mem_cons_of_mem _ (List.mem_cons_of_mem _ List.mem_cons_self)) | exact (List.mem_cons_of_mem _ (List.mem_cons_of_mem _ (List.mem_cons_of_mem _ List.mem_cons_self))) | exact (List.mem_cons_of_mem _ (List.mem_cons_of_mem _ (List.mem_cons_of_mem _ (List.mem_cons_of_mem _ List.mem_cons_self)))) | exact (List.mem_cons_of_mem _ (List.mem_cons_of_mem _ (List.mem_cons_of_mem _ (List.mem_cons_of_mem _ (List.mem_cons_of_mem _ List.mem_cons_self))))) | exact (List.mem_cons_of_mem _ (List.mem_cons_of_mem _ (List.mem_cons_of_mem _ (List.mem_cons_of_mem _ (List.mem_cons_of_mem _ (List.mem_cons_of_mem _ List.mem_cons_self)))))) | exact (List.mem_cons_of_mem _ (List.mem_cons_of_mem _ (List.mem_cons_of_mem _ (List.mem_cons_of_mem _ (List.mem_cons_of_mem _ (List.mem_cons_of_mem _ (List.mem_cons_of_mem _ List.mem_cons_self)))))))))) ?_
        repeat (refine A1 ⟨?_⟩; intros)
        refine Wo (ov_callT c3 rfl (by (first | exact List.mem_cons_self | exact (List.mem_cons_of_mem _ List.mem_cons_self) | exact (List.mem_cons_of_mem _ (List.mem_cons_of_mem _ List.mem_cons_self)) | exact (List.mem_cons_of_mem _ (List.mem_cons_of_mem _ (List.mem_cons_of_mem _ List.mem_cons_self))) | exact (List.mem_cons_of_mem _ (List.mem_cons_of_mem _ (List.mem_cons_of_mem _ (List.mem_cons_of_mem _ List.mem_cons_self)))) | exact (List.mem_cons_of_mem _ (List.mem_cons_of_mem _ (List.mem_cons_of_mem _ (List.mem_cons_of_mem _ (List.mem_cons_of_mem _ List.mem_cons_self))))) | exact (List.mem_cons_of_mem _ (List.mem_cons_of_mem _ (List.mem_cons_of_mem _ (List.mem_cons_of_mem _ (List.mem_cons_of_mem _ (List.mem_cons_of_mem _ List.mem_cons_self)))))) | exact (List.mem_cons_of_mem _ (List.mem_cons_of_mem _ (List.mem_cons_of_mem _ (List.mem_cons_of_mem _ (List.mem_cons_of_mem _ (List.mem_cons_of_mem _ (List.mem_cons_of_mem _ List.mem_cons_self)))))))))) ?_
        repeat (refine A1 ⟨?_⟩; intros)
        exact endHR _ _ (end1 (RV.tmp rfl) (Le.refl _)) (List.Sublist.refl _) ⟨rfl, rfl⟩
theorem gprod1_pu (p b : Nat) (a : Tok) (r : List Tok) (d : Nat) (s : SV) (hco : CO s [s]) (Hs : LH) (hr : r.length ≤ 1000000) :
    PuH Tryz.prog 254 [ptrP b] ((b, bxT, [ptrP p]) :: (p, psT, psC (a :: r) d s) :: Hs) (fun v H => v = lit (.int .i64 (gop 2 (a :: r))) ∧ H = (b, bxT, [ptrP p]) :: (p, psT, psC (a :: r) d s) :: Hs) noX := by
  have c1 := gis_pu s hco a r d hr [42]
  unfold gop
  rw [if_neg (by decide)]
  cases h1 : gis (a :: r) [42] with
  | true =>
    rw [h1] at c1
    refine PuH.intro Tryz.func254 rfl (by kernel_rfl) fun C hC => ?_
    repeat (refine A1 ⟨?_⟩; intros)
    refine Wo (ov_callT c1 rfl (by (first | exact List.mem_cons_self | exact (List.mem_cons_of_mem _ List.mem_cons_self) | exact (List.mem_cons_of_mem _ (List.mem_cons_of_mem _ List.mem_cons_self)) | exact (List.mem_cons_of_mem _ (List.mem_cons_of_mem _ (List.mem_cons_of_mem _ List.mem_cons_self))) | exact (List.mem_cons_of_mem _ (List.mem_cons_of_mem _ (List.mem_cons_of_mem _ (List.mem_cons_of_mem _ List.mem_cons_self)))) | exact (List.mem_cons_of_mem _ (List.mem_cons_of_mem _ (List.mem_cons_of_mem _ (List.mem_cons_of_mem _ (List.mem_cons_of_mem _ List.mem_cons_self))))) | exact (List.mem_cons_of_mem _ (List.mem_cons_of_mem _ (List.mem_cons_of_mem _ (List.mem_cons_of_mem _ (List.mem_cons_of_mem _ (List.mem_cons_of_mem _ List.mem_cons_self)))))) | exact (List.mem_cons_of_mem _ (List.mem_cons_of_mem _ (List.mem_cons_of_mem _ (List.mem_cons_of_mem _ (List.mem_cons_of_mem _ (List.mem_cons_of_mem _ (List.mem_cons_of_mem _ List.mem_cons_self)))))))))) ?_
    repeat (refine A1 ⟨?_⟩; intros)
    exact endHR _ _ (end1 (RV.tmp rfl) (Le.refl _)) (List.Sublist.refl _) ⟨rfl, rfl⟩
  | false =>
    rw [h1] at c1
    refine PuH.intro Tryz.func254 rfl (by kernel_rfl) fun C hC => ?_
    repeat (refine A1 ⟨?_⟩; intros)
    refine Wo (ov_callT c1 rfl (by (first | exact List.mem_cons_self | exact (List.mem_cons_of_mem _ List.mem_cons_self) | exact (List.mem_cons_of_mem _ (List.mem_cons_of_mem _ List.mem_cons_self)) | exact (List.mem_cons_of_mem _ (List.mem_cons_of_mem _ (List.mem_cons_of_mem _ List.mem_cons_self))) | exact (List.mem_cons_of_mem _ (List.mem_cons_of_mem _ (List.mem_cons_of_mem _ (List.mem_cons_of_mem _ List.mem_cons_self)))) | exact (List.mem_cons_of_mem _ (List.mem_cons_of_mem _ (List.mem_cons_of_mem _ (List.mem_cons_of_mem _ (List.mem_cons_of_mem _ List.mem_cons_self))))) | exact (List.mem_cons_of_mem _ (List.mem_cons_of_mem _ (List.mem_cons_of_mem _ (List.mem_cons_of_mem _ (List.mem_cons_of_mem _ (List.mem_cons_of_mem _ List.mem_cons_self)))))) | exact (List.mem_cons_of_mem _ (List.mem_cons_of_mem _ (List.mem_cons_of_mem _ (List.mem_cons_of_mem _ (List.mem_cons_of_mem _ (List.mem_cons_of_mem _ (List.mem_cons_of_mem _ List.mem_cons_self)))))))))) ?_
    repeat (refine A1 ⟨?_⟩; intros)
    exact endHR _ _ (end1 (RV.tmp rfl) (Le.refl _)) (List.Sublist.refl _) ⟨rfl, rfl⟩
end Go.Ab
/- The parser of scripts, walked: sums and products. -/
namespace Go.Ab
open Go.Proofs
set_option linter.unusedSectionVars false
set_option linter.unusedVariables false
set_option linter.unusedSimpArgs false
variable [Base]
set_option maxHeartbeats 4000000 in
theorem gbinary_pu (fo fops : FuncId) (p b f lv : Nat) (hlv : lv = 1 ∨ lv = 2)
    (hops : ∀ (a : Tok) (r : List Tok) (d : Nat) (s : SV) (Hs : LH), CO s [s] → r.length ≤ 1000000 → PuH Tryz.prog fops [ptrP b] ((b, bxT, [ptrP p]) :: (p, psT, psC (a :: r) d s) :: Hs) (fun v H => v = lit (.int .i64 (gop lv (a :: r))) ∧ H = (b, bxT, [ptrP p]) :: (p, psT, psC (a :: r) d s) :: Hs) noX)
    (hopd : ∀ f', f' ≤ f → GLv fo p f' (lv + 1)) (ts : List Tok) (d : Nat) (ns : List Nd) (H : LH) (hT : GOk ts) (hd : d ≤ 200) (hn : ns.length + ts.length ≤ 100000) (hf : 8 * ts.length + 7 ≤ f + 1 + 2 * lv) (h : Ps p ts d ns H) :
    PuH Tryz.prog 198 [ptrP p, fnv fo [ptrP p] [], fnv fops [] [ptrP b]] ((b, bxT, [ptrP p]) :: H) (fun v H' => ∃ H2, H' = (b, bxT, [ptrP p]) :: H2 ∧ GvR p (f + 1) lv d ts ns v H2) (GvX (f + 1) lv d ts ns) := by
  have hl3 : lv ≠ 3 := by omega
  have c0 := hopd f (Nat.le_refl _) ts d ns H hT hd hn (by omega) h
  unfold GvR GvX at *
  rw [gx_lv hl3]
  refine PuH.intro Tryz.func198 rfl (by kernel_rfl) fun C hC => ?_
  repeat (refine A1 ⟨?_⟩; intros)
  refine WvX c0 ?_ ?_ (Tk.skip _ (Tk.same _))
  case refine_2 =>
    rintro _ _ ⟨e, hp, hx⟩
    rw [hC, hp]
    exact ⟨e, rfl, hx⟩
  rintro _ _ ⟨A, x, ts1, hp, rfl, s1, H1, hown1, rfl⟩
  rw [hp] at hC ⊢
  simp only [List.cons_append, List.nil_append] at hC ⊢
  obtain ⟨g2, g4, g3⟩ := gx_len _ _ _ _ _ _ _ _ _ hT hp
  simp only [Option.isNone_none, if_true, Nat.add_zero] at g3 g4
  obtain ⟨a1, r1, rfl, -⟩ := g2.cons
  have hco1 := hown1.co
  have hlr : (a1 :: r1).length = r1.length + 1 := rfl
  repeat (refine A1 ⟨?_⟩; intros)
  refine WvT (hops a1 r1 d s1 H1 hco1 (by omega)) ?_
  rintro _ _ ⟨rfl, rfl⟩
  simp only [List.nil_append]
  repeat (refine A1 ⟨?_⟩; intros)
  refine WP.loopS (ι := Nat × List Nd × Ex × List Tok × SV × LH) (fun z => Own exPT 19 (ns ++ z.2.1).length ((ns ++ z.2.1).map ndx).flatten z.2.2.2.2.1 z.2.2.2.2.2 ∧ GOk z.2.2.2.1 ∧ z.2.1.length + z.2.2.2.1.length ≤ ts.length ∧ 8 * z.2.2.2.1.length + 1 ≤ z.1 ∧ z.1 ≤ f ∧
      gx f lv d ns.length (a1 :: r1) (some (A, x)) = gx z.1 lv d ns.length z.2.2.2.1 (some (z.2.1, z.2.2.1))) (fun z => z.2.2.2.1.length)
    (fun z => fm [(0, ptrP p), (1, fnv fo [ptrP p] []), (2, fnv fops [] [ptrP b]), (7, lit (.int .i64 ((ns.length + z.2.1.length : Nat) - 1))), (8, lit (.int .i64 (gop lv z.2.2.2.1)))])
    (fun z => (b, bxT, [ptrP p]) :: (p, psT, psC z.2.2.2.1 d z.2.2.2.2.1) :: z.2.2.2.2.2) (f, A, x, a1 :: r1, s1, H1) ⟨hown1, g2, g4, by simp only; omega, Nat.le_refl _, rfl⟩ (by (repeat (first | exact LeF.nil _ | refine LeF.cons (Le.refl _) ?_ | refine LeF.cons (Le.int (by omega)) ?_))) (List.Sublist.refl _) ?_
  clear hown1 g2 g3 g4 hp hlr c0 h
  rintro ⟨f1, Aa, x1, ts2, s2, H2⟩ ⟨hown, hT2, hlen, hf1, hff, hpe⟩ K hK
  simp only at hown hT2 hlen hf1 hff hpe ⊢
  obtain ⟨a, r, rfl, -⟩ := hT2.cons
  obtain ⟨f1, rfl⟩ : ∃ f', f1 = f' + 1 := ⟨f1 - 1, by omega⟩
  have hlr : (a :: r).length = r.length + 1 := rfl
  have e1 : (ns ++ Aa).length = ns.length + Aa.length := List.length_append
  have hco2 := hown.co
  rw [gx_some] at hpe
  by_cases ho : gop lv (a :: r) = 0
  · rw [if_pos ho] at hpe
    clear hK hops hopd
    repeat (refine A1 ⟨?_⟩; intros)
    exact endHR _ _ (end1 (RV.tmp rfl) (Le.refl _)) (List.Sublist.refl _) ⟨_, rfl, Aa, x1, a :: r, hpe, rfl, s2, H2, hown, rfl⟩
  · rw [if_neg ho, List.tail_cons, ← e1] at hpe
    obtain ⟨hak, o1, o2⟩ := gop_ne ho
    have hTr := hT2.tail hak
    have hop : 1 ≤ gop lv (a :: r) ∧ gop lv (a :: r) ≤ 4 := by
      rcases hlv with h1 | h1
      · rcases o1 h1 with e | e | e <;> rw [e] <;> decide
      · rw [o2 (by omega)]; decide
    have c1 := hopd f1 (by omega) r d (ns ++ Aa) _ hTr hd (by omega) (by omega) ⟨s2, H2, hown, rfl⟩
    unfold GvR GvX at c1
    have hl1 : 1 ≤ lv := by omega
    have hl2 : lv ≤ 2 := by omega
    clear o1 o2 hlv
    repeat (refine A1 ⟨?_⟩; intros)
    refine WfT (ptake_pu s2 hco2 p a r d (by omega)) ?_ (hs := Tk.skip _ (Tk.cons (HDel.here _) (Tk.nil _)))
    rintro _ _ ⟨rfl, rfl⟩
    refine WPL.perm List.perm_append_comm ?_
    refine WPL.perm (List.Perm.swap _ _ _) ?_
    repeat (refine A1 ⟨?_⟩; intros)
    refine WvX c1 ?_ ?_ (Tk.skip _ (Tk.skip _ (Tk.same _)))
    case refine_2 =>
      rintro _ _ ⟨e, hp2, hx⟩
      rw [hC, hpe, hp2]
      exact ⟨e, rfl, hx⟩
    rintro _ _ ⟨B, y, ts3, hp2, rfl, s3, H3, hown3, rfl⟩
    rw [hp2] at hpe
    simp only at hpe
    simp only [List.cons_append, List.nil_append]
    obtain ⟨g2, g4, g3⟩ := gx_len _ _ _ _ _ _ _ _ _ hTr hp2
    simp only [Option.isNone_none, if_true, Nat.add_zero] at g3 g4
    obtain ⟨a3, r3, rfl, -⟩ := g2.cons
    have hlr3 : (a3 :: r3).length = r3.length + 1 := rfl
    have e2 : (ns ++ Aa ++ B).length = ns.length + Aa.length + B.length := by rw [List.length_append, e1]
    rw [e1] at hpe
    have hco3 := hown3.co
    have hgo := fun s' H' hw F' H'' => hK F' H'' (f1, Aa ++ B ++ [ndB (gop lv (a :: r)) ((ns.length + Aa.length : Nat) - 1) ((ns.length + Aa.length + B.length : Nat) - 1) a], .bi (ndB (gop lv (a :: r)) ((ns.length + Aa.length : Nat) - 1) ((ns.length + Aa.length + B.length : Nat) - 1) a) x1 y, a3 :: r3, s', H')
      ⟨hw, g2, by simp only [List.length_append, List.length_singleton]; omega, by simp only; omega, by simp only; omega, hpe⟩ (by simp only; omega)
    simp only at hgo
    have c2 := padd_pu p (a3 :: r3) d (ns ++ Aa ++ B) s3 H3 hown3 (by omega) (ndB0 (gop lv (a :: r)) ((ns.length + Aa.length : Nat) - 1) ((ns.length + Aa.length + B.length : Nat) - 1)) a
    rw [ndB0_at] at c2
    clear hK hpe c1 hopd
    repeat (refine A1 ⟨?_⟩; intros)
    refine WPL.low 27 rfl (Le.ag (b := ndx (ndB0 (gop lv (a :: r)) ((ns.length + Aa.length : Nat) - 1) ((ns.length + Aa.length + B.length : Nat) - 1))) ?_) ?_
    · simp only [ndB0]
      repeat (first | exact trivial | refine ⟨?_, ?_⟩ | exact Le.refl _ | exact le_nil | exact Le.int (show _ = ((ns.length + Aa.length + B.length : Nat) : Int) - 1 by rw [e1]))
    refine WfT c2 ?_ (hs := Tk.skip _ (Tk.skip _ (Tk.same _)))
    rintro _ _ ⟨rfl, s4, H4, hown4, rfl⟩
    simp only [List.cons_append, List.nil_append]
    have hco4 := hown4.co
    repeat (refine A1 ⟨?_⟩; intros)
    refine WvT (hops a3 r3 d s4 H4 hco4 (by omega)) ?_ (hs := Tk.skip _ (Tk.same _))
    rintro _ _ ⟨rfl, rfl⟩
    simp only [List.cons_append, List.nil_append]
    repeat (refine A1 ⟨?_⟩; intros)
    exact hgo s4 H4 (by rw [← List.append_assoc, ← List.append_assoc]; exact hown4) _ _ (LeF.cons (Le.refl _) (LeF.cons (Le.refl _) (LeF.cons (Le.refl _) (LeF.cons (Le.int (by simp only [List.length_append, List.length_singleton]; omega)) (LeF.cons (Le.refl _) (LeF.nil _)))))) (List.sublist_cons_self _ _)
theorem gsum_of [Sent 4] [Sent 3] {p f : Nat} (h : ∀ f', f' ≤ f → GLv 199 p f' 2) : GLv 144 p (f + 1) 1 := by
  intro ts d ns H hT hd hn hf hps
  have c := fun b => gbinary_pu 199 200 p b f 1 (.inl rfl) (fun a r d s Hs hco hr => gsum1_pu p b a r d s hco Hs hr) h ts d ns H hT hd hn hf hps
  clear h hT hf
  refine PuH.intro Tryz.func144 rfl (by kernel_rfl) fun C hC => ?_
  repeat (refine A1 ⟨?_⟩; intros)
  refine WfX (c _) ?_ ?_
  · rintro _ _ ⟨H2, rfl, A, x, ts', hp, rfl, hps'⟩
    simp only [List.cons_append, List.nil_append, List.append_nil]
    repeat (refine A1 ⟨?_⟩; intros)
    exact endHR _ _ (end1 (RV.tmp rfl) (Le.refl _)) (List.sublist_cons_self _ _) ⟨A, x, ts', hp, rfl, hps'⟩
  · rintro _ _ hx
    rw [hC]
    exact hx
theorem gprod_of [Sent 4] [Sent 3] {p f : Nat} (h : ∀ f', f' ≤ f → GLv 253 p f' 3) : GLv 199 p (f + 1) 2 := by
  intro ts d ns H hT hd hn hf hps
  have c := fun b => gbinary_pu 253 254 p b f 2 (.inr rfl) (fun a r d s Hs hco hr => gprod1_pu p b a r d s hco Hs hr) h ts d ns H hT hd hn hf hps
  clear h hT hf
  refine PuH.intro Tryz.func199 rfl (by kernel_rfl) fun C hC => ?_
  repeat (refine A1 ⟨?_⟩; intros)
  refine WfX (c _) ?_ ?_
  · rintro _ _ ⟨H2, rfl, A, x, ts', hp, rfl, hps'⟩
    simp only [List.cons_append, List.nil_append, List.append_nil]
    repeat (refine A1 ⟨?_⟩; intros)
    exact endHR _ _ (end1 (RV.tmp rfl) (Le.refl _)) (List.sublist_cons_self _ _) ⟨A, x, ts', hp, rfl, hps'⟩
  · rintro _ _ hx
    rw [hC]
    exact hx
end Go.Ab
