/- Texts laid one behind the other: Row, LnC, Fld. -/
import Derived.Test.YtmmifnkikifmnaaGreatDoorB05
import Derived.Laws.AppendOwn
import Derived.Test.YtmmifnkikifmnaaGreatDoorB15
import Derived.Test.YtmmifnkikifmnaaGreatDoorB03
/- A row of one's own: nothing, or a local block with room to spare; appending to it. -/
namespace Go.Ab
open Go.Proofs
set_option linter.unusedSectionVars false
set_option linter.unusedVariables false
set_option linter.unusedSimpArgs false
variable [Base]
/-- n records of sz cells each, in a row of one's own -/
def Own (T : TypeId) (sz n : Nat) (cs : List SV) (s : SV) (H : LH) : Prop :=
  cs.length = n * sz ∧ ((n = 0 ∧ s = lit (.slice none 0 0) ∧ H = []) ∨
    ∃ b c, n ≤ c ∧ c ≤ maxLen ∧ s = lit (.slice (some ⟨b, 0, none⟩) n c) ∧ H = [(b, T, cs ++ List.replicate (c * sz - n * sz) top)])
theorem Own.nil (T : TypeId) (sz : Nat) : Own T sz 0 [] (lit (.slice none 0 0)) [] := ⟨by simp, .inl ⟨rfl, rfl, rfl⟩⟩
theorem All2.tops {m : Mem} : ∀ (l : List Value), (∀ v ∈ l, v.oneCell' = true) → All2 m (List.replicate l.length top) l
  | [], _ => trivial
  | v :: l, h => ⟨⟨by unfold top; trivial, h v (by simp)⟩, All2.tops l fun u hu => h u (by simp [hu])⟩
theorem All2.topL {m : Mem} {l : List Value} {k : Nat} (hk : l.length = k) (h : ∀ v ∈ l, v.oneCell' = true) : All2 m (List.replicate k top) l := hk ▸ All2.tops l h
theorem zeroCells_one {z : Array Value} {k : Nat} (h : z.toList.all (·.oneCell') = true) : ∀ v ∈ (Builtin.zeroCells z k).toList, v.oneCell' = true := by
  intro v hv
  simp only [Builtin.zeroCells, Array.toList_map, Array.toList_range, List.mem_map, List.mem_range] at hv
  obtain ⟨i, hi, rfl⟩ := hv
  have hp : 0 < z.size := Nat.pos_of_ne_zero fun e => by rw [e, Nat.mul_zero] at hi; omega
  have hlt : i % z.size < z.size := Nat.mod_lt _ hp
  rw [getElem!_pos z _ hlt]
  exact List.all_eq_true.1 h _ (by simp)
theorem All2.split {m : Mem} : ∀ {cs ds : List SV} {l : List Value}, All2 m (cs ++ ds) l → All2 m cs (l.take cs.length) ∧ All2 m ds (l.drop cs.length)
  | [], _, l, h => ⟨trivial, h⟩
  | _ :: _, _, [], h => h.elim
  | _ :: _, _, _ :: _, h => ⟨⟨h.1, h.2.split.1⟩, h.2.split.2⟩
section
variable {P : Program} {C : Ctx} {n : Nat} {F : Fr} {H : LH} {ops : Array Oper} {K : Fr → LH → Prop} {rest : List Oper} {ty : TypeId} {pos : String} {aft : Array Edge}
theorem WPL.appOwn {T e : TypeId} {sz by_ : Nat} {z : List SV} {g : Bool} [hS : TSl P T e] [hT : TY P e sz by_ z g] {d : Nat} {x y : Operand} {n0 b2 c2 : Nat} {T' : TypeId} {cs ds : List SV} {s : SV} {Hs Rs : LH}
    (hown : Own e sz n0 cs s Hs) (hx : ev F x = s) (hy : ev F y = lit (.slice (some ⟨b2, 0, none⟩) 1 c2)) (hsp : Spl H Hs Rs) (hm : (b2, T', ds) ∈ Rs) (hds : ds.length = sz) (hpos : 0 < sz) (hl : n0 ≤ 1000000000) (hby : by_ ≤ 10000)
    (k : ∀ s' H', Own e sz (n0 + 1) (cs ++ ds) s' H' → WPL P C n ops rest K (upd F d s') (H' ++ Rs)) (hd : Nat.blt d n = true) :
    WPL P C n ops (⟨some d, .call ⟨.builtin .append, #[x, y], #[T, T]⟩, ty, pos, aft, none⟩ :: rest) K F H := by
  unfold WPL
  intro a w hs0 Q hq
  have hs := hs0.perm hsp.perm
  refine wpList_plain rfl fun K' hK' => ?_
  obtain ⟨hdef, hn, m0, h10, h20, h30, h40, h50⟩ := id hs
  have hp0 : ∀ x, (ev F x).p m0 (a.eval x) := fun x => by
    cases x with
    | tmp t => exact h50 t
    | const v => unfold ev lit; rfl
    | global g => unfold ev lit; rfl
    | func f => unfold ev lit; rfl
  have e0 := hp0 x; rw [hx] at e0
  have e1 := hp0 y; rw [hy, lit_p] at e1
  obtain ⟨_, arr2, hb2, hall2⟩ := h20.2 _ (List.mem_append_right Hs hm)
  obtain ⟨i, v, hi, hsz, hbyt, hz, hzl, hfl, hvs⟩ := hT.run_bytes
  have hlen2 := hall2.length
  simp only [Array.length_toList] at hlen2
  have hys : ∀ j u, arr2.toList[j]? = some u → w.cell? ((⟨b2, 0, none⟩ : Addr).add j) = some u := fun j u hj => by
    rw [add_none, cell_of w b2 _ arr2 _ _ hb2]; simpa using hj
  have hexec : execOp a.eval (⟨some d, .call ⟨.builtin .append, #[x, y], #[T, T]⟩, ty, pos, aft, none⟩ : Oper) = (do let v ← Builtin.append_ #[T, T] ty #[a.eval x, a.eval y]; pure (.value v)) := by
    simp [execOp, resolve, invoke, builtin]
  have hmul : ∀ q, q ≤ 1000000001 → q * by_ ≤ 140737488355328 := fun q hq => Nat.le_trans (Nat.mul_le_mul hq hby) (by decide)
  have get2 : ∀ m, MemIn m w → HOk m w (Hs ++ Rs) → All2 m ds arr2.toList := fun m _ h2 => by
    obtain ⟨_, arr2', hb2', hall2'⟩ := h2.2 _ (List.mem_append_right Hs hm)
    rw [hb2] at hb2'
    simp only [Option.some.injEq, Obj.cells.injEq] at hb2'
    obtain ⟨rfl, _⟩ := hb2'
    exact hall2'
  unfold Oper.wp
  rw [hexec, e1]
  obtain ⟨hcl, hcase⟩ := hown
  rcases hcase with ⟨rfl, rfl, rfl⟩ | ⟨b, c, hnc, hcm, rfl, rfl⟩
  · rw [lit_p] at e0
    have hcs : cs = [] := List.eq_nil_of_length_eq_zero (by rw [hcl, Nat.zero_mul])
    subst hcs
    have hrun := run_append_nil (P := P) w T ty e i v hS.h hi hz ⟨b2, 0, none⟩ 1 c2 arr2.toList (by rw [Array.length_toList, hlen2, hsz, hds, Nat.one_mul]) hys (by omega) (by omega) (by rw [hbyt]; have := hmul 1 (by omega); omega)
    rw [e0]
    simp only [Sem.run_bind, hrun, Result.andThen_ok, Sem.run_pure]
    have hge := grownCap_ge w 1 0 e
    have hle := grownCap_le_maxLen w 1 0 e (by simp only [maxLen]; omega)
    have h := k (lit (.slice (some ⟨w.heap.size, 0, none⟩) 1 (grownCap w 1 0 e))) [(w.heap.size, e, ([] ++ ds) ++ List.replicate (grownCap w 1 0 e * sz - 1 * sz) top)] ⟨by rw [List.nil_append, hds]; omega, .inr ⟨_, _, hge, hle, rfl, by rw [Nat.zero_add]⟩⟩
    unfold WPL at h
    refine hK' _ _ (h _ _ (St.pushD (Nat.blt_eq.mp hd) hs fun m h1 h2 _ => ?_) Q hq)
    simp only [Array.toList_append, List.toList_toArray, List.nil_append]
    refine (get2 m h1 h2).append (All2.topL ?_ (zeroCells_one hfl))
    rw [Array.length_toList, size_zeroCells, hvs, Nat.sub_mul]
  · rw [lit_p] at e0
    obtain ⟨hmb, arr, hb, hall⟩ := h20.2 _ (List.mem_append_left Rs (List.mem_singleton.2 rfl))
    have hlen := hall.length
    simp only [List.length_append, List.length_replicate, hcl, Array.length_toList] at hlen
    have hmono : n0 * sz ≤ c * sz := Nat.mul_le_mul_right _ hnc
    have getc : ∀ m, HOk m w ([(b, e, cs ++ List.replicate (c * sz - n0 * sz) top)] ++ Rs) → All2 m (cs ++ List.replicate (c * sz - n0 * sz) top) arr.toList := fun m h2 => by
      obtain ⟨_, arr', hb', hall'⟩ := h2.2 _ (List.mem_append_left Rs (List.mem_singleton.2 rfl))
      rw [hb] at hb'
      simp only [Option.some.injEq, Obj.cells.injEq] at hb'
      obtain ⟨rfl, _⟩ := hb'
      exact hall'
    by_cases hroom : n0 + 1 ≤ c
    · have hm1 : (n0 + 1) * sz ≤ c * sz := Nat.mul_le_mul_right _ hroom
      rw [Nat.succ_mul] at hm1
      have hrun := run_append_room (P := P) w T ty e i hS.h hi b n0 c arr hb ⟨b2, 0, none⟩ 1 c2 arr2.toList (by rw [Array.length_toList, hlen2, hsz, hds, Nat.one_mul]) hys hall2.flat hroom (by rw [hsz, Array.length_toList, hlen2, hds]; omega)
      rw [e0]
      simp only [Sem.run_bind, hrun, Result.andThen_ok, Sem.run_pure]
      have h := k (lit (.slice (some ⟨b, 0, none⟩) (n0 + 1) c)) [(b, e, (cs ++ ds) ++ List.replicate (c * sz - (n0 + 1) * sz) top)] ⟨by rw [List.length_append, hcl, hds, Nat.succ_mul], .inr ⟨_, _, hroom, hcm, rfl, rfl⟩⟩
      unfold WPL at h
      have hfin : All2 m0 ((cs ++ ds) ++ List.replicate (c * sz - (n0 + 1) * sz) top) (arr.toList.take (n0 * i.size) ++ arr2.toList ++ arr.toList.drop (n0 * i.size + arr2.toList.length)).toArray.toList := by
        obtain ⟨q1, q2⟩ := (getc m0 h20).split
        rw [hcl] at q1 q2
        rw [hsz, Array.length_toList, hlen2, hds, List.toList_toArray]
        refine (q1.append (get2 m0 h10 h20)).append (All2.topL ?_ fun u hu => ?_)
        · rw [List.length_drop, Array.length_toList, Nat.succ_mul]; omega
        · exact hall.flat u (List.mem_of_mem_drop hu)
      obtain ⟨q1, q2, q3, q4⟩ := write_ok (w' := w.setRow b (arr.toList.take (n0 * i.size) ++ arr2.toList ++ arr.toList.drop (n0 * i.size + arr2.toList.length)).toArray) h10 h20 h30 h40 (.here Rs)
        (setRow_heap w b arr _ e _ hb) (fun j hj => setRow_other w b j _ hj) rfl rfl rfl (by simp) hfin
      refine hK' _ _ (h (a.put (some d) (.slice (some ⟨b, 0, none⟩) (n0 + 1) c)) _ ⟨hdef, by simpa [Act.put] using hn, m0, q1, q2, q3, q4, fun t => ?_⟩ Q hq)
      rw [getD_put (Nat.lt_of_lt_of_le (Nat.blt_eq.mp hd) hn)]
      unfold Ab.upd
      by_cases ht : t = d
      · subst ht; rw [if_pos rfl, Nat.beq_refl]; exact lit_p.2 rfl
      · rw [if_neg ht]
        have : Nat.beq t d = false := by
          cases hbb : Nat.beq t d with
          | false => rfl
          | true => exact absurd (Nat.eq_of_beq_eq_true hbb) ht
        rw [this]
        exact h50 t
    · have hxs : ∀ j u, (arr.toList.take (n0 * sz))[j]? = some u → w.cell? ((⟨b, 0, none⟩ : Addr).add j) = some u := fun j u hj => by
        rw [add_none, cell_of w b _ arr _ _ hb]
        rw [List.getElem?_take] at hj
        split at hj
        · simpa using hj
        · cases hj
      have hrun := run_append_grow (P := P) w T ty e i v hS.h hi hz ⟨b, 0, none⟩ n0 c (arr.toList.take (n0 * sz)) (by rw [List.length_take, Array.length_toList, hsz]; omega) hxs
        ⟨b2, 0, none⟩ 1 c2 arr2.toList (by rw [Array.length_toList, hlen2, hsz, hds, Nat.one_mul]) hys (by omega) (by omega) (growslice_fits (by omega) (by rw [hbyt]; exact hmul _ (by omega)))
      rw [e0]
      simp only [Sem.run_bind, hrun, Result.andThen_ok, Sem.run_pure]
      have hge := grownCap_ge w (n0 + 1) c e
      have hle := grownCap_le_maxLen w (n0 + 1) c e (by simp only [maxLen]; omega)
      have h := k (lit (.slice (some ⟨w.heap.size, 0, none⟩) (n0 + 1) (grownCap w (n0 + 1) c e))) [(w.heap.size, e, (cs ++ ds) ++ List.replicate (grownCap w (n0 + 1) c e * sz - (n0 + 1) * sz) top)]
        ⟨by rw [List.length_append, hcl, hds, Nat.succ_mul], .inr ⟨_, _, hge, hle, rfl, rfl⟩⟩
      unfold WPL at h
      have hst := St.pushD (d := d) (cs := (cs ++ ds) ++ List.replicate (grownCap w (n0 + 1) c e * sz - (n0 + 1) * sz) top) (v := .slice (some ⟨w.heap.size, 0, none⟩) (n0 + 1) (grownCap w (n0 + 1) c e)) (T := e)
        (arr := (arr.toList.take (n0 * sz)).toArray ++ arr2.toList.toArray ++ Builtin.zeroCells v.cells (grownCap w (n0 + 1) c e - (n0 + 1))) (Nat.blt_eq.mp hd) hs fun m h1 h2 _ => ?_
      · refine hK' _ _ (h _ _ ?_ Q hq)
        exact hst.drop (.there _ (.here _))
      · simp only [Array.toList_append, List.toList_toArray]
        obtain ⟨q1, _⟩ := (getc m h2).split
        rw [hcl] at q1
        refine (q1.append (get2 m h1 h2)).append (All2.topL ?_ (zeroCells_one hfl))
        rw [Array.length_toList, size_zeroCells, hvs, Nat.sub_mul]
/-- what a call takes out of the heap; an opaque tail may be taken too -/
inductive Tk : LH → LH → LH → Prop
  | nil (R : LH) : Tk R [] R
  | same (R : LH) : Tk R R []
  | cons {b : Nat} {T : TypeId} {cs : List SV} {H H1 Hin R : LH} (h : HDel b T cs H H1) (k : Tk H1 Hin R) : Tk H ((b, T, cs) :: Hin) R
  | skip (e : Nat × TypeId × List SV) {H Hin R : LH} (k : Tk H Hin R) : Tk (e :: H) Hin (e :: R)
theorem Tk.perm {H Hin R : LH} (h : Tk H Hin R) : H.Perm (Hin ++ R) := by
  induction h with
  | nil => exact List.Perm.refl _
  | same => rw [List.append_nil]
  | cons h _ ih => exact h.perm.trans (ih.cons _)
  | skip e _ ih => exact (ih.cons e).trans List.perm_middle.symm
theorem Spl.app : ∀ (Hin R : LH), Spl (Hin ++ R) Hin R
  | [], R => .nil R
  | (_, _, _) :: Hin, R => .cons (.here _) (Spl.app Hin R)
theorem WPL.perm {l : List Oper} {H' : LH} (hp : H.Perm H') (k : WPL P C n ops l K F H') : WPL P C n ops l K F H := by
  unfold WPL at *
  exact fun a w hs => k a w (hs.perm hp)
theorem WP.perm {c : Code} {H' : LH} {Q : Exit → Fr → LH → Prop} (hp : H.Perm H') (k : WP P C n c Q F H') : WP P C n c Q F H := by
  unfold WP at *
  exact fun a w hs => k a w (hs.perm hp)
/-- a call over some blocks; what it leaves stands behind the rest -/
theorem WhT {x : Operand} {s : SV} {f : FuncId} {first caps : List SV} {d : Nat} {l : List Operand} {tys : Array TypeId} {svs : List SV} {Hin Rs : LH} {R : SV → LH → Prop} (hc : PuH P f svs Hin R noX) (k : ∀ res H', R res H' → WPL P C n ops rest K (upd F d res) (Rs ++ H'))
    (hx : ev F x = s := by (first | exact Eq.refl (lit _) | exact Eq.refl (fnv _ _ _) | exact rfl)) [hfv : FV s f first caps] (ha : first ++ l.map (ev F) ++ caps = svs := by exact rfl) (hs : Tk H Hin Rs := by (repeat (first | exact Tk.nil _ | exact Tk.same _ | (apply Tk.cons; (first | exact (HDel.here _) | exact (HDel.there _ (HDel.here _)) | exact (HDel.there _ (HDel.there _ (HDel.here _))) | exact (HDel.there _ (HDel.there _ (HDel.there _ (HDel.here _)))) | exact (HDel.there _ (HDel.there _ (HDel.there _ (HDel.there _ (HDel.here _))))) | exact (HDel.there _ (HDel.there _ (HDel.there _ (HDel.there _ (HDel.there _ (HDel.here _)))))) | exact (HDel.there _ (HDel.there _ (HDel.there _ (HDel.there _ (HDel.there _ (HDel.there _ (HDel.here _))))))) | exact (HDel.there _ (HDel.there _ (HDel.there _ (HDel.there _ (HDel.there _ (HDel.there _ (HDel.there _ (HDel.here _)))))))) | exact (HDel.there _ (HDel.there _ (HDel.there _ (HDel.there _ (HDel.there _ (HDel.there _ (HDel.there _ (HDel.there _ (HDel.here _))))))))) | exact (HDel.there _ (HDel.there _ (HDel.there _ (HDel.there _ (HDel.there _ (HDel.there _ (HDel.there _ (HDel.there _ (HDel.there _ (HDel.here _)))))))))))) | apply Tk.skip))) (hd : Nat.blt d n = true := by exact rfl) :
    WPL P C n ops (⟨some d, .call ⟨.value x, l.toArray, tys⟩, ty, pos, aft, none⟩ :: rest) K F H :=
  .perm hs.perm (.callH hx hc (Spl.app _ _) ha hd (fun res H' h => .perm List.perm_append_comm (k res H' h)) fun _ _ h => h.elim)
/-- .. of a function named outright -/
theorem WfT {f : FuncId} {d : Nat} {l : List Operand} {tys : Array TypeId} {svs : List SV} {Hin Rs : LH} {R : SV → LH → Prop} (hc : PuH P f svs Hin R noX) (k : ∀ res H', R res H' → WPL P C n ops rest K (upd F d res) (Rs ++ H'))
    (ha : l.map (ev F) = svs := by exact rfl) (hs : Tk H Hin Rs := by (repeat (first | exact Tk.nil _ | exact Tk.same _ | (apply Tk.cons; (first | exact (HDel.here _) | exact (HDel.there _ (HDel.here _)) | exact (HDel.there _ (HDel.there _ (HDel.here _))) | exact (HDel.there _ (HDel.there _ (HDel.there _ (HDel.here _)))) | exact (HDel.there _ (HDel.there _ (HDel.there _ (HDel.there _ (HDel.here _))))) | exact (HDel.there _ (HDel.there _ (HDel.there _ (HDel.there _ (HDel.there _ (HDel.here _)))))) | exact (HDel.there _ (HDel.there _ (HDel.there _ (HDel.there _ (HDel.there _ (HDel.there _ (HDel.here _))))))) | exact (HDel.there _ (HDel.there _ (HDel.there _ (HDel.there _ (HDel.there _ (HDel.there _ (HDel.there _ (HDel.here _)))))))) | exact (HDel.there _ (HDel.there _ (HDel.there _ (HDel.there _ (HDel.there _ (HDel.there _ (HDel.there _ (HDel.there _ (HDel.here _))))))))) | exact (HDel.there _ (HDel.there _ (HDel.there _ (HDel.there _ (HDel.there _ (HDel.there _ (HDel.there _ (HDel.there _ (HDel.there _ (HDel.here _)))))))))))) | apply Tk.skip))) (hd : Nat.blt d n = true := by exact rfl) :
    WPL P C n ops (⟨some d, .call ⟨.value (.func f), l.toArray, tys⟩, ty, pos, aft, none⟩ :: rest) K F H :=
  .perm hs.perm (.callH (s := lit (.func (.func f) #[] #[])) (first := []) (caps := []) rfl hc (Spl.app _ _) (by rw [List.nil_append, List.append_nil]; exact ha) hd (fun res H' h => .perm List.perm_append_comm (k res H' h)) fun _ _ h => h.elim)
/-- .. of a function value -/
theorem WvT {x : Operand} {f : FuncId} {first caps : List SV} {d : Nat} {l : List Operand} {tys : Array TypeId} {svs : List SV} {Hin Rs : LH} {R : SV → LH → Prop} (hc : PuH P f svs Hin R noX) (k : ∀ res H', R res H' → WPL P C n ops rest K (upd F d res) (Rs ++ H'))
    (hx : ev F x = fnv f first caps := by exact rfl) (ha : first ++ l.map (ev F) ++ caps = svs := by exact rfl) (hs : Tk H Hin Rs := by (repeat (first | exact Tk.nil _ | exact Tk.same _ | (apply Tk.cons; (first | exact (HDel.here _) | exact (HDel.there _ (HDel.here _)) | exact (HDel.there _ (HDel.there _ (HDel.here _))) | exact (HDel.there _ (HDel.there _ (HDel.there _ (HDel.here _)))) | exact (HDel.there _ (HDel.there _ (HDel.there _ (HDel.there _ (HDel.here _))))) | exact (HDel.there _ (HDel.there _ (HDel.there _ (HDel.there _ (HDel.there _ (HDel.here _)))))) | exact (HDel.there _ (HDel.there _ (HDel.there _ (HDel.there _ (HDel.there _ (HDel.there _ (HDel.here _))))))) | exact (HDel.there _ (HDel.there _ (HDel.there _ (HDel.there _ (HDel.there _ (HDel.there _ (HDel.there _ (HDel.here _)))))))) | exact (HDel.there _ (HDel.there _ (HDel.there _ (HDel.there _ (HDel.there _ (HDel.there _ (HDel.there _ (HDel.there _ (HDel.here _))))))))) | exact (HDel.there _ (HDel.there _ (HDel.there _ (HDel.there _ (HDel.there _ (HDel.there _ (HDel.there _ (HDel.there _ (HDel.there _ (HDel.here _)))))))))))) | apply Tk.skip))) (hd : Nat.blt d n = true := by exact rfl) :
    WPL P C n ops (⟨some d, .call ⟨.value x, l.toArray, tys⟩, ty, pos, aft, none⟩ :: rest) K F H :=
  .perm hs.perm (.callH hx hc (Spl.app _ _) ha hd (fun res H' h => .perm List.perm_append_comm (k res H' h)) fun _ _ h => h.elim)
/-- appending one record to a row of one's own -/
theorem Wown {T e : TypeId} {sz by_ : Nat} {z : List SV} {g : Bool} [hS : TSl P T e] [hT : TY P e sz by_ z g] {d : Nat} {x y : Operand} {n0 b2 c2 : Nat} {T' : TypeId} {cs ds : List SV} {s : SV} {Hs Rs : LH}
    (hown : Own e sz n0 cs s Hs) (hl : n0 ≤ 1000000000) (k : ∀ s' H', Own e sz (n0 + 1) (cs ++ ds) s' H' → WPL P C n ops rest K (upd F d s') (Rs ++ H'))
    (hx : ev F x = s := by exact rfl) (hy : ev F y = lit (.slice (some ⟨b2, 0, none⟩) 1 c2) := by exact rfl) (hsp : Tk H Hs Rs := by (repeat (first | exact Tk.nil _ | exact Tk.same _ | (apply Tk.cons; (first | exact (HDel.here _) | exact (HDel.there _ (HDel.here _)) | exact (HDel.there _ (HDel.there _ (HDel.here _))) | exact (HDel.there _ (HDel.there _ (HDel.there _ (HDel.here _)))) | exact (HDel.there _ (HDel.there _ (HDel.there _ (HDel.there _ (HDel.here _))))) | exact (HDel.there _ (HDel.there _ (HDel.there _ (HDel.there _ (HDel.there _ (HDel.here _)))))) | exact (HDel.there _ (HDel.there _ (HDel.there _ (HDel.there _ (HDel.there _ (HDel.there _ (HDel.here _))))))) | exact (HDel.there _ (HDel.there _ (HDel.there _ (HDel.there _ (HDel.there _ (HDel.there _ (HDel.there _ (HDel.here _)))))))) | exact (HDel.there _ (HDel.there _ (HDel.there _ (HDel.there _ (HDel.there _ (HDel.there _ (HDel.there _ (HDel.there _ (HDel.here _))))))))) | exact (HDel.there _ (HDel.there _ (HDel.there _ (HDel.there _ (HDel.there _ (HDel.there _ (HDel.there _ (HDel.there _ (HDel.there _ (HDel.here _)))))))))))) | apply Tk.skip))) (hm : (b2, T', ds) ∈ Rs := by (first | exact List.mem_cons_self | exact (List.mem_cons_of_mem _ List.mem_cons_self) | exact (List.mem_cons_of_mem _ (List.mem_cons_of_mem _ List.mem_cons_self)) | exact (List.mem_cons_of_mem _ (List.mem_cons_of_mem _ (List.mem_cons_of_mem _ List.mem_cons_self))) | exact (List.mem_cons_of_mem _ (List.mem_cons_of_mem _ (List.mem_cons_of_mem _ (List.mem_cons_of_mem _ List.mem_cons_self)))) | exact (List.mem_cons_of_mem _ (List.mem_cons_of_mem _ (List.mem_cons_of_mem _ (List.mem_cons_of_mem _ (List.mem_cons_of_mem _ List.mem_cons_self))))) | exact (List.mem_cons_of_mem _ (List.mem_cons_of_mem _ (List.mem_cons_of_mem _ (List.mem_cons_of_mem _ (List.mem_cons_of_mem _ (List.mem_cons_of_mem _ List.mem_cons_self)))))) | exact (List.mem_cons_of_mem _ (List.mem_cons_of_mem _ (List.mem_cons_of_mem _ (List.mem_cons_of_mem _ (List.mem_cons_of_mem _ (List.mem_cons_of_mem _ (List.mem_cons_of_mem _ List.mem_cons_self))))))) | exact (List.mem_cons_of_mem _ (List.mem_cons_of_mem _ (List.mem_cons_of_mem _ (List.mem_cons_of_mem _ (List.mem_cons_of_mem _ (List.mem_cons_of_mem _ (List.mem_cons_of_mem _ (List.mem_cons_of_mem _ List.mem_cons_self)))))))) | exact (List.mem_cons_of_mem _ (List.mem_cons_of_mem _ (List.mem_cons_of_mem _ (List.mem_cons_of_mem _ (List.mem_cons_of_mem _ (List.mem_cons_of_mem _ (List.mem_cons_of_mem _ (List.mem_cons_of_mem _ (List.mem_cons_of_mem _ List.mem_cons_self))))))))))) (hds : ds.length = sz := by exact rfl) (hpos : 0 < sz := by decide) (hby : by_ ≤ 10000 := by decide)
    (hd : Nat.blt d n = true := by exact rfl) :
    WPL P C n ops (⟨some d, .call ⟨.builtin .append, #[x, y], #[T, T]⟩, ty, pos, aft, none⟩ :: rest) K F H :=
  .perm hsp.perm (.appOwn hown hx hy (Spl.app _ _) hm hds hpos hl hby (fun s' H' h => .perm List.perm_append_comm (k s' H' h)) hd)
theorem Own.co {T : TypeId} {sz n0 : Nat} {cs : List SV} {s : SV} {Hs : LH} (h : Own T sz n0 cs s Hs) : CO s [s] := by
  obtain ⟨_, ⟨_, rfl, _⟩ | ⟨_, _, _, _, rfl, _⟩⟩ := h <;> exact co_one fun m v hv => by rw [lit_p] at hv; subst hv; exact ⟨rfl, rfl⟩
theorem ov_lenOwn {T e : TypeId} {sz n0 : Nat} {cs : List SV} {s : SV} {Hs : LH} {x : Operand} [hS : TSl P T e] (h : Own e sz n0 cs s Hs) (hx : ev F x = s) : OpV P (.call ⟨.builtin .len, #[x], #[T]⟩) ty F H (lit (.int .i64 n0)) := by
  obtain ⟨_, ⟨rfl, rfl, _⟩ | ⟨_, _, _, _, rfl, _⟩⟩ := h
  · exact ov_lenL hx
  · exact ov_lenL hx
end
end Go.Ab
/- Packages geo, affine: lines made, lines read, images of lines. -/
namespace Go.Ab
open Go.Proofs
set_option linter.unusedSectionVars false
set_option linter.unusedVariables false
set_option linter.unusedSimpArgs false
variable [Base]
theorem ht_g3 {a b c : Rat} {L : Nat} (ha : ht a ≤ L) (hb : ht b ≤ L) (hc : ht c ≤ L) : ht (rgcd a b) ≤ 2 * L + 1 ∧ ht (g3 a b c) ≤ 3 * L + 2 ∧ ht (g3 a b c)⁻¹ ≤ 3 * L + 3 := by
  have h1 := ht_rgcd a b
  have h2 := ht_rgcd (rgcd a b) c
  have h3 := ht_inv (g3 a b c)
  have e : g3 a b c = rgcd (rgcd a b) c := rfl
  rw [← e] at h2
  omega
set_option maxRecDepth 20000 in
set_option maxHeartbeats 1000000 in
theorem make_pu (a b c : Rat) {L : Nat} (hL : L ≤ 100000) (ha : ht a ≤ L) (hb : ht b ≤ L) (hc : ht c ≤ L) (h : a ≠ 0 ∨ b ≠ 0) : Pu Tryz.prog 145 [fr a, fr b, fr c] (Ab.tup [lf (prim a b c).a (prim a b c).b (prim a b c).c, lit (.bool true)]) := by
  obtain ⟨h1, h2, h3⟩ := ht_g3 ha hb hc
  have c1 := zero_pu a
  have c2 := zero_pu b
  have c3 := frgcd_pu a b (by omega) (by omega)
  have c4 := frgcd_pu (rgcd a b) c (by omega) (by omega)
  have c5 : Pu Tryz.prog 117 [fr (rgcd (rgcd a b) c)] (fr (g3 a b c)⁻¹) := inv_pu (g3 a b c) (by omega)
  obtain ⟨e1, e2, e3⟩ := prim_eq (c := c) h
  have c6 := fun b0 => scaled_pu b0 (g3 a b c)⁻¹ a b c (by omega) (by omega) (by omega) (by omega)
  rw [e1, e2, e3] at c6
  generalize (g3 a b c)⁻¹ = q at *
  generalize rgcd a b = r1 at *
  generalize rgcd r1 c = r2 at *
  clear e1 e2 e3
  by_cases h0 : a.num = 0
  · have h9 : b.num ≠ 0 := fun e => by
      rcases h with h | h
      · exact h (Rat.num_eq_zero.1 h0)
      · exact h (Rat.num_eq_zero.1 e)
    rw [decide_eq_true h0] at c1
    rw [decide_eq_false h9] at c2
    clear h0 h9 h
    refine Pu.intro Tryz.func145 rfl (by kernel_rfl) fun C => ?_
    repeat (first | (refine AS ⟨?_⟩; intros) | (refine O1 ⟨?_⟩; intros) | (refine Wcx (c1) ?_) | (refine Wcgx (c1) ?_) | (refine Wcx (c2) ?_) | (refine Wcgx (c2) ?_))
    refine WdN 10 ?_
    repeat (first | (refine A1 ⟨?_⟩; intros) | (refine Wcx (c3) ?_) | (refine Wdcx (c3) ?_) | (refine Wcgx (c3) ?_) | (refine Wdcgx (c3) ?_) | (refine Wcx (c4) ?_) | (refine Wdcx (c4) ?_) | (refine Wcgx (c4) ?_) | (refine Wdcgx (c4) ?_) | (refine Wcx (c5) ?_) | (refine Wdcx (c5) ?_) | (refine Wcgx (c5) ?_) | (refine Wdcgx (c5) ?_))
    simp only [List.drop_succ_cons, List.drop_zero]
    refine WfT (c6 _) ?_
    rintro _ _ ⟨rfl, rfl⟩
    repeat (refine A1 ⟨?_⟩; intros)
    ((first | refine endR ?_ | refine endN ?_); exact end2 (RV.cellA rfl (by (first | exact List.mem_cons_self | exact (List.mem_cons_of_mem _ List.mem_cons_self) | exact (List.mem_cons_of_mem _ (List.mem_cons_of_mem _ List.mem_cons_self)) | exact (List.mem_cons_of_mem _ (List.mem_cons_of_mem _ (List.mem_cons_of_mem _ List.mem_cons_self))) | exact (List.mem_cons_of_mem _ (List.mem_cons_of_mem _ (List.mem_cons_of_mem _ (List.mem_cons_of_mem _ List.mem_cons_self)))) | exact (List.mem_cons_of_mem _ (List.mem_cons_of_mem _ (List.mem_cons_of_mem _ (List.mem_cons_of_mem _ (List.mem_cons_of_mem _ List.mem_cons_self))))) | exact (List.mem_cons_of_mem _ (List.mem_cons_of_mem _ (List.mem_cons_of_mem _ (List.mem_cons_of_mem _ (List.mem_cons_of_mem _ (List.mem_cons_of_mem _ List.mem_cons_self)))))) | exact (List.mem_cons_of_mem _ (List.mem_cons_of_mem _ (List.mem_cons_of_mem _ (List.mem_cons_of_mem _ (List.mem_cons_of_mem _ (List.mem_cons_of_mem _ (List.mem_cons_of_mem _ List.mem_cons_self))))))))) (by (first | (simp only [List.drop_succ_cons, List.drop_zero, List.drop_nil, List.take_succ_cons, List.take_zero, List.take_nil, Nat.zero_add, Nat.add_zero, Nat.reduceAdd]; done) | (simp only [List.drop_succ_cons, List.drop_zero, List.drop_nil, List.take_succ_cons, List.take_zero, List.take_nil, Nat.zero_add, Nat.add_zero, Nat.reduceAdd]; exact rfl) | exact rfl)) rfl) (RV.tmp rfl) (Le.refl _))
  · rw [decide_eq_false h0] at c1
    clear h0 h
    refine Pu.intro Tryz.func145 rfl (by kernel_rfl) fun C => ?_
    repeat (first | (refine AS ⟨?_⟩; intros) | (refine O1 ⟨?_⟩; intros) | (refine Wcx (c1) ?_) | (refine Wcgx (c1) ?_))
    refine WdN 10 ?_
    repeat (first | (refine A1 ⟨?_⟩; intros) | (refine Wcx (c3) ?_) | (refine Wdcx (c3) ?_) | (refine Wcgx (c3) ?_) | (refine Wdcgx (c3) ?_) | (refine Wcx (c4) ?_) | (refine Wdcx (c4) ?_) | (refine Wcgx (c4) ?_) | (refine Wdcgx (c4) ?_) | (refine Wcx (c5) ?_) | (refine Wdcx (c5) ?_) | (refine Wcgx (c5) ?_) | (refine Wdcgx (c5) ?_))
    simp only [List.drop_succ_cons, List.drop_zero]
    refine WfT (c6 _) ?_
    rintro _ _ ⟨rfl, rfl⟩
    repeat (refine A1 ⟨?_⟩; intros)
    ((first | refine endR ?_ | refine endN ?_); exact end2 (RV.cellA rfl (by (first | exact List.mem_cons_self | exact (List.mem_cons_of_mem _ List.mem_cons_self) | exact (List.mem_cons_of_mem _ (List.mem_cons_of_mem _ List.mem_cons_self)) | exact (List.mem_cons_of_mem _ (List.mem_cons_of_mem _ (List.mem_cons_of_mem _ List.mem_cons_self))) | exact (List.mem_cons_of_mem _ (List.mem_cons_of_mem _ (List.mem_cons_of_mem _ (List.mem_cons_of_mem _ List.mem_cons_self)))) | exact (List.mem_cons_of_mem _ (List.mem_cons_of_mem _ (List.mem_cons_of_mem _ (List.mem_cons_of_mem _ (List.mem_cons_of_mem _ List.mem_cons_self))))) | exact (List.mem_cons_of_mem _ (List.mem_cons_of_mem _ (List.mem_cons_of_mem _ (List.mem_cons_of_mem _ (List.mem_cons_of_mem _ (List.mem_cons_of_mem _ List.mem_cons_self)))))) | exact (List.mem_cons_of_mem _ (List.mem_cons_of_mem _ (List.mem_cons_of_mem _ (List.mem_cons_of_mem _ (List.mem_cons_of_mem _ (List.mem_cons_of_mem _ (List.mem_cons_of_mem _ List.mem_cons_self))))))))) (by (first | (simp only [List.drop_succ_cons, List.drop_zero, List.drop_nil, List.take_succ_cons, List.take_zero, List.take_nil, Nat.zero_add, Nat.add_zero, Nat.reduceAdd]; done) | (simp only [List.drop_succ_cons, List.drop_zero, List.drop_nil, List.take_succ_cons, List.take_zero, List.take_nil, Nat.zero_add, Nat.add_zero, Nat.reduceAdd]; exact rfl) | exact rfl)) rfl) (RV.tmp rfl) (Le.refl _))
theorem prim_le {a b c : Rat} {L : Nat} (ha : ht a ≤ L) (hb : ht b ≤ L) (hc : ht c ≤ L) : (prim a b c).le (4 * L + 4) := by
  obtain ⟨_, _, h3⟩ := ht_g3 ha hb hc
  have k1 := ht_mul a (g3 a b c)⁻¹
  have k2 := ht_mul b (g3 a b c)⁻¹
  have k3 := ht_mul c (g3 a b c)⁻¹
  have n1 := ht_num (a * (g3 a b c)⁻¹)
  have n2 := ht_num (b * (g3 a b c)⁻¹)
  have n3 := ht_num (c * (g3 a b c)⁻¹)
  unfold prim
  constructor <;> simp only <;> omega
theorem Li.im_le {m : M6 Rat} {l : Li} {L : Nat} (hm : m.le L) (h : l.le L) (h1 : 1 ≤ L) : (l.im m).le (200 * L + 200) := by
  have hi := M6.inv_le hm
  obtain ⟨i1, i2, i3, i4, i5, i6⟩ := hi
  obtain ⟨ha, hb, hc⟩ := h
  have e1 := ht_of_int l.a
  have e2 := ht_of_int l.b
  have e3 := ht_of_int l.c
  have k1 := ht_mul (l.a : Rat) m.inv.a
  have k2 := ht_mul (l.b : Rat) m.inv.d
  have k3 := ht_mul (l.a : Rat) m.inv.b
  have k4 := ht_mul (l.b : Rat) m.inv.e
  have k5 := ht_mul (l.a : Rat) m.inv.c
  have k6 := ht_mul (l.b : Rat) m.inv.f
  have j1 := ht_add ((l.a : Rat) * m.inv.a) (l.b * m.inv.d)
  have j2 := ht_add ((l.a : Rat) * m.inv.b) (l.b * m.inv.e)
  have j3 := ht_add ((l.a : Rat) * m.inv.c) (l.b * m.inv.f)
  have j4 := ht_add ((l.a : Rat) * m.inv.c + l.b * m.inv.f) l.c
  unfold Li.im
  have := prim_le (a := l.a * m.inv.a + l.b * m.inv.d) (b := l.a * m.inv.b + l.b * m.inv.e) (c := l.a * m.inv.c + l.b * m.inv.f + l.c) (L := 46 * L + 48) (by omega) (by omega) (by omega)
  exact ⟨Nat.le_trans this.a (by omega), Nat.le_trans this.b (by omega), Nat.le_trans this.c (by omega)⟩
set_option maxHeartbeats 1000000 in
theorem lnOf_pu {l : Li} (hl : l.ok) (h : l.le 100000) : Pu Tryz.prog 83 [lq l] (Ab.tup [lf l.a l.b l.c, lit (.bool true)]) := by
  obtain ⟨ha, hb, hc⟩ := h
  have e1 := ht_of_int l.a
  have e2 := ht_of_int l.b
  have e3 := ht_of_int l.c
  have n1 := intNormal_z l.a (by omega)
  have n2 := intNormal_z l.b (by omega)
  have n3 := intNormal_z l.c (by omega)
  have w1 := whole_pu l.a (by omega)
  have w2 := whole_pu l.b (by omega)
  have w3 := whole_pu l.c (by omega)
  have z1 := zero_pu (l.a : Rat)
  have z2 := zero_pu (l.b : Rat)
  rw [Rat.num_intCast] at z1 z2
  have hg1 := ht_rgcd (l.a : Rat) (l.b : Rat)
  have g1 := frgcd_pu (l.a : Rat) (l.b : Rat) (by omega) (by omega)
  have g2 := frgcd_pu (rgcd l.a l.b) (l.c : Rat) (by omega) (by omega)
  have hg : rgcd (rgcd l.a l.b) l.c = 1 := by
    rw [rgcd_ints, show ((Nat.gcd l.a.natAbs l.b.natAbs : Nat) : Rat) = (((Nat.gcd l.a.natAbs l.b.natAbs : Nat) : Int) : Rat) from rfl, rgcd_ints, Int.natAbs_natCast, hl.1]; rfl
  rw [hg] at g2
  generalize rgcd (l.a : Rat) (l.b : Rat) = G at *
  have f1 : Pu Tryz.prog 120 [lit (.int .i64 1)] (fr 1) := fint_pu 1 (by omega) (by omega)
  have q := fequal_pu 1 1 (by decide +kernel) (by decide +kernel)
  rw [decide_eq_true rfl] at q
  have hne := hl.2
  clear hg hg1 e1 e2 e3 ha hb hc hl
  by_cases h0 : l.a = 0
  · have h9 : l.b ≠ 0 := by
      rcases hne with h | h
      · exact absurd h0 h
      · exact h
    rw [decide_eq_true h0] at z1
    rw [decide_eq_false h9] at z2
    clear hne h9 h0
    refine Pu.intro Tryz.func83 rfl (by kernel_rfl) fun C => ?_
    repeat (first | (refine A1 ⟨?_⟩; intros) | (refine Wcx (n1) ?_) | (refine Wdcx (n1) ?_) | (refine Wcgx (n1) ?_) | (refine Wdcgx (n1) ?_) | (refine Wcx (n2) ?_) | (refine Wdcx (n2) ?_) | (refine Wcgx (n2) ?_) | (refine Wdcgx (n2) ?_) | (refine Wcx (n3) ?_) | (refine Wdcx (n3) ?_) | (refine Wcgx (n3) ?_) | (refine Wdcgx (n3) ?_) | (refine Wcx (w1) ?_) | (refine Wdcx (w1) ?_) | (refine Wcgx (w1) ?_) | (refine Wdcgx (w1) ?_) | (refine Wcx (w2) ?_) | (refine Wdcx (w2) ?_) | (refine Wcgx (w2) ?_) | (refine Wdcgx (w2) ?_) | (refine Wcx (w3) ?_) | (refine Wdcx (w3) ?_) | (refine Wcgx (w3) ?_) | (refine Wdcgx (w3) ?_) | (refine Wcx (z1) ?_) | (refine Wdcx (z1) ?_) | (refine Wcgx (z1) ?_) | (refine Wdcgx (z1) ?_) | (refine Wcx (z2) ?_) | (refine Wdcx (z2) ?_) | (refine Wcgx (z2) ?_) | (refine Wdcgx (z2) ?_) | (refine Wcx (g1) ?_) | (refine Wdcx (g1) ?_) | (refine Wcgx (g1) ?_) | (refine Wdcgx (g1) ?_) | (refine Wcx (g2) ?_) | (refine Wdcx (g2) ?_) | (refine Wcgx (g2) ?_) | (refine Wdcgx (g2) ?_) | (refine Wcx (f1) ?_) | (refine Wdcx (f1) ?_) | (refine Wcgx (f1) ?_) | (refine Wdcgx (f1) ?_) | (refine Wcx (q) ?_) | (refine Wdcx (q) ?_) | (refine Wcgx (q) ?_) | (refine Wdcgx (q) ?_))
    ((first | refine endR ?_ | refine endN ?_); exact end2 (RV.cellA rfl (by (first | exact List.mem_cons_self | exact (List.mem_cons_of_mem _ List.mem_cons_self) | exact (List.mem_cons_of_mem _ (List.mem_cons_of_mem _ List.mem_cons_self)) | exact (List.mem_cons_of_mem _ (List.mem_cons_of_mem _ (List.mem_cons_of_mem _ List.mem_cons_self))) | exact (List.mem_cons_of_mem _ (List.mem_cons_of_mem _ (List.mem_cons_of_mem _ (List.mem_cons_of_mem _ List.mem_cons_self)))) | exact (List.mem_cons_of_mem _ (List.mem_cons_of_mem _ (List.mem_cons_of_mem _ (List.mem_cons_of_mem _ (List.mem_cons_of_mem _ List.mem_cons_self))))) | exact (List.mem_cons_of_mem _ (List.mem_cons_of_mem _ (List.mem_cons_of_mem _ (List.mem_cons_of_mem _ (List.mem_cons_of_mem _ (List.mem_cons_of_mem _ List.mem_cons_self)))))) | exact (List.mem_cons_of_mem _ (List.mem_cons_of_mem _ (List.mem_cons_of_mem _ (List.mem_cons_of_mem _ (List.mem_cons_of_mem _ (List.mem_cons_of_mem _ (List.mem_cons_of_mem _ List.mem_cons_self))))))))) (by (first | (simp only [List.drop_succ_cons, List.drop_zero, List.drop_nil, List.take_succ_cons, List.take_zero, List.take_nil, Nat.zero_add, Nat.add_zero, Nat.reduceAdd]; done) | (simp only [List.drop_succ_cons, List.drop_zero, List.drop_nil, List.take_succ_cons, List.take_zero, List.take_nil, Nat.zero_add, Nat.add_zero, Nat.reduceAdd]; exact rfl) | exact rfl)) rfl) (RV.tmp rfl) (Le.refl _))
  · rw [decide_eq_false h0] at z1
    clear hne h0 z2
    refine Pu.intro Tryz.func83 rfl (by kernel_rfl) fun C => ?_
    repeat (first | (refine A1 ⟨?_⟩; intros) | (refine Wcx (n1) ?_) | (refine Wdcx (n1) ?_) | (refine Wcgx (n1) ?_) | (refine Wdcgx (n1) ?_) | (refine Wcx (n2) ?_) | (refine Wdcx (n2) ?_) | (refine Wcgx (n2) ?_) | (refine Wdcgx (n2) ?_) | (refine Wcx (n3) ?_) | (refine Wdcx (n3) ?_) | (refine Wcgx (n3) ?_) | (refine Wdcgx (n3) ?_) | (refine Wcx (w1) ?_) | (refine Wdcx (w1) ?_) | (refine Wcgx (w1) ?_) | (refine Wdcgx (w1) ?_) | (refine Wcx (w2) ?_) | (refine Wdcx (w2) ?_) | (refine Wcgx (w2) ?_) | (refine Wdcgx (w2) ?_) | (refine Wcx (w3) ?_) | (refine Wdcx (w3) ?_) | (refine Wcgx (w3) ?_) | (refine Wdcgx (w3) ?_) | (refine Wcx (z1) ?_) | (refine Wdcx (z1) ?_) | (refine Wcgx (z1) ?_) | (refine Wdcgx (z1) ?_) | (refine Wcx (g1) ?_) | (refine Wdcx (g1) ?_) | (refine Wcgx (g1) ?_) | (refine Wdcgx (g1) ?_) | (refine Wcx (g2) ?_) | (refine Wdcx (g2) ?_) | (refine Wcgx (g2) ?_) | (refine Wdcgx (g2) ?_) | (refine Wcx (f1) ?_) | (refine Wdcx (f1) ?_) | (refine Wcgx (f1) ?_) | (refine Wdcgx (f1) ?_) | (refine Wcx (q) ?_) | (refine Wdcx (q) ?_) | (refine Wcgx (q) ?_) | (refine Wdcgx (q) ?_))
    ((first | refine endR ?_ | refine endN ?_); exact end2 (RV.cellA rfl (by (first | exact List.mem_cons_self | exact (List.mem_cons_of_mem _ List.mem_cons_self) | exact (List.mem_cons_of_mem _ (List.mem_cons_of_mem _ List.mem_cons_self)) | exact (List.mem_cons_of_mem _ (List.mem_cons_of_mem _ (List.mem_cons_of_mem _ List.mem_cons_self))) | exact (List.mem_cons_of_mem _ (List.mem_cons_of_mem _ (List.mem_cons_of_mem _ (List.mem_cons_of_mem _ List.mem_cons_self)))) | exact (List.mem_cons_of_mem _ (List.mem_cons_of_mem _ (List.mem_cons_of_mem _ (List.mem_cons_of_mem _ (List.mem_cons_of_mem _ List.mem_cons_self))))) | exact (List.mem_cons_of_mem _ (List.mem_cons_of_mem _ (List.mem_cons_of_mem _ (List.mem_cons_of_mem _ (List.mem_cons_of_mem _ (List.mem_cons_of_mem _ List.mem_cons_self)))))) | exact (List.mem_cons_of_mem _ (List.mem_cons_of_mem _ (List.mem_cons_of_mem _ (List.mem_cons_of_mem _ (List.mem_cons_of_mem _ (List.mem_cons_of_mem _ (List.mem_cons_of_mem _ List.mem_cons_self))))))))) (by (first | (simp only [List.drop_succ_cons, List.drop_zero, List.drop_nil, List.take_succ_cons, List.take_zero, List.take_nil, Nat.zero_add, Nat.add_zero, Nat.reduceAdd]; done) | (simp only [List.drop_succ_cons, List.drop_zero, List.drop_nil, List.take_succ_cons, List.take_zero, List.take_nil, Nat.zero_add, Nat.add_zero, Nat.reduceAdd]; exact rfl) | exact rfl)) rfl) (RV.tmp rfl) (Le.refl _))
set_option maxHeartbeats 1000000 in
theorem aline_pu {m : M6 Rat} {l : Li} {L : Nat} (hm : m.le L) (h : l.le L) (h1 : 1 ≤ L) (hL : L ≤ 400) (hdet : m.det ≠ 0) (hl : l.ok) : Pu Tryz.prog 84 [mf m, lf l.a l.b l.c] (lf (l.im m).a (l.im m).b (l.im m).c) := by
  have c1 := inverse_pu hm (by omega)
  obtain ⟨i1, i2, i3, i4, i5, i6⟩ := M6.inv_le hm
  obtain ⟨ha, hb, hc⟩ := h
  have e1 := ht_of_int l.a
  have e2 := ht_of_int l.b
  have e3 := ht_of_int l.c
  have k1 := ht_mul (l.a : Rat) m.inv.a
  have k2 := ht_mul (l.b : Rat) m.inv.d
  have k3 := ht_mul (l.a : Rat) m.inv.b
  have k4 := ht_mul (l.b : Rat) m.inv.e
  have k5 := ht_mul (l.a : Rat) m.inv.c
  have k6 := ht_mul (l.b : Rat) m.inv.f
  have j1 := ht_add ((l.a : Rat) * m.inv.a) (l.b * m.inv.d)
  have j2 := ht_add ((l.a : Rat) * m.inv.b) (l.b * m.inv.e)
  have j3 := ht_add ((l.a : Rat) * m.inv.c) (l.b * m.inv.f)
  have j4 := ht_add ((l.a : Rat) * m.inv.c + l.b * m.inv.f) l.c
  have c2 := lnormal_pu l.a l.b l.c
  have c3 := pdot_pu l.a l.b m.inv.a m.inv.d (by omega) (by omega) (by omega) (by omega)
  have c4 := pdot_pu l.a l.b m.inv.b m.inv.e (by omega) (by omega) (by omega) (by omega)
  have c5 := lvalue_pu l.a l.b l.c m.inv.c m.inv.f (by omega) (by omega) (by omega) (by omega) (by omega)
  have c6 := make_pu (l.a * m.inv.a + l.b * m.inv.d) (l.a * m.inv.b + l.b * m.inv.e) (l.a * m.inv.c + l.b * m.inv.f + l.c) (L := 46 * L + 48) (by omega) (by omega) (by omega) (by omega) (Li.im_ne hdet hl)
  rw [show prim (l.a * m.inv.a + l.b * m.inv.d) (l.a * m.inv.b + l.b * m.inv.e) (l.a * m.inv.c + l.b * m.inv.f + l.c) = l.im m from rfl] at c6
  generalize l.im m = l' at *
  clear k1 k2 k3 k4 k5 k6 j1 j2 j3 j4 e1 e2 e3 i1 i2 i3 i4 i5 i6 ha hb hc
  refine Pu.intro Tryz.func84 rfl (by kernel_rfl) fun C => ?_
  repeat (first | (refine A1 ⟨?_⟩; intros) | (refine Wcx (c1) ?_) | (refine Wdcx (c1) ?_) | (refine Wcgx (c1) ?_) | (refine Wdcgx (c1) ?_) | (refine Wcx (c2) ?_) | (refine Wdcx (c2) ?_) | (refine Wcgx (c2) ?_) | (refine Wdcgx (c2) ?_) | (refine Wcx (c3) ?_) | (refine Wdcx (c3) ?_) | (refine Wcgx (c3) ?_) | (refine Wdcgx (c3) ?_) | (refine Wcx (c4) ?_) | (refine Wdcx (c4) ?_) | (refine Wcgx (c4) ?_) | (refine Wdcgx (c4) ?_) | (refine Wcx (c5) ?_) | (refine Wdcx (c5) ?_) | (refine Wcgx (c5) ?_) | (refine Wdcgx (c5) ?_) | (refine Wcx (c6) ?_) | (refine Wdcx (c6) ?_) | (refine Wcgx (c6) ?_) | (refine Wdcgx (c6) ?_))
  ((first | refine endR ?_ | refine endN ?_); refine end1 (RV.cellA rfl (by (first | exact List.mem_cons_self | exact (List.mem_cons_of_mem _ List.mem_cons_self) | exact (List.mem_cons_of_mem _ (List.mem_cons_of_mem _ List.mem_cons_self)) | exact (List.mem_cons_of_mem _ (List.mem_cons_of_mem _ (List.mem_cons_of_mem _ List.mem_cons_self))) | exact (List.mem_cons_of_mem _ (List.mem_cons_of_mem _ (List.mem_cons_of_mem _ (List.mem_cons_of_mem _ List.mem_cons_self)))) | exact (List.mem_cons_of_mem _ (List.mem_cons_of_mem _ (List.mem_cons_of_mem _ (List.mem_cons_of_mem _ (List.mem_cons_of_mem _ List.mem_cons_self))))) | exact (List.mem_cons_of_mem _ (List.mem_cons_of_mem _ (List.mem_cons_of_mem _ (List.mem_cons_of_mem _ (List.mem_cons_of_mem _ (List.mem_cons_of_mem _ List.mem_cons_self)))))) | exact (List.mem_cons_of_mem _ (List.mem_cons_of_mem _ (List.mem_cons_of_mem _ (List.mem_cons_of_mem _ (List.mem_cons_of_mem _ (List.mem_cons_of_mem _ (List.mem_cons_of_mem _ List.mem_cons_self))))))))) (by (first | (simp only [List.drop_succ_cons, List.drop_zero, List.drop_nil, List.take_succ_cons, List.take_zero, List.take_nil, Nat.zero_add, Nat.add_zero, Nat.reduceAdd]; done) | (simp only [List.drop_succ_cons, List.drop_zero, List.drop_nil, List.take_succ_cons, List.take_zero, List.take_nil, Nat.zero_add, Nat.add_zero, Nat.reduceAdd]; exact rfl) | exact rfl)) rfl) (Le.refl _))
theorem aLine_t {m : M6 Rat} {l : Li} {L : Nat} (hm : m.le L) (h : l.le L) (h1 : 1 ≤ L) (hL : L ≤ 400) (hdet : m.det ≠ 0) (hl : l.ok) : Pu Tryz.prog 27 [mq m, lq l] (Ab.tup [lq (l.im m), lit .nilIface]) := by
  have c1 := lnOf_pu hl ⟨Nat.le_trans h.a (by omega), Nat.le_trans h.b (by omega), Nat.le_trans h.c (by omega)⟩
  have c2 := regular_t hm (by omega) hdet
  have c3 := aline_pu hm h h1 hL hdet hl
  have hi := Li.im_le hm h h1
  have c4 := lapi_pu (l.im m) ⟨Nat.le_trans hi.a (by omega), Nat.le_trans hi.b (by omega), Nat.le_trans hi.c (by omega)⟩
  generalize l.im m = l' at *
  clear hi
  refine Pu.intro Tryz.func27 rfl (by kernel_rfl) fun C => ?_
  repeat (first | (refine A1 ⟨?_⟩; intros) | (refine Wcx (c1) ?_) | (refine Wdcx (c1) ?_) | (refine Wcgx (c1) ?_) | (refine Wdcgx (c1) ?_) | (refine Wcx (c2) ?_) | (refine Wdcx (c2) ?_) | (refine Wcgx (c2) ?_) | (refine Wdcgx (c2) ?_) | (refine Wcx (c3) ?_) | (refine Wdcx (c3) ?_) | (refine Wcgx (c3) ?_) | (refine Wdcgx (c3) ?_) | (refine Wcx (c4) ?_) | (refine Wdcx (c4) ?_) | (refine Wcgx (c4) ?_) | (refine Wdcgx (c4) ?_))
  ((first | refine endR ?_ | refine endN ?_); exact end2 (RV.cellA rfl (by (first | exact List.mem_cons_self | exact (List.mem_cons_of_mem _ List.mem_cons_self) | exact (List.mem_cons_of_mem _ (List.mem_cons_of_mem _ List.mem_cons_self)) | exact (List.mem_cons_of_mem _ (List.mem_cons_of_mem _ (List.mem_cons_of_mem _ List.mem_cons_self))) | exact (List.mem_cons_of_mem _ (List.mem_cons_of_mem _ (List.mem_cons_of_mem _ (List.mem_cons_of_mem _ List.mem_cons_self)))) | exact (List.mem_cons_of_mem _ (List.mem_cons_of_mem _ (List.mem_cons_of_mem _ (List.mem_cons_of_mem _ (List.mem_cons_of_mem _ List.mem_cons_self))))) | exact (List.mem_cons_of_mem _ (List.mem_cons_of_mem _ (List.mem_cons_of_mem _ (List.mem_cons_of_mem _ (List.mem_cons_of_mem _ (List.mem_cons_of_mem _ List.mem_cons_self)))))) | exact (List.mem_cons_of_mem _ (List.mem_cons_of_mem _ (List.mem_cons_of_mem _ (List.mem_cons_of_mem _ (List.mem_cons_of_mem _ (List.mem_cons_of_mem _ (List.mem_cons_of_mem _ List.mem_cons_self))))))))) (by (first | (simp only [List.drop_succ_cons, List.drop_zero, List.drop_nil, List.take_succ_cons, List.take_zero, List.take_nil, Nat.zero_add, Nat.add_zero, Nat.reduceAdd]; done) | (simp only [List.drop_succ_cons, List.drop_zero, List.drop_nil, List.take_succ_cons, List.take_zero, List.take_nil, Nat.zero_add, Nat.add_zero, Nat.reduceAdd]; exact rfl) | exact rfl)) rfl) (RV.tmp rfl) (Le.refl _))
end Go.Ab
/- A field of a struct value that is itself a struct; make in a drawn region. -/
namespace Go.Ab
open Go.Proofs
set_option linter.unusedSectionVars false
set_option linter.unusedVariables false
set_option linter.unusedSimpArgs false
variable [Base]
section
variable {P : Program} {F : Fr} {H : LH} {ty : TypeId}
theorem ov_fieldA {S : TypeId} {fs : List (Nat × Nat)} [TSt P S fs] {x : Operand} {f off sz : Nat} {cs cs' : List SV} (hx : ev F x = ag cs) (_hf : fs[f]? = some (off, sz)) (hk : fieldK P S f = some (off, true, sz)) (hc : (cs.drop off).take sz = cs') : OpV P (.field S x f) ty F H (ag cs') :=
  OpV.pure fun m w o a ho _ _ _ h => by
    have h0 := h x (by simp [Op.operands]); rw [hx] at h0
    unfold ag at h0
    obtain ⟨arr, h0, hall⟩ := h0
    have hall' := (hall.drop off).take sz
    rw [hc] at hall'
    unfold fieldK at hk
    cases hu : P.underlying S with
    | none => rw [hu] at hk; cases hk
    | some d =>
      rw [hu] at hk
      cases d with
      | struct A =>
        simp only [Option.bind_eq_some_iff, Option.map_eq_some_iff, Prod.mk.injEq] at hk
        obtain ⟨fl, hfl, d, hd, i, hi, e1, e2, e3⟩ := hk
        have hg : (isAgg fl.type).run P w = .ok true w := by
          cases d <;> first | (cases e2; done) | simp [isAgg, underlying, hd]
        have hs : (sizeOf fl.type).run P w = .ok i.size w := by
          simp [sizeOf, typeInfo, hi]
        refine ⟨.agg (arr.extract off (off + sz)), ?_, by unfold ag; exact ⟨_, rfl, by
          have e : (arr.extract off (off + sz)).toList = (arr.toList.drop off).take sz := by
            simp [List.take_drop, Nat.add_sub_cancel_left]
          rw [e]; exact hall'⟩⟩
        simp [execOp, ho, h0, Instr.field, underlying, hu, hfl, asAgg, part, hg, hs, e1, e3]
      | _ => cases hk
/-- make([]T, k), of one-cell records -/
theorem nk_make {T e : TypeId} {by_ : Nat} {z0 : SV} {g : Bool} [hS : TSl P T e] [hT : TY P e 1 by_ [z0] g] {x y : Operand} {k : Nat}
    (hx : ev F x = lit (.int .i64 k)) (hy : ev F y = lit (.int .i64 k)) (hk : k * by_ ≤ 140737488355328) (hk' : k ≤ 9223372036854775807) : NewOk P (.makeSlice T x y) F e (List.replicate k z0) (mkS k) := by
  intro w o a ho ⟨m0, hm0⟩
  obtain ⟨v, hz, hall⟩ := hT.run_zero w
  obtain ⟨i, v', hi, hsz, hby, hz', _, hfl, hvs⟩ := hT.run_bytes
  have hvv : v = v' := by simp [zeroValue, typeInfo, hi, hz'] at hz; exact hz.symm
  subst hvv
  have e0 := evN hm0 (x := x) (by simp [Op.operands]); rw [hx, lit_p] at e0
  have e1 := evN hm0 (x := y) (by simp [Op.operands]); rw [hy, lit_p] at e1
  have hw : IntKind.i64.wrap (k : Int) = k := by
    simp only [IntKind.wrap, IntKind.bits, IntKind.signed, Bool.true_and]
    have h1 : ¬ (9223372036854775808 : Int) ≤ (k : Int) % 18446744073709551616 := by omega
    simp [h1]; omega
  obtain ⟨c0, hc0⟩ : ∃ c0, v.cells = #[c0] := by
    have : v.cells.size = 1 := hvs
    rcases hvc : v.cells with ⟨l⟩
    rw [hvc] at this
    match l, this with
    | [c0], _ => exact ⟨c0, rfl⟩
  have hrun : (execOp a.eval o).run P w = .ok (.value (.slice (some ⟨w.heap.size, 0, none⟩) k k)) (w.alloc (.cells (List.replicate k c0).toArray e)) := by
    have hb : ¬ ((by_ : Int) * (k : Int) > 281474976710656) := by
      have : (by_ * k : Nat) ≤ 281474976710656 := by rw [Nat.mul_comm]; omega
      have h2 : ((by_ * k : Nat) : Int) ≤ 281474976710656 := by omega
      rw [Int.natCast_mul] at h2; omega
    have hk0 : ¬ ((k : Int) < 0) := by omega
    have harr : (Array.range k).map (fun j => v.cells[j % v.cells.size]!) = (List.replicate k c0).toArray := by
      rw [hc0]
      apply Array.ext
      · simp
      · intro j h1 h2; simp [Nat.mod_one]
    simp only [execOp, ho, Instr.makeSlice, e0, e1, Sem.run_bind, underlying, run_program, hS.h, Result.andThen_ok, Sem.run_pure, asInt, asIntOf, typeInfo, hi, hw, hby]
    have hcond : ((decide ((k : Int) < 0) || decide ((by_ : Int) * (k : Int) > 2 ^ 48)) || decide ((k : Int) < 0) || decide ((k : Int) > (k : Int))) = false := by
      simp only [Bool.or_eq_false_iff, decide_eq_false_iff_not]
      refine ⟨⟨⟨hk0, ?_⟩, hk0⟩, by omega⟩
      have : (2 : Int) ^ 48 = 281474976710656 := by decide
      rw [this]; exact hb
    simp only [hcond, Bool.false_eq_true, if_false, Int.toNat_natCast, Sem.run_bind, run_askRoom, Result.andThen_ok, hT.run_size, Nat.mul_one, newRow]
    by_cases hk : k = 0
    · subst hk; simp [show (Array.range 0) = #[] from rfl]
    · simp only [hk, if_false, Sem.run_bind, hz, Result.andThen_ok, Sem.run_pure, harr, run_newObj, World.alloc_eq]
  refine ⟨_, hrun, fun m _ => ?_⟩
  have := hall m
  rw [hc0] at this
  exact All2.replicate this.1.1 this.1.2 k
end
end Go.Ab
