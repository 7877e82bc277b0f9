/- Texts laid one behind the other: Row, Late, Mix. -/
import Derived.Test.YtjdnfbhbdfokcaaGreatDoorB05
import Derived.Laws.AppendOwn
import Derived.Test.YtjdnfbhbdfokcaaGreatDoorTy
set_option linter.unusedSectionVars false
set_option linter.unusedVariables false
set_option linter.unusedSimpArgs false
namespace Go.Ab
open Go.Proofs
variable [Base]
def Own (T : TypeId) (sz n : Nat) (cs : List SV) (s : SV) (H : LH) : Prop :=
  cs.length = n * sz ∧ ((n = 0 ∧ s = lit (.slice none 0 0) ∧ H = []) ∨
    ∃ b c, n ≤ c ∧ c ≤ maxLen ∧ s = lit (.slice (some ⟨b, 0, none⟩) n c) ∧ H = [(b, T, cs ++ List.replicate (c * sz - n * sz) top)])
theorem Own.nil (T : TypeId) (sz : Nat) : Own T sz 0 [] (lit (.slice none 0 0)) [] := ⟨by simp, .inl ⟨rfl, rfl, rfl⟩⟩
theorem All2.tops {m : Mem} : ∀ (l : List Value), (∀ v ∈ l, v.oneCell' = true) → All2 m (List.replicate l.length top) l
  | [], _ => trivial
  | v :: l, h => ⟨⟨by unfold top; trivial, h v (by simp)⟩, All2.tops l fun u hu => h u (by simp [hu])⟩
theorem All2.topL {m : Mem} {l : List Value} {k : Nat} (hk : l.length = k) (h : ∀ v ∈ l, v.oneCell' = true) : All2 m (List.replicate k top) l := hk ▸ All2.tops l h
theorem zeroCells_one {z : Array Value} {k : Nat} (h : z.toList.all (·.oneCell') = true) : ∀ v ∈ (Builtin.zeroCells z k).toList, v.oneCell' = true := by
  intro v hv
  simp only [Builtin.zeroCells, Array.toList_map, Array.toList_range, List.mem_map, List.mem_range] at hv
  obtain ⟨i, hi, rfl⟩ := hv
  have hp : 0 < z.size := Nat.pos_of_ne_zero fun e => by rw [e, Nat.mul_zero] at hi; omega
  have hlt : i % z.size < z.size := Nat.mod_lt _ hp
  rw [getElem!_pos z _ hlt]
  exact List.all_eq_true.1 h _ (by simp)
theorem All2.split {m : Mem} : ∀ {cs ds : List SV} {l : List Value}, All2 m (cs ++ ds) l → All2 m cs (l.take cs.length) ∧ All2 m ds (l.drop cs.length)
  | [], _, l, h => ⟨trivial, h⟩
  | _ :: _, _, [], h => h.elim
  | _ :: _, _, _ :: _, h => ⟨⟨h.1, h.2.split.1⟩, h.2.split.2⟩
section
variable {P : Program} {C : Ctx} {n : Nat} {F : Fr} {H : LH} {ops : Array Oper} {K : Fr → LH → Prop} {rest : List Oper} {ty : TypeId} {pos : String} {aft : Array Edge}
theorem WPL.appOwn {T e : TypeId} {sz by_ : Nat} {z : List SV} {g : Bool} [hS : TSl P T e] [hT : TY P e sz by_ z g] {d : Nat} {x y : Operand} {n0 b2 c2 : Nat} {T' : TypeId} {cs ds : List SV} {s : SV} {Hs Rs : LH}
    (hown : Own e sz n0 cs s Hs) (hx : ev F x = s) (hy : ev F y = lit (.slice (some ⟨b2, 0, none⟩) 1 c2)) (hsp : Spl H Hs Rs) (hm : (b2, T', ds) ∈ Rs) (hds : ds.length = sz) (hpos : 0 < sz) (hl : n0 ≤ 1000000000) (hby : by_ ≤ 10000)
    (k : ∀ s' H', Own e sz (n0 + 1) (cs ++ ds) s' H' → WPL P C n ops rest K (upd F d s') (H' ++ Rs)) (hd : Nat.blt d n = true) :
    WPL P C n ops (⟨some d, .call ⟨.builtin .append, #[x, y], #[T, T]⟩, ty, pos, aft, none⟩ :: rest) K F H := by
  unfold WPL
  intro a w hs0 Q hq
  have hs := hs0.perm hsp.perm
  refine wpList_plain rfl fun K' hK' => ?_
  obtain ⟨hdef, hn, m0, h10, h20, h30, h40, h50⟩ := id hs
  have hp0 : ∀ x, (ev F x).p m0 (a.eval x) := fun x => by
    cases x with
    | tmp t => exact h50 t
    | const v => unfold ev lit; rfl
    | global g => unfold ev lit; rfl
    | func f => unfold ev lit; rfl
  have e0 := hp0 x; rw [hx] at e0
  have e1 := hp0 y; rw [hy, lit_p] at e1
  obtain ⟨_, arr2, hb2, hall2⟩ := h20.2 _ (List.mem_append_right Hs hm)
  obtain ⟨i, v, hi, hsz, hbyt, hz, hzl, hfl, hvs⟩ := hT.run_bytes
  have hlen2 := hall2.length
  simp only [Array.length_toList] at hlen2
  have hys : ∀ j u, arr2.toList[j]? = some u → w.cell? ((⟨b2, 0, none⟩ : Addr).add j) = some u := fun j u hj => by
    rw [add_none, cell_of w b2 _ arr2 _ _ hb2]; simpa using hj
  have hexec : execOp a.eval (⟨some d, .call ⟨.builtin .append, #[x, y], #[T, T]⟩, ty, pos, aft, none⟩ : Oper) = (do let v ← Builtin.append_ #[T, T] ty #[a.eval x, a.eval y]; pure (.value v)) := by
    simp [execOp, resolve, invoke, builtin]
  have hmul : ∀ q, q ≤ 1000000001 → q * by_ ≤ 140737488355328 := fun q hq => Nat.le_trans (Nat.mul_le_mul hq hby) (by decide)
  have get2 : ∀ m, MemIn m w → HOk m w (Hs ++ Rs) → All2 m ds arr2.toList := fun m _ h2 => by
    obtain ⟨_, arr2', hb2', hall2'⟩ := h2.2 _ (List.mem_append_right Hs hm)
    rw [hb2] at hb2'
    simp only [Option.some.injEq, Obj.cells.injEq] at hb2'
    obtain ⟨rfl, _⟩ := hb2'
    exact hall2'
  unfold Oper.wp
  rw [hexec, e1]
  obtain ⟨hcl, hcase⟩ := hown
  rcases hcase with ⟨rfl, rfl, rfl⟩ | ⟨b, c, hnc, hcm, rfl, rfl⟩
  · rw [lit_p] at e0
    have hcs : cs = [] := List.eq_nil_of_length_eq_zero (by rw [hcl, Nat.zero_mul])
    subst hcs
    have hrun := run_append_nil (P := P) w T ty e i v hS.h hi hz ⟨b2, 0, none⟩ 1 c2 arr2.toList (by rw [Array.length_toList, hlen2, hsz, hds, Nat.one_mul]) hys (by omega) (by omega) (by rw [hbyt]; have := hmul 1 (by omega); omega)
    rw [e0]
    simp only [Sem.run_bind, hrun, Result.andThen_ok, Sem.run_pure]
    have hge := grownCap_ge w 1 0 e
    have hle := grownCap_le_maxLen w 1 0 e (by simp only [maxLen]; omega)
    have h := k (lit (.slice (some ⟨w.heap.size, 0, none⟩) 1 (grownCap w 1 0 e))) [(w.heap.size, e, ([] ++ ds) ++ List.replicate (grownCap w 1 0 e * sz - 1 * sz) top)] ⟨by rw [List.nil_append, hds]; omega, .inr ⟨_, _, hge, hle, rfl, by rw [Nat.zero_add]⟩⟩
    unfold WPL at h
    refine hK' _ _ (h _ _ (St.pushD (Nat.blt_eq.mp hd) hs fun m h1 h2 _ => ?_) Q hq)
    simp only [Array.toList_append, List.toList_toArray, List.nil_append]
    refine (get2 m h1 h2).append (All2.topL ?_ (zeroCells_one hfl))
    rw [Array.length_toList, size_zeroCells, hvs, Nat.sub_mul]
  · rw [lit_p] at e0
    obtain ⟨hmb, arr, hb, hall⟩ := h20.2 _ (List.mem_append_left Rs (List.mem_singleton.2 rfl))
    have hlen := hall.length
    simp only [List.length_append, List.length_replicate, hcl, Array.length_toList] at hlen
    have hmono : n0 * sz ≤ c * sz := Nat.mul_le_mul_right _ hnc
    have getc : ∀ m, HOk m w ([(b, e, cs ++ List.replicate (c * sz - n0 * sz) top)] ++ Rs) → All2 m (cs ++ List.replicate (c * sz - n0 * sz) top) arr.toList := fun m h2 => by
      obtain ⟨_, arr', hb', hall'⟩ := h2.2 _ (List.mem_append_left Rs (List.mem_singleton.2 rfl))
      rw [hb] at hb'
      simp only [Option.some.injEq, Obj.cells.injEq] at hb'
      obtain ⟨rfl, _⟩ := hb'
      exact hall'
    by_cases hroom : n0 + 1 ≤ c
    · have hm1 : (n0 + 1) * sz ≤ c * sz := Nat.mul_le_mul_right _ hroom
      rw [Nat.succ_mul] at hm1
      have hrun := run_append_room (P := P) w T ty e i hS.h hi b n0 c arr hb ⟨b2, 0, none⟩ 1 c2 arr2.toList (by rw [Array.length_toList, hlen2, hsz, hds, Nat.one_mul]) hys hall2.flat hroom (by rw [hsz, Array.length_toList, hlen2, hds]; omega)
      rw [e0]
      simp only [Sem.run_bind, hrun, Result.andThen_ok, Sem.run_pure]
      have h := k (lit (.slice (some ⟨b, 0, none⟩) (n0 + 1) c)) [(b, e, (cs ++ ds) ++ List.replicate (c * sz - (n0 + 1) * sz) top)] ⟨by rw [List.length_append, hcl, hds, Nat.succ_mul], .inr ⟨_, _, hroom, hcm, rfl, rfl⟩⟩
      unfold WPL at h
      have hfin : All2 m0 ((cs ++ ds) ++ List.replicate (c * sz - (n0 + 1) * sz) top) (arr.toList.take (n0 * i.size) ++ arr2.toList ++ arr.toList.drop (n0 * i.size + arr2.toList.length)).toArray.toList := by
        obtain ⟨q1, q2⟩ := (getc m0 h20).split
        rw [hcl] at q1 q2
        rw [hsz, Array.length_toList, hlen2, hds, List.toList_toArray]
        refine (q1.append (get2 m0 h10 h20)).append (All2.topL ?_ fun u hu => ?_)
        · rw [List.length_drop, Array.length_toList, Nat.succ_mul]; omega
        · exact hall.flat u (List.mem_of_mem_drop hu)
      obtain ⟨q1, q2, q3, q4⟩ := write_ok (w' := w.setRow b (arr.toList.take (n0 * i.size) ++ arr2.toList ++ arr.toList.drop (n0 * i.size + arr2.toList.length)).toArray) h10 h20 h30 h40 (.here Rs)
        (setRow_heap w b arr _ e _ hb) (fun j hj => setRow_other w b j _ hj) rfl rfl rfl (by simp) hfin
      refine hK' _ _ (h (a.put (some d) (.slice (some ⟨b, 0, none⟩) (n0 + 1) c)) _ ⟨hdef, by simpa [Act.put] using hn, m0, q1, q2, q3, q4, fun t => ?_⟩ Q hq)
      rw [getD_put (Nat.lt_of_lt_of_le (Nat.blt_eq.mp hd) hn)]
      unfold Ab.upd
      by_cases ht : t = d
      · subst ht; rw [if_pos rfl, Nat.beq_refl]; exact lit_p.2 rfl
      · rw [if_neg ht]
        have : Nat.beq t d = false := by
          cases hbb : Nat.beq t d with
          | false => rfl
          | true => exact absurd (Nat.eq_of_beq_eq_true hbb) ht
        rw [this]
        exact h50 t
    · have hxs : ∀ j u, (arr.toList.take (n0 * sz))[j]? = some u → w.cell? ((⟨b, 0, none⟩ : Addr).add j) = some u := fun j u hj => by
        rw [add_none, cell_of w b _ arr _ _ hb]
        rw [List.getElem?_take] at hj
        split at hj
        · simpa using hj
        · cases hj
      have hrun := run_append_grow (P := P) w T ty e i v hS.h hi hz ⟨b, 0, none⟩ n0 c (arr.toList.take (n0 * sz)) (by rw [List.length_take, Array.length_toList, hsz]; omega) hxs
        ⟨b2, 0, none⟩ 1 c2 arr2.toList (by rw [Array.length_toList, hlen2, hsz, hds, Nat.one_mul]) hys (by omega) (by omega) (growslice_fits (by omega) (by rw [hbyt]; exact hmul _ (by omega)))
      rw [e0]
      simp only [Sem.run_bind, hrun, Result.andThen_ok, Sem.run_pure]
      have hge := grownCap_ge w (n0 + 1) c e
      have hle := grownCap_le_maxLen w (n0 + 1) c e (by simp only [maxLen]; omega)
      have h := k (lit (.slice (some ⟨w.heap.size, 0, none⟩) (n0 + 1) (grownCap w (n0 + 1) c e))) [(w.heap.size, e, (cs ++ ds) ++ List.replicate (grownCap w (n0 + 1) c e * sz - (n0 + 1) * sz) top)]
        ⟨by rw [List.length_append, hcl, hds, Nat.succ_mul], .inr ⟨_, _, hge, hle, rfl, rfl⟩⟩
      unfold WPL at h
      have hst := St.pushD (d := d) (cs := (cs ++ ds) ++ List.replicate (grownCap w (n0 + 1) c e * sz - (n0 + 1) * sz) top) (v := .slice (some ⟨w.heap.size, 0, none⟩) (n0 + 1) (grownCap w (n0 + 1) c e)) (T := e)
        (arr := (arr.toList.take (n0 * sz)).toArray ++ arr2.toList.toArray ++ Builtin.zeroCells v.cells (grownCap w (n0 + 1) c e - (n0 + 1))) (Nat.blt_eq.mp hd) hs fun m h1 h2 _ => ?_
      · refine hK' _ _ (h _ _ ?_ Q hq)
        exact hst.drop (.there _ (.here _))
      · simp only [Array.toList_append, List.toList_toArray]
        obtain ⟨q1, _⟩ := (getc m h2).split
        rw [hcl] at q1
        refine (q1.append (get2 m h1 h2)).append (All2.topL ?_ (zeroCells_one hfl))
        rw [Array.length_toList, size_zeroCells, hvs, Nat.sub_mul]
inductive Tk : LH → LH → LH → Prop
  | nil (R : LH) : Tk R [] R
  | same (R : LH) : Tk R R []
  | cons {b : Nat} {T : TypeId} {cs : List SV} {H H1 Hin R : LH} (h : HDel b T cs H H1) (k : Tk H1 Hin R) : Tk H ((b, T, cs) :: Hin) R
  | skip (e : Nat × TypeId × List SV) {H Hin R : LH} (k : Tk H Hin R) : Tk (e :: H) Hin (e :: R)
theorem Tk.perm {H Hin R : LH} (h : Tk H Hin R) : H.Perm (Hin ++ R) := by
  induction h with
  | nil => exact List.Perm.refl _
  | same => rw [List.append_nil]
  | cons h _ ih => exact h.perm.trans (ih.cons _)
  | skip e _ ih => exact (ih.cons e).trans List.perm_middle.symm
theorem Spl.app : ∀ (Hin R : LH), Spl (Hin ++ R) Hin R
  | [], R => .nil R
  | (_, _, _) :: Hin, R => .cons (.here _) (Spl.app Hin R)
theorem WPL.perm {l : List Oper} {H' : LH} (hp : H.Perm H') (k : WPL P C n ops l K F H') : WPL P C n ops l K F H := by
  unfold WPL at *
  exact fun a w hs => k a w (hs.perm hp)
theorem WP.perm {c : Code} {H' : LH} {Q : Exit → Fr → LH → Prop} (hp : H.Perm H') (k : WP P C n c Q F H') : WP P C n c Q F H := by
  unfold WP at *
  exact fun a w hs => k a w (hs.perm hp)
theorem WfT {f : FuncId} {d : Nat} {l : List Operand} {tys : Array TypeId} {svs : List SV} {Hin Rs : LH} {R : SV → LH → Prop} (hc : PuH P f svs Hin R noX) (k : ∀ res H', R res H' → WPL P C n ops rest K (upd F d res) (Rs ++ H'))
    (ha : l.map (ev F) = svs := by exact rfl) (hs : Tk H Hin Rs := by (repeat (first | exact Tk.nil _ | exact Tk.same _ | (apply Tk.cons; (first | exact (HDel.here _) | exact (HDel.there _ (HDel.here _)) | exact (HDel.there _ (HDel.there _ (HDel.here _))) | exact (HDel.there _ (HDel.there _ (HDel.there _ (HDel.here _)))) | exact (HDel.there _ (HDel.there _ (HDel.there _ (HDel.there _ (HDel.here _))))) | exact (HDel.there _ (HDel.there _ (HDel.there _ (HDel.there _ (HDel.there _ (HDel.here _)))))) | exact (HDel.there _ (HDel.there _ (HDel.there _ (HDel.there _ (HDel.there _ (HDel.there _ (HDel.here _))))))) | exact (HDel.there _ (HDel.there _ (HDel.there _ (HDel.there _ (HDel.there _ (HDel.there _ (HDel.there _ (HDel.here _)))))))) | exact (HDel.there _ (HDel.there _ (HDel.there _ (HDel.there _ (HDel.there _ (HDel.there _ (HDel.there _ (HDel.there _ (HDel.here _))))))))) | exact (HDel.there _ (HDel.there _ (HDel.there _ (HDel.there _ (HDel.there _ (HDel.there _ (HDel.there _ (HDel.there _ (HDel.there _ (HDel.here _)))))))))))) | apply Tk.skip))) (hd : Nat.blt d n = true := by exact rfl) :
    WPL P C n ops (⟨some d, .call ⟨.value (.func f), l.toArray, tys⟩, ty, pos, aft, none⟩ :: rest) K F H :=
  .perm hs.perm (.callH (s := lit (.func (.func f) #[] #[])) (first := []) (caps := []) rfl hc (Spl.app _ _) (by rw [List.nil_append, List.append_nil]; exact ha) hd (fun res H' h => .perm List.perm_append_comm (k res H' h)) fun _ _ h => h.elim)
theorem Wown {T e : TypeId} {sz by_ : Nat} {z : List SV} {g : Bool} [hS : TSl P T e] [hT : TY P e sz by_ z g] {d : Nat} {x y : Operand} {n0 b2 c2 : Nat} {T' : TypeId} {cs ds : List SV} {s : SV} {Hs Rs : LH}
    (hown : Own e sz n0 cs s Hs) (hl : n0 ≤ 1000000000) (k : ∀ s' H', Own e sz (n0 + 1) (cs ++ ds) s' H' → WPL P C n ops rest K (upd F d s') (Rs ++ H'))
    (hx : ev F x = s := by exact rfl) (hy : ev F y = lit (.slice (some ⟨b2, 0, none⟩) 1 c2) := by exact rfl) (hsp : Tk H Hs Rs := by (repeat (first | exact Tk.nil _ | exact Tk.same _ | (apply Tk.cons; (first | exact (HDel.here _) | exact (HDel.there _ (HDel.here _)) | exact (HDel.there _ (HDel.there _ (HDel.here _))) | exact (HDel.there _ (HDel.there _ (HDel.there _ (HDel.here _)))) | exact (HDel.there _ (HDel.there _ (HDel.there _ (HDel.there _ (HDel.here _))))) | exact (HDel.there _ (HDel.there _ (HDel.there _ (HDel.there _ (HDel.there _ (HDel.here _)))))) | exact (HDel.there _ (HDel.there _ (HDel.there _ (HDel.there _ (HDel.there _ (HDel.there _ (HDel.here _))))))) | exact (HDel.there _ (HDel.there _ (HDel.there _ (HDel.there _ (HDel.there _ (HDel.there _ (HDel.there _ (HDel.here _)))))))) | exact (HDel.there _ (HDel.there _ (HDel.there _ (HDel.there _ (HDel.there _ (HDel.there _ (HDel.there _ (HDel.there _ (HDel.here _))))))))) | exact (HDel.there _ (HDel.there _ (HDel.there _ (HDel.there _ (HDel.there _ (HDel.there _ (HDel.there _ (HDel.there _ (HDel.there _ (HDel.here _)))))))))))) | apply Tk.skip))) (hm : (b2, T', ds) ∈ Rs := by (first | exact List.mem_cons_self | exact (List.mem_cons_of_mem _ List.mem_cons_self) | exact (List.mem_cons_of_mem _ (List.mem_cons_of_mem _ List.mem_cons_self)) | exact (List.mem_cons_of_mem _ (List.mem_cons_of_mem _ (List.mem_cons_of_mem _ List.mem_cons_self))) | exact (List.mem_cons_of_mem _ (List.mem_cons_of_mem _ (List.mem_cons_of_mem _ (List.mem_cons_of_mem _ List.mem_cons_self)))) | exact (List.mem_cons_of_mem _ (List.mem_cons_of_mem _ (List.mem_cons_of_mem _ (List.mem_cons_of_mem _ (List.mem_cons_of_mem _ List.mem_cons_self))))) | exact (List.mem_cons_of_mem _ (List.mem_cons_of_mem _ (List.mem_cons_of_mem _ (List.mem_cons_of_mem _ (List.mem_cons_of_mem _ (List.mem_cons_of_mem _ List.mem_cons_self)))))) | exact (List.mem_cons_of_mem _ (List.mem_cons_of_mem _ (List.mem_cons_of_mem _ (List.mem_cons_of_mem _ (List.mem_cons_of_mem _ (List.mem_cons_of_mem _ (List.mem_cons_of_mem _ List.mem_cons_self))))))) | exact (List.mem_cons_of_mem _ (List.mem_cons_of_mem _ (List.mem_cons_of_mem _ (List.mem_cons_of_mem _ (List.mem_cons_of_mem _ (List.mem_cons_of_mem _ (List.mem_cons_of_mem _ (List.mem_cons_of_mem _ List.mem_cons_self)))))))) | exact (List.mem_cons_of_mem _ (List.mem_cons_of_mem _ (List.mem_cons_of_mem _ (List.mem_cons_of_mem _ (List.mem_cons_of_mem _ (List.mem_cons_of_mem _ (List.mem_cons_of_mem _ (List.mem_cons_of_mem _ (List.mem_cons_of_mem _ List.mem_cons_self))))))))))) (hds : ds.length = sz := by exact rfl) (hpos : 0 < sz := by decide) (hby : by_ ≤ 10000 := by decide)
    (hd : Nat.blt d n = true := by exact rfl) :
    WPL P C n ops (⟨some d, .call ⟨.builtin .append, #[x, y], #[T, T]⟩, ty, pos, aft, none⟩ :: rest) K F H :=
  .perm hsp.perm (.appOwn hown hx hy (Spl.app _ _) hm hds hpos hl hby (fun s' H' h => .perm List.perm_append_comm (k s' H' h)) hd)
theorem Own.co {T : TypeId} {sz n0 : Nat} {cs : List SV} {s : SV} {Hs : LH} (h : Own T sz n0 cs s Hs) : CO s [s] := by
  obtain ⟨_, ⟨_, rfl, _⟩ | ⟨_, _, _, _, rfl, _⟩⟩ := h <;> exact co_one fun m v hv => by rw [lit_p] at hv; subst hv; exact ⟨rfl, rfl⟩
end
section
variable {P : Program} {C : Ctx} {n : Nat} {F F' : Fr} {H : LH} {ops : Array Oper} {Q : Exit → Fr → LH → Prop}
def lateB (ops : Array Oper) (k q j : Nat) : Bool := (List.range q).any fun s => !edgeT ops (k + s) j
def dstAt (ops : Array Oper) (i : Nat) : Option Nat := match ops[i]? with
  | some o => o.dst
  | none => none
def looksAtB (ops : Array Oper) (i d : Nat) : Bool := match ops[i]? with
  | some o => (o.looksAt ops).contains d
  | none => false
def dsts (r : List NO') (t : Nat) : Bool := r.any fun x => x.2.dst == some t
inductive LOk (P : Program) (ops : Array Oper) (k q n : Nat) (H : LH) (F : Fr) : List NO' → Prop
  | nil : LOk P ops k q n H F []
  | skip {i : Nat} {o : Oper} {r : List NO'} (hl : lateB ops k q i = false) (h : LOk P ops k q n H F r) : LOk P ops k q n H F ((i, o) :: r)
  | cons {i d : Nat} {o : Oper} {sv : SV} {r : List NO'} (hd : o.dst = some d) (hdn : Nat.blt d n = true) (hop : OpV P o.op o.type F H sv) (hsv : F d = sv) (h : LOk P ops k q n H F r) : LOk P ops k q n H F ((i, o) :: r)
theorem LOk.mem {k q : Nat} {r : List NO'} (h : LOk P ops k q n H F r) : ∀ x ∈ r, lateB ops k q x.1 = true → ∃ d, x.2.dst = some d ∧ Nat.blt d n = true ∧ OpV P x.2.op x.2.type F H (F d) := by
  induction h with
  | nil => intro x hx; cases hx
  | skip hl _ ih =>
    intro x hx hlx
    rcases List.mem_cons.1 hx with rfl | hx
    · rw [hl] at hlx; cases hlx
    · exact ih x hx hlx
  | cons hd hdn hop hsv _ ih =>
    intro x hx hlx
    rcases List.mem_cons.1 hx with rfl | hx
    · exact ⟨_, hd, hdn, hsv ▸ hop⟩
    · exact ih x hx hlx
def dstf (o : Oper) (F : Fr) (sv : SV) : Fr := match o.dst with
  | some d => upd F d sv
  | none => F
def TS (P : Program) (C : Ctx) (n : Nat) (ops : Array Oper) (i : Nat) (o : Oper) (Fe : Fr) (H : LH) (sv : SV) (H' : LH) : Prop :=
  ∀ F, (∀ t, t ∈ o.looksAt ops → Fe t = F t) → ∀ a w, St C n F H a w → ∀ (Q' : Exit → Act → World → Prop) (K' : Act → World → Prop), (∀ a' w', St C n (dstf o F sv) H' a' w' → K' a' w') → wpOp P ops Q' i K' a w
def TSR (P : Program) (C : Ctx) (n : Nat) (ops : Array Oper) (i : Nat) (o : Oper) (Fe : Fr) (H : LH) (Post : SV → LH → Prop) : Prop :=
  ∀ F, (∀ t, t ∈ o.looksAt ops → Fe t = F t) → ∀ a w, St C n F H a w → ∀ (Q' : Exit → Act → World → Prop) (K' : Act → World → Prop), (∀ sv H', Post sv H' → ∀ a' w', St C n (dstf o F sv) H' a' w' → K' a' w') → wpOp P ops Q' i K' a w
theorem TS.toR {i : Nat} {o : Oper} {Fe : Fr} {sv : SV} {H' : LH} (h : TS P C n ops i o Fe H sv H') : TSR P C n ops i o Fe H (fun s H2 => s = sv ∧ H2 = H') :=
  fun F hF a w hst Q' K' hK => h F hF a w hst Q' K' fun a' w' h' => hK sv H' ⟨rfl, rfl⟩ a' w' h'
def Stg (P : Program) (C : Ctx) (n : Nat) (ops : Array Oper) (k q : Nat) (late : List NO') (K : Fr → LH → Prop) : Nat → List Oper → Fr → LH → Prop
  | _, [], F, H => LOk P ops k q n H F late ∧ K F H
  | i, o :: r, F, H => LOk P ops k q n H F late ∧ ∃ Post : SV → LH → Prop, TSR P C n ops i o F H Post ∧ ∀ sv H', Post sv H' → Stg P C n ops k q late K (i + 1) r (dstf o F sv) H'
theorem dsts_mem {r : List NO'} {t : Nat} : dsts r t = true ↔ ∃ x ∈ r, x.2.dst = some t := by simp [dsts]
theorem TS.val {i d : Nat} {o : Oper} {sv : SV} (ho : ops[i]? = some o) (hd : o.dst = some d) (hdn : Nat.blt d n = true) (h : DS P ops n H o F sv) : TS P C n ops i o F H sv H := by
  intro F1 hF a w hst Q' K' hK
  have h' := h.frame hF
  obtain ⟨hdef, hn, m, h1, h2, h3, h4, h5⟩ := hst
  refine h'.wp ho hd hn h1 h2 h5 fun v m' w' hv hm' hH' r => hK _ _ ?_
  unfold dstf
  rw [hd]
  exact St.put (Nat.blt_eq.mp hdn) hdef hn h2 h3 h4 h5 hv hm' hH' r
theorem ev_looks {o : Oper} {F1 : Fr} {x : Operand} (hx : x ∈ o.op.operands) (h : ∀ t, t ∈ o.looksAt ops → F t = F1 t) : ev F1 x = ev F x := by
  cases x with
  | tmp t => exact (h t (looks_op hx)).symm
  | const v => rfl
  | global g => rfl
  | func f => rfl
theorem TS.store {i : Nat} {T T' : TypeId} {sz by_ : Nat} {z : List SV} {g : Bool} [hT : TY P T sz by_ z g] {x v : Operand} {b o : Nat} {sv s0 : SV} {cs cs' ds : List SV} {H' : LH} {ty : TypeId} {pos : String} {aft : Array Edge}
    (ho : ops[i]? = some ⟨none, .store T x v, ty, pos, aft, none⟩) (hx : ev F x = lit (.pointer (some ⟨b, o, none⟩))) (hv : ev F v = sv) [hco : CO sv ds] (hlen : Nat.beq ds.length sz = true)
    (hu : HUpd b T' cs cs' H H') (hsp : spl cs o ds = cs') (hle : Nat.ble (o + sz) cs.length = true) : TS P C n ops i ⟨none, .store T x v, ty, pos, aft, none⟩ F H s0 H' := by
  intro F1 hF a w hst Q' K' hK
  rw [← ev_looks (o := ⟨none, .store T x v, ty, pos, aft, none⟩) (x := x) (by simp [Op.operands]) hF] at hx
  rw [← ev_looks (o := ⟨none, .store T x v, ty, pos, aft, none⟩) (x := v) (by simp [Op.operands]) hF] at hv
  obtain ⟨hdef, hn, m, h1, h2, h3, h4, h5⟩ := hst
  have hp : ∀ x, (ev F1 x).p m (a.eval x) := fun x => by
    cases x with
    | tmp t => exact h5 t
    | const v => unfold ev lit; rfl
    | global g => unfold ev lit; rfl
    | func f => unfold ev lit; rfl
  have e0 := hp x; rw [hx, lit_p] at e0
  have e1 := hp v; rw [hv] at e1
  have hds := hco.h m _ e1
  obtain ⟨_, arr, hb, hall⟩ := h2.2 _ hu.mem
  have hsz := Nat.eq_of_beq_eq_true hlen
  have hlv := hds.length
  have hle' := Nat.le_of_ble_eq_true hle
  have hla := hall.length
  simp only [Array.length_toList] at hlv hla
  obtain ⟨w', arr', hr, g1, g2, g3, g4, g5, g6, g7⟩ := run_storeCells_all (P := P) (b := b) (T := T') (o := o) (a.eval v).cells.toList 0 w arr hb (by simp only [Array.length_toList]; omega) hds.flat
  unfold wpOp
  rw [ho]
  simp only [Region.wanted, if_true]
  left
  unfold Oper.wp
  have hrun : (execOp a.eval (⟨none, .store T x v, ty, pos, aft, none⟩ : Oper)).run P w = .ok .skip w' := by
    simp only [execOp, Instr.storeAt, e0, Instr.sureAddr, Sem.run_bind, Sem.run_pure, Result.andThen_ok, storeVar, hT.run_size, hlv, hsz]
    simp [hr]
  rw [hrun]
  have hfin := g7 m cs ds hall hds
  rw [Nat.add_zero, hsp] at hfin
  obtain ⟨q1, q2, q3, q4⟩ := write_ok h1 h2 h3 h4 hu g1 g2 g3 g4 g5 g6 hfin
  exact hK _ _ ⟨hdef, hn, m, q1, q2, q3, q4, h5⟩
theorem tailRun {Q' : Exit → Act → World → Prop} {t0 : Nat} (hback : ∀ i, i < ops.size → backAt ops i = true) (htail : ∀ i, i < ops.size → t0 ≤ i → ∀ j, j < i → edgeT ops i j = true) :
    ∀ (fuel t : Nat) (listed : Array Bool) (a : Act) (w : World), t0 ≤ t → listed.size = ops.size → Closed ops listed → ops.size - t ≤ fuel → (∀ j, j < t → listed.getD j true = true) → (∀ j, t ≤ j → j < ops.size → listed.getD j true = false) →
      wpList P ops Q' (ops.toList.drop t) a w → wpAny P .any ops Q' fuel listed a w := by
  intro fuel
  induction fuel with
  | zero =>
    intro t listed a w hkt hs hcl hfu h1 h2 h
    have ht : ops.size ≤ t := by omega
    refine ⟨?_, ?_⟩
    · cases hr : Region.ready .any ops listed with
      | nil => rfl
      | cons x xs =>
        have hx : x ∈ Region.ready .any ops listed := by rw [hr]; simp
        obtain ⟨h0, o, ho, _⟩ := mem_ready.1 hx
        have := (Array.getElem?_eq_some_iff.1 ho).1
        rw [h1 x (by omega)] at h0; cases h0
    · rw [List.drop_eq_nil_of_le (by simpa using ht)] at h; exact h
  | succ fuel ih =>
    intro t listed a w hkt hs hcl hfu h1 h2 h
    have only : ∀ i ∈ Region.ready .any ops listed, i = t ∧ t < ops.size := fun i hi => by
      obtain ⟨h0, o, ho, _⟩ := mem_ready.1 hi
      have hlt := (Array.getElem?_eq_some_iff.1 ho).1
      have hge : t ≤ i := by
        rcases Nat.lt_or_ge i t with h | h
        · rw [h1 i h] at h0; cases h0
        · exact h
      rcases Nat.lt_or_ge t i with hlt' | hle
      · have := edgeT_listed hcl hi (htail i hlt (by omega) t hlt')
        have := listed_false hs (by omega : t < ops.size) this
        rw [h2 t (Nat.le_refl _) (by omega)] at this; cases this
      · exact ⟨by omega, by omega⟩
    refine ⟨fun hr => ?_, fun i hi => ?_⟩
    · rcases Nat.lt_or_ge t ops.size with hlt | hge
      · exfalso
        have hmem : t ∈ Region.ready .any ops listed := by
          rw [mem_ready]
          refine ⟨h2 t (Nat.le_refl _) hlt, ops[t], by simp [hlt], fun e he hb => ?_⟩
          have hlt' := back_spec (hback t hlt) (by simp [hlt] : ops[t]? = some ops[t]) e he hb
          have := h1 e.on hlt'
          have hsz : e.on < listed.size := by omega
          simp [hsz] at this ⊢; exact this
        rw [hr] at hmem; cases hmem
      · rw [List.drop_eq_nil_of_le (by simpa using hge)] at h; exact h
    · obtain ⟨rfl, hlt⟩ := only i hi
      have ho : ops[i]? = some ops[i] := by simp [hlt]
      have hd : ops.toList.drop i = ops[i] :: ops.toList.drop (i + 1) := by
        rw [List.drop_eq_getElem_cons (by simpa using hlt)]; simp
      rw [hd] at h
      have hstep : wpOp P ops Q' i (fun a w => wpList P ops Q' (ops.toList.drop (i + 1)) a w) a w := by
        unfold wpOp; rw [ho]; exact h
      refine wpOp_mono (fun a' w' h' => ih (i + 1) (listed.setIfInBounds i true) a' w' (by omega) (by simpa using hs) (hcl.step hi) (by omega) (fun j hj => ?_) (fun j hj hjs => ?_) h') hstep
      · by_cases hji : i = j
        · subst hji; simp [hs, hlt]
        · rw [getD_set_ne true hji]; exact h1 j (by omega)
      · rw [getD_set_ne true (by omega)]; exact h2 j (by omega) hjs
theorem Dr.same {l : List NO'} {N : List NW} {F F' : Fr} (h : Dr P ops n H l N F F') : ∀ t, dsts l t = false → F' t = F t := by
  induction h with
  | nil => intro t _; rfl
  | val hd _ _ _ ih =>
    intro t ht
    unfold dsts at ht ih
    rw [List.any_cons] at ht
    simp only [Bool.or_eq_false_iff] at ht
    rw [ih t ht.2]
    exact upd_ne fun e => by have := ht.1; rw [hd, e] at this; simp at this
  | new hd _ _ _ _ _ ih =>
    intro t ht
    unfold dsts at ht ih
    rw [List.any_cons] at ht
    simp only [Bool.or_eq_false_iff] at ht
    exact ih t ht.2
attribute [local semireducible] WP WPL Dk
section
variable {k q : Nat} {l : List Oper} {e1 e2 : NW}
variable {late : List NO'} {K : Fr → LH → Prop} {i d : Nat} {ty : TypeId} {pos : String} {aft : Array Edge}
theorem Gs {T T' : TypeId} {sz by_ : Nat} {z : List SV} {g : Bool} [hT : TY P T sz by_ z g] {x v : Operand} {b o : Nat} {sv : SV} {cs cs' ds : List SV} {H' : LH} {r : List Oper}
    (hx : ev F x = lit (.pointer (some ⟨b, o, none⟩))) (hv : ev F v = sv) [hco : CO sv ds] (hlen : Nat.beq ds.length sz = true) (hu : HUpd b T' cs cs' H H') (hsp : spl cs o ds = cs') (hle : Nat.ble (o + sz) cs.length = true)
    (hl : LOk P ops k q n H F late) (h : Stg P C n ops k q late K (i + 1) r F H') (ho : ops[i]? = some ⟨none, .store T x v, ty, pos, aft, none⟩ := by exact rfl) : Stg P C n ops k q late K i (⟨none, .store T x v, ty, pos, aft, none⟩ :: r) F H :=
  ⟨hl, _, (TS.store (s0 := lit undef) ho hx hv hlen hu hsp hle).toR, fun _ _ ⟨e1, e2⟩ => by subst e1; subst e2; exact h⟩
end
end
section
variable {P : Program} {C : Ctx} {n : Nat} {F F' F0 Fe : Fr} {H : LH} {ops : Array Oper} {Q : Exit → Fr → LH → Prop} {rs : List Nat} {Hc : LH} {E : Nat → LH}
def befB (ops : Array Oper) (k t : Nat) : Bool := (List.range k).any fun j => dstAt ops j == some t
def lisB (ops : Array Oper) (listed : Array Bool) (t : Nat) : Bool := (List.range ops.size).any fun j => listed.getD j false && dstAt ops j == some t
def mixF (B : Nat → Bool) (Fe F0 : Fr) : Fr := fun t => bif B t then Fe t else F0 t
def mixOk (ops : Array Oper) (rs : List Nat) : Bool :=
  ((List.range ops.size).all fun i => backAt ops i) &&
  ((List.range ops.size).all fun i => (List.range i).all fun j => (dstAt ops j).isNone || !(dstAt ops i == dstAt ops j)) &&
  ((List.range ops.size).all fun i => (List.range ops.size).all fun j => match dstAt ops j with
    | some d => !looksAtB ops i d || (bif Nat.blt j i then edgeT ops i j else (Nat.beq i j || edgeT ops j i))
    | none => true) &&
  ((List.range rs.length).all fun t => Nat.blt (rs.getD t 0) ops.size && (List.range t).all fun u => edgeT ops (rs.getD t 0) (rs.getD u 0) && Nat.blt (rs.getD u 0) (rs.getD t 0))
inductive Mx (P : Program) (C : Ctx) (n : Nat) (ops : Array Oper) (rs : List Nat) (Hc : LH) (E : Nat → LH) : Nat → Nat → List Oper → Fr → Fr → Prop
  | nil {i s : Nat} (F : Fr) : Mx P C n ops rs Hc E i s [] F F
  | free {i s d : Nat} {o : Oper} {sv : SV} {r : List Oper} {F F' : Fr} (hr : rs.contains i = false) (hd : o.dst = some d) (hdn : Nat.blt d n = true) (hds : DS P ops n Hc o F sv) (h : Mx P C n ops rs Hc E (i + 1) s r (upd F d sv) F') : Mx P C n ops rs Hc E i s (o :: r) F F'
  | row {i s : Nat} {o : Oper} {sv : SV} {r : List Oper} {F F' : Fr} (hr : rs[s]? = some i) (hts : TS P C n ops i o F (E s ++ Hc) sv (E (s + 1) ++ Hc)) (h : Mx P C n ops rs Hc E (i + 1) (s + 1) r (dstf o F sv) F') : Mx P C n ops rs Hc E i s (o :: r) F F'
def Vld (P : Program) (C : Ctx) (n : Nat) (ops : Array Oper) (rs : List Nat) (Hc : LH) (E : Nat → LH) (F0 Fe : Fr) (k : Nat) : Prop := ∃ o, ops[k]? = some o ∧ ∃ Fk : Fr, (∀ t, Fk t = mixF (befB ops k) Fe F0 t) ∧
  ((rs.contains k = false ∧ ∃ d, o.dst = some d ∧ Nat.blt d n = true ∧ DS P ops n Hc o Fk (Fe d)) ∨
   ∃ s sv, rs[s]? = some k ∧ (∀ d, o.dst = some d → sv = Fe d) ∧ TS P C n ops k o Fk (E s ++ Hc) sv (E (s + 1) ++ Hc))
theorem Mx.keep {i s : Nat} {l : List Oper} (h : Mx P C n ops rs Hc E i s l F F') : ∀ t, (∀ o ∈ l, o.dst ≠ some t) → F' t = F t := by
  induction h with
  | nil => intro t _; rfl
  | free _ hd _ _ _ ih =>
    intro t ht
    rw [ih t fun o ho => ht o (by simp [ho])]
    exact upd_ne fun e => ht _ List.mem_cons_self (by rw [hd, e])
  | @row i s o sv r F F' _ _ _ ih =>
    intro t ht
    rw [ih t fun o ho => ht o (by simp [ho])]
    unfold dstf
    cases hd : o.dst with
    | none => rfl
    | some d => exact upd_ne fun e => ht o (by simp) (by rw [hd, e])
theorem befB_succ (k t : Nat) : befB ops (k + 1) t = (befB ops k t || dstAt ops k == some t) := by
  unfold befB; rw [List.range_succ, List.any_append]; simp
theorem mixOk_spec (h : mixOk ops rs = true) : (∀ i, i < ops.size → backAt ops i = true) ∧ (∀ i j d, i < ops.size → j < i → dstAt ops j = some d → dstAt ops i ≠ some d) ∧
    (∀ i j d, i < ops.size → j < ops.size → dstAt ops j = some d → looksAtB ops i d = true → (j < i → edgeT ops i j = true) ∧ (i < j → edgeT ops j i = true)) ∧
    ∀ (t k : Nat), rs[t]? = some k → k < ops.size ∧ ∀ (u : Nat) (k' : Nat), u < t → rs[u]? = some k' → edgeT ops k k' = true ∧ k' < k := by
  simp only [mixOk, Bool.and_eq_true, List.all_eq_true, List.mem_range, Bool.or_eq_true, Nat.blt_eq] at h
  obtain ⟨⟨⟨h1, h2⟩, h3⟩, h4⟩ := h
  refine ⟨h1, fun i j d hi hj hd he => ?_, fun i j d hi hj hd hl => ?_, fun t k hk => ?_⟩
  · rcases h2 i hi j hj with h | h
    · rw [hd] at h; cases h
    · rw [hd, he] at h; simp at h
  · have := h3 i hi j hj
    rw [hd] at this
    simp only [hl, Bool.not_true, Bool.false_or] at this
    refine ⟨fun hji => ?_, fun hij => ?_⟩
    · rw [show Nat.blt j i = true from by simpa using hji] at this
      exact this
    · rw [show Nat.blt j i = false from by
        cases hb : Nat.blt j i with
        | false => rfl
        | true => have := Nat.blt_eq.mp hb; omega] at this
      simp only [cond_false, Bool.or_eq_true] at this
      rcases this with h | h
      · have := Nat.eq_of_beq_eq_true h; omega
      · exact h
  · have ht := (List.getElem?_eq_some_iff.1 hk).1
    have gk : rs.getD t 0 = k := by simp [List.getD, hk]
    obtain ⟨g1, g2⟩ := h4 t ht
    rw [gk] at g1 g2
    refine ⟨g1, fun u k' hu hk' => ?_⟩
    have gk' : rs.getD u 0 = k' := by simp [List.getD, hk']
    have := g2 u hu
    rw [gk'] at this
    exact this
theorem dstAt_of {i : Nat} {o : Oper} (h : ops[i]? = some o) : dstAt ops i = o.dst := by unfold dstAt; rw [h]
theorem Mx.vld (hchk : mixOk ops rs = true) {i s : Nat} {l : List Oper} (h : Mx P C n ops rs Hc E i s l F Fe) : l = ops.toList.drop i → (∀ t, F t = mixF (befB ops i) Fe F0 t) → ∀ k, i ≤ k → k < ops.size → Vld P C n ops rs Hc E F0 Fe k := by
  obtain ⟨_, hdis, _, _⟩ := mixOk_spec hchk
  induction h with
  | nil =>
    intro hl _ k hik hk
    have := congrArg List.length hl
    simp at this
    omega
  | @free i s d o sv r F F' hr hd hdn hds h ih =>
    intro hl hF k hik hk
    have ho : ops[i]? = some o := by
      have := congrArg (·[0]?) hl
      simpa using this.symm
    have hr' : r = ops.toList.drop (i + 1) := by
      have := congrArg List.tail hl
      simpa using this
    have hsv : F' d = sv := by
      rw [h.keep d fun o' ho' => ?_]
      · exact upd_eq
      · rw [hr'] at ho'
        obtain ⟨j, hj, rfl⟩ := List.mem_iff_getElem.1 ho'
        simp only [List.length_drop, Array.length_toList] at hj
        simp only [List.getElem_drop, Array.getElem_toList]
        have := hdis (i + 1 + j) i d (by omega) (by omega) (by rw [dstAt_of ho, hd])
        rwa [dstAt_of (o := ops[i + 1 + j]) (by simp)] at this
    rcases Nat.lt_or_ge i k with hlt | hge
    · refine ih hr' (fun t => ?_) k (by omega) hk
      unfold mixF
      rw [befB_succ, dstAt_of ho, hd]
      by_cases ht : t = d
      · subst ht; rw [upd_eq, hsv]; simp
      · rw [upd_ne ht, hF t]
        unfold mixF
        have : (some d == some t) = false := by simpa using fun e => ht e.symm
        rw [this, Bool.or_false]
    · obtain rfl : k = i := by omega
      exact ⟨o, ho, F, hF, .inl ⟨hr, d, hd, hdn, hsv ▸ hds⟩⟩
  | @row i s o sv r F F' hr hts h ih =>
    intro hl hF k hik hk
    have ho : ops[i]? = some o := by
      have := congrArg (·[0]?) hl
      simpa using this.symm
    have hr' : r = ops.toList.drop (i + 1) := by
      have := congrArg List.tail hl
      simpa using this
    have hsv : ∀ d, o.dst = some d → F' d = sv := fun d hd => by
      rw [h.keep d fun o' ho' => ?_]
      · unfold dstf; rw [hd]; exact upd_eq
      · rw [hr'] at ho'
        obtain ⟨j, hj, rfl⟩ := List.mem_iff_getElem.1 ho'
        simp only [List.length_drop, Array.length_toList] at hj
        simp only [List.getElem_drop, Array.getElem_toList]
        have := hdis (i + 1 + j) i d (by omega) (by omega) (by rw [dstAt_of ho, hd])
        rwa [dstAt_of (o := ops[i + 1 + j]) (by simp)] at this
    rcases Nat.lt_or_ge i k with hlt | hge
    · refine ih hr' (fun t => ?_) k (by omega) hk
      unfold mixF dstf
      rw [befB_succ, dstAt_of ho]
      cases hd : o.dst with
      | none =>
        simp only
        rw [hF t]
        unfold mixF
        simp
      | some d =>
        by_cases ht : t = d
        · subst ht; simp only [upd_eq]; rw [hsv _ hd]; simp
        · simp only [upd_ne ht]
          rw [hF t]
          unfold mixF
          have : (some d == some t) = false := by simpa using fun e => ht e.symm
          rw [this, Bool.or_false]
    · obtain rfl : k = i := by omega
      exact ⟨o, ho, F, hF, .inr ⟨s, sv, hr, fun d hd => (hsv d hd).symm, hts⟩⟩
theorem lisB_set {listed : Array Bool} {i t : Nat} {o : Oper} (hs : listed.size = ops.size) (ho : ops[i]? = some o) : lisB ops (listed.setIfInBounds i true) t = (lisB ops listed t || o.dst == some t) := by
  have hio := (Array.getElem?_eq_some_iff.1 ho).1
  have key : ∀ j, j < ops.size → ((listed.setIfInBounds i true).getD j false = (listed.getD j false || Nat.beq j i)) := fun j hj => by
    by_cases hji : i = j
    · subst hji; simp [hs, hio]
    · rw [getD_set_ne false hji]
      have : Nat.beq j i = false := by
        cases hb : Nat.beq j i with
        | false => rfl
        | true => exact absurd (Nat.eq_of_beq_eq_true hb).symm hji
      rw [this, Bool.or_false]
  rw [Bool.eq_iff_iff]
  unfold lisB
  simp only [List.any_eq_true, List.mem_range, Bool.and_eq_true, Bool.or_eq_true]
  constructor
  · rintro ⟨j, hj, h1, h2⟩
    rw [key j hj, Bool.or_eq_true] at h1
    rcases h1 with h1 | h1
    · exact .inl ⟨j, hj, h1, h2⟩
    · have := Nat.eq_of_beq_eq_true h1
      subst this
      rw [dstAt_of ho] at h2
      exact .inr h2
  · rintro (⟨j, hj, h1, h2⟩ | h2)
    · exact ⟨j, hj, by rw [key j hj, h1]; rfl, h2⟩
    · exact ⟨i, hio, by rw [key i hio, Nat.beq_refl]; simp, by rw [dstAt_of ho]; exact h2⟩
theorem edgeT_on {i j : Nat} {listed : Array Bool} (hcl : Closed ops listed) (hi : listed.getD i false = true) (he : edgeT ops i j = true) : listed.getD j false = true := by
  have on : ∀ (k S : Nat), (∀ j, S.testBit j = true → listed.getD j false = true) → ∀ j, (clos ops k S).testBit j = true → listed.getD j false = true := by
    intro k
    induction k with
    | zero => intro S hS j h; exact hS j h
    | succ k ih =>
      intro S hS j h
      unfold clos at h
      refine ih _ (fun j h => ?_) j h
      cases hb : S.testBit k with
      | false => rw [hb] at h; exact hS j h
      | true =>
        rw [hb] at h
        simp only [cond_true, Nat.testBit_or, Bool.or_eq_true] at h
        rcases h with h | h
        · exact hS j h
        · exact hcl k j (hS k hb) (dmask_edge h)
  exact on i _ (fun j h => hcl i j hi (dmask_edge h)) j he
theorem mixRun {Q' : Exit → Act → World → Prop} (hchk : mixOk ops rs = true) (hv : ∀ k, k < ops.size → Vld P C n ops rs Hc E F0 Fe k) (hF0 : ∀ t, befB ops ops.size t = false → Fe t = F0 t)
    (fin : ∀ a w, St C n Fe (E rs.length ++ Hc) a w → Q' .normal a w) :
    ∀ (fuel s : Nat) (listed : Array Bool) (a : Act) (w : World), s ≤ rs.length → (left ops ops.size listed).length ≤ fuel → listed.size = ops.size → Closed ops listed →
      (∀ (u : Nat) (k : Nat), rs[u]? = some k → (listed.getD k true = true ↔ u < s)) → St C n (mixF (lisB ops listed) Fe F0) (E s ++ Hc) a w → wpAny P .any ops Q' fuel listed a w := by
  obtain ⟨hback, hdis, hlook, hrow⟩ := mixOk_spec hchk
  have done : ∀ (s : Nat) (listed : Array Bool) (a : Act) (w : World), s ≤ rs.length → left ops ops.size listed = [] → listed.size = ops.size →
      (∀ (u : Nat) (k : Nat), rs[u]? = some k → (listed.getD k true = true ↔ u < s)) → St C n (mixF (lisB ops listed) Fe F0) (E s ++ Hc) a w → Q' .normal a w := by
    intro s listed a w hsr hnil hs hr hst
    have all : ∀ j, j < ops.size → listed.getD j true = true := fun j hj => by
      cases hb : listed.getD j true with
      | true => rfl
      | false =>
        have : (j, ops[j]) ∈ left ops ops.size listed := mem_left.2 ⟨hj, by simp, hb⟩
        rw [hnil] at this; cases this
    have hs' : s = rs.length := by
      rcases Nat.lt_or_ge s rs.length with h | h
      · exfalso
        have h1 : rs[s]? = some rs[s] := by simp [h]
        have h2 := (hrow s _ h1).1
        have := (hr s _ h1).1 (all _ h2)
        omega
      · omega
    subst hs'
    refine fin a w (hst.le fun t => Le.of_eq ?_)
    unfold mixF
    have hb : lisB ops listed t = befB ops ops.size t := by
      rw [Bool.eq_iff_iff]
      unfold lisB befB
      simp only [List.any_eq_true, List.mem_range, Bool.and_eq_true]
      constructor
      · rintro ⟨j, h1, _, h3⟩; exact ⟨j, h1, h3⟩
      · rintro ⟨j, h1, h3⟩
        refine ⟨j, h1, ?_, h3⟩
        have := all j h1
        have hsz : j < listed.size := by omega
        simp [hsz] at this ⊢; exact this
    rw [hb]
    cases h : befB ops ops.size t with
    | true => rfl
    | false => exact (hF0 t h).symm
  have noready : ∀ (listed : Array Bool), listed.size = ops.size → Region.ready .any ops listed = [] → left ops ops.size listed = [] := fun listed hs hr => by
    cases hl : left ops ops.size listed with
    | nil => rfl
    | cons x l' =>
      exfalso
      obtain ⟨i, o⟩ := x
      have hmem : (i, o) ∈ left ops ops.size listed := by rw [hl]; simp
      obtain ⟨h1, h2, h3⟩ := mem_left.1 hmem
      simp only at h1 h2 h3
      have hready : i ∈ Region.ready .any ops listed := by
        rw [mem_ready]
        refine ⟨h3, o, h2, fun e he hb => ?_⟩
        have hlt := back_spec (hback i h1) h2 e he hb
        cases hle : listed.getD e.on false with
        | true => rfl
        | false =>
          have hsz : e.on < listed.size := by omega
          have h4 : listed.getD e.on true = false := by simp [hsz] at hle ⊢; exact hle
          have hm2 : (e.on, ops[e.on]'(by omega)) ∈ left ops ops.size listed := mem_left.2 ⟨by simp only; omega, by simp, h4⟩
          have hsort := left_sorted (ops := ops) ops.size listed
          rw [hl] at hsort hm2
          rcases List.mem_cons.1 hm2 with h | h
          · simp only [Prod.mk.injEq] at h; omega
          · have := (List.pairwise_cons.1 hsort).1 _ h; simp at this; omega
      rw [hr] at hready; cases hready
  intro fuel
  induction fuel with
  | zero =>
    intro s listed a w hsr hfu hs hcl hr hst
    have hnil := List.eq_nil_of_length_eq_zero (Nat.le_zero.1 hfu)
    refine ⟨?_, done s listed a w hsr hnil hs hr hst⟩
    cases hrd : Region.ready .any ops listed with
    | nil => rfl
    | cons i l =>
      exfalso
      have hi : i ∈ Region.ready .any ops listed := by rw [hrd]; simp
      obtain ⟨hun, o, ho, _⟩ := mem_ready.1 hi
      have : (i, o) ∈ left ops ops.size listed := mem_left.2 ⟨(Array.getElem?_eq_some_iff.1 ho).1, ho, hun⟩
      rw [hnil] at this; cases this
  | succ fuel ih =>
    intro s listed a w hsr hfu hs hcl hr hst
    refine ⟨fun hrd => done s listed a w hsr (noready listed hs hrd) hs hr hst, fun i hi => ?_⟩
    obtain ⟨hun, o, ho, _⟩ := mem_ready.1 hi
    have hio := (Array.getElem?_eq_some_iff.1 ho).1
    have hmem : (i, o) ∈ left ops ops.size listed := mem_left.2 ⟨hio, ho, hun⟩
    obtain ⟨l1, l2, hl12⟩ := List.append_of_mem hmem
    have hset := left_set hs hio hl12
    have hlen : (l1 ++ l2).length + 1 = (left ops ops.size listed).length := by rw [hl12]; simp; omega
    obtain ⟨o', ho', Fk, hFk, hcase⟩ := hv i hio
    rw [ho] at ho'
    obtain rfl := Option.some.inj ho'
    have hlooks : ∀ t ∈ o.looksAt ops, Fk t = mixF (lisB ops listed) Fe F0 t := fun t ht => by
      rw [hFk t]
      unfold mixF
      have hlk : looksAtB ops i t = true := by unfold looksAtB; rw [ho]; simpa using ht
      have : befB ops i t = lisB ops listed t := by
        rw [Bool.eq_iff_iff]
        unfold lisB befB
        simp only [List.any_eq_true, List.mem_range, Bool.and_eq_true]
        constructor
        · rintro ⟨j, h1, h2⟩
          have h2' : dstAt ops j = some t := by simpa using h2
          exact ⟨j, by omega, edgeT_listed hcl hi ((hlook i j t hio (by omega) h2' hlk).1 h1), h2⟩
        · rintro ⟨j, h1, h2, h3⟩
          have h3' : dstAt ops j = some t := by simpa using h3
          refine ⟨j, ?_, h3⟩
          rcases Nat.lt_trichotomy j i with h | h | h
          · exact h
          · exfalso; subst h; rw [listed_false hs h1 h2] at hun; cases hun
          · exfalso
            have he := (hlook i j t hio h1 h3' hlk).2 h
            have := listed_false hs hio (edgeT_on hcl h2 he)
            rw [this] at hun; cases hun
      rw [this]
    have hmix : ∀ d, o.dst = some d → upd (mixF (lisB ops listed) Fe F0) d (Fe d) = mixF (lisB ops (listed.setIfInBounds i true)) Fe F0 := fun d hd => by
      funext t
      unfold mixF
      rw [lisB_set hs ho, hd]
      by_cases ht : t = d
      · subst ht; rw [upd_eq]; simp
      · rw [upd_ne ht]
        have : (some d == some t) = false := by simpa using fun e => ht e.symm
        rw [this, Bool.or_false]
    have hmix0 : o.dst = none → mixF (lisB ops listed) Fe F0 = mixF (lisB ops (listed.setIfInBounds i true)) Fe F0 := fun hd => by
      funext t
      unfold mixF
      rw [lisB_set hs ho, hd]
      simp
    rcases hcase with ⟨hnr, d, hd, hdn, hds⟩ | ⟨u, sv, hu, hsv, hts⟩
    · have hds' := hds.frame hlooks
      obtain ⟨hdef, hn, m, h1, h2, h3, h4, h5⟩ := hst
      refine hds'.wp ho hd hn h1 h2.tail h5 fun v m' w' hv' hm' hH' r => ?_
      refine ih s _ _ _ hsr (by rw [hset]; omega) (by simpa using hs) (hcl.step hi) (fun u k hk => ?_) ?_
      · have hki : i ≠ k := fun e => by
          have : rs.contains i = true := by rw [e]; exact List.contains_iff_mem.2 (List.mem_of_getElem? hk)
          rw [hnr] at this; cases this
        rw [getD_set_ne true hki]
        exact hr u k hk
      · rw [← hmix d hd]
        exact St.put (Nat.blt_eq.mp hdn) hdef hn h2 h3 h4 h5 hv' hm' (h2.beside hH' r) (r.mono fun b hb => by unfold keys at *; rw [List.map_append]; exact List.mem_append_right _ hb)
    · have hus : u = s := by
        rcases Nat.lt_trichotomy u s with h | h | h
        · exfalso
          have := (hr u i hu).2 h
          rw [hun] at this; cases this
        · exact h
        · exfalso
          have hul := (List.getElem?_eq_some_iff.1 hu).1
          have h1 : rs[s]? = some (rs[s]'(by omega)) := by simp
          have h2 := ((hrow u i hu).2 s _ h h1).1
          have h3 := listed_false hs (hrow s _ h1).1 (edgeT_listed hcl hi h2)
          have := (hr s _ h1).1 h3
          omega
      subst hus
      have hul := (List.getElem?_eq_some_iff.1 hu).1
      refine hts _ hlooks a w hst Q' _ fun a' w' hst' => ?_
      refine ih (u + 1) _ _ _ hul (by rw [hset]; omega) (by simpa using hs) (hcl.step hi) (fun x k hk => ?_) ?_
      · by_cases hki : i = k
        · subst hki
          have hx : x = u := by
            rcases Nat.lt_trichotomy x u with h | h | h
            · have := ((hrow u i hu).2 x _ h hk).2; omega
            · exact h
            · have := ((hrow x i hk).2 u _ h hu).2; omega
          subst hx
          simp [hs, hio]
        · rw [getD_set_ne true hki, hr x k hk]
          constructor
          · intro h; omega
          · intro h
            rcases Nat.lt_or_ge x u with h' | h'
            · exact h'
            · exfalso
              have : x = u := by omega
              subst this
              rw [hu] at hk
              exact hki (Option.some.inj hk)
      · unfold dstf at hst'
        cases hd : o.dst with
        | none => rw [hd] at hst'; rw [← hmix0 hd]; exact hst'
        | some d =>
          rw [hd] at hst'
          simp only at hst'
          rw [hsv d hd] at hst'
          rw [← hmix d hd]; exact hst'
attribute [local semireducible] WP WPL Dk PuH
def Mk (P : Program) (C : Ctx) (n : Nat) (ops : Array Oper) (rs : List Nat) (Hc : LH) (E : Nat → LH) (i s : Nat) (l : List Oper) (K : Fr → Prop) (F : Fr) : Prop := ∃ Fe, Mx P C n ops rs Hc E i s l F Fe ∧ K Fe
theorem WdM {id : Nat} {l : List Oper} (rs : List Nat) (Hc : LH) (E : Nat → LH) (h : Mk P C n l.toArray rs Hc E 0 0 l (fun Fe => Q .normal Fe (E rs.length ++ Hc)) F) (h0 : E 0 ++ Hc = H := by exact rfl) (hm : P.follows .mixedOrders = true := by kernel_rfl) (hchk : mixOk l.toArray rs = true := by decide +kernel) :
    WP P C n (.region id l.toArray true) Q F H := by
  obtain ⟨Fe, hx, hQ⟩ := h
  intro a w hs
  subst h0
  refine wp_region_any hm ?_
  refine mixRun (C := C) (n := n) (F0 := F) (Fe := Fe) (rs := rs) (Hc := Hc) (E := E) hchk (fun k hk => hx.vld hchk (by simp) (fun t => by simp [mixF, befB]) k (Nat.zero_le _) hk) (fun t ht => hx.keep t fun o ho e => ?_) (fun a' w' hst => .mk hst hQ) l.toArray.size 0 _ a _ (Nat.zero_le _) ?_ (by simp) (fun m j hm => by by_cases hlt : m < l.length <;> simp [hlt] at hm) (fun u k hk => ?_) ?_
  · obtain ⟨j, hj, rfl⟩ := List.mem_iff_getElem.1 ho
    have : befB l.toArray l.toArray.size t = true := by
      unfold befB
      rw [List.any_eq_true]
      exact ⟨j, by simpa using hj, by rw [dstAt_of (o := l[j]) (by simp [hj]), e]; simp⟩
    rw [ht] at this; cases this
  · unfold left
    refine Nat.le_trans (List.length_filter_le _ _) ?_
    simp
  · have hkl := ((mixOk_spec hchk).2.2.2 u k hk).1
    have hkl' : k < l.length := by simpa using hkl
    simp [hkl']
  · obtain ⟨hdef, hn, m, h1, h2, h3, h4, h5⟩ := hs
    refine ⟨hdef, hn, m, ⟨h1.at', h1.base⟩, ⟨h2.1, h2.2⟩, ⟨h3.le, h3.old, h3.os, h3.tape, h3.output, h3.size, h3.block⟩, h4, fun t => ?_⟩
    have : lisB l.toArray (Array.replicate l.toArray.size false) t = false := by
      unfold lisB
      rw [List.any_eq_false]
      intro j hj
      have hj' : j < l.length := by simpa using hj
      simp [hj']
    unfold mixF
    rw [this]
    exact h5 t
section
variable {l : List Oper} {K : Fr → Prop} {i s : Nat}
theorem MkN (h : K F) : Mk P C n ops rs Hc E i s [] K F := ⟨F, .nil F, h⟩
def freeB (rs : List Nat) (i k : Nat) : Bool := (List.range k).all fun j => !rs.contains (i + j)
def mkD (P : Program) (C : Ctx) (n : Nat) (ops : Array Oper) (rs : List Nat) (Hc : LH) (E : Nat → LH) (i s : Nat) (l : List Oper) (K : Fr → Prop) : List NW → Fr → Prop := fun N F => N = [] ∧ Mk P C n ops rs Hc E i s l K F
theorem mkD0 (h : Mk P C n ops rs Hc E i s l K F) : mkD P C n ops rs Hc E i s l K [] F := ⟨rfl, h⟩
theorem Dr.mx {s : Nat} {Fe : Fr} : ∀ (k : Nat) (l : List Oper) (i : Nat) (F F' : Fr), freeB rs i k = true → k ≤ l.length → Dr P ops n Hc (preK i k l) [] F F' → Mx P C n ops rs Hc E (i + k) s (l.drop k) F' Fe → Mx P C n ops rs Hc E i s l F Fe
  | 0, l, i, F, F', _, _, h, hx => by
    cases h
    simpa using hx
  | k + 1, [], i, F, F', _, hk, _, _ => by simp at hk
  | k + 1, o :: l, i, F, F', hf, hk, h, hx => by
    have hfi : rs.contains i = false ∧ freeB rs (i + 1) k = true := by
      unfold freeB at hf ⊢
      simp only [List.all_eq_true, List.mem_range, Bool.not_eq_true'] at hf ⊢
      refine ⟨by simpa using hf 0 (by omega), fun j hj => ?_⟩
      have := hf (j + 1) (by omega)
      rwa [show i + (j + 1) = i + 1 + j from by omega] at this
    unfold preK at h
    cases h with
    | val hd hds hdn h =>
      exact .free hfi.1 hd hdn hds (Dr.mx k l (i + 1) _ _ hfi.2 (by simpa using hk) h (by rw [show i + 1 + k = i + (k + 1) from by omega]; simpa using hx))
theorem MkD (k : Nat) (h : Dk P ops n Hc (preK i k l) (mkD P C n ops rs Hc E (i + k) s (l.drop k) K) F) (hf : freeB rs i k = true := by exact rfl) (hk : Nat.ble k l.length = true := by exact rfl) : Mk P C n ops rs Hc E i s l K F := by
  obtain ⟨N, F', h1, rfl, Fe, hx, hK⟩ := h
  exact ⟨Fe, Dr.mx k l i F F' hf (Nat.le_of_ble_eq_true hk) h1 hx, hK⟩
theorem MkR {o : Oper} {sv : SV} (hts : TS P C n ops i o F (E s ++ Hc) sv (E (s + 1) ++ Hc)) (h : Mk P C n ops rs Hc E (i + 1) (s + 1) l K (dstf o F sv)) (hr : rs[s]? = some i := by exact rfl) : Mk P C n ops rs Hc E i s (o :: l) K F := by
  obtain ⟨Fe, hx, hK⟩ := h
  exact ⟨Fe, .row hr hts hx, hK⟩
theorem wp_agree {o : Oper} {a : Act} {w : World} {K' : Act → World → Prop} {Q1 Q2 : Exit → Act → World → Prop} (h : o.wp P a w K' Q1) (hp : ∀ ch a w, Q1 (.panic ch) a w → Q2 (.panic ch) a w) (ho : ∀ a w, Q1 .outgrown a w → Q2 .outgrown a w) : o.wp P a w K' Q2 := by
  unfold Oper.wp at *
  generalize (execOp a.eval o).run P w = r at *
  unfold Oper.upon at *
  split at h
  · exact h
  · exact h
  · exact h
  · refine Calls.mono h ?_
    intro e w'' he
    cases e with
    | returned v => exact he
    | panicked ch => exact hp _ _ _ he
    | outgrown => obtain ⟨a0, w0, h0⟩ := he; exact ⟨a0, w0, ho _ _ h0⟩
  · exact h
  · exact hp _ _ _ h
  · exact h.elim
theorem TS.call {i d : Nat} {f : FuncId} {la : List Operand} {tys : Array TypeId} {ty : TypeId} {pos : String} {aft : Array Edge} {svs : List SV} {Hin Hout Rs : LH} {res : SV} (hc : PuH P f svs Hin (fun r H => r = res ∧ H = Hout) noX) (ha : la.map (ev F) = svs) (hd : Nat.blt d n = true) (ho : ops[i]? = some ⟨some d, .call ⟨.value (.func f), la.toArray, tys⟩, ty, pos, aft, none⟩) :
    TS P C n ops i ⟨some d, .call ⟨.value (.func f), la.toArray, tys⟩, ty, pos, aft, none⟩ F (Hin ++ Rs) res (Hout ++ Rs) := by
  intro F1 hF a w hst Q' K' hK
  have ha' : la.map (ev F1) = svs := by
    rw [← ha]
    refine List.map_congr_left fun x hx => ?_
    exact ev_looks (o := ⟨some d, .call ⟨.value (.func f), la.toArray, tys⟩, ty, pos, aft, none⟩) (x := x) (by simp [Op.operands, Call.operands, hx]) hF
  have h := WPL.callHG (P := P) (C := { C with pan := noX }) (n := n) (F := F1) (H := Hin ++ Rs) (ops := ops) (rest := []) (d := d) (x := .func f) (s := lit (.func (.func f) #[] #[])) (f := f) (first := []) (caps := []) (l := la) (tys := tys) (ty := ty) (pos := pos) (aft := aft) (g := none)
    (K := fun F' H' => F' = upd F1 d res ∧ H' = Hout ++ Rs) rfl hc (Spl.app _ _) (by rw [List.nil_append, List.append_nil]; exact ha') hd (fun _ _ _ => rfl)
    (fun r H' ⟨hr, hH'⟩ => WPL.nil ⟨by rw [hr], by rw [hH']⟩) (fun _ _ h => h.elim)
  have h' := h a w hst (fun e a' w' => match e with | .normal => K' a' w' | e => False) ⟨fun a' w' F' H' hst' hKK => ?_, fun ch a' w' hp => ?_⟩
  · unfold wpOp
    rw [ho]
    unfold wpList at h'
    simp only [Region.wanted, if_true] at h' ⊢
    left
    rcases h' with h' | ⟨_, a0, w0, h0⟩
    · exact wp_agree h' (fun _ _ _ h => h.elim) (fun _ _ h => h.elim)
    · exact h0.elim
  · obtain ⟨rfl, rfl⟩ := hKK
    exact hK a' w' hst'
  · obtain ⟨_, _, _, _, _, _, _, _, _, _, _, hx⟩ := hp
    exact hx.elim
end
end
end Go.Ab
