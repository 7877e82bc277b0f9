/- A row of one's own: nothing, or a local block with room to spare; appending to it. -/
import Derived.Test.YtbcojehfealiaaaGreatDoorB03
set_option linter.unusedSectionVars false
set_option linter.unusedVariables false
set_option linter.unusedSimpArgs false
namespace Go.Ab
open Go.Proofs
variable [Base]
def Own (T : TypeId) (sz n : Nat) (cs : List SV) (s : SV) (H : LH) : Prop :=
  cs.length = n * sz ∧ ((n = 0 ∧ s = lit (.slice none 0 0) ∧ H = []) ∨
    ∃ b c, n ≤ c ∧ c ≤ maxLen ∧ s = lit (.slice (some ⟨b, 0, none⟩) n c) ∧ H = [(b, T, cs ++ List.replicate (c * sz - n * sz) top)])
theorem Own.nil (T : TypeId) (sz : Nat) : Own T sz 0 [] (lit (.slice none 0 0)) [] := ⟨by simp, .inl ⟨rfl, rfl, rfl⟩⟩
theorem ak.tops {m : Mem} : ∀ (l : List Value), (∀ v ∈ l, v.oneCell' = true) → ak m (List.replicate l.length top) l
  | [], _ => trivial
  | v :: l, h => ⟨⟨by unfold top; trivial, h v (by simp)⟩, ak.tops l fun u hu => h u (by simp [hu])⟩
theorem ak.topL {m : Mem} {l : List Value} {k : Nat} (hk : l.length = k) (h : ∀ v ∈ l, v.oneCell' = true) : ak m (List.replicate k top) l := hk ▸ ak.tops l h
theorem zeroCells_one {z : Array Value} {k : Nat} (h : z.toList.all (·.oneCell') = true) : ∀ v ∈ (Builtin.zeroCells z k).toList, v.oneCell' = true := by
  intro v hv
  simp only [Builtin.zeroCells, Array.toList_map, Array.toList_range, List.mem_map, List.mem_range] at hv
  obtain ⟨i, hi, rfl⟩ := hv
  have hp : 0 < z.size := Nat.pos_of_ne_zero fun e => by rw [e, Nat.mul_zero] at hi; omega
  have hlt : i % z.size < z.size := Nat.mod_lt _ hp
  rw [getElem!_pos z _ hlt]
  exact List.all_eq_true.1 h _ (by simp)
theorem ak.split {m : Mem} : ∀ {cs ds : List SV} {l : List Value}, ak m (cs ++ ds) l → ak m cs (l.take cs.length) ∧ ak m ds (l.drop cs.length)
  | [], _, l, h => ⟨trivial, h⟩
  | _ :: _, _, [], h => h.elim
  | _ :: _, _, _ :: _, h => ⟨⟨h.1, h.2.split.1⟩, h.2.split.2⟩
section
variable {P : Program} {C : Ctx} {n : Nat} {F : Fr} {H : LH} {ops : Array Oper} {K : Fr → LH → Prop} {rest : List Oper} {ty : TypeId} {pos : String} {aft : Array Edge}
theorem WPL.appOwn {T e : TypeId} {sz by_ : Nat} {z : List SV} {g : Bool} [hS : TSl P T e] [hT : TY P e sz by_ z g] {d : Nat} {x y : Operand} {n0 b2 c2 : Nat} {T' : TypeId} {cs ds : List SV} {s : SV} {Hs Rs : LH}
    (hown : Own e sz n0 cs s Hs) (hx : ev F x = s) (hy : ev F y = lit (.slice (some ⟨b2, 0, none⟩) 1 c2)) (hsp : Spl H Hs Rs) (hm : (b2, T', ds) ∈ Rs) (hds : ds.length = sz) (hpos : 0 < sz) (hl : n0 ≤ 1000000000) (hby : by_ ≤ 10000)
    (k : ∀ s' H', Own e sz (n0 + 1) (cs ++ ds) s' H' → WPL P C n ops rest K (upd F d s') (H' ++ Rs)) (hd : Nat.blt d n = true) :
    WPL P C n ops (⟨some d, .call ⟨.builtin .append, #[x, y], #[T, T]⟩, ty, pos, aft, none⟩ :: rest) K F H := by
  unfold WPL
  intro a w hs0 Q hq
  have hs := hs0.perm hsp.perm
  refine wpList_plain rfl fun K' hK' => ?_
  obtain ⟨hdef, hn, m0, h10, h20, h30, h40, h50⟩ := id hs
  have hp0 : ∀ x, (ev F x).p m0 (a.eval x) := fun x => by
    cases x with
    | tmp t => exact h50 t
    | const v => unfold ev lit; rfl
    | global g => unfold ev lit; rfl
    | func f => unfold ev lit; rfl
  have e0 := hp0 x; rw [hx] at e0
  have e1 := hp0 y; rw [hy, aj] at e1
  obtain ⟨_, arr2, hb2, hall2⟩ := h20.2 _ (List.mem_append_right Hs hm)
  obtain ⟨i, v, hi, hsz, hbyt, hz, hzl, hfl, hvs⟩ := hT.run_bytes
  have hlen2 := hall2.length
  simp only [Array.length_toList] at hlen2
  have hys : ∀ j u, arr2.toList[j]? = some u → w.cell? ((⟨b2, 0, none⟩ : Addr).add j) = some u := fun j u hj => by
    rw [aK, cv w b2 _ arr2 _ _ hb2]; simpa using hj
  have hexec : execOp a.eval (⟨some d, .call ⟨.builtin .append, #[x, y], #[T, T]⟩, ty, pos, aft, none⟩ : Oper) = (do let v ← Builtin.append_ #[T, T] ty #[a.eval x, a.eval y]; pure (.value v)) := by
    simp [execOp, resolve, invoke, builtin]
  have hmul : ∀ q, q ≤ 1000000001 → q * by_ ≤ 140737488355328 := fun q hq => Nat.le_trans (Nat.mul_le_mul hq hby) (by decide)
  have get2 : ∀ m, aI m w → HOk m w (Hs ++ Rs) → ak m ds arr2.toList := fun m _ h2 => by
    obtain ⟨_, arr2', hb2', hall2'⟩ := h2.2 _ (List.mem_append_right Hs hm)
    rw [hb2] at hb2'
    simp only [Option.some.injEq, Obj.cells.injEq] at hb2'
    obtain ⟨rfl, _⟩ := hb2'
    exact hall2'
  unfold Oper.wp
  rw [hexec, e1]
  obtain ⟨hcl, hcase⟩ := hown
  rcases hcase with ⟨rfl, rfl, rfl⟩ | ⟨b, c, hnc, hcm, rfl, rfl⟩
  · rw [aj] at e0
    have hcs : cs = [] := List.eq_nil_of_length_eq_zero (by rw [hcl, Nat.zero_mul])
    subst hcs
    have hrun := run_append_nil (P := P) w T ty e i v hS.h hi hz ⟨b2, 0, none⟩ 1 c2 arr2.toList (by rw [Array.length_toList, hlen2, hsz, hds, Nat.one_mul]) hys (by omega) (by omega) (by rw [hbyt]; have := hmul 1 (by omega); omega)
    rw [e0]
    simp only [Sem.run_bind, hrun, Result.andThen_ok, Sem.run_pure]
    have hge := grownCap_ge w 1 0 e
    have hle := grownCap_le_maxLen w 1 0 e (by simp only [maxLen]; omega)
    have h := k (lit (.slice (some ⟨w.heap.size, 0, none⟩) 1 (grownCap w 1 0 e))) [(w.heap.size, e, ([] ++ ds) ++ List.replicate (grownCap w 1 0 e * sz - 1 * sz) top)] ⟨by rw [List.nil_append, hds]; omega, .inr ⟨_, _, hge, hle, rfl, by rw [Nat.zero_add]⟩⟩
    unfold WPL at h
    refine hK' _ _ (h _ _ (St.pushD (Nat.blt_eq.mp hd) hs fun m h1 h2 _ => ?_) Q hq)
    simp only [Array.toList_append, List.toList_toArray, List.nil_append]
    refine (get2 m h1 h2).append (ak.topL ?_ (zeroCells_one hfl))
    rw [Array.length_toList, size_zeroCells, hvs, Nat.sub_mul]
  · rw [aj] at e0
    obtain ⟨hmb, arr, hb, hall⟩ := h20.2 _ (List.mem_append_left Rs (List.mem_singleton.2 rfl))
    have hlen := hall.length
    simp only [List.length_append, List.length_replicate, hcl, Array.length_toList] at hlen
    have hmono : n0 * sz ≤ c * sz := Nat.mul_le_mul_right _ hnc
    have getc : ∀ m, HOk m w ([(b, e, cs ++ List.replicate (c * sz - n0 * sz) top)] ++ Rs) → ak m (cs ++ List.replicate (c * sz - n0 * sz) top) arr.toList := fun m h2 => by
      obtain ⟨_, arr', hb', hall'⟩ := h2.2 _ (List.mem_append_left Rs (List.mem_singleton.2 rfl))
      rw [hb] at hb'
      simp only [Option.some.injEq, Obj.cells.injEq] at hb'
      obtain ⟨rfl, _⟩ := hb'
      exact hall'
    by_cases hroom : n0 + 1 ≤ c
    · have hm1 : (n0 + 1) * sz ≤ c * sz := Nat.mul_le_mul_right _ hroom
      rw [Nat.succ_mul] at hm1
      have hrun := run_append_room (P := P) w T ty e i hS.h hi b n0 c arr hb ⟨b2, 0, none⟩ 1 c2 arr2.toList (by rw [Array.length_toList, hlen2, hsz, hds, Nat.one_mul]) hys hall2.flat hroom (by rw [hsz, Array.length_toList, hlen2, hds]; omega)
      rw [e0]
      simp only [Sem.run_bind, hrun, Result.andThen_ok, Sem.run_pure]
      have h := k (lit (.slice (some ⟨b, 0, none⟩) (n0 + 1) c)) [(b, e, (cs ++ ds) ++ List.replicate (c * sz - (n0 + 1) * sz) top)] ⟨by rw [List.length_append, hcl, hds, Nat.succ_mul], .inr ⟨_, _, hroom, hcm, rfl, rfl⟩⟩
      unfold WPL at h
      have hfin : ak m0 ((cs ++ ds) ++ List.replicate (c * sz - (n0 + 1) * sz) top) (arr.toList.take (n0 * i.size) ++ arr2.toList ++ arr.toList.drop (n0 * i.size + arr2.toList.length)).toArray.toList := by
        obtain ⟨q1, q2⟩ := (getc m0 h20).split
        rw [hcl] at q1 q2
        rw [hsz, Array.length_toList, hlen2, hds, List.toList_toArray]
        refine (q1.append (get2 m0 h10 h20)).append (ak.topL ?_ fun u hu => ?_)
        · rw [List.length_drop, Array.length_toList, Nat.succ_mul]; omega
        · exact hall.flat u (List.mem_of_mem_drop hu)
      obtain ⟨q1, q2, q3, q4⟩ := iH (w' := w.setRow b (arr.toList.take (n0 * i.size) ++ arr2.toList ++ arr.toList.drop (n0 * i.size + arr2.toList.length)).toArray) h10 h20 h30 h40 (.here Rs)
        (setRow_heap w b arr _ e _ hb) (fun j hj => setRow_other w b j _ hj) rfl rfl ⟨rfl, rfl⟩ (by simp) hfin
      refine hK' _ _ (h (a.put (some d) (.slice (some ⟨b, 0, none⟩) (n0 + 1) c)) _ ⟨hdef, by simpa [Act.put] using hn, m0, q1, q2, q3, q4, fun t => ?_⟩ Q hq)
      rw [g9 (Nat.lt_of_lt_of_le (Nat.blt_eq.mp hd) hn)]
      unfold Ab.upd
      by_cases ht : t = d
      · subst ht; rw [if_pos rfl, Nat.beq_refl]; exact aj.2 rfl
      · rw [if_neg ht]
        have : Nat.beq t d = false := by
          cases hbb : Nat.beq t d with
          | false => rfl
          | true => exact absurd (Nat.eq_of_beq_eq_true hbb) ht
        rw [this]
        exact h50 t
    · have hxs : ∀ j u, (arr.toList.take (n0 * sz))[j]? = some u → w.cell? ((⟨b, 0, none⟩ : Addr).add j) = some u := fun j u hj => by
        rw [aK, cv w b _ arr _ _ hb]
        rw [List.getElem?_take] at hj
        split at hj
        · simpa using hj
        · cases hj
      have hrun := run_append_grow (P := P) w T ty e i v hS.h hi hz ⟨b, 0, none⟩ n0 c (arr.toList.take (n0 * sz)) (by rw [List.length_take, Array.length_toList, hsz]; omega) hxs
        ⟨b2, 0, none⟩ 1 c2 arr2.toList (by rw [Array.length_toList, hlen2, hsz, hds, Nat.one_mul]) hys (by omega) (by omega) (growslice_fits (by omega) (by rw [hbyt]; exact hmul _ (by omega)))
      rw [e0]
      simp only [Sem.run_bind, hrun, Result.andThen_ok, Sem.run_pure]
      have hge := grownCap_ge w (n0 + 1) c e
      have hle := grownCap_le_maxLen w (n0 + 1) c e (by simp only [maxLen]; omega)
      have h := k (lit (.slice (some ⟨w.heap.size, 0, none⟩) (n0 + 1) (grownCap w (n0 + 1) c e))) [(w.heap.size, e, (cs ++ ds) ++ List.replicate (grownCap w (n0 + 1) c e * sz - (n0 + 1) * sz) top)]
        ⟨by rw [List.length_append, hcl, hds, Nat.succ_mul], .inr ⟨_, _, hge, hle, rfl, rfl⟩⟩
      unfold WPL at h
      have hst := St.pushD (d := d) (cs := (cs ++ ds) ++ List.replicate (grownCap w (n0 + 1) c e * sz - (n0 + 1) * sz) top) (v := .slice (some ⟨w.heap.size, 0, none⟩) (n0 + 1) (grownCap w (n0 + 1) c e)) (T := e)
        (arr := (arr.toList.take (n0 * sz)).toArray ++ arr2.toList.toArray ++ Builtin.zeroCells v.cells (grownCap w (n0 + 1) c e - (n0 + 1))) (Nat.blt_eq.mp hd) hs fun m h1 h2 _ => ?_
      · refine hK' _ _ (h _ _ ?_ Q hq)
        exact hst.drop (.there _ (.here _))
      · simp only [Array.toList_append, List.toList_toArray]
        obtain ⟨q1, _⟩ := (getc m h2).split
        rw [hcl] at q1
        refine (q1.append (get2 m h1 h2)).append (ak.topL ?_ (zeroCells_one hfl))
        rw [Array.length_toList, size_zeroCells, hvs, Nat.sub_mul]
inductive Tk : LH → LH → LH → Prop
  | nil (R : LH) : Tk R [] R
  | same (R : LH) : Tk R R []
  | cons {b : Nat} {T : TypeId} {cs : List SV} {H H1 Hin R : LH} (h : ac b T cs H H1) (k : Tk H1 Hin R) : Tk H ((b, T, cs) :: Hin) R
  | skip (e : Nat × TypeId × List SV) {H Hin R : LH} (k : Tk H Hin R) : Tk (e :: H) Hin (e :: R)
theorem Tk.perm {H Hin R : LH} (h : Tk H Hin R) : H.Perm (Hin ++ R) := by
  induction h with
  | nil => exact List.Perm.refl _
  | same => rw [List.append_nil]
  | cons h _ ih => exact h.perm.trans (ih.cons _)
  | skip e _ ih => exact (ih.cons e).trans List.perm_middle.symm
theorem Spl.app : ∀ (Hin R : LH), Spl (Hin ++ R) Hin R
  | [], R => .nil R
  | (_, _, _) :: Hin, R => .cons (.here _) (Spl.app Hin R)
theorem WPL.perm {l : List Oper} {H' : LH} (hp : H.Perm H') (k : WPL P C n ops l K F H') : WPL P C n ops l K F H := by
  unfold WPL at *
  exact fun a w hs => k a w (hs.perm hp)
theorem WP.perm {c : Code} {H' : LH} {Q : Exit → Fr → LH → Prop} (hp : H.Perm H') (k : WP P C n c Q F H') : WP P C n c Q F H := by
  unfold WP at *
  exact fun a w hs => k a w (hs.perm hp)
theorem WfT {f : FuncId} {d : Nat} {l : List Operand} {tys : Array TypeId} {svs : List SV} {Hin Rs : LH} {R : SV → LH → Prop} (hc : PuH P f svs Hin R noX) (k : ∀ res H', R res H' → WPL P C n ops rest K (upd F d res) (Rs ++ H'))
    (ha : l.map (ev F) = svs := by exact rfl) (hs : Tk H Hin Rs := by (repeat (first | exact Tk.nil _ | exact Tk.same _ | (apply Tk.cons; (first | exact (ac.here _) | exact (ac.there _ (ac.here _)) | exact (ac.there _ (ac.there _ (ac.here _))) | exact (ac.there _ (ac.there _ (ac.there _ (ac.here _)))) | exact (ac.there _ (ac.there _ (ac.there _ (ac.there _ (ac.here _))))) | exact (ac.there _ (ac.there _ (ac.there _ (ac.there _ (ac.there _ (ac.here _)))))) | exact (ac.there _ (ac.there _ (ac.there _ (ac.there _ (ac.there _ (ac.there _ (ac.here _))))))) | exact (ac.there _ (ac.there _ (ac.there _ (ac.there _ (ac.there _ (ac.there _ (ac.there _ (ac.here _)))))))) | exact (ac.there _ (ac.there _ (ac.there _ (ac.there _ (ac.there _ (ac.there _ (ac.there _ (ac.there _ (ac.here _))))))))) | exact (ac.there _ (ac.there _ (ac.there _ (ac.there _ (ac.there _ (ac.there _ (ac.there _ (ac.there _ (ac.there _ (ac.here _)))))))))))) | apply Tk.skip))) (hd : Nat.blt d n = true := by exact rfl) :
    WPL P C n ops (⟨some d, .call ⟨.value (.func f), l.toArray, tys⟩, ty, pos, aft, none⟩ :: rest) K F H :=
  .perm hs.perm (.callH (s := lit (.func (.func f) #[] #[])) (first := []) (caps := []) rfl hc (Spl.app _ _) (by rw [List.nil_append, List.append_nil]; exact ha) hd (fun res H' h => .perm List.perm_append_comm (k res H' h)) fun _ _ h => h.elim)
theorem WvT {x : Operand} {f : FuncId} {first caps : List SV} {d : Nat} {l : List Operand} {tys : Array TypeId} {svs : List SV} {Hin Rs : LH} {R : SV → LH → Prop} (hc : PuH P f svs Hin R noX) (k : ∀ res H', R res H' → WPL P C n ops rest K (upd F d res) (Rs ++ H'))
    (hx : ev F x = fnv f first caps := by exact rfl) (ha : first ++ l.map (ev F) ++ caps = svs := by exact rfl) (hs : Tk H Hin Rs := by (repeat (first | exact Tk.nil _ | exact Tk.same _ | (apply Tk.cons; (first | exact (ac.here _) | exact (ac.there _ (ac.here _)) | exact (ac.there _ (ac.there _ (ac.here _))) | exact (ac.there _ (ac.there _ (ac.there _ (ac.here _)))) | exact (ac.there _ (ac.there _ (ac.there _ (ac.there _ (ac.here _))))) | exact (ac.there _ (ac.there _ (ac.there _ (ac.there _ (ac.there _ (ac.here _)))))) | exact (ac.there _ (ac.there _ (ac.there _ (ac.there _ (ac.there _ (ac.there _ (ac.here _))))))) | exact (ac.there _ (ac.there _ (ac.there _ (ac.there _ (ac.there _ (ac.there _ (ac.there _ (ac.here _)))))))) | exact (ac.there _ (ac.there _ (ac.there _ (ac.there _ (ac.there _ (ac.there _ (ac.there _ (ac.there _ (ac.here _))))))))) | exact (ac.there _ (ac.there _ (ac.there _ (ac.there _ (ac.there _ (ac.there _ (ac.there _ (ac.there _ (ac.there _ (ac.here _)))))))))))) | apply Tk.skip))) (hd : Nat.blt d n = true := by exact rfl) :
    WPL P C n ops (⟨some d, .call ⟨.value x, l.toArray, tys⟩, ty, pos, aft, none⟩ :: rest) K F H :=
  .perm hs.perm (.callH hx hc (Spl.app _ _) ha hd (fun res H' h => .perm List.perm_append_comm (k res H' h)) fun _ _ h => h.elim)
theorem Wown {T e : TypeId} {sz by_ : Nat} {z : List SV} {g : Bool} [hS : TSl P T e] [hT : TY P e sz by_ z g] {d : Nat} {x y : Operand} {n0 b2 c2 : Nat} {T' : TypeId} {cs ds : List SV} {s : SV} {Hs Rs : LH}
    (hown : Own e sz n0 cs s Hs) (hl : n0 ≤ 1000000000) (k : ∀ s' H', Own e sz (n0 + 1) (cs ++ ds) s' H' → WPL P C n ops rest K (upd F d s') (Rs ++ H'))
    (hx : ev F x = s := by exact rfl) (hy : ev F y = lit (.slice (some ⟨b2, 0, none⟩) 1 c2) := by exact rfl) (hsp : Tk H Hs Rs := by (repeat (first | exact Tk.nil _ | exact Tk.same _ | (apply Tk.cons; (first | exact (ac.here _) | exact (ac.there _ (ac.here _)) | exact (ac.there _ (ac.there _ (ac.here _))) | exact (ac.there _ (ac.there _ (ac.there _ (ac.here _)))) | exact (ac.there _ (ac.there _ (ac.there _ (ac.there _ (ac.here _))))) | exact (ac.there _ (ac.there _ (ac.there _ (ac.there _ (ac.there _ (ac.here _)))))) | exact (ac.there _ (ac.there _ (ac.there _ (ac.there _ (ac.there _ (ac.there _ (ac.here _))))))) | exact (ac.there _ (ac.there _ (ac.there _ (ac.there _ (ac.there _ (ac.there _ (ac.there _ (ac.here _)))))))) | exact (ac.there _ (ac.there _ (ac.there _ (ac.there _ (ac.there _ (ac.there _ (ac.there _ (ac.there _ (ac.here _))))))))) | exact (ac.there _ (ac.there _ (ac.there _ (ac.there _ (ac.there _ (ac.there _ (ac.there _ (ac.there _ (ac.there _ (ac.here _)))))))))))) | apply Tk.skip))) (hm : (b2, T', ds) ∈ Rs := by (first | exact List.mem_cons_self | exact (List.mem_cons_of_mem _ List.mem_cons_self) | exact (List.mem_cons_of_mem _ (List.mem_cons_of_mem _ List.mem_cons_self)) | exact (List.mem_cons_of_mem _ (List.mem_cons_of_mem _ (List.mem_cons_of_mem _ List.mem_cons_self))) | exact (List.mem_cons_of_mem _ (List.mem_cons_of_mem _ (List.mem_cons_of_mem _ (List.mem_cons_of_mem _ List.mem_cons_self)))) | exact (List.mem_cons_of_mem _ (List.mem_cons_of_mem _ (List.mem_cons_of_mem _ (List.mem_cons_of_mem _ (List.mem_cons_of_mem _ List.mem_cons_self))))) | exact (List.mem_cons_of_mem _ (List.mem_cons_of_mem _ (List.mem_cons_of_mem _ (List.mem_cons_of_mem _ (List.mem_cons_of_mem _ (List.mem_cons_of_mem _ List.mem_cons_self)))))) | exact (List.mem_cons_of_mem _ (List.mem_cons_of_mem _ (List.mem_cons_of_mem _ (List.mem_cons_of_mem _ (List.mem_cons_of_mem _ (List.mem_cons_of_mem _ (List.mem_cons_of_mem _ List.mem_cons_self))))))) | exact (List.mem_cons_of_mem _ (List.mem_cons_of_mem _ (List.mem_cons_of_mem _ (List.mem_cons_of_mem _ (List.mem_cons_of_mem _ (List.mem_cons_of_mem _ (List.mem_cons_of_mem _ (List.mem_cons_of_mem _ List.mem_cons_self)))))))) | exact (List.mem_cons_of_mem _ (List.mem_cons_of_mem _ (List.mem_cons_of_mem _ (List.mem_cons_of_mem _ (List.mem_cons_of_mem _ (List.mem_cons_of_mem _ (List.mem_cons_of_mem _ (List.mem_cons_of_mem _ (List.mem_cons_of_mem _ List.mem_cons_self))))))))))) (hds : ds.length = sz := by exact rfl) (hpos : 0 < sz := by decide) (hby : by_ ≤ 10000 := by decide)
    (hd : Nat.blt d n = true := by exact rfl) :
    WPL P C n ops (⟨some d, .call ⟨.builtin .append, #[x, y], #[T, T]⟩, ty, pos, aft, none⟩ :: rest) K F H :=
  .perm hsp.perm (.appOwn hown hx hy (Spl.app _ _) hm hds hpos hl hby (fun s' H' h => .perm List.perm_append_comm (k s' H' h)) hd)
theorem Own.co {T : TypeId} {sz n0 : Nat} {cs : List SV} {s : SV} {Hs : LH} (h : Own T sz n0 cs s Hs) : CO s [s] := by
  obtain ⟨_, ⟨_, rfl, _⟩ | ⟨_, _, _, _, rfl, _⟩⟩ := h <;> exact fy fun m v hv => by rw [aj] at hv; subst hv; exact ⟨rfl, rfl⟩
theorem ov_lenOwn {T e : TypeId} {sz n0 : Nat} {cs : List SV} {s : SV} {Hs : LH} {x : Operand} [hS : TSl P T e] (h : Own e sz n0 cs s Hs) (hx : ev F x = s) : OpV P (.call ⟨.builtin .len, #[x], #[T]⟩) ty F H (lit (.int .i64 n0)) := by
  obtain ⟨_, ⟨rfl, rfl, _⟩ | ⟨_, _, _, _, rfl, _⟩⟩ := h
  · exact ug hx
  · exact ug hx
end
end Go.Ab
