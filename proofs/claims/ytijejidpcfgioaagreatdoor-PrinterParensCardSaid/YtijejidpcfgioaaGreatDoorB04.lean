/- Texts laid one behind the other: Fld, Bld, RefA, RefB, RefC. -/
import Derived.Test.YtijejidpcfgioaaGreatDoorB03
import Derived.Lib.AppendStr
import Derived.Lib.UnsafeStr
import Derived.Lib.Builder
import Derived.Laws.Externs
/- A field of a struct value that is itself a struct; make in a drawn region. -/
namespace Go.Ab
open Go.Proofs
set_option linter.unusedSectionVars false
set_option linter.unusedVariables false
set_option linter.unusedSimpArgs false
variable [Base]
section
variable {P : Program} {F : Fr} {H : LH} {ty : TypeId}
end
end Go.Ab
/- Rows of bytes of one's own; strings.Builder at the head of a block. -/
namespace Go.Ab
open Go.Proofs
set_option linter.unusedSectionVars false
set_option linter.unusedVariables false
set_option linter.unusedSimpArgs false
variable [Base]
def bys (l : List UInt8) : List SV := l.map fun b => lit (.int .u8 (b.toNat : Nat))
theorem bys_len (l : List UInt8) : (bys l).length = l.length := by simp [bys]
theorem bys_append (a b : List UInt8) : bys (a ++ b) = bys a ++ bys b := by simp [bys]
/-- bytes in a row of one's own: nothing, or a local block with room to spare -/
def Byt (l : List UInt8) (s : SV) (H : LH) : Prop :=
  (l = [] ∧ s = lit (.slice none 0 0) ∧ H = []) ∨
    l ≠ [] ∧ ∃ b c, l.length ≤ c ∧ c ≤ maxLen ∧ s = lit (.slice (some ⟨b, 0, none⟩) l.length c) ∧ H = [(b, 5, bys l ++ List.replicate (c - l.length) top)]
theorem Byt.nil : Byt [] (lit (.slice none 0 0)) [] := .inl ⟨rfl, rfl, rfl⟩
theorem Byt.co {l : List UInt8} {s : SV} {H : LH} (h : Byt l s H) : CO s [s] := by
  rcases h with ⟨_, rfl, _⟩ | ⟨_, b, c, _, _, rfl, _⟩ <;> infer_instance
theorem strCells_bys {m : Mem} (l : List UInt8) : All2 m (bys l) (Lib.strCells ⟨l.toArray⟩) := by
  unfold bys Lib.strCells
  simp only [List.toList_toArray]
  induction l with
  | nil => trivial
  | cons b l ih => exact ⟨⟨by rw [lit_p], rfl⟩, ih⟩
section
variable {P : Program} {C : Ctx} {n : Nat} {F : Fr} {H : LH} {ops : Array Oper} {K : Fr → LH → Prop} {rest : List Oper} {ty : TypeId} {pos : String} {aft : Array Edge}
theorem run_append_nil_empty {P : Program} (w : World) (t u ty e : TypeId) (i : TypeInfo) (ht : P.underlying t = some (.slice e)) (hu : P.underlying u = some .string) (hi : P.info? e = some i) :
    (Builtin.append_ #[t, u] ty #[.slice none 0 0, .string ⟨#[]⟩]).run P w = .ok (.slice none 0 0) w := by
  simp [Builtin.append_, run_underlying ht, run_underlying hu, sizeOf, typeInfo, hi, Builtin.lenOf, Builtin.firstCells, ByteArray.size]
/-- appending a string to bytes of one's own -/
theorem WPL.appStr {T U : TypeId} [hS : TSl P T 5] {z : List SV} {g : Bool} [hT : TY P 5 1 1 z g] [hU : TSr P U] {d : Nat} {x y : Operand} {l t : List UInt8} {s : SV} {Hs Rs : LH}
    (hown : Byt l s Hs) (hx : ev F x = s) (hy : ev F y = str t) (hsp : H.Perm (Hs ++ Rs)) (hl : l.length + t.length ≤ 1000000000)
    (k : ∀ s' H', Byt (l ++ t) s' H' → WPL P C n ops rest K (upd F d s') (H' ++ Rs)) (hd : Nat.blt d n = true) :
    WPL P C n ops (⟨some d, .call ⟨.builtin .append, #[x, y], #[T, U]⟩, ty, pos, aft, none⟩ :: rest) K F H := by
  unfold WPL
  intro a w hs0 Q hq
  have hs := hs0.perm hsp
  refine wpList_plain rfl fun K' hK' => ?_
  obtain ⟨hdef, hn, m0, h10, h20, h30, h40, h50⟩ := id hs
  have hp0 : ∀ x, (ev F x).p m0 (a.eval x) := fun x => by
    cases x with
    | tmp t => exact h50 t
    | const v => unfold ev lit; rfl
    | global g => unfold ev lit; rfl
    | func f => unfold ev lit; rfl
  have e0 := hp0 x; rw [hx] at e0
  have e1 := hp0 y; rw [hy, lit_p] at e1
  obtain ⟨i, v, hi, hsz, hbyt, hz, hzl, hfl, hvs⟩ := hT.run_bytes
  have hexec : execOp a.eval (⟨some d, .call ⟨.builtin .append, #[x, y], #[T, U]⟩, ty, pos, aft, none⟩ : Oper) = (do let v ← Builtin.append_ #[T, U] ty #[a.eval x, a.eval y]; pure (.value v)) := by
    simp [execOp, resolve, invoke, builtin]
  have hss : (⟨t.toArray⟩ : ByteArray).size = t.length := ba_size t
  unfold Oper.wp
  rw [hexec, e1]
  rcases hown with ⟨rfl, rfl, rfl⟩ | ⟨hne, b, c, hnc, hcm, rfl, rfl⟩
  · rw [lit_p] at e0
    by_cases ht : t = []
    · subst ht
      have hrun := run_append_nil_empty (P := P) w T U ty 5 i hS.h hU.h hi
      rw [e0]
      simp only [Sem.run_bind, hrun, Result.andThen_ok, Sem.run_pure]
      have h := k (lit (.slice none 0 0)) [] Byt.nil
      unfold WPL at h
      refine hK' _ _ (h (a.put (some d) (.slice none 0 0)) w ⟨hdef, by simpa [Act.put] using hn, m0, h10, h20, h30, h40, fun t => ?_⟩ Q hq)
      rw [getD_put (Nat.lt_of_lt_of_le (Nat.blt_eq.mp hd) hn)]
      unfold Ab.upd
      by_cases ht : t = d
      · subst ht; rw [if_pos rfl, Nat.beq_refl]; exact lit_p.2 rfl
      · rw [if_neg ht]
        have : Nat.beq t d = false := by
          cases hbb : Nat.beq t d with
          | false => rfl
          | true => exact absurd (Nat.eq_of_beq_eq_true hbb) ht
        rw [this]
        exact h50 t
    · have hpos : 0 < t.length := List.length_pos_iff.2 ht
      have hrun := run_append_nil_string (P := P) w T U ty 5 i v hS.h hU.h hi hz ⟨t.toArray⟩ (by omega) (by rw [hss]; simp only [List.length_nil] at hl; omega) (by rw [hss, hbyt]; simp only [List.length_nil] at hl; omega)
      rw [hss] at hrun
      rw [e0]
      simp only [Sem.run_bind, hrun, Result.andThen_ok, Sem.run_pure]
      have hge := grownCap_ge w t.length 0 5
      have hle := grownCap_le_maxLen w t.length 0 5 (by simp only [maxLen]; simp only [List.length_nil] at hl; omega)
      have h := k (lit (.slice (some ⟨w.heap.size, 0, none⟩) t.length (grownCap w t.length 0 5))) [(w.heap.size, 5, bys t ++ List.replicate (grownCap w t.length 0 5 - t.length) top)] (.inr ⟨ht, _, _, hge, hle, rfl, rfl⟩)
      unfold WPL at h
      refine hK' _ _ (h _ _ (St.pushD (Nat.blt_eq.mp hd) hs fun m h1 h2 _ => ?_) Q hq)
      have e2 : (Array.map (fun b : UInt8 => Value.int .u8 b.toNat) (⟨t.toArray⟩ : ByteArray).data ++ Builtin.zeroCells v.cells (grownCap w t.length 0 5 - t.length)).toList = Lib.strCells ⟨t.toArray⟩ ++ (Builtin.zeroCells v.cells (grownCap w t.length 0 5 - t.length)).toList := by
        simp [Lib.strCells]
      rw [e2]
      refine (strCells_bys t).append (All2.topL ?_ (zeroCells_one hfl))
      rw [Array.length_toList, size_zeroCells, hvs, Nat.mul_one]
  · rw [lit_p] at e0
    obtain ⟨hmb, arr, hb, hall⟩ := h20.2 _ (List.mem_append_left Rs (List.mem_singleton.2 rfl))
    have hlen := hall.length
    simp only [List.length_append, List.length_replicate, bys_len, Array.length_toList] at hlen
    have getc : ∀ m, HOk m w ([(b, 5, bys l ++ List.replicate (c - l.length) top)] ++ Rs) → All2 m (bys l ++ List.replicate (c - l.length) top) arr.toList := fun m h2 => by
      obtain ⟨_, arr', hb', hall'⟩ := h2.2 _ (List.mem_append_left Rs (List.mem_singleton.2 rfl))
      rw [hb] at hb'
      simp only [Option.some.injEq, Obj.cells.injEq] at hb'
      obtain ⟨rfl, _⟩ := hb'
      exact hall'
    have hne' : l ++ t ≠ [] := fun e => hne (List.append_eq_nil_iff.1 e).1
    by_cases hroom : l.length + t.length ≤ c
    · have hrun := Lib.run_append_room_string (P := P) w T U ty 5 i hS.h hU.h hi hsz b l.length c arr hb ⟨t.toArray⟩ (by rw [hss]; exact hroom) (by rw [hss]; omega)
      rw [hss] at hrun
      rw [e0]
      simp only [Sem.run_bind, hrun, Result.andThen_ok, Sem.run_pure]
      have h := k (lit (.slice (some ⟨b, 0, none⟩) (l.length + t.length) c)) [(b, 5, bys (l ++ t) ++ List.replicate (c - (l ++ t).length) top)] (.inr ⟨hne', _, _, by rw [List.length_append]; exact hroom, hcm, by rw [List.length_append], rfl⟩)
      unfold WPL at h
      have hfin : All2 m0 (bys (l ++ t) ++ List.replicate (c - (l ++ t).length) top) (arr.toList.take l.length ++ Lib.strCells ⟨t.toArray⟩ ++ arr.toList.drop (l.length + t.length)).toArray.toList := by
        obtain ⟨q1, q2⟩ := (getc m0 h20).split
        rw [bys_len] at q1 q2
        rw [List.toList_toArray, bys_append]
        refine (q1.append (strCells_bys t)).append (All2.topL ?_ fun u hu => ?_)
        · rw [List.length_drop, Array.length_toList, List.length_append]; omega
        · exact hall.flat u (List.mem_of_mem_drop hu)
      obtain ⟨q1, q2, q3, q4⟩ := write_ok (w' := w.setRow b (arr.toList.take l.length ++ Lib.strCells ⟨t.toArray⟩ ++ arr.toList.drop (l.length + t.length)).toArray) h10 h20 h30 h40 (.here Rs)
        (setRow_heap w b arr _ 5 _ hb) (fun j hj => setRow_other w b j _ hj) rfl rfl rfl (by simp) hfin
      refine hK' _ _ (h (a.put (some d) (.slice (some ⟨b, 0, none⟩) (l.length + t.length) c)) _ ⟨hdef, by simpa [Act.put] using hn, m0, q1, q2, q3, q4, fun t => ?_⟩ Q hq)
      rw [getD_put (Nat.lt_of_lt_of_le (Nat.blt_eq.mp hd) hn)]
      unfold Ab.upd
      by_cases ht : t = d
      · subst ht; rw [if_pos rfl, Nat.beq_refl]; exact lit_p.2 rfl
      · rw [if_neg ht]
        have : Nat.beq t d = false := by
          cases hbb : Nat.beq t d with
          | false => rfl
          | true => exact absurd (Nat.eq_of_beq_eq_true hbb) ht
        rw [this]
        exact h50 t
    · have hxs : ∀ j u, (arr.toList.take l.length)[j]? = some u → w.cell? ((⟨b, 0, none⟩ : Addr).add j) = some u := fun j u hj => by
        rw [add_none, cell_of w b _ arr _ _ hb]
        rw [List.getElem?_take] at hj
        split at hj
        · simpa using hj
        · cases hj
      have hrun := Lib.run_append_grow_string (P := P) w T U ty 5 i v hS.h hU.h hi hz ⟨b, 0, none⟩ l.length c (arr.toList.take l.length) (by rw [List.length_take, Array.length_toList (xs := arr), hsz]; omega) hxs ⟨t.toArray⟩
        (by rw [hss]; omega) (by rw [hss]; omega) (growslice_fits (by rw [hss]; omega) (by rw [hss, hbyt]; omega))
      rw [hss] at hrun
      rw [e0]
      simp only [Sem.run_bind, hrun, Result.andThen_ok, Sem.run_pure]
      have hge := grownCap_ge w (l.length + t.length) c 5
      have hle := grownCap_le_maxLen w (l.length + t.length) c 5 (by simp only [maxLen]; omega)
      have h := k (lit (.slice (some ⟨w.heap.size, 0, none⟩) (l.length + t.length) (grownCap w (l.length + t.length) c 5))) [(w.heap.size, 5, bys (l ++ t) ++ List.replicate (grownCap w (l.length + t.length) c 5 - (l ++ t).length) top)]
        (.inr ⟨hne', _, _, by rw [List.length_append]; exact hge, hle, by rw [List.length_append], rfl⟩)
      unfold WPL at h
      have hst := St.pushD (d := d) (cs := bys (l ++ t) ++ List.replicate (grownCap w (l.length + t.length) c 5 - (l ++ t).length) top) (v := .slice (some ⟨w.heap.size, 0, none⟩) (l.length + t.length) (grownCap w (l.length + t.length) c 5)) (T := 5)
        (arr := (arr.toList.take l.length).toArray ++ (Lib.strCells ⟨t.toArray⟩).toArray ++ Builtin.zeroCells v.cells (grownCap w (l.length + t.length) c 5 - (l.length + t.length))) (Nat.blt_eq.mp hd) hs fun m h1 h2 _ => ?_
      · refine hK' _ _ (h _ _ ?_ Q hq)
        exact hst.drop (.there _ (.here _))
      · simp only [Array.toList_append, List.toList_toArray]
        obtain ⟨q1, _⟩ := (getc m h2).split
        rw [bys_len] at q1
        rw [bys_append]
        refine (q1.append (strCells_bys t)).append (All2.topL ?_ (zeroCells_one hfl))
        rw [Array.length_toList, size_zeroCells, hvs, Nat.mul_one, List.length_append]
theorem ov_pneS {T te T' : TypeId} [hp : TPt P T te] {x y : Operand} {a : Addr} (hi : (P.info? te).isSome = true) (hx : ev F x = lit (.pointer (some a))) (hy : ev F y = lit (.pointer (some a))) : OpV P (.binOp .neq T x y T') ty F H (lit (.bool false)) := by
  obtain ⟨j, hj⟩ := Option.isSome_iff_exists.1 hi
  exact ov_bin hx hy (fun w => Lib.run_neq_ptr_same w a hp.h hj) (fun w => by simp [Go.eqGuard])
theorem shape_of {m : Mem} {w : World} {b : Nat} {T : TypeId} {cs : List SV} (h : CellsOk m w b T cs) : w.shape? b = some (T, cs.length) := by
  obtain ⟨arr, hb, hall⟩ := h
  have := hall.length
  simp only [Array.length_toList] at this
  simp [World.shape?, hb, this]
theorem ov_toUns {S D t T : TypeId} [hs : TPt P S t] {x : Operand} {b o : Nat} {cs : List SV} (hd : P.underlying D = some .unsafePointer) (ht : (P.info? t).any (fun j => !(j.size == 0)) = true) (hm : (b, T, cs) ∈ H) (ho : Nat.blt o cs.length = true)
    (hx : ev F x = lit (.pointer (some ⟨b, o, none⟩))) : OpV P (.convert S D x) ty F H (lit (.pointer (some ⟨b, o, none⟩))) :=
  OpV.pure fun m w c a hop _ _ hH h => by
    have h0 := h x (by simp [Op.operands]); rw [hx, lit_p] at h0
    have hsh := shape_of (hH.2 _ hm).2
    cases hi : P.info? t with
    | none => rw [hi] at ht; cases ht
    | some j =>
      rw [hi] at ht
      have hj : j.size ≠ 0 := by simpa using ht
      have := Lib.run_to_unsafe (P := P) w ⟨b, o, none⟩ hs.h hd hi hj hsh (Nat.blt_eq.mp ho)
      exact ⟨_, by simp [execOp, hop, h0, this], lit_p.2 rfl⟩
theorem ov_ofUns {S D u T : TypeId} [hd : TPt P D u] {x : Operand} {b o : Nat} {cs : List SV} (hs : P.underlying S = some .unsafePointer) (hu : (P.info? u).isSome = true) (hm : (b, T, cs) ∈ H) (hl : liesAt P P.depth T (cs.length / P.cellsOf T) o u 1 = true)
    (hx : ev F x = lit (.pointer (some ⟨b, o, none⟩))) : OpV P (.convert S D x) ty F H (lit (.pointer (some ⟨b, o, none⟩))) :=
  OpV.pure fun m w c a hop _ _ hH h => by
    have h0 := h x (by simp [Op.operands]); rw [hx, lit_p] at h0
    have hsh := shape_of (hH.2 _ hm).2
    obtain ⟨j, hj⟩ := Option.isSome_iff_exists.1 hu
    have := Lib.run_from_unsafe (P := P) w ⟨b, o, none⟩ hs hd.h hj hsh hl
    exact ⟨_, by simp [execOp, hop, h0, this], lit_p.2 rfl⟩
end
section
variable {F : Fr} {H : LH} {ty : TypeId}
theorem ov_noEsc {x : Operand} {s : SV} {tys : Array TypeId} (hx : ev F x = s) : OpV Tryz.prog (.call ⟨.value (.func 202), [x].toArray, tys⟩) ty F H s :=
  OpV.pure fun m w o a ho _ _ _ h => by
    have h0 := h x (by simp [Op.operands, Call.operands]); rw [hx] at h0
    have h8 := @run_callFunc_extern Tryz.prog 202 _ Extern.AbiNoEscape.same Tryz.func202 (by kernel_rfl) (by kernel_rfl) (by kernel_rfl) (by kernel_rfl)
    refine ⟨_, ?_, h0⟩
    have := h8 #[a.eval x] w
    rw [Lib.run_noEscape] at this
    simp only [execOp, ho, resolve, Sem.run_bind, Sem.run_pure, Result.andThen_ok]
    have e1 : a.eval (.func 202) = .func (.func 202) #[] #[] := rfl
    simp only [e1, Deferred.ofValue, Sem.run_pure, Result.andThen_ok, invoke, List.map_toArray, List.map_cons, List.map_nil, Array.empty_append, Array.append_empty, this]
end
/-- a writer: its builder's address, its buffer, its depth, whether a number is too long -/
abbrev wrC (a s : SV) (d : Nat) (lg : Bool) : List SV := [a, s, lit (.int .i64 (d : Int)), lit (.bool lg)]
abbrev self (w : Nat) : SV := lit (.pointer (some ⟨w, 0, none⟩))
abbrev fresh : SV := lit (.pointer none)
section
variable {P : Program} {C : Ctx} {n : Nat} {F : Fr} {H : LH} {ops : Array Oper} {K : Fr → LH → Prop} {rest : List Oper} {ty : TypeId} {pos : String} {aft : Array Edge}
theorem end0 : Ends P [] (Ab.tup []) F H := ⟨[], trivial, Le.refl _⟩
/-- a call over some blocks: what it leaves stands ahead of the rest -/
theorem WfH {f : FuncId} {d : Nat} {l : List Operand} {tys : Array TypeId} {svs : List SV} {Hin Rs : LH} {R : SV → LH → Prop} (hc : PuH P f svs Hin R noX) (k : ∀ res H', R res H' → WPL P C n ops rest K (upd F d res) (H' ++ Rs))
    (ha : l.map (ev F) = svs := by exact rfl) (hs : Tk H Hin Rs := by (repeat (first | exact Tk.nil _ | exact Tk.same _ | (apply Tk.cons; (first | exact (HDel.here _) | exact (HDel.there _ (HDel.here _)) | exact (HDel.there _ (HDel.there _ (HDel.here _))) | exact (HDel.there _ (HDel.there _ (HDel.there _ (HDel.here _)))))) | apply Tk.skip))) (hd : Nat.blt d n = true := by exact rfl) :
    WPL P C n ops (⟨some d, .call ⟨.value (.func f), l.toArray, tys⟩, ty, pos, aft, none⟩ :: rest) K F H :=
  .perm hs.perm (.callH (s := lit (.func (.func f) #[] #[])) (first := []) (caps := []) rfl hc (Spl.app _ _) (by rw [List.nil_append, List.append_nil]; exact ha) hd (fun res H' h => k res H' h) fun _ _ h => h.elim)
end
theorem copyCheck_f (w : Nat) (s : SV) (d : Nat) (lg : Bool) : PuH Tryz.prog 172 [lit (.pointer (some ⟨w, 0, none⟩))] [(w, 190, wrC fresh s d lg)]
    (fun r H => r = Ab.tup [] ∧ H = [(w, 190, wrC (self w) s d lg)]) noX := by
  refine PuH.intro Tryz.func172 rfl (by kernel_rfl) fun C hC => ?_
  repeat (refine A1 ⟨?_⟩; intros)
  refine Wo (ov_toUns (by kernel_rfl) (by kernel_rfl) (by (first | exact List.mem_cons_self | exact (List.mem_cons_of_mem _ List.mem_cons_self) | exact (List.mem_cons_of_mem _ (List.mem_cons_of_mem _ List.mem_cons_self)) | exact (List.mem_cons_of_mem _ (List.mem_cons_of_mem _ (List.mem_cons_of_mem _ List.mem_cons_self))) | exact (List.mem_cons_of_mem _ (List.mem_cons_of_mem _ (List.mem_cons_of_mem _ (List.mem_cons_of_mem _ List.mem_cons_self)))) | exact (List.mem_cons_of_mem _ (List.mem_cons_of_mem _ (List.mem_cons_of_mem _ (List.mem_cons_of_mem _ (List.mem_cons_of_mem _ List.mem_cons_self))))) | exact (List.mem_cons_of_mem _ (List.mem_cons_of_mem _ (List.mem_cons_of_mem _ (List.mem_cons_of_mem _ (List.mem_cons_of_mem _ (List.mem_cons_of_mem _ List.mem_cons_self)))))) | exact (List.mem_cons_of_mem _ (List.mem_cons_of_mem _ (List.mem_cons_of_mem _ (List.mem_cons_of_mem _ (List.mem_cons_of_mem _ (List.mem_cons_of_mem _ (List.mem_cons_of_mem _ List.mem_cons_self))))))))) (by kernel_rfl) rfl) ?_
  refine Wo (ov_noEsc (s := lit (.pointer (some ⟨w, 0, none⟩))) rfl) ?_
  refine Wo (ov_ofUns (by kernel_rfl) (by kernel_rfl) (by (first | exact List.mem_cons_self | exact (List.mem_cons_of_mem _ List.mem_cons_self) | exact (List.mem_cons_of_mem _ (List.mem_cons_of_mem _ List.mem_cons_self)) | exact (List.mem_cons_of_mem _ (List.mem_cons_of_mem _ (List.mem_cons_of_mem _ List.mem_cons_self))) | exact (List.mem_cons_of_mem _ (List.mem_cons_of_mem _ (List.mem_cons_of_mem _ (List.mem_cons_of_mem _ List.mem_cons_self)))) | exact (List.mem_cons_of_mem _ (List.mem_cons_of_mem _ (List.mem_cons_of_mem _ (List.mem_cons_of_mem _ (List.mem_cons_of_mem _ List.mem_cons_self))))) | exact (List.mem_cons_of_mem _ (List.mem_cons_of_mem _ (List.mem_cons_of_mem _ (List.mem_cons_of_mem _ (List.mem_cons_of_mem _ (List.mem_cons_of_mem _ List.mem_cons_self)))))) | exact (List.mem_cons_of_mem _ (List.mem_cons_of_mem _ (List.mem_cons_of_mem _ (List.mem_cons_of_mem _ (List.mem_cons_of_mem _ (List.mem_cons_of_mem _ (List.mem_cons_of_mem _ List.mem_cons_self))))))))) (by kernel_rfl) rfl) ?_
  repeat (refine A1 ⟨?_⟩; intros)
  exact endHN _ _ end0 (List.Sublist.refl _) ⟨rfl, rfl⟩
theorem copyCheck_s (w : Nat) (s : SV) (d : Nat) (lg : Bool) : PuH Tryz.prog 172 [lit (.pointer (some ⟨w, 0, none⟩))] [(w, 190, wrC (self w) s d lg)]
    (fun r H => r = Ab.tup [] ∧ H = [(w, 190, wrC (self w) s d lg)]) noX := by
  refine PuH.intro Tryz.func172 rfl (by kernel_rfl) fun C hC => ?_
  repeat (refine A1 ⟨?_⟩; intros)
  refine Wo (ov_pneS (by kernel_rfl) rfl rfl) ?_
  repeat (refine A1 ⟨?_⟩; intros)
  exact endHN _ _ end0 (List.Sublist.refl _) ⟨rfl, rfl⟩
theorem copyCheck_pu {a : SV} {w : Nat} (ha : a = fresh ∨ a = self w) (s : SV) (d : Nat) (lg : Bool) : PuH Tryz.prog 172 [lit (.pointer (some ⟨w, 0, none⟩))] [(w, 190, wrC a s d lg)]
    (fun r H => r = Ab.tup [] ∧ H = [(w, 190, wrC (self w) s d lg)]) noX := by
  rcases ha with rfl | rfl
  · exact copyCheck_f w s d lg
  · exact copyCheck_s w s d lg
theorem writeString_pu {a : SV} {w : Nat} (ha : a = fresh ∨ a = self w) {l : List UInt8} {s : SV} {Hb : LH} (hb : Byt l s Hb) (t : List UInt8) (hl : l.length + t.length ≤ 1000000000) (d : Nat) (lg : Bool) :
    PuH Tryz.prog 132 [lit (.pointer (some ⟨w, 0, none⟩)), str t] ((w, 190, wrC a s d lg) :: Hb)
      (fun r H => ∃ s' Hb', Byt (l ++ t) s' Hb' ∧ r = Ab.tup [lit (.int .i64 (t.length : Int)), lit .nilIface] ∧ H = (w, 190, wrC (self w) s' d lg) :: Hb') noX := by
  haveI := hb.co
  refine PuH.intro Tryz.func132 rfl (by kernel_rfl) fun C hC => ?_
  repeat (refine A1 ⟨?_⟩; intros)
  refine WfH (copyCheck_pu ha s d lg) ?_
  rintro _ _ ⟨rfl, rfl⟩
  simp only [List.cons_append, List.nil_append]
  repeat (refine A1 ⟨?_⟩; intros)
  refine WPL.appStr hb rfl rfl (List.perm_append_comm (l₁ := [_])) hl ?_ rfl
  intro s' Hb' hb'
  haveI := hb'.co
  refine WPL.perm List.perm_append_comm ?_
  simp only [List.cons_append, List.nil_append]
  repeat (refine A1 ⟨?_⟩; intros)
  refine WPL.store (b := w) (o := 1) (sv := s') (cs' := wrC (self w) s' d lg) rfl rfl rfl (.here _) rfl rfl ?_
  repeat (refine A1 ⟨?_⟩; intros)
  exact endHR _ _ (end2 (RV.tmp rfl) (RV.tmp rfl) (Le.refl _)) (List.Sublist.refl _) ⟨s', Hb', hb', rfl, rfl⟩
end Go.Ab
/- The reference's numbers: digits. -/
namespace Go.Ab
open Go.Proofs
set_option linter.unusedSectionVars false
set_option linter.unusedVariables false
set_option linter.unusedSimpArgs false
variable [Base]
theorem rtrim_pu (ds : List Nat) (hl : ds.length ≤ 1000000000) : Pu Tryz.prog 182 [dg ds] (dg (trimL ds)) := by
  refine Pu.intro Tryz.func182 rfl (by kernel_rfl) fun C => ?_
  repeat (refine A1 ⟨?_⟩; intros)
  refine WP.loop (ι := Nat) (fun k => k ≤ ds.length ∧ trimL (ds.take k) = trimL ds) (fun k => k) (fun k => fm [(0, dg ds), (3, lit (.int .i64 k))]) (fun _ => []) ds.length ⟨Nat.le_refl _, by rw [List.take_length]⟩ (by (repeat (first | exact LeF.nil _ | refine LeF.cons (Le.refl _) ?_ | refine LeF.cons (Le.int (by omega)) ?_))) rfl ?_
  rintro k ⟨hk, ht⟩ K hK
  rcases k with _ | j
  · repeat (refine A1 ⟨?_⟩; intros)
    refine Wo (ov_toD 0 rfl rfl (by omega) (by omega)) ?_
    repeat (refine A1 ⟨?_⟩; intros)
    exact endR (end1 (RV.tmp rfl) (Le.of_eq (by rw [← ht]; rfl)))
  · repeat (refine AS ⟨?_⟩; intros)
    iterate 5 (refine O1 ⟨?_⟩; intros)
    refine Wog (ov_sub (r := (j : Int)) rfl rfl (wi64e (by omega) (by omega) (by omega))) ?_
    refine Wog (ov_idxD (i := j) rfl rfl (by omega)) ?_
    by_cases hd : ds.getD j 0 = 0
    · repeat (refine A1 ⟨?_⟩; intros)
      refine hK _ _ j ⟨by omega, ?_⟩ (by omega) (by (repeat (first | exact LeF.nil _ | refine LeF.cons (Le.refl _) ?_ | refine LeF.cons (Le.int (by omega)) ?_))) rfl
      rw [take_succ_getD ds j (by omega), hd, trimL_snoc_zero] at ht
      exact ht
    · rw [take_succ_getD ds j (by omega), trimL_snoc_ne _ _ hd, ← take_succ_getD ds j (by omega)] at ht
      repeat (refine A1 ⟨?_⟩; intros)
      refine Wo (ov_toD (j + 1) rfl rfl (by omega) (by omega)) ?_
      repeat (refine A1 ⟨?_⟩; intros)
      exact endR (end1 (RV.tmp (s := dg (List.take (j + 1) ds)) rfl) (Le.of_eq (by rw [ht])))
theorem rtrim_nat (ds : List Nat) (hl : ds.length ≤ 1000000000) (hD : D ds) : Pu Tryz.prog 182 [dg ds] (nat (val ds)) := by
  have := rtrim_pu ds hl; rwa [trimL_eq hD] at this
theorem word_pu (u : Nat) (hu : u < 18446744073709551616) : Pu Tryz.prog 145 [lit (.int .u64 u)] (nat u) := by
  have hD : D [u % 4294967296, u / 4294967296] := D.cons (by omega) (D.cons (by omega) D.nil)
  have hv : val [u % 4294967296, u / 4294967296] = u := by simp [val]; omega
  refine Pu.intro Tryz.func145 rfl (by kernel_rfl) fun C => ?_
  repeat (refine A1 ⟨?_⟩; intros)
  refine WpubD (ds := [u % 4294967296, u / 4294967296]) 8 rfl (HDel.here _) rfl (by omega) (by omega) ?_
  refine Wc (rtrim_nat _ (by simp) hD) ?_
  rw [hv]
  repeat (refine A1 ⟨?_⟩; intros)
  ((first | refine endR ?_ | refine endN ?_); exact end1 (RV.tmp rfl) (Le.refl _))
theorem dgs_one : dgs 1 = [1] := by rw [dgs]; simp [dgs_zero]
theorem one_pu : Pu Tryz.prog 176 [] (nat 1) := by
  rw [nat, dgs_one]
  refine Pu.intro Tryz.func176 rfl (by kernel_rfl) fun C => ?_
  repeat (refine AS ⟨?_⟩; intros)
  (refine O1 ⟨?_⟩; intros)
  repeat (refine AS ⟨?_⟩; intros)
  iterate 1 (refine O1 ⟨?_⟩; intros)
  refine WpubD (ds := [1]) 1 rfl (HDel.here _) rfl (by omega) (by omega) ?_
  repeat (refine A1 ⟨?_⟩; intros)
  ((first | refine endR ?_ | refine endN ?_); exact end1 (RV.tmp rfl) (Le.refl _))
theorem sign_pu (z : Int) : Pu Tryz.prog 207 [lit (.int .i64 z)] (lit (.int .i64 z.sign)) := by
  rcases Int.lt_trichotomy z 0 with h | h | h
  · rw [Int.sign_eq_neg_one_of_neg h]
    refine Pu.intro Tryz.func207 rfl (by kernel_rfl) fun C => ?_
    repeat (refine A1 ⟨?_⟩; intros)
    ((first | refine endR ?_ | refine endN ?_); exact end1 (RV.tmp rfl) (Le.refl _))
  · subst h
    refine Pu.intro Tryz.func207 rfl (by kernel_rfl) fun C => ?_
    repeat (refine A1 ⟨?_⟩; intros)
    ((first | refine endR ?_ | refine endN ?_); exact end1 (RV.tmp rfl) (Le.refl _))
  · rw [Int.sign_eq_one_of_pos h]
    refine Pu.intro Tryz.func207 rfl (by kernel_rfl) fun C => ?_
    repeat (refine A1 ⟨?_⟩; intros)
    ((first | refine endR ?_ | refine endN ?_); exact end1 (RV.tmp rfl) (Le.refl _))
set_option maxHeartbeats 2000000 in
theorem rcmp_pu (a b : Nat) (h1 : (dgs a).length ≤ 1000000000) (h2 : (dgs b).length ≤ 1000000000) : Pu Tryz.prog 178 [nat a, nat b] (lit (.int .i64 (cmpN a b))) := by
  have hxa := val_dgs a
  have hxb := val_dgs b
  have hDa := D_dgs a
  have hDb := D_dgs b
  by_cases hlen : (dgs a).length = (dgs b).length
  · refine Pu.intro Tryz.func178 rfl (by kernel_rfl) fun C => ?_
    repeat (refine A1 ⟨?_⟩; intros)
    refine WP.loop (ι := Nat) (fun k => k ≤ (dgs a).length ∧ (dgs a).drop k = (dgs b).drop k) (fun k => k) (fun k => fm [(0, dg (dgs a)), (1, dg (dgs b)), (5, lit (.int .i64 ((k : Int) - 1)))]) (fun _ => []) (dgs a).length
      ⟨Nat.le_refl _, by rw [List.drop_length, hlen, List.drop_length]⟩ (by (repeat (first | exact LeF.nil _ | refine LeF.cons (Le.refl _) ?_ | refine LeF.cons (Le.int (by omega)) ?_))) rfl ?_
    rintro k ⟨hk, hd⟩ K hK
    rcases k with _ | j
    · repeat (refine A1 ⟨?_⟩; intros)
      ((first | refine endR ?_ | refine endN ?_); refine end1 (RV.tmp rfl) (Le.int ?_))
      simp only [List.drop_zero] at hd
      rw [dgs_inj hd, cmpN_eq]
    · rw [show (((j + 1 : Nat) : Int) - 1) = (j : Int) from by omega]
      rcases Nat.lt_trichotomy ((dgs a).getD j 0) ((dgs b).getD j 0) with hlt | heq | hgt
      · have hlt' := val_lt_at j hDa (by omega) (by omega) hd hlt
        rw [hxa, hxb] at hlt'
        repeat (refine A1 ⟨?_⟩; intros)
        ((first | refine endR ?_ | refine endN ?_); refine end1 (RV.tmp rfl) (Le.int ?_))
        rw [cmpN_lt hlt']
      · repeat (refine A1 ⟨?_⟩; intros)
        refine hK _ _ j ⟨by omega, ?_⟩ (by omega) (by (repeat (first | exact LeF.nil _ | refine LeF.cons (Le.refl _) ?_ | refine LeF.cons (Le.int (by omega)) ?_))) rfl
        rw [drop_getD _ j (by omega), drop_getD (dgs b) j (by omega), hd, heq]
      · have hlt' := val_lt_at j hDb (by omega) (by omega) hd.symm hgt
        rw [hxa, hxb] at hlt'
        repeat (refine A1 ⟨?_⟩; intros)
        ((first | refine endR ?_ | refine endN ?_); refine end1 (RV.tmp rfl) (Le.int ?_))
        rw [cmpN_gt hlt']
  · rcases Nat.lt_or_gt_of_ne hlen with hlt | hgt
    · have hab : a < b := by
        rcases Nat.lt_or_ge a b with h | h
        · exact h
        · have := len_mono h; omega
      refine Pu.intro Tryz.func178 rfl (by kernel_rfl) fun C => ?_
      repeat (refine A1 ⟨?_⟩; intros)
      refine Wc (sign_pu _) ?_
      rw [Int.sign_eq_neg_one_of_neg (by omega)]
      repeat (refine A1 ⟨?_⟩; intros)
      ((first | refine endR ?_ | refine endN ?_); refine end1 (RV.tmp rfl) (Le.int ?_))
      rw [cmpN_lt hab]
    · have hab : b < a := by
        rcases Nat.lt_or_ge b a with h | h
        · exact h
        · have := len_mono h; omega
      refine Pu.intro Tryz.func178 rfl (by kernel_rfl) fun C => ?_
      repeat (refine A1 ⟨?_⟩; intros)
      refine Wc (sign_pu _) ?_
      rw [Int.sign_eq_one_of_pos (by omega)]
      repeat (refine A1 ⟨?_⟩; intros)
      ((first | refine endR ?_ | refine endN ?_); refine end1 (RV.tmp rfl) (Le.int ?_))
      rw [cmpN_gt hab]
theorem dgs_two {n : Nat} (h : (dgs n).length = 2) : n = (dgs n).getD 0 0 + (dgs n).getD 1 0 * 4294967296 := by
  have hv := val_dgs n
  generalize dgs n = l at *
  match l, h with
  | [a, b], _ => simp [val] at hv ⊢; omega
theorem dgs_1 {n : Nat} (h : (dgs n).length = 1) : n = (dgs n).getD 0 0 := by
  have hv := val_dgs n
  generalize dgs n = l at *
  match l, h with
  | [a], _ => simp [val] at hv ⊢; omega
theorem dgs_0 {n : Nat} (h : (dgs n).length = 0) : n = 0 := by
  have hv := val_dgs n
  rw [List.length_eq_zero_iff.1 h] at hv; exact hv.symm
theorem len_le2 {n : Nat} (h : (dgs n).length ≤ 2) : n < 18446744073709551616 := Nat.lt_of_lt_of_le (lt_pow n) (Nat.le_trans (Nat.pow_le_pow_right (by omega) h) (by decide))
theorem rword_pu (n : Nat) (h : (dgs n).length ≤ 1000000000) : Pu Tryz.prog 209 [nat n] (if (dgs n).length ≤ 2 then tup [lit (.int .u64 n), lit (.bool true)] else tup [lit (.int .u64 0), lit (.bool false)]) := by
  have hD := D_dgs n
  by_cases h0 : (dgs n).length = 0
  · rw [if_pos (by omega)]
    have e := dgs_0 h0
    refine Pu.intro Tryz.func209 rfl (by kernel_rfl) fun C => ?_
    repeat (refine A1 ⟨?_⟩; intros)
    refine endR (end2 (RV.tmp rfl) (RV.tmp rfl) (Le.tup2 (Le.int (by omega)) (Le.refl _)))
  · by_cases h1 : (dgs n).length = 1
    · rw [if_pos (by omega)]
      have e : n = (dgs n).getD (Int.toNat 0) 0 := dgs_1 h1
      have b : (dgs n).getD (Int.toNat 0) 0 < 4294967296 := hD.get 0
      refine Pu.intro Tryz.func209 rfl (by kernel_rfl) fun C => ?_
      repeat (refine A1 ⟨?_⟩; intros)
      refine endR (end2 (RV.tmp rfl) (RV.tmp rfl) (Le.tup2 (Le.int (by omega)) (Le.refl _)))
    · by_cases h2 : (dgs n).length = 2
      · rw [if_pos (by omega)]
        have e : n = (dgs n).getD (Int.toNat 0) 0 + (dgs n).getD (0 + 1) 0 * 4294967296 := dgs_two h2
        have b0 : (dgs n).getD (Int.toNat 0) 0 < 4294967296 := hD.get 0
        have b1 : (dgs n).getD (0 + 1) 0 < 4294967296 := hD.get 1
        refine Pu.intro Tryz.func209 rfl (by kernel_rfl) fun C => ?_
        repeat (refine A1 ⟨?_⟩; intros)
        refine Wdo (ov_or rfl rfl (or64 ((dgs n).getD (0 + 1) 0) ((dgs n).getD (Int.toNat 0) 0) rfl rfl b1 b0)) ?_
        repeat (refine A1 ⟨?_⟩; intros)
        refine endR (end2 (RV.tmp rfl) (RV.tmp rfl) (Le.tup2 (Le.int (by omega)) (Le.refl _)))
      · rw [if_neg (by omega)]
        refine Pu.intro Tryz.func209 rfl (by kernel_rfl) fun C => ?_
        repeat (refine A1 ⟨?_⟩; intros)
        ((first | refine endR ?_ | refine endN ?_); exact end2 (RV.tmp rfl) (RV.tmp rfl) (Le.refl _))
theorem add32_pu (a b c : Nat) (ha : a < 4294967296) (hb : b < 4294967296) (hc : c ≤ 1) : Pu Tryz.prog 206 [lit (.int .u32 a), lit (.int .u32 b), lit (.int .u32 c)] (tup [lit (.int .u32 ((a + b + c) % 4294967296 : Nat)), lit (.int .u32 ((a + b + c) / 4294967296 : Nat))]) := by
  refine Pu.intro Tryz.func206 rfl (by kernel_rfl) fun C => ?_
  repeat (refine A1 ⟨?_⟩; intros)
  refine endR (end2 (RV.tmp rfl) (RV.tmp rfl) (Le.tup2 (Le.int (by omega)) (Le.int (by omega))))
end Go.Ab
/- The reference's numbers: sum and difference of digits. -/
namespace Go.Ab
open Go.Proofs
set_option linter.unusedSectionVars false
set_option linter.unusedVariables false
set_option linter.unusedSimpArgs false
variable [Base]
section
variable {P : Program} {F : Fr} {H : LH} {ty : TypeId}
theorem ofInt_bv (X : BitVec 32) : BitVec.ofInt (IntKind.bits .u32) (X.toNat : Int) = X := by
  show BitVec.ofInt 32 (X.toNat : Int) = X
  rw [BitVec.ofInt_natCast, BitVec.ofNat_toNat, BitVec.setWidth_eq]
theorem wrap_bv (X : BitVec 32) : IntKind.u32.wrap (X.toNat : Int) = (X.toNat : Int) := wu32 (by omega) (by have := X.isLt; omega)
theorem ov_xorB {T T' : TypeId} {x y : Operand} (X Y : BitVec 32) (hx : ev F x = lit (.int .u32 X.toNat)) (hy : ev F y = lit (.int .u32 Y.toNat)) : OpV P (.binOp .xor T x y T') ty F H (lit (.int .u32 (X ^^^ Y).toNat)) :=
  ov_bin hx hy (fun w => by simp only [Go.binOp, ne_eq, not_true_eq_false, if_false, Op.intBits, Sem.run_pure, ofInt_bv]; exact congrArg (fun z => Result.ok (Value.int .u32 z) w) (wrap_bv _)) guard_int
theorem ov_andB {T T' : TypeId} {x y : Operand} (X Y : BitVec 32) (hx : ev F x = lit (.int .u32 X.toNat)) (hy : ev F y = lit (.int .u32 Y.toNat)) : OpV P (.binOp .and T x y T') ty F H (lit (.int .u32 (X &&& Y).toNat)) :=
  ov_bin hx hy (fun w => by simp only [Go.binOp, ne_eq, not_true_eq_false, if_false, Op.intBits, Sem.run_pure, ofInt_bv]; exact congrArg (fun z => Result.ok (Value.int .u32 z) w) (wrap_bv _)) guard_int
theorem ov_orB {T T' : TypeId} {x y : Operand} (X Y : BitVec 32) (hx : ev F x = lit (.int .u32 X.toNat)) (hy : ev F y = lit (.int .u32 Y.toNat)) : OpV P (.binOp .or T x y T') ty F H (lit (.int .u32 (X ||| Y).toNat)) :=
  ov_bin hx hy (fun w => by simp only [Go.binOp, ne_eq, not_true_eq_false, if_false, Op.intBits, Sem.run_pure, ofInt_bv]; exact congrArg (fun z => Result.ok (Value.int .u32 z) w) (wrap_bv _)) guard_int
theorem ov_compB {T : TypeId} {x : Operand} (X : BitVec 32) (hx : ev F x = lit (.int .u32 X.toNat)) : OpV P (.unOp .xor T x) ty F H (lit (.int .u32 (~~~X).toNat)) :=
  OpV.pure fun m w o a ho _ _ _ h => by
    have h0 := h x (by simp [Op.operands]); rw [hx, lit_p] at h0
    refine ⟨.int .u32 (~~~X).toNat, ?_, lit_p.2 rfl⟩
    have e : BitVec.ofInt (IntKind.bits .u32) (IntKind.max .u32) = BitVec.allOnes 32 := by
      show BitVec.ofInt 32 4294967295 = BitVec.allOnes 32
      decide
    have e2 : IntKind.u32.wrap ((BitVec.allOnes 32 ^^^ X).toNat : Int) = ((~~~X).toNat : Int) := by rw [BitVec.allOnes_xor]; exact wrap_bv _
    simp only [execOp, ho, h0, Op.unary, Op.intBits, IntKind.signed, Bool.false_eq_true, if_false, e, ofInt_bv, Sem.run_bind, Sem.run_pure, Result.andThen_ok]
    exact congrArg (fun z => Result.ok (Next.value (Value.int .u32 z)) w) e2
end
theorem bv_top (X : BitVec 32) : X.toNat / 2147483648 = X.msb.toNat := by
  have h := X.isLt
  rw [BitVec.msb_eq_decide]
  by_cases hc : 2 ^ (32 - 1) ≤ X.toNat <;> simp [hc] <;> omega
theorem rsub_digit {vo va vb p c c' x y d : Nat} (h : vo + vb = va + p * c) (hd : x + 4294967296 * c' = d + c + y) : vo + p * d + (vb + p * y) = va + p * x + p * 4294967296 * c' := by
  have := congrArg (fun t => p * t) hd
  simp only [Nat.mul_add, ← Nat.mul_assoc] at this
  omega
theorem radd_digit {vo va vb p c s x y : Nat} (h : vo + p * c = va + vb) (hs : s = x + y + c) : vo + p * (s % 4294967296) + p * 4294967296 * (s / 4294967296) = va + p * x + (vb + p * y) := by
  subst hs
  have e := Nat.div_add_mod (x + y + c) 4294967296
  rw [Nat.mul_assoc, Nat.add_assoc, ← Nat.mul_add, Nat.add_comm ((x + y + c) % 4294967296), e, Nat.mul_add, Nat.mul_add]
  omega
set_option maxHeartbeats 2000000 in
theorem sub32_pu (x y b : Nat) (hx : x < 4294967296) (hy : y < 4294967296) (hb : b ≤ 1) : Pu Tryz.prog 208 [lit (.int .u32 x), lit (.int .u32 y), lit (.int .u32 b)] (tup [lit (.int .u32 ((x + 8589934592 - y - b) % 4294967296 : Nat)), lit (.int .u32 (if x < y + b then 1 else 0))]) := by
  obtain ⟨X, eX⟩ : ∃ X : BitVec 32, x = X.toNat := ⟨BitVec.ofNat 32 x, by rw [BitVec.toNat_ofNat, Nat.mod_eq_of_lt hx]⟩
  obtain ⟨Y, eY⟩ : ∃ X : BitVec 32, y = X.toNat := ⟨BitVec.ofNat 32 y, by rw [BitVec.toNat_ofNat, Nat.mod_eq_of_lt hy]⟩
  obtain ⟨Z, eZ⟩ : ∃ X : BitVec 32, (x + 8589934592 - y - b) % 4294967296 = X.toNat := ⟨BitVec.ofNat 32 ((x + 8589934592 - y - b) % 4294967296), by rw [BitVec.toNat_ofNat, Nat.mod_mod]⟩
  have fin : (((~~~X &&& Y) ||| (~~~(X ^^^ Y) &&& Z)).toNat : Int) / 2147483648 = if x < y + b then 1 else 0 := by
    have e : (((~~~X &&& Y) ||| (~~~(X ^^^ Y) &&& Z)).toNat : Int) / 2147483648 = ((((~~~X &&& Y) ||| (~~~(X ^^^ Y) &&& Z)).toNat / 2147483648 : Nat) : Int) := rfl
    rw [e, bv_top]
    have mX := bv_top X
    have mY := bv_top Y
    have mZ := bv_top Z
    rw [← eX] at mX
    rw [← eY] at mY
    rw [← eZ] at mZ
    have mm : ((~~~X &&& Y) ||| (~~~(X ^^^ Y) &&& Z)).msb = (((!X.msb) && Y.msb) || ((!(X.msb ^^ Y.msb)) && Z.msb)) := by simp [BitVec.msb_or, BitVec.msb_and, BitVec.msb_xor, BitVec.msb_not]
    rw [mm]
    clear mm e eX eY eZ
    generalize X.msb = p at *
    generalize Y.msb = q at *
    generalize Z.msb = r at *
    by_cases hlt : x < y + b
    · rw [if_pos hlt]
      cases p <;> cases q <;> cases r <;> simp only [Bool.toNat_true, Bool.toNat_false] at mX mY mZ <;> first | rfl | (exfalso; omega)
    · rw [if_neg hlt]
      cases p <;> cases q <;> cases r <;> simp only [Bool.toNat_true, Bool.toNat_false] at mX mY mZ <;> first | rfl | (exfalso; omega)
  rw [eZ]
  refine Pu.intro Tryz.func208 rfl (by kernel_rfl) fun C => ?_
  repeat (refine A1 ⟨?_⟩; intros)
  rw [show (((x : Int) - y) % 4294967296 - b) % 4294967296 = (Z.toNat : Int) from by rw [← eZ]; omega]
  rw [eX, eY] at *
  refine Wo (ov_compB X rfl) ?_
  repeat (refine A1 ⟨?_⟩; intros)
  refine Wo (ov_andB (~~~X) Y rfl rfl) ?_
  repeat (refine A1 ⟨?_⟩; intros)
  refine Wo (ov_xorB X Y rfl rfl) ?_
  refine Wo (ov_compB (X ^^^ Y) rfl) ?_
  repeat (refine A1 ⟨?_⟩; intros)
  refine Wo (ov_andB (~~~(X ^^^ Y)) Z rfl rfl) ?_
  refine Wo (ov_orB (~~~X &&& Y) (~~~(X ^^^ Y) &&& Z) rfl rfl) ?_
  repeat (refine A1 ⟨?_⟩; intros)
  rw [fin]
  ((first | refine endR ?_ | refine endN ?_); exact end2 (RV.tmp rfl) (RV.tmp rfl) (Le.refl _))
set_option maxHeartbeats 2000000 in
theorem rsum_pu (a b : Nat) (ha : (dgs a).length ≤ 100000000) (hb : (dgs b).length ≤ 100000000) : Pu Tryz.prog 177 [nat a, nat b] (nat (a + b)) := by
  have hP := D_dgs a
  have hQ := D_dgs b
  have hva := val_dgs a
  have hvb := val_dgs b
  show Pu _ _ [dg (dgs a), dg (dgs b)] _
  generalize dgs a = p at *
  generalize dgs b = q at *
  obtain ⟨n, hn⟩ : ∃ n, n = max p.length q.length := ⟨_, rfl⟩
  refine Pu.intro Tryz.func177 rfl (by kernel_rfl) fun C => ?_
  repeat (refine A1 ⟨?_⟩; intros)
  refine Wo (ov_max rfl rfl (r := (n : Int)) (by split <;> omega)) ?_
  repeat (refine A1 ⟨?_⟩; intros)
  refine WmkD (n + 1) rfl rfl (by omega) (by omega) fun bb => ?_
  repeat (refine A1 ⟨?_⟩; intros)
  refine WP.loop (ι := Nat × Nat × List Nat) (fun s => s.1 ≤ n ∧ s.2.1 ≤ 1 ∧ s.2.2.length = n + 1 ∧ D s.2.2 ∧ val (s.2.2.take s.1) + 4294967296 ^ s.1 * s.2.1 = val (p.take s.1) + val (q.take s.1)) (fun s => n - s.1)
    (fun s => fm [(0, dg p), (1, dg q), (5, lit (.int .i64 n)), (6, lit (.slice (some ⟨bb, 0, none⟩) (n + 1) (n + 1))), (7, lit (.int .u32 s.2.1)), (8, lit (.int .i64 s.1))])
    (fun s => [(bb, 230, dcells s.2.2)]) (0, 0, List.replicate (n + 1) 0) ⟨Nat.zero_le _, Nat.zero_le _, by simp, D.rep _, by simp [val]⟩ (by (repeat (first | exact LeF.nil _ | refine LeF.cons (Le.refl _) ?_ | refine LeF.cons (Le.int (by omega)) ?_))) rfl ?_
  rintro ⟨k, c, os⟩ ⟨hk, hc, hol, hO, hval⟩ K hK
  simp only at hk hc hol hO hval ⊢
  by_cases hkl : k < n
  · have hp := hP.get k
    have hq := hQ.get k
    repeat (refine A1 ⟨?_⟩; intros)
    refine WP.via (fun F H => LeF F (fm [(0, dg p), (1, dg q), (5, lit (.int .i64 n)), (6, lit (.slice (some ⟨bb, 0, none⟩) (n + 1) (n + 1))), (7, lit (.int .u32 c)), (8, lit (.int .i64 k)), (9, lit (.int .u32 (p.getD k 0 : Nat))), (10, lit (.int .u32 0))]) ∧ H = [(bb, 230, dcells os)]) ?_ ?_
    · refine WPd (fun h => ?_) (fun h => ?_)
      · repeat (refine A1 ⟨?_⟩; intros)
        exact ⟨by (repeat (first | exact LeF.nil _ | refine LeF.cons (Le.refl _) ?_ | refine LeF.cons (Le.int (by omega)) ?_)), rfl⟩
      · have h0 : p.getD k 0 = 0 := by simp [List.getD, List.getElem?_eq_none (show p.length ≤ k by omega)]
        repeat (refine A1 ⟨?_⟩; intros)
        exact ⟨by (repeat (first | exact LeF.nil _ | refine LeF.cons (Le.refl _) ?_ | refine LeF.cons (Le.int (by omega)) ?_)), rfl⟩
    rintro F H ⟨hF, rfl⟩
    refine WP.le hF ?_
    repeat (refine A1 ⟨?_⟩; intros)
    refine WP.via (fun F H => LeF F (fm [(0, dg p), (1, dg q), (5, lit (.int .i64 n)), (6, lit (.slice (some ⟨bb, 0, none⟩) (n + 1) (n + 1))), (7, lit (.int .u32 c)), (8, lit (.int .i64 k)), (9, lit (.int .u32 (p.getD k 0 : Nat))), (10, lit (.int .u32 (q.getD k 0 : Nat)))]) ∧ H = [(bb, 230, dcells os)]) ?_ ?_
    · refine WPd (fun h => ?_) (fun h => ?_)
      · repeat (refine A1 ⟨?_⟩; intros)
        exact ⟨by (repeat (first | exact LeF.nil _ | refine LeF.cons (Le.refl _) ?_ | refine LeF.cons (Le.int (by omega)) ?_)), rfl⟩
      · have h0 : q.getD k 0 = 0 := by simp [List.getD, List.getElem?_eq_none (show q.length ≤ k by omega)]
        repeat (refine A1 ⟨?_⟩; intros)
        exact ⟨by (repeat (first | exact LeF.nil _ | refine LeF.cons (Le.refl _) ?_ | refine LeF.cons (Le.int (by omega)) ?_)), rfl⟩
    rintro F H ⟨hF, rfl⟩
    refine WP.le hF ?_
    repeat (refine A1 ⟨?_⟩; intros)
    refine Wc (add32_pu (p.getD k 0) (q.getD k 0) c hp hq hc) ?_
    repeat (refine A1 ⟨?_⟩; intros)
    refine WstD ((p.getD k 0 + q.getD k 0 + c) % 4294967296) rfl rfl rfl (HUpd.here _) (by omega) ?_
    repeat (refine A1 ⟨?_⟩; intros)
    refine hK _ _ (k + 1, (p.getD k 0 + q.getD k 0 + c) / 4294967296, os.set k ((p.getD k 0 + q.getD k 0 + c) % 4294967296)) ⟨by simp only; omega, by simp only; omega, by simpa using hol, hO.set k (by omega), ?_⟩ (by simp only; omega) (by (repeat (first | exact LeF.nil _ | refine LeF.cons (Le.refl _) ?_ | refine LeF.cons (Le.int (by omega)) ?_))) rfl
    simp only
    rw [val_take_set os k _ (by omega), val_take_succ', val_take_succ', Nat.pow_succ]
    exact radd_digit hval rfl
  · have hke : k = n := by omega
    subst hke
    repeat (refine A1 ⟨?_⟩; intros)
    refine WstD c rfl rfl (by omega) (HUpd.here _) (by omega) ?_
    repeat (refine A1 ⟨?_⟩; intros)
    refine WpubD (ds := os.set k c) 54 rfl (HDel.here _) (by simpa using hol) (by omega) (by omega) ?_
    refine Wc (rtrim_nat (os.set k c) (by simp; omega) (hO.set _ (by omega))) ?_
    have hfull : val (os.set k c) = a + b := by
      have h1 := val_take_set os k c (by omega)
      rw [List.take_of_length_le (by simp; omega)] at h1
      rw [h1, hval, List.take_of_length_le (by omega), List.take_of_length_le (by omega), hva, hvb]
    rw [hfull]
    repeat (refine A1 ⟨?_⟩; intros)
    ((first | refine endR ?_ | refine endN ?_); exact end1 (RV.tmp rfl) (Le.refl _))
end Go.Ab
/- The reference's numbers: difference and product of digits. -/
namespace Go.Ab
open Go.Proofs
set_option linter.unusedSectionVars false
set_option linter.unusedVariables false
set_option linter.unusedSimpArgs false
variable [Base]
set_option maxHeartbeats 2000000 in
theorem rless_pu (a b : Nat) (hab : b ≤ a) (hl : (dgs a).length ≤ 100000000) : Pu Tryz.prog 179 [nat a, nat b] (nat (a - b)) := by
  have hP := D_dgs a
  have hQ := D_dgs b
  have hqp := len_mono hab
  have hva := val_dgs a
  have hvb := val_dgs b
  show Pu _ _ [dg (dgs a), dg (dgs b)] _
  generalize dgs a = p at *
  generalize dgs b = q at *
  refine Pu.intro Tryz.func179 rfl (by kernel_rfl) fun C => ?_
  repeat (refine A1 ⟨?_⟩; intros)
  refine WmkD p.length rfl rfl (by omega) (by omega) fun bb => ?_
  repeat (refine A1 ⟨?_⟩; intros)
  refine WP.loop (ι := Nat × Nat × List Nat) (fun s => s.1 ≤ p.length ∧ s.2.1 ≤ 1 ∧ s.2.2.length = p.length ∧ D s.2.2 ∧ val (s.2.2.take s.1) + val (q.take s.1) = val (p.take s.1) + 4294967296 ^ s.1 * s.2.1) (fun s => p.length - s.1)
    (fun s => fm [(0, dg p), (1, dg q), (5, lit (.slice (some ⟨bb, 0, none⟩) p.length p.length)), (6, lit (.int .u32 s.2.1)), (13, lit (.int .i64 p.length)), (14, lit (.int .i64 s.1))])
    (fun s => [(bb, 230, dcells s.2.2)]) (0, 0, List.replicate p.length 0) ⟨Nat.zero_le _, Nat.zero_le _, by simp, D.rep _, by simp [val]⟩ (by (repeat (first | exact LeF.nil _ | refine LeF.cons (Le.refl _) ?_ | refine LeF.cons (Le.int (by omega)) ?_))) rfl ?_
  rintro ⟨k, c, os⟩ ⟨hk, hc, hol, hO, hval⟩ K hK
  simp only at hk hc hol hO hval ⊢
  by_cases hkl : k < p.length
  · have hp := hP.get k
    have hq := hQ.get k
    repeat (refine A1 ⟨?_⟩; intros)
    refine WP.via (fun F H => LeF F (fm [(0, dg p), (1, dg q), (5, lit (.slice (some ⟨bb, 0, none⟩) p.length p.length)), (6, lit (.int .u32 c)), (7, lit (.int .i64 k)), (8, lit (.int .u32 (q.getD k 0 : Nat))), (13, lit (.int .i64 p.length)), (14, lit (.int .i64 k))]) ∧ H = [(bb, 230, dcells os)]) ?_ ?_
    · refine WPd (fun h => ?_) (fun h => ?_)
      · repeat (refine A1 ⟨?_⟩; intros)
        exact ⟨by (repeat (first | exact LeF.nil _ | refine LeF.cons (Le.refl _) ?_ | refine LeF.cons (Le.int (by omega)) ?_)), rfl⟩
      · have h0 : q.getD k 0 = 0 := by simp [List.getD, List.getElem?_eq_none (show q.length ≤ k by omega)]
        repeat (refine A1 ⟨?_⟩; intros)
        exact ⟨by (repeat (first | exact LeF.nil _ | refine LeF.cons (Le.refl _) ?_ | refine LeF.cons (Le.int (by omega)) ?_)), rfl⟩
    rintro F H ⟨hF, rfl⟩
    refine WP.le hF ?_
    repeat (refine A1 ⟨?_⟩; intros)
    refine Wc (sub32_pu (p.getD k 0) (q.getD k 0) c hp hq hc) ?_
    have fin : ∀ x c', c' ≤ 1 → x < 4294967296 → p.getD k 0 + 4294967296 * c' = x + c + q.getD k 0 → ∀ F' H', LeF F' (fm [(0, dg p), (1, dg q), (5, lit (.slice (some ⟨bb, 0, none⟩) p.length p.length)), (6, lit (.int .u32 c')), (13, lit (.int .i64 p.length)), (14, lit (.int .i64 ((k + 1 : Nat) : Int)))]) →
        H' = [(bb, 230, dcells (os.set k x))] → K F' H' := fun x c' hc' hx hd F' H' hF hH => by
      refine hK F' H' (k + 1, c', os.set k x) ⟨by simp only; omega, hc', by simpa using hol, hO.set k hx, ?_⟩ (by simp only; omega) hF hH
      simp only
      rw [val_take_set os k _ (by omega), val_take_succ', val_take_succ', Nat.pow_succ]
      exact rsub_digit hval hd
    by_cases hb : p.getD k 0 < q.getD k 0 + c
    · rw [if_pos hb]
      repeat (refine A1 ⟨?_⟩; intros)
      refine WstD ((p.getD k 0 + 8589934592 - q.getD k 0 - c) % 4294967296) rfl rfl rfl (HUpd.here _) (by omega) ?_
      repeat (refine A1 ⟨?_⟩; intros)
      exact fin _ 1 (by omega) (by omega) (by omega) _ _ (by (repeat (first | exact LeF.nil _ | refine LeF.cons (Le.refl _) ?_ | refine LeF.cons (Le.int (by omega)) ?_))) rfl
    · rw [if_neg hb]
      repeat (refine A1 ⟨?_⟩; intros)
      refine WstD ((p.getD k 0 + 8589934592 - q.getD k 0 - c) % 4294967296) rfl rfl rfl (HUpd.here _) (by omega) ?_
      repeat (refine A1 ⟨?_⟩; intros)
      exact fin _ 0 (by omega) (by omega) (by omega) _ _ (by (repeat (first | exact LeF.nil _ | refine LeF.cons (Le.refl _) ?_ | refine LeF.cons (Le.int (by omega)) ?_))) rfl
  · have hke : k = p.length := by omega
    subst hke
    repeat (refine A1 ⟨?_⟩; intros)
    refine WpubD (ds := os) 39 rfl (HDel.here _) hol (by omega) (by omega) ?_
    refine Wc (rtrim_nat os (by omega) hO) ?_
    have hfull : val os = a - b := by
      rw [List.take_length, List.take_of_length_le hqp, List.take_of_length_le (by omega), hva, hvb] at hval
      have h1 := val_lt hO
      rw [hol] at h1
      rcases Nat.lt_or_ge 0 c with h | h
      · have : c = 1 := by omega
        subst this; omega
      · have : c = 0 := by omega
        subst this; omega
    rw [hfull]
    repeat (refine A1 ⟨?_⟩; intros)
    ((first | refine endR ?_ | refine endN ?_); exact end1 (RV.tmp rfl) (Le.refl _))
set_option maxHeartbeats 4000000 in
theorem rprod_pu (a b : Nat) (hla : (dgs a).length ≤ 100000000) (hlb : (dgs b).length ≤ 100000000) : Pu Tryz.prog 143 [nat a, nat b] (nat (a * b)) := by
  by_cases h11 : (dgs a).length = 1 ∧ (dgs b).length = 1
  · have ea : a = (dgs a).getD (Int.toNat 0) 0 := dgs_1 h11.1
    have eb : b = (dgs b).getD (Int.toNat 0) 0 := dgs_1 h11.2
    have b0 : (dgs a).getD (Int.toNat 0) 0 < 4294967296 := (D_dgs a).get 0
    have b1 : (dgs b).getD (Int.toNat 0) 0 < 4294967296 := (D_dgs b).get 0
    have hp := prod_bd b0 b1
    have hq := hp
    rw [← ea, ← eb] at hq
    have hw := word_pu (a * b) (by rw [← ea] at b0; rw [← eb] at b1; have := Nat.mul_le_mul (Nat.le_of_lt_succ (Nat.lt_succ_of_le (Nat.le_pred_of_lt b0))) (Nat.le_of_lt_succ (Nat.lt_succ_of_le (Nat.le_pred_of_lt b1))); simp at this; omega)
    rw [Int.natCast_mul] at hw
    refine Pu.intro Tryz.func143 rfl (by kernel_rfl) fun C => ?_
    repeat (refine A1 ⟨?_⟩; intros)
    rw [← ea, ← eb]
    refine Wdc hw ?_
    repeat (refine A1 ⟨?_⟩; intros)
    ((first | refine endR ?_ | refine endN ?_); exact end1 (RV.tmp rfl) (Le.refl _))
  · have hP := D_dgs a
    have hQ := D_dgs b
    have hva := val_dgs a
    have hvb := val_dgs b
    show Pu _ _ [dg (dgs a), dg (dgs b)] _
    generalize dgs a = p at *
    generalize dgs b = q at *
    subst hva
    subst hvb
    have h12 : p.length = 1 → q.length ≠ 1 := fun a b => h11 ⟨a, b⟩
    clear h11
    refine Pu.intro Tryz.func143 rfl (by kernel_rfl) fun C => ?_
    repeat (refine AS ⟨?_⟩; intros)
    iterate 1 (refine O1 ⟨?_⟩; intros)
    refine WPL.nil ?_
    refine thenN ?_
    refine WP.seq' ?_
    refine WP.via (fun F H => LeF F (fm [(0, dg p), (1, dg q)]) ∧ H = []) ?_ ?_
    · by_cases h1 : p.length = 1
      · have h2 := h12 h1
        clear h12
        repeat (refine A1 ⟨?_⟩; intros)
        exact ⟨by (repeat (first | exact LeF.nil _ | refine LeF.cons (Le.refl _) ?_ | refine LeF.cons (Le.int (by omega)) ?_)), rfl⟩
      · clear h12
        repeat (refine A1 ⟨?_⟩; intros)
        exact ⟨by (repeat (first | exact LeF.nil _ | refine LeF.cons (Le.refl _) ?_ | refine LeF.cons (Le.int (by omega)) ?_)), rfl⟩
    · rintro F H ⟨hF, rfl⟩
      refine WP.le hF ?_
      clear h12
      repeat (refine A1 ⟨?_⟩; intros)
      refine WmkD (p.length + q.length) rfl rfl (by omega) (by omega) fun bb => ?_
      repeat (refine A1 ⟨?_⟩; intros)
      refine WP.loop (ι := Nat × List Nat) (fun s => s.1 ≤ p.length ∧ s.2.length = p.length + q.length ∧ D s.2 ∧ val s.2 = val (p.take s.1) * val q ∧ ∀ j, s.1 + q.length ≤ j → s.2.getD j 0 = 0) (fun s => p.length - s.1)
        (fun s => fm [(1, dg q), (5, lit (.slice (some ⟨bb, 0, none⟩) (p.length + q.length) (p.length + q.length))), (36, dg p), (37, lit (.int .i64 p.length)), (38, lit (.int .i64 s.1))])
        (fun s => [(bb, 230, dcells s.2)]) (0, List.replicate (p.length + q.length) 0) ⟨Nat.zero_le _, by simp, D.rep _, by simp [val, val_rep], fun j _ => by simp [List.getD, List.getElem?_replicate]; split <;> simp⟩ (by (repeat (first | exact LeF.nil _ | refine LeF.cons (Le.refl _) ?_ | refine LeF.cons (Le.int (by omega)) ?_))) rfl ?_
      rintro ⟨i, os⟩ ⟨hi, hol, hO, hval, hz⟩ K hK
      simp only at hi hol hO hval hz ⊢
      by_cases hil : i < p.length
      · have hx := hP.get i
        repeat (refine A1 ⟨?_⟩; intros)
        refine WP.loop (ι := Nat × Nat × List Nat) (fun s => s.1 ≤ q.length ∧ s.2.1 < 4294967296 ∧ s.2.2.length = p.length + q.length ∧ D s.2.2 ∧ val s.2.2 + 4294967296 ^ i * 4294967296 ^ s.1 * s.2.1 = val os + 4294967296 ^ i * p.getD i 0 * val (q.take s.1) ∧ ∀ j, i + q.length ≤ j → s.2.2.getD j 0 = 0) (fun s => q.length - s.1)
          (fun s => fm [(1, dg q), (5, lit (.slice (some ⟨bb, 0, none⟩) (p.length + q.length) (p.length + q.length))), (6, lit (.int .i64 i)), (7, lit (.int .u32 (p.getD i 0 : Nat))), (8, lit (.int .u64 s.2.1)), (36, dg p), (37, lit (.int .i64 p.length)), (38, lit (.int .i64 i)), (43, dg q), (44, lit (.int .i64 q.length)), (45, lit (.int .i64 s.1))])
          (fun s => [(bb, 230, dcells s.2.2)]) (0, 0, os) ⟨Nat.zero_le _, by simp, hol, hO, by simp [val], hz⟩ (by (repeat (first | exact LeF.nil _ | refine LeF.cons (Le.refl _) ?_ | refine LeF.cons (Le.int (by omega)) ?_))) rfl ?_
        rintro ⟨k, c, us⟩ ⟨hk, hc, hul, hU, hvu, hzu⟩ K2 hK2
        simp only at hk hc hul hU hvu hzu ⊢
        by_cases hkl : k < q.length
        · have hy := hQ.get k
          have ho := hU.get (i + k)
          have hb := prod_bd hx hy
          have hcast : ((p.getD i 0 * q.getD k 0 : Nat) : Int) = (p.getD i 0 : Int) * (q.getD k 0 : Int) := Int.natCast_mul _ _
          repeat (refine A1 ⟨?_⟩; intros)
          refine WstD ((p.getD i 0 * q.getD k 0 + us.getD (i + k) 0 + c) % 4294967296) rfl rfl (by omega) (HUpd.here _) (by omega) ?_
          repeat (refine A1 ⟨?_⟩; intros)
          refine hK2 _ _ (k + 1, (p.getD i 0 * q.getD k 0 + us.getD (i + k) 0 + c) / 4294967296, us.set (i + k) ((p.getD i 0 * q.getD k 0 + us.getD (i + k) 0 + c) % 4294967296))
            ⟨by simp only; omega, by simp only; omega, by simpa using hul, hU.set _ (by omega), ?_, fun j hj => by rw [getD_set_ne' _ _ _ _ (by (try simp only at hj); omega)]; exact hzu j hj⟩ (by simp only; omega) (by (repeat (first | exact LeF.nil _ | refine LeF.cons (Le.refl _) ?_ | refine LeF.cons (Le.int (by omega)) ?_))) rfl
          simp only
          rw [val_take_succ', Nat.pow_succ]
          have hs := val_set us (i + k) ((p.getD i 0 * q.getD k 0 + us.getD (i + k) 0 + c) % 4294967296) (by omega)
          rw [Nat.pow_add] at hs
          exact mul_inner _ hvu (by omega) hs
        · have hke : k = q.length := by omega
          subst hke
          have hz0 := hzu (i + q.length) (by omega)
          repeat (refine A1 ⟨?_⟩; intros)
          refine WstD c rfl rfl (by omega) (HUpd.here _) (by omega) ?_
          repeat (refine A1 ⟨?_⟩; intros)
          refine hK _ _ (i + 1, us.set (i + q.length) c) ⟨by simp only; omega, by simpa using hul, hU.set _ hc, ?_, fun j hj => by rw [getD_set_ne' _ _ _ _ (by (try simp only at hj); omega)]; exact hzu j (by (try simp only at hj); omega)⟩ (by simp only; omega) (by (repeat (first | exact LeF.nil _ | refine LeF.cons (Le.refl _) ?_ | refine LeF.cons (Le.int (by omega)) ?_))) rfl
          simp only
          have hs := val_set us (i + q.length) c (by omega)
          rw [hz0, Nat.mul_zero, Nat.add_zero, Nat.pow_add] at hs
          rw [hs, hvu, List.take_length, hval, val_take_succ', Nat.add_mul]
      · have hie : i = p.length := by omega
        subst hie
        rw [List.take_length] at hval
        repeat (refine A1 ⟨?_⟩; intros)
        refine WpubD (ds := os) 84 rfl (HDel.here _) hol (by omega) (by omega) ?_
        refine Wc (rtrim_nat os (by omega) hO) ?_
        rw [hval]
        repeat (refine A1 ⟨?_⟩; intros)
        ((first | refine endR ?_ | refine endN ?_); exact end1 (RV.tmp rfl) (Le.refl _))
end Go.Ab
