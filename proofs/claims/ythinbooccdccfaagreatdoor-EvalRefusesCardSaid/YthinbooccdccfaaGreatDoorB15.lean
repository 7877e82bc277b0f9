/- Texts laid one behind the other: RowE, Ins, ArrA, Edg, ImM, Fld, RLn, GBase, Gm, Cvx, Ex, TapeB. -/
import Derived.Test.YthinbooccdccfaaGreatDoorB14
import Derived.Deep.Upon
import Derived.Test.YthinbooccdccfaaGreatDoorB08
import Derived.Test.YthinbooccdccfaaGreatDoorB12
import Derived.LoopNIn
import Derived.Test.YthinbooccdccfaaGreatDoorB10
import Derived.Test.YthinbooccdccfaaGreatDoorB03
import Derived.Test.YthinbooccdccfaaGreatDoorB11
import Derived.Test.YthinbooccdccfaaGreatDoorLate
set_option linter.unusedSectionVars false
set_option linter.unusedVariables false
set_option linter.unusedSimpArgs false
namespace Go.Ab
open Go.Proofs
variable [Base]
section
variable {P:Program}{C:Ctx}{n:Nat}{F:Fr}{H:LH}{ops:Array Oper}{K:Fr→LH→Prop}{rest:List Oper}{ty:TypeId}{pos:String}{aft:Array Edge}
theorem WPL.appOwnK {T e:TypeId}{sz by_:Nat}{z:List SV}{g:Bool} [hS:TSl P T e] [hT:TY P e sz by_ z g]{d:Nat}{x y:Operand}{n0 k0:Nat}{cs ds:List SV}{s:SV}{Hs Rs:LH}
  (hown:Own e sz n0 cs s Hs) (hx:ev F x=s) (hy:ev F y=sl ds k0) (hsp:Spl H Hs Rs) (hds:ds.length=k0*sz) (hpos:0<k0*sz) (hl:n0+k0≤1000000000) (hby:by_≤10000)
  (k:∀s' H',Own e sz (n0+k0) (cs++ds) s' H'→WPL P C n ops rest K (upd F d s') (H'++Rs)) (hd:Nat.blt d n=true) :
  WPL P C n ops (⟨some d, .call ⟨.builtin .append,#[x,y],#[T,T]⟩,ty,pos,aft,none⟩::rest) K F H:=by
 unfold WPL
 intro a w hs0 Q hq
 have hs:=hs0.perm hsp.perm
 have hk0:0<k0:=Nat.pos_of_ne_zero fun e=>by rw [e,Nat.zero_mul]at hpos;omega
 refine wpList_plain rfl fun K' hK'=>?_
 obtain⟨hdef,hn,m0,h10,h20,h30,h40,h50⟩:=id hs
 have hp0:∀x,(ev F x).p m0 (a.eval x):=fun x=>by
  cases x with
  |tmp t=>exact h50 t
  |const v=>unfold ev lit;rfl
  |global g=>unfold ev lit;rfl
  |func f=>unfold ev lit;rfl
 have e0:=hp0 x;rw [hx]at e0
 have e1:=hp0 y;rw [hy]at e1
 obtain⟨ad2,c2,e1,hc1,hc2,hcb⟩:=sl_cells e1
 obtain⟨b2,off2,rfl,arr2,T2,fz2,hbm2,hall2⟩:=hcb.resolve_left (fun h=>by rw [h]at hds;simp only [List.length_nil]at hds;omega)
 have hb2:=h10 _ _ hbm2
 rw [hds]at hall2
 generalize hl2:(arr2.toList.drop off2).take (k0*sz)=l2 at hall2
 obtain⟨i,v,hi,hsz,hbyt,hz,hzl,hfl,hvs⟩:=hT.run_bytes
 have hlen2:=hall2.length
 have hys:∀j u,l2[j]? = some u→w.cell? ((⟨b2,off2,none⟩:Addr).add j)=some u:=fun j u hj=>by
  rw [add_none,cell_of w b2 _ arr2 _ _ hb2]
  rw [←hl2,List.getElem?_take]at hj
  split at hj
  ·rw [List.getElem?_drop]at hj;simpa using hj
  ·cases hj
 have hexec:execOp a.eval (⟨some d, .call ⟨.builtin .append,#[x,y],#[T,T]⟩,ty,pos,aft,none⟩:Oper)=(do let v←Builtin.append_ #[T,T] ty #[a.eval x,a.eval y];pure (.value v)):=by
  simp [execOp,resolve,invoke,builtin]
 have hmul:∀q,q≤1000000001→q*by_≤140737488355328:=fun q hq=>Nat.le_trans (Nat.mul_le_mul hq hby) (by decide)
 have get2:∀m,MemIn m w→(ev F y).p m (a.eval y)→All2 m ds l2:=fun m h1 h2=>by
  rw [hy,e1]at h2
  obtain⟨ad3,c3,e3,_,_,hcb3⟩:=sl_cells h2
  obtain⟨b3,off3,rfl,arr3,T3,fz3,hbm3,hall3⟩:=hcb3.resolve_left (fun h=>by rw [h]at hds;simp only [List.length_nil]at hds;omega)
  have hb3:=h1 _ _ hbm3
  simp only [Value.slice.injEq,Option.some.injEq,Addr.mk.injEq,and_true,true_and]at e3
  obtain⟨⟨rfl,rfl⟩,_⟩:=e3
  rw [hb2]at hb3
  simp only [Option.some.injEq,Obj.cells.injEq]at hb3
  obtain⟨rfl,_⟩:=hb3
  rw [hds,hl2]at hall3
  exact hall3
 unfold Oper.wp
 rw [hexec,e1]
 obtain⟨hcl,hcase⟩:=hown
 rcases hcase with⟨rfl,rfl,rfl⟩|⟨b,c,hnc,hcm,rfl,rfl⟩
 ·rw [lit_p]at e0
  have hcs:cs=[]:=List.eq_nil_of_length_eq_zero (by rw [hcl,Nat.zero_mul])
  subst hcs
  have hrun:=run_append_nil (P:=P) w T ty e i v hS.h hi hz ⟨b2,off2,none⟩ k0 c2 l2 (by rw [hlen2,hsz,hds]) hys hk0 (by omega) (by rw [hbyt];have:=hmul k0 (by omega);omega)
  rw [e0]
  simp only [Sem.run_bind,hrun,Result.andThen_ok,Sem.run_pure]
  have hge:=grownCap_ge w k0 0 e
  have hle:=grownCap_le_maxLen w k0 0 e (by simp only [maxLen];omega)
  have h:=k (lit (.slice (some ⟨w.heap.size,0,none⟩) k0 (grownCap w k0 0 e))) [(w.heap.size,e,([]++ds)++List.replicate (grownCap w k0 0 e*sz-k0*sz) top)] ⟨by rw [List.nil_append,hds,Nat.zero_add], .inr ⟨w.heap.size,grownCap w k0 0 e,by omega,hle,by rw [Nat.zero_add],by rw [Nat.zero_add]⟩⟩
  unfold WPL at h
  refine hK' _ _ (h _ _ (St.pushD (Nat.blt_eq.mp hd) hs fun m h1 h2 h3=>?_) Q hq)
  simp only [Array.toList_append,List.toList_toArray,List.nil_append]
  refine(get2 m h1 (h3 y)).append (All2.topL ?_ (zeroCells_one hfl))
  rw [Array.length_toList,size_zeroCells,hvs,Nat.sub_mul]
 ·rw [lit_p]at e0
  obtain⟨hmb,arr,hb,hall⟩:=h20.2 _ (List.mem_append_left Rs (List.mem_singleton.2 rfl))
  have hlen:=hall.length
  simp only [List.length_append,List.length_replicate,hcl,Array.length_toList]at hlen
  have hmono:n0*sz≤c*sz:=Nat.mul_le_mul_right _ hnc
  have getc:∀m,HOk m w ([(b,e,cs++List.replicate (c*sz-n0*sz) top)]++Rs)→All2 m (cs++List.replicate (c*sz-n0*sz) top) arr.toList:=fun m h2=>by
   obtain⟨_,arr',hb',hall'⟩:=h2.2 _ (List.mem_append_left Rs (List.mem_singleton.2 rfl))
   rw [hb]at hb'
   simp only [Option.some.injEq,Obj.cells.injEq]at hb'
   obtain⟨rfl,_⟩:=hb'
   exact hall'
  by_cases hroom:n0+k0≤c
  ·have hm1:(n0+k0)*sz≤c*sz:=Nat.mul_le_mul_right _ hroom
   rw [Nat.add_mul]at hm1
   have hrun:=run_append_room (P:=P) w T ty e i hS.h hi b n0 c arr hb ⟨b2,off2,none⟩ k0 c2 l2 (by rw [hlen2,hsz,hds]) hys hall2.flat hroom (by rw [hsz,hlen2,hds];omega)
   rw [e0]
   simp only [Sem.run_bind,hrun,Result.andThen_ok,Sem.run_pure]
   have h:=k (lit (.slice (some ⟨b,0,none⟩) (n0+k0) c)) [(b,e,(cs++ds)++List.replicate (c*sz-(n0+k0)*sz) top)] ⟨by rw [List.length_append,hcl,hds,Nat.add_mul], .inr ⟨_,_,hroom,hcm,rfl,rfl⟩⟩
   unfold WPL at h
   have hfin:All2 m0 ((cs++ds)++List.replicate (c*sz-(n0+k0)*sz) top) (arr.toList.take (n0*i.size)++l2++arr.toList.drop (n0*i.size+l2.length)).toArray.toList:=by
    obtain⟨q1,q2⟩:=(getc m0 h20).split
    rw [hcl]at q1 q2
    rw [hsz,hlen2,hds,List.toList_toArray]
    refine(q1.append (get2 m0 h10 (hp0 y))).append (All2.topL ?_ fun u hu=>?_)
    ·rw [List.length_drop,Array.length_toList,Nat.add_mul];omega
    ·exact hall.flat u (List.mem_of_mem_drop hu)
   obtain⟨q1,q2,q3,q4⟩:=write_ok (w':=w.setRow b (arr.toList.take (n0*i.size)++l2++arr.toList.drop (n0*i.size+l2.length)).toArray) h10 h20 h30 h40 (.here Rs)
    (setRow_heap w b arr _ e _ hb) (fun j hj=>setRow_other w b j _ hj) rfl rfl rfl (by simp) hfin
   refine hK' _ _ (h (a.put (some d) (.slice (some ⟨b,0,none⟩) (n0+k0) c)) _ ⟨hdef,by simpa [Act.put] using hn,m0,q1,q2,q3,q4,fun t=>?_⟩ Q hq)
   rw [getD_put (Nat.lt_of_lt_of_le (Nat.blt_eq.mp hd) hn)]
   unfold Ab.upd
   by_cases ht:t=d
   ·subst ht;rw [if_pos rfl,Nat.beq_refl];exact lit_p.2 rfl
   ·rw [if_neg ht]
    have:Nat.beq t d=false:=by
     cases hbb:Nat.beq t d with
     |false=>rfl
     |true=>exact absurd (Nat.eq_of_beq_eq_true hbb) ht
    rw [this]
    exact h50 t
  ·have hxs:∀j u,(arr.toList.take (n0*sz))[j]? = some u→w.cell? ((⟨b,0,none⟩:Addr).add j)=some u:=fun j u hj=>by
    rw [add_none,cell_of w b _ arr _ _ hb]
    rw [List.getElem?_take]at hj
    split at hj
    ·simpa using hj
    ·cases hj
   have hrun:=run_append_grow (P:=P) w T ty e i v hS.h hi hz ⟨b,0,none⟩ n0 c (arr.toList.take (n0*sz)) (by rw [List.length_take,Array.length_toList,hsz];omega) hxs
    ⟨b2,off2,none⟩ k0 c2 l2 (by rw [hlen2,hsz,hds]) hys (by omega) (by omega) (growslice_fits (by omega) (by rw [hbyt];exact hmul _ (by omega)))
   rw [e0]
   simp only [Sem.run_bind,hrun,Result.andThen_ok,Sem.run_pure]
   have hge:=grownCap_ge w (n0+k0) c e
   have hle:=grownCap_le_maxLen w (n0+k0) c e (by simp only [maxLen];omega)
   have h:=k (lit (.slice (some ⟨w.heap.size,0,none⟩) (n0+k0) (grownCap w (n0+k0) c e))) [(w.heap.size,e,(cs++ds)++List.replicate (grownCap w (n0+k0) c e*sz-(n0+k0)*sz) top)]
    ⟨by rw [List.length_append,hcl,hds,Nat.add_mul], .inr ⟨_,_,hge,hle,rfl,rfl⟩⟩
   unfold WPL at h
   have hst:=St.pushD (d:=d) (cs:=(cs++ds)++List.replicate (grownCap w (n0+k0) c e*sz-(n0+k0)*sz) top) (v := .slice (some ⟨w.heap.size,0,none⟩) (n0+k0) (grownCap w (n0+k0) c e)) (T:=e)
    (arr:=(arr.toList.take (n0*sz)).toArray++l2.toArray++Builtin.zeroCells v.cells (grownCap w (n0+k0) c e-(n0+k0))) (Nat.blt_eq.mp hd) hs fun m h1 h2 h3=>?_
   ·refine hK' _ _ (h _ _ ?_ Q hq)
    exact hst.drop (.there _ (.here _))
   ·simp only [Array.toList_append,List.toList_toArray]
    obtain⟨q1,_⟩:=(getc m h2).split
    rw [hcl]at q1
    refine(q1.append (get2 m h1 (h3 y))).append (All2.topL ?_ (zeroCells_one hfl))
    rw [Array.length_toList,size_zeroCells,hvs,Nat.sub_mul]
end
section
variable {P:Program}{C:Ctx}{n:Nat}{F:Fr}{H:LH}{ty:TypeId}
theorem ov_bsK {T e:TypeId}{sz by_:Nat}{z:List SV}{g:Bool} [hS:TSl P T e] [hT:TY P e sz by_ z g]{len:Nat}{l:List (Nat×Operand)}{r:List (Nat×List SV)}{cs:List SV}(hp:Parts F l r) (hf:fillS ((List.range len).map fun i=>(i*sz,sz)) (List.replicate len z).flatten r=some cs:=by exact rfl)
  (hsz:Nat.ble (len*sz) 16777216=true:=by exact rfl) (hpos:Nat.blt 0 sz=true:=by exact rfl) (hl:Nat.ble len 1000=true:=by exact rfl):OpV P (.buildSlice T len l.toArray) ty F H (sl cs len) :=
 OpV.pubN (nk_bslice hp hf hsz hpos) fun m b arr hb h=>sl_new hb h (by have:=Nat.le_of_ble_eq_true hl;simp only [maxLen];omega)
end
theorem ins_cells {α:Type}{f:α→List SV}{sz:Nat}(hf:∀a,(f a).length=sz) (l:List α) (x:α) (j:Nat):((l.map f).flatten).take (j*sz)++(f x++((l.map f).flatten).drop (j*sz))=(((l.take j)++x::l.drop j).map f).flatten:=by
 have h:∀(l:List α) (j:Nat),((l.map f).flatten).take (j*sz)=((l.take j).map f).flatten∧((l.map f).flatten).drop (j*sz)=((l.drop j).map f).flatten:=by
  intro l
  induction l with
  |nil=>intro j;simp
  |cons a l ih =>
   intro j
   cases j with
   |zero=>simp
   |succ j =>
    obtain⟨i1,i2⟩:=ih j
    have e:(j+1)*sz=(f a).length+j*sz:=by rw [hf,Nat.succ_mul];omega
    constructor
    ·rw [List.map_cons,List.flatten_cons,e,List.take_length_add_append,i1,List.take_succ_cons,List.map_cons,List.flatten_cons]
    ·rw [List.map_cons,List.flatten_cons,e,List.drop_length_add_append,i2,List.drop_succ_cons]
 obtain⟨i1,i2⟩:=h l j
 rw [i1,i2,List.map_append,List.flatten_append,List.map_cons,List.flatten_cons]
theorem flat_len {α:Type}{f:α→List SV}{sz:Nat}(hf:∀a,(f a).length=sz) (l:List α):((l.map f).flatten).length=l.length*sz:=by
 induction l with
 |nil=>simp
 |cons a l ih=>rw [List.map_cons,List.flatten_cons,List.length_append,ih,hf,List.length_cons,Nat.succ_mul,Nat.add_comm]
theorem Parts.pt {F:Fr}{i:Nat}{x:Operand}{cs:List SV}{l:List (Nat×Operand)}{r:List (Nat×List SV)}(hx:ev F x=ag cs) (h:Parts F l r):Parts F ((i,x)::l) ((i,cs)::r) := .cons hx inferInstance h
section
variable {P:Program}{C:Ctx}{n:Nat}{Q:Exit→Fr→LH→Prop}{F:Fr}{H:LH}
theorem WP.rowS {c:Code}{T:TypeId}{sz k:Nat}{cs:List SV}{s:SV}{Hs R:LH}(d:Nat) (hown:Own T sz k cs s Hs) (hF:F d=s) (hp:H.Perm (Hs++R)) (h:WP P C n c Q (upd F d (sl cs k)) R):WP P C n c Q F H:=by
 refine WP.perm hp ?_
 obtain⟨hcl,⟨rfl,rfl,rfl⟩|⟨b,c',h1,h2,rfl,rfl⟩⟩:=hown
 ·rw [Nat.zero_mul]at hcl
  obtain rfl:=List.eq_nil_of_length_eq_zero hcl
  refine WP.le (F':=upd F d (sl [] 0)) (fun t=>?_) h
  by_cases ht:t=d
  ·subst ht;rw [upd_eq,hF];exact le_nilS
  ·rw [upd_ne ht];exact Le.refl _
 ·exact WP.pub (HDel.here _) hF (fun m arr g1 g2=>pub_ownL g1 g2 h1 h2) h
theorem WPL.rowS {l:List Oper}{ops:Array Oper}{K:Fr→LH→Prop}{T:TypeId}{sz k:Nat}{cs:List SV}{s:SV}{Hs R:LH}(d:Nat) (hown:Own T sz k cs s Hs) (hF:F d=s) (hp:H.Perm (Hs++R)) (h:WPL P C n ops l K (upd F d (sl cs k)) R):WPL P C n ops l K F H:=by
 refine WPL.perm hp ?_
 obtain⟨hcl,⟨rfl,rfl,rfl⟩|⟨b,c',h1,h2,rfl,rfl⟩⟩:=hown
 ·rw [Nat.zero_mul]at hcl
  obtain rfl:=List.eq_nil_of_length_eq_zero hcl
  refine WPL.le (F':=upd F d (sl [] 0)) (fun t=>?_) h
  by_cases ht:t=d
  ·subst ht;rw [upd_eq,hF];exact le_nilS
  ·rw [upd_ne ht];exact Le.refl _
 ·exact WPL.pub (HDel.here _) hF (fun m arr g1 g2=>pub_ownL g1 g2 h1 h2) h
end
section
variable {P:Program}{F:Fr}{H:LH}{ty:TypeId}
theorem ov_buildA {T e:TypeId}{len k sz by_ by2:Nat}{z z2:List SV}{g g2:Bool} [hE:TY P e k by2 z2 g2] [hT:TY P T sz by_ z g] (hA:P.underlying T=some (.array len e)){l:List (Nat×Operand)}{r:List (Nat×List SV)}{cs:List SV}
  (hp:Parts F l r) (hf:fillS ((List.range len).map fun i=>(i*k,k)) z r=some cs):OpV P (.build T l.toArray) ty F H (ag cs) :=
 OpV.pure fun m w o a ho _ _ _ h=>by
  obtain⟨v,hz,hall⟩:=hT.run_zero w
  have hv:∀p∈l,(ev F p.2).p m (a.eval p.2):=fun p hp'=>h p.2 (by simp only [Op.operands,List.mem_toArray,List.mem_map];exact⟨p,hp',rfl⟩)
  obtain⟨arr',hfill,hall'⟩:=fill_all' (m:=m) (ρ:=a.eval) (fun i=>some (i*k,k)) (fun i p h=>by
   simp only [List.getElem?_map,Option.map_eq_some_iff]at h
   obtain⟨j,hj,rfl⟩:=h
   obtain⟨hlt,rfl⟩:=List.getElem?_eq_some_iff.1 hj
   simp) hp hv z v.cells cs (hall m) hf
  refine⟨.agg arr',?_,by unfold ag;exact⟨arr',rfl,hall'⟩⟩
  simp only [execOp,ho,Instr.build,Sem.run_bind,hz,Result.andThen_ok,underlying,run_program,hA,Sem.run_pure,hE.run_size,List.map_toArray]
  rw [hfill]
  rfl
theorem ov_idxA {x ix:Operand}{T e:TypeId}{len k by2:Nat}{z2:List SV}{g2:Bool} [hE:TY P e k by2 z2 g2] (hA:P.underlying T=some (.array len e)){ki:IntKind}{b:Nat}{i:Int}
  (hx:ev F x=lit (.pointer (some ⟨b,0,none⟩))) (hi:ev F ix=lit (.int ki i)) (h0:0≤i) (h1:i<len):OpV P (.indexAddr T x ix) ty F H (lit (.pointer (some ⟨b,i.toNat*k,none⟩))) :=
 OpV.pure fun m w o a hop _ _ _ h=>by
  have e0:=h x (by simp [Op.operands]);rw [hx,lit_p]at e0
  have e1:=h ix (by simp [Op.operands]);rw [hi,lit_p]at e1
  refine⟨.pointer (some ⟨b,i.toNat*k,none⟩),?_,lit_p.2 rfl⟩
  simp [execOp,hop,e0,e1,Instr.indexAt,Instr.sureAddr,asIntOf,underlying,hA,h0,h1,hE.run_size,add_none]
end
section
variable {P:Program}{C:Ctx}{n:Nat}{F:Fr}{H:LH}{Post:Exit→Act→World→Prop}
attribute [local semireducible] WP WPL thenQ blkQ Dk
def WPY (P:Program) (C:Ctx) (n:Nat) (c:Code) (Post:Exit→Act→World→Prop) (F:Fr) (H:LH):Prop:=∀a w,St C n F H a w→∀d,c.wpIn (fe none) d P Post a w
theorem WPY.seq {x y:Code}(hpan:∀pv H,¬C.pan pv H) (h:WPX none P C n x (onlyN fun F H=>WPY P C n y Post F H) F H):WPY P C n (.seq x y) Post F H:=by
 intro a w hs d
 refine wpIn_seq (wpIn_mono (h a w hs d) ?_)
 rintro e a' w' (⟨F',H',hs',hq⟩|⟨ch,rfl,_,m,v,pv,H',_,_,_,_,_,_,hx⟩)
 ·cases e with
  |normal=>exact hq a' w' hs' d
  |_=>exact hq.elim
 ·exact absurd hx (hpan _ _)
theorem onlyN.i {K:Fr→LH→Prop}(h:K F H):onlyN K .normal F H:=h
theorem WPY.le {c:Code}{F':Fr}(k:LeF F F') (h:WPY P C n c Post F' H):WPY P C n c Post F H:=fun a w hs=>h a w (hs.le k)
theorem WPY.last {c:Code}{Q:Exit→Fr→LH→Prop}(h:WPX none P C n c Q F H) (k:∀e a w,liftQ C n Q e a w→Post e a w):WPY P C n c Post F H:=fun a w hs d=>wpIn_mono (h a w hs d) k
theorem WPY.block {id:Nat}{c:Code}(h:WPY P C n c (Exit.inBlock id Post) F H):WPY P C n (.block id c) Post F H:=fun a w hs d=>wpIn_block (h a w hs d)
theorem WPY.loop {c:Code}(J:Nat→Fr) (I:Nat→Prop) (L:LH) (k:Nat) (hI:I k) (h0:LeF F (J k)) (hH:L.Sublist H) (hs:∀k,I k→WPY P C n c (Exit.then (fun a w=>∃j,j<k∧I j∧St C n (J j) L a w) Post) (J k) L):WPY P C n (.loop c) Post F H:=by
 intro a w hst d
 have key:∀k a w,I k→St C n (J k) L a w→Code.roundsIn (fe none) d P c Post (k+1) a w:=by
  intro k
  induction k using Nat.strongRecOn with
  |ind k ih =>
   intro a w hIk hst
   refine wpIn_mono (hs k hIk a w hst d) ?_
   intro e a' w' hq
   cases e with
   |normal =>
    obtain⟨j,hj,hIj,hst'⟩:=hq
    have h1:=ih j hj a' w' hIj hst'
    have mono:∀(q q':Nat) (a:Act) (w:World),q≤q'→Code.roundsIn (fe none) d P c Post q a w→Code.roundsIn (fe none) d P c Post q' a w:=by
     intro q
     induction q with
     |zero=>intro q' a w _ h;exact h.elim
     |succ q ihq =>
      intro q' a w hle h
      obtain⟨q'',rfl⟩:∃q'',q'=q''+1:=⟨q'-1,by omega⟩
      refine wpIn_mono h ?_
      intro e a w hq
      cases e with
      |normal=>exact ihq q'' a w (by omega) hq
      |_=>exact hq
    exact mono (j+1) k a' w' (by omega) h1
   |_=>exact hq
 exact wpIn_loop_rounds (k+1) (key k a w hI ((hst.sub hH).le h0))
end
def Li.neg (l:Li):Li:=⟨-l.a,-l.b,-l.c⟩
def thr (x y u v:Rat):Li:=prim (-(v-y)) (u-x) (-(-(v-y)*x+(u-x)*y))
section
variable {P:Program}{F:Fr}{H:LH}{ty:TypeId}
theorem ov_fieldA {S:TypeId}{fs:List (Nat×Nat)} [TSt P S fs]{x:Operand}{f off sz:Nat}{cs cs':List SV}(hx:ev F x=ag cs) (_hf:fs[f]? = some (off,sz)) (hk:fieldK P S f=some (off,true,sz)) (hc:(cs.drop off).take sz=cs'):OpV P (.field S x f) ty F H (ag cs') :=
 OpV.pure fun m w o a ho _ _ _ h=>by
  have h0:=h x (by simp [Op.operands]);rw [hx]at h0
  unfold ag at h0
  obtain⟨arr,h0,hall⟩:=h0
  have hall':=(hall.drop off).take sz
  rw [hc]at hall'
  unfold fieldK at hk
  cases hu:P.underlying S with
  |none=>rw [hu]at hk;cases hk
  |some d =>
   rw [hu]at hk
   cases d with
   |struct A =>
    simp only [Option.bind_eq_some_iff,Option.map_eq_some_iff,Prod.mk.injEq]at hk
    obtain⟨fl,hfl,d,hd,i,hi,e1,e2,e3⟩:=hk
    have hg:(isAgg fl.type).run P w = .ok true w:=by
     cases d <;> first|(cases e2;done)|simp [isAgg,underlying,hd]
    have hs:(sizeOf fl.type).run P w = .ok i.size w:=by
     simp [sizeOf,typeInfo,hi]
    refine⟨.agg (arr.extract off (off+sz)),?_,by unfold ag;exact⟨_,rfl,by
     have e:(arr.extract off (off+sz)).toList=(arr.toList.drop off).take sz:=by
      simp [List.take_drop,Nat.add_sub_cancel_left]
     rw [e];exact hall'⟩⟩
    simp [execOp,ho,h0,Instr.field,underlying,hu,hfl,asAgg,part,hg,hs,e1,e3]
   |_=>cases hk
theorem nk_make {T e:TypeId}{by_:Nat}{z0:SV}{g:Bool} [hS:TSl P T e] [hT:TY P e 1 by_ [z0] g]{x y:Operand}{k:Nat}
  (hx:ev F x=lit (.int .i64 k)) (hy:ev F y=lit (.int .i64 k)) (hk:k*by_≤140737488355328) (hk':k≤9223372036854775807):NewOk P (.makeSlice T x y) F e (List.replicate k z0) (mkS k):=by
 intro w o a ho ⟨m0,hm0⟩
 obtain⟨v,hz,hall⟩:=hT.run_zero w
 obtain⟨i,v',hi,hsz,hby,hz',_,hfl,hvs⟩:=hT.run_bytes
 have hvv:v=v':=by simp [zeroValue,typeInfo,hi,hz']at hz;exact hz.symm
 subst hvv
 have e0:=evN hm0 (x:=x) (by simp [Op.operands]);rw [hx,lit_p]at e0
 have e1:=evN hm0 (x:=y) (by simp [Op.operands]);rw [hy,lit_p]at e1
 have hw:IntKind.i64.wrap (k:Int)=k:=by
  simp only [IntKind.wrap,IntKind.bits,IntKind.signed,Bool.true_and]
  have h1:¬(9223372036854775808:Int)≤(k:Int)%18446744073709551616:=by omega
  simp [h1];omega
 obtain⟨c0,hc0⟩:∃c0,v.cells = #[c0]:=by
  have:v.cells.size=1:=hvs
  rcases hvc:v.cells with⟨l⟩
  rw [hvc]at this
  match l,this with
  | [c0],_=>exact⟨c0,rfl⟩
 have hrun:(execOp a.eval o).run P w = .ok (.value (.slice (some ⟨w.heap.size,0,none⟩) k k)) (w.alloc (.cells (List.replicate k c0).toArray e)):=by
  have hb:¬((by_:Int)*(k:Int)>281474976710656):=by
   have:(by_*k:Nat)≤281474976710656:=by rw [Nat.mul_comm];omega
   have h2:((by_*k:Nat):Int)≤281474976710656:=by omega
   rw [Int.natCast_mul]at h2;omega
  have hk0:¬((k:Int)<0):=by omega
  have harr:(Array.range k).map (fun j=>v.cells[j%v.cells.size]!)=(List.replicate k c0).toArray:=by
   rw [hc0]
   apply Array.ext
   ·simp
   ·intro j h1 h2;simp [Nat.mod_one]
  simp only [execOp,ho,Instr.makeSlice,e0,e1,Sem.run_bind,underlying,run_program,hS.h,Result.andThen_ok,Sem.run_pure,asInt,asIntOf,typeInfo,hi,hw,hby]
  have hcond:((decide ((k:Int)<0)||decide ((by_:Int)*(k:Int)>2^48))||decide ((k:Int)<0)||decide ((k:Int)>(k:Int)))=false:=by
   simp only [Bool.or_eq_false_iff,decide_eq_false_iff_not]
   refine⟨⟨⟨hk0,?_⟩,hk0⟩,by omega⟩
   have:(2:Int)^48=281474976710656:=by decide
   rw [this];exact hb
  simp only [hcond,Bool.false_eq_true,if_false,Int.toNat_natCast,Sem.run_bind,run_askRoom,Result.andThen_ok,hT.run_size,Nat.mul_one,newRow]
  by_cases hk:k=0
  ·subst hk;simp [show(Array.range 0) = #[]from rfl]
  ·simp only [hk,if_false,Sem.run_bind,hz,Result.andThen_ok,Sem.run_pure,harr,run_newObj,World.alloc_eq]
 refine⟨_,hrun,fun m _=>?_⟩
 have:=hall m
 rw [hc0]at this
 exact All2.replicate this.1.1 this.1.2 k
end
theorem Li.le.gr {l:Li}{L L':Nat}(h:l.le L) (k:L≤L'):l.le L':=⟨Nat.le_trans h.a k,Nat.le_trans h.b k,Nat.le_trans h.c k⟩
theorem ht_int2 (z:Int){L:Nat}(h:il z≤L):ht (z:Rat)≤max L 1:=by
 rw [ht_of_int];omega
def Li.bf (l:Li):Rat := -((l.c:Rat)/((l.b:Rat)*l.b + -(l.a:Rat) * -(l.a:Rat)))
abbrev Li.sm (l:Li):Prop:=l.ok∧l.le 1
abbrev hp (p:Pq) (n:Nat):Prop:=ht p.1≤n∧ht p.2≤n
theorem Li.sm.ht {l:Li}(h:l.sm):ht (l.a:Rat)≤1∧ht (l.b:Rat)≤1∧ht (l.c:Rat)≤1:=by
 have ha:=ht_int2 l.a h.2.a
 have hb:=ht_int2 l.b h.2.b
 have hc:=ht_int2 l.c h.2.c
 omega
theorem ht_div (x y:Rat):Ab.ht (x/y)≤Ab.ht x+Ab.ht y+2:=by
 rw [Rat.div_def]
 have:=ht_mul x y⁻¹
 have:=ht_inv y
 omega
def dotP (p q:Pq):Rat:=p.1*q.1+p.2*q.2
def crossP (p q:Pq):Rat:=p.1*q.2-p.2*q.1
def dirL (l:Li):Pq:=((l.b:Rat),-(l.a:Rat))
def valL (l:Li) (p:Pq):Rat:=(l.a:Rat)*p.1+(l.b:Rat)*p.2+(l.c:Rat)
def sideL (l:Li) (p:Pq):Int:=(valL l p).num.sign
def addP (p:Pq) (k:Rat) (v:Pq):Pq:=(p.1+k*v.1,p.2+k*v.2)
def baseL (l:Li):Pq:=(l.bf*l.a,l.bf*l.b)
def atL (l:Li) (t:Rat):Pq:=addP (baseL l) t (dirL l)
def parL (l:Li) (p:Pq):Rat:=dotP p (dirL l)/dotP (dirL l) (dirL l)
def detL (l m:Li):Rat:=(l.a:Rat)*m.b-m.a*l.b
def meetP (l m:Li):Pq:=(((l.b:Rat)*m.c-m.b*l.c)/detL l m,((m.a:Rat)*l.c-l.a*m.c)/detL l m)
def cmpL (l m:Li):Int:=if(l.a + -m.a).sign≠0 then(l.a + -m.a).sign else if(l.b + -m.b).sign≠0 then(l.b + -m.b).sign else(l.c + -m.c).sign
def halfP (v:Pq):Int:=if v.1=0∧v.2=0 then 0 else if 0<v.2∨v.2=0∧0<v.1 then 1 else 2
def angP (u v:Pq):Int:=if halfP u≠halfP v then(if halfP u<halfP v then -1 else 1)else -(crossP u v).num.sign
theorem crossP_ht {p q:Pq}{n m:Nat}(h:hp p n) (k:hp q m):Ab.ht (crossP p q)≤2*n+2*m+3:=by
 have:=ht_mul p.1 q.2
 have:=ht_mul p.2 q.1
 have:=ht_sub (p.1*q.2) (p.2*q.1)
 unfold crossP
 omega
theorem addP_ht {p v:Pq}{k:Rat}{n m j:Nat}(h:hp p n) (hk:Ab.ht k≤j) (hv:hp v m):hp (addP p k v) (n+j+m+2):=by
 have:=ht_mul k v.1
 have:=ht_mul k v.2
 have:=ht_add p.1 (k*v.1)
 have:=ht_add p.2 (k*v.2)
 unfold addP
 constructor <;> simp only <;> omega
theorem Li.sm.neg {l:Li}(h:l.sm):l.neg.sm:=by
 obtain⟨h1,h2⟩:=h
 refine⟨⟨?_,?_⟩,?_,?_,?_⟩
 ·show Nat.gcd (Nat.gcd (-l.a).natAbs (-l.b).natAbs) (-l.c).natAbs=1
  rw [Int.natAbs_neg,Int.natAbs_neg,Int.natAbs_neg];exact h1.1
 ·rcases h1.2 with k|k
  ·left;show -l.a≠0;omega
  ·right;show -l.b≠0;omega
 ·show il (-l.a)≤1;rw [il_neg];exact h2.a
 ·show il (-l.b)≤1;rw [il_neg];exact h2.b
 ·show il (-l.c)≤1;rw [il_neg];exact h2.c
theorem cmpL_zero {l m:Li}:cmpL l m=0↔l=m:=by
 unfold cmpL
 obtain⟨a,b,c⟩:=l
 obtain⟨d,e,f⟩:=m
 simp only [Li.mk.injEq]
 by_cases h1:(a + -d).sign=0
 ·rw [if_neg (fun h=>h h1)]
  have:=Int.sign_eq_zero_iff_zero.1 h1
  by_cases h2:(b + -e).sign=0
  ·rw [if_neg (fun h=>h h2)]
   have:=Int.sign_eq_zero_iff_zero.1 h2
   rw [Int.sign_eq_zero_iff_zero]
   omega
  ·rw [if_pos h2]
   have:b + -e≠0:=fun k=>h2 (Int.sign_eq_zero_iff_zero.2 k)
   rw [Int.sign_eq_zero_iff_zero]
   omega
 ·rw [if_pos h1]
  have:a + -d≠0:=fun k=>h1 (Int.sign_eq_zero_iff_zero.2 k)
  rw [Int.sign_eq_zero_iff_zero]
  omega
instance:DecidableEq Li:=fun l m=>decidable_of_iff (cmpL l m=0) cmpL_zero
theorem rsign_zero {x:Rat}:x.num.sign=0↔x=0:=by rw [Int.sign_eq_zero_iff_zero];exact Rat.num_eq_zero
section
variable {α:Type}
def posI (lt:α→α→Bool) (out:List α) (x:α):Nat:=(out.takeWhile fun o=>lt o x).length
def insA (lt:α→α→Bool) (out:List α) (x:α):List α:=out.take (posI lt out x)++x::out.drop (posI lt out x)
def insB [DecidableEq α] (lt:α→α→Bool) (out:List α) (x:α):List α:=if out[posI lt out x]? = some x then out else insA lt out x
theorem insA_mem {lt:α→α→Bool}{out:List α}{x y:α}:y∈insA lt out x↔y=x∨y∈out:=by
 unfold insA
 have e:y∈out↔y∈out.take (posI lt out x)∨y∈out.drop (posI lt out x):=by rw [←List.mem_append,List.take_append_drop]
 rw [List.mem_append,List.mem_cons,e]
 constructor
 ·rintro (h|h|h)
  ·exact .inr (.inl h)
  ·exact .inl h
  ·exact .inr (.inr h)
 ·rintro (h|h|h)
  ·exact .inr (.inl h)
  ·exact .inl h
  ·exact .inr (.inr h)
theorem insB_mem [DecidableEq α]{lt:α→α→Bool}{out:List α}{x y:α}:y∈insB lt out x↔y=x∨y∈out:=by
 unfold insB
 split
 ·rename_i h
  constructor
  ·exact .inr
  ·rintro (e|e)
   ·rw [e];exact List.mem_of_getElem? h
   ·exact e
 ·exact insA_mem
end
structure Spn where
 lo:Rat
 hi:Rat
 nl:Bool
 nh:Bool
abbrev Spn.full:Spn:=⟨0,0,true,true⟩
abbrev Spn.le (s:Spn) (n:Nat):Prop:=ht s.lo≤n∧ht s.hi≤n
def midR (x y:Rat):Rat:=(x+y)/2
theorem rnum_pos {x:Rat}:0<x.num↔0<x:=by
 have h1:0≤x.num↔0≤x:=Rat.num_nonneg
 have h2:x.num=0↔x=0:=Rat.num_eq_zero
 constructor
 ·intro h
  have:=h1.1 (by omega)
  have:x≠0:=fun e=>by have:=h2.2 e;omega
  grind
 ·intro h
  have:=h1.2 (Rat.le_of_lt h)
  have:x.num≠0:=fun e=>by have:=h2.1 e;grind
  omega
theorem rnum_den {s:Rat}(h:0<s):s*(s.den:Rat)=((s.num.toNat:Nat):Rat):=by
 have h0:=rnum_pos.2 h
 have e:((s.num.toNat:Nat):Rat)=((s.num:Int):Rat):=by
  rw [←Rat.intCast_natCast,Int.toNat_of_nonneg (by omega)]
 rw [e]
 have h2:((s.den:Nat):Rat)≠0:=fun e=>s.den_nz (Rat.natCast_inj.1 (e.trans rfl))
 have h3:s=(s.num:Rat)/(s.den:Nat):=(Rat.mkRat_self s).symm.trans (Rat.mkRat_eq_div ..)
 grind
theorem smallE {α:Type}(A B:α→Rat):∀(c:List α),(∀j∈c,0<A j)→∃e:Rat,0<e∧∀j∈c,∀t,0<t→t≤e→0<A j+t*B j
 | [],_=>⟨1,by decide,fun j h=>by cases h⟩
 |a::c,h=>by
  obtain⟨e,he,hc⟩:=smallE A B c (fun j hj=>h j (List.mem_cons_of_mem _ hj))
  have ha:=h a List.mem_cons_self
  by_cases hb:0≤B a
  ·refine⟨e,he,fun j hj t ht hte=>?_⟩
   rcases List.mem_cons.1 hj with rfl|hj
   ·have:=Rat.mul_nonneg (Rat.le_of_lt ht) hb
    grind
   ·exact hc j hj t ht hte
  ·have hb':0 < - B a:=by grind
   obtain⟨u,hu⟩:∃u:Rat,u*(2 * - B a)=A a:=⟨A a/(2 * - B a),by grind⟩
   have hu0:0<u:=by
    rcases Rat.le_total (a:=u) (b:=0)with k|k
    ·have:=Rat.mul_nonneg (show 0≤-u by grind) (Rat.le_of_lt hb')
     grind
    ·grind
   have key:∀j∈a::c,∀t,0<t→t≤e→t≤u→0<A j+t*B j:=fun j hj t ht h1 h2=>by
    rcases List.mem_cons.1 hj with rfl|hj
    ·have:=Rat.mul_nonneg (show 0≤u-t by grind) (Rat.le_of_lt hb')
     grind
    ·exact hc j hj t ht h1
   rcases Rat.le_total (a:=e) (b:=u)with k|k
   ·exact⟨e,he,fun j hj t ht h1=>key j hj t ht h1 (by grind)⟩
   ·exact⟨u,hu0,fun j hj t ht h1=>key j hj t ht (by grind) h1⟩
theorem argmin {α:Type}(f:α→Rat):∀(l:List α),l≠[]→∃a∈l,∀b∈l,f a≤f b
 | [],h=>absurd rfl h
 | [a],_=>⟨a,List.mem_cons_self,fun b hb=>by rw [List.mem_singleton]at hb;subst hb;exact Rat.le_refl⟩
 |a::b::l,_=>by
  obtain⟨m,hm,hmin⟩:=argmin f (b::l) (by simp)
  rcases Rat.le_total (a:=(f a)) (b:=(f m))with k|k
  ·refine⟨a,List.mem_cons_self,fun x hx=>?_⟩
   rcases List.mem_cons.1 hx with rfl|hx
   ·exact Rat.le_refl
   ·have:=hmin x hx;grind
  ·refine⟨m,List.mem_cons_of_mem _ hm,fun x hx=>?_⟩
   rcases List.mem_cons.1 hx with rfl|hx
   ·exact k
   ·exact hmin x hx
theorem Li.prop_eq {l m:Li}(hl:l.ok) (hm:m.ok){s t:Nat}(hs:0<s) (ha:s*l.a=t*m.a) (hb:s*l.b=t*m.b) (hc:s*l.c=t*m.c):l=m:=by
 have h1:s=t:=by
  have e:=congrArg Int.natAbs ha
  have f:=congrArg Int.natAbs hb
  have g:=congrArg Int.natAbs hc
  rw [Int.natAbs_mul,Int.natAbs_mul,Int.natAbs_natCast,Int.natAbs_natCast]at e f g
  have k1:Nat.gcd (Nat.gcd (s*l.a.natAbs) (s*l.b.natAbs)) (s*l.c.natAbs)=s:=by rw [Nat.gcd_mul_left,Nat.gcd_mul_left,hl.1,Nat.mul_one]
  have k2:Nat.gcd (Nat.gcd (t*m.a.natAbs) (t*m.b.natAbs)) (t*m.c.natAbs)=t:=by rw [Nat.gcd_mul_left,Nat.gcd_mul_left,hm.1,Nat.mul_one]
  rw [e,f,g]at k1
  omega
 subst h1
 have hz:(s:Int)≠0:=by omega
 obtain⟨a,b,c⟩:=l
 obtain⟨d,e,f⟩:=m
 simp only at ha hb hc
 rw [Int.mul_eq_mul_left_iff hz]at ha hb hc
 rw [ha,hb,hc]
theorem Li.prop_eqR {l m:Li}(hl:l.ok) (hm:m.ok){s t:Rat}(hs:0<s) (ht:0<t) (ha:s*l.a=t*m.a) (hb:s*l.b=t*m.b) (hc:s*l.c=t*m.c):l=m:=by
 have q1:=rnum_den hs
 have q2:=rnum_den ht
 have key:∀x y:Int,s*x=t*y→((s.num.toNat*t.den:Nat):Int)*x=((t.num.toNat*s.den:Nat):Int)*y:=fun x y h=>by
  refine Rat.intCast_inj.1 ?_
  rw [Rat.intCast_mul,Rat.intCast_mul,Rat.intCast_natCast,Rat.intCast_natCast,Rat.natCast_mul,Rat.natCast_mul,←q1,←q2]
  grind
 have h0:=rnum_pos.2 hs
 exact Li.prop_eq hl hm (s:=s.num.toNat*t.den) (t:=t.num.toNat*s.den) (Nat.mul_pos (by omega) t.den_pos) (key _ _ ha) (key _ _ hb) (key _ _ hc)
theorem ra_sq (x:Rat):0≤x*x:=by
 rcases Rat.le_total (a:=x) (b:=0)with h|h
 ·have:=Rat.mul_nonneg (show 0≤-x by grind) (show 0≤-x by grind)
  grind
 ·exact Rat.mul_nonneg h h
theorem ra_com (x y z:Rat):x*(y*z)=z*(y*x):=by grind
theorem ra_can {n x y:Rat}(h:n≠0) (k:n*x=n*y):x=y:=by
 have:n*(x-y)=0:=by grind
 rcases Rat.mul_eq_zero.1 this with e|e
 ·exact absurd e h
 ·grind
theorem ra_solve {u1 u2 ja jb ma mb A B bj bm:Rat}(n0:u1*u1+u2*u2≠0) (d1:ja*u1+jb*u2=A) (d2:ma*u1+mb*u2=B) (w1:bj=ja * -u2+jb*u1) (w2:bm=ma * -u2+mb*u1) (e1:B*bj=A*bm) :
  B*ja=A*ma∧B*jb=A*mb:=by
 have p1:(u1*u1+u2*u2)*ja=u1*A-u2*bj:=by rw [←d1,w1];grind
 have p2:(u1*u1+u2*u2)*ma=u1*B-u2*bm:=by rw [←d2,w2];grind
 have p3:(u1*u1+u2*u2)*jb=u2*A+u1*bj:=by rw [←d1,w1];grind
 have p4:(u1*u1+u2*u2)*mb=u2*B+u1*bm:=by rw [←d2,w2];grind
 clear d1 d2 w1 w2
 generalize u1*u1+u2*u2=n at *
 constructor
 ·refine ra_can n0 ?_
  have:n*(B*ja)=B*(n*ja):=by grind
  rw [this,p1]
  have:n*(A*ma)=A*(n*ma):=by grind
  rw [this,p2]
  have:B*(u1*A-u2*bj)=B*(u1*A)-u2*(B*bj):=by grind
  rw [this,e1];grind
 ·refine ra_can n0 ?_
  have:n*(B*jb)=B*(n*jb):=by grind
  rw [this,p3]
  have:n*(A*mb)=A*(n*mb):=by grind
  rw [this,p4]
  have:B*(u2*A+u1*bj)=B*(u2*A)+u1*(B*bj):=by grind
  rw [this,e1];grind
theorem ra_c {j m:Li}{A B:Rat}{r:Pq}(ea:B*j.a=A*m.a) (eb:B*j.b=A*m.b) (h:valL j r=0) (k:valL m r=0):B*j.c=A*m.c:=by
 unfold valL at h k
 have h1:(j.c:Rat) = -(j.a*r.1+j.b*r.2):=by grind
 have h2:(m.c:Rat) = -(m.a*r.1+m.b*r.2):=by grind
 rw [h1,h2]
 have:B * -(j.a*r.1+j.b*r.2) = -((B*j.a)*r.1+(B*j.b)*r.2):=by grind
 rw [this,ea,eb];grind
theorem ra_le1 {s Q P:Rat}(h:s*(Q-P)=Q) (hq:0<Q) (hp:P≤0):0<s∧s≤1:=by
 constructor
 ·rcases Rat.le_total (a:=s) (b:=0)with k|k
  ·have:=Rat.mul_nonneg (show 0≤-s by grind) (show 0≤Q-P by grind)
   grind
  ·by_cases e:s=0
   ·rw [e]at h;grind
   ·grind
 ·rcases Rat.le_total (a:=s) (b:=1)with k|k
  ·exact k
  ·by_cases e:s=1
   ·grind
   ·have:=Rat.mul_pos (show 0<s-1 by grind) (show 0<Q-P by grind)
    grind
theorem ra_pos {s Q P:Rat}(h0:0<s) (h1:s≤1) (hq:0<Q) (hp:0<P):0<Q+s*(P-Q):=by
 have a:=Rat.mul_nonneg (show 0≤1-s by grind) (Rat.le_of_lt hq)
 have b:=Rat.mul_pos h0 hp
 grind
theorem ra_nn {s t Q P:Rat}(h:t*(Q-P)=Q) (hq:0<Q) (hp:P≤0) (hs:s≤t):0≤Q+s*(P-Q):=by
 have a:=Rat.mul_nonneg (show 0≤t-s by grind) (show 0≤Q-P by grind)
 grind
theorem ra_zero {s Q P:Rat}(h:s*(Q-P)=Q):Q+s*(P-Q)=0:=by
 have:Q+s*(P-Q)=Q-s*(Q-P):=by grind
 rw [this,h];grind
theorem ra_div {P Q:Rat}(hq:0<Q) (hp:P≤0):Q/(Q-P)*(Q-P)=Q:=Rat.div_mul_cancel (by grind)
theorem ra_div2 {P Q:Rat}(hq:0<Q):P/Q*Q=P:=Rat.div_mul_cancel (by grind)
theorem val_lin (j:Li) (p q:Pq) (s:Rat):valL j (q.1+s*(p.1-q.1),q.2+s*(p.2-q.2))=valL j q+s*(valL j p-valL j q):=by unfold valL;grind
theorem val_turn (j:Li) (q r:Pq) (x y:Rat):valL j (r.1+x*(q.1-r.1)-y*(q.2-r.2),r.2+x*(q.2-r.2)+y*(q.1-r.1))=valL j r+x*(valL j q-valL j r)+y*((j.a:Rat) * -(q.2-r.2)+(j.b:Rat)*(q.1-r.1)):=by unfold valL;simp only;grind
theorem val_dif (j:Li) (q r:Pq) (h:valL j r=0):(j.a:Rat)*(q.1-r.1)+j.b*(q.2-r.2)=valL j q:=by unfold valL at *;grind
theorem ra_nz {x y:Rat}(h:x*x+y*y=0):x=0∧y=0:=by
 have a1:=ra_sq x
 have a2:=ra_sq y
 have b1:x*x=0:=by grind
 have b2:y*y=0:=by grind
 exact⟨by rcases Rat.mul_eq_zero.1 b1 with h|h <;> exact h,by rcases Rat.mul_eq_zero.1 b2 with h|h <;> exact h⟩
theorem ra_m {e g Q B:Rat}(h:g*Q=B):0+e*g*(Q-0) + -e*B=0:=by rw [←h];grind
theorem ra_j {e g k Q B:Rat}(he:0<e) (hq:0<Q) (hk:k<g) (h:k*Q=B):0<0+e*g*(Q-0) + -e*B:=by
 have:=Rat.mul_pos (Rat.mul_pos he hq) (show 0<g-k by grind)
 rw [←h];grind
theorem ra_e {e g Q V B:Rat}(h:0<V+e*(g*(Q-V)-B)):0<V+e*g*(Q-V) + -e*B:=by
 have:V+e*g*(Q-V) + -e*B=V+e*(g*(Q-V)-B):=by grind
 rw [this];exact h
theorem ra_lt {x y:Rat}(h:x≤y) (k:x≠y):x<y:=by grind
theorem ra_neg {x y:Rat}(h : -x≤-y):y≤x:=by grind
theorem same_slope {j m:Li}(hj:j.ok) (hm:m.ok){q r:Pq}(q1:0<valL j q) (q2:0<valL m q) (h0:valL j r=0) (hmr:valL m r=0){g B C:Rat}(g1:g*valL j q=B) (g2:g*valL m q=C)
  (w1:B=(j.a:Rat) * -(q.2-r.2)+(j.b:Rat)*(q.1-r.1)) (w2:C=(m.a:Rat) * -(q.2-r.2)+(m.b:Rat)*(q.1-r.1)):j=m:=by
 have d1:=val_dif j q r h0
 have d2:=val_dif m q r hmr
 have n0:(q.1-r.1)*(q.1-r.1)+(q.2-r.2)*(q.2-r.2)≠0:=fun h=>by
  obtain⟨a,b⟩:=ra_nz h
  rw [a,b,Rat.mul_zero,Rat.mul_zero]at d2
  rw [←d2]at q2;exact absurd q2 (by rw [Rat.add_zero];decide)
 have e1:valL m q*B=valL j q*C:=by rw [←g1,←g2];exact ra_com _ _ _
 obtain⟨ea,eb⟩:=ra_solve n0 d1 d2 w1 w2 e1
 exact Li.prop_eqR hj hm q2 q1 ea eb (ra_c ea eb h0 hmr)
theorem cvx {c:List Li}(hok:∀l∈c,l.ok){q p:Pq}(hq:∀l∈c,0<valL l q){k:Li}(hk:k∈c) (hp:valL k p≤0) :
  ∃m∈c,valL m p≤0∧∃r,valL m r=0∧∀j∈c,j≠m→0<valL j r:=by
 obtain⟨S,hS⟩:∃S:Li→Rat,∀j∈c,valL j p≤0→S j*(valL j q-valL j p)=valL j q :=
  ⟨fun j=>valL j q/(valL j q-valL j p),fun j hj h=>ra_div (hq j hj) h⟩
 obtain⟨k,hk',hmin⟩:=argmin S (c.filter fun j=>decide (valL j p≤0)) (fun e=>by
  have:k∈c.filter fun j=>decide (valL j p≤0):=List.mem_filter.2 ⟨hk,decide_eq_true hp⟩
  rw [e]at this;cases this)
 rw [List.mem_filter,decide_eq_true_eq]at hk'
 obtain⟨hk,hp⟩:=hk'
 have hs:=hS k hk hp
 have hqk:=hq k hk
 have hmin:∀j∈c,valL j p≤0→S k≤S j:=fun j hj h=>hmin j (List.mem_filter.2 ⟨hj,decide_eq_true h⟩)
 generalize S k=s at *
 obtain⟨hs0,hs1⟩:=ra_le1 hs hqk hp
 obtain⟨r,hr⟩:∃r:Pq,r=(q.1+s*(p.1-q.1),q.2+s*(p.2-q.2)):=⟨_,rfl⟩
 have hv:∀j,valL j r=valL j q+s*(valL j p-valL j q):=fun j=>by rw [hr];exact val_lin j p q s
 have hnn:∀j∈c,0≤valL j r:=fun j hj=>by
  rw [hv]
  by_cases h:valL j p≤0
  ·exact ra_nn (hS j hj h) (hq j hj) h (hmin j hj h)
  ·exact Rat.le_of_lt (ra_pos hs0 hs1 (hq j hj) (Rat.not_le.1 h))
 have hz:∀j∈c,valL j r=0→valL j p≤0:=fun j hj h=>by
  by_cases h':valL j p≤0
  ·exact h'
  ·have:=ra_pos hs0 hs1 (hq j hj) (Rat.not_le.1 h')
   rw [←hv,h]at this;exact absurd this (by decide)
 have hkr:valL k r=0:=by rw [hv];exact ra_zero hs
 clear hS hmin hs0 hs1 hs hv hr
 obtain⟨B,hB⟩:∃B:Li→Rat,∀j,B j=(j.a:Rat) * -(q.2-r.2)+(j.b:Rat)*(q.1-r.1):=⟨_,fun _=>rfl⟩
 obtain⟨G,hG⟩:∃G:Li→Rat,∀j∈c,G j*valL j q=B j:=⟨fun j=>B j/valL j q,fun j hj=>ra_div2 (hq j hj)⟩
 obtain⟨m,hm',hmax⟩:=argmin (fun j => - G j) (c.filter fun j=>decide (valL j r=0)) (fun e=>by
  have:k∈c.filter fun j=>decide (valL j r=0):=List.mem_filter.2 ⟨hk,decide_eq_true hkr⟩
  rw [e]at this;cases this)
 rw [List.mem_filter,decide_eq_true_eq]at hm'
 obtain⟨hm,hmr⟩:=hm'
 have hmax:∀j∈c,valL j r=0→G j≤G m:=fun j hj h=>ra_neg (hmax j (List.mem_filter.2 ⟨hj,decide_eq_true h⟩))
 obtain⟨e,he,hsm⟩:=smallE (fun j=>valL j r) (fun j=>G m*(valL j q-valL j r)-B j) (c.filter fun j=>decide (0<valL j r)) (fun j hj=>by
  rw [List.mem_filter,decide_eq_true_eq]at hj;exact hj.2)
 refine⟨m,hm,hz m hm hmr,_,(val_turn m q r (e*G m) (-e)).trans ?_,fun j hj hne=>?_⟩
 ·rw [hmr,←hB]
  exact ra_m (hG m hm)
 ·rw [val_turn j q r (e*G m) (-e),←hB]
  by_cases h0:valL j r=0
  ·rw [h0]
   by_cases heq:G j=G m
   ·refine absurd ?_ hne
    exact same_slope (hok j hj) (hok m hm) (hq j hj) (hq m hm) h0 hmr (heq▸hG j hj) (hG m hm) (hB j) (hB m)
   ·exact ra_j he (hq j hj) (ra_lt (hmax j hj h0) heq) (hG j hj)
  ·exact ra_e (hsm j (List.mem_filter.2 ⟨hj,decide_eq_true (ra_lt (hnn j hj) (fun e=>h0 e.symm))⟩) e he Rat.le_refl)
def Inn (c:List Li) (q:Pq):Prop:=∀l∈c,0<valL l q
def Edg (c:List Li) (m:Li):Prop:=∃r,valL m r=0∧∀j∈c,j≠m→0<valL j r
theorem val_nudge (j m:Li) (r:Pq) (e:Rat):valL j (r.1+e*m.a,r.2+e*m.b)=valL j r+e*((j.a:Rat)*m.a+j.b*m.b):=by unfold valL;grind
theorem nrm_pos {m:Li}(h:m.ok):0<(m.a:Rat)*m.a+m.b*m.b:=by
 have a1:=ra_sq (m.a:Rat)
 have a2:=ra_sq (m.b:Rat)
 have:(m.a:Rat)*m.a+m.b*m.b≠0:=fun e=>by
  obtain⟨a,b⟩:=ra_nz e
  have ha:m.a=0:=Rat.intCast_eq_zero_iff.1 a
  have hb:m.b=0:=Rat.intCast_eq_zero_iff.1 b
  rcases h.2 with h|h
  ·exact h ha
  ·exact h hb
 grind
theorem Edg.inn {c:List Li}{m:Li}(hm:m.ok) (h:Edg c m):∃q,Inn c q∧0<valL m q:=by
 obtain⟨r,hr,hj⟩:=h
 obtain⟨e,he,hs⟩:=smallE (fun j=>valL j r) (fun j=>(j.a:Rat)*m.a+j.b*m.b) (c.filter fun j=>decide (j≠m)) (fun j h=>by
  rw [List.mem_filter,decide_eq_true_eq]at h;exact hj j h.1 h.2)
 have hme:0<valL m (r.1+e*m.a,r.2+e*m.b):=by
  rw [val_nudge,hr,Rat.zero_add];exact Rat.mul_pos he (nrm_pos hm)
 refine⟨(r.1+e*m.a,r.2+e*m.b),fun j h=>?_,hme⟩
 by_cases hjm:j=m
 ·rw [hjm];exact hme
 ·rw [val_nudge]
  exact hs j (List.mem_filter.2 ⟨h,decide_eq_true hjm⟩) e he Rat.le_refl
theorem Inn.kept {c d:List Li}(hok:∀l∈c,l.ok){q p:Pq}(hq:Inn c q) (hd:∀m∈c,Edg c m→m∈d) (hp:Inn d p):Inn c p:=fun k hk=>by
 by_cases h:valL k p≤0
 ·obtain⟨m,hm,h1,h2⟩:=cvx hok hq hk h
  exact absurd (hp m (hd m hm h2)) (Rat.not_lt.2 h1)
 ·exact Rat.not_le.1 h
theorem foot_zero {l:Li}(h:l.ok):∃p,valL l p=0 :=
 ⟨(-(l.c:Rat)*l.a/((l.a:Rat)*l.a+l.b*l.b),-(l.c:Rat)*l.b/((l.a:Rat)*l.a+l.b*l.b)),by
  have:=nrm_pos h
  unfold valL;simp only;grind⟩
theorem Inn.edge {c:List Li}(hok:∀l∈c,l.ok){q:Pq}(hq:Inn c q) (hc:c≠[]):∃m∈c,Edg c m:=by
 obtain⟨k,hk⟩:=List.exists_mem_of_ne_nil c hc
 obtain⟨p,hp⟩:=foot_zero (hok k hk)
 obtain⟨m,hm,_,h⟩:=cvx hok hq hk (show valL k p≤0 by rw [hp];exact Rat.le_refl)
 exact⟨m,hm,h⟩
section
variable {P:Program}{F:Fr}{H:LH}{ty:TypeId}
theorem ex_mk {α:Type}{m:Mem}{v:Value}{g:α→SV}(x:α) (h:(g x).p m v):(ex g).p m v:=by unfold ex;exact⟨x,h⟩
theorem OpV.mono' {op:Op}{s s':SV}(h:OpV P op ty F H s) (k:Le s s'):OpV P op ty F H s':=by
 unfold OpV at *
 exact fun m w o a ho hty h1 h2 h3 K Q hK=>h m w o a ho hty h1 h2 h3 K Q fun v m' w' hp=>hK v m' w' (k _ _ hp)
theorem OpV.exc {op:Op}{α:Type}(t:Nat){f:α→SV}{s:SV}(x0:α) (hf:F t=ex f) (h:∀x,OpV P op ty (upd F t (f x)) H s):OpV P op ty F H s:=by
  unfold OpV at *
  intro m w o a ho hty h1 h2 h3 K Q hK
  have key:∃x:α,(.tmp t∈op.operands→(f x).p m (a.eval (.tmp t))):=by
   by_cases ht : .tmp t∈op.operands
   ·have h0:=h3 t ht
    rw [hf]at h0
    unfold ex at h0
    obtain⟨x,hx⟩:=h0
    exact⟨x,fun _=>hx⟩
   ·exact⟨x0,fun k=>(ht k).elim⟩
  obtain⟨x,hx⟩:=key
  refine h x m w o a ho hty h1 h2 (fun t' ht'=>?_) K Q hK
  by_cases e:t'=t
  ·subst e;rw [upd_eq];exact hx ht'
  ·rw [upd_ne e];exact h3 t' ht'
theorem OpV.exd {op:Op}{α:Type}(t:Nat){f g:α→SV}(x0:α) (hf:F t=ex f) (h:∀x,OpV P op ty (upd F t (f x)) H (g x)):OpV P op ty F H (ex g) :=
 OpV.exc t x0 hf fun x=>(h x).mono' fun _ _ hp=>ex_mk x hp
end
end Go.Ab
