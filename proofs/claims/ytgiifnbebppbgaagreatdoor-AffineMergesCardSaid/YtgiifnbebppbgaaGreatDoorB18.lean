/- Texts laid one behind the other: RowB, RowC, RowE, Ins, RSrt. -/
import Derived.Test.YtgiifnbebppbgaaGreatDoorB13
import Derived.Test.YtgiifnbebppbgaaGreatDoorB17
import Derived.Deep.Upon
import Derived.Test.YtgiifnbebppbgaaGreatDoorB15
import Derived.Test.YtgiifnbebppbgaaGreatDoorB11
import Derived.Test.YtgiifnbebppbgaaGreatDoorB03
set_option linter.unusedSectionVars false
set_option linter.unusedVariables false
set_option linter.unusedSimpArgs false
namespace Go.Ab
open Go.Proofs
variable [Base]
section
variable {P:Program}{C:Ctx}{n:Nat}{F:Fr}{H:LH}{ops:Array Oper}{K:Fr→LH→Prop}{rest:List Oper}{ty:TypeId}{pos:String}{aft:Array Edge}
theorem HUpd.mem_or {b:Nat}{T:TypeId}{cs cs':List SV}{H H':LH}(h:HUpd b T cs cs' H H'):∀e∈H',e=(b,T,cs')∨e∈H:=by
 induction h with
 |here=>exact fun e he=>(List.mem_cons.1 he).imp id fun h=>List.mem_cons_of_mem _ h
 |there _ _ ih=>exact fun e he=>(List.mem_cons.1 he).elim (fun h => .inr (by rw [h];exact List.mem_cons_self)) fun h=>(ih e h).imp id fun h=>List.mem_cons_of_mem _ h
theorem St.lowB {b:Nat}{T:TypeId}{cs cs':List SV}{H':LH}{a:Act}{w:World}(hu:HUpd b T cs cs' H H') (hle:LeL cs cs') (hs:St C n F H a w):St C n F H' a w:=by
 obtain⟨hdef,hn,m,h1,h2,h3,h4,h5⟩:=hs
 obtain⟨g1,g2⟩:=h2.2 _ hu.mem
 refine⟨hdef,hn,m,h1,⟨by rw [hu.keys];exact h2.1,fun e he=>?_⟩,h3,fun e he=>?_,h5⟩
 ·rcases hu.mem_or e he with rfl|h
  ·exact⟨g1,g2.le hle⟩
  ·exact h2.2 e h
 ·rcases hu.mem_or e he with rfl|h
  ·exact h4 (b,T,cs) hu.mem
  ·exact h4 e h
theorem WPL.lowB {l:List Oper}{b:Nat}{T:TypeId}{cs cs':List SV}{H':LH}(hu:HUpd b T cs cs' H H') (hle:LeL cs cs') (k:WPL P C n ops l K F H'):WPL P C n ops l K F H:=by
 unfold WPL at *
 exact fun a w hs=>k a w (hs.lowB hu hle)
theorem ov_slFn {T e:TypeId}{sz by_:Nat}{z:List SV}{g:Bool} [hS:TSl P T e] [hT:TY P e sz by_ z g]{x y:Operand}{cs:List SV}{k:Nat}{v:Int}(j:Nat) (hx:ev F x=sl cs k) (hy:ev F y=lit (.int .i64 v)) (hv:v=(j:Int)) (hk:cs.length=k*sz) (hj:j≤k) :
  OpV P (.slice T x (some y) none none) ty F H (sl (cs.drop (j*sz)) (k-j)) :=
 OpV.pure fun m w o a ho _ _ _ h=>by
  have e0:=h x (by simp [Op.operands]);rw [hx]at e0
  have e1:=h y (by simp [Op.operands]);rw [hy,lit_p]at e1
  subst hv
  obtain⟨ad,cap,e0,hc1,hc2,hca⟩:=sl_cells e0
  have hb:(Instr.sliceBounds true k cap (some (a.eval y)) none none).run P w = .ok (j,k,cap) w:=by
   simp [Instr.sliceBounds,run_bound j k _ e1 hj]
  have hrun:∃a',(execOp a.eval o).run P w = .ok (.value (.slice a' (k-j) (cap-j))) w∧(cs.drop (j*sz)=[]∨∃b off,ad=some ⟨b,off,none⟩∧a'=some ⟨b,off+j*sz,none⟩∧cellsAt m b off cs):=by
   refine⟨if cap=j then ad else ad.map (·.add (j*sz)),?_,?_⟩
   ·simp [execOp,ho,Instr.sliceAt,Instr.slice,underlying,hS.h,e0,hb,hT.run_size]
   ·rcases hca with hnil|⟨b,off,rfl,hca⟩
    ·left;rw [hnil,List.drop_nil]
    ·by_cases hci:cap=j
     ·left
      have hkj:k=j:=by omega
      exact List.drop_eq_nil_of_le (by rw [hk,hkj];exact Nat.le_refl _)
     ·right
      refine⟨b,off,rfl,?_,hca⟩
      rw [if_neg hci]
      simp [add_none]
  obtain⟨a',hr,hcs⟩:=hrun
  refine⟨_,hr,sl_mk (by omega) (by omega) ?_⟩
  rcases hcs with hnil|⟨b,off,_,rfl,hca⟩
  ·left;exact hnil
  ·right
   exact⟨b,off+j*sz,rfl,hca.drop (j*sz)⟩
attribute [local semireducible] WPL in
theorem TSR.of {i:Nat}{o:Oper}{Fe:Fr}{Post:SV→LH→Prop}(ho:ops[i]? = some o) (hg:o.guard=none) (h:∀F:Fr,(∀t,t∈o.looksAt ops→Fe t=F t)→WPL P {C with pan:=noX} n ops [o] (fun F' H'=>∃sv,Post sv H'∧F'=dstf o F sv) F H):TSR P C n ops i o Fe H Post:=by
 obtain⟨od,oop,oty,opos,oaft,og⟩:=o
 simp only at hg
 subst hg
 intro F hF a w hst Q' K' hK
 have h':=h F hF a w hst (fun e a' w'=>match e with| .normal=>K' a' w'|e=>False) ⟨fun a' w' F' H' hst' hKK=>?_,fun ch a' w' hp=>?_⟩
 ·unfold wpOp
  rw [ho]
  unfold wpList at h'
  simp only [Region.wanted,if_true]at h'⊢
  left
  rcases h' with h'|⟨_,a0,w0,h0⟩
  ·exact wp_agree h' (fun _ _ _ h=>h.elim) (fun _ _ h=>h.elim)
  ·exact h0.elim
 ·obtain⟨sv,hP,rfl⟩:=hKK
  exact hK sv H' hP a' w' hst'
 ·obtain⟨_,_,_,_,_,_,_,_,_,_,_,hx⟩:=hp
  exact hx.elim
theorem ov_bsN {T e:TypeId}{sz by_:Nat}{z:List SV}{g:Bool} [hS:TSl P T e] [hT:TY P e sz by_ z g]{x:Operand}{s:SV}{ds:List SV}(hx:ev F x=s) (hco:CO s ds) (hf:fillS ((List.range 1).map fun i=>(i*sz,sz)) (List.replicate 1 z).flatten [(0,ds)]=some ds:=by exact rfl)
  (hsz:Nat.ble (1*sz) 16777216=true:=by exact rfl) (hpos:Nat.blt 0 sz=true:=by exact rfl):OpV P (.buildSlice T 1 [(0,x)].toArray) ty F H (sl ds 1) :=
 OpV.pubN (nk_bslice (.cons hx hco .nil) hf hsz hpos) fun m b arr hb h=>sl_new hb h (by simp only [maxLen];omega)
theorem WPL.appOwnS {T e:TypeId}{sz by_:Nat}{z:List SV}{g:Bool} [hS:TSl P T e] [hT:TY P e sz by_ z g]{d:Nat}{x y:Operand}{n0:Nat}{cs ds:List SV}{s:SV}{Hs Rs:LH}
  (hown:Own e sz n0 cs s Hs) (hx:ev F x=s) (hy:ev F y=sl ds 1) (hsp:Spl H Hs Rs) (hds:ds.length=sz) (hpos:0<sz) (hl:n0≤1000000000) (hby:by_≤10000)
  (k:∀s' H',Own e sz (n0+1) (cs++ds) s' H'→WPL P C n ops rest K (upd F d s') (H'++Rs)) (hd:Nat.blt d n=true) :
  WPL P C n ops (⟨some d, .call ⟨.builtin .append,#[x,y],#[T,T]⟩,ty,pos,aft,none⟩::rest) K F H:=by
 unfold WPL
 intro a w hs0 Q hq
 have hs:=hs0.perm hsp.perm
 refine wpList_plain rfl fun K' hK'=>?_
 obtain⟨hdef,hn,m0,h10,h20,h30,h40,h50⟩:=id hs
 have hp0:∀x,(ev F x).p m0 (a.eval x):=fun x=>by
  cases x with
  |tmp t=>exact h50 t
  |const v=>unfold ev lit;rfl
  |global g=>unfold ev lit;rfl
  |func f=>unfold ev lit;rfl
 have e0:=hp0 x;rw [hx]at e0
 have e1:=hp0 y;rw [hy]at e1
 obtain⟨ad2,c2,e1,hc1,hc2,hcb⟩:=sl_cells e1
 obtain⟨b2,off2,rfl,arr2,T2,fz2,hbm2,hall2⟩:=hcb.resolve_left (fun h=>by rw [h]at hds;simp at hds;omega)
 have hb2:=h10 _ _ hbm2
 rw [hds]at hall2
 generalize hl2:(arr2.toList.drop off2).take sz=l2 at hall2
 obtain⟨i,v,hi,hsz,hbyt,hz,hzl,hfl,hvs⟩:=hT.run_bytes
 have hlen2:=hall2.length
 have hys:∀j u,l2[j]? = some u→w.cell? ((⟨b2,off2,none⟩:Addr).add j)=some u:=fun j u hj=>by
  rw [add_none,cell_of w b2 _ arr2 _ _ hb2]
  rw [←hl2,List.getElem?_take]at hj
  split at hj
  ·rw [List.getElem?_drop]at hj;simpa using hj
  ·cases hj
 have hexec:execOp a.eval (⟨some d, .call ⟨.builtin .append,#[x,y],#[T,T]⟩,ty,pos,aft,none⟩:Oper)=(do let v←Builtin.append_ #[T,T] ty #[a.eval x,a.eval y];pure (.value v)):=by
  simp [execOp,resolve,invoke,builtin]
 have hmul:∀q,q≤1000000001→q*by_≤140737488355328:=fun q hq=>Nat.le_trans (Nat.mul_le_mul hq hby) (by decide)
 have get2:∀m,MemIn m w→(ev F y).p m (a.eval y)→All2 m ds l2:=fun m h1 h2=>by
  rw [hy,e1]at h2
  obtain⟨ad3,c3,e3,_,_,hcb3⟩:=sl_cells h2
  obtain⟨b3,off3,rfl,arr3,T3,fz3,hbm3,hall3⟩:=hcb3.resolve_left (fun h=>by rw [h]at hds;simp at hds;omega)
  have hb3:=h1 _ _ hbm3
  simp only [Value.slice.injEq,Option.some.injEq,Addr.mk.injEq,and_true,true_and]at e3
  obtain⟨⟨rfl,rfl⟩,_⟩:=e3
  rw [hb2]at hb3
  simp only [Option.some.injEq,Obj.cells.injEq]at hb3
  obtain⟨rfl,_⟩:=hb3
  rw [hds,hl2]at hall3
  exact hall3
 unfold Oper.wp
 rw [hexec,e1]
 obtain⟨hcl,hcase⟩:=hown
 rcases hcase with⟨rfl,rfl,rfl⟩|⟨b,c,hnc,hcm,rfl,rfl⟩
 ·rw [lit_p]at e0
  have hcs:cs=[]:=List.eq_nil_of_length_eq_zero (by rw [hcl,Nat.zero_mul])
  subst hcs
  have hrun:=run_append_nil (P:=P) w T ty e i v hS.h hi hz ⟨b2,off2,none⟩ 1 c2 l2 (by rw [hlen2,hsz,hds,Nat.one_mul]) hys (by omega) (by omega) (by rw [hbyt];have:=hmul 1 (by omega);omega)
  rw [e0]
  simp only [Sem.run_bind,hrun,Result.andThen_ok,Sem.run_pure]
  have hge:=grownCap_ge w 1 0 e
  have hle:=grownCap_le_maxLen w 1 0 e (by simp only [maxLen];omega)
  have h:=k (lit (.slice (some ⟨w.heap.size,0,none⟩) 1 (grownCap w 1 0 e))) [(w.heap.size,e,([]++ds)++List.replicate (grownCap w 1 0 e*sz-1*sz) top)] ⟨by rw [List.nil_append,hds];omega, .inr ⟨_,_,hge,hle,rfl,by rw [Nat.zero_add]⟩⟩
  unfold WPL at h
  refine hK' _ _ (h _ _ (St.pushD (Nat.blt_eq.mp hd) hs fun m h1 h2 h3=>?_) Q hq)
  simp only [Array.toList_append,List.toList_toArray,List.nil_append]
  refine(get2 m h1 (h3 y)).append (All2.topL ?_ (zeroCells_one hfl))
  rw [Array.length_toList,size_zeroCells,hvs,Nat.sub_mul]
 ·rw [lit_p]at e0
  obtain⟨hmb,arr,hb,hall⟩:=h20.2 _ (List.mem_append_left Rs (List.mem_singleton.2 rfl))
  have hlen:=hall.length
  simp only [List.length_append,List.length_replicate,hcl,Array.length_toList]at hlen
  have hmono:n0*sz≤c*sz:=Nat.mul_le_mul_right _ hnc
  have getc:∀m,HOk m w ([(b,e,cs++List.replicate (c*sz-n0*sz) top)]++Rs)→All2 m (cs++List.replicate (c*sz-n0*sz) top) arr.toList:=fun m h2=>by
   obtain⟨_,arr',hb',hall'⟩:=h2.2 _ (List.mem_append_left Rs (List.mem_singleton.2 rfl))
   rw [hb]at hb'
   simp only [Option.some.injEq,Obj.cells.injEq]at hb'
   obtain⟨rfl,_⟩:=hb'
   exact hall'
  by_cases hroom:n0+1≤c
  ·have hm1:(n0+1)*sz≤c*sz:=Nat.mul_le_mul_right _ hroom
   rw [Nat.succ_mul]at hm1
   have hrun:=run_append_room (P:=P) w T ty e i hS.h hi b n0 c arr hb ⟨b2,off2,none⟩ 1 c2 l2 (by rw [hlen2,hsz,hds,Nat.one_mul]) hys hall2.flat hroom (by rw [hsz,hlen2,hds];omega)
   rw [e0]
   simp only [Sem.run_bind,hrun,Result.andThen_ok,Sem.run_pure]
   have h:=k (lit (.slice (some ⟨b,0,none⟩) (n0+1) c)) [(b,e,(cs++ds)++List.replicate (c*sz-(n0+1)*sz) top)] ⟨by rw [List.length_append,hcl,hds,Nat.succ_mul], .inr ⟨_,_,hroom,hcm,rfl,rfl⟩⟩
   unfold WPL at h
   have hfin:All2 m0 ((cs++ds)++List.replicate (c*sz-(n0+1)*sz) top) (arr.toList.take (n0*i.size)++l2++arr.toList.drop (n0*i.size+l2.length)).toArray.toList:=by
    obtain⟨q1,q2⟩:=(getc m0 h20).split
    rw [hcl]at q1 q2
    rw [hsz,hlen2,hds,List.toList_toArray]
    refine(q1.append (get2 m0 h10 (hp0 y))).append (All2.topL ?_ fun u hu=>?_)
    ·rw [List.length_drop,Array.length_toList,Nat.succ_mul];omega
    ·exact hall.flat u (List.mem_of_mem_drop hu)
   obtain⟨q1,q2,q3,q4⟩:=write_ok (w':=w.setRow b (arr.toList.take (n0*i.size)++l2++arr.toList.drop (n0*i.size+l2.length)).toArray) h10 h20 h30 h40 (.here Rs)
    (setRow_heap w b arr _ e _ hb) (fun j hj=>setRow_other w b j _ hj) rfl rfl rfl (by simp) hfin
   refine hK' _ _ (h (a.put (some d) (.slice (some ⟨b,0,none⟩) (n0+1) c)) _ ⟨hdef,by simpa [Act.put] using hn,m0,q1,q2,q3,q4,fun t=>?_⟩ Q hq)
   rw [getD_put (Nat.lt_of_lt_of_le (Nat.blt_eq.mp hd) hn)]
   unfold Ab.upd
   by_cases ht:t=d
   ·subst ht;rw [if_pos rfl,Nat.beq_refl];exact lit_p.2 rfl
   ·rw [if_neg ht]
    have:Nat.beq t d=false:=by
     cases hbb:Nat.beq t d with
     |false=>rfl
     |true=>exact absurd (Nat.eq_of_beq_eq_true hbb) ht
    rw [this]
    exact h50 t
  ·have hxs:∀j u,(arr.toList.take (n0*sz))[j]? = some u→w.cell? ((⟨b,0,none⟩:Addr).add j)=some u:=fun j u hj=>by
    rw [add_none,cell_of w b _ arr _ _ hb]
    rw [List.getElem?_take]at hj
    split at hj
    ·simpa using hj
    ·cases hj
   have hrun:=run_append_grow (P:=P) w T ty e i v hS.h hi hz ⟨b,0,none⟩ n0 c (arr.toList.take (n0*sz)) (by rw [List.length_take,Array.length_toList,hsz];omega) hxs
    ⟨b2,off2,none⟩ 1 c2 l2 (by rw [hlen2,hsz,hds,Nat.one_mul]) hys (by omega) (by omega) (growslice_fits (by omega) (by rw [hbyt];exact hmul _ (by omega)))
   rw [e0]
   simp only [Sem.run_bind,hrun,Result.andThen_ok,Sem.run_pure]
   have hge:=grownCap_ge w (n0+1) c e
   have hle:=grownCap_le_maxLen w (n0+1) c e (by simp only [maxLen];omega)
   have h:=k (lit (.slice (some ⟨w.heap.size,0,none⟩) (n0+1) (grownCap w (n0+1) c e))) [(w.heap.size,e,(cs++ds)++List.replicate (grownCap w (n0+1) c e*sz-(n0+1)*sz) top)]
    ⟨by rw [List.length_append,hcl,hds,Nat.succ_mul], .inr ⟨_,_,hge,hle,rfl,rfl⟩⟩
   unfold WPL at h
   have hst:=St.pushD (d:=d) (cs:=(cs++ds)++List.replicate (grownCap w (n0+1) c e*sz-(n0+1)*sz) top) (v := .slice (some ⟨w.heap.size,0,none⟩) (n0+1) (grownCap w (n0+1) c e)) (T:=e)
    (arr:=(arr.toList.take (n0*sz)).toArray++l2.toArray++Builtin.zeroCells v.cells (grownCap w (n0+1) c e-(n0+1))) (Nat.blt_eq.mp hd) hs fun m h1 h2 h3=>?_
   ·refine hK' _ _ (h _ _ ?_ Q hq)
    exact hst.drop (.there _ (.here _))
   ·simp only [Array.toList_append,List.toList_toArray]
    obtain⟨q1,_⟩:=(getc m h2).split
    rw [hcl]at q1
    refine(q1.append (get2 m h1 (h3 y))).append (All2.topL ?_ (zeroCells_one hfl))
    rw [Array.length_toList,size_zeroCells,hvs,Nat.sub_mul]
theorem WownS {T e:TypeId}{sz by_:Nat}{z:List SV}{g:Bool} [hS:TSl P T e] [hT:TY P e sz by_ z g]{d:Nat}{x y:Operand}{n0:Nat}{cs ds:List SV}{s:SV}{Hs Rs:LH}
  (hown:Own e sz n0 cs s Hs) (hsp:Tk H Hs Rs) (hl:n0≤1000000000) (k:∀s' H',Own e sz (n0+1) (cs++ds) s' H'→WPL P C n ops rest K (upd F d s') (Rs++H'))
  (hx:ev F x=s:=by exact rfl) (hy:ev F y=sl ds 1:=by exact rfl) (hds:ds.length=sz:=by exact rfl) (hpos:0<sz:=by decide) (hby:by_≤10000:=by decide)
  (hd:Nat.blt d n=true:=by exact rfl) :
  WPL P C n ops (⟨some d, .call ⟨.builtin .append,#[x,y],#[T,T]⟩,ty,pos,aft,none⟩::rest) K F H :=
 .perm hsp.perm (.appOwnS hown hx hy (Spl.app _ _) hds hpos hl hby (fun s' H' h => .perm List.perm_append_comm (k s' H' h)) hd)
end
theorem pub_ownL {m:Mem}{arr:Array Value}{b:Nat}{T:TypeId}{cs:List SV}{j n c:Nat}(hm:m b=some (.cells arr T (0,0))) (ha:All2 m (cs++List.replicate j top) arr.toList) (h1:n≤c) (h2:c≤maxLen):(sl cs n).p m (.slice (some ⟨b,0,none⟩) n c):=by
 refine sl_mk h1 h2 (.inr ⟨b,0,rfl,arr,T,(0,0),hm,?_⟩)
 rw [List.drop_zero]
 exact ha.split.1
section
variable {P:Program}{C:Ctx}{n:Nat}{F:Fr}{H:LH}{ops:Array Oper}{K:Fr→LH→Prop}{rest:List Oper}{ty:TypeId}{pos:String}{aft:Array Edge}
theorem ov_slTL {T e:TypeId}{sz by_:Nat}{z:List SV}{g:Bool} [hS:TSl P T e] [hT:TY P e sz by_ z g]{x y:Operand}{b k c:Nat}{v:Int}(j:Nat) (hx:ev F x=lit (.slice (some ⟨b,0,none⟩) k c)) (hy:ev F y=lit (.int .i64 v)) (hv:v=(j:Int)) (hj:j≤c) :
  OpV P (.slice T x none (some y) none) ty F H (lit (.slice (some ⟨b,0,none⟩) j c)) :=
 OpV.pure fun m w o a ho _ _ _ h=>by
  have e0:=h x (by simp [Op.operands]);rw [hx,lit_p]at e0
  have e1:=h y (by simp [Op.operands]);rw [hy,lit_p]at e1
  subst hv
  have hb:(Instr.sliceBounds true k c none (some (a.eval y)) none).run P w = .ok (0,j,c) w:=by
   simp [Instr.sliceBounds,run_bound j c _ e1 hj]
  refine⟨.slice (some ⟨b,0,none⟩) j c,?_,lit_p.2 rfl⟩
  by_cases h0:c=0
  ·subst h0
   simp [execOp,ho,Instr.sliceAt,Instr.slice,underlying,hS.h,e0,hb,hT.run_size]
  ·simp [execOp,ho,Instr.sliceAt,Instr.slice,underlying,hS.h,e0,hb,hT.run_size,add_none,Ne.symm h0]
theorem Own.blk {T:TypeId}{sz k:Nat}{cs:List SV}{s:SV}{Hs:LH}(h:Own T sz k cs s Hs) (hk:0<k) :
  ∃b c,k≤c∧c≤maxLen∧s=lit (.slice (some ⟨b,0,none⟩) k c)∧Hs=[(b,T,cs++List.replicate (c*sz-k*sz) top)]:=by
 obtain⟨_,⟨h0,_⟩|h⟩:=h
 ·omega
 ·exact h
theorem LeL.top:∀(l:List SV) (k:Nat),l.length=k→LeL l (List.replicate k top)
 | [],_,h=>by subst h;exact trivial
 |s::l,0,h=>by cases h
 |s::l,k+1,h=>⟨fun m v _=>by unfold Ab.top;trivial,LeL.top l k (by simpa using h)⟩
theorem LeL.app:∀{a b c d:List SV},LeL a b→LeL c d→LeL (a++c) (b++d)
 | [],[],_,_,_,k=>k
 |_::_,_::_,_,_,h,k=>⟨h.1,LeL.app h.2 k⟩
 | [],_::_,_,_,h,_=>h.elim
 |_::_,[],_,_,h,_=>h.elim
theorem Own.cut {T:TypeId}{sz k b c j:Nat}{cs:List SV}(hl:cs.length=k*sz) (hkc:k≤c) (hc:c≤maxLen) (hj:j≤k) :
  Own T sz j (cs.take (j*sz)) (lit (.slice (some ⟨b,0,none⟩) j c)) [(b,T,cs.take (j*sz)++List.replicate (c*sz-j*sz) top)]∧LeL (cs++List.replicate (c*sz-k*sz) top) (cs.take (j*sz)++List.replicate (c*sz-j*sz) top):=by
 have h1:j*sz≤k*sz:=Nat.mul_le_mul_right _ hj
 have h2:k*sz≤c*sz:=Nat.mul_le_mul_right _ hkc
 refine⟨⟨by rw [List.length_take,hl];omega, .inr ⟨b,c,by omega,hc,rfl,rfl⟩⟩,?_⟩
 have e1:cs++List.replicate (c*sz-k*sz) top=cs.take (j*sz)++(cs.drop (j*sz)++List.replicate (c*sz-k*sz) top):=by
  rw [←List.append_assoc,List.take_append_drop]
 rw [e1]
 refine LeL.app (LeL.refl _) (LeL.top _ _ ?_)
 rw [List.length_append,List.length_drop,List.length_replicate,hl]
 omega
end
section
variable {P:Program}{C:Ctx}{n:Nat}{F:Fr}{H:LH}{ops:Array Oper}{K:Fr→LH→Prop}{rest:List Oper}{ty:TypeId}{pos:String}{aft:Array Edge}
theorem ov_appE {T e:TypeId}{sz by_:Nat}{z:List SV}{g:Bool} [hS:TSl P T e] [hT:TY P e sz by_ z g]{x y:Operand}{ao:Option Addr}{k c:Nat}(hx:ev F x=lit (.slice ao k c)) (hy:ev F y=sl [] 0) (hkc:k≤c) :
  OpV P (.call ⟨.builtin .append,#[x,y],#[T,T]⟩) ty F H (lit (.slice ao k c)) :=
 OpV.pure fun m w o a ho _ _ _ h=>by
  have e0:=h x (by simp [Op.operands,Call.operands]);rw [hx,lit_p]at e0
  have e1:=h y (by simp [Op.operands,Call.operands]);rw [hy]at e1
  obtain⟨ad2,c2,e1,hc1,hc2,hcb⟩:=sl_cells e1
  obtain⟨i,v,hi,hsz,hbyt,hz,hzl,hfl,hvs⟩:=hT.run_bytes
  have hs:Src P i.size T (.slice ad2 0 c2) 0 [] w:=by
   cases ad2 with
   |none=>exact Src.ofNil w hS.h c2
   |some a2=>exact Src.ofSlice w hS.h a2 0 c2 [] (by simp) (by intro j u hj;simp at hj) (by intro u hu;cases hu)
  have hrun:=run_append_nothing (P:=P) w T T o.type e i hS.h hi ao k c hkc _ hs
  refine⟨.slice ao k c,?_,lit_p.2 rfl⟩
  rw [←e1]at hrun
  simp [execOp,ho,resolve,invoke,builtin,e0,hrun]
theorem WPL.appOwnK {T e:TypeId}{sz by_:Nat}{z:List SV}{g:Bool} [hS:TSl P T e] [hT:TY P e sz by_ z g]{d:Nat}{x y:Operand}{n0 k0:Nat}{cs ds:List SV}{s:SV}{Hs Rs:LH}
  (hown:Own e sz n0 cs s Hs) (hx:ev F x=s) (hy:ev F y=sl ds k0) (hsp:Spl H Hs Rs) (hds:ds.length=k0*sz) (hpos:0<k0*sz) (hl:n0+k0≤1000000000) (hby:by_≤10000)
  (k:∀s' H',Own e sz (n0+k0) (cs++ds) s' H'→WPL P C n ops rest K (upd F d s') (H'++Rs)) (hd:Nat.blt d n=true) :
  WPL P C n ops (⟨some d, .call ⟨.builtin .append,#[x,y],#[T,T]⟩,ty,pos,aft,none⟩::rest) K F H:=by
 unfold WPL
 intro a w hs0 Q hq
 have hs:=hs0.perm hsp.perm
 have hk0:0<k0:=Nat.pos_of_ne_zero fun e=>by rw [e,Nat.zero_mul]at hpos;omega
 refine wpList_plain rfl fun K' hK'=>?_
 obtain⟨hdef,hn,m0,h10,h20,h30,h40,h50⟩:=id hs
 have hp0:∀x,(ev F x).p m0 (a.eval x):=fun x=>by
  cases x with
  |tmp t=>exact h50 t
  |const v=>unfold ev lit;rfl
  |global g=>unfold ev lit;rfl
  |func f=>unfold ev lit;rfl
 have e0:=hp0 x;rw [hx]at e0
 have e1:=hp0 y;rw [hy]at e1
 obtain⟨ad2,c2,e1,hc1,hc2,hcb⟩:=sl_cells e1
 obtain⟨b2,off2,rfl,arr2,T2,fz2,hbm2,hall2⟩:=hcb.resolve_left (fun h=>by rw [h]at hds;simp only [List.length_nil]at hds;omega)
 have hb2:=h10 _ _ hbm2
 rw [hds]at hall2
 generalize hl2:(arr2.toList.drop off2).take (k0*sz)=l2 at hall2
 obtain⟨i,v,hi,hsz,hbyt,hz,hzl,hfl,hvs⟩:=hT.run_bytes
 have hlen2:=hall2.length
 have hys:∀j u,l2[j]? = some u→w.cell? ((⟨b2,off2,none⟩:Addr).add j)=some u:=fun j u hj=>by
  rw [add_none,cell_of w b2 _ arr2 _ _ hb2]
  rw [←hl2,List.getElem?_take]at hj
  split at hj
  ·rw [List.getElem?_drop]at hj;simpa using hj
  ·cases hj
 have hexec:execOp a.eval (⟨some d, .call ⟨.builtin .append,#[x,y],#[T,T]⟩,ty,pos,aft,none⟩:Oper)=(do let v←Builtin.append_ #[T,T] ty #[a.eval x,a.eval y];pure (.value v)):=by
  simp [execOp,resolve,invoke,builtin]
 have hmul:∀q,q≤1000000001→q*by_≤140737488355328:=fun q hq=>Nat.le_trans (Nat.mul_le_mul hq hby) (by decide)
 have get2:∀m,MemIn m w→(ev F y).p m (a.eval y)→All2 m ds l2:=fun m h1 h2=>by
  rw [hy,e1]at h2
  obtain⟨ad3,c3,e3,_,_,hcb3⟩:=sl_cells h2
  obtain⟨b3,off3,rfl,arr3,T3,fz3,hbm3,hall3⟩:=hcb3.resolve_left (fun h=>by rw [h]at hds;simp only [List.length_nil]at hds;omega)
  have hb3:=h1 _ _ hbm3
  simp only [Value.slice.injEq,Option.some.injEq,Addr.mk.injEq,and_true,true_and]at e3
  obtain⟨⟨rfl,rfl⟩,_⟩:=e3
  rw [hb2]at hb3
  simp only [Option.some.injEq,Obj.cells.injEq]at hb3
  obtain⟨rfl,_⟩:=hb3
  rw [hds,hl2]at hall3
  exact hall3
 unfold Oper.wp
 rw [hexec,e1]
 obtain⟨hcl,hcase⟩:=hown
 rcases hcase with⟨rfl,rfl,rfl⟩|⟨b,c,hnc,hcm,rfl,rfl⟩
 ·rw [lit_p]at e0
  have hcs:cs=[]:=List.eq_nil_of_length_eq_zero (by rw [hcl,Nat.zero_mul])
  subst hcs
  have hrun:=run_append_nil (P:=P) w T ty e i v hS.h hi hz ⟨b2,off2,none⟩ k0 c2 l2 (by rw [hlen2,hsz,hds]) hys hk0 (by omega) (by rw [hbyt];have:=hmul k0 (by omega);omega)
  rw [e0]
  simp only [Sem.run_bind,hrun,Result.andThen_ok,Sem.run_pure]
  have hge:=grownCap_ge w k0 0 e
  have hle:=grownCap_le_maxLen w k0 0 e (by simp only [maxLen];omega)
  have h:=k (lit (.slice (some ⟨w.heap.size,0,none⟩) k0 (grownCap w k0 0 e))) [(w.heap.size,e,([]++ds)++List.replicate (grownCap w k0 0 e*sz-k0*sz) top)] ⟨by rw [List.nil_append,hds,Nat.zero_add], .inr ⟨w.heap.size,grownCap w k0 0 e,by omega,hle,by rw [Nat.zero_add],by rw [Nat.zero_add]⟩⟩
  unfold WPL at h
  refine hK' _ _ (h _ _ (St.pushD (Nat.blt_eq.mp hd) hs fun m h1 h2 h3=>?_) Q hq)
  simp only [Array.toList_append,List.toList_toArray,List.nil_append]
  refine(get2 m h1 (h3 y)).append (All2.topL ?_ (zeroCells_one hfl))
  rw [Array.length_toList,size_zeroCells,hvs,Nat.sub_mul]
 ·rw [lit_p]at e0
  obtain⟨hmb,arr,hb,hall⟩:=h20.2 _ (List.mem_append_left Rs (List.mem_singleton.2 rfl))
  have hlen:=hall.length
  simp only [List.length_append,List.length_replicate,hcl,Array.length_toList]at hlen
  have hmono:n0*sz≤c*sz:=Nat.mul_le_mul_right _ hnc
  have getc:∀m,HOk m w ([(b,e,cs++List.replicate (c*sz-n0*sz) top)]++Rs)→All2 m (cs++List.replicate (c*sz-n0*sz) top) arr.toList:=fun m h2=>by
   obtain⟨_,arr',hb',hall'⟩:=h2.2 _ (List.mem_append_left Rs (List.mem_singleton.2 rfl))
   rw [hb]at hb'
   simp only [Option.some.injEq,Obj.cells.injEq]at hb'
   obtain⟨rfl,_⟩:=hb'
   exact hall'
  by_cases hroom:n0+k0≤c
  ·have hm1:(n0+k0)*sz≤c*sz:=Nat.mul_le_mul_right _ hroom
   rw [Nat.add_mul]at hm1
   have hrun:=run_append_room (P:=P) w T ty e i hS.h hi b n0 c arr hb ⟨b2,off2,none⟩ k0 c2 l2 (by rw [hlen2,hsz,hds]) hys hall2.flat hroom (by rw [hsz,hlen2,hds];omega)
   rw [e0]
   simp only [Sem.run_bind,hrun,Result.andThen_ok,Sem.run_pure]
   have h:=k (lit (.slice (some ⟨b,0,none⟩) (n0+k0) c)) [(b,e,(cs++ds)++List.replicate (c*sz-(n0+k0)*sz) top)] ⟨by rw [List.length_append,hcl,hds,Nat.add_mul], .inr ⟨_,_,hroom,hcm,rfl,rfl⟩⟩
   unfold WPL at h
   have hfin:All2 m0 ((cs++ds)++List.replicate (c*sz-(n0+k0)*sz) top) (arr.toList.take (n0*i.size)++l2++arr.toList.drop (n0*i.size+l2.length)).toArray.toList:=by
    obtain⟨q1,q2⟩:=(getc m0 h20).split
    rw [hcl]at q1 q2
    rw [hsz,hlen2,hds,List.toList_toArray]
    refine(q1.append (get2 m0 h10 (hp0 y))).append (All2.topL ?_ fun u hu=>?_)
    ·rw [List.length_drop,Array.length_toList,Nat.add_mul];omega
    ·exact hall.flat u (List.mem_of_mem_drop hu)
   obtain⟨q1,q2,q3,q4⟩:=write_ok (w':=w.setRow b (arr.toList.take (n0*i.size)++l2++arr.toList.drop (n0*i.size+l2.length)).toArray) h10 h20 h30 h40 (.here Rs)
    (setRow_heap w b arr _ e _ hb) (fun j hj=>setRow_other w b j _ hj) rfl rfl rfl (by simp) hfin
   refine hK' _ _ (h (a.put (some d) (.slice (some ⟨b,0,none⟩) (n0+k0) c)) _ ⟨hdef,by simpa [Act.put] using hn,m0,q1,q2,q3,q4,fun t=>?_⟩ Q hq)
   rw [getD_put (Nat.lt_of_lt_of_le (Nat.blt_eq.mp hd) hn)]
   unfold Ab.upd
   by_cases ht:t=d
   ·subst ht;rw [if_pos rfl,Nat.beq_refl];exact lit_p.2 rfl
   ·rw [if_neg ht]
    have:Nat.beq t d=false:=by
     cases hbb:Nat.beq t d with
     |false=>rfl
     |true=>exact absurd (Nat.eq_of_beq_eq_true hbb) ht
    rw [this]
    exact h50 t
  ·have hxs:∀j u,(arr.toList.take (n0*sz))[j]? = some u→w.cell? ((⟨b,0,none⟩:Addr).add j)=some u:=fun j u hj=>by
    rw [add_none,cell_of w b _ arr _ _ hb]
    rw [List.getElem?_take]at hj
    split at hj
    ·simpa using hj
    ·cases hj
   have hrun:=run_append_grow (P:=P) w T ty e i v hS.h hi hz ⟨b,0,none⟩ n0 c (arr.toList.take (n0*sz)) (by rw [List.length_take,Array.length_toList,hsz];omega) hxs
    ⟨b2,off2,none⟩ k0 c2 l2 (by rw [hlen2,hsz,hds]) hys (by omega) (by omega) (growslice_fits (by omega) (by rw [hbyt];exact hmul _ (by omega)))
   rw [e0]
   simp only [Sem.run_bind,hrun,Result.andThen_ok,Sem.run_pure]
   have hge:=grownCap_ge w (n0+k0) c e
   have hle:=grownCap_le_maxLen w (n0+k0) c e (by simp only [maxLen];omega)
   have h:=k (lit (.slice (some ⟨w.heap.size,0,none⟩) (n0+k0) (grownCap w (n0+k0) c e))) [(w.heap.size,e,(cs++ds)++List.replicate (grownCap w (n0+k0) c e*sz-(n0+k0)*sz) top)]
    ⟨by rw [List.length_append,hcl,hds,Nat.add_mul], .inr ⟨_,_,hge,hle,rfl,rfl⟩⟩
   unfold WPL at h
   have hst:=St.pushD (d:=d) (cs:=(cs++ds)++List.replicate (grownCap w (n0+k0) c e*sz-(n0+k0)*sz) top) (v := .slice (some ⟨w.heap.size,0,none⟩) (n0+k0) (grownCap w (n0+k0) c e)) (T:=e)
    (arr:=(arr.toList.take (n0*sz)).toArray++l2.toArray++Builtin.zeroCells v.cells (grownCap w (n0+k0) c e-(n0+k0))) (Nat.blt_eq.mp hd) hs fun m h1 h2 h3=>?_
   ·refine hK' _ _ (h _ _ ?_ Q hq)
    exact hst.drop (.there _ (.here _))
   ·simp only [Array.toList_append,List.toList_toArray]
    obtain⟨q1,_⟩:=(getc m h2).split
    rw [hcl]at q1
    refine(q1.append (get2 m h1 (h3 y))).append (All2.topL ?_ (zeroCells_one hfl))
    rw [Array.length_toList,size_zeroCells,hvs,Nat.sub_mul]
end
section
variable {P:Program}{C:Ctx}{n:Nat}{F:Fr}{H:LH}{ty:TypeId}
theorem xsl_new {m:Mem}{b k:Nat}{arr:Array Value}{T:TypeId}{cs:List SV}(hb:m b=some (.cells arr T (0,0))) (h:All2 m cs arr.toList) (hk:k≤maxLen):(xsl cs k).p m (.slice (some ⟨b,0,none⟩) k k):=by
 unfold xsl
 exact⟨some ⟨b,0,none⟩,rfl,hk,fun e=>(by cases e), .inr ⟨b,0,rfl,arr,T,(0,0),hb,by rw [List.drop_zero,←h.length,List.take_length];exact h⟩⟩
theorem ov_bsX {T e:TypeId}{sz by_:Nat}{z:List SV}{g:Bool} [hS:TSl P T e] [hT:TY P e sz by_ z g]{x:Operand}{s:SV}{ds:List SV}(hx:ev F x=s) (hco:CO s ds) (hf:fillS ((List.range 1).map fun i=>(i*sz,sz)) (List.replicate 1 z).flatten [(0,ds)]=some ds:=by exact rfl)
  (hsz:Nat.ble (1*sz) 16777216=true:=by exact rfl) (hpos:Nat.blt 0 sz=true:=by exact rfl):OpV P (.buildSlice T 1 [(0,x)].toArray) ty F H (xsl ds 1) :=
 OpV.pubN (nk_bslice (.cons hx hco .nil) hf hsz hpos) fun m b arr hb h=>xsl_new hb h (by simp only [maxLen];omega)
theorem ov_bsK {T e:TypeId}{sz by_:Nat}{z:List SV}{g:Bool} [hS:TSl P T e] [hT:TY P e sz by_ z g]{len:Nat}{l:List (Nat×Operand)}{r:List (Nat×List SV)}{cs:List SV}(hp:Parts F l r) (hf:fillS ((List.range len).map fun i=>(i*sz,sz)) (List.replicate len z).flatten r=some cs:=by exact rfl)
  (hsz:Nat.ble (len*sz) 16777216=true:=by exact rfl) (hpos:Nat.blt 0 sz=true:=by exact rfl) (hl:Nat.ble len 1000=true:=by exact rfl):OpV P (.buildSlice T len l.toArray) ty F H (sl cs len) :=
 OpV.pubN (nk_bslice hp hf hsz hpos) fun m b arr hb h=>sl_new hb h (by have:=Nat.le_of_ble_eq_true hl;simp only [maxLen];omega)
theorem ov_slT {T e:TypeId}{sz by_:Nat}{z:List SV}{g:Bool} [hS:TSl P T e] [hT:TY P e sz by_ z g]{x y:Operand}{cs:List SV}{k:Nat}{v:Int}(j:Nat) (hx:ev F x=sl cs k) (hy:ev F y=lit (.int .i64 v)) (hv:v=(j:Int)) (hj:j≤k) :
  OpV P (.slice T x none (some y) none) ty F H (sl (cs.take (j*sz)) j) :=
 OpV.pure fun m w o a ho _ _ _ h=>by
  have e0:=h x (by simp [Op.operands]);rw [hx]at e0
  have e1:=h y (by simp [Op.operands]);rw [hy,lit_p]at e1
  subst hv
  obtain⟨ad,cap,e0,hc1,hc2,hca⟩:=sl_cells e0
  have hb:(Instr.sliceBounds true k cap none (some (a.eval y)) none).run P w = .ok (0,j,cap) w:=by
   simp [Instr.sliceBounds,run_bound j cap _ e1 (by omega)]
  have hrun:∃a',(execOp a.eval o).run P w = .ok (.value (.slice a' j cap)) w∧∀b off,ad=some ⟨b,off,none⟩→a'=some ⟨b,off,none⟩:=by
   refine⟨if cap=0 then ad else ad.map (·.add 0),?_,?_⟩
   ·simp [execOp,ho,Instr.sliceAt,Instr.slice,underlying,hS.h,e0,hb,hT.run_size]
   ·rintro b off rfl;simp [add_none]
  obtain⟨a',hr,q3⟩:=hrun
  refine⟨_,hr,sl_mk (by omega) hc2 ?_⟩
  rcases hca with hnil|⟨b,off,rfl,hca⟩
  ·left;rw [hnil,List.take_nil]
  ·exact .inr ⟨b,off,q3 b off rfl,hca.take _⟩
theorem ov_sl3X {T e:TypeId}{sz by_:Nat}{z:List SV}{g:Bool} [hS:TSl P T e] [hT:TY P e sz by_ z g]{x y y':Operand}{cs:List SV}{k:Nat}{v v':Int}(j:Nat) (hx:ev F x=sl cs k) (hy:ev F y=lit (.int .i64 v)) (hy':ev F y'=lit (.int .i64 v')) (hv:v=(j:Int)) (hv':v'=(j:Int)) (hk:cs.length=k*sz) (hj:j≤k) (hpos:0<sz:=by decide) :
  OpV P (.slice T x none (some y) (some y')) ty F H (xsl (cs.take (j*sz)) j) :=
 OpV.pure fun m w o a ho _ _ _ h=>by
  have e0:=h x (by simp [Op.operands]);rw [hx]at e0
  have e1:=h y (by simp [Op.operands]);rw [hy,lit_p]at e1
  have e2:=h y' (by simp [Op.operands]);rw [hy',lit_p]at e2
  subst hv hv'
  obtain⟨ad,cap,e0,hc1,hc2,hca⟩:=sl_cells e0
  have hb:(Instr.sliceBounds true k cap none (some (a.eval y)) (some (a.eval y'))).run P w = .ok (0,j,j) w:=by
   simp [Instr.sliceBounds,run_bound j cap _ e2 (by omega),run_bound j j _ e1 (Nat.le_refl _)]
  have hrun:∃a',(execOp a.eval o).run P w = .ok (.value (.slice a' j j)) w∧(∀q,ad=some q→∃q',a'=some q')∧∀b off,ad=some ⟨b,off,none⟩→a'=some ⟨b,off,none⟩:=by
   refine⟨if j=0 then ad else ad.map (·.add 0),?_,?_,?_⟩
   ·simp [execOp,ho,Instr.sliceAt,Instr.slice,underlying,hS.h,e0,hb,hT.run_size]
   ·rintro q rfl;split <;> simp
   ·rintro b off rfl;simp [add_none]
  obtain⟨a',hr,q2,q3⟩:=hrun
  refine⟨_,hr,?_⟩
  unfold xsl
  refine⟨a',rfl,by omega,fun hn=>?_,?_⟩
  ·rcases hca with hnil|⟨b,off,rfl,_⟩
   ·rw [hnil,List.length_nil]at hk
    rcases Nat.mul_eq_zero.mp hk.symm with h|h <;> omega
   ·obtain⟨q',hq⟩:=q2 _ rfl;rw [hq]at hn;cases hn
  ·rcases hca with hnil|⟨b,off,rfl,hca⟩
   ·left;rw [hnil,List.take_nil]
   ·exact .inr ⟨b,off,q3 b off rfl,hca.take _⟩
theorem ov_appXK {T e:TypeId}{sz by_:Nat}{z:List SV}{g:Bool} [hS:TSl P T e] [hT:TY P e sz by_ z g]{x y:Operand}{cs ds:List SV}{k k0:Nat}(hx:ev F x=xsl cs k) (hy:ev F y=sl ds k0) (hk:cs.length=k*sz) (hds:ds.length=k0*sz) (hl:k+k0≤1000000) (hpos:0<sz:=by decide) (hby:by_≤10000:=by decide) :
  OpV P (.call ⟨.builtin .append,#[x,y],#[T,T]⟩) ty F H (sl (cs++ds) (k+k0)):=by
 refine OpV.of0 ?_
 intro m w o a ho hty h1 h2 h3 K Q hK
 have e0:=evA (x:=x) h3 (by simp [Op.operands,Call.operands]);rw [hx]at e0
 have e1:=evA (x:=y) h3 (by simp [Op.operands,Call.operands]);rw [hy]at e1
 unfold xsl at e0
 obtain⟨ad,e0,hkm,hadn,hca⟩:=e0
 have e1s:=e1
 obtain⟨ad2,cap2,e2,hc1,hc2,hcb⟩:=sl_cells e1s
 obtain⟨i,v,hi,hsz,hbyt,hz,hzl,hfl,hvs⟩:=hT.run_bytes
 have hmul:∀q,q≤2000001→q*by_≤140737488355328:=fun q hq=>Nat.le_trans (Nat.mul_le_mul hq hby) (by decide)
 have hexec:execOp a.eval o=(do let v←Builtin.append_ #[T,T] o.type #[a.eval x,a.eval y];pure (.value v)):=by
  simp [execOp,ho,resolve,invoke,builtin]
 by_cases hk0:k0=0
 ·subst hk0
  rw [Nat.zero_mul]at hds
  obtain rfl:=List.eq_nil_of_length_eq_zero hds
  have hs:Src P i.size T (.slice ad2 0 cap2) 0 [] w:=by
   cases ad2 with
   |none=>exact Src.ofNil w hS.h cap2
   |some a2=>exact Src.ofSlice w hS.h a2 0 cap2 [] (by simp) (by intro j u hj;simp at hj) (by intro u hu;cases hu)
  have hrun:=run_append_nothing (P:=P) w T T o.type e i hS.h hi ad k k (Nat.le_refl _) _ hs
  unfold Oper.wp
  rw [hexec,e0,e2]
  simp only [Sem.run_bind,hrun,Result.andThen_ok,Sem.run_pure]
  refine hK _ m w (sl_mk (Nat.le_refl _) hkm ?_) h1 (Rel.refl _ _ _)
  rw [List.append_nil]
  exact hca
 ·obtain⟨b2,off2,rfl,arr2,T2,fz2,hb2,hall2⟩:=hcb.resolve_left (fun h=>by
   rw [h,List.length_nil]at hds
   rcases Nat.mul_eq_zero.mp hds.symm with h|h <;> omega)
  have hw2:=h1 _ _ hb2
  rw [hds]at hall2
  generalize hl2:(arr2.toList.drop off2).take (k0*sz)=l2 at hall2
  have hlen2:l2.length=k0*sz:=by rw [hall2.length,hds]
  have hys:∀j u,l2[j]? = some u→w.cell? ((⟨b2,off2,none⟩:Addr).add j)=some u:=fun j u hj=>by
   rw [add_none,cell_of w b2 _ arr2 _ _ hw2]
   rw [←hl2,List.getElem?_take]at hj
   split at hj
   ·rw [List.getElem?_drop]at hj;simpa using hj
   ·cases hj
  have fin:∀(c:Nat) (arr:Array Value),k+k0≤c→c≤maxLen→All2 m (cs++ds) (arr.toList.take ((k+k0)*sz))→(Builtin.append_ #[T,T] o.type #[a.eval x,a.eval y]).run P w = .ok (.slice (some ⟨w.heap.size,0,none⟩) (k+k0) c) (w.drew.alloc (.cells arr e))→o.wp P a w K Q:=by
   intro c arr hc hcm hall hrun
   unfold Oper.wp
   rw [hexec]
   simp only [Sem.run_bind,hrun,Result.andThen_ok,Sem.run_pure]
   obtain⟨m',g1,g2,g3⟩:=pub_new (w':=w.drew.alloc (.cells arr e)) h1 (.inr rfl)
   refine hK _ m' _ (sl_mk hc hcm (.inr ⟨w.heap.size,0,rfl,arr,e,(0,0),g3,?_⟩)) g1 g2
   rw [List.drop_zero,List.length_append,hk,hds,←Nat.add_mul]
   exact hall.mono g2.le
  have tk:∀(l1 r:List Value),All2 m cs l1→l1.length=k*sz→All2 m (cs++ds) ((l1++l2++r).take ((k+k0)*sz)):=fun l1 r hall1 hlen1=>by
   have hlk:(l1++l2).length=(k+k0)*sz:=by rw [List.length_append,hlen1,hlen2,Nat.add_mul]
   rw [List.take_append_of_le_length (by rw [hlk];exact Nat.le_refl _),List.take_of_length_le (by rw [hlk];exact Nat.le_refl _)]
   exact hall1.append hall2
  rcases hca with hnil|⟨b1,off1,rfl,arr1,T1,fz1,hb1,hall1⟩
  ·subst hnil
   have hk1:k=0:=by
    rw [List.length_nil]at hk
    rcases Nat.mul_eq_zero.mp hk.symm with h|h <;> omega
   subst hk1
   cases ad with
   |none =>
    have hrun:=run_append_nil (P:=P) w T o.type e i v hS.h hi hz ⟨b2,off2,none⟩ k0 cap2 l2 (by rw [hlen2,hsz]) hys (by omega) (by omega) (by rw [hbyt];have:=hmul k0 (by omega);omega)
    rw [←e0,←e2]at hrun
    refine fin (grownCap w k0 0 e) _ (by rw [Nat.zero_add];exact grownCap_ge w k0 0 e) (grownCap_le_maxLen w k0 0 e (by simp only [maxLen];omega)) ?_ (by rw [Nat.zero_add];exact hrun)
    simp only [Array.toList_append,List.toList_toArray]
    exact tk [] _ trivial (by simp)
   |some ad =>
    refine fin _ _ (grownCap_ge w (0+k0) 0 e) (grownCap_le_maxLen w (0+k0) 0 e (by simp only [maxLen];omega)) ?_ (by rw [e0,e2];exact run_append_grow (P:=P) w T o.type e i v hS.h hi hz ad 0 0 [] (by simp) (by intro j u hj;simp at hj) ⟨b2,off2,none⟩ k0 cap2 l2 (by rw [hlen2,hsz]) hys (by omega) (by omega) (growslice_fits (by omega) (by rw [hbyt];exact hmul _ (by omega))))
    simp only [Array.toList_append,List.toList_toArray]
    exact tk [] _ trivial (by simp)
  ·have hw1:=h1 _ _ hb1
   have hlen1:=hall1.length
   rw [hk]at hall1 hlen1
   have hxs:∀j u,((arr1.toList.drop off1).take (k*sz))[j]? = some u→w.cell? ((⟨b1,off1,none⟩:Addr).add j)=some u:=fun j u hj=>by
    rw [add_none,cell_of w b1 _ arr1 _ _ hw1]
    rw [List.getElem?_take]at hj
    split at hj
    ·rw [List.getElem?_drop]at hj;simpa using hj
    ·cases hj
   refine fin _ _ (grownCap_ge w (k+k0) k e) (grownCap_le_maxLen w (k+k0) k e (by simp only [maxLen];omega)) ?_ (by rw [e0,e2];exact run_append_grow (P:=P) w T o.type e i v hS.h hi hz ⟨b1,off1,none⟩ k k ((arr1.toList.drop off1).take (k*sz)) (by rw [hlen1,hsz]) hxs ⟨b2,off2,none⟩ k0 cap2 l2 (by rw [hlen2,hsz]) hys (by omega) (by omega) (growslice_fits (by omega) (by rw [hbyt];exact hmul _ (by omega))))
   simp only [Array.toList_append,List.toList_toArray]
   exact tk _ _ hall1 hlen1
theorem le_xsl {cs:List SV}{k:Nat}:Le (xsl cs k) (sl cs k):=fun m v h=>by
 unfold xsl at h
 obtain⟨a,rfl,hk,_,hca⟩:=h
 exact sl_mk (Nat.le_refl _) hk hca
end
theorem ins_cells {α:Type}{f:α→List SV}{sz:Nat}(hf:∀a,(f a).length=sz) (l:List α) (x:α) (j:Nat):((l.map f).flatten).take (j*sz)++(f x++((l.map f).flatten).drop (j*sz))=(((l.take j)++x::l.drop j).map f).flatten:=by
 have h:∀(l:List α) (j:Nat),((l.map f).flatten).take (j*sz)=((l.take j).map f).flatten∧((l.map f).flatten).drop (j*sz)=((l.drop j).map f).flatten:=by
  intro l
  induction l with
  |nil=>intro j;simp
  |cons a l ih =>
   intro j
   cases j with
   |zero=>simp
   |succ j =>
    obtain⟨i1,i2⟩:=ih j
    have e:(j+1)*sz=(f a).length+j*sz:=by rw [hf,Nat.succ_mul];omega
    constructor
    ·rw [List.map_cons,List.flatten_cons,e,List.take_length_add_append,i1,List.take_succ_cons,List.map_cons,List.flatten_cons]
    ·rw [List.map_cons,List.flatten_cons,e,List.drop_length_add_append,i2,List.drop_succ_cons]
 obtain⟨i1,i2⟩:=h l j
 rw [i1,i2,List.map_append,List.flatten_append,List.map_cons,List.flatten_cons]
theorem flat_len {α:Type}{f:α→List SV}{sz:Nat}(hf:∀a,(f a).length=sz) (l:List α):((l.map f).flatten).length=l.length*sz:=by
 induction l with
 |nil=>simp
 |cons a l ih=>rw [List.map_cons,List.flatten_cons,List.length_append,ih,hf,List.length_cons,Nat.succ_mul,Nat.add_comm]
theorem flat_take {α:Type}{f:α→List SV}{sz:Nat}(hf:∀a,(f a).length=sz):∀(l:List α) (j:Nat),((l.map f).flatten).take (j*sz)=((l.take j).map f).flatten
 | [],j=>by simp
 |a::l,0=>by simp
 |a::l,j+1=>by
  have e:(j+1)*sz=(f a).length+j*sz:=by rw [hf,Nat.succ_mul];omega
  rw [List.map_cons,List.flatten_cons,e,List.take_length_add_append,flat_take hf l j,List.take_succ_cons,List.map_cons,List.flatten_cons]
theorem row_at {α:Type}{f:α→List SV}{sz:Nat}(hf:∀a,(f a).length=sz):∀{l:List α}{k:Nat}{a:α}(r:List SV),l[k]? = some a→(((l.map f).flatten++r).drop (k*sz)).take sz=f a
 | [],k,a,r,h=>by simp at h
 |b::l,0,a,r,h=>by
  simp only [List.getElem?_cons_zero,Option.some.injEq]at h
  subst h
  rw [Nat.zero_mul,List.drop_zero,List.map_cons,List.flatten_cons,List.append_assoc,List.take_append_of_le_length (by rw [hf];exact Nat.le_refl _),List.take_of_length_le (by rw [hf];exact Nat.le_refl _)]
 |b::l,k+1,a,r,h=>by
  have e:(k+1)*sz=(f b).length+k*sz:=by rw [hf,Nat.succ_mul];omega
  rw [List.map_cons,List.flatten_cons,List.append_assoc,e,List.drop_length_add_append]
  exact row_at hf r (by simpa using h)
def enumP:Nat→List (List SV)→List (Nat×List SV)
 |_,[]=>[]
 |i,d::r=>(i,d)::enumP (i+1) r
theorem spl_mid:∀(ds pre zs:List SV),ds.length≤zs.length→spl (pre++zs) pre.length ds=pre++ds++zs.drop ds.length
 | [],pre,zs,_=>by rw [spl];simp
 |d::ds,pre,[],h=>by simp at h
 |d::ds,pre,z::zs,h=>by
  have e:(pre++z::zs).set pre.length d=(pre++[d])++zs:=by
   rw [List.set_append_right _ _ (Nat.le_refl _),Nat.sub_self,List.set_cons_zero];simp
  rw [spl,e,show pre.length+1=(pre++[d]).length by simp,spl_mid ds (pre++[d]) zs (by simpa using h)]
  simp
theorem fill_enum {sz len:Nat}:∀(dss:List (List SV)) (i:Nat) (pre zs:List SV),(∀d∈dss,d.length=sz)→pre.length=i*sz→i+dss.length=len→zs.length=dss.length*sz→
  fillS ((List.range len).map fun i=>(i*sz,sz)) (pre++zs) (enumP i dss)=some (pre++dss.flatten)
 | [],i,pre,zs,_,_,_,hz=>by
  rw [List.length_nil,Nat.zero_mul]at hz
  rw [List.eq_nil_of_length_eq_zero hz,enumP,fillS];rfl
 |d::dss,i,pre,zs,hd,hp,hl,hz=>by
  have hd0:=hd d List.mem_cons_self
  rw [List.length_cons,Nat.succ_mul]at hz
  have hg:((List.range len).map fun i=>(i*sz,sz))[i]? = some (i*sz,sz):=by
   rw [List.getElem?_map,List.getElem?_range (by simp only [List.length_cons]at hl;omega)];rfl
  have hsp:=spl_mid d pre zs (by omega)
  rw [enumP,fillS,hg]
  simp only
  rw [hd0,show Nat.beq sz sz=true from Nat.beq_refl sz,show Nat.ble (i*sz+sz) (pre++zs).length=true from Nat.ble_eq_true_of_le (by rw [List.length_append];omega),←hp,hsp]
  simp only [Bool.and_self,cond_true]
  rw [fill_enum dss (i+1) (pre++d) (zs.drop d.length) (fun x hx=>hd x (List.mem_cons_of_mem _ hx)) (by rw [List.length_append,hp,hd0,Nat.succ_mul]) (by simp only [List.length_cons]at hl;omega) (by rw [List.length_drop];omega)]
  simp
theorem ov_bsL {P:Program}{F:Fr}{H:LH}{ty T e:TypeId}{sz by_:Nat}{z:List SV}{g:Bool} [hS:TSl P T e] [hT:TY P e sz by_ z g]{α:Type}{f:α→List SV}(hf:∀a,(f a).length=sz) (ps:List α){len:Nat}{l:List (Nat×Operand)}{r:List (Nat×List SV)}(hp:Parts F l r)
  (hr:r=enumP 0 (ps.map f):=by exact rfl) (hn:len=ps.length:=by exact rfl) (hsz:Nat.ble (len*sz) 16777216=true:=by exact rfl) (hpos:Nat.blt 0 sz=true:=by exact rfl) (hl:Nat.ble len 1000=true:=by exact rfl):OpV P (.buildSlice T len l.toArray) ty F H (sl (ps.map f).flatten ps.length):=by
 have hz1:z.length=sz:=by
  obtain⟨l,_,h2,_,h4⟩:=hT.info
  rw [←h2,List.length_map,h4]
 subst hn hr
 refine ov_bsK hp ?_ hsz hpos hl
 have:=fill_enum (sz:=sz) (len:=ps.length) (ps.map f) 0 [] (List.replicate ps.length z).flatten (fun d hd=>by
  obtain⟨a,_,rfl⟩:=List.mem_map.1 hd
  exact hf a) (by simp) (by simp) (by
  have h:∀k:Nat,((List.replicate k z).flatten).length=k*sz:=fun k=>by
   induction k with
   |zero=>simp
   |succ k ih=>rw [List.replicate_succ,List.flatten_cons,List.length_append,ih,hz1,Nat.succ_mul,Nat.add_comm]
  rw [h,List.length_map])
 simpa using this
theorem Parts.pt {F:Fr}{i:Nat}{x:Operand}{cs:List SV}{l:List (Nat×Operand)}{r:List (Nat×List SV)}(hx:ev F x=ag cs) (h:Parts F l r):Parts F ((i,x)::l) ((i,cs)::r) := .cons hx inferInstance h
section
variable {P:Program}{C:Ctx}{n:Nat}{Q:Exit→Fr→LH→Prop}{F:Fr}{H:LH}
theorem WP.rowS {c:Code}{T:TypeId}{sz k:Nat}{cs:List SV}{s:SV}{Hs R:LH}(d:Nat) (hown:Own T sz k cs s Hs) (hF:F d=s) (hp:H.Perm (Hs++R)) (h:WP P C n c Q (upd F d (sl cs k)) R):WP P C n c Q F H:=by
 refine WP.perm hp ?_
 obtain⟨hcl,⟨rfl,rfl,rfl⟩|⟨b,c',h1,h2,rfl,rfl⟩⟩:=hown
 ·rw [Nat.zero_mul]at hcl
  obtain rfl:=List.eq_nil_of_length_eq_zero hcl
  refine WP.le (F':=upd F d (sl [] 0)) (fun t=>?_) h
  by_cases ht:t=d
  ·subst ht;rw [upd_eq,hF];exact le_nilS
  ·rw [upd_ne ht];exact Le.refl _
 ·exact WP.pub (HDel.here _) hF (fun m arr g1 g2=>pub_ownL g1 g2 h1 h2) h
theorem WPL.rowS {l:List Oper}{ops:Array Oper}{K:Fr→LH→Prop}{T:TypeId}{sz k:Nat}{cs:List SV}{s:SV}{Hs R:LH}(d:Nat) (hown:Own T sz k cs s Hs) (hF:F d=s) (hp:H.Perm (Hs++R)) (h:WPL P C n ops l K (upd F d (sl cs k)) R):WPL P C n ops l K F H:=by
 refine WPL.perm hp ?_
 obtain⟨hcl,⟨rfl,rfl,rfl⟩|⟨b,c',h1,h2,rfl,rfl⟩⟩:=hown
 ·rw [Nat.zero_mul]at hcl
  obtain rfl:=List.eq_nil_of_length_eq_zero hcl
  refine WPL.le (F':=upd F d (sl [] 0)) (fun t=>?_) h
  by_cases ht:t=d
  ·subst ht;rw [upd_eq,hF];exact le_nilS
  ·rw [upd_ne ht];exact Le.refl _
 ·exact WPL.pub (HDel.here _) hF (fun m arr g1 g2=>pub_ownL g1 g2 h1 h2) h
end
abbrev rpx (p:Pq):List SV:=[lit (.bool (decide (p.1.num<0))),nat p.1.num.natAbs,dg (dden p.1.den),lit (.bool (decide (p.2.num<0))),nat p.2.num.natAbs,dg (dden p.2.den)]
theorem rpx_len (p:Pq):(rpx p).length=6:=rfl
abbrev rps (l:List Pq):SV:=sl (l.map rpx).flatten l.length
theorem pcmp_pu (p q:Pq) (h1:ht p.1≤3000000∧ht p.2≤3000000) (h2:ht q.1≤3000000∧ht q.2≤3000000):Pu Tryz.prog 232 [ag (rpx p),ag (rpx q)] (lit (.int .i64 (pcmp p q))):=by
 obtain⟨x,y⟩:=p
 obtain⟨u,v⟩:=q
 have c1:=rc_pu x u h1.1 h2.1
 have c2:=rc_pu y v h1.2 h2.2
 have e1:=sub_sign_zero (x:=x) (y:=u)
 unfold pcmp
 simp only
 generalize(x-u).num.sign=s at *
 generalize(y-v).num.sign=t at *
 clear h1 h2
 by_cases h:x=u
 ·have hs:=e1.2 h
  rw [if_pos h]
  clear e1 h
  subst hs
  refine Pu.intro Tryz.func232 rfl (by kernel_rfl) fun C=>?_
  repeat(first|(refine A1 ⟨?_⟩;intros)|refine W4 c1 ⟨?_⟩|refine W4 c2 ⟨?_⟩)
  exact E1
 ·have hs:s≠0:=fun e=>h (e1.1 e)
  rw [if_neg h]
  clear e1 h
  refine Pu.intro Tryz.func232 rfl (by kernel_rfl) fun C=>?_
  repeat(first|(refine A1 ⟨?_⟩;intros)|refine W4 c1 ⟨?_⟩|refine W4 c2 ⟨?_⟩)
  exact E1
set_option maxHeartbeats 4000000 in
theorem sorted_pu (l:List Pq) (hl:l.length≤100000) (hh:∀p∈l,ht p.1≤3000000∧ht p.2≤3000000):Pu Tryz.prog 173 [rps l] (rps (srt l)):=by
 refine Pu.intro Tryz.func173 rfl (by kernel_rfl) fun C=>?_
 repeat(refine A1 ⟨?_⟩;intros)
 refine WP.loopS (ι:=Nat) (fun k=>k≤l.length) (fun k=>l.length-k) (fun k=>fm [(3,rps (srt (l.take k))),(7,rps l),(8,lit (.int .i64 l.length)),(9,lit (.int .i64 k))]) (fun _=>[]) 0
  (Nat.zero_le _) (LeF.cons le_nilS lfA) (List.nil_sublist _) ?_
 rintro k hk K hK
 by_cases hkl:k<l.length
 ·have hget:=List.getElem?_eq_getElem hkl
  generalize l[k]=p at hget
  have hp:=hh p (List.mem_of_getElem? hget)
  have hat:=flat_at (f:=rpx) (n:=6) rpx_len hget
  have hne:(l.map rpx).flatten≠[]:=flat_ne rpx_len (by omega) (fun e=>by rw [e]at hkl;simp at hkl)
  have hgo:=fun F' H' h1 h2=>hK F' H' (k+1) (by omega) (by omega) h1 h2
  rw [srt_take hget]at hgo
  have hsm:∀q∈srt (l.take k),ht q.1≤3000000∧ht q.2≤3000000:=fun q hq=>hh q (List.mem_of_mem_take ((srt_mem _ q).1 hq))
  have hsl:=srt_len (l.take k)
  rw [List.length_take]at hsl
  generalize srt (l.take k)=out at hgo hsm hsl⊢
  clear hK hh
  repeat(refine A1 ⟨?_⟩;intros)
  refine Wo (ov_idxS (cs':=rpx p) rfl rfl (by omega) (by omega) hat hne) ?_
  repeat(refine A1 ⟨?_⟩;intros)
  rename_i b5
  refine WP.loopS (ι:=Nat) (fun j=>j≤pat out p) (fun j=>out.length-j) (fun j=>fm [(3,rps out),(5,lit (.pointer (some ⟨b5,0,none⟩))),(6,lit (.int .i64 j)),(7,rps l),(8,lit (.int .i64 l.length)),(9,lit (.int .i64 k))])
   (fun _=>[(b5,63,rpx p)]) 0 (Nat.zero_le _) lfA (List.Sublist.refl _) ?_
  rintro j hj K2 hK2
  have hpl:=pat_le out p
  have hfl:=flat_len rpx_len out
  have hins:=ins_cells rpx_len out p j
  have hdl:(((out.map rpx).flatten).drop (j*6)).length=(out.length-j)*6:=by rw [List.length_drop,hfl,Nat.sub_mul]
  have hln:j+(1+(out.length-j))=(out.take j++p::out.drop j).length:=by rw [List.length_append,List.length_cons,List.length_take,List.length_drop];omega
  have htl:(((out.map rpx).flatten).take (j*6)).length=j*6:=by rw [List.length_take,hfl];omega
  have hpl2:(rpx p++((out.map rpx).flatten).drop (j*6)).length=(1+(out.length-j))*6:=by rw [List.length_append,hdl,rpx_len];omega
  by_cases hjl:j<out.length
  ·have hgo2:=out[j]?
   have hget2:=List.getElem?_eq_getElem hjl
   generalize out[j]=o at hget2
   have ho:=hsm o (List.mem_of_getElem? hget2)
   have hat2:=flat_at (f:=rpx) (n:=6) rpx_len hget2
   have hne2:(out.map rpx).flatten≠[]:=flat_ne rpx_len (by omega) (fun e=>by rw [e]at hjl;simp at hjl)
   have c:=pcmp_pu o p ho hp
   obtain⟨s1,s2⟩:=pat_step hj hget2
   cases hlt:plt o p with
   |true =>
    have hneg:pcmp o p<0:=by unfold plt at hlt;exact of_decide_eq_true hlt
    have hj1:=s1 hlt
    generalize pcmp o p=s at c hneg
    clear hgo s1 s2
    repeat(refine A1 ⟨?_⟩;intros)
    refine Wdog (ov_idxS (cs':=rpx o) rfl rfl (by omega) (by omega) hat2 hne2) ?_
    repeat(first|(refine A1 ⟨?_⟩;intros)|refine W4 c ⟨?_⟩)
    exact hK2 _ _ (j+1) hj1 (by omega) lfA (List.Sublist.refl _)
   |false =>
    have hneg:¬pcmp o p<0:=by unfold plt at hlt;exact of_decide_eq_false hlt
    have hje:=s2 hlt
    clear hK2 s1 s2
    by_cases hz:o=p
    ·have h0:=pcmp_zero.2 hz
     have hpi:pins out p=out:=by unfold pins;rw [if_pos (by rw [←hje,hget2,hz])]
     rw [hpi]at hgo
     rw [h0]at c
     clear hneg hlt
     repeat(refine A1 ⟨?_⟩;intros)
     refine Wdog (ov_idxS (cs':=rpx o) rfl rfl (by omega) (by omega) hat2 hne2) ?_
     repeat(first|(refine A1 ⟨?_⟩;intros)|refine W4 c ⟨?_⟩)
     refine Wdog (ov_idxS (cs':=rpx o) rfl rfl (by omega) (by omega) hat2 hne2) ?_
     repeat(first|(refine A1 ⟨?_⟩;intros)|refine W4 c ⟨?_⟩)
     exact hgo _ _ lfA (List.nil_sublist _)
    ·have h0:¬pcmp o p=0:=fun e=>hz (pcmp_zero.1 e)
     have hpi:pins out p=out.take j++p::out.drop j:=by unfold pins;rw [←hje,if_neg (by rw [hget2];exact fun e=>hz (Option.some.inj e))]
     rw [hpi]at hgo
     have hpos:0<pcmp o p:=by omega
     generalize pcmp o p=s at c hpos
     clear hneg hlt h0
     repeat(refine A1 ⟨?_⟩;intros)
     refine Wdog (ov_idxS (cs':=rpx o) rfl rfl (by omega) (by omega) hat2 hne2) ?_
     repeat(first|(refine A1 ⟨?_⟩;intros)|refine W4 c ⟨?_⟩)
     refine Wdog (ov_idxS (cs':=rpx o) rfl rfl (by omega) (by omega) hat2 hne2) ?_
     repeat(first|(refine A1 ⟨?_⟩;intros)|refine W4 c ⟨?_⟩)
     refine Wdo (ov_sl3X j rfl rfl rfl rfl rfl hfl (by omega)) ?_
     repeat(first|(refine Wdo (ov_bsX (s:=ag (rpx p)) (ds:=rpx p) rfl inferInstance) ?_)|(refine Wdo (ov_slFn j rfl rfl rfl hfl (by omega)) ?_)|(refine A1 ⟨?_⟩;intros))
     refine Wdo (ov_appXK (k:=1) (k0:=out.length-j) rfl rfl rfl hdl (by omega)) ?_
     refine Wdo (ov_appXK (k:=j) (k0:=1+(out.length-j)) rfl rfl htl hpl2 (by omega)) ?_
     rw [hins,hln]
     repeat(refine A1 ⟨?_⟩;intros)
     exact hgo _ _ lfA (List.nil_sublist _)
  ·have hje:j=pat out p:=by omega
   have hpi:pins out p=out.take j++p::out.drop j:=by unfold pins;rw [←hje,if_neg (by rw [List.getElem?_eq_none (by omega)];intro e;cases e)]
   rw [hpi]at hgo
   clear hK2
   repeat(refine A1 ⟨?_⟩;intros)
   refine Wdo (ov_sl3X j rfl rfl rfl rfl rfl hfl (by omega)) ?_
   repeat(first|(refine Wdo (ov_bsX (s:=ag (rpx p)) (ds:=rpx p) rfl inferInstance) ?_)|(refine Wdo (ov_slFn j rfl rfl rfl hfl (by omega)) ?_)|(refine A1 ⟨?_⟩;intros))
   refine Wdo (ov_appXK (k:=1) (k0:=out.length-j) rfl rfl rfl hdl (by omega)) ?_
   refine Wdo (ov_appXK (k:=j) (k0:=1+(out.length-j)) rfl rfl htl hpl2 (by omega)) ?_
   rw [hins,hln]
   repeat(refine A1 ⟨?_⟩;intros)
   exact hgo _ _ lfA (List.nil_sublist _)
 ·have hke:k=l.length:=by omega
  subst hke
  rw [List.take_length]
  repeat(refine A1 ⟨?_⟩;intros)
  exact endR (end1 (RV.tmp rfl) (Le.refl _))
end Go.Ab
