/- Texts laid one behind the other: RowB, RowC, RowE, Ins. -/
import Derived.Test.YtpeidlcjlfkpcaaGreatDoorB16
import Derived.Deep.Upon
set_option linter.all false
namespace Go.Ab
open Go.Proofs
variable [Base]
section
variable {P:Program}{C:Ctx}{n:Nat}{F:Fr}{H:LH}{ops:Array Oper}{K:Fr→LH→Prop}{rest:List Oper}{ty:TypeId}{pos:String}{aft:Array Edge}
theorem br.mem_or {b:Nat}{T:TypeId}{cs cs':List SV}{H H':LH}(h:br b T cs cs' H H'):∀e∈H',e=(b,T,cs')∨e∈H:=by
 induction h with
 |here=>exact fun e he=>(ak.1 he).imp id fun h=>Mc h
 |there _ _ ih=>exact fun e he=>(ak.1 he).elim (fun h => .inr (by rw [h];exact Ms)) fun h=>(ih e h).imp id fun h=>Mc h
theorem St.lowB {b:Nat}{T:TypeId}{cs cs':List SV}{H':LH}{a:Act}{w:World}(hu:br b T cs cs' H H') (hle:LeL cs cs') (hs:St C n F H a w):St C n F H' a w:=by
 obtain⟨hdef,hn,m,h1,h2,h3,h4,h5⟩:=hs;obtain⟨g1,g2⟩:=h2.2 _ hu.mem;refine⟨hdef,hn,m,h1,⟨by rw [hu.keys];exact h2.1,fun e he=>?_⟩,h3,fun e he=>?_,h5⟩
 ·rcases hu.mem_or e he with rfl|h
  ·exact⟨g1,g2.le hle⟩
  ·exact h2.2 e h
 ·rcases hu.mem_or e he with rfl|h
  ·exact h4 (b,T,cs) hu.mem
  ·exact h4 e h
theorem WPL.lowB {l:List Oper}{b:Nat}{T:TypeId}{cs cs':List SV}{H':LH}(hu:br b T cs cs' H H') (hle:LeL cs cs') (k:WPL P C n ops l K F H'):WPL P C n ops l K F H:=by
 unfold WPL at *;exact fun a w hs=>k a w (hs.lowB hu hle)
theorem WPL.viaS1 {Q:Exit→Fr→LH→Prop}{l:List Oper}{B R:Code}(J:Fr→LH→Prop) (h:WPL P C n ops l (fun F H=>j8 (fun F H=>WP P C n B (j8 J Q) F H) Q .normal F H) F H)
  (k:∀F H,J F H→WP P C n R Q F H):WPL P C n ops l (fun F H=>j8 (WP P C n (.seq B R) Q) Q .normal F H) F H :=
 WPL.via _ h fun F H hB=>WP.join _ hB k
theorem ld {T e:TypeId}{sz by_:Nat}{z:List SV}{g:Bool} [hS:TSl P T e] [hT:TY P e sz by_ z g]{x y:Operand}{cs:List SV}{k:Nat}{v:Int}(j:Nat) (hx:ev F x=sl cs k) (hy:ev F y=lit (.int .i64 v)) (hv:v=(j:Int)) (hk:cs.length=k*sz) (hj:j≤k) :
  OpV P (.slice T x (some y) none none) ty F H (sl (cs.drop (j*sz)) (k-j)) :=
 OpV.pure fun m w o a ho _ _ _ h=>by
  have e0:=h x (by simp [Op.operands]);rw [hx]at e0;have e1:=h y (by simp [Op.operands]);rw [hy,ap]at e1;subst hv;obtain⟨ad,cap,e0,hc1,hc2,hca⟩:=ft e0
  have hb:(Instr.sliceBounds true k cap (some (a.eval y)) none none).run P w = .ok (j,k,cap) w:=by
   simp [Instr.sliceBounds,ni j k _ e1 hj]
  have hrun:∃a',(execOp a.eval o).run P w = .ok (.value (.slice a' (k-j) (cap-j))) w∧(cs.drop (j*sz)=[]∨∃b off,ad=some ⟨b,off,none⟩∧a'=some ⟨b,off+j*sz,none⟩∧ie m b off cs):=by
   refine⟨if cap=j then ad else ad.map (·.add (j*sz)),?_,?_⟩
   ·simp [execOp,ho,Instr.sliceAt,Instr.slice,underlying,hS.h,e0,hb,hT.run_size]
   ·rcases hca with hnil|⟨b,off,rfl,hca⟩
    ·left;rw [hnil,jG]
    ·by_cases hci:cap=j
     ·left;have hkj:k=j:=by omega
      exact fR (by rw [hk,hkj];exact au _)
     ·right;refine⟨b,off,rfl,?_,hca⟩;rw [if_neg hci];simp [cE]
  obtain⟨a',hr,hcs⟩:=hrun;refine⟨_,hr,jq om om ?_⟩;rcases hcs with hnil|⟨b,off,_,rfl,hca⟩
  ·left;exact hnil
  ·right;exact⟨b,off+j*sz,rfl,hca.drop (j*sz)⟩
attribute [local semireducible] WPL in
theorem TSR.of {i:Nat}{o:Oper}{Fe:Fr}{Post:SV→LH→Prop}(ho:ops[i]? = some o) (hg:o.guard=none) (h:∀F:Fr,(∀t,t∈o.looksAt ops→Fe t=F t)→WPL P {C with pan:=noX} n ops [o] (fun F' H'=>∃sv,Post sv H'∧F'=ib o F sv) F H):TSR P C n ops i o Fe H Post:=by
 obtain⟨od,oop,oty,opos,oaft,og⟩:=o;simp only at hg;subst hg;intro F hF a w hst Q' K' hK;have h':=h F hF a w hst (fun e a' w'=>match e with| .normal=>K' a' w'|e=>False) ⟨fun a' w' F' H' hst' hKK=>?_,fun ch a' w' hp=>?_⟩
 ·unfold wpOp;rw [ho];unfold wpList at h';simp only [Region.wanted,aV]at h'⊢;left;rcases h' with h'|⟨_,a0,w0,h0⟩
  ·exact Co h' (fun _ _ _ h=>h.elim) (fun _ _ h=>h.elim)
  ·exact h0.elim
 ·obtain⟨sv,hP,rfl⟩:=hKK;exact hK sv H' hP a' w' hst'
 ·obtain⟨_,_,_,_,_,_,_,_,_,_,_,hx⟩:=hp;exact hx.elim
theorem TU {k q i d:Nat}{late:List NO'}{T e:TypeId}{sz by_:Nat}{z:List SV}{g:Bool} [hS:TSl P T e] [hT:TY P e sz by_ z g]{x y:Operand}{n0 b2 c2:Nat}{T':TypeId}{cs ds:List SV}{s:SV}{Hs Rs:LH}{r:List Oper}
  (hown:Own e sz n0 cs s Hs) (hl:n0≤1000000000) (hlok:LOk P ops k q n H F late) (h:∀s' H',Own e sz (n0+1) (cs++ds) s' H'→Stg P C n ops k q late K (i+1) r (upd F d s') (Rs++H')) (hsp:Tk H Hs Rs) (hm:(b2,T',ds)∈Rs)
  (hx:ev F x=s:=by exact rfl) (hy:ev F y=lit (.slice (some ⟨b2,0,none⟩) 1 c2):=by exact rfl) (hds:ds.length=sz:=by exact rfl) (hpos:0<sz:=by decide) (hby:by_≤10000:=by decide)
  (ho:ops[i]? = some ⟨some d, .call ⟨.builtin .append,#[x,y],#[T,T]⟩,ty,pos,aft,none⟩:=by exact rfl) (hd:Nat.blt d n=true:=by exact rfl) :
  Stg P C n ops k q late K i (⟨some d, .call ⟨.builtin .append,#[x,y],#[T,T]⟩,ty,pos,aft,none⟩::r) F H:=by
 refine⟨hlok,fun s' H'=>∃H1,Own e sz (n0+1) (cs++ds) s' H1∧H'=Rs++H1,TSR.of ho rfl fun F1 hF1=>?_,?_⟩
 ·have hx1:ev F1 x=s:=by rw [←hx];exact(fu (by simp [Op.operands,Call.operands]) hF1)
  have hy1:ev F1 y=lit (.slice (some ⟨b2,0,none⟩) 1 c2):=by rw [←hy];exact(fu (by simp [Op.operands,Call.operands]) hF1)
  exact ot hown hl (fun s' H' h'=>WPL.nil ⟨s',⟨H',h',rfl⟩,rfl⟩) hx1 hy1 hsp hm hds hpos hby hd
 ·rintro s' H' ⟨H1,h1,rfl⟩;exact h s' H1 h1
theorem oR {T e:TypeId}{sz by_:Nat}{z:List SV}{g:Bool} [hS:TSl P T e] [hT:TY P e sz by_ z g]{x:Operand}{s:SV}{ds:List SV}(hx:ev F x=s) (hco:CO s ds) (hf:lm ((List.range 1).map fun i=>(i*sz,sz)) (List.replicate 1 z).flatten [(0,ds)]=some ds:=by exact rfl)
  (hsz:Nat.ble (1*sz) 16777216=true:=by exact rfl) (hpos:Nat.blt 0 sz=true:=by exact rfl):OpV P (.buildSlice T 1 [(0,x)].toArray) ty F H (sl ds 1) :=
 OpV.pubN (nk (.cons hx hco .nil) hf hsz hpos) fun m b arr hb h=>Ko hb h (by simp only [maxLen];omega)
theorem WPL.appOwnS {T e:TypeId}{sz by_:Nat}{z:List SV}{g:Bool} [hS:TSl P T e] [hT:TY P e sz by_ z g]{d:Nat}{x y:Operand}{n0:Nat}{cs ds:List SV}{s:SV}{Hs Rs:LH}
  (hown:Own e sz n0 cs s Hs) (hx:ev F x=s) (hy:ev F y=sl ds 1) (hsp:Spl H Hs Rs) (hds:ds.length=sz) (hpos:0<sz) (hl:n0≤1000000000) (hby:by_≤10000)
  (k:∀s' H',Own e sz (n0+1) (cs++ds) s' H'→WPL P C n ops rest K (upd F d s') (H'++Rs)) (hd:Nat.blt d n=true) :
  WPL P C n ops (⟨some d, .call ⟨.builtin .append,#[x,y],#[T,T]⟩,ty,pos,aft,none⟩::rest) K F H:=by
 unfold WPL;intro a w hs0 Q hq;have hs:=hs0.perm hsp.perm;refine wpList_plain rfl fun K' hK'=>?_
 obtain⟨hdef,hn,m0,h10,h20,h30,h40,h50⟩:=id hs
 have hp0:∀x,(ev F x).p m0 (a.eval x):=fun x=>by
  cases x with
  |tmp t=>exact h50 t
  |const v=>unfold ev lit;rfl
  |global g=>unfold ev lit;rfl
  |func f=>unfold ev lit;rfl
 have e0:=hp0 x;rw [hx]at e0;have e1:=hp0 y;rw [hy]at e1;obtain⟨ad2,c2,e1,hc1,hc2,hcb⟩:=ft e1;obtain⟨b2,off2,rfl,arr2,T2,fz2,hbm2,hall2⟩:=hcb.resolve_left (fun h=>by rw [h]at hds;simp at hds;omega);have hb2:=h10 _ _ hbm2;rw [hds]at hall2;generalize hl2:(arr2.toList.drop off2).take sz=l2 at hall2;obtain⟨i,v,hi,hsz,hbyt,hz,hzl,hfl,hvs⟩:=hT.run_bytes;have hlen2:=hall2.length
 have hys:∀j u,l2[j]? = some u→w.cell? ((⟨b2,off2,none⟩:Addr).add j)=some u:=fun j u hj=>by
  rw [cE,eB w b2 _ arr2 _ _ hb2];rw [←hl2,eE]at hj;split at hj
  ·rw [eD]at hj;simpa using hj
  ·cases hj
 have hexec:execOp a.eval (⟨some d, .call ⟨.builtin .append,#[x,y],#[T,T]⟩,ty,pos,aft,none⟩:Oper)=(do let v←Builtin.append_ #[T,T] ty #[a.eval x,a.eval y];pure (.value v)):=by
  simp [execOp,resolve,invoke,builtin]
 have hmul:∀q,q≤1000000001→q*by_≤140737488355328:=fun q hq=>aU (db hq hby) (by decide)
 have get2:∀m,dD m w→(ev F y).p m (a.eval y)→bk m ds l2:=fun m h1 h2=>by
  rw [hy,e1]at h2;obtain⟨ad3,c3,e3,_,_,hcb3⟩:=ft h2;obtain⟨b3,off3,rfl,arr3,T3,fz3,hbm3,hall3⟩:=hcb3.resolve_left (fun h=>by rw [h]at hds;simp at hds;omega);have hb3:=h1 _ _ hbm3;simp only [Value.slice.injEq,bM,Addr.mk.injEq,gJ,gH]at e3;obtain⟨⟨rfl,rfl⟩,_⟩:=e3;rw [hb2]at hb3;simp only [bM,Obj.cells.injEq]at hb3;obtain⟨rfl,_⟩:=hb3;rw [hds,hl2]at hall3;exact hall3
 unfold Oper.wp;rw [hexec,e1];obtain⟨hcl,hcase⟩:=hown;rcases hcase with⟨rfl,rfl,rfl⟩|⟨b,c,hnc,hcm,rfl,rfl⟩
 ·rw [ap]at e0;have hcs:cs=[]:=cT (by rw [hcl,bQ]);subst hcs;have hrun:=run_append_nil (P:=P) w T ty e i v hS.h hi hz ⟨b2,off2,none⟩ 1 c2 l2 (by rw [hlen2,hsz,hds,aY]) hys om om (by rw [hbyt];have:=hmul 1 om;omega);rw [e0];simp only [Sem.run_bind,hrun,Result.andThen_ok,Sem.run_pure];have hge:=grownCap_ge w 1 0 e;have hle:=grownCap_le_maxLen w 1 0 e (by simp only [maxLen];omega);have h:=k (lit (.slice (some ⟨w.heap.size,0,none⟩) 1 (grownCap w 1 0 e))) [(w.heap.size,e,([]++ds)++List.replicate (grownCap w 1 0 e*sz-1*sz) top)] ⟨by rw [a8,hds];omega, .inr ⟨_,_,hge,hle,rfl,by rw [aB]⟩⟩;unfold WPL at h;refine hK' _ _ (h _ _ (St.pushD (ay.mp hd) hs fun m h1 h2 h3=>?_) Q hq);simp only [fF,du,a8];refine(get2 m h1 (h3 y)).append (bk.topL ?_ (fL hfl));rw [aN,size_zeroCells,hvs,ij]
 ·rw [ap]at e0;obtain⟨hmb,arr,hb,hall⟩:=h20.2 _ (cG Rs (ar.2 rfl));have hlen:=hall.length;simp only [ac,iW,hcl,aN]at hlen;have hmono:n0*sz≤c*sz:=aR _ hnc
  have getc:∀m,HOk m w ([(b,e,cs++List.replicate (c*sz-n0*sz) top)]++Rs)→bk m (cs++List.replicate (c*sz-n0*sz) top) arr.toList:=fun m h2=>by
   obtain⟨_,arr',hb',hall'⟩:=h2.2 _ (cG Rs (ar.2 rfl));rw [hb]at hb';simp only [bM,Obj.cells.injEq]at hb';obtain⟨rfl,_⟩:=hb';exact hall'
  by_cases hroom:n0+1≤c
  ·have hm1:(n0+1)*sz≤c*sz:=aR _ hroom;rw [e6]at hm1;have hrun:=run_append_room (P:=P) w T ty e i hS.h hi b n0 c arr hb ⟨b2,off2,none⟩ 1 c2 l2 (by rw [hlen2,hsz,hds,aY]) hys hall2.flat hroom (by rw [hsz,hlen2,hds];omega);rw [e0];simp only [Sem.run_bind,hrun,Result.andThen_ok,Sem.run_pure];have h:=k (lit (.slice (some ⟨b,0,none⟩) (n0+1) c)) [(b,e,(cs++ds)++List.replicate (c*sz-(n0+1)*sz) top)] ⟨by rw [ac,hcl,hds,e6], .inr ⟨_,_,hroom,hcm,rfl,rfl⟩⟩;unfold WPL at h
   have hfin:bk m0 ((cs++ds)++List.replicate (c*sz-(n0+1)*sz) top) (arr.toList.take (n0*i.size)++l2++arr.toList.drop (n0*i.size+l2.length)).toArray.toList:=by
    obtain⟨q1,q2⟩:=(getc m0 h20).split;rw [hcl]at q1 q2;rw [hsz,hlen2,hds,du];refine(q1.append (get2 m0 h10 (hp0 y))).append (bk.topL ?_ fun u hu=>?_)
    ·rw [cO,aN,e6];omega
    ·exact hall.flat u (kM hu)
   obtain⟨q1,q2,q3,q4⟩:=mf (w':=w.setRow b (arr.toList.take (n0*i.size)++l2++arr.toList.drop (n0*i.size+l2.length)).toArray) h10 h20 h30 h40 (.here Rs)
    (setRow_heap w b arr _ e _ hb) (fun j hj=>setRow_other w b j _ hj) rfl rfl ⟨rfl,rfl⟩ (by simp) hfin
   refine hK' _ _ (h (a.put (some d) (.slice (some ⟨b,0,none⟩) (n0+1) c)) _ ⟨hdef,by simpa [Act.put] using hn,m0,q1,q2,q3,q4,fun t=>?_⟩ Q hq);rw [gT (cQ (ay.mp hd) hn)];unfold Ab.upd;by_cases ht:t=d
   ·subst ht;rw [if_pos rfl,cY];exact ap.2 rfl
   ·rw [if_neg ht]
    have:Nat.beq t d=false:=by
     cases hbb:Nat.beq t d with
     |false=>rfl
     |true=>exact absurd (bA hbb) ht
    rw [this];exact h50 t
  ·have hxs:∀j u,(arr.toList.take (n0*sz))[j]? = some u→w.cell? ((⟨b,0,none⟩:Addr).add j)=some u:=fun j u hj=>by
    rw [cE,eB w b _ arr _ _ hb];rw [eE]at hj;split at hj
    ·simpa using hj
    ·cases hj
   have hrun:=run_append_grow (P:=P) w T ty e i v hS.h hi hz ⟨b,0,none⟩ n0 c (arr.toList.take (n0*sz)) (by rw [aC,aN,hsz];omega) hxs
    ⟨b2,off2,none⟩ 1 c2 l2 (by rw [hlen2,hsz,hds,aY]) hys om om (growslice_fits om (by rw [hbyt];exact hmul _ om))
   rw [e0];simp only [Sem.run_bind,hrun,Result.andThen_ok,Sem.run_pure];have hge:=grownCap_ge w (n0+1) c e;have hle:=grownCap_le_maxLen w (n0+1) c e (by simp only [maxLen];omega)
   have h:=k (lit (.slice (some ⟨w.heap.size,0,none⟩) (n0+1) (grownCap w (n0+1) c e))) [(w.heap.size,e,(cs++ds)++List.replicate (grownCap w (n0+1) c e*sz-(n0+1)*sz) top)]
    ⟨by rw [ac,hcl,hds,e6], .inr ⟨_,_,hge,hle,rfl,rfl⟩⟩
   unfold WPL at h
   have hst:=St.pushD (d:=d) (cs:=(cs++ds)++List.replicate (grownCap w (n0+1) c e*sz-(n0+1)*sz) top) (v := .slice (some ⟨w.heap.size,0,none⟩) (n0+1) (grownCap w (n0+1) c e)) (T:=e)
    (arr:=(arr.toList.take (n0*sz)).toArray++l2.toArray++Builtin.zeroCells v.cells (grownCap w (n0+1) c e-(n0+1))) (ay.mp hd) hs fun m h1 h2 h3=>?_
   ·refine hK' _ _ (h _ _ ?_ Q hq);exact hst.drop (.there _ (.here _))
   ·simp only [fF,du];obtain⟨q1,_⟩:=(getc m h2).split;rw [hcl]at q1;refine(q1.append (get2 m h1 (h3 y))).append (bk.topL ?_ (fL hfl));rw [aN,size_zeroCells,hvs,ij]
theorem rL {T e:TypeId}{sz by_:Nat}{z:List SV}{g:Bool} [hS:TSl P T e] [hT:TY P e sz by_ z g]{d:Nat}{x y:Operand}{n0:Nat}{cs ds:List SV}{s:SV}{Hs Rs:LH}
  (hown:Own e sz n0 cs s Hs) (hsp:Tk H Hs Rs) (hl:n0≤1000000000) (k:∀s' H',Own e sz (n0+1) (cs++ds) s' H'→WPL P C n ops rest K (upd F d s') (Rs++H'))
  (hx:ev F x=s:=by exact rfl) (hy:ev F y=sl ds 1:=by exact rfl) (hds:ds.length=sz:=by exact rfl) (hpos:0<sz:=by decide) (hby:by_≤10000:=by decide)
  (hd:Nat.blt d n=true:=by exact rfl) :
  WPL P C n ops (⟨some d, .call ⟨.builtin .append,#[x,y],#[T,T]⟩,ty,pos,aft,none⟩::rest) K F H :=
 .perm hsp.perm (.appOwnS hown hx hy (Spl.app _ _) hds hpos hl hby (fun s' H' h => .perm aG (k s' H' h)) hd)
end
theorem pn {m:Mem}{arr:Array Value}{b:Nat}{T:TypeId}{cs:List SV}{j n c:Nat}(hm:m b=some (.cells arr T (0,0))) (ha:bk m (cs++List.replicate j top) arr.toList) (h1:n≤c) (h2:c≤maxLen):(sl cs n).p m (.slice (some ⟨b,0,none⟩) n c):=by
 refine jq h1 h2 (.inr ⟨b,0,rfl,arr,T,(0,0),hm,?_⟩);rw [bD];exact ha.split.1
section
variable {P:Program}{C:Ctx}{n:Nat}{F:Fr}{H:LH}{ops:Array Oper}{K:Fr→LH→Prop}{rest:List Oper}{ty:TypeId}{pos:String}{aft:Array Edge}
theorem BF {T e:TypeId}{sz by_:Nat}{z:List SV}{g:Bool} [hS:TSl P T e] [hT:TY P e sz by_ z g]{x y:Operand}{b k c:Nat}{v:Int}(j:Nat) (hx:ev F x=lit (.slice (some ⟨b,0,none⟩) k c)) (hy:ev F y=lit (.int .i64 v)) (hv:v=(j:Int)) (hj:j≤c) :
  OpV P (.slice T x none (some y) none) ty F H (lit (.slice (some ⟨b,0,none⟩) j c)) :=
 OpV.pure fun m w o a ho _ _ _ h=>by
  have e0:=h x (by simp [Op.operands]);rw [hx,ap]at e0;have e1:=h y (by simp [Op.operands]);rw [hy,ap]at e1;subst hv
  have hb:(Instr.sliceBounds true k c none (some (a.eval y)) none).run P w = .ok (0,j,c) w:=by
   simp [Instr.sliceBounds,ni j c _ e1 hj]
  refine⟨.slice (some ⟨b,0,none⟩) j c,?_,ap.2 rfl⟩;by_cases h0:c=0
  ·subst h0;simp [execOp,ho,Instr.sliceAt,Instr.slice,underlying,hS.h,e0,hb,hT.run_size]
  ·simp [execOp,ho,Instr.sliceAt,Instr.slice,underlying,hS.h,e0,hb,hT.run_size,cE,lG h0]
theorem Own.blk {T:TypeId}{sz k:Nat}{cs:List SV}{s:SV}{Hs:LH}(h:Own T sz k cs s Hs) (hk:0<k) :
  ∃b c,k≤c∧c≤maxLen∧s=lit (.slice (some ⟨b,0,none⟩) k c)∧Hs=[(b,T,cs++List.replicate (c*sz-k*sz) top)]:=by
 obtain⟨_,⟨h0,_⟩|h⟩:=h
 ·omega
 ·exact h
theorem LeL.top:∀(l:List SV) (k:Nat),l.length=k→LeL l (List.replicate k top)
 | [],_,h=>by subst h;exact trivial
 |s::l,0,h=>by cases h
 |s::l,k+1,h=>⟨fun m v _=>by unfold Ab.top;trivial,LeL.top l k (by simpa using h)⟩
theorem LeL.app:∀{a b c d:List SV},LeL a b→LeL c d→LeL (a++c) (b++d)
 | [],[],_,_,_,k=>k
 |_::_,_::_,_,_,h,k=>⟨h.1,LeL.app h.2 k⟩
 | [],_::_,_,_,h,_=>h.elim
 |_::_,[],_,_,h,_=>h.elim
theorem Own.cut {T:TypeId}{sz k b c j:Nat}{cs:List SV}(hl:cs.length=k*sz) (hkc:k≤c) (hc:c≤maxLen) (hj:j≤k) :
  Own T sz j (cs.take (j*sz)) (lit (.slice (some ⟨b,0,none⟩) j c)) [(b,T,cs.take (j*sz)++List.replicate (c*sz-j*sz) top)]∧LeL (cs++List.replicate (c*sz-k*sz) top) (cs.take (j*sz)++List.replicate (c*sz-j*sz) top):=by
 have h1:j*sz≤k*sz:=aR _ hj;have h2:k*sz≤c*sz:=aR _ hkc;refine⟨⟨by rw [aC,hl];omega, .inr ⟨b,c,om,hc,rfl,rfl⟩⟩,?_⟩
 have e1:cs++List.replicate (c*sz-k*sz) top=cs.take (j*sz)++(cs.drop (j*sz)++List.replicate (c*sz-k*sz) top):=by
  rw [←ax,gO]
 rw [e1];refine LeL.app (LeL.refl _) (LeL.top _ _ ?_);rw [ac,cO,iW,hl];omega
theorem Qz {T e:TypeId}{sz by_:Nat}{z:List SV}{g:Bool} [hS:TSl P T e] [hT:TY P e sz by_ z g]{d:Nat}{x y:Operand}{n0 b2 c2:Nat}{T':TypeId}{cs ds:List SV}{s:SV}{Hs Rs:LH}
  (hown:Own e sz n0 cs s Hs) (hp:H.Perm (Hs++Rs)) (hl:n0≤1000000000) (k:∀s' H',Own e sz (n0+1) (cs++ds) s' H'→WPL P C n ops rest K (upd F d s') (H'++Rs)) (hm:(b2,T',ds)∈Rs)
  (hx:ev F x=s:=by exact rfl) (hy:ev F y=lit (.slice (some ⟨b2,0,none⟩) 1 c2):=by exact rfl) (hds:ds.length=sz:=by exact rfl) (hpos:0<sz:=by decide) (hby:by_≤10000:=by decide)
  (hd:Nat.blt d n=true:=by exact rfl) :
  WPL P C n ops (⟨some d, .call ⟨.builtin .append,#[x,y],#[T,T]⟩,ty,pos,aft,none⟩::rest) K F H :=
 .perm hp (.appOwn hown hx hy (Spl.app _ _) hm hds hpos hl hby k hd)
end
section
variable {P:Program}{C:Ctx}{n:Nat}{F:Fr}{H:LH}{ops:Array Oper}{K:Fr→LH→Prop}{rest:List Oper}{ty:TypeId}{pos:String}{aft:Array Edge}
theorem GW {T e:TypeId}{sz by_:Nat}{z:List SV}{g:Bool} [hS:TSl P T e] [hT:TY P e sz by_ z g]{x y:Operand}{ao:Option Addr}{k c:Nat}(hx:ev F x=lit (.slice ao k c)) (hy:ev F y=sl [] 0) (hkc:k≤c) :
  OpV P (.call ⟨.builtin .append,#[x,y],#[T,T]⟩) ty F H (lit (.slice ao k c)) :=
 OpV.pure fun m w o a ho _ _ _ h=>by
  have e0:=h x (by simp [Op.operands,Call.operands]);rw [hx,ap]at e0;have e1:=h y (by simp [Op.operands,Call.operands]);rw [hy]at e1;obtain⟨ad2,c2,e1,hc1,hc2,hcb⟩:=ft e1;obtain⟨i,v,hi,hsz,hbyt,hz,hzl,hfl,hvs⟩:=hT.run_bytes
  have hs:Src P i.size T (.slice ad2 0 c2) 0 [] w:=by
   cases ad2 with
   |none=>exact Src.ofNil w hS.h c2
   |some a2=>exact Src.ofSlice w hS.h a2 0 c2 [] (by simp) (by intro j u hj;simp at hj) (by intro u hu;cases hu)
  have hrun:=run_append_nothing (P:=P) w T T o.type e i hS.h hi ao k c hkc _ hs;refine⟨.slice ao k c,?_,ap.2 rfl⟩;rw [←e1]at hrun;simp [execOp,ho,resolve,invoke,builtin,e0,hrun]
theorem WPL.appOwnK {T e:TypeId}{sz by_:Nat}{z:List SV}{g:Bool} [hS:TSl P T e] [hT:TY P e sz by_ z g]{d:Nat}{x y:Operand}{n0 k0:Nat}{cs ds:List SV}{s:SV}{Hs Rs:LH}
  (hown:Own e sz n0 cs s Hs) (hx:ev F x=s) (hy:ev F y=sl ds k0) (hsp:Spl H Hs Rs) (hds:ds.length=k0*sz) (hpos:0<k0*sz) (hl:n0+k0≤1000000000) (hby:by_≤10000)
  (k:∀s' H',Own e sz (n0+k0) (cs++ds) s' H'→WPL P C n ops rest K (upd F d s') (H'++Rs)) (hd:Nat.blt d n=true) :
  WPL P C n ops (⟨some d, .call ⟨.builtin .append,#[x,y],#[T,T]⟩,ty,pos,aft,none⟩::rest) K F H:=by
 unfold WPL;intro a w hs0 Q hq;have hs:=hs0.perm hsp.perm;have hk0:0<k0:=f9 fun e=>by rw [e,bQ]at hpos;omega
 refine wpList_plain rfl fun K' hK'=>?_
 obtain⟨hdef,hn,m0,h10,h20,h30,h40,h50⟩:=id hs
 have hp0:∀x,(ev F x).p m0 (a.eval x):=fun x=>by
  cases x with
  |tmp t=>exact h50 t
  |const v=>unfold ev lit;rfl
  |global g=>unfold ev lit;rfl
  |func f=>unfold ev lit;rfl
 have e0:=hp0 x;rw [hx]at e0;have e1:=hp0 y;rw [hy]at e1;obtain⟨ad2,c2,e1,hc1,hc2,hcb⟩:=ft e1;obtain⟨b2,off2,rfl,arr2,T2,fz2,hbm2,hall2⟩:=hcb.resolve_left (fun h=>by rw [h]at hds;simp only [bq]at hds;omega);have hb2:=h10 _ _ hbm2;rw [hds]at hall2;generalize hl2:(arr2.toList.drop off2).take (k0*sz)=l2 at hall2;obtain⟨i,v,hi,hsz,hbyt,hz,hzl,hfl,hvs⟩:=hT.run_bytes;have hlen2:=hall2.length
 have hys:∀j u,l2[j]? = some u→w.cell? ((⟨b2,off2,none⟩:Addr).add j)=some u:=fun j u hj=>by
  rw [cE,eB w b2 _ arr2 _ _ hb2];rw [←hl2,eE]at hj;split at hj
  ·rw [eD]at hj;simpa using hj
  ·cases hj
 have hexec:execOp a.eval (⟨some d, .call ⟨.builtin .append,#[x,y],#[T,T]⟩,ty,pos,aft,none⟩:Oper)=(do let v←Builtin.append_ #[T,T] ty #[a.eval x,a.eval y];pure (.value v)):=by
  simp [execOp,resolve,invoke,builtin]
 have hmul:∀q,q≤1000000001→q*by_≤140737488355328:=fun q hq=>aU (db hq hby) (by decide)
 have get2:∀m,dD m w→(ev F y).p m (a.eval y)→bk m ds l2:=fun m h1 h2=>by
  rw [hy,e1]at h2;obtain⟨ad3,c3,e3,_,_,hcb3⟩:=ft h2;obtain⟨b3,off3,rfl,arr3,T3,fz3,hbm3,hall3⟩:=hcb3.resolve_left (fun h=>by rw [h]at hds;simp only [bq]at hds;omega);have hb3:=h1 _ _ hbm3;simp only [Value.slice.injEq,bM,Addr.mk.injEq,gJ,gH]at e3;obtain⟨⟨rfl,rfl⟩,_⟩:=e3;rw [hb2]at hb3;simp only [bM,Obj.cells.injEq]at hb3;obtain⟨rfl,_⟩:=hb3;rw [hds,hl2]at hall3;exact hall3
 unfold Oper.wp;rw [hexec,e1];obtain⟨hcl,hcase⟩:=hown;rcases hcase with⟨rfl,rfl,rfl⟩|⟨b,c,hnc,hcm,rfl,rfl⟩
 ·rw [ap]at e0;have hcs:cs=[]:=cT (by rw [hcl,bQ]);subst hcs;have hrun:=run_append_nil (P:=P) w T ty e i v hS.h hi hz ⟨b2,off2,none⟩ k0 c2 l2 (by rw [hlen2,hsz,hds]) hys hk0 om (by rw [hbyt];have:=hmul k0 om;omega);rw [e0];simp only [Sem.run_bind,hrun,Result.andThen_ok,Sem.run_pure];have hge:=grownCap_ge w k0 0 e;have hle:=grownCap_le_maxLen w k0 0 e (by simp only [maxLen];omega);have h:=k (lit (.slice (some ⟨w.heap.size,0,none⟩) k0 (grownCap w k0 0 e))) [(w.heap.size,e,([]++ds)++List.replicate (grownCap w k0 0 e*sz-k0*sz) top)] ⟨by rw [a8,hds,aB], .inr ⟨w.heap.size,grownCap w k0 0 e,om,hle,by rw [aB],by rw [aB]⟩⟩;unfold WPL at h;refine hK' _ _ (h _ _ (St.pushD (ay.mp hd) hs fun m h1 h2 h3=>?_) Q hq);simp only [fF,du,a8];refine(get2 m h1 (h3 y)).append (bk.topL ?_ (fL hfl));rw [aN,size_zeroCells,hvs,ij]
 ·rw [ap]at e0;obtain⟨hmb,arr,hb,hall⟩:=h20.2 _ (cG Rs (ar.2 rfl));have hlen:=hall.length;simp only [ac,iW,hcl,aN]at hlen;have hmono:n0*sz≤c*sz:=aR _ hnc
  have getc:∀m,HOk m w ([(b,e,cs++List.replicate (c*sz-n0*sz) top)]++Rs)→bk m (cs++List.replicate (c*sz-n0*sz) top) arr.toList:=fun m h2=>by
   obtain⟨_,arr',hb',hall'⟩:=h2.2 _ (cG Rs (ar.2 rfl));rw [hb]at hb';simp only [bM,Obj.cells.injEq]at hb';obtain⟨rfl,_⟩:=hb';exact hall'
  by_cases hroom:n0+k0≤c
  ·have hm1:(n0+k0)*sz≤c*sz:=aR _ hroom;rw [aT]at hm1;have hrun:=run_append_room (P:=P) w T ty e i hS.h hi b n0 c arr hb ⟨b2,off2,none⟩ k0 c2 l2 (by rw [hlen2,hsz,hds]) hys hall2.flat hroom (by rw [hsz,hlen2,hds];omega);rw [e0];simp only [Sem.run_bind,hrun,Result.andThen_ok,Sem.run_pure];have h:=k (lit (.slice (some ⟨b,0,none⟩) (n0+k0) c)) [(b,e,(cs++ds)++List.replicate (c*sz-(n0+k0)*sz) top)] ⟨by rw [ac,hcl,hds,aT], .inr ⟨_,_,hroom,hcm,rfl,rfl⟩⟩;unfold WPL at h
   have hfin:bk m0 ((cs++ds)++List.replicate (c*sz-(n0+k0)*sz) top) (arr.toList.take (n0*i.size)++l2++arr.toList.drop (n0*i.size+l2.length)).toArray.toList:=by
    obtain⟨q1,q2⟩:=(getc m0 h20).split;rw [hcl]at q1 q2;rw [hsz,hlen2,hds,du];refine(q1.append (get2 m0 h10 (hp0 y))).append (bk.topL ?_ fun u hu=>?_)
    ·rw [cO,aN,aT];omega
    ·exact hall.flat u (kM hu)
   obtain⟨q1,q2,q3,q4⟩:=mf (w':=w.setRow b (arr.toList.take (n0*i.size)++l2++arr.toList.drop (n0*i.size+l2.length)).toArray) h10 h20 h30 h40 (.here Rs)
    (setRow_heap w b arr _ e _ hb) (fun j hj=>setRow_other w b j _ hj) rfl rfl ⟨rfl,rfl⟩ (by simp) hfin
   refine hK' _ _ (h (a.put (some d) (.slice (some ⟨b,0,none⟩) (n0+k0) c)) _ ⟨hdef,by simpa [Act.put] using hn,m0,q1,q2,q3,q4,fun t=>?_⟩ Q hq);rw [gT (cQ (ay.mp hd) hn)];unfold Ab.upd;by_cases ht:t=d
   ·subst ht;rw [if_pos rfl,cY];exact ap.2 rfl
   ·rw [if_neg ht]
    have:Nat.beq t d=false:=by
     cases hbb:Nat.beq t d with
     |false=>rfl
     |true=>exact absurd (bA hbb) ht
    rw [this];exact h50 t
  ·have hxs:∀j u,(arr.toList.take (n0*sz))[j]? = some u→w.cell? ((⟨b,0,none⟩:Addr).add j)=some u:=fun j u hj=>by
    rw [cE,eB w b _ arr _ _ hb];rw [eE]at hj;split at hj
    ·simpa using hj
    ·cases hj
   have hrun:=run_append_grow (P:=P) w T ty e i v hS.h hi hz ⟨b,0,none⟩ n0 c (arr.toList.take (n0*sz)) (by rw [aC,aN,hsz];omega) hxs
    ⟨b2,off2,none⟩ k0 c2 l2 (by rw [hlen2,hsz,hds]) hys om om (growslice_fits om (by rw [hbyt];exact hmul _ om))
   rw [e0];simp only [Sem.run_bind,hrun,Result.andThen_ok,Sem.run_pure];have hge:=grownCap_ge w (n0+k0) c e;have hle:=grownCap_le_maxLen w (n0+k0) c e (by simp only [maxLen];omega)
   have h:=k (lit (.slice (some ⟨w.heap.size,0,none⟩) (n0+k0) (grownCap w (n0+k0) c e))) [(w.heap.size,e,(cs++ds)++List.replicate (grownCap w (n0+k0) c e*sz-(n0+k0)*sz) top)]
    ⟨by rw [ac,hcl,hds,aT], .inr ⟨_,_,hge,hle,rfl,rfl⟩⟩
   unfold WPL at h
   have hst:=St.pushD (d:=d) (cs:=(cs++ds)++List.replicate (grownCap w (n0+k0) c e*sz-(n0+k0)*sz) top) (v := .slice (some ⟨w.heap.size,0,none⟩) (n0+k0) (grownCap w (n0+k0) c e)) (T:=e)
    (arr:=(arr.toList.take (n0*sz)).toArray++l2.toArray++Builtin.zeroCells v.cells (grownCap w (n0+k0) c e-(n0+k0))) (ay.mp hd) hs fun m h1 h2 h3=>?_
   ·refine hK' _ _ (h _ _ ?_ Q hq);exact hst.drop (.there _ (.here _))
   ·simp only [fF,du];obtain⟨q1,_⟩:=(getc m h2).split;rw [hcl]at q1;refine(q1.append (get2 m h1 (h3 y))).append (bk.topL ?_ (fL hfl));rw [aN,size_zeroCells,hvs,ij]
end
section
variable {P:Program}{C:Ctx}{n:Nat}{F:Fr}{H:LH}{ty:TypeId}
theorem G9 {m:Mem}{b k:Nat}{arr:Array Value}{T:TypeId}{cs:List SV}(hb:m b=some (.cells arr T (0,0))) (h:bk m cs arr.toList) (hk:k≤maxLen):(xsl cs k).p m (.slice (some ⟨b,0,none⟩) k k):=by
 unfold xsl;exact⟨some ⟨b,0,none⟩,rfl,hk,fun e=>(by cases e), .inr ⟨b,0,rfl,arr,T,(0,0),hb,by rw [bD,←h.length,aP];exact h⟩⟩
theorem nX {T e:TypeId}{sz by_:Nat}{z:List SV}{g:Bool} [hS:TSl P T e] [hT:TY P e sz by_ z g]{x:Operand}{s:SV}{ds:List SV}(hx:ev F x=s) (hco:CO s ds) (hf:lm ((List.range 1).map fun i=>(i*sz,sz)) (List.replicate 1 z).flatten [(0,ds)]=some ds:=by exact rfl)
  (hsz:Nat.ble (1*sz) 16777216=true:=by exact rfl) (hpos:Nat.blt 0 sz=true:=by exact rfl):OpV P (.buildSlice T 1 [(0,x)].toArray) ty F H (xsl ds 1) :=
 OpV.pubN (nk (.cons hx hco .nil) hf hsz hpos) fun m b arr hb h=>G9 hb h (by simp only [maxLen];omega)
theorem e9 {T e:TypeId}{sz by_:Nat}{z:List SV}{g:Bool} [hS:TSl P T e] [hT:TY P e sz by_ z g]{len:Nat}{l:List (Nat×Operand)}{r:List (Nat×List SV)}{cs:List SV}(hp:dO F l r) (hf:lm ((List.range len).map fun i=>(i*sz,sz)) (List.replicate len z).flatten r=some cs:=by exact rfl)
  (hsz:Nat.ble (len*sz) 16777216=true:=by exact rfl) (hpos:Nat.blt 0 sz=true:=by exact rfl) (hl:Nat.ble len 1000=true:=by exact rfl):OpV P (.buildSlice T len l.toArray) ty F H (sl cs len) :=
 OpV.pubN (nk hp hf hsz hpos) fun m b arr hb h=>Ko hb h (by have:=gY hl;simp only [maxLen];omega)
theorem L9 {T e:TypeId}{sz by_:Nat}{z:List SV}{g:Bool} [hS:TSl P T e] [hT:TY P e sz by_ z g]{x y:Operand}{cs:List SV}{k:Nat}{v:Int}(j:Nat) (hx:ev F x=sl cs k) (hy:ev F y=lit (.int .i64 v)) (hv:v=(j:Int)) (hj:j≤k) :
  OpV P (.slice T x none (some y) none) ty F H (sl (cs.take (j*sz)) j) :=
 OpV.pure fun m w o a ho _ _ _ h=>by
  have e0:=h x (by simp [Op.operands]);rw [hx]at e0;have e1:=h y (by simp [Op.operands]);rw [hy,ap]at e1;subst hv;obtain⟨ad,cap,e0,hc1,hc2,hca⟩:=ft e0
  have hb:(Instr.sliceBounds true k cap none (some (a.eval y)) none).run P w = .ok (0,j,cap) w:=by
   simp [Instr.sliceBounds,ni j cap _ e1 om]
  have hrun:∃a',(execOp a.eval o).run P w = .ok (.value (.slice a' j cap)) w∧∀b off,ad=some ⟨b,off,none⟩→a'=some ⟨b,off,none⟩:=by
   refine⟨if cap=0 then ad else ad.map (·.add 0),?_,?_⟩
   ·simp [execOp,ho,Instr.sliceAt,Instr.slice,underlying,hS.h,e0,hb,hT.run_size]
   ·rintro b off rfl;simp [cE]
  obtain⟨a',hr,q3⟩:=hrun;refine⟨_,hr,jq om hc2 ?_⟩;rcases hca with hnil|⟨b,off,rfl,hca⟩
  ·left;rw [hnil,iA]
  ·exact .inr ⟨b,off,q3 b off rfl,hca.take _⟩
theorem m7 {T e:TypeId}{sz by_:Nat}{z:List SV}{g:Bool} [hS:TSl P T e] [hT:TY P e sz by_ z g]{x y y':Operand}{cs:List SV}{k:Nat}{v v':Int}(j:Nat) (hx:ev F x=sl cs k) (hy:ev F y=lit (.int .i64 v)) (hy':ev F y'=lit (.int .i64 v')) (hv:v=(j:Int)) (hv':v'=(j:Int)) (hk:cs.length=k*sz) (hj:j≤k) (hpos:0<sz:=by decide) :
  OpV P (.slice T x none (some y) (some y')) ty F H (xsl (cs.take (j*sz)) j) :=
 OpV.pure fun m w o a ho _ _ _ h=>by
  have e0:=h x (by simp [Op.operands]);rw [hx]at e0;have e1:=h y (by simp [Op.operands]);rw [hy,ap]at e1;have e2:=h y' (by simp [Op.operands]);rw [hy',ap]at e2;subst hv hv';obtain⟨ad,cap,e0,hc1,hc2,hca⟩:=ft e0
  have hb:(Instr.sliceBounds true k cap none (some (a.eval y)) (some (a.eval y'))).run P w = .ok (0,j,j) w:=by
   simp [Instr.sliceBounds,ni j cap _ e2 om,ni j j _ e1 (au _)]
  have hrun:∃a',(execOp a.eval o).run P w = .ok (.value (.slice a' j j)) w∧(∀q,ad=some q→∃q',a'=some q')∧∀b off,ad=some ⟨b,off,none⟩→a'=some ⟨b,off,none⟩:=by
   refine⟨if j=0 then ad else ad.map (·.add 0),?_,?_,?_⟩
   ·simp [execOp,ho,Instr.sliceAt,Instr.slice,underlying,hS.h,e0,hb,hT.run_size]
   ·rintro q rfl;split <;> simp
   ·rintro b off rfl;simp [cE]
  obtain⟨a',hr,q2,q3⟩:=hrun;refine⟨_,hr,?_⟩;unfold xsl;refine⟨a',rfl,om,fun hn=>?_,?_⟩
  ·rcases hca with hnil|⟨b,off,rfl,_⟩
   ·rw [hnil,bq]at hk;rcases pR.mp hk.symm with h|h <;> omega
   ·obtain⟨q',hq⟩:=q2 _ rfl;rw [hq]at hn;cases hn
  ·rcases hca with hnil|⟨b,off,rfl,hca⟩
   ·left;rw [hnil,iA]
   ·exact .inr ⟨b,off,q3 b off rfl,hca.take _⟩
theorem bU {T e:TypeId}{sz by_:Nat}{z:List SV}{g:Bool} [hS:TSl P T e] [hT:TY P e sz by_ z g]{x y:Operand}{cs ds:List SV}{k k0:Nat}(hx:ev F x=xsl cs k) (hy:ev F y=sl ds k0) (hk:cs.length=k*sz) (hds:ds.length=k0*sz) (hl:k+k0≤1000000) (hpos:0<sz:=by decide) (hby:by_≤10000:=by decide) :
  OpV P (.call ⟨.builtin .append,#[x,y],#[T,T]⟩) ty F H (sl (cs++ds) (k+k0)):=by
 refine OpV.of0 ?_;intro m w o a ho hty h1 h2 h3 K Q hK;have e0:=evA (x:=x) h3 (by simp [Op.operands,Call.operands]);rw [hx]at e0;have e1:=evA (x:=y) h3 (by simp [Op.operands,Call.operands]);rw [hy]at e1;unfold xsl at e0;obtain⟨ad,e0,hkm,hadn,hca⟩:=e0;have e1s:=e1;obtain⟨ad2,cap2,e2,hc1,hc2,hcb⟩:=ft e1s;obtain⟨i,v,hi,hsz,hbyt,hz,hzl,hfl,hvs⟩:=hT.run_bytes;have hmul:∀q,q≤2000001→q*by_≤140737488355328:=fun q hq=>aU (db hq hby) (by decide)
 have hexec:execOp a.eval o=(do let v←Builtin.append_ #[T,T] o.type #[a.eval x,a.eval y];pure (.value v)):=by
  simp [execOp,ho,resolve,invoke,builtin]
 by_cases hk0:k0=0
 ·subst hk0;rw [bQ]at hds;obtain rfl:=cT hds
  have hs:Src P i.size T (.slice ad2 0 cap2) 0 [] w:=by
   cases ad2 with
   |none=>exact Src.ofNil w hS.h cap2
   |some a2=>exact Src.ofSlice w hS.h a2 0 cap2 [] (by simp) (by intro j u hj;simp at hj) (by intro u hu;cases hu)
  have hrun:=run_append_nothing (P:=P) w T T o.type e i hS.h hi ad k k (au _) _ hs;unfold Oper.wp;rw [hexec,e0,e2];simp only [Sem.run_bind,hrun,Result.andThen_ok,Sem.run_pure];refine hK _ m w (jq (au _) hkm ?_) h1 (Rel.refl _ _ _);rw [bd];exact hca
 ·obtain⟨b2,off2,rfl,arr2,T2,fz2,hb2,hall2⟩:=hcb.resolve_left (fun h=>by
   rw [h,bq]at hds;rcases pR.mp hds.symm with h|h <;> omega)
  have hw2:=h1 _ _ hb2;rw [hds]at hall2;generalize hl2:(arr2.toList.drop off2).take (k0*sz)=l2 at hall2;have hlen2:l2.length=k0*sz:=by rw [hall2.length,hds]
  have hys:∀j u,l2[j]? = some u→w.cell? ((⟨b2,off2,none⟩:Addr).add j)=some u:=fun j u hj=>by
   rw [cE,eB w b2 _ arr2 _ _ hw2];rw [←hl2,eE]at hj;split at hj
   ·rw [eD]at hj;simpa using hj
   ·cases hj
  have fin:∀(c:Nat) (arr:Array Value),k+k0≤c→c≤maxLen→bk m (cs++ds) (arr.toList.take ((k+k0)*sz))→(Builtin.append_ #[T,T] o.type #[a.eval x,a.eval y]).run P w = .ok (.slice (some ⟨w.heap.size,0,none⟩) (k+k0) c) (w.drew.alloc (.cells arr e))→o.wp P a w K Q:=by
   intro c arr hc hcm hall hrun;unfold Oper.wp;rw [hexec];simp only [Sem.run_bind,hrun,Result.andThen_ok,Sem.run_pure];obtain⟨m',g1,g2,g3⟩:=GF (w':=w.drew.alloc (.cells arr e)) h1 (.inr rfl);refine hK _ m' _ (jq hc hcm (.inr ⟨w.heap.size,0,rfl,arr,e,(0,0),g3,?_⟩)) g1 g2;rw [bD,ac,hk,hds,←aT];exact hall.mono g2.le
  have tk:∀(l1 r:List Value),bk m cs l1→l1.length=k*sz→bk m (cs++ds) ((l1++l2++r).take ((k+k0)*sz)):=fun l1 r hall1 hlen1=>by
   have hlk:(l1++l2).length=(k+k0)*sz:=by rw [ac,hlen1,hlen2,aT]
   rw [lJ (by rw [hlk];exact au _),dz (by rw [hlk];exact au _)];exact hall1.append hall2
  rcases hca with hnil|⟨b1,off1,rfl,arr1,T1,fz1,hb1,hall1⟩
  ·subst hnil
   have hk1:k=0:=by
    rw [bq]at hk;rcases pR.mp hk.symm with h|h <;> omega
   subst hk1;cases ad with
   |none =>
    have hrun:=run_append_nil (P:=P) w T o.type e i v hS.h hi hz ⟨b2,off2,none⟩ k0 cap2 l2 (by rw [hlen2,hsz]) hys om om (by rw [hbyt];have:=hmul k0 om;omega);rw [←e0,←e2]at hrun;refine fin (grownCap w k0 0 e) _ (by rw [aB];exact grownCap_ge w k0 0 e) (grownCap_le_maxLen w k0 0 e (by simp only [maxLen];omega)) ?_ (by rw [aB];exact hrun);simp only [fF,du];exact tk [] _ trivial (by simp)
   |some ad =>
    refine fin _ _ (grownCap_ge w (0+k0) 0 e) (grownCap_le_maxLen w (0+k0) 0 e (by simp only [maxLen];omega)) ?_ (by rw [e0,e2];exact run_append_grow (P:=P) w T o.type e i v hS.h hi hz ad 0 0 [] (by simp) (by intro j u hj;simp at hj) ⟨b2,off2,none⟩ k0 cap2 l2 (by rw [hlen2,hsz]) hys om om (growslice_fits om (by rw [hbyt];exact hmul _ om)));simp only [fF,du];exact tk [] _ trivial (by simp)
  ·have hw1:=h1 _ _ hb1;have hlen1:=hall1.length;rw [hk]at hall1 hlen1
   have hxs:∀j u,((arr1.toList.drop off1).take (k*sz))[j]? = some u→w.cell? ((⟨b1,off1,none⟩:Addr).add j)=some u:=fun j u hj=>by
    rw [cE,eB w b1 _ arr1 _ _ hw1];rw [eE]at hj;split at hj
    ·rw [eD]at hj;simpa using hj
    ·cases hj
   refine fin _ _ (grownCap_ge w (k+k0) k e) (grownCap_le_maxLen w (k+k0) k e (by simp only [maxLen];omega)) ?_ (by rw [e0,e2];exact run_append_grow (P:=P) w T o.type e i v hS.h hi hz ⟨b1,off1,none⟩ k k ((arr1.toList.drop off1).take (k*sz)) (by rw [hlen1,hsz]) hxs ⟨b2,off2,none⟩ k0 cap2 l2 (by rw [hlen2,hsz]) hys om om (growslice_fits om (by rw [hbyt];exact hmul _ om)));simp only [fF,du];exact tk _ _ hall1 hlen1
theorem yC {cs:List SV}{k:Nat}:Le (xsl cs k) (sl cs k):=fun m v h=>by
 unfold xsl at h;obtain⟨a,rfl,hk,_,hca⟩:=h;exact jq (au _) hk hca
end
theorem w5 {α:Type}{f:α→List SV}{sz:Nat}(hf:∀a,(f a).length=sz) (l:List α) (x:α) (j:Nat):((l.map f).flatten).take (j*sz)++(f x++((l.map f).flatten).drop (j*sz))=(((l.take j)++x::l.drop j).map f).flatten:=by
 have h:∀(l:List α) (j:Nat),((l.map f).flatten).take (j*sz)=((l.take j).map f).flatten∧((l.map f).flatten).drop (j*sz)=((l.drop j).map f).flatten:=by
  intro l;induction l with
  |nil=>intro j;simp
  |cons a l ih =>
   intro j;cases j with
   |zero=>simp
   |succ j =>
    obtain⟨i1,i2⟩:=ih j;have e:(j+1)*sz=(f a).length+j*sz:=by rw [hf,e6];omega
    constructor
    ·rw [aD,bw,e,xA,i1,gL,aD,bw]
    ·rw [aD,bw,e,xz,i2,eM]
 obtain⟨i1,i2⟩:=h l j;rw [i1,i2,aH,cH,aD,bw]
theorem fP {α:Type}{f:α→List SV}{sz:Nat}(hf:∀a,(f a).length=sz) (l:List α):((l.map f).flatten).length=l.length*sz:=by
 induction l with
 |nil=>simp
 |cons a l ih=>rw [aD,bw,ac,ih,hf,aF,e6,gM]
theorem AU {α:Type}{f:α→List SV}{sz:Nat}(hf:∀a,(f a).length=sz):∀(l:List α) (j:Nat),((l.map f).flatten).take (j*sz)=((l.take j).map f).flatten
 | [],j=>by simp
 |a::l,0=>by simp
 |a::l,j+1=>by
  have e:(j+1)*sz=(f a).length+j*sz:=by rw [hf,e6];omega
  rw [aD,bw,e,xA,AU hf l j,gL,aD,bw]
theorem KC {α:Type}{f:α→List SV}{sz:Nat}(hf:∀a,(f a).length=sz):∀{l:List α}{k:Nat}{a:α}(r:List SV),l[k]? = some a→(((l.map f).flatten++r).drop (k*sz)).take sz=f a
 | [],k,a,r,h=>by simp at h
 |b::l,0,a,r,h=>by
  simp only [ff,bM]at h;subst h;rw [bQ,bD,aD,bw,ax,lJ (by rw [hf];exact au _),dz (by rw [hf];exact au _)]
 |b::l,k+1,a,r,h=>by
  have e:(k+1)*sz=(f b).length+k*sz:=by rw [hf,e6];omega
  rw [aD,bw,ax,e,xz];exact KC hf r (by simpa using h)
def E3:Nat→List (List SV)→List (Nat×List SV)
 |_,[]=>[]
 |i,d::r=>(i,d)::E3 (i+1) r
theorem Gl:∀(ds pre zs:List SV),ds.length≤zs.length→spl (pre++zs) pre.length ds=pre++ds++zs.drop ds.length
 | [],pre,zs,_=>by rw [spl];simp
 |d::ds,pre,[],h=>by simp at h
 |d::ds,pre,z::zs,h=>by
  have e:(pre++z::zs).set pre.length d=(pre++[d])++zs:=by
   rw [kD _ _ (au _),iV,gK];simp
  rw [spl,e,show pre.length+1=(pre++[d]).length by simp,Gl ds (pre++[d]) zs (by simpa using h)];simp
theorem AV {sz len:Nat}:∀(dss:List (List SV)) (i:Nat) (pre zs:List SV),(∀d∈dss,d.length=sz)→pre.length=i*sz→i+dss.length=len→zs.length=dss.length*sz→
  lm ((List.range len).map fun i=>(i*sz,sz)) (pre++zs) (E3 i dss)=some (pre++dss.flatten)
 | [],i,pre,zs,_,_,_,hz=>by
  rw [bq,bQ]at hz;rw [cT hz,E3,lm];rfl
 |d::dss,i,pre,zs,hd,hp,hl,hz=>by
  have hd0:=hd d Ms;rw [aF,e6]at hz
  have hg:((List.range len).map fun i=>(i*sz,sz))[i]? = some (i*sz,sz):=by
   rw [jg,List.getElem?_range (by simp only [aF]at hl;omega)];rfl
  have hsp:=Gl d pre zs om;rw [E3,lm,hg];simp only;rw [hd0,show Nat.beq sz sz=true from cY sz,show Nat.ble (i*sz+sz) (pre++zs).length=true from ly (by rw [ac];omega),←hp,hsp];simp only [jE,iB];rw [AV dss (i+1) (pre++d) (zs.drop d.length) (fun x hx=>hd x (Mc hx)) (by rw [ac,hp,hd0,e6]) (by simp only [aF]at hl;omega) (by rw [cO];omega)];simp
theorem BJ {P:Program}{F:Fr}{H:LH}{ty T e:TypeId}{sz by_:Nat}{z:List SV}{g:Bool} [hS:TSl P T e] [hT:TY P e sz by_ z g]{α:Type}{f:α→List SV}(hf:∀a,(f a).length=sz) (ps:List α){len:Nat}{l:List (Nat×Operand)}{r:List (Nat×List SV)}(hp:dO F l r)
  (hr:r=E3 0 (ps.map f):=by exact rfl) (hn:len=ps.length:=by exact rfl) (hsz:Nat.ble (len*sz) 16777216=true:=by exact rfl) (hpos:Nat.blt 0 sz=true:=by exact rfl) (hl:Nat.ble len 1000=true:=by exact rfl):OpV P (.buildSlice T len l.toArray) ty F H (sl (ps.map f).flatten ps.length):=by
 have hz1:z.length=sz:=by
  obtain⟨l,_,h2,_,h4⟩:=hT.info;rw [←h2,cK,h4]
 subst hn hr;refine e9 hp ?_ hsz hpos hl
 have:=AV (sz:=sz) (len:=ps.length) (ps.map f) 0 [] (List.replicate ps.length z).flatten (fun d hd=>by
  obtain⟨a,_,rfl⟩:=aj.1 hd;exact hf a) (by simp) (by simp) (by
  have h:∀k:Nat,((List.replicate k z).flatten).length=k*sz:=fun k=>by
   induction k with
   |zero=>simp
   |succ k ih=>rw [iJ,bw,ac,ih,hz1,e6,gM]
  rw [h,cK])
 simpa using this
theorem dO.pt {F:Fr}{i:Nat}{x:Operand}{cs:List SV}{l:List (Nat×Operand)}{r:List (Nat×List SV)}(hx:ev F x=ag cs) (h:dO F l r):dO F ((i,x)::l) ((i,cs)::r) := .cons hx inferInstance h
section
variable {P:Program}{C:Ctx}{n:Nat}{Q:Exit→Fr→LH→Prop}{F:Fr}{H:LH}
theorem WP.rowS {c:Code}{T:TypeId}{sz k:Nat}{cs:List SV}{s:SV}{Hs R:LH}(d:Nat) (hown:Own T sz k cs s Hs) (hF:F d=s) (hp:H.Perm (Hs++R)) (h:WP P C n c Q (upd F d (sl cs k)) R):WP P C n c Q F H:=by
 refine WP.perm hp ?_;obtain⟨hcl,⟨rfl,rfl,rfl⟩|⟨b,c',h1,h2,rfl,rfl⟩⟩:=hown
 ·rw [bQ]at hcl;obtain rfl:=cT hcl;refine WP.le (F':=upd F d (sl [] 0)) (fun t=>?_) h;by_cases ht:t=d
  ·subst ht;rw [bS,hF];exact i5
  ·rw [bz ht];exact Le.refl _
 ·exact WP.pub (aq.here _) hF (fun m arr g1 g2=>pn g1 g2 h1 h2) h
theorem WPL.rowS {l:List Oper}{ops:Array Oper}{K:Fr→LH→Prop}{T:TypeId}{sz k:Nat}{cs:List SV}{s:SV}{Hs R:LH}(d:Nat) (hown:Own T sz k cs s Hs) (hF:F d=s) (hp:H.Perm (Hs++R)) (h:WPL P C n ops l K (upd F d (sl cs k)) R):WPL P C n ops l K F H:=by
 refine WPL.perm hp ?_;obtain⟨hcl,⟨rfl,rfl,rfl⟩|⟨b,c',h1,h2,rfl,rfl⟩⟩:=hown
 ·rw [bQ]at hcl;obtain rfl:=cT hcl;refine WPL.le (F':=upd F d (sl [] 0)) (fun t=>?_) h;by_cases ht:t=d
  ·subst ht;rw [bS,hF];exact i5
  ·rw [bz ht];exact Le.refl _
 ·exact WPL.pub (aq.here _) hF (fun m arr g1 g2=>pn g1 g2 h1 h2) h
end
end Go.Ab
