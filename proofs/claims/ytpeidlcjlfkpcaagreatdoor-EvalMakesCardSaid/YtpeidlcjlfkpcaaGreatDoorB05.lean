/- Texts laid one behind the other: Cap, NatH, NatI, RefG, LongA, NatG. -/
import Derived.Test.YtpeidlcjlfkpcaaGreatDoorB04
set_option linter.all false
set_option maxHeartbeats 16000000
namespace Go.Ab
open Go.Proofs
variable [Base]
@[irreducible] def dgc (ds:List Nat) (c:Nat):SV:=⟨fun m v=>∃a,v = .slice a ds.length c∧ds.length≤c∧c≤maxLen∧(ds=[]∨∃b off,a=some ⟨b,off,none⟩∧ie m b off (bC ds)),
 fun h ⟨a,e,x,y,k⟩=>⟨a,e,x,y,k.imp id fun⟨b,off,e,k⟩=>⟨b,off,e,k.mono h⟩⟩⟩
theorem FQ (ds:List Nat) (c:Nat):Le (dgc ds c) (dg ds):=fun m v h=>by
 unfold dgc at h;obtain⟨a,rfl,h1,h2,h3⟩:=h;rw [wK];exact jq h1 h2 (h3.imp (fun e=>by rw [e];rfl) id)
instance (ds:List Nat) (c:Nat):CO (dgc ds c) [dgc ds c]:=lp fun m v h=>by unfold dgc at h;obtain⟨a,rfl,_⟩:=h;exact⟨rfl,rfl⟩
section
variable {P:Program}{C:Ctx}{n:Nat}{F:Fr}{H:LH}{ops:Array Oper}{K:Fr→LH→Prop}{rest:List Oper}{ty:TypeId}{pos:String}{aft:Array Edge}
theorem OpV.low {op:Op}{sv s:SV}(t:Nat) (hle:Le (F t) s) (h:OpV P op ty (upd F t s) H sv):OpV P op ty F H sv:=by
 unfold OpV at *;exact fun m w o a ho hty h1 h2 h3=>h m w o a ho hty h1 h2 fun t' ht=>LeF.upd hle (LeF.refl F) t' m _ (h3 t' ht)
theorem xa {t:Nat}{T e:TypeId} [TSl P T e]{ds:List Nat}{c:Nat}(hx:F t=dgc ds c):OpV P (.call ⟨.builtin .len,#[.tmp t],#[T]⟩) ty F H (lit (.int .i64 ds.length)) :=
 OpV.low t (hx▸FQ ds c) (GS (x := .tmp t) bS)
theorem Oy {t t':Nat}(hne:t'≠t){T e:TypeId}{by_:Nat}{z:List SV}{g:Bool} [TSl P T e] [TY P e 1 by_ z g]{ki:IntKind}{ds:List Nat}{c i:Nat}
  (hx:F t=dgc ds c) (hi:F t'=lit (.int ki i)) (h1:i<ds.length):OpV P (.indexAddr T (.tmp t) (.tmp t')) ty F H (pt [lit (.int .u32 (ds.getD i 0:Nat))]) :=
 OpV.low t (hx▸FQ ds c) (sh (x := .tmp t) (ix := .tmp t') bS ((bz hne).trans hi) h1)
theorem QZ {x y:Operand}{T e:TypeId}{by_:Nat}{z:List SV}{g:Bool} [hT:TSl P T e] [hE:TY P e 1 by_ z g]{ds:List Nat}{ki:IntKind}{v:Int}{c:Nat}(j:Nat)
  (hx:ev F x=dgc ds c) (hy:ev F y=lit (.int ki v)) (hv:v=(j:Int)) (hj:j≤ds.length):OpV P (.slice T x none (some y) none) ty F H (dgc (ds.take j) c) :=
 OpV.pure fun m w o a ho _ _ _ h=>by
  have e0:=h x (by simp [Op.operands]);rw [hx]at e0;have e1:=h y (by simp [Op.operands]);rw [hy,ap]at e1;subst hv;unfold dgc at e0;obtain⟨ad,e0,h1,h2,h3⟩:=e0;have hjc:(j:Int)≤(c:Int):=by omega
  have hjn:¬c<j:=by omega
  have hlen:(ds.take j).length=j:=by rw [aC];omega
  refine⟨.slice (if c=0 then ad else ad.map (·.add 0)) j c,?_,?_⟩
  ·simp [execOp,ho,Instr.sliceAt,Instr.slice,underlying,hT.h,e0,e1,Instr.sliceBounds,Instr.sliceBound,asIntOf,hjc,hjn,hE.run_size]
  ·unfold dgc;refine⟨_,by rw [hlen],om,h2,?_⟩;rcases h3 with h3|⟨b,off,rfl,h3⟩
   ·left;rw [h3,iA]
   ·right;refine⟨b,off,by simp [cE],?_⟩;have:=h3.take j;rwa [show(bC ds).take j=bC (ds.take j)from by simp [bC,mW]]at this
theorem Tb {l:List Oper}{b:Nat}{T:TypeId}{ds:List Nat}{H':LH}{k c:Nat}(d:Nat) (hv:F d=lit (.slice (some ⟨b,0,none⟩) k c)) (hdel:aq b T (bC ds) H H') (hk:ds.length=k) (hc:k≤c) (hc':c≤1000000000)
  (h:WPL P C n ops l K (upd F d (dgc ds c)) H'):WPL P C n ops l K F H:=by
 subst hk;refine WPL.pub hdel hv (fun m arr hm ha=>?_) h;unfold dgc;exact⟨_,rfl,hc,by simp only [maxLen];omega, .inr ⟨b,0,rfl,arr,T,(0,0),hm,by rw [bD,←ha.length,aP];exact ha⟩⟩
theorem O2 {b:Nat}{T:TypeId}{ds:List Nat}{k c:Nat}(h0:k≤ds.length) (h1:k≤c) (h2:c≤maxLen) (m:Mem) (arr:Array Value) (hm:m b=some (.cells arr T (0,0))) (ha:bk m (bC ds) arr.toList) :
  (dg (ds.take k)).p m (.slice (some ⟨b,0,none⟩) k c):=by
 rw [wK,show(ds.take k).length=k from by rw [aC];omega];refine jq h1 h2 (.inr ⟨b,0,rfl,arr,T,(0,0),hm,?_⟩);have:=ha.take k;rw [bD,cK,show(ds.take k).length=k from by rw [aC];omega];rwa [show(bC ds).take k=bC (ds.take k)from by simp [bC,mW]]at this
theorem QY {x y:Operand}{T e:TypeId}{by_:Nat}{z:List SV}{g:Bool} [hT:TSl P T e] [hE:TY P e 1 by_ z g]{ki:IntKind}{v:Int}{b k c:Nat}(j:Nat)
  (hx:ev F x=lit (.slice (some ⟨b,0,none⟩) k c)) (hy:ev F y=lit (.int ki v)) (hv:v=(j:Int)) (hj:j≤c):OpV P (.slice T x none (some y) none) ty F H (lit (.slice (some ⟨b,0,none⟩) j c)) :=
 OpV.pure fun m w o a ho _ _ _ h=>by
  have e0:=h x (by simp [Op.operands]);rw [hx,ap]at e0;have e1:=h y (by simp [Op.operands]);rw [hy,ap]at e1;subst hv;have hjc:(j:Int)≤(c:Int):=by omega
  have hjn:¬c<j:=by omega
  refine⟨_,?_,ap.2 rfl⟩;simp [execOp,ho,Instr.sliceAt,Instr.slice,underlying,hT.h,e0,e1,Instr.sliceBounds,Instr.sliceBound,asIntOf,hjc,hjn,hE.run_size,cE]
theorem St.pushD {a:Act}{w:World}{d:Nat}{T:TypeId}{arr:Array Value}{cs:List SV}{v:Value}(hd:d<n) (hs:St C n F H a w)
  (hcs:∀m,dD m w→HOk m w H→(∀x,(ev F x).p m (a.eval x))→bk m cs arr.toList) :
  St C n (upd F d (lit v)) ((w.heap.size,T,cs)::H) (a.put (some d) v) (w.drew.alloc (.cells arr T)):=by
 obtain⟨hdef,hn,m,h1,h2,h3,h4,h5⟩:=hs
 have hp:∀x,(ev F x).p m (a.eval x):=fun x=>by
  cases x with
  |tmp t=>exact h5 t
  |const v=>unfold ev lit;rfl
  |global g=>unfold ev lit;rfl
  |func f=>unfold ev lit;rfl
 have hnone:m w.heap.size=none:=by
  cases hmm:m w.heap.size with
  |none=>rfl
  |some o=>have:=h1 _ _ hmm;rw [n6 (au _)]at this;cases this
 have hsize:(w.drew.alloc (.cells arr T)).heap.size=w.heap.size+1:=World.size_alloc ..;have hold:∀b,b<w.heap.size→(w.drew.alloc (.cells arr T)).heap[b]? = w.heap[b]?:=fun b hb=>@heap_alloc_old w.drew _ b hb
 have rel:Rel [] m w m (w.drew.alloc (.cells arr T)):=⟨Mem.le_refl m,fun _ _ _=>rfl,rfl,rfl,⟨rfl,np _⟩,om,fun b hb _=>hold b hb⟩
 refine⟨hdef,by simpa [Act.put] using hn,m,⟨fun b o hb=>?_,h1.base⟩,⟨?_,?_⟩,h3.trans rel (fun b hb h=>by cases h),?_,fun t=>?_⟩
 ·have:=h1 b o hb;rw [hold b (dt.1 this).1];exact this
 ·simp only [aD,iI];refine⟨fun hm=>?_,h2.1⟩;obtain⟨e,he,hk⟩:=aj.1 hm;have:=(h2.2 e he).2.lt;omega
 ·intro e he;rcases ak.1 he with rfl|he
  ·exact⟨hnone,arr,heap_alloc_new w.drew _,hcs m h1 h2 hp⟩
  ·have hh:=h2.rel rel (fun _ _=>by simp);exact hh.2 e he
 ·intro e he;rcases ak.1 he with rfl|he
  ·exact .inr h3.size
  ·exact h4 e he
 ·rw [gT (cQ hd hn)];unfold upd;by_cases ht:t=d
  ·subst ht;rw [if_pos rfl,cY];exact ap.2 rfl
  ·rw [if_neg ht]
   have:Nat.beq t d=false:=by
    cases hb:Nat.beq t d with
    |false=>rfl
    |true=>exact absurd (bA hb) ht
   rw [this];exact h5 t
theorem bk.dcz {m:Mem}:∀(k:Nat),bk m (bC (List.replicate k 0)) (List.replicate k (Value.int .u32 0)):=fun k=>by
 rw [←zg];exact bk.replicate (ap.2 rfl) rfl k
theorem Te {T e:TypeId} [hS:TSl P T e]{g:Bool} [hT:TY P e 1 4 [lit (.int .u32 0)] g]{d:Nat}{x y:Operand}{ds es:List Nat}{c b2 c2:Nat}{T':TypeId}
  (hx:ev F x=dgc ds c) (hy:ev F y=lit (.slice (some ⟨b2,0,none⟩) es.length c2)) (hm:(b2,T',bC es)∈H) (hne:ds≠[]) (hroom:c<ds.length+es.length) (hl:ds.length+es.length≤1000000000)
  (h:∀b k,k≤maxLen→∀j,k=ds.length+es.length+j→WPL P C n ops rest K (upd F d (lit (.slice (some ⟨b,0,none⟩) (ds.length+es.length) k))) ((b,e,bC (ds++es++List.replicate j 0))::H)) (hd:Nat.blt d n=true:=by exact rfl) :
  WPL P C n ops (⟨some d, .call ⟨.builtin .append,#[x,y],#[T,T]⟩,ty,pos,aft,none⟩::rest) K F H:=by
 unfold WPL;intro a w hs Q hq;refine wpList_plain rfl fun K' hK'=>?_
 obtain⟨m0,h10,h20,hp0⟩:∃m,dD m w∧HOk m w H∧∀x,(ev F x).p m (a.eval x):=by
  obtain⟨_,_,m,h1,h2,_,_,h5⟩:=hs;refine⟨m,h1,h2,fun x=>?_⟩;cases x with
  |tmp t=>exact h5 t
  |const v=>unfold ev lit;rfl
  |global g=>unfold ev lit;rfl
  |func f=>unfold ev lit;rfl
 have e0:=hp0 x;rw [hx]at e0;have e1:=hp0 y;rw [hy,ap]at e1;unfold dgc at e0;obtain⟨ad,e0,hc1,hc2,hca⟩:=e0;obtain⟨b1,off,rfl,arr1,T1,fz1,hb1,hall1⟩:=hca.resolve_left hne;obtain⟨_,arr2,hb2,hall2⟩:=h20.2 _ hm;obtain⟨i,v,hi,hsz,hby,hz,hzl,hfl,hvs⟩:=hT.run_bytes;simp only [md]at hall1;have hlen1:=hall1.length;have hlen2:=hall2.length;simp only [md,aN]at hlen1 hlen2;have hw1:=h10 _ _ hb1
 have hxs:∀j u,((arr1.toList.drop off).take ds.length)[j]? = some u→w.cell? ((⟨b1,off,none⟩:Addr).add j)=some u:=fun j u hj=>by
  rw [cE,eB w b1 _ arr1 _ _ hw1];rw [eE]at hj;split at hj
  ·rw [eD]at hj;simpa using hj
  ·cases hj
 have hys:∀j u,arr2.toList[j]? = some u→w.cell? ((⟨b2,0,none⟩:Addr).add j)=some u:=fun j u hj=>by
  rw [cE,eB w b2 _ arr2 _ _ hb2];simpa using hj
 have hrun:=run_append_grow (P:=P) w T ty e i v hS.h hi hz ⟨b1,off,none⟩ ds.length c ((arr1.toList.drop off).take ds.length) (by rw [hlen1,hsz,cB]) hxs
  ⟨b2,0,none⟩ es.length c2 arr2.toList (by rw [aN,hlen2,hsz,cB]) hys om om (growslice_fits om (by rw [hby];omega))
 have hexec:execOp a.eval (⟨some d, .call ⟨.builtin .append,#[x,y],#[T,T]⟩,ty,pos,aft,none⟩:Oper)=(do let v←Builtin.append_ #[T,T] ty #[a.eval x,a.eval y];pure (.value v)):=by
  simp [execOp,resolve,invoke,builtin]
 unfold Oper.wp;rw [hexec,e0,e1];simp only [Sem.run_bind,hrun,Result.andThen_ok,Sem.run_pure];have hge:=grownCap_ge w (ds.length+es.length) c e;have hle:=grownCap_le_maxLen w (ds.length+es.length) c e (by simp only [maxLen];omega);have h:=h w.heap.size _ hle (grownCap w (ds.length+es.length) c e-(ds.length+es.length)) om;unfold WPL at h;refine hK' _ _ (h _ _ (St.pushD (ay.mp hd) hs fun m h1 h2 hp=>?_) Q hq);have e0':=hp x;rw [hx]at e0';unfold dgc at e0';obtain⟨ad',e0',_,_,hca'⟩:=e0';rw [e0]at e0';simp only [Value.slice.injEq]at e0';obtain⟨b1',off',hbe,arr1',T1',fz1',hb1',hall1'⟩:=hca'.resolve_left hne;rw [←e0'.1]at hbe;simp only [bM,Addr.mk.injEq]at hbe;obtain⟨rfl,rfl,_⟩:=hbe;have hw1':=h1 _ _ hb1';rw [hw1]at hw1';simp only [bM,Obj.cells.injEq]at hw1';obtain⟨rfl,_,_⟩:=hw1';obtain⟨_,arr2',hb2',hall2'⟩:=h2.2 _ hm;rw [hb2]at hb2';simp only [bM,Obj.cells.injEq]at hb2';obtain⟨rfl,_⟩:=hb2';rw [show bC (ds++es++List.replicate (grownCap w (ds.length+es.length) c e-(ds.length+es.length)) 0)=bC ds++bC es++bC (List.replicate (grownCap w (ds.length+es.length) c e-(ds.length+es.length)) 0)from by simp [bC]];simp only [fF,du];refine((by simpa [md] using hall1':bk m (bC ds) _).append hall2').append ?_
 have hv1:v.cells.toList=[Value.int .u32 0]:=by
  have h1:v.cells.toList.length=1:=by simpa using hvs
  match hv:v.cells.toList,h1 with
  | [u],_ =>
   rw [hv]at hzl;simp only [aD,iz,dV,gJ]at hzl;have:(lit u).p (fun _=>none) u:=ap.2 rfl;rw [hzl,ap]at this;rw [this]
 have hzc:∀k,(Builtin.zeroCells v.cells k).toList=List.replicate k (Value.int .u32 0):=fun k=>by
  have hs1:v.cells.size=1:=hvs
  have hg0:v.cells = #[Value.int .u32 0]:=by
   apply Array.ext';rw [hv1]
  rw [hg0];simp only [Builtin.zeroCells,vC,aF,bq,aB,cB,p6,tm,tj];rw [List.map_const'];simp
 rw [hzc];exact bk.dcz _
end
theorem JY (ds:List Nat) (c:Nat) (hl:ds.length≤1000000000):Pu Tryz.prog 233 [dgc ds c] (dgc (k9 ds) c):=by
 refine Pi Tryz.func233 fun C=>?_
 refine A2 ⟨?_⟩;intros;refine WP.loop (ι:=Nat) (fun k=>k≤ds.length∧k9 (ds.take k)=k9 ds) (fun k=>k) (fun k=>fm [(0,dgc (ds.take k) c)]) (fun _=>[]) ds.length ⟨au _,by rw [aP]⟩ (LeF.cons (by rw [aP];exact Le.refl _) (LeF.nil _)) rfl ?_;rintro k ⟨hk,ht⟩ K hK;have hlen:(ds.take k).length=k:=by rw [aC];omega
 rcases k with _|j
 ·iterate 2 refine WP.seq' ?_
  refine WP.reg ?_;(refine O1 ⟨?_⟩;intros)
  refine Wo (xa rfl) ?_;refine A2 ⟨?_⟩;intros;exact cV (bJ (RV.tmp (s:=dgc (List.take 0 ds) c) rfl) (Le.of_eq (by rw [←ht];rfl)))
 ·have hg:(List.take (j+1) ds).getD j 0=ds.getD j 0:=by simp [List.getD]
  iterate 2 refine WP.seq' ?_
  refine WP.reg ?_;(refine O1 ⟨?_⟩;intros)
  refine Wo (xa rfl) ?_;iterate 4 (refine O1 ⟨?_⟩;intros)
  refine Wog (xa rfl) ?_;refine Wog (BD (r:=(j:Int)) rfl rfl (JR om om om)) ?_;refine Wog (Oy (i:=j) (by decide) rfl rfl om) ?_;rw [hg];by_cases hd:ds.getD j 0=0
  ·refine A2 ⟨?_⟩;intros;refine Wo (xa rfl) ?_;refine A2 ⟨?_⟩;intros;refine Wo (QZ j rfl rfl om om) ?_;rw [kV,dv om];refine A2 ⟨?_⟩;intros;refine hK _ _ j ⟨om,?_⟩ om (LeF.cons Lr (LeF.nil _)) rfl;rw [dB ds j om,hd,kj]at ht;exact ht
  ·rw [dB ds j om,k8 _ _ hd,←dB ds j om]at ht;refine A2 ⟨?_⟩;intros;exact cV (bJ (RV.tmp (s:=dgc (List.take (j+1) ds) c) rfl) (Le.of_eq (by rw [ht])))
theorem Ah {s:Nat}(h:s<32):2^s≤2147483648∧0<2^s∧2^s*2^(32-s)=4294967296:=by
 refine⟨?_,dc om,?_⟩
 ·have:=gN (n:=2) om (show s≤31 by omega);simpa using this
 ·rw [←cD,show s+(32-s)=32 by omega]
theorem y5 {d s:Nat}(hs:s<32) (hd:d<4294967296):d*2^s≤18446744073709551615∧d*2^s/4294967296<2^s∧∃y,d*2^s%4294967296=2^s*y∧2^s*y+2^s≤4294967296:=by
 obtain⟨h1,h2,h3⟩:=Ah hs;have hm:d*2^s≤4294967295*2^s:=aR _ om;refine⟨om,?_,d%2^(32-s),?_,?_⟩
 ·rw [kI om];have:d*2^s<4294967296*2^s:=kH hd h2;rw [aE (2^s)];exact this
 ·rw [←h3,aE d,Nat.mul_mod_mul_left]
 ·have:d%2^(32-s)<2^(32-s):=cS _ (dc om);have h4:2^s*(d%2^(32-s)+1)≤2^s*2^(32-s):=eO _ this;rw [h3,aM,cB]at h4;exact h4
theorem Gq (xs:List Nat) (s:Nat) (hla:xs.length≤100000000) (hA:D xs) (hs:s<32) (h0:val xs≠0):Pu Tryz.prog 296 [dg xs,lit (.int .u64 s)] (dgc (dgs (val xs*2^s)) ((dgs (val xs)).length+1)):=by
 obtain⟨p,t1,h1,hP,hva,hpd⟩:=ql xs hla om hA;rw [←hva]at h0;rw [←hpd,←hva];obtain⟨w1,w2,w3⟩:=Ah hs;refine Pi Tryz.func296 fun C=>?_
 refine A2 ⟨?_⟩;intros;refine Wc t1 ?_;have hpos:0<p.length:=fE.2 fun e=>h0 (by rw [e];rfl)
 refine A2 ⟨?_⟩;intros;refine vn (p.length+1) rfl rfl om om fun bb=>?_
 refine A2 ⟨?_⟩;intros
 refine WP.loop (ι:=Nat×List Nat) (fun st=>st.1≤p.length∧st.2.length=p.length+1∧D st.2∧val st.2=val (p.take st.1)*2^s∧st.2.getD st.1 0<2^s∧∀j,st.1<j→st.2.getD j 0=0) (fun st=>p.length-st.1)
  (fun st=>fm [(5,lit (.int .i64 0)),(6,lit (.int .u64 s)),(7,lit (.slice (some ⟨bb,0,none⟩) (p.length+1) (p.length+1))),(29,dg p),(30,lit (.int .i64 p.length)),(31,lit (.int .i64 st.1))])
  (fun st=>[(bb,192,bC st.2)]) (0,List.replicate (p.length+1) 0) ⟨an _,by simp,D.rep _,by simp [val,uc],by simp [List.getD];omega,fun j _=>by simp [List.getD,nL];split <;> simp⟩ lfA rfl ?_
 rintro ⟨k,os⟩ ⟨hk,hol,hO,hval,hlo,hz⟩ K hK;simp only at hk hol hO hval hlo hz⊢;by_cases hkl:k<p.length
 ·have hx:=hP.get k;obtain⟨a1,a2,y,a3,a4⟩:=y5 (d:=p.getD k 0) hs hx;have hz1:=hz (k+1) om;refine A2 ⟨?_⟩;intros;rw [Sy (p.getD k 0) s om a1];refine A2 ⟨?_⟩;intros;refine Wo (qP rfl rfl (Rg (os.getD k 0) y s rfl (by rw [←a3,nJ];rfl) hlo om)) ?_;refine A2 ⟨?_⟩;intros;refine jY (2^s*y+os.getD k 0) rfl rfl rfl (br.here _) om ?_;refine A2 ⟨?_⟩;intros;refine jY (p.getD k 0*2^s/4294967296) rfl rfl om (br.here _) (by simp;omega) ?_;refine A2 ⟨?_⟩;intros;refine hK _ _ (k+1,(os.set k (2^s*y+os.getD k 0)).set (k+1) (p.getD k 0*2^s/4294967296)) ⟨by simp only;omega,by simpa using hol,(hO.set _ om).set _ om,?_,?_,?_⟩ (by simp only;omega) lfA rfl
  ·simp only;have e1:=jQ os k (2^s*y+os.getD k 0) om;have e2:=jQ (os.set k (2^s*y+os.getD k 0)) (k+1) (p.getD k 0*2^s/4294967296) (by simp;omega);rw [dF _ _ _ _ om,hz1,jD,cj]at e2;rw [e2,bK,aT,←hval,aI (4294967296^k)];have e3:=fC (p.getD k 0*2^s) 4294967296
   have e4:4294967296^k*(p.getD k 0*2^s)=4294967296^(k+1)*(p.getD k 0*2^s/4294967296)+4294967296^k*(2^s*y):=by
    conv=>lhs;rw [←e3]
    rw [aM,a3,bR,aI]
   rw [e4];rw [aM]at e1;omega
  ·simp only
   rw [show((os.set k (2^s*y+os.getD k 0)).set (k+1) (p.getD k 0*2^s/4294967296)).getD (k+1) 0=p.getD k 0*2^s/4294967296 from by
    have:k+1<os.length:=by omega
    simp [List.getD,this]]
   exact a2
  ·intro j hj;simp only at hj⊢;rw [dF _ _ _ _ om,dF _ _ _ _ om];exact hz j om
 ·have hke:k=p.length:=by omega
  subst hke;rw [aP]at hval;refine A2 ⟨?_⟩;intros;refine Tb (ds:=os) 60 rfl (aq.here _) hol om om ?_;refine Wc (JY os _ om) ?_;rw [qY hO,hval];exact Z1
theorem NO (xs:List Nat) (s:Nat) (hla:xs.length≤100000000) (hA:D xs) (hs:s<32):Pu Tryz.prog 296 [dg xs,lit (.int .u64 s)] (nat (val xs*2^s)):=by
 by_cases h0:val xs=0
 ·obtain⟨p,t1,h1,hP,hva,hpd⟩:=ql xs hla om hA;have hp:p=[]:=by rw [hpd,h0,bW]
  subst hp;rw [h0];refine Pi Tryz.func296 fun C=>?_
  refine A2 ⟨?_⟩;intros;refine Wc t1 ?_;refine A2 ⟨?_⟩;intros;refine cV (bJ (RV.tmp rfl) ?_);simp only [bQ];rw [show nat 0=dg []from by show dg (dgs 0)=_;rw [bW]];exact gz
 ·exact(Gq xs s hla hA hs h0).le (FQ _ _)
theorem A3 {V p q r s:Nat}(k:Nat) (hs:s<32) (h:V/4294967296^k=p+4294967296*(q+4294967296*r)):V/2^s/4294967296^k%4294967296=(p+q*4294967296)/2^s%4294967296:=by
 obtain⟨w1,w2,w3⟩:=Ah hs;rw [Nat.div_div_eq_div_mul,aE,←Nat.div_div_eq_div_mul,h]
 have e:p+4294967296*(q+4294967296*r)=(p+q*4294967296)+2^s*(4294967296*(2^(32-s)*r)):=by
  rw [←aI (2^s),aE (2^s),aI,←aI (2^s),w3,aM,aE q];omega
 rw [e,ti _ _ w2,Nat.add_mul_mod_self_left]
theorem ws (ds:List Nat) (hD:D ds) (k:Nat) (hk:k≤ds.length):val ds/4294967296^k=val (ds.drop k):=by
 rw [lM ds k hk,ti _ _ (dc om),iw,aB];have h:=eQ (hD.take k);rw [aC,dv hk]at h;exact h
theorem ze (ds:List Nat) (k:Nat) (hk:k<ds.length):val (ds.drop k)=ds.getD k 0+4294967296*(ds.getD (k+1) 0+4294967296*val (ds.drop (k+2))):=by
 rw [fX ds k hk,i0];by_cases h:k+1<ds.length
 ·rw [fX ds (k+1) h,i0]
 ·rw [fR om,fR om,show ds.getD (k+1) 0=0 from by simp [List.getD,df (show ds.length≤k+1 by omega)]];simp [val]
theorem NN (xs:List Nat) (s:Nat) (hla:xs.length≤100000000) (hA:D xs) (hs:s<32):Pu Tryz.prog 297 [dg xs,lit (.int .u64 s)] (nat (val xs/2^s)):=by
 obtain⟨p,t1,h1,hP,hva,hpd⟩:=ql xs hla om hA;rw [←hva];obtain⟨w1,w2,w3⟩:=Ah hs;refine Pi Tryz.func297 fun C=>?_
 refine A2 ⟨?_⟩;intros;refine Wc t1 ?_;by_cases h0:p=[]
 ·subst h0;refine A2 ⟨?_⟩;intros;refine cV (bJ (RV.tmp rfl) ?_);simp only [val,Nat.zero_div];rw [show nat 0=dg []from by show dg (dgs 0)=_;rw [bW]];exact gz
 ·have hpos:=fE.2 h0;refine A2 ⟨?_⟩;intros;refine vn p.length rfl rfl om om fun bb=>?_
  refine A2 ⟨?_⟩;intros
  refine WP.loop (ι:=Nat×List Nat) (fun st=>st.1≤p.length∧st.2.length=p.length∧D st.2∧val (st.2.take st.1)=val p/2^s%4294967296^st.1) (fun st=>p.length-st.1)
   (fun st=>fm [(0,dg p),(5,lit (.int .i64 0)),(6,lit (.int .u64 s)),(7,lit (.slice (some ⟨bb,0,none⟩) p.length p.length)),(29,lit (.int .i64 p.length)),(30,lit (.int .i64 st.1))])
   (fun st=>[(bb,192,bC st.2)]) (0,List.replicate p.length 0) ⟨an _,by simp,D.rep _,by simp [val,p6]⟩ lfA rfl ?_
  rintro ⟨k,os⟩ ⟨hk,hol,hO,hval⟩ K hK;simp only at hk hol hO hval⊢;by_cases hkl:k<p.length
  ·have hx:=hP.get k;have hx1:=hP.get (k+1);refine A2 ⟨?_⟩;intros;refine WP.via (fun F H=>LeF F (fm [(0,dg p),(5,lit (.int .i64 0)),(6,lit (.int .u64 s)),(7,lit (.slice (some ⟨bb,0,none⟩) p.length p.length)),(8,lit (.int .i64 k)),(9,lit (.int .u64 (p.getD k 0+p.getD (k+1) 0*4294967296:Nat))),(29,lit (.int .i64 p.length)),(30,lit (.int .i64 k))])∧H=[(bb,192,bC os)]) ?_ ?_
   ·refine WPd (fun h=>?_) (fun h=>?_)
    ·refine A2 ⟨?_⟩;intros;refine Wo (qP rfl rfl (Lx (p.getD (k+1) 0) (p.getD k 0) rfl rfl hx1 hx)) ?_;refine A2 ⟨?_⟩;intros;exact⟨lfA,rfl⟩
    ·have h0:p.getD (k+1) 0=0:=by simp [List.getD,df (show p.length≤k+1 by omega)]
     refine A2 ⟨?_⟩;intros;exact⟨lfA,rfl⟩
   ·rintro F H ⟨hF,rfl⟩;refine WP.le hF ?_;refine A2 ⟨?_⟩;intros;rw [Sn _ s om];refine jY ((p.getD k 0+p.getD (k+1) 0*4294967296)/2^s%4294967296) rfl rfl (by rw [nJ];rfl) (br.here _) om ?_;refine A2 ⟨?_⟩;intros;refine hK _ _ (k+1,os.set k ((p.getD k 0+p.getD (k+1) 0*4294967296)/2^s%4294967296)) ⟨by simp only;omega,by simpa using hol,hO.set _ om,?_⟩ (by simp only;omega) lfA rfl;simp only;rw [hZ _ _ _ om,hval,Nat.mod_pow_succ,A3 k hs ((ws p hP k hk).trans (ze p k hkl))]
  ·have hke:k=p.length:=by omega
   subst hke;rw [eN (kL (dw _ _) (eQ hP)),dz om]at hval;refine A2 ⟨?_⟩;intros;refine lr (ds:=os) 66 rfl (aq.here _) hol om om ?_;refine Wc (gj os om hO) ?_;rw [hval];exact Z1
theorem SF {a b:Int}(h:Nat) (ha:a=0) (hb:b=(h:Int)) (hh:h<4294967296):IntKind.u32.wrap ((BitVec.ofInt (IntKind.bits .u32) a ||| BitVec.ofInt (IntKind.bits .u32) b).toNat:Int)=(h:Int):=by
 have:=Rg (a:=a) (b:=b) 0 h 0 ha (by rw [hb,jH,aY]) (by simp) (by rw [jH,aY];exact hh);rw [this,jH,aY,cj]
theorem IB (k:Nat):2^k=4294967296^(k/32)*2^(k%32):=by
 conv=>lhs;rw [←fC k 32]
 rw [cD,nO]
theorem ya (a k:Nat) (hla:(dgs a).length+k/32≤100000000):Pu Tryz.prog 183 [nat a,lit (.int .i64 k)] (nat (a*2^k)):=by
 have hs:k%32<32:=by omega
 have hP:=cu a
 suffices h:Pu Tryz.prog 183 [dg (dgs a),lit (.int .i64 k)] (nat (val (dgs a)*(4294967296^(k/32)*2^(k%32)))) by
  rw [aK]at h;rw [IB k];exact h
 obtain⟨w1,w2,w3⟩:=Ah hs;generalize dgs a=p at *;refine Pi Tryz.func183 fun C=>?_
 refine A2 ⟨?_⟩;intros;refine vn (k/32+p.length+1) rfl rfl om om fun bb=>?_
 refine A2 ⟨?_⟩;intros
 refine WP.loop (ι:=Nat×List Nat) (fun st=>st.1≤p.length∧st.2.length=k/32+p.length+1∧D st.2∧val st.2=4294967296^(k/32)*(val (p.take st.1)*2^(k%32))∧st.2.getD (k/32+st.1) 0<2^(k%32)∧∀j,k/32+st.1<j→st.2.getD j 0=0) (fun st=>p.length-st.1)
  (fun st=>fm [(1,lit (.int .i64 k)),(6,lit (.int .u64 ((k%32:Nat):Int))),(5,lit (.slice (some ⟨bb,0,none⟩) (k/32+p.length+1) (k/32+p.length+1))),(20,dg p),(21,lit (.int .i64 p.length)),(22,lit (.int .i64 st.1))])
  (fun st=>[(bb,192,bC st.2)]) (0,List.replicate (k/32+p.length+1) 0) ⟨an _,by simp,D.rep _,by simp [val,uc],by simp [List.getD,nL];split <;> simp [w2],fun j _=>by simp [List.getD,nL];split <;> simp⟩ lfA rfl ?_
 rintro ⟨i,os⟩ ⟨hi,hol,hO,hval,hlo,hz⟩ K hK;simp only at hi hol hO hval hlo hz⊢;by_cases hil:i<p.length
 ·have hx:=hP.get i;obtain⟨a1,a2,y,a3,a4⟩:=y5 (d:=p.getD i 0) hs hx;have hz1:=hz (k/32+i+1) om;have hlo':Hid (os.getD (k/32+i) 0<2^(k%32)):=hlo;have hvh:Hid (val os=4294967296^(k/32)*(val (p.take i)*2^(k%32))):=hval;clear hval hlo;refine A2 ⟨?_⟩;intros;rw [Sy (p.getD i 0) (k%32) om a1];refine A2 ⟨?_⟩;intros;refine Wo (qP rfl rfl (Rg (os.getD (k/32+i) 0) y (k%32) rfl (by rw [←a3,nJ];rfl) hlo'.out (by have:=hlo'.out;omega))) ?_;refine A2 ⟨?_⟩;intros;refine jY (2^(k%32)*y+os.getD (k/32+i) 0) rfl rfl rfl (br.here _) om ?_;have hl1:(os.set (k/32+i) (2^(k%32)*y+os.getD (k/32+i) 0)).length=k/32+p.length+1:=by simpa using hol
  refine A2 ⟨?_⟩;intros;rw [dF _ _ _ _ om,hz1];refine Wo (qP rfl rfl (SF (p.getD i 0*2^(k%32)/4294967296) rfl rfl om)) ?_;refine A2 ⟨?_⟩;intros;refine jY (p.getD i 0*2^(k%32)/4294967296) rfl rfl rfl (br.here _) om ?_;refine A2 ⟨?_⟩;intros;have hlo:=hlo'.out;refine hK _ _ (i+1,(os.set (k/32+i) (2^(k%32)*y+os.getD (k/32+i) 0)).set (k/32+i+1) (p.getD i 0*2^(k%32)/4294967296)) ⟨by simp only;omega,by simpa using hol,(hO.set _ om).set _ om,?_,?_,?_⟩ (by simp only;omega) lfA rfl
  ·simp only;have e1:=jQ os (k/32+i) (2^(k%32)*y+os.getD (k/32+i) 0) om;have e2:=jQ (os.set (k/32+i) (2^(k%32)*y+os.getD (k/32+i) 0)) (k/32+i+1) (p.getD i 0*2^(k%32)/4294967296) (by simp;omega);rw [dF _ _ _ _ om,hz1,jD,cj]at e2;rw [e2,bK,aT,aM,←hvh.out,←aI,←aI,←cD,aI (4294967296^(k/32+i))];have e3:=fC (p.getD i 0*2^(k%32)) 4294967296
   have e4:4294967296^(k/32+i)*(p.getD i 0*2^(k%32))=4294967296^(k/32+i+1)*(p.getD i 0*2^(k%32)/4294967296)+4294967296^(k/32+i)*(2^(k%32)*y):=by
    conv=>lhs;rw [←e3]
    rw [aM,a3,bR,aI]
   rw [e4];rw [aM]at e1;omega
  ·simp only
   rw [show((os.set (k/32+i) (2^(k%32)*y+os.getD (k/32+i) 0)).set (k/32+i+1) (p.getD i 0*2^(k%32)/4294967296)).getD (k/32+(i+1)) 0=p.getD i 0*2^(k%32)/4294967296 from by
    have:k/32+i+1<os.length:=by omega
    rw [←jN];simp [List.getD,this]]
   exact a2
  ·intro j hj;simp only at hj⊢;rw [dF _ _ _ _ om,dF _ _ _ _ om];exact hz j om
 ·have hie:i=p.length:=by omega
  subst hie;rw [aP]at hval;have hvh:Hid (val os=4294967296^(k/32)*(val p*2^(k%32))):=hval;clear hval hlo;refine A2 ⟨?_⟩;intros;refine lr (ds:=os) 56 rfl (aq.here _) hol om om ?_;refine Wc (gD os om hO) ?_;rw [hvh.out,qc];exact Z1
theorem It (a s:Nat) (hla:(dgs a).length≤100000000) (hs:s<32):Pu Tryz.prog 184 [nat a,lit (.int .i64 s)] (nat (a/2^s)):=by
 have hP:=cu a;suffices h:Pu Tryz.prog 184 [dg (dgs a),lit (.int .i64 s)] (nat (val (dgs a)/2^s)) by rw [aK]at h;exact h
 obtain⟨w1,w2,w3⟩:=Ah hs;generalize dgs a=p at *;have hq0:s/32=0:=by omega
 have hr0:s%32=s:=by omega
 by_cases h0:p=[]
 ·subst h0;refine Pi Tryz.func184 fun C=>?_
  refine A2 ⟨?_⟩;intros;refine cV (bJ (RV.tmp rfl) ?_);simp only [val,Nat.zero_div];rw [show nat 0=dg []from by show dg (dgs 0)=_;rw [bW]];exact gz
 ·have hpos:=fE.2 h0;refine Pi Tryz.func184 fun C=>?_
  refine A2 ⟨?_⟩;intros;rw [hr0];refine Wo (Ap (i:=0) (j:=p.length) (ds':=p) rfl (fun y h=>⟨_,_,by cases h;exact rfl,om⟩) (fun h=>by cases h) (fun y h=>by cases h) (fun _=>rfl) om om (by simp)) ?_;refine A2 ⟨?_⟩;intros;refine vn p.length rfl rfl om om fun bb=>?_
  refine A2 ⟨?_⟩;intros
  refine WP.loop (ι:=Nat×List Nat) (fun st=>st.1≤p.length∧st.2.length=p.length∧D st.2∧Hid (val (st.2.take st.1)=val p/2^s%4294967296^st.1)) (fun st=>p.length-st.1)
   (fun st=>fm [(5,lit (.int .u64 s)),(6,dg p),(7,lit (.slice (some ⟨bb,0,none⟩) p.length p.length)),(26,dg p),(27,lit (.int .i64 p.length)),(28,lit (.int .i64 st.1))])
   (fun st=>[(bb,192,bC st.2)]) (0,List.replicate p.length 0) ⟨an _,by simp,D.rep _,by simp [val,p6,Hid]⟩ lfA rfl ?_
  rintro ⟨k,os⟩ ⟨hk,hol,hO,hval⟩ K hK;simp only at hk hol hO hval⊢;by_cases hkl:k<p.length
  ·have hx:=hP.get k;have hx1:=hP.get (k+1);refine A2 ⟨?_⟩;intros;refine WP.via (fun F H=>LeF F (fm [(5,lit (.int .u64 s)),(6,dg p),(7,lit (.slice (some ⟨bb,0,none⟩) p.length p.length)),(8,lit (.int .i64 k)),(10,lit (.int .u64 (p.getD k 0+p.getD (k+1) 0*4294967296:Nat))),(26,dg p),(27,lit (.int .i64 p.length)),(28,lit (.int .i64 k))])∧H=[(bb,192,bC os)]) ?_ ?_
   ·refine WPd (fun h=>?_) (fun h=>?_)
    ·refine A2 ⟨?_⟩;intros;refine Wo (qP rfl rfl (Lx (p.getD (k+1) 0) (p.getD k 0) rfl rfl hx1 hx)) ?_;refine A2 ⟨?_⟩;intros;exact⟨lfA,rfl⟩
    ·have h0:p.getD (k+1) 0=0:=by simp [List.getD,df (show p.length≤k+1 by omega)]
     refine A2 ⟨?_⟩;intros;exact⟨lfA,rfl⟩
   ·rintro F H ⟨hF,rfl⟩;refine WP.le hF ?_;refine A2 ⟨?_⟩;intros;rw [Sn _ s om];refine jY ((p.getD k 0+p.getD (k+1) 0*4294967296)/2^s%4294967296) rfl rfl (by rw [nJ];rfl) (br.here _) om ?_;refine A2 ⟨?_⟩;intros;refine hK _ _ (k+1,os.set k ((p.getD k 0+p.getD (k+1) 0*4294967296)/2^s%4294967296)) ⟨by simp only;omega,by simpa using hol,hO.set _ om,?_⟩ (by simp only;omega) lfA rfl;simp only [Hid];rw [hZ _ _ _ om,hval.out,Nat.mod_pow_succ,A3 k hs ((ws p hP k hk).trans (ze p k hkl))]
  ·have hke:k=p.length:=by omega
   subst hke;have hval:=hval.out;rw [eN (kL (dw _ _) (eQ hP)),dz om]at hval;have hval:Hid _:=hval;refine A2 ⟨?_⟩;intros;refine lr (ds:=os) 57 rfl (aq.here _) hol om om ?_;refine Wc (gD os om hO) ?_;rw [hval.out];exact Z1
section
variable {B top sec third first rest g V W P vl wl:Nat}
theorem FF (hV:V=(top*B+sec)*P+vl) (hW:W=(first*B+third)*P+wl) (hw:wl<P) (hg:g*top+rest=first) (h:rest*B+third<g*sec):W<g*V:=by
 have h1:first*B+third+1≤g*(top*B+sec):=by
  rw [←hg,aM,aT,←aI];omega
 have h2:=aR P h1;rw [hW,hV,aM,←aI];rw [aT,aY]at h2;omega
theorem DW (hV:V=(top*B+sec)*P+vl) (hW:W=(first*B+third)*P+wl) (hw:wl<P) (ht:third<B) (hg:first<(g+1)*top):W<(g+1)*V:=by
 have h1:(first+1)*B≤(g+1)*top*B:=aR B hg
 have h2:first*B+third+1≤(g+1)*(top*B+sec):=by
  rw [aM,←aI];rw [aT,aY]at h1;omega
 have h3:=aR P h2;rw [hW,hV,aM (g+1),←aI];rw [aT,aY]at h3;omega
theorem FG (hV:V=(top*B+sec)*P+vl) (hW:W=(first*B+third)*P+wl) (hv:vl<P) (hg:g*top+rest=first) (h:g*sec≤rest*B+third) (hB:g<B) (ht:1≤top):g*V≤W+V:=by
 have h1:g*(top*B+sec)≤first*B+third:=by
  rw [←hg,aM,aT,←aI];omega
 have h2:=aR P h1;have h3:g*vl≤B*P:=db om om;have h4:B*P≤(top*B+sec)*P:=aR P (by have:=aR B ht;omega);rw [aI]at h2;rw [hW,hV,aM];omega
theorem DV (hV:V=(top*B+sec)*P+vl) (hW:W=(first*B+third)*P+wl) (hv:vl<P) (hs:sec<B) (hWV:W<B*V) (hg:g*top≤first) (ht:B≤2*top) (h0:0<B):g≤B+1∧first<B*top+B:=by
 have h1:V<(top+1)*B*P:=by
  have:=aR P (show top*B+sec+1≤(top+1)*B by rw [aT,aY];omega);rw [aT _ 1,aY]at this;omega
 have h2:first*B*P≤W:=by rw [hW,aT];omega
 have h3:first*B*P<B*((top+1)*B*P):=kL h2 (Nat.lt_trans hWV (Nat.mul_lt_mul_of_pos_left h1 h0))
 have h4:first*(B*P)<B*(top+1)*(B*P):=by simpa only [aI] using h3
 have h5:=xE h4;rw [aM,cB]at h5;refine⟨?_,h5⟩;rcases aJ (B+1) g with h|h
 ·exfalso;have h6:=aR top h;simp only [Nat.succ_eq_add_one,aT,aY]at h6;omega
 ·exact h
end
theorem Ff {vo vs va c w d u t:Nat}{p B1 g:Nat}(h:vs+p*(g*va)=vo+p*(B1*(c+w))) (ht:t=c+g*d){x' w':Nat}(hx:x'+t%4294967296+w=u+4294967296*w'){vs':Nat}(hs:vs'+p*B1*u=vs+p*B1*x') :
  vs'+p*(g*(va+B1*d))=vo+p*(B1*4294967296*(t/4294967296+w')):=by
 have e:=fC t 4294967296;have e1:=congrArg (fun z=>p*B1*z) e;have e2:=congrArg (fun z=>p*B1*z) hx;rw [ht]at e1;simp only [aM,←aI]at h e1 e2 hs⊢;rw [←ht]at e1;rw [show p*g*B1*d=p*B1*g*d from by rw [iZ p g B1]];omega
theorem Fq {vo vs va c d u t:Nat}{p B1:Nat}(h:vs+p*(B1*c)=vo+p*va) (ht:t=c+(u+d)){vs':Nat}(hs:vs'+p*B1*u=vs+p*B1*(t%4294967296)) :
  vs'+p*(B1*4294967296*(t/4294967296))=vo+p*(va+B1*d):=by
 have e:=fC t 4294967296;have e1:=congrArg (fun z=>p*B1*z) e;rw [ht]at e1;simp only [aM,←aI]at h e1 hs⊢;rw [←ht]at e1;omega
theorem oM {us:List Nat}{n:Nat}(h:val us<4294967296^n) (hn:n≤us.length):val us=val (us.take n)∧∀j,n≤j→us.getD j 0=0:=by
 have hs:=lM us n hn
 have h0:val (us.drop n)=0:=by
  rcases Nat.eq_zero_or_pos (val (us.drop n))with h1|h1
  ·exact h1
  ·have:=eO (4294967296^n) h1;rw [cB]at this;omega
 refine⟨by rw [hs,h0,jD,cj],fun j hj=>?_⟩
 have hz:∀l:List Nat,val l=0→∀i,l.getD i 0=0:=by
  intro l;induction l with
  |nil=>intro _ i;simp
  |cons d l ih =>
   intro hv i;rw [i0]at hv;cases i with
   |zero=>simpa using (show d=0 by omega)
   |succ i=>simpa using ih om i
 have:=hz (us.drop n) h0 (j-n);rw [List.getD,eD,show n+(j-n)=j from by omega]at this;exact this
theorem vt {us:List Nat}{j:Nat}(hD:D us) (hj:j≤us.length):val us/4294967296^j=val (us.drop j):=by
 rw [lM us j hj,ti _ _ (dc om),iw,aB];have h:=eQ (hD.take j);rw [aC,dv hj]at h;exact h
theorem EM {us us':List Nat}{j g V W:Nat}(hD:D us) (hD':D us') (hj:j≤us.length) (hj':j≤us'.length) (hW:val (us.drop j)=W) (h:val us'+4294967296^j*(g*V)=val us) (hg:W<(g+1)*V) :
  val (us'.drop j)<V:=by
 rw [←vt hD' hj',kI (dc om)];have hs:=lM us j hj;have hl:=eQ (hD.take j);rw [aC,dv hj]at hl;rw [hW]at hs;have h2:4294967296^j*(W+1)≤4294967296^j*((g+1)*V):=eO _ hg;rw [aT,aY,aM,aM]at h2;rw [aE V];omega
theorem I8 {us:List Nat}{j n:Nat}(hD:D us) (hn:2≤n) (hl:j+n<us.length) (hz:val (us.drop (j+1))<4294967296^n) :
  ∃wl,wl<4294967296^(n-2)∧val (us.drop j)=((us.getD (j+n) 0*4294967296+us.getD (j+n-1) 0)*4294967296+us.getD (j+n-2) 0)*4294967296^(n-2)+wl:=by
 have hD':=hD.drop j;have hlen:(us.drop j).length=us.length-j:=cO
 have hlt:val (us.drop j)<4294967296^(n+1):=by
  rw [fX us j om,i0,bR,aE];have:=hD.get j;have:=aR 4294967296 hz;omega
 have e:=(oM hlt om).1;have g0:∀i,(us.drop j).getD i 0=us.getD (j+i) 0:=fun i=>by rw [List.getD,eD];rfl
 have hw:=eQ (hD'.take (n-2));rw [aC,dv om]at hw;refine⟨_,hw,?_⟩;obtain⟨k,rfl⟩:∃k,n=k+2:=⟨n-2,om⟩
 rw [e,bK,bK,bK,g0,g0,g0];rw [show j+(k+2)-1=j+(k+1)from by omega,show j+(k+2)-2=j+k from by omega,show k+2-2=k from by omega];simp only [bR,aT];rw [aE (4294967296^k) (us.getD (j+k) 0),aE (4294967296^k*4294967296) _,aE (4294967296^k*4294967296*4294967296) _,aE (4294967296^k) 4294967296];simp only [aI];rw [aE (4294967296^k) 4294967296];omega
theorem LZ {v:List Nat}{n:Nat}(hD:D v) (hn:2≤n) (hl:v.length=n):∃vl,vl<4294967296^(n-2)∧val v=(v.getD (n-1) 0*4294967296+v.getD (n-2) 0)*4294967296^(n-2)+vl:=by
 have hw:=eQ (hD.take (n-2));rw [aC,dv om]at hw;refine⟨_,hw,?_⟩;obtain⟨k,rfl⟩:∃k,n=k+2:=⟨n-2,om⟩
 conv=>lhs;rw [←dz (p9 hl)]
 rw [bK,bK,show k+2-1=k+1 from rfl,show k+2-2=k from by omega];simp only [bR,aT];rw [aE (4294967296^k) (v.getD k 0),aE (4294967296^k*4294967296) _,aE (4294967296^k) 4294967296];simp only [aI];omega
theorem yr {y k s:Nat}(hk:(dgs y).length=k+1) (hs:s+f5 ((dgs y).getD k 0)=32):s<32∧(dgs (y*2^s)).length=k+1∧2147483648≤(dgs (y*2^s)).getD k 0∧4294967296^k≤y:=by
 have hy0:y≠0:=fun e=>by rw [e,bW]at hk;simp at hk
 obtain⟨k',h1,h2,h3,h4,h5⟩:=Ca hy0;obtain rfl:k'=k:=by omega
 generalize(dgs y).getD k' 0=t at *;generalize val ((dgs y).take k')=low at *
 have hb:1≤f5 t:=by
  have:=(qO (n:=t) (k:=0)).2 (by simp;omega);omega
 have q1:2^(f5 t-1)≤t:=qO.1 om;have q2:t<2^f5 t:=j7.1 (au _);have p1:2^(f5 t-1)*2^s=2147483648:=by rw [←cD,show f5 t-1+s=31 from by omega]
 have p2:2^f5 t*2^s=4294967296:=by rw [←cD,show f5 t+s=32 from by omega]
 have pp:0<4294967296^k':=dc om;have hs0:0<2^s:=dc om
 have lo:2147483648*4294967296^k'≤y*2^s:=by
  have e1:=aR (4294967296^k') (aR (2^s) q1);rw [p1]at e1;refine aU e1 ?_;rw [iZ];refine aR _ ?_;rw [h5,aE t];omega
 have hi:y*2^s<4294967296^(k'+1):=by
  have e0:y<(t+1)*4294967296^k':=by rw [h5,aT,aE t];omega
  have e1:=kH e0 hs0;refine cQ e1 ?_;have e2:=aR (4294967296^k') (aR (2^s) (show t+1≤2^f5 t by omega));rw [p2]at e2;rw [iZ,bR,aE (4294967296^k') 4294967296];exact e2
 have hlen:(dgs (y*2^s)).length=k'+1:=by
  have a1:=dU hi;rcases aJ k' (dgs (y*2^s)).length with h|h
  ·omega
  ·have:=BT h;omega
 refine⟨om,hlen,?_,?_⟩
 ·have hd:=vt (j:=k') (cu (y*2^s)) om;rw [aK,fX _ k' om,fR om]at hd;simp only [val,jD,cj]at hd;rw [←hd,Nat.le_div_iff_mul_le pp];exact lo
 ·rw [h5];have:=eO (4294967296^k') (Nat.one_le_iff_ne_zero.2 h2);omega
theorem zR:∀l:List Nat,(∀i,l.getD i 0=0)→val l=0
 | [],_=>rfl
 |d::l,h=>by
  have h0:d=0:=by simpa using h 0
  have h1:=zR l fun i=>by simpa using h (i+1)
  rw [i0,h0,h1]
theorem zS {us:List Nat}{k:Nat}(hD:D us) (hk:k≤us.length) (h:∀p,k≤p→us.getD p 0=0):val us<4294967296^k:=by
 have h0:val (us.drop k)=0:=zR _ fun i=>by
  have:=h (k+i) om;rwa [List.getD,eD]
 have h1:=eQ (hD.take k);rw [aC,dv hk]at h1;rw [lM us k hk,h0];simpa using h1
theorem Jl {vu v2 v3 p q c w u x gv:Nat}(h2:v2+p*gv=vu+p*(q*(c+w))) (h3:v3+p*q*u=v2+p*q*x) (hx:x+c+w=u):v3+p*gv=vu:=by
 have e:=congrArg (fun z=>p*q*z) hx;simp only [aM,←aI]at e h2 h3;omega
theorem MC {vu v2 v3 p q c w u x gv:Nat}(h2:v2+p*gv=vu+p*(q*(c+w))) (h3:v3+p*q*u=v2+p*q*x) (hx:x+c+w=u+4294967296):v3+p*gv=vu+p*q*4294967296:=by
 have e:=congrArg (fun z=>p*q*z) hx;simp only [aM,←aI]at e h2 h3;omega
theorem Oe {vu v3 p q gv low W:Nat}(h:v3+p*gv=vu+p*q*4294967296) (hl:v3<p*q*4294967296) (hu:vu=low+p*W):W<gv:=by
 have:p*W<p*gv:=by omega
 exact Nat.lt_of_mul_lt_mul_left this
theorem MD {vu v3 v4 v5 p q c t gv V low W:Nat}(h3:v3+p*gv=vu+p*q*4294967296) (h4:v4+p*(q*c)=v3+p*V) (h5:v5+p*q*t=v4+p*q*((t+c)%4294967296)) (hl:v5<p*q*4294967296)
  (hc:c≤1) (ht:t<4294967296) (hg:gv≤W+V) (hu:vu=low+p*W):v5+p*gv=vu+p*V:=by
 have e:=eO p hg;rcases aJ (t+c) 4294967296 with hlt|hge
 ·exfalso;rw [eN hlt]at h5;simp only [aM,←aI]at e h3 h4 h5 hl;omega
 ·have hm:(t+c)%4294967296+4294967296=t+c:=by omega
  have e2:=congrArg (fun z=>p*q*z) hm;simp only [aM,←aI]at e2 h3 h4 h5;omega
theorem wv {vp vo d r x v q r':Nat}(h:vp=vo*d+r) (hv:v=r*4294967296+x) (hq:q=v/d) (hr:r'=v%d):x+4294967296*vp=(q+4294967296*vo)*d+r':=by
 subst hq;subst hr;subst h;have e:=fC v d;rw [aT,aE (v/d) d,aM,←aI];omega
theorem oG (ds:List Nat) (j x:Nat) (h:j<ds.length):(ds.set j x).drop j=x::ds.drop (j+1):=by
 rw [fX _ j (by simpa using h),show(ds.set j x).getD j 0=x from by simp [List.getD,h]];congr 1
 rw [List.drop_set];simp
theorem A4 (xs:List Nat) (d:Nat) (hla:xs.length≤100000000) (hP:D xs) (hd0:d≠0) (hd:d<4294967296):Pu Tryz.prog 276 [dg xs,lit (.int .u32 d)] (tup [nat (val xs/d),lit (.int .u32 (val xs%d:Nat))]):=by
 refine Pi Tryz.func276 fun C=>?_
 refine A2 ⟨?_⟩;intros;refine vn xs.length rfl rfl om om fun bb=>?_
 refine A2 ⟨?_⟩;intros
 refine WP.loop (ι:=Nat×Nat×List Nat) (fun s=>s.1≤xs.length∧s.2.1<d∧s.2.2.length=xs.length∧D s.2.2∧val (xs.drop s.1)=val (s.2.2.drop s.1)*d+s.2.1) (fun s=>s.1)
  (fun s=>fm [(0,dg xs),(1,lit (.int .u32 d)),(6,lit (.slice (some ⟨bb,0,none⟩) xs.length xs.length)),(7,lit (.int .u64 s.2.1)),(8,lit (.int .i64 ((s.1:Int)-1)))])
  (fun s=>[(bb,192,bC s.2.2)]) (xs.length,0,List.replicate xs.length 0) ⟨au _,by simp only;omega,by simp,D.rep _,by simp [val]⟩ lfA rfl ?_
 rintro ⟨k,r,os⟩ ⟨hk,hr,hol,hO,hval⟩ K hK;simp only at hk hr hol hO hval⊢;rcases k with _|j
 ·refine A2 ⟨?_⟩;intros;refine lr (ds:=os) 40 rfl (aq.here _) hol om om ?_;refine Wc (gj os om hO) ?_;simp only [bD]at hval
  have hq:val os=val xs/d:=by
   rw [hval,aE,qa om,iw hr,cj]
  have hm:r=val xs%d:=by
   rw [hval,aE,q9,eN hr]
  rw [hq];refine A2 ⟨?_⟩;intros;rw [hm];exact G2
 ·rw [show(((j+1:Nat):Int)-1)=(j:Int)from by omega];have hx:=hP.get j
  have hlt:(r*4294967296+xs.getD j 0)/d<4294967296:=by
   rw [kI om];have:(r+1)*4294967296≤d*4294967296:=aR _ hr;rw [aE 4294967296];omega
  have hrm:(r*4294967296+xs.getD j 0)%d<d:=cS _ om;refine A2 ⟨?_⟩;intros;refine Wo (qP rfl rfl (Fa r (xs.getD j 0) rfl rfl om hx)) ?_;generalize hv:r*4294967296+xs.getD j 0=v at *;have hvb:v≤18446744073709551615:=by omega
  refine A2 ⟨?_⟩;intros;generalize hq:v/d=q at *;refine jY q rfl rfl om (br.here _) om ?_;refine A2 ⟨?_⟩;intros;refine hK _ _ (j,v%d,os.set j q) ⟨by simp only;omega,hrm,by simpa using hol,hO.set _ hlt,?_⟩ (by simp only;omega) lfA rfl;simp only;rw [fX xs j om,oG os j _ om,i0,i0];exact wv hval hv.symm hq.symm rfl
end Go.Ab
