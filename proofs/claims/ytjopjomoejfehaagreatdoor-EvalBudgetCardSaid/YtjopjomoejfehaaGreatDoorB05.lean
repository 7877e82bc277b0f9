/- Texts laid one behind the other: Cap, NatH, NatI, RefG, LongA, NatG. -/
import Derived.Test.YtjopjomoejfehaaGreatDoorB04
set_option linter.all false
set_option maxHeartbeats 16000000
namespace Go.Ab
open Go.Proofs
variable [Base]
@[irreducible] def dgc (ds:List Nat) (c:Nat):SV:=⟨fun m v=>∃a,v = .slice a ds.length c∧ds.length≤c∧c≤maxLen∧(ds=[]∨∃b off,a=some ⟨b,off,none⟩∧ie m b off (bI ds)),
 fun h ⟨a,e,x,y,k⟩=>⟨a,e,x,y,k.imp id fun⟨b,off,e,k⟩=>⟨b,off,e,k.mono h⟩⟩⟩
theorem FG (ds:List Nat) (c:Nat):Le (dgc ds c) (dg ds):=fun m v h=>by
 unfold dgc at h;obtain⟨a,rfl,h1,h2,h3⟩:=h;rw [wv];exact js h1 h2 (h3.imp (fun e=>by rw [e];rfl) id)
instance (ds:List Nat) (c:Nat):CO (dgc ds c) [dgc ds c]:=lj fun m v h=>by unfold dgc at h;obtain⟨a,rfl,_⟩:=h;exact⟨rfl,rfl⟩
section
variable {P:Program}{C:Ctx}{n:Nat}{F:Fr}{H:LH}{ops:Array Oper}{K:Fr→LH→Prop}{rest:List Oper}{ty:TypeId}{pos:String}{aft:Array Edge}
theorem OpV.low {op:Op}{sv s:SV}(t:Nat) (hle:Le (F t) s) (h:OpV P op ty (upd F t s) H sv):OpV P op ty F H sv:=by
 unfold OpV at *;exact fun m w o a ho hty h1 h2 h3=>h m w o a ho hty h1 h2 fun t' ht=>LeF.upd hle (LeF.refl F) t' m _ (h3 t' ht)
theorem wN {t:Nat}{T e:TypeId} [TSl P T e]{ds:List Nat}{c:Nat}(hx:F t=dgc ds c):OpV P (.call ⟨.builtin .len,#[.tmp t],#[T]⟩) ty F H (lit (.int .i64 ds.length)) :=
 OpV.low t (hx▸FG ds c) (GC (x := .tmp t) bW)
theorem NS {t t':Nat}(hne:t'≠t){T e:TypeId}{by_:Nat}{z:List SV}{g:Bool} [TSl P T e] [TY P e 1 by_ z g]{ki:IntKind}{ds:List Nat}{c i:Nat}
  (hx:F t=dgc ds c) (hi:F t'=lit (.int ki i)) (h1:i<ds.length):OpV P (.indexAddr T (.tmp t) (.tmp t')) ty F H (pt [lit (.int .u32 (ds.getD i 0:Nat))]) :=
 OpV.low t (hx▸FG ds c) (rV (x := .tmp t) (ix := .tmp t') bW ((bD hne).trans hi) h1)
theorem Qf {x y:Operand}{T e:TypeId}{by_:Nat}{z:List SV}{g:Bool} [hT:TSl P T e] [hE:TY P e 1 by_ z g]{ds:List Nat}{ki:IntKind}{v:Int}{c:Nat}(j:Nat)
  (hx:ev F x=dgc ds c) (hy:ev F y=lit (.int ki v)) (hv:v=(j:Int)) (hj:j≤ds.length):OpV P (.slice T x none (some y) none) ty F H (dgc (ds.take j) c) :=
 OpV.pure fun m w o a ho _ _ _ h=>by
  have e0:=h x (by simp [Op.operands]);rw [hx]at e0;have e1:=h y (by simp [Op.operands]);rw [hy,ap]at e1;subst hv;unfold dgc at e0;obtain⟨ad,e0,h1,h2,h3⟩:=e0;have hjc:(j:Int)≤(c:Int):=by omega
  have hjn:¬c<j:=by omega
  have hlen:(ds.take j).length=j:=by rw [aA];omega
  refine⟨.slice (if c=0 then ad else ad.map (·.add 0)) j c,?_,?_⟩
  ·simp [execOp,ho,Instr.sliceAt,Instr.slice,underlying,hT.h,e0,e1,Instr.sliceBounds,Instr.sliceBound,asIntOf,hjc,hjn,hE.run_size]
  ·unfold dgc;refine⟨_,by rw [hlen],om,h2,?_⟩;rcases h3 with h3|⟨b,off,rfl,h3⟩
   ·left;rw [h3,iy]
   ·right;refine⟨b,off,by simp [cG],?_⟩;have:=h3.take j;rwa [show(bI ds).take j=bI (ds.take j)from by simp [bI,mV]]at this
theorem S1 {l:List Oper}{b:Nat}{T:TypeId}{ds:List Nat}{H':LH}{k c:Nat}(d:Nat) (hv:F d=lit (.slice (some ⟨b,0,none⟩) k c)) (hdel:aq b T (bI ds) H H') (hk:ds.length=k) (hc:k≤c) (hc':c≤1000000000)
  (h:WPL P C n ops l K (upd F d (dgc ds c)) H'):WPL P C n ops l K F H:=by
 subst hk;refine WPL.pub hdel hv (fun m arr hm ha=>?_) h;unfold dgc;exact⟨_,rfl,hc,by simp only [maxLen];omega, .inr ⟨b,0,rfl,arr,T,(0,0),hm,by rw [bG,←ha.length,aX];exact ha⟩⟩
theorem Np {b:Nat}{T:TypeId}{ds:List Nat}{k c:Nat}(h0:k≤ds.length) (h1:k≤c) (h2:c≤maxLen) (m:Mem) (arr:Array Value) (hm:m b=some (.cells arr T (0,0))) (ha:bn m (bI ds) arr.toList) :
  (dg (ds.take k)).p m (.slice (some ⟨b,0,none⟩) k c):=by
 rw [wv,show(ds.take k).length=k from by rw [aA];omega];refine js h1 h2 (.inr ⟨b,0,rfl,arr,T,(0,0),hm,?_⟩);have:=ha.take k;rw [bG,cq,show(ds.take k).length=k from by rw [aA];omega];rwa [show(bI ds).take k=bI (ds.take k)from by simp [bI,mV]]at this
theorem Qe {x y:Operand}{T e:TypeId}{by_:Nat}{z:List SV}{g:Bool} [hT:TSl P T e] [hE:TY P e 1 by_ z g]{ki:IntKind}{v:Int}{b k c:Nat}(j:Nat)
  (hx:ev F x=lit (.slice (some ⟨b,0,none⟩) k c)) (hy:ev F y=lit (.int ki v)) (hv:v=(j:Int)) (hj:j≤c):OpV P (.slice T x none (some y) none) ty F H (lit (.slice (some ⟨b,0,none⟩) j c)) :=
 OpV.pure fun m w o a ho _ _ _ h=>by
  have e0:=h x (by simp [Op.operands]);rw [hx,ap]at e0;have e1:=h y (by simp [Op.operands]);rw [hy,ap]at e1;subst hv;have hjc:(j:Int)≤(c:Int):=by omega
  have hjn:¬c<j:=by omega
  refine⟨_,?_,ap.2 rfl⟩;simp [execOp,ho,Instr.sliceAt,Instr.slice,underlying,hT.h,e0,e1,Instr.sliceBounds,Instr.sliceBound,asIntOf,hjc,hjn,hE.run_size,cG]
theorem St.pushD {a:Act}{w:World}{d:Nat}{T:TypeId}{arr:Array Value}{cs:List SV}{v:Value}(hd:d<n) (hs:St C n F H a w)
  (hcs:∀m,dB m w→HOk m w H→(∀x,(ev F x).p m (a.eval x))→bn m cs arr.toList) :
  St C n (upd F d (lit v)) ((w.heap.size,T,cs)::H) (a.put (some d) v) (w.drew.alloc (.cells arr T)):=by
 obtain⟨hdef,hn,m,h1,h2,h3,h4,h5⟩:=hs
 have hp:∀x,(ev F x).p m (a.eval x):=fun x=>by
  cases x with
  |tmp t=>exact h5 t
  |const v=>unfold ev lit;rfl
  |global g=>unfold ev lit;rfl
  |func f=>unfold ev lit;rfl
 have hnone:m w.heap.size=none:=by
  cases hmm:m w.heap.size with
  |none=>rfl
  |some o=>have:=h1 _ _ hmm;rw [rE (ar _)]at this;cases this
 have hsize:(w.drew.alloc (.cells arr T)).heap.size=w.heap.size+1:=World.size_alloc ..;have hold:∀b,b<w.heap.size→(w.drew.alloc (.cells arr T)).heap[b]? = w.heap[b]?:=fun b hb=>@heap_alloc_old w.drew _ b hb
 have rel:Rel [] m w m (w.drew.alloc (.cells arr T)):=⟨Mem.le_refl m,fun _ _ _=>rfl,rfl,rfl,⟨rfl,ni _⟩,om,fun b hb _=>hold b hb⟩
 refine⟨hdef,by simpa [Act.put] using hn,m,⟨fun b o hb=>?_,h1.base⟩,⟨?_,?_⟩,h3.trans rel (fun b hb h=>by cases h),?_,fun t=>?_⟩
 ·have:=h1 b o hb;rw [hold b (dD.1 this).1];exact this
 ·simp only [aG,iE];refine⟨fun hm=>?_,h2.1⟩;obtain⟨e,he,hk⟩:=aj.1 hm;have:=(h2.2 e he).2.lt;omega
 ·intro e he;rcases an.1 he with rfl|he
  ·exact⟨hnone,arr,heap_alloc_new w.drew _,hcs m h1 h2 hp⟩
  ·have hh:=h2.rel rel (fun _ _=>by simp);exact hh.2 e he
 ·intro e he;rcases an.1 he with rfl|he
  ·exact .inr h3.size
  ·exact h4 e he
 ·rw [gV (cR hd hn)];unfold upd;by_cases ht:t=d
  ·subst ht;rw [if_pos rfl,cX];exact ap.2 rfl
  ·rw [if_neg ht]
   have:Nat.beq t d=false:=by
    cases hb:Nat.beq t d with
    |false=>rfl
    |true=>exact absurd (bM hb) ht
   rw [this];exact h5 t
theorem bn.dcz {m:Mem}:∀(k:Nat),bn m (bI (List.replicate k 0)) (List.replicate k (Value.int .u32 0)):=fun k=>by
 rw [←yQ];exact bn.replicate (ap.2 rfl) rfl k
theorem S4 {T e:TypeId} [hS:TSl P T e]{g:Bool} [hT:TY P e 1 4 [lit (.int .u32 0)] g]{d:Nat}{x y:Operand}{ds es:List Nat}{c b2 c2:Nat}{T':TypeId}
  (hx:ev F x=dgc ds c) (hy:ev F y=lit (.slice (some ⟨b2,0,none⟩) es.length c2)) (hm:(b2,T',bI es)∈H) (hne:ds≠[]) (hroom:c<ds.length+es.length) (hl:ds.length+es.length≤1000000000)
  (h:∀b k,k≤maxLen→∀j,k=ds.length+es.length+j→WPL P C n ops rest K (upd F d (lit (.slice (some ⟨b,0,none⟩) (ds.length+es.length) k))) ((b,e,bI (ds++es++List.replicate j 0))::H)) (hd:Nat.blt d n=true:=by exact rfl) :
  WPL P C n ops (⟨some d, .call ⟨.builtin .append,#[x,y],#[T,T]⟩,ty,pos,aft,none⟩::rest) K F H:=by
 unfold WPL;intro a w hs Q hq;refine wpList_plain rfl fun K' hK'=>?_
 obtain⟨m0,h10,h20,hp0⟩:∃m,dB m w∧HOk m w H∧∀x,(ev F x).p m (a.eval x):=by
  obtain⟨_,_,m,h1,h2,_,_,h5⟩:=hs;refine⟨m,h1,h2,fun x=>?_⟩;cases x with
  |tmp t=>exact h5 t
  |const v=>unfold ev lit;rfl
  |global g=>unfold ev lit;rfl
  |func f=>unfold ev lit;rfl
 have e0:=hp0 x;rw [hx]at e0;have e1:=hp0 y;rw [hy,ap]at e1;unfold dgc at e0;obtain⟨ad,e0,hc1,hc2,hca⟩:=e0;obtain⟨b1,off,rfl,arr1,T1,fz1,hb1,hall1⟩:=hca.resolve_left hne;obtain⟨_,arr2,hb2,hall2⟩:=h20.2 _ hm;obtain⟨i,v,hi,hsz,hby,hz,hzl,hfl,hvs⟩:=hT.run_bytes;simp only [me]at hall1;have hlen1:=hall1.length;have hlen2:=hall2.length;simp only [me,aR]at hlen1 hlen2;have hw1:=h10 _ _ hb1
 have hxs:∀j u,((arr1.toList.drop off).take ds.length)[j]? = some u→w.cell? ((⟨b1,off,none⟩:Addr).add j)=some u:=fun j u hj=>by
  rw [cG,eB w b1 _ arr1 _ _ hw1];rw [eE]at hj;split at hj
  ·rw [eD]at hj;simpa using hj
  ·cases hj
 have hys:∀j u,arr2.toList[j]? = some u→w.cell? ((⟨b2,0,none⟩:Addr).add j)=some u:=fun j u hj=>by
  rw [cG,eB w b2 _ arr2 _ _ hb2];simpa using hj
 have hrun:=run_append_grow (P:=P) w T ty e i v hS.h hi hz ⟨b1,off,none⟩ ds.length c ((arr1.toList.drop off).take ds.length) (by rw [hlen1,hsz,cw]) hxs
  ⟨b2,0,none⟩ es.length c2 arr2.toList (by rw [aR,hlen2,hsz,cw]) hys om om (growslice_fits om (by rw [hby];omega))
 have hexec:execOp a.eval (⟨some d, .call ⟨.builtin .append,#[x,y],#[T,T]⟩,ty,pos,aft,none⟩:Oper)=(do let v←Builtin.append_ #[T,T] ty #[a.eval x,a.eval y];pure (.value v)):=by
  simp [execOp,resolve,invoke,builtin]
 unfold Oper.wp;rw [hexec,e0,e1];simp only [Sem.run_bind,hrun,Result.andThen_ok,Sem.run_pure];have hge:=grownCap_ge w (ds.length+es.length) c e;have hle:=grownCap_le_maxLen w (ds.length+es.length) c e (by simp only [maxLen];omega);have h:=h w.heap.size _ hle (grownCap w (ds.length+es.length) c e-(ds.length+es.length)) om;unfold WPL at h;refine hK' _ _ (h _ _ (St.pushD (ay.mp hd) hs fun m h1 h2 hp=>?_) Q hq);have e0':=hp x;rw [hx]at e0';unfold dgc at e0';obtain⟨ad',e0',_,_,hca'⟩:=e0';rw [e0]at e0';simp only [Value.slice.injEq]at e0';obtain⟨b1',off',hbe,arr1',T1',fz1',hb1',hall1'⟩:=hca'.resolve_left hne;rw [←e0'.1]at hbe;simp only [bA,Addr.mk.injEq]at hbe;obtain⟨rfl,rfl,_⟩:=hbe;have hw1':=h1 _ _ hb1';rw [hw1]at hw1';simp only [bA,Obj.cells.injEq]at hw1';obtain⟨rfl,_,_⟩:=hw1';obtain⟨_,arr2',hb2',hall2'⟩:=h2.2 _ hm;rw [hb2]at hb2';simp only [bA,Obj.cells.injEq]at hb2';obtain⟨rfl,_⟩:=hb2';rw [show bI (ds++es++List.replicate (grownCap w (ds.length+es.length) c e-(ds.length+es.length)) 0)=bI ds++bI es++bI (List.replicate (grownCap w (ds.length+es.length) c e-(ds.length+es.length)) 0)from by simp [bI]];simp only [fy,dv];refine((by simpa [me] using hall1':bn m (bI ds) _).append hall2').append ?_
 have hv1:v.cells.toList=[Value.int .u32 0]:=by
  have h1:v.cells.toList.length=1:=by simpa using hvs
  match hv:v.cells.toList,h1 with
  | [u],_ =>
   rw [hv]at hzl;simp only [aG,fw,dV,gN]at hzl;have:(lit u).p (fun _=>none) u:=ap.2 rfl;rw [hzl,ap]at this;rw [this]
 have hzc:∀k,(Builtin.zeroCells v.cells k).toList=List.replicate k (Value.int .u32 0):=fun k=>by
  have hs1:v.cells.size=1:=hvs
  have hg0:v.cells = #[Value.int .u32 0]:=by
   apply Array.ext';rw [hv1]
  rw [hg0];simp only [Builtin.zeroCells,vg,aE,br,aD,cw,oX,sX,sW];rw [List.map_const'];simp
 rw [hzc];exact bn.dcz _
end
theorem JB (ds:List Nat) (c:Nat) (hl:ds.length≤1000000000):Pu Tryz.prog 227 [dgc ds c] (dgc (ke ds) c):=by
 refine Pi Tryz.func227 fun C=>?_
 refine A2 ⟨?_⟩;intros;refine WP.loop (ι:=Nat) (fun k=>k≤ds.length∧ke (ds.take k)=ke ds) (fun k=>k) (fun k=>fm [(0,dgc (ds.take k) c)]) (fun _=>[]) ds.length ⟨ar _,by rw [aX]⟩ (LeF.cons (by rw [aX];exact Le.refl _) (LeF.nil _)) rfl ?_;rintro k ⟨hk,ht⟩ K hK;have hlen:(ds.take k).length=k:=by rw [aA];omega
 rcases k with _|j
 ·iterate 2 refine WP.seq' ?_
  refine WP.reg ?_;(refine O1 ⟨?_⟩;intros)
  refine Wo (wN rfl) ?_;refine A2 ⟨?_⟩;intros;exact db (bO (RV.tmp (s:=dgc (List.take 0 ds) c) rfl) (Le.of_eq (by rw [←ht];rfl)))
 ·have hg:(List.take (j+1) ds).getD j 0=ds.getD j 0:=by simp [List.getD]
  iterate 2 refine WP.seq' ?_
  refine WP.reg ?_;(refine O1 ⟨?_⟩;intros)
  refine Wo (wN rfl) ?_;iterate 4 (refine O1 ⟨?_⟩;intros)
  refine Wog (wN rfl) ?_;refine Wog (Bl (r:=(j:Int)) rfl rfl (Jv om om om)) ?_;refine Wog (NS (i:=j) (by decide) rfl rfl om) ?_;rw [hg];by_cases hd:ds.getD j 0=0
  ·refine A2 ⟨?_⟩;intros;refine Wo (wN rfl) ?_;refine A2 ⟨?_⟩;intros;refine Wo (Qf j rfl rfl om om) ?_;rw [kS,dH om];refine A2 ⟨?_⟩;intros;refine hK _ _ j ⟨om,?_⟩ om (LeF.cons Lr (LeF.nil _)) rfl;rw [e6 ds j om,hd,kq]at ht;exact ht
  ·rw [e6 ds j om,kb _ _ hd,←e6 ds j om]at ht;refine A2 ⟨?_⟩;intros;exact db (bO (RV.tmp (s:=dgc (List.take (j+1) ds) c) rfl) (Le.of_eq (by rw [ht])))
theorem A7 {s:Nat}(h:s<32):2^s≤2147483648∧0<2^s∧2^s*2^(32-s)=4294967296:=by
 refine⟨?_,cZ om,?_⟩
 ·have:=gQ (n:=2) om (show s≤31 by omega);simpa using this
 ·rw [←cF,show s+(32-s)=32 by omega]
theorem xI {d s:Nat}(hs:s<32) (hd:d<4294967296):d*2^s≤18446744073709551615∧d*2^s/4294967296<2^s∧∃y,d*2^s%4294967296=2^s*y∧2^s*y+2^s≤4294967296:=by
 obtain⟨h1,h2,h3⟩:=A7 hs;have hm:d*2^s≤4294967295*2^s:=aT _ om;refine⟨om,?_,d%2^(32-s),?_,?_⟩
 ·rw [kG om];have:d*2^s<4294967296*2^s:=kF hd h2;rw [aI (2^s)];exact this
 ·rw [←h3,aI d,Nat.mul_mod_mul_left]
 ·have:d%2^(32-s)<2^(32-s):=cT _ (cZ om);have h4:2^s*(d%2^(32-s)+1)≤2^s*2^(32-s):=eM _ this;rw [h3,aP,cw]at h4;exact h4
theorem Ge (xs:List Nat) (s:Nat) (hla:xs.length≤100000000) (hA:D xs) (hs:s<32) (h0:val xs≠0):Pu Tryz.prog 286 [dg xs,lit (.int .u64 s)] (dgc (dgs (val xs*2^s)) ((dgs (val xs)).length+1)):=by
 obtain⟨p,t1,h1,hP,hva,hpd⟩:=qg xs hla om hA;rw [←hva]at h0;rw [←hpd,←hva];obtain⟨w1,w2,w3⟩:=A7 hs;refine Pi Tryz.func286 fun C=>?_
 refine A2 ⟨?_⟩;intros;refine Wc t1 ?_;have hpos:0<p.length:=ez.2 fun e=>h0 (by rw [e];rfl)
 refine A2 ⟨?_⟩;intros;refine v8 (p.length+1) rfl rfl om om fun bb=>?_
 refine A2 ⟨?_⟩;intros
 refine WP.loop (ι:=Nat×List Nat) (fun st=>st.1≤p.length∧st.2.length=p.length+1∧D st.2∧val st.2=val (p.take st.1)*2^s∧st.2.getD st.1 0<2^s∧∀j,st.1<j→st.2.getD j 0=0) (fun st=>p.length-st.1)
  (fun st=>fm [(5,lit (.int .i64 0)),(6,lit (.int .u64 s)),(7,lit (.slice (some ⟨bb,0,none⟩) (p.length+1) (p.length+1))),(29,dg p),(30,lit (.int .i64 p.length)),(31,lit (.int .i64 st.1))])
  (fun st=>[(bb,252,bI st.2)]) (0,List.replicate (p.length+1) 0) ⟨ak _,by simp,D.rep _,by simp [val,tP],by simp [List.getD];omega,fun j _=>by simp [List.getD,nM];split <;> simp⟩ lfA rfl ?_
 rintro ⟨k,os⟩ ⟨hk,hol,hO,hval,hlo,hz⟩ K hK;simp only at hk hol hO hval hlo hz⊢;by_cases hkl:k<p.length
 ·have hx:=hP.get k;obtain⟨a1,a2,y,a3,a4⟩:=xI (d:=p.getD k 0) hs hx;have hz1:=hz (k+1) om;refine A2 ⟨?_⟩;intros;rw [Rt (p.getD k 0) s om a1];refine A2 ⟨?_⟩;intros;refine Wo (qL rfl rfl (Qv (os.getD k 0) y s rfl (by rw [←a3,pZ];rfl) hlo om)) ?_;refine A2 ⟨?_⟩;intros;refine k9 (2^s*y+os.getD k 0) rfl rfl rfl (bz.here _) om ?_;refine A2 ⟨?_⟩;intros;refine k9 (p.getD k 0*2^s/4294967296) rfl rfl om (bz.here _) (by simp;omega) ?_;refine A2 ⟨?_⟩;intros;refine hK _ _ (k+1,(os.set k (2^s*y+os.getD k 0)).set (k+1) (p.getD k 0*2^s/4294967296)) ⟨by simp only;omega,by simpa using hol,(hO.set _ om).set _ om,?_,?_,?_⟩ (by simp only;omega) lfA rfl
  ·simp only;have e1:=jS os k (2^s*y+os.getD k 0) om;have e2:=jS (os.set k (2^s*y+os.getD k 0)) (k+1) (p.getD k 0*2^s/4294967296) (by simp;omega);rw [dC _ _ _ _ om,hz1,jG,cA]at e2;rw [e2,bN,aJ,←hval,aM (4294967296^k)];have e3:=fx (p.getD k 0*2^s) 4294967296
   have e4:4294967296^k*(p.getD k 0*2^s)=4294967296^(k+1)*(p.getD k 0*2^s/4294967296)+4294967296^k*(2^s*y):=by
    conv=>lhs;rw [←e3]
    rw [aP,a3,bU,aM]
   rw [e4];rw [aP]at e1;omega
  ·simp only
   rw [show((os.set k (2^s*y+os.getD k 0)).set (k+1) (p.getD k 0*2^s/4294967296)).getD (k+1) 0=p.getD k 0*2^s/4294967296 from by
    have:k+1<os.length:=by omega
    simp [List.getD,this]]
   exact a2
  ·intro j hj;simp only at hj⊢;rw [dC _ _ _ _ om,dC _ _ _ _ om];exact hz j om
 ·have hke:k=p.length:=by omega
  subst hke;rw [aX]at hval;refine A2 ⟨?_⟩;intros;refine S1 (ds:=os) 60 rfl (aq.here _) hol om om ?_;refine Wc (JB os _ om) ?_;rw [qU hO,hval];exact Z1
theorem N8 (xs:List Nat) (s:Nat) (hla:xs.length≤100000000) (hA:D xs) (hs:s<32):Pu Tryz.prog 286 [dg xs,lit (.int .u64 s)] (nat (val xs*2^s)):=by
 by_cases h0:val xs=0
 ·obtain⟨p,t1,h1,hP,hva,hpd⟩:=qg xs hla om hA;have hp:p=[]:=by rw [hpd,h0,cI]
  subst hp;rw [h0];refine Pi Tryz.func286 fun C=>?_
  refine A2 ⟨?_⟩;intros;refine Wc t1 ?_;refine A2 ⟨?_⟩;intros;refine db (bO (RV.tmp rfl) ?_);simp only [bS];rw [show nat 0=dg []from by show dg (dgs 0)=_;rw [cI]];exact gC
 ·exact(Ge xs s hla hA hs h0).le (FG _ _)
theorem zT {V p q r s:Nat}(k:Nat) (hs:s<32) (h:V/4294967296^k=p+4294967296*(q+4294967296*r)):V/2^s/4294967296^k%4294967296=(p+q*4294967296)/2^s%4294967296:=by
 obtain⟨w1,w2,w3⟩:=A7 hs;rw [Nat.div_div_eq_div_mul,aI,←Nat.div_div_eq_div_mul,h]
 have e:p+4294967296*(q+4294967296*r)=(p+q*4294967296)+2^s*(4294967296*(2^(32-s)*r)):=by
  rw [←aM (2^s),aI (2^s),aM,←aM (2^s),w3,aP,aI q];omega
 rw [e,sV _ _ w2,Nat.add_mul_mod_self_left]
theorem w8 (ds:List Nat) (hD:D ds) (k:Nat) (hk:k≤ds.length):val ds/4294967296^k=val (ds.drop k):=by
 rw [lN ds k hk,sV _ _ (cZ om),ft,aD];have h:=eO (hD.take k);rw [aA,dH hk]at h;exact h
theorem yN (ds:List Nat) (k:Nat) (hk:k<ds.length):val (ds.drop k)=ds.getD k 0+4294967296*(ds.getD (k+1) 0+4294967296*val (ds.drop (k+2))):=by
 rw [fX ds k hk,i4];by_cases h:k+1<ds.length
 ·rw [fX ds (k+1) h,i4]
 ·rw [fR om,fR om,show ds.getD (k+1) 0=0 from by simp [List.getD,cM (show ds.length≤k+1 by omega)]];simp [val]
theorem N7 (xs:List Nat) (s:Nat) (hla:xs.length≤100000000) (hA:D xs) (hs:s<32):Pu Tryz.prog 287 [dg xs,lit (.int .u64 s)] (nat (val xs/2^s)):=by
 obtain⟨p,t1,h1,hP,hva,hpd⟩:=qg xs hla om hA;rw [←hva];obtain⟨w1,w2,w3⟩:=A7 hs;refine Pi Tryz.func287 fun C=>?_
 refine A2 ⟨?_⟩;intros;refine Wc t1 ?_;by_cases h0:p=[]
 ·subst h0;refine A2 ⟨?_⟩;intros;refine db (bO (RV.tmp rfl) ?_);simp only [val,Nat.zero_div];rw [show nat 0=dg []from by show dg (dgs 0)=_;rw [cI]];exact gC
 ·have hpos:=ez.2 h0;refine A2 ⟨?_⟩;intros;refine v8 p.length rfl rfl om om fun bb=>?_
  refine A2 ⟨?_⟩;intros
  refine WP.loop (ι:=Nat×List Nat) (fun st=>st.1≤p.length∧st.2.length=p.length∧D st.2∧val (st.2.take st.1)=val p/2^s%4294967296^st.1) (fun st=>p.length-st.1)
   (fun st=>fm [(0,dg p),(5,lit (.int .i64 0)),(6,lit (.int .u64 s)),(7,lit (.slice (some ⟨bb,0,none⟩) p.length p.length)),(29,lit (.int .i64 p.length)),(30,lit (.int .i64 st.1))])
   (fun st=>[(bb,252,bI st.2)]) (0,List.replicate p.length 0) ⟨ak _,by simp,D.rep _,by simp [val,oX]⟩ lfA rfl ?_
  rintro ⟨k,os⟩ ⟨hk,hol,hO,hval⟩ K hK;simp only at hk hol hO hval⊢;by_cases hkl:k<p.length
  ·have hx:=hP.get k;have hx1:=hP.get (k+1);refine A2 ⟨?_⟩;intros;refine WP.via (fun F H=>LeF F (fm [(0,dg p),(5,lit (.int .i64 0)),(6,lit (.int .u64 s)),(7,lit (.slice (some ⟨bb,0,none⟩) p.length p.length)),(8,lit (.int .i64 k)),(9,lit (.int .u64 (p.getD k 0+p.getD (k+1) 0*4294967296:Nat))),(29,lit (.int .i64 p.length)),(30,lit (.int .i64 k))])∧H=[(bb,252,bI os)]) ?_ ?_
   ·refine WPd (fun h=>?_) (fun h=>?_)
    ·refine A2 ⟨?_⟩;intros;refine Wo (qL rfl rfl (KW (p.getD (k+1) 0) (p.getD k 0) rfl rfl hx1 hx)) ?_;refine A2 ⟨?_⟩;intros;exact⟨lfA,rfl⟩
    ·have h0:p.getD (k+1) 0=0:=by simp [List.getD,cM (show p.length≤k+1 by omega)]
     refine A2 ⟨?_⟩;intros;exact⟨lfA,rfl⟩
   ·rintro F H ⟨hF,rfl⟩;refine WP.le hF ?_;refine A2 ⟨?_⟩;intros;rw [Rn _ s om];refine k9 ((p.getD k 0+p.getD (k+1) 0*4294967296)/2^s%4294967296) rfl rfl (by rw [pZ];rfl) (bz.here _) om ?_;refine A2 ⟨?_⟩;intros;refine hK _ _ (k+1,os.set k ((p.getD k 0+p.getD (k+1) 0*4294967296)/2^s%4294967296)) ⟨by simp only;omega,by simpa using hol,hO.set _ om,?_⟩ (by simp only;omega) lfA rfl;simp only;rw [i3 _ _ _ om,hval,Nat.mod_pow_succ,zT k hs ((w8 p hP k hk).trans (yN p k hkl))]
  ·have hke:k=p.length:=by omega
   subst hke;rw [dP (kJ (dw _ _) (eO hP)),da om]at hval;refine A2 ⟨?_⟩;intros;refine lm (ds:=os) 66 rfl (aq.here _) hol om om ?_;refine Wc (gu os om hO) ?_;rw [hval];exact Z1
theorem RB {a b:Int}(h:Nat) (ha:a=0) (hb:b=(h:Int)) (hh:h<4294967296):IntKind.u32.wrap ((BitVec.ofInt (IntKind.bits .u32) a ||| BitVec.ofInt (IntKind.bits .u32) b).toNat:Int)=(h:Int):=by
 have:=Qv (a:=a) (b:=b) 0 h 0 ha (by rw [hb,jK,aY]) (by simp) (by rw [jK,aY];exact hh);rw [this,jK,aY,cA]
theorem Ie (k:Nat):2^k=4294967296^(k/32)*2^(k%32):=by
 conv=>lhs;rw [←fx k 32]
 rw [cF,nO]
theorem xO (a k:Nat) (hla:(dgs a).length+k/32≤100000000):Pu Tryz.prog 230 [nat a,lit (.int .i64 k)] (nat (a*2^k)):=by
 have hs:k%32<32:=by omega
 have hP:=cE a
 suffices h:Pu Tryz.prog 230 [dg (dgs a),lit (.int .i64 k)] (nat (val (dgs a)*(4294967296^(k/32)*2^(k%32)))) by
  rw [aK]at h;rw [Ie k];exact h
 obtain⟨w1,w2,w3⟩:=A7 hs;generalize dgs a=p at *;refine Pi Tryz.func230 fun C=>?_
 refine A2 ⟨?_⟩;intros;refine v8 (k/32+p.length+1) rfl rfl om om fun bb=>?_
 refine A2 ⟨?_⟩;intros
 refine WP.loop (ι:=Nat×List Nat) (fun st=>st.1≤p.length∧st.2.length=k/32+p.length+1∧D st.2∧val st.2=4294967296^(k/32)*(val (p.take st.1)*2^(k%32))∧st.2.getD (k/32+st.1) 0<2^(k%32)∧∀j,k/32+st.1<j→st.2.getD j 0=0) (fun st=>p.length-st.1)
  (fun st=>fm [(1,lit (.int .i64 k)),(6,lit (.int .u64 ((k%32:Nat):Int))),(5,lit (.slice (some ⟨bb,0,none⟩) (k/32+p.length+1) (k/32+p.length+1))),(20,dg p),(21,lit (.int .i64 p.length)),(22,lit (.int .i64 st.1))])
  (fun st=>[(bb,252,bI st.2)]) (0,List.replicate (k/32+p.length+1) 0) ⟨ak _,by simp,D.rep _,by simp [val,tP],by simp [List.getD,nM];split <;> simp [w2],fun j _=>by simp [List.getD,nM];split <;> simp⟩ lfA rfl ?_
 rintro ⟨i,os⟩ ⟨hi,hol,hO,hval,hlo,hz⟩ K hK;simp only at hi hol hO hval hlo hz⊢;by_cases hil:i<p.length
 ·have hx:=hP.get i;obtain⟨a1,a2,y,a3,a4⟩:=xI (d:=p.getD i 0) hs hx;have hz1:=hz (k/32+i+1) om;have hlo':Hid (os.getD (k/32+i) 0<2^(k%32)):=hlo;have hvh:Hid (val os=4294967296^(k/32)*(val (p.take i)*2^(k%32))):=hval;clear hval hlo;refine A2 ⟨?_⟩;intros;rw [Rt (p.getD i 0) (k%32) om a1];refine A2 ⟨?_⟩;intros;refine Wo (qL rfl rfl (Qv (os.getD (k/32+i) 0) y (k%32) rfl (by rw [←a3,pZ];rfl) hlo'.out (by have:=hlo'.out;omega))) ?_;refine A2 ⟨?_⟩;intros;refine k9 (2^(k%32)*y+os.getD (k/32+i) 0) rfl rfl rfl (bz.here _) om ?_;have hl1:(os.set (k/32+i) (2^(k%32)*y+os.getD (k/32+i) 0)).length=k/32+p.length+1:=by simpa using hol
  refine A2 ⟨?_⟩;intros;rw [dC _ _ _ _ om,hz1];refine Wo (qL rfl rfl (RB (p.getD i 0*2^(k%32)/4294967296) rfl rfl om)) ?_;refine A2 ⟨?_⟩;intros;refine k9 (p.getD i 0*2^(k%32)/4294967296) rfl rfl rfl (bz.here _) om ?_;refine A2 ⟨?_⟩;intros;have hlo:=hlo'.out;refine hK _ _ (i+1,(os.set (k/32+i) (2^(k%32)*y+os.getD (k/32+i) 0)).set (k/32+i+1) (p.getD i 0*2^(k%32)/4294967296)) ⟨by simp only;omega,by simpa using hol,(hO.set _ om).set _ om,?_,?_,?_⟩ (by simp only;omega) lfA rfl
  ·simp only;have e1:=jS os (k/32+i) (2^(k%32)*y+os.getD (k/32+i) 0) om;have e2:=jS (os.set (k/32+i) (2^(k%32)*y+os.getD (k/32+i) 0)) (k/32+i+1) (p.getD i 0*2^(k%32)/4294967296) (by simp;omega);rw [dC _ _ _ _ om,hz1,jG,cA]at e2;rw [e2,bN,aJ,aP,←hvh.out,←aM,←aM,←cF,aM (4294967296^(k/32+i))];have e3:=fx (p.getD i 0*2^(k%32)) 4294967296
   have e4:4294967296^(k/32+i)*(p.getD i 0*2^(k%32))=4294967296^(k/32+i+1)*(p.getD i 0*2^(k%32)/4294967296)+4294967296^(k/32+i)*(2^(k%32)*y):=by
    conv=>lhs;rw [←e3]
    rw [aP,a3,bU,aM]
   rw [e4];rw [aP]at e1;omega
  ·simp only
   rw [show((os.set (k/32+i) (2^(k%32)*y+os.getD (k/32+i) 0)).set (k/32+i+1) (p.getD i 0*2^(k%32)/4294967296)).getD (k/32+(i+1)) 0=p.getD i 0*2^(k%32)/4294967296 from by
    have:k/32+i+1<os.length:=by omega
    rw [←jQ];simp [List.getD,this]]
   exact a2
  ·intro j hj;simp only at hj⊢;rw [dC _ _ _ _ om,dC _ _ _ _ om];exact hz j om
 ·have hie:i=p.length:=by omega
  subst hie;rw [aX]at hval;have hvh:Hid (val os=4294967296^(k/32)*(val p*2^(k%32))):=hval;clear hval hlo;refine A2 ⟨?_⟩;intros;refine lm (ds:=os) 56 rfl (aq.here _) hol om om ?_;refine Wc (gI os om hO) ?_;rw [hvh.out,pY];exact Z1
theorem I6 (a s:Nat) (hla:(dgs a).length≤100000000) (hs:s<32):Pu Tryz.prog 231 [nat a,lit (.int .i64 s)] (nat (a/2^s)):=by
 have hP:=cE a;suffices h:Pu Tryz.prog 231 [dg (dgs a),lit (.int .i64 s)] (nat (val (dgs a)/2^s)) by rw [aK]at h;exact h
 obtain⟨w1,w2,w3⟩:=A7 hs;generalize dgs a=p at *;have hq0:s/32=0:=by omega
 have hr0:s%32=s:=by omega
 by_cases h0:p=[]
 ·subst h0;refine Pi Tryz.func231 fun C=>?_
  refine A2 ⟨?_⟩;intros;refine db (bO (RV.tmp rfl) ?_);simp only [val,Nat.zero_div];rw [show nat 0=dg []from by show dg (dgs 0)=_;rw [cI]];exact gC
 ·have hpos:=ez.2 h0;refine Pi Tryz.func231 fun C=>?_
  refine A2 ⟨?_⟩;intros;rw [hr0];refine Wo (Ad (i:=0) (j:=p.length) (ds':=p) rfl (fun y h=>⟨_,_,by cases h;exact rfl,om⟩) (fun h=>by cases h) (fun y h=>by cases h) (fun _=>rfl) om om (by simp)) ?_;refine A2 ⟨?_⟩;intros;refine v8 p.length rfl rfl om om fun bb=>?_
  refine A2 ⟨?_⟩;intros
  refine WP.loop (ι:=Nat×List Nat) (fun st=>st.1≤p.length∧st.2.length=p.length∧D st.2∧Hid (val (st.2.take st.1)=val p/2^s%4294967296^st.1)) (fun st=>p.length-st.1)
   (fun st=>fm [(5,lit (.int .u64 s)),(6,dg p),(7,lit (.slice (some ⟨bb,0,none⟩) p.length p.length)),(26,dg p),(27,lit (.int .i64 p.length)),(28,lit (.int .i64 st.1))])
   (fun st=>[(bb,252,bI st.2)]) (0,List.replicate p.length 0) ⟨ak _,by simp,D.rep _,by simp [val,oX,Hid]⟩ lfA rfl ?_
  rintro ⟨k,os⟩ ⟨hk,hol,hO,hval⟩ K hK;simp only at hk hol hO hval⊢;by_cases hkl:k<p.length
  ·have hx:=hP.get k;have hx1:=hP.get (k+1);refine A2 ⟨?_⟩;intros;refine WP.via (fun F H=>LeF F (fm [(5,lit (.int .u64 s)),(6,dg p),(7,lit (.slice (some ⟨bb,0,none⟩) p.length p.length)),(8,lit (.int .i64 k)),(10,lit (.int .u64 (p.getD k 0+p.getD (k+1) 0*4294967296:Nat))),(26,dg p),(27,lit (.int .i64 p.length)),(28,lit (.int .i64 k))])∧H=[(bb,252,bI os)]) ?_ ?_
   ·refine WPd (fun h=>?_) (fun h=>?_)
    ·refine A2 ⟨?_⟩;intros;refine Wo (qL rfl rfl (KW (p.getD (k+1) 0) (p.getD k 0) rfl rfl hx1 hx)) ?_;refine A2 ⟨?_⟩;intros;exact⟨lfA,rfl⟩
    ·have h0:p.getD (k+1) 0=0:=by simp [List.getD,cM (show p.length≤k+1 by omega)]
     refine A2 ⟨?_⟩;intros;exact⟨lfA,rfl⟩
   ·rintro F H ⟨hF,rfl⟩;refine WP.le hF ?_;refine A2 ⟨?_⟩;intros;rw [Rn _ s om];refine k9 ((p.getD k 0+p.getD (k+1) 0*4294967296)/2^s%4294967296) rfl rfl (by rw [pZ];rfl) (bz.here _) om ?_;refine A2 ⟨?_⟩;intros;refine hK _ _ (k+1,os.set k ((p.getD k 0+p.getD (k+1) 0*4294967296)/2^s%4294967296)) ⟨by simp only;omega,by simpa using hol,hO.set _ om,?_⟩ (by simp only;omega) lfA rfl;simp only [Hid];rw [i3 _ _ _ om,hval.out,Nat.mod_pow_succ,zT k hs ((w8 p hP k hk).trans (yN p k hkl))]
  ·have hke:k=p.length:=by omega
   subst hke;have hval:=hval.out;rw [dP (kJ (dw _ _) (eO hP)),da om]at hval;have hval:Hid _:=hval;refine A2 ⟨?_⟩;intros;refine lm (ds:=os) 57 rfl (aq.here _) hol om om ?_;refine Wc (gI os om hO) ?_;rw [hval.out];exact Z1
section
variable {B top sec third first rest g V W P vl wl:Nat}
theorem Ft (hV:V=(top*B+sec)*P+vl) (hW:W=(first*B+third)*P+wl) (hw:wl<P) (hg:g*top+rest=first) (h:rest*B+third<g*sec):W<g*V:=by
 have h1:first*B+third+1≤g*(top*B+sec):=by
  rw [←hg,aP,aJ,←aM];omega
 have h2:=aT P h1;rw [hW,hV,aP,←aM];rw [aJ,aY]at h2;omega
theorem DK (hV:V=(top*B+sec)*P+vl) (hW:W=(first*B+third)*P+wl) (hw:wl<P) (ht:third<B) (hg:first<(g+1)*top):W<(g+1)*V:=by
 have h1:(first+1)*B≤(g+1)*top*B:=aT B hg
 have h2:first*B+third+1≤(g+1)*(top*B+sec):=by
  rw [aP,←aM];rw [aJ,aY]at h1;omega
 have h3:=aT P h2;rw [hW,hV,aP (g+1),←aM];rw [aJ,aY]at h3;omega
theorem Fu (hV:V=(top*B+sec)*P+vl) (hW:W=(first*B+third)*P+wl) (hv:vl<P) (hg:g*top+rest=first) (h:g*sec≤rest*B+third) (hB:g<B) (ht:1≤top):g*V≤W+V:=by
 have h1:g*(top*B+sec)≤first*B+third:=by
  rw [←hg,aP,aJ,←aM];omega
 have h2:=aT P h1;have h3:g*vl≤B*P:=dk om om;have h4:B*P≤(top*B+sec)*P:=aT P (by have:=aT B ht;omega);rw [aM]at h2;rw [hW,hV,aP];omega
theorem DJ (hV:V=(top*B+sec)*P+vl) (hW:W=(first*B+third)*P+wl) (hv:vl<P) (hs:sec<B) (hWV:W<B*V) (hg:g*top≤first) (ht:B≤2*top) (h0:0<B):g≤B+1∧first<B*top+B:=by
 have h1:V<(top+1)*B*P:=by
  have:=aT P (show top*B+sec+1≤(top+1)*B by rw [aJ,aY];omega);rw [aJ _ 1,aY]at this;omega
 have h2:first*B*P≤W:=by rw [hW,aJ];omega
 have h3:first*B*P<B*((top+1)*B*P):=kJ h2 (Nat.lt_trans hWV (Nat.mul_lt_mul_of_pos_left h1 h0))
 have h4:first*(B*P)<B*(top+1)*(B*P):=by simpa only [aM] using h3
 have h5:=xl h4;rw [aP,cw]at h5;refine⟨?_,h5⟩;rcases aN (B+1) g with h|h
 ·exfalso;have h6:=aT top h;simp only [Nat.succ_eq_add_one,aJ,aY]at h6;omega
 ·exact h
end
theorem EX {vo vs va c w d u t:Nat}{p B1 g:Nat}(h:vs+p*(g*va)=vo+p*(B1*(c+w))) (ht:t=c+g*d){x' w':Nat}(hx:x'+t%4294967296+w=u+4294967296*w'){vs':Nat}(hs:vs'+p*B1*u=vs+p*B1*x') :
  vs'+p*(g*(va+B1*d))=vo+p*(B1*4294967296*(t/4294967296+w')):=by
 have e:=fx t 4294967296;have e1:=congrArg (fun z=>p*B1*z) e;have e2:=congrArg (fun z=>p*B1*z) hx;rw [ht]at e1;simp only [aP,←aM]at h e1 e2 hs⊢;rw [←ht]at e1;rw [show p*g*B1*d=p*B1*g*d from by rw [iV p g B1]];omega
theorem F6 {vo vs va c d u t:Nat}{p B1:Nat}(h:vs+p*(B1*c)=vo+p*va) (ht:t=c+(u+d)){vs':Nat}(hs:vs'+p*B1*u=vs+p*B1*(t%4294967296)) :
  vs'+p*(B1*4294967296*(t/4294967296))=vo+p*(va+B1*d):=by
 have e:=fx t 4294967296;have e1:=congrArg (fun z=>p*B1*z) e;rw [ht]at e1;simp only [aP,←aM]at h e1 hs⊢;rw [←ht]at e1;omega
theorem oK {us:List Nat}{n:Nat}(h:val us<4294967296^n) (hn:n≤us.length):val us=val (us.take n)∧∀j,n≤j→us.getD j 0=0:=by
 have hs:=lN us n hn
 have h0:val (us.drop n)=0:=by
  rcases Nat.eq_zero_or_pos (val (us.drop n))with h1|h1
  ·exact h1
  ·have:=eM (4294967296^n) h1;rw [cw]at this;omega
 refine⟨by rw [hs,h0,jG,cA],fun j hj=>?_⟩
 have hz:∀l:List Nat,val l=0→∀i,l.getD i 0=0:=by
  intro l;induction l with
  |nil=>intro _ i;simp
  |cons d l ih =>
   intro hv i;rw [i4]at hv;cases i with
   |zero=>simpa using (show d=0 by omega)
   |succ i=>simpa using ih om i
 have:=hz (us.drop n) h0 (j-n);rw [List.getD,eD,show n+(j-n)=j from by omega]at this;exact this
theorem v9 {us:List Nat}{j:Nat}(hD:D us) (hj:j≤us.length):val us/4294967296^j=val (us.drop j):=by
 rw [lN us j hj,sV _ _ (cZ om),ft,aD];have h:=eO (hD.take j);rw [aA,dH hj]at h;exact h
theorem EC {us us':List Nat}{j g V W:Nat}(hD:D us) (hD':D us') (hj:j≤us.length) (hj':j≤us'.length) (hW:val (us.drop j)=W) (h:val us'+4294967296^j*(g*V)=val us) (hg:W<(g+1)*V) :
  val (us'.drop j)<V:=by
 rw [←v9 hD' hj',kG (cZ om)];have hs:=lN us j hj;have hl:=eO (hD.take j);rw [aA,dH hj]at hl;rw [hW]at hs;have h2:4294967296^j*(W+1)≤4294967296^j*((g+1)*V):=eM _ hg;rw [aJ,aY,aP,aP]at h2;rw [aI V];omega
theorem HM {us:List Nat}{j n:Nat}(hD:D us) (hn:2≤n) (hl:j+n<us.length) (hz:val (us.drop (j+1))<4294967296^n) :
  ∃wl,wl<4294967296^(n-2)∧val (us.drop j)=((us.getD (j+n) 0*4294967296+us.getD (j+n-1) 0)*4294967296+us.getD (j+n-2) 0)*4294967296^(n-2)+wl:=by
 have hD':=hD.drop j;have hlen:(us.drop j).length=us.length-j:=cP
 have hlt:val (us.drop j)<4294967296^(n+1):=by
  rw [fX us j om,i4,bU,aI];have:=hD.get j;have:=aT 4294967296 hz;omega
 have e:=(oK hlt om).1;have g0:∀i,(us.drop j).getD i 0=us.getD (j+i) 0:=fun i=>by rw [List.getD,eD];rfl
 have hw:=eO (hD'.take (n-2));rw [aA,dH om]at hw;refine⟨_,hw,?_⟩;obtain⟨k,rfl⟩:∃k,n=k+2:=⟨n-2,om⟩
 rw [e,bN,bN,bN,g0,g0,g0];rw [show j+(k+2)-1=j+(k+1)from by omega,show j+(k+2)-2=j+k from by omega,show k+2-2=k from by omega];simp only [bU,aJ];rw [aI (4294967296^k) (us.getD (j+k) 0),aI (4294967296^k*4294967296) _,aI (4294967296^k*4294967296*4294967296) _,aI (4294967296^k) 4294967296];simp only [aM];rw [aI (4294967296^k) 4294967296];omega
theorem Ll {v:List Nat}{n:Nat}(hD:D v) (hn:2≤n) (hl:v.length=n):∃vl,vl<4294967296^(n-2)∧val v=(v.getD (n-1) 0*4294967296+v.getD (n-2) 0)*4294967296^(n-2)+vl:=by
 have hw:=eO (hD.take (n-2));rw [aA,dH om]at hw;refine⟨_,hw,?_⟩;obtain⟨k,rfl⟩:∃k,n=k+2:=⟨n-2,om⟩
 conv=>lhs;rw [←da (oY hl)]
 rw [bN,bN,show k+2-1=k+1 from rfl,show k+2-2=k from by omega];simp only [bU,aJ];rw [aI (4294967296^k) (v.getD k 0),aI (4294967296^k*4294967296) _,aI (4294967296^k) 4294967296];simp only [aM];omega
theorem ya {y k s:Nat}(hk:(dgs y).length=k+1) (hs:s+f4 ((dgs y).getD k 0)=32):s<32∧(dgs (y*2^s)).length=k+1∧2147483648≤(dgs (y*2^s)).getD k 0∧4294967296^k≤y:=by
 have hy0:y≠0:=fun e=>by rw [e,cI]at hk;simp at hk
 obtain⟨k',h1,h2,h3,h4,h5⟩:=BU hy0;obtain rfl:k'=k:=by omega
 generalize(dgs y).getD k' 0=t at *;generalize val ((dgs y).take k')=low at *
 have hb:1≤f4 t:=by
  have:=(qJ (n:=t) (k:=0)).2 (by simp;omega);omega
 have q1:2^(f4 t-1)≤t:=qJ.1 om;have q2:t<2^f4 t:=j4.1 (ar _);have p1:2^(f4 t-1)*2^s=2147483648:=by rw [←cF,show f4 t-1+s=31 from by omega]
 have p2:2^f4 t*2^s=4294967296:=by rw [←cF,show f4 t+s=32 from by omega]
 have pp:0<4294967296^k':=cZ om;have hs0:0<2^s:=cZ om
 have lo:2147483648*4294967296^k'≤y*2^s:=by
  have e1:=aT (4294967296^k') (aT (2^s) q1);rw [p1]at e1;refine aO e1 ?_;rw [iV];refine aT _ ?_;rw [h5,aI t];omega
 have hi:y*2^s<4294967296^(k'+1):=by
  have e0:y<(t+1)*4294967296^k':=by rw [h5,aJ,aI t];omega
  have e1:=kF e0 hs0;refine cR e1 ?_;have e2:=aT (4294967296^k') (aT (2^s) (show t+1≤2^f4 t by omega));rw [p2]at e2;rw [iV,bU,aI (4294967296^k') 4294967296];exact e2
 have hlen:(dgs (y*2^s)).length=k'+1:=by
  have a1:=dU hi;rcases aN k' (dgs (y*2^s)).length with h|h
  ·omega
  ·have:=BD h;omega
 refine⟨om,hlen,?_,?_⟩
 ·have hd:=v9 (j:=k') (cE (y*2^s)) om;rw [aK,fX _ k' om,fR om]at hd;simp only [val,jG,cA]at hd;rw [←hd,Nat.le_div_iff_mul_le pp];exact lo
 ·rw [h5];have:=eM (4294967296^k') (Nat.one_le_iff_ne_zero.2 h2);omega
theorem zI:∀l:List Nat,(∀i,l.getD i 0=0)→val l=0
 | [],_=>rfl
 |d::l,h=>by
  have h0:d=0:=by simpa using h 0
  have h1:=zI l fun i=>by simpa using h (i+1)
  rw [i4,h0,h1]
theorem zJ {us:List Nat}{k:Nat}(hD:D us) (hk:k≤us.length) (h:∀p,k≤p→us.getD p 0=0):val us<4294967296^k:=by
 have h0:val (us.drop k)=0:=zI _ fun i=>by
  have:=h (k+i) om;rwa [List.getD,eD]
 have h1:=eO (hD.take k);rw [aA,dH hk]at h1;rw [lN us k hk,h0];simpa using h1
theorem J0 {vu v2 v3 p q c w u x gv:Nat}(h2:v2+p*gv=vu+p*(q*(c+w))) (h3:v3+p*q*u=v2+p*q*x) (hx:x+c+w=u):v3+p*gv=vu:=by
 have e:=congrArg (fun z=>p*q*z) hx;simp only [aP,←aM]at e h2 h3;omega
theorem LS {vu v2 v3 p q c w u x gv:Nat}(h2:v2+p*gv=vu+p*(q*(c+w))) (h3:v3+p*q*u=v2+p*q*x) (hx:x+c+w=u+4294967296):v3+p*gv=vu+p*q*4294967296:=by
 have e:=congrArg (fun z=>p*q*z) hx;simp only [aP,←aM]at e h2 h3;omega
theorem Nz {vu v3 p q gv low W:Nat}(h:v3+p*gv=vu+p*q*4294967296) (hl:v3<p*q*4294967296) (hu:vu=low+p*W):W<gv:=by
 have:p*W<p*gv:=by omega
 exact Nat.lt_of_mul_lt_mul_left this
theorem LT {vu v3 v4 v5 p q c t gv V low W:Nat}(h3:v3+p*gv=vu+p*q*4294967296) (h4:v4+p*(q*c)=v3+p*V) (h5:v5+p*q*t=v4+p*q*((t+c)%4294967296)) (hl:v5<p*q*4294967296)
  (hc:c≤1) (ht:t<4294967296) (hg:gv≤W+V) (hu:vu=low+p*W):v5+p*gv=vu+p*V:=by
 have e:=eM p hg;rcases aN (t+c) 4294967296 with hlt|hge
 ·exfalso;rw [dP hlt]at h5;simp only [aP,←aM]at e h3 h4 h5 hl;omega
 ·have hm:(t+c)%4294967296+4294967296=t+c:=by omega
  have e2:=congrArg (fun z=>p*q*z) hm;simp only [aP,←aM]at e2 h3 h4 h5;omega
theorem wd {vp vo d r x v q r':Nat}(h:vp=vo*d+r) (hv:v=r*4294967296+x) (hq:q=v/d) (hr:r'=v%d):x+4294967296*vp=(q+4294967296*vo)*d+r':=by
 subst hq;subst hr;subst h;have e:=fx v d;rw [aJ,aI (v/d) d,aP,←aM];omega
theorem oE (ds:List Nat) (j x:Nat) (h:j<ds.length):(ds.set j x).drop j=x::ds.drop (j+1):=by
 rw [fX _ j (by simpa using h),show(ds.set j x).getD j 0=x from by simp [List.getD,h]];congr 1
 rw [List.drop_set];simp
theorem zU (xs:List Nat) (d:Nat) (hla:xs.length≤100000000) (hP:D xs) (hd0:d≠0) (hd:d<4294967296):Pu Tryz.prog 267 [dg xs,lit (.int .u32 d)] (tup [nat (val xs/d),lit (.int .u32 (val xs%d:Nat))]):=by
 refine Pi Tryz.func267 fun C=>?_
 refine A2 ⟨?_⟩;intros;refine v8 xs.length rfl rfl om om fun bb=>?_
 refine A2 ⟨?_⟩;intros
 refine WP.loop (ι:=Nat×Nat×List Nat) (fun s=>s.1≤xs.length∧s.2.1<d∧s.2.2.length=xs.length∧D s.2.2∧val (xs.drop s.1)=val (s.2.2.drop s.1)*d+s.2.1) (fun s=>s.1)
  (fun s=>fm [(0,dg xs),(1,lit (.int .u32 d)),(6,lit (.slice (some ⟨bb,0,none⟩) xs.length xs.length)),(7,lit (.int .u64 s.2.1)),(8,lit (.int .i64 ((s.1:Int)-1)))])
  (fun s=>[(bb,252,bI s.2.2)]) (xs.length,0,List.replicate xs.length 0) ⟨ar _,by simp only;omega,by simp,D.rep _,by simp [val]⟩ lfA rfl ?_
 rintro ⟨k,r,os⟩ ⟨hk,hr,hol,hO,hval⟩ K hK;simp only at hk hr hol hO hval⊢;rcases k with _|j
 ·refine A2 ⟨?_⟩;intros;refine lm (ds:=os) 40 rfl (aq.here _) hol om om ?_;refine Wc (gu os om hO) ?_;simp only [bG]at hval
  have hq:val os=val xs/d:=by
   rw [hval,aI,pX om,ft hr,cA]
  have hm:r=val xs%d:=by
   rw [hval,aI,pW,dP hr]
  rw [hq];refine A2 ⟨?_⟩;intros;rw [hm];exact G2
 ·rw [show(((j+1:Nat):Int)-1)=(j:Int)from by omega];have hx:=hP.get j
  have hlt:(r*4294967296+xs.getD j 0)/d<4294967296:=by
   rw [kG om];have:(r+1)*4294967296≤d*4294967296:=aT _ hr;rw [aI 4294967296];omega
  have hrm:(r*4294967296+xs.getD j 0)%d<d:=cT _ om;refine A2 ⟨?_⟩;intros;refine Wo (qL rfl rfl (EV r (xs.getD j 0) rfl rfl om hx)) ?_;generalize hv:r*4294967296+xs.getD j 0=v at *;have hvb:v≤18446744073709551615:=by omega
  refine A2 ⟨?_⟩;intros;generalize hq:v/d=q at *;refine k9 q rfl rfl om (bz.here _) om ?_;refine A2 ⟨?_⟩;intros;refine hK _ _ (j,v%d,os.set j q) ⟨by simp only;omega,hrm,by simpa using hol,hO.set _ hlt,?_⟩ (by simp only;omega) lfA rfl;simp only;rw [fX xs j om,oE os j _ om,i4,i4];exact wd hval hv.symm hq.symm rfl
end Go.Ab
