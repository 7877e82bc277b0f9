/- Drawn regions as in XZip in which, besides, one new block floats that is never looked at again but by the row. -/
import Derived.Test.YtpeidlcjlfkpcaaGreatDoorB24
set_option linter.all false
namespace Go.Ab
open Go.Proofs
variable [Base]
section
variable {P:Program}{C:Ctx}{n:Nat}{F F' F0 Fe:Fr}{H:LH}{ops:Array Oper}{Q:Exit→Fr→LH→Prop}{rs:List Nat}{Hc:LH}{K:Fr→LH→Prop}{ia d0:Nat}{XK:SV→LH→Prop}
def QB (ops:Array Oper) (kk:Nat) (rs pi:List Nat) (ia d0:Nat):Bool :=
 ((List.range ops.size).all fun i=>lY ops i) &&
 ((List.range kk).all fun i=>(List.range i).all fun j=>(et ops j).isNone || !(et ops i==et ops j)) &&
 ((List.range kk).all fun i=>(List.range kk).all fun j=>match et ops j with
  |some d => !dJ ops i d||da ops i j||da ops j i||Nat.beq i j
  |none=>true) &&
 ((List.range kk).all fun i=>pi.contains i)&&(pi.all fun i=>Nat.blt i kk)&&JL ops rs [] pi &&
 ((List.range rs.length).all fun t=>Nat.blt (rs.getD t 0) kk&&(List.range t).all fun u=>da ops (rs.getD t 0) (rs.getD u 0) && !(Nat.beq (rs.getD u 0) (rs.getD t 0))) &&
 Nat.ble kk ops.size&&((List.range ops.size).all fun i=>Nat.blt i kk||(List.range i).all fun j=>da ops i j) &&
 Nat.blt ia kk&&(et ops ia==some d0) && !(rs.contains ia)&&((List.range kk).all fun i=>rs.contains i || !(dJ ops i d0))&&((List.range kk).all fun i => !(dJ ops i d0)||da ops i ia)
def XO (XK:SV→LH→Prop) (X:LH):Prop:=X=[]∨∃sv,XK sv X
inductive FlP (XK:SV→LH→Prop) (ops:Array Oper) (ia d0:Nat) (listed:Array Bool) (F:Fr):Bool→LH→Fr→Prop
 |no (h:listed.getD ia false=false):FlP XK ops ia d0 listed F false [] F
 |yes {sv:SV}{X:LH}(h:listed.getD ia false=true) (hx:XK sv X):FlP XK ops ia d0 listed F false X (upd F d0 sv)
 |abs (h:listed.getD ia false=true):FlP XK ops ia d0 listed F true [] F
inductive My (P:Program) (C:Ctx) (n:Nat) (ops:Array Oper) (rs:List Nat) (Hc:LH) (ia d0:Nat) (XK:SV→LH→Prop) (K:Fr→LH→Prop):Bool→Nat→List NO'→Fr→LH→Prop
 |nil0 {s:Nat}{F:Fr}{E:LH}(h:∀sv X,XK sv X→K (upd F d0 sv) (X++(E++Hc))):My P C n ops rs Hc ia d0 XK K false s [] F E
 |nil1 {s:Nat}{F:Fr}{E:LH}(h:K F (E++Hc)):My P C n ops rs Hc ia d0 XK K true s [] F E
 |free {ph:Bool}{s i d:Nat}{o:Oper}{sv:SV}{r:List NO'}{F:Fr}{E:LH}(hr:rs.contains i=false) (hne:i≠ia) (hd:o.dst=some d) (hdn:Nat.blt d n=true) (hds:DS P ops n Hc o F sv) (h:My P C n ops rs Hc ia d0 XK K ph s r (upd F d sv) E):My P C n ops rs Hc ia d0 XK K ph s ((i,o)::r) F E
 |flt {ph:Bool}{s:Nat}{o:Oper}{r:List NO'}{F:Fr}{E:LH}(hr:rs.contains ia=false) (ht:∀H,TZ P C n ops ia o F H (fun sv H'=>∃X,XK sv X∧H'=X++H)) (h:My P C n ops rs Hc ia d0 XK K ph s r F E):My P C n ops rs Hc ia d0 XK K ph s ((ia,o)::r) F E
 |row0 {s i:Nat}{o:Oper}{r:List NO'}{F:Fr}{E:LH}{Post:SV→LH→Prop}(hr:rs[s]? = some i) (hl:dJ ops i d0=false) (ht:∀X,XO XK X→TZ P C n ops i o F (X++(E++Hc)) (fun sv H'=>∃E',H'=X++(E'++Hc)∧Post sv E')) (h:∀sv E',Post sv E'→My P C n ops rs Hc ia d0 XK K false (s+1) r (ib o F sv) E'):My P C n ops rs Hc ia d0 XK K false s ((i,o)::r) F E
 |row1 {s i:Nat}{o:Oper}{r:List NO'}{F:Fr}{E:LH}{Post:SV→LH→Prop}(hr:rs[s]? = some i) (ht:TZ P C n ops i o F (E++Hc) (fun sv H'=>∃E',H'=E'++Hc∧Post sv E')) (h:∀sv E',Post sv E'→My P C n ops rs Hc ia d0 XK K true (s+1) r (ib o F sv) E'):My P C n ops rs Hc ia d0 XK K true s ((i,o)::r) F E
 |rowA {s i:Nat}{o:Oper}{r:List NO'}{F:Fr}{E:LH}{Post:SV→SV→LH→Prop}(hr:rs[s]? = some i) (he:da ops i ia=true) (ht:∀sv X,XK sv X→TZ P C n ops i o (upd F d0 sv) (X++(E++Hc)) (fun sv' H'=>∃E',H'=E'++Hc∧Post sv sv' E')) (h:∀sv X sv' E',XK sv X→Post sv sv' E'→My P C n ops rs Hc ia d0 XK K true (s+1) r (ib o (upd F d0 sv) sv') E'):My P C n ops rs Hc ia d0 XK K false s ((i,o)::r) F E
def Qw (P:Program) (C:Ctx) (n:Nat) (ops:Array Oper) (rs:List Nat) (Hc:LH) (ia d0:Nat) (XK:SV→LH→Prop) (K:Fr→LH→Prop) (ph:Bool) (s:Nat) (rest:List NO') (G:Fr) (E:LH):Prop :=
  (rest=[]∧(ph=false→∀sv X,XK sv X→K (upd G d0 sv) (X++(E++Hc)))∧(ph=true→K G (E++Hc)))∨∃i o r,rest=(i,o)::r∧rs[s]? = some i∧
    ((ph=false∧dJ ops i d0=false∧∃Post:SV→LH→Prop,(∀X,XO XK X→TZ P C n ops i o G (X++(E++Hc)) (fun sv H'=>∃E',H'=X++(E'++Hc)∧Post sv E'))∧∀sv E',Post sv E'→My P C n ops rs Hc ia d0 XK K false (s+1) r (ib o G sv) E')∨
     (ph=true∧∃Post:SV→LH→Prop,TZ P C n ops i o G (E++Hc) (fun sv H'=>∃E',H'=E'++Hc∧Post sv E')∧∀sv E',Post sv E'→My P C n ops rs Hc ia d0 XK K true (s+1) r (ib o G sv) E')∨
     (ph=false∧da ops i ia=true∧∃Post:SV→SV→LH→Prop,(∀sv X,XK sv X→TZ P C n ops i o (upd G d0 sv) (X++(E++Hc)) (fun sv' H'=>∃E',H'=E'++Hc∧Post sv sv' E'))∧∀sv X sv' E',XK sv X→Post sv sv' E'→My P C n ops rs Hc ia d0 XK K true (s+1) r (ib o (upd G d0 sv) sv') E'))
def ZVY (P:Program) (C:Ctx) (n:Nat) (ops:Array Oper) (Hc:LH) (ia d0:Nat) (XK:SV→LH→Prop) (F0 G:Fr) (l1:List NO') (i:Nat) (o:Oper):Prop :=
 ∃Fk,(∀t,t≠d0→Fk t=if er l1 t=true then G t else F0 t)∧((i=ia∧∀H,TZ P C n ops ia o Fk H (fun sv H'=>∃X,XK sv X∧H'=X++H))∨(∃d,i≠ia∧o.dst=some d∧Nat.blt d n=true∧DS P ops n Hc o Fk (G d)))
theorem My.walk {ph:Bool}{s:Nat}{L:List NO'}{E:LH}(h:My P C n ops rs Hc ia d0 XK K ph s L F E):Cn L→(∀o,(ia,o)∈L→o.dst=some d0)→∃pre rest G,L=pre++rest∧(∀x∈pre,rs.contains x.1=false)∧(∀l1 i o l2,pre=l1++(i,o)::l2→ZVY P C n ops Hc ia d0 XK F G l1 i o)∧
  (∀t,er pre t=false→G t=F t)∧Qw P C n ops rs Hc ia d0 XK K ph s rest G E:=by
 induction h with
 | @nil0 s F E h=>exact fun _ _=>⟨[],[],F,rfl,(fun x hx=>by cases hx),(fun l1 i o l2 he=>by cases l1 <;> cases he),fun _ _=>rfl, .inl ⟨rfl,fun _=>h,(fun e=>by cases e)⟩⟩
 | @nil1 s F E h=>exact fun _ _=>⟨[],[],F,rfl,(fun x hx=>by cases hx),(fun l1 i o l2 he=>by cases l1 <;> cases he),fun _ _=>rfl, .inl ⟨rfl,(fun e=>by cases e),fun _=>h⟩⟩
 | @row0 s i o r F E Post hr hl ht h _=>exact fun _ _=>⟨[],_,F,rfl,(fun x hx=>by cases hx),(fun l1 i o l2 he=>by cases l1 <;> cases he),fun _ _=>rfl, .inr ⟨i,o,r,rfl,hr, .inl ⟨rfl,hl,Post,ht,h⟩⟩⟩
 | @row1 s i o r F E Post hr ht h _=>exact fun _ _=>⟨[],_,F,rfl,(fun x hx=>by cases hx),(fun l1 i o l2 he=>by cases l1 <;> cases he),fun _ _=>rfl, .inr ⟨i,o,r,rfl,hr, .inr (.inl ⟨rfl,Post,ht,h⟩)⟩⟩
 | @rowA s i o r F E Post hr he ht h _=>exact fun _ _=>⟨[],_,F,rfl,(fun x hx=>by cases hx),(fun l1 i o l2 he=>by cases l1 <;> cases he),fun _ _=>rfl, .inr ⟨i,o,r,rfl,hr, .inr (.inr ⟨rfl,he,Post,ht,h⟩)⟩⟩
 | @free ph s i d o sv r F E hr hne hd hdn hds h ih =>
  intro h1 hd0;obtain⟨pre,rest,G,rfl,g1,g2,g3,g4⟩:=ih h1.tail fun o h=>hd0 o (Mc h)
  have hpre:er pre d=false:=by
   have:=(h1 [] (i,o) (pre++rest) d rfl hd).2;rw [eW,cg]at this;exact this.1
  have hGd:G d=sv:=by rw [g3 d hpre,bS]
  refine⟨(i,o)::pre,rest,G,rfl,fun x hx=>?_,fun l1 i' o' l2 he=>?_,fun t ht=>?_,g4⟩
  ·rcases ak.1 hx with rfl|hx
   ·exact hr
   ·exact g1 x hx
  ·cases l1 with
   |nil =>
    simp only [a8,dV,cP]at he;obtain⟨⟨rfl,rfl⟩,rfl⟩:=he;exact⟨F,fun t _=>by simp [er], .inr ⟨d,hne,hd,hdn,hGd▸hds⟩⟩
   |cons x l1 =>
    simp only [ab,dV]at he;obtain⟨rfl,rfl⟩:=he;obtain⟨Fk,k3,k4⟩:=g2 l1 i' o' l2 rfl;refine⟨Fk,fun t ht0=>?_,k4⟩;rw [k3 t ht0,eV];by_cases ht:t=d
    ·subst ht;rw [eW,cg]at hpre;rw [hpre.1];simp only [hd,nf,bs,aV,bE,aO,bS,hGd]
    ·have:(o.dst==some t)=false:=by rw [hd];simpa using fun e=>ht e.symm
     simp only [this,aW,bz ht]
  ·rw [eV,cg]at ht;rw [g3 t ht.2,bz fun e=>?_];rw [hd,e]at ht;simp at ht
 | @flt ph s o r F E hr ht h ih =>
  intro h1 hd0;obtain⟨pre,rest,G,rfl,g1,g2,g3,g4⟩:=ih h1.tail fun o h=>hd0 o (Mc h)
  have hod:=hd0 o Ms;refine⟨(ia,o)::pre,rest,G,rfl,fun x hx=>?_,fun l1 i' o' l2 he=>?_,fun t ht=>?_,g4⟩
  ·rcases ak.1 hx with rfl|hx
   ·exact hr
   ·exact g1 x hx
  ·cases l1 with
   |nil =>
    simp only [a8,dV,cP]at he;obtain⟨⟨rfl,rfl⟩,rfl⟩:=he;exact⟨F,fun t _=>by simp [er], .inl ⟨rfl,ht⟩⟩
   |cons x l1 =>
    simp only [ab,dV]at he;obtain⟨rfl,rfl⟩:=he;obtain⟨Fk,k3,k4⟩:=g2 l1 i' o' l2 rfl;refine⟨Fk,fun t ht0=>?_,k4⟩;rw [k3 t ht0,eV];have:(o.dst==some t)=false:=by rw [hod];simpa using fun e=>ht0 e.symm
    rw [this,aW]
  ·rw [eV,cg]at ht;exact g3 t ht.2
structure Qx (ops:Array Oper) (kk:Nat) (rs:List Nat) (ia d0:Nat) (PI:List NO'):Prop where
 back:∀i,i<ops.size→lY ops i=true
 look:∀i j d,i<kk→j<kk→et ops j=some d→dJ ops i d=true→da ops i j=true∨da ops j i=true∨i=j
 all:∀i o,i<kk→ops[i]? = some o→(i,o)∈PI
 ial:ia<kk
 iad:et ops ia=some d0
 iar:rs.contains ia=false
 nd:∀x∈PI,x.1≠ia→x.2.dst≠some d0
 fr:∀i,i<kk→rs.contains i=false→dJ ops i d0=false
 lk:∀i,i<kk→dJ ops i d0=true→da ops i ia=true
 get:∀x∈PI,ops[x.1]? = some x.2
 lt:∀x∈PI,x.1<kk
 hk:kk≤ops.size
 tail:∀i,i<ops.size→kk≤i→∀j,j<i→da ops i j=true
 top:∀l1 x l2,PI=l1++x::l2→(∀y∈l2,da ops x.1 y.1=false∧x.1≠y.1)∧(rs.contains x.1=false→∀y∈l1,rs.contains y.1=true→da ops x.1 y.1=true)
 row:∀(t k:Nat),rs[t]? = some k→k<kk∧∀(u:Nat) (k':Nat),u<t→rs[u]? = some k'→da ops k k'=true∧k'≠k
 dst1:Cn PI
theorem I3 {l:List Oper}{kk ia d0:Nat}{pi:List Nat}(h:QB l.toArray kk rs pi ia d0=true):Qx l.toArray kk rs ia d0 (pk l pi):=by
 simp only [QB,bG,fQ,dE]at h;obtain⟨⟨⟨⟨⟨⟨⟨⟨⟨⟨⟨⟨⟨h1,h2⟩,h3⟩,h4⟩,h5⟩,h6⟩,h7⟩,h8⟩,h9⟩,c1⟩,c2⟩,c3⟩,c4⟩,c5⟩:=h;have hia:=ay.mp c1;have hiad:et l.toArray ia=some d0:=by simpa using c2
 replace c3:rs.contains ia=false:=by simpa using c3
 have hkk:kk≤l.toArray.size:=gY h8;have hkl:kk≤l.length:=by simpa using hkk
 have hlt:∀i∈pi,i<l.length:=fun i hi=>cQ (ay.mp (h5 i hi)) hkl
 have hfst:=F7 hlt;have hget:∀x∈pk l pi,l.toArray[x.1]? = some x.2:=fun x hx=>by simpa using By hx
 have htop:∀l1 x l2,pk l pi=l1++x::l2→(∀y∈l2,da l.toArray x.1 y.1=false∧x.1≠y.1)∧(rs.contains x.1=false→∀y∈l1,rs.contains y.1=true→da l.toArray x.1 y.1=true):=fun l1 x l2 he=>by
  have:=AA he;rw [hfst]at this;obtain⟨g1,g2⟩:=vH h6 _ _ _ this;exact⟨fun y hy=>g1 y.1 (aj.2 ⟨y,hy,rfl⟩),fun hr y hy hyr=>g2 hr y.1 (fv.1 hyr) (.inl (aj.2 ⟨y,hy,rfl⟩))⟩
 have hltk:∀x∈pk l pi,x.1<kk:=fun x hx=>by
  have:x.1∈(pk l pi).map (·.1):=aj.2 ⟨x,hx,rfl⟩;rw [hfst]at this;exact ay.mp (h5 _ this)
 have hdis:∀i j d,i<kk→j<i→et l.toArray j=some d→et l.toArray i≠some d:=fun i j d hi hj hd he=>by
  have:=h2 i hi j hj;simp only [bO,fw]at this;rcases this with h|h
  ·rw [hd]at h;cases h
  ·rw [hd,he]at h;simp at h
 have hdne:∀x∈pk l pi,∀y∈pk l pi,x.1≠y.1→∀t,x.2.dst=some t→y.2.dst≠some t:=fun x hx y hy hne t hxt hyt=>by
  have gx:=hget x hx;have gy:=hget y hy;have sx:=hltk x hx;have sy:=hltk y hy;rcases nM hne with h|h
  ·exact hdis y.1 x.1 t sy h (by rw [dq gx,hxt]) (by rw [dq gy,hyt])
  ·exact hdis x.1 y.1 t sx h (by rw [dq gy,hyt]) (by rw [dq gx,hxt])
 have hnd:∀x∈pk l pi,x.1≠ia→x.2.dst≠some d0:=fun x hx hxa e=>by
  have gx:=hget x hx;have sx:=hltk x hx;rcases nM hxa with h|h
  ·exact hdis ia x.1 d0 hia h (by rw [dq gx,e]) hiad
  ·exact hdis x.1 ia d0 sx h hiad (by rw [dq gx,e])
 refine⟨fun i hi=>h1 i hi,fun i j d hi hj hd hl=>?_,fun i o hi ho=>?_,hia,hiad,c3,hnd,fun i hi hr=>?_,fun i hi hl=>?_,hget,hltk,hkk,fun i hi hk j hj=>?_,htop,fun t k hk=>?_,fun l1 x l2 t he hd=>?_⟩
 ·have:=h3 i hi j hj;rw [hd]at this;simp only [hl,kU,aW,bO]at this;rcases this with(h|h)|h
  ·exact .inl h
  ·exact .inr (.inl h)
  ·exact .inr (.inr (bA h))
 ·have hm:i∈pi:=fv.1 (h4 i hi);rw [←hfst]at hm;obtain⟨x,hx,rfl⟩:=aj.1 hm;have:=hget x hx;rw [ho]at this;obtain rfl:=bZ this;exact hx
 ·have:=c4 i hi;rw [hr,aW]at this;simpa using this
 ·have:=c5 i hi;rw [hl]at this;simpa using this
 ·have:=h9 i hi;simp only [bO,ay,fQ,dE]at this;rcases this with h|h
  ·omega
  ·exact h j hj
 ·have ht:=(bI.1 hk).1;have gk:rs.getD t 0=k:=by simp [List.getD,hk]
  obtain⟨g1,g2⟩:=h7 t ht;rw [gk]at g1 g2;refine⟨ay.mp g1,fun u k' hu hk'=>?_⟩;have gk':rs.getD u 0=k':=by simp [List.getD,hk']
  have:=g2 u hu;rw [gk']at this;simp only [fw]at this;exact⟨this.1,fun e=>by rw [e,cY]at this;cases this.2⟩
 ·have hmx:x∈pk l pi:=by rw [he];simp
  have hne1:∀y∈l1,y.1≠x.1:=fun y hy=>by
   obtain⟨a,b,hab⟩:=dA hy;exact((htop a y (b++x::l2) (by rw [he,hab];simp)).1 x (by simp)).2
  have hne2:∀y∈l2,y.1≠x.1:=fun y hy=>fun e=>((htop l1 x l2 he).1 y hy).2 e.symm
  constructor
  ·cases hb:er l1 t with
   |false=>rfl
   |true =>
    obtain⟨y,hy,hyt⟩:=eI.1 hb;exact absurd hyt (hdne x hmx y (by rw [he];simp [hy]) (hne1 y hy).symm t hd)
  ·cases hb:er l2 t with
   |false=>rfl
   |true =>
    obtain⟨y,hy,hyt⟩:=eI.1 hb;exact absurd hyt (hdne x hmx y (by rw [he];simp [hy]) (hne2 y hy).symm t hd)
structure Nk (P:Program) (C:Ctx) (n:Nat) (ops:Array Oper) (rs:List Nat) (Hc:LH) (ia d0:Nat) (XK:SV→LH→Prop) (K:Fr→LH→Prop) (PI:List NO') (F0:Fr) (ph:Bool) (s:Nat) (listed:Array Bool) (dn rest:List NO') (G:Fr) (E:LH):Prop where
 pi:PI=dn++rest
 v:∀l1 i o l2,dn=l1++(i,o)::l2→rs.contains i=false→ZVY P C n ops Hc ia d0 XK F0 G l1 i o
 out:∀t,t≠d0→er dn t=false→G t=F0 t
 fin:Qw P C n ops rs Hc ia d0 XK K ph s rest G E
 don:∀x∈dn,rs.contains x.1=true→listed.getD x.1 false=true
 lst:∀j,listed.getD j false=true→∃o,(j,o)∈dn
 size:listed.size=ops.size
 closed:jZ ops listed
 cnt:∀(u k:Nat),rs[u]? = some k→(listed.getD k false=true↔u<s)
theorem JN {listed:Array Bool}{G:Fr}{i d:Nat}{o:Oper}(hs:listed.size=ops.size) (ho:ops[i]? = some o) (hd:o.dst=some d):zF ops (listed.setIfInBounds i true) G F0=upd (zF ops listed G F0) d (G d):=by
 funext t
 unfold zF;rw [pC hs ho,hd];by_cases ht:t=d
 ·subst ht;rw [bS];simp
 ·rw [bz ht];have:(some d==some t)=false:=by simpa using fun e=>ht e.symm
  rw [this,aQ]
theorem I9 {d d0:Nat}{s s0:SV}(h:d≠d0):upd (upd F d s) d0 s0=upd (upd F d0 s0) d s:=by
 funext t
 by_cases h1:t=d0
 ·rw [h1,bS,bz (lG h),bS]
 ·rw [bz h1];by_cases h2:t=d
  ·rw [h2,bS,bS]
  ·rw [bz h2,bz h2,bz h1]
theorem xk {o:Oper}{sv:SV}{d0:Nat}(h:o.dst≠some d0):ib o F sv d0=F d0:=by
 unfold ib;cases hod:o.dst with
 |none=>rfl
 |some d=>exact bz fun e=>h (by rw [hod,e])
theorem zd {o:Oper}{sv:SV}{t:Nat}(h:F t=F' t):ib o F sv t=ib o F' sv t:=by
 unfold ib;cases hod:o.dst with
 |none=>exact h
 |some d =>
  simp only;by_cases htd:t=d
  ·rw [htd,bS,bS]
  ·rw [bz htd,bz htd];exact h
theorem Sh {Q':Exit→Act→World→Prop}{kk ia d0:Nat}{XK:SV→LH→Prop}{PI:List NO'}(hc:Qx ops kk rs ia d0 PI) (hpan:∀ch a w,Pan C ch a w→Q' (.panic ch) a w) (fin:∀F H a w,K F H→St C n F H a w→wpList P ops Q' (ops.toList.drop kk) a w) :
  ∀(fuel:Nat) (ph:Bool) (s:Nat) (listed:Array Bool) (a:Act) (w:World) (dn rest:List NO') (G:Fr) (E X:LH) (Fc:Fr),(left ops kk listed).length+(ops.size-kk)≤fuel→Nk P C n ops rs Hc ia d0 XK K PI F0 ph s listed dn rest G E→FlP XK ops ia d0 listed (zF ops listed G F0) ph X Fc→St C n Fc (X++(E++Hc)) a w→wpAny P .any ops Q' fuel listed a w:=by
 have hkk:=hc.hk
 have hd0l:∀listed:Array Bool,listed.getD ia false=true→kf ops listed d0=true:=fun listed h=>by
  have h1:=hc.ial;have ho:ops[ia]? = some (ops[ia]' om):=by simp
  exact iO.2 ⟨ia,_,ho,h,by have:=hc.iad;rw [dq ho]at this;exact this⟩
 have done:∀(fuel:Nat) (ph:Bool) (s:Nat) (listed:Array Bool) (a:Act) (w:World) (dn rest:List NO') (G:Fr) (E X:LH) (Fc:Fr),ops.size-kk≤fuel→left ops kk listed=[]→Nk P C n ops rs Hc ia d0 XK K PI F0 ph s listed dn rest G E→FlP XK ops ia d0 listed (zF ops listed G F0) ph X Fc→St C n Fc (X++(E++Hc)) a w→wpAny P .any ops Q' fuel listed a w:=by
  intro fuel ph s listed a w dn rest G E X Fc hfu hnil hi hfl hst
  have all:∀j,j<kk→listed.getD j false=true:=fun j hj=>by
   cases hb:listed.getD j false with
   |true=>rfl
   |false =>
    have:(j,ops[j])∈left ops kk listed:=cq.2 ⟨hj,by simp,by simp only;rw [js hi.size om];exact hb⟩;rw [hnil]at this;cases this
  have hrest:rest=[]:=by
   cases rest with
   |nil=>rfl
   |cons x r =>
    exfalso;have hx:x∈PI:=by rw [hi.pi];simp
    obtain⟨o,ho⟩:=hi.lst x.1 (all _ (hc.lt x hx));obtain⟨l1,l2,hl⟩:=dA ho;exact((hc.top l1 (x.1,o) (l2++x::r) (by rw [hi.pi,hl];simp)).1 x (by simp)).2 rfl
  have hzG:∀t,zF ops listed G F0 t=G t:=fun t=>by
   unfold zF;split
   ·rfl
   ·rename_i hb;refine(hi.out t (fun e=>hb (e▸hd0l listed (all ia hc.ial))) ?_).symm;cases hd:er dn t with
    |false=>rfl
    |true =>
     obtain⟨x,hx,hxt⟩:=eI.1 hd;have hx':x∈PI:=by rw [hi.pi];simp [hx]
     have hg:=hc.get x hx';exact absurd (iO.2 ⟨x.1,x.2,hg,all _ (hc.lt x hx'),hxt⟩) hb
  have hzf:zF ops listed G F0=G:=funext hzG;rw [hzf]at hfl
  have hK:K Fc (X++(E++Hc)):=by
   rcases hi.fin with⟨_,k0,k1⟩|⟨i,o,r,h,_⟩
   ·cases hfl with
    |no h=>rw [all ia hc.ial]at h;cases h
    |yes h hx=>exact k0 rfl _ _ hx
    |abs h=>exact k1 rfl
   ·rw [hrest]at h;cases h
  refine Bf hc.back hc.tail fuel kk listed a w (au _) hi.size hi.closed hfu (fun j hj=>by rw [js hi.size om];exact all j hj) (fun j hj hjs=>?_) (fin _ _ a w hK hst);rw [js hi.size hjs];cases hb:listed.getD j false with
  |false=>rfl
  |true =>
   obtain⟨o,ho⟩:=hi.lst j hb;have:=hc.lt (j,o) (by rw [hi.pi];simp [ho]);simp only at this;omega
 have noready:∀(listed:Array Bool),listed.size=ops.size→Region.ready .any ops listed=[]→left ops kk listed=[]:=fun listed hs hr=>by
  cases hl:left ops kk listed with
  |nil=>rfl
  |cons x l' =>
   exfalso;obtain⟨i,o⟩:=x;have hmem:(i,o)∈left ops kk listed:=by rw [hl];simp
   obtain⟨h1,h2,h3⟩:=cq.1 hmem;simp only at h1 h2 h3
   have hready:i∈Region.ready .any ops listed:=by
    rw [mem_ready];refine⟨h3,o,h2,fun e he hb=>?_⟩;have hlt:=jT (hc.back i om) h2 e he hb;cases hle:listed.getD e.on false with
    |true=>rfl
    |false =>
     have hm2:(e.on,ops[e.on]' om)∈left ops kk listed:=cq.2 ⟨by simp only;omega,by simp,by simp only;rw [js hs om];exact hle⟩;have hsort:=fO (ops:=ops) kk listed;rw [hl]at hsort hm2;rcases ak.1 hm2 with h|h
     ·simp only [cP]at h;omega
     ·have:=(eC.1 hsort).1 _ h;simp at this;omega
   rw [hr]at hready;cases hready
 intro fuel;induction fuel with
 |zero =>
  intro ph s listed a w dn rest G E X Fc hfu hi hfl hst;exact done 0 ph s listed a w dn rest G E X Fc om (cT om) hi hfl hst
 |succ fuel ih =>
  intro ph s listed a w dn rest G E X Fc hfu hi hfl hst;by_cases hnil:left ops kk listed=[]
  ·exact done (fuel+1) ph s listed a w dn rest G E X Fc om hnil hi hfl hst
  refine⟨fun hrd=>absurd (noready listed hi.size hrd) hnil,fun i him=>?_⟩;obtain⟨hun,o,ho,_⟩:=mem_ready.1 him;have hio:=(dt.1 ho).1
  have hik:i<kk:=by
   rcases aJ i kk with h|h
   ·exact h
   ·exfalso;obtain⟨x,hx⟩:=t7 _ hnil;obtain⟨q1,q2,q3⟩:=cq.1 hx;have:=bV hi.closed him (hc.tail i hio h x.1 om);rw [js hi.size om,this]at q3;cases q3
  rw [js hi.size hio]at hun;have hmem:(i,o)∈left ops kk listed:=cq.2 ⟨hik,ho,by simp only;rw [js hi.size hio];exact hun⟩;obtain⟨l1,l2,hl12⟩:=dA hmem;have hset:=pD hi.size hio hl12;have hlen:(l1++l2).length+1=(left ops kk listed).length:=by rw [hl12];simp;omega
  have hls:(listed.setIfInBounds i true).size=ops.size:=by simpa using hi.size
  have hPI:=hc.all i o hik ho
  have ahead:∀(x:NO') (t:Nat),x∈PI→x.2.dst=some t→t∈o.looksAt ops→(da ops i x.1=true∨da ops x.1 i=true∨i=x.1):=fun x t hx hxt ht=>by
   have hg:=hc.get x hx;exact hc.look i x.1 t hik (hc.lt x hx) (by rw [dq hg,hxt]) (by unfold dJ;rw [ho];simpa using ht)
  have hFc:∀t,t≠d0→Fc t=zF ops listed G F0 t:=fun t ht=>by
   cases hfl with
   |no h=>rfl
   |yes h hx=>exact bz ht
   |abs h=>rfl
  have hla:∀j,j≠ia→(listed.setIfInBounds j true).getD ia false=listed.getD ia false:=fun j hj=>getD_set_ne false hj
  rw [hi.pi]at hPI;cases hir:rs.contains i with
  |false =>
   have hdn:(i,o)∈dn:=by
    rcases az.1 hPI with h|h
    ·exact h
    ·exfalso;rcases hi.fin with⟨hr,_⟩|⟨i',o',r,hr,hrs,_⟩
     ·rw [hr]at h;cases h
     ·rw [hr]at h;rcases ak.1 h with h|h
      ·cases h;rw [fv.2 (bn hrs)]at hir;cases hir
      ·obtain⟨a1,a2,ha⟩:=dA h;have htop:=(hc.top (dn++(i',o')::a1) (i,o) a2 (by rw [hi.pi,hr,ha];simp)).2 hir (i',o') (by simp) (fv.2 (bn hrs));have h1:=bV hi.closed him htop;have:=(hi.cnt s i' hrs).1 h1;omega
   obtain⟨k1,k2,hk⟩:=dA hdn;obtain⟨Fk,hFk,hkind⟩:=hi.v k1 i o k2 hk hir;have hPIk:PI=k1++(i,o)::(k2++rest):=by rw [hi.pi,hk];simp
   have hlk0:∀t,t∈o.looksAt ops→t≠d0:=fun t ht e=>by
    have:=hc.fr i hik hir;unfold dJ at this;rw [ho]at this;rw [e]at ht;simp [ht]at this
   have hag:∀t,t∈o.looksAt ops→Fk t=Fc t:=fun t ht=>by
    rw [hFk t (hlk0 t ht),hFc t (hlk0 t ht)];unfold zF
    have:er k1 t=kf ops listed t:=by
     rw [kA,eI,iO];constructor
     ·rintro ⟨x,hx,hxt⟩;have hxP:x∈PI:=by rw [hPIk];simp [hx]
      obtain⟨b1,b2,hb⟩:=dA hx;have htop:=(hc.top b1 x (b2++(i,o)::(k2++rest)) (by rw [hPIk,hb];simp)).1 (i,o) (by simp);refine⟨x.1,x.2,hc.get x hxP,?_,hxt⟩;rcases ahead x t hxP hxt ht with h|h|h
      ·exact bV hi.closed him h
      ·rw [htop.1]at h;cases h
      ·exact absurd h.symm htop.2
     ·rintro ⟨j,o',hj,hjl,hjt⟩
      have hjP:(j,o')∈PI:=by
       obtain⟨o2,h2⟩:=hi.lst j hjl;have h3:(j,o2)∈PI:=by rw [hi.pi];simp [h2]
       have hg:=hc.get _ h3;simp only at hg;rw [hj]at hg;obtain rfl:=bZ hg;exact h3
      have hne:j≠i:=fun e=>by rw [e]at hjl;rw [hun]at hjl;cases hjl
      rcases ahead (j,o') t hjP hjt ht with h|h|h
      ·rw [hPIk]at hjP;rcases az.1 hjP with h'|h'
       ·exact⟨_,h',hjt⟩
       ·exfalso;rcases ak.1 h' with h'|h'
        ·cases h';exact hne rfl
        ·have:=((hc.top k1 (i,o) (k2++rest) hPIk).1 (j,o') h').1;simp only at this h;rw [this]at h;cases h
      ·exfalso;have:=yZ hi.closed hjl h;rw [hun]at this;cases this
      ·exact absurd h.symm hne
    rw [this]
   have hinv:Nk P C n ops rs Hc ia d0 XK K PI F0 ph s (listed.setIfInBounds i true) dn rest G E:=by
    refine⟨hi.pi,hi.v,hi.out,hi.fin,fun x hx hxr=>(gq hi.size hio).2 (.inl (hi.don x hx hxr)),fun j hj=>?_,hls,hi.closed.step him,fun u k hk'=>?_⟩
    ·rcases(gq hi.size hio).1 hj with h|rfl
     ·exact hi.lst j h
     ·exact⟨o,hdn⟩
    ·rw [gq hi.size hio,hi.cnt u k hk'];refine⟨fun h=>h.elim id fun e=>?_, .inl⟩;rw [←e,fv.2 (bn hk')]at hir;cases hir
   rcases hkind with⟨rfl,hta⟩|⟨d,hia,hd,hdn',hds⟩
   ·-- the floating one
    have hod:o.dst=some d0:=by rw [←dq ho];exact hc.iad
    cases hfl with
    |yes h hx=>rw [hun]at h;cases h
    |abs h=>rw [hun]at h;cases h
    |no h =>
     refine hta _ _ hag a w hst Q' _ hpan fun sv H' hP a' w' hst'=>?_
     obtain⟨X,hX,rfl⟩:=hP;refine ih false s _ _ _ dn rest G E X _ (by rw [hset];omega) hinv (.yes (sv:=sv) ((gq hi.size hio).2 (.inr rfl)) hX) (hst'.le fun t=>Le.of_eq ?_);unfold ib;rw [hod];simp only;by_cases htd:t=d0
     ·rw [htd,bS,bS]
     ·rw [bz htd,bz htd,JN hi.size ho hod,bz htd]
   ·have hds':=hds.frame hag;have hd0:d≠d0:=fun e=>hc.nd (i,o) (by rw [hPIk];simp) hia (by rw [←e];exact hd)
    obtain⟨hdef,hn,m,h1,h2,h3,h4,h5⟩:=hst;rw [←ax]at h2;refine hds'.wp ho hd hn h1 h2.tail h5 fun v m' w' hv' hm' hH' r=>?_
    have hH2:=h2.beside hH' r;have r2:Rel (keys ((X++E)++Hc)) m w m' w':=r.mono fun b hb=>by unfold keys at *;rw [aH];exact cN _ hb
    have hst2:=St.put (ay.mp hdn') hdef hn h2 h3 (by rw [ax];exact h4) h5 hv' hm' hH2 r2;rw [ax]at hst2;refine ih ph s _ _ _ dn rest G E X _ (by rw [hset];omega) hinv ?_ hst2;rw [JN hi.size ho hd];cases hfl with
    |no h=>exact .no (by rw [hla i hia];exact h)
    |yes h hx=>rw [←I9 hd0];exact .yes (by rw [hla i hia];exact h) hx
    |abs h=>exact .abs (by rw [hla i hia];exact h)
  |true =>
   have hia:i≠ia:=fun e=>by rw [e,hc.iar]at hir;cases hir
   have hod0:o.dst≠some d0:=hc.nd (i,o) (by rw [hi.pi];exact hPI) hia;obtain⟨u,hu⟩:=sV.1 (fv.1 hir);have hus:¬u<s:=fun h=>by have:=(hi.cnt u i hu).2 h;rw [hun]at this;cases this
   have hndn:∀o',(i,o')∉dn:=fun o' h=>by have:=hi.don _ h hir;simp only at this;rw [hun]at this;cases this
   have hrest:(i,o)∈rest:=by
    rcases az.1 hPI with h|h
    ·exact absurd h (hndn o)
    ·exact h
   rcases hi.fin with⟨hr,_⟩|⟨i',o',r,hr,hrs,hkinds⟩
   ·rw [hr]at hrest;cases hrest
   have hii:i'=i:=by
    have hsu:u=s:=by
     rcases gQ u s with h|h|h
     ·exact absurd h hus
     ·exact h
     ·exfalso;have h2:=((hc.row u i hu).2 s i' h hrs).1;have h3:=bV hi.closed him h2;have:=(hi.cnt s i' hrs).1 h3;omega
    subst hsu;rw [hu]at hrs;exact(bZ hrs).symm
   subst hii
   have hoo:o'=o:=by
    have hg:=hc.get (i',o') (by rw [hi.pi,hr];simp);simp only at hg;rw [ho]at hg;exact(bZ hg).symm
   subst hoo;have hPIk:PI=dn++(i',o')::r:=by rw [hi.pi,hr]
   have hag:∀t,t∈o'.looksAt ops→t≠d0→G t=zF ops listed G F0 t:=fun t ht htd=>by
    unfold zF;split
    ·rfl
    ·rename_i hb;refine hi.out t htd ?_;cases hd:er dn t with
     |false=>rfl
     |true =>
      exfalso;obtain⟨x,hx,hxt⟩:=eI.1 hd;have hxP:x∈PI:=by rw [hPIk];simp [hx]
      obtain⟨b1,b2,hb'⟩:=dA hx;have htop:=(hc.top b1 x (b2++(i',o')::r) (by rw [hPIk,hb'];simp)).1 (i',o') (by simp);rcases ahead x t hxP hxt ht with h|h|h
      ·exact hb (iO.2 ⟨x.1,x.2,hc.get x hxP,bV hi.closed him h,hxt⟩)
      ·rw [htop.1]at h;cases h
      ·exact absurd h.symm htop.2
   have hd1:=hc.dst1
   have hdr:Cn r:=fun l1 x l2 t he hd=>by
    have:=hd1 (dn++(i',o')::l1) x l2 t (by rw [hPIk,he];simp) hd;rw [eW,eV,cg,cg]at this;exact⟨this.1.2.2,this.2⟩
   have hrd0:∀o2,(ia,o2)∈r→o2.dst=some d0:=fun o2 h=>by
    have hg:=hc.get (ia,o2) (by rw [hPIk];simp [h]);rw [←dq hg];exact hc.iad
   have main:∀(ph':Bool) (G1:Fr) (X' E':LH) (sv:SV) (Fc':Fr) (a':Act) (w':World),(∀t,t≠d0→G1 t=G t)→My P C n ops rs Hc ia d0 XK K ph' (s+1) r (ib o' G1 sv) E'→St C n Fc' (X'++(E'++Hc)) a' w'→
     (∀F2:Fr,(∀t,t≠d0→ib o' (zF ops listed G F0) sv t=F2 t)→(listed.getD ia false=true→F2 d0=G1 d0)→(listed.getD ia false=false→F2 d0=F0 d0)→∃Fd,FlP XK ops ia d0 (listed.setIfInBounds i' true) F2 ph' X' Fd∧∀t,Fc' t=Fd t)→
     wpAny P .any ops Q' fuel (listed.setIfInBounds i' true) a' w':=by
    intro ph' G1 X' E' sv Fc' a' w' hG1 hnext hst' hfl';obtain⟨pre,rest',G',hpr,g1,g2,g3,g4⟩:=hnext.walk hdr hrd0;have hPI2:PI=(dn++(i',o')::pre)++rest':=by rw [hPIk,hpr];simp
    have hpre:∀t,er dn t=true→(o'.dst==some t)=false∧er pre t=false:=fun t ht=>by
     obtain⟨x,hx,hxt⟩:=eI.1 ht;obtain⟨b1,b2,hb'⟩:=dA hx;have:=(hd1 b1 x (b2++(i',o')::r) t (by rw [hPIk,hb'];simp) hxt).2;rw [hpr,eW,eV,eW,cg,cg,cg]at this;exact⟨this.2.1,this.2.2.1⟩
    have hG1d:∀t,er dn t=true→G' t=G1 t:=fun t ht=>by
     obtain⟨q1,q2⟩:=hpre t ht;rw [g3 t q2];unfold ib;cases hod:o'.dst with
     |none=>rfl
     |some d=>exact bz fun e=>by rw [hod,e]at q1;simp at q1
    have hGd:∀t,t≠d0→er dn t=true→G' t=G t:=fun t h0 ht=>by rw [hG1d t ht,hG1 t h0]
    have hGo:∀d,o'.dst=some d→G' d=sv:=fun d hd=>by
     have:=(hd1 dn (i',o') r d hPIk hd).2;rw [hpr,eW,cg]at this;rw [g3 d this.1];unfold ib;rw [hd];exact bS
    have hG0:∀t,t≠d0→er dn t=false→o'.dst≠some t→er pre t=false→G' t=F0 t:=fun t h0 h1 h2 h3=>by
     rw [g3 t h3];unfold ib;cases hod:o'.dst with
     |none=>exact(hG1 t h0).trans (hi.out t h0 h1)
     |some d =>
      simp only;rw [bz fun e=>h2 (by rw [hod,e])];exact(hG1 t h0).trans (hi.out t h0 h1)
    have hlG:∀t,t≠d0→kf ops listed t=true→G' t=G t:=fun t h0 h=>by
     obtain⟨j,oj,hj,hjl,hjt⟩:=iO.1 h;obtain⟨oj',hoj'⟩:=hi.lst j hjl;have hg:=hc.get (j,oj') (by rw [hi.pi];simp [hoj']);simp only at hg;rw [hj]at hg;obtain rfl:=bZ hg;exact hGd t h0 (eI.2 ⟨_,hoj',hjt⟩)
    have hfr:∀t,t≠d0→ib o' (zF ops listed G F0) sv t=zF ops (listed.setIfInBounds i' true) G' F0 t:=fun t h0=>by
     unfold ib zF;rw [pC hi.size ho];cases hod:o'.dst with
     |none =>
      simp only [bO];by_cases h:kf ops listed t=true
      ·rw [if_pos h,if_pos (.inl h),hlG t h0 h]
      ·rw [if_neg h,if_neg (by rintro (h'|h');exact h h';simp at h')]
     |some d =>
      simp only [bO,pQ,bM];by_cases htd:t=d
      ·subst htd;rw [if_pos (.inr rfl),bS,hGo _ hod]
      ·rw [bz htd];by_cases h:kf ops listed t=true
       ·rw [if_pos h,if_pos (.inl h),hlG t h0 h]
       ·rw [if_neg h,if_neg (by rintro (h'|h');exact h h';exact htd h'.symm)]
    have hz1:listed.getD ia false=true→zF ops (listed.setIfInBounds i' true) G' F0 d0=G1 d0:=fun h=>by
     unfold zF;rw [if_pos (hd0l _ (by rw [hla i' hia];exact h))];obtain⟨oa,hoa⟩:=hi.lst ia h;have hg:=hc.get (ia,oa) (by rw [hi.pi];simp [hoa]);exact hG1d d0 (eI.2 ⟨_,hoa,by have:=hc.iad;rw [dq hg]at this;exact this⟩)
    have hz0:listed.getD ia false=false→zF ops (listed.setIfInBounds i' true) G' F0 d0=F0 d0:=fun h=>by
     unfold zF;refine if_neg fun hb=>?_
     obtain⟨j,oj,q1,q2,q3⟩:=iO.1 hb;have hja:j≠ia:=fun e=>by rw [e,hla i' hia,h]at q2;cases q2
     have hjP:(j,oj)∈PI:=by
      rcases(gq hi.size hio).1 q2 with h'|rfl
      ·obtain⟨o2,h2⟩:=hi.lst j h';have hm:(j,o2)∈PI:=by rw [hi.pi];simp [h2]
       have hg:=hc.get _ hm;simp only at hg;rw [q1]at hg;obtain rfl:=bZ hg;exact hm
      ·rw [ho]at q1;obtain rfl:=bZ q1;rw [hPIk];simp
     exact hc.nd _ hjP hja q3
    obtain⟨Fd,hfd,hfe⟩:=hfl' _ hfr hz1 hz0;refine ih ph' (s+1) _ _ _ (dn++(i',o')::pre) rest' G' E' X' Fd (by rw [hset];omega) ⟨hPI2,fun l1' j oj l2' he hj=>?_,fun t h0 ht=>?_,g4,fun x hx hxr=>?_,fun j hj=>?_,hls,hi.closed.step him,fun u' k hk'=>?_⟩ hfd (hst'.le fun t=>Le.of_eq (hfe t))
    ·-- what is known of the free ones
     rcases xx.1 he with⟨c,hc1,hc2⟩|⟨c,hc1,hc2⟩
     ·cases c with
      |nil =>
       simp only [a8,dV,cP]at hc2;obtain⟨⟨rfl,_⟩,_⟩:=hc2;rw [hir]at hj;cases hj
      |cons x c =>
       simp only [ab,dV]at hc2;obtain⟨rfl,hc2⟩:=hc2;obtain⟨Fk,k3,k4⟩:=g2 c j oj l2' hc2;refine⟨Fk,fun t h0=>?_,k4⟩;rw [k3 t h0,hc1,eW,eV];by_cases ht1:er c t=true
       ·rw [ht1];simp
       ·rw [Bool.not_eq_true]at ht1;rw [ht1];simp only [bE,aO,aQ];unfold ib;cases hod:o'.dst with
        |none =>
         simp only [bO];by_cases hdt:er dn t=true
         ·rw [if_pos (.inl hdt),hGd t h0 hdt,hG1 t h0]
         ·rw [if_neg (by rintro (h|h);exact hdt h;simp at h),hG1 t h0];exact hi.out t h0 (by simpa using hdt)
        |some d =>
         simp only [bO,pQ,bM];by_cases htd:t=d
         ·subst htd;rw [if_pos (.inr rfl),bS,hGo _ hod]
         ·rw [bz htd,hG1 t h0];by_cases hdt:er dn t=true
          ·rw [if_pos (.inl hdt),hGd t h0 hdt]
          ·rw [if_neg (by rintro (h|h);exact hdt h;exact htd h.symm)];exact hi.out t h0 (by simpa using hdt)
     ·cases c with
      |nil =>
       simp only [a8,dV,cP]at hc2;obtain⟨⟨rfl,_⟩,_⟩:=hc2;rw [hir]at hj;cases hj
      |cons x c =>
       simp only [ab,dV]at hc2;obtain⟨rfl,_⟩:=hc2;obtain⟨Fk,k3,k4⟩:=hi.v l1' j oj c hc1 hj;refine⟨Fk,fun t h0=>?_,k4.imp id fun⟨d',q1,q2,q3,q4⟩=>⟨d',q1,q2,q3,?_⟩⟩
       ·rw [k3 t h0];by_cases ht:er l1' t=true
        ·rw [if_pos ht,if_pos ht,hGd t h0 (by rw [hc1,eW,ht];rfl)]
        ·rw [if_neg ht,if_neg ht]
       ·have hd'0:d'≠d0:=fun e=>hc.nd (j,oj) (by rw [hi.pi,hc1];simp) q1 (by rw [←e];exact q2)
        rw [hGd d' hd'0 (eI.2 ⟨(j,oj),by rw [hc1];simp,q2⟩)];exact q4
    ·rw [eW,eV,cg,cg]at ht;exact hG0 t h0 ht.1 (fun e=>by rw [e]at ht;simp at ht) ht.2.2
    ·rcases az.1 hx with h|h
     ·exact(gq hi.size hio).2 (.inl (hi.don x h hxr))
     ·rcases ak.1 h with rfl|h
      ·exact(gq hi.size hio).2 (.inr rfl)
      ·rw [g1 x h]at hxr;cases hxr
    ·rcases(gq hi.size hio).1 hj with h|rfl
     ·obtain⟨oj,h⟩:=hi.lst j h;exact⟨oj,by simp [h]⟩
     ·exact⟨o',by simp⟩
    ·rw [gq hi.size hio,hi.cnt u' k hk'];constructor
     ·rintro (h|rfl)
      ·omega
      ·rcases gQ u' s with h|h|h
       ·omega
       ·omega
       ·exact absurd rfl (((hc.row u' k hk').2 s k h hrs).2)
     ·intro h;rcases aJ u' s with h'|h'
      ·exact .inl h'
      ·have:u'=s:=by omega
       subst this;rw [hrs]at hk';exact .inr (bZ hk').symm
   have hzd:listed.getD ia false=false→zF ops listed G F0 d0=F0 d0:=fun h=>by
    unfold zF;refine if_neg fun hb=>?_
    obtain⟨j,oj,q1,q2,q3⟩:=iO.1 hb;have hja:j≠ia:=fun e=>by rw [e,h]at q2;cases q2
    obtain⟨o2,h2⟩:=hi.lst j q2;have hm:(j,o2)∈PI:=by rw [hi.pi];simp [h2]
    have hg:=hc.get _ hm;simp only at hg;rw [q1]at hg;obtain rfl:=bZ hg;exact hc.nd _ hm hja q3
   rcases hkinds with⟨rfl,hl0,Post,hts,hnext⟩|⟨rfl,Post,hts,hnext⟩|⟨rfl,hedge,Post,hts,hnext⟩
   ·-- beside the floating one
    have hlk:∀t,t∈o'.looksAt ops→t≠d0:=fun t ht e=>by
     unfold dJ at hl0;rw [ho]at hl0;rw [e]at ht;simp [ht]at hl0
    have hXO:XO XK X:=by
     cases hfl with
     |no h=>exact .inl rfl
     |yes h hx=>exact .inr ⟨_,hx⟩
    refine hts X hXO _ (fun t ht=>(hag t ht (hlk t ht)).trans (hFc t (hlk t ht)).symm) a w hst Q' _ hpan fun sv H' hP a' w' hst'=>?_
    obtain⟨E',rfl,hP⟩:=hP;refine main false G X E' sv _ a' w' (fun _ _=>rfl) (hnext sv E' hP) hst' fun F2 h1 h2 h3=>?_
    cases hfl with
    |no h =>
     refine⟨F2, .no (by rw [hla i' hia];exact h),fun t=>?_⟩;by_cases ht:t=d0
     ·rw [ht,xk hod0,hzd h,h3 h]
     ·exact h1 t ht
    |yes h hx =>
     refine⟨_, .yes (by rw [hla i' hia];exact h) hx,fun t=>?_⟩;by_cases ht:t=d0
     ·rw [ht,xk hod0,bS,bS]
     ·rw [bz ht,←h1 t ht];exact zd (bz ht)
   ·-- behind it
    cases hfl with
    |abs h =>
     have hGd0:zF ops listed G F0 d0=G d0:=by unfold zF;rw [if_pos (hd0l _ h)]
     refine hts _ (fun t ht=>?_) a w hst Q' _ hpan fun sv H' hP a' w' hst'=>?_
     ·by_cases htd:t=d0
      ·rw [htd,hGd0]
      ·exact hag t ht htd
     obtain⟨E',rfl,hP⟩:=hP;refine main true G [] E' sv _ a' w' (fun _ _=>rfl) (hnext sv E' hP) hst' fun F2 h1 h2 h3=>⟨F2, .abs (by rw [hla i' hia];exact h),fun t=>?_⟩
     by_cases ht:t=d0
     ·rw [ht,xk hod0,hGd0,h2 h]
     ·exact h1 t ht
   ·-- it takes over what the floating one made
    have hlt:=bV hi.closed him hedge;cases hfl with
    |no h=>rw [h]at hlt;cases hlt
    | @yes sv0 X h hx =>
     refine hts sv0 X hx _ (fun t ht=>?_) a w hst Q' _ hpan fun sv H' hP a' w' hst'=>?_
     ·by_cases htd:t=d0
      ·rw [htd,bS,bS]
      ·rw [bz htd,bz htd];exact hag t ht htd
     obtain⟨E',rfl,hP⟩:=hP;refine main true (upd G d0 sv0) [] E' sv _ a' w' (fun t ht=>bz ht) (hnext sv0 X sv E' hx hP) hst' fun F2 h1 h2 h3=>⟨F2, .abs (by rw [hla i' hia];exact h),fun t=>?_⟩
     by_cases ht:t=d0
     ·rw [ht,xk hod0,bS,h2 h,bS]
     ·rw [←h1 t ht];exact zd (bz ht)
attribute [local semireducible] WP WPL Dk PuH
theorem S7 {id:Nat}{l:List Oper}(kk:Nat) (pi rs:List Nat) (ia d0:Nat) (XK:SV→LH→Prop) (E Hc:LH) (h:My P C n l.toArray rs Hc ia d0 XK (fun F H=>WPL P C n l.toArray (l.drop kk) (fun F H=>Q .normal F H) F H) false 0 (pk l pi) F E) (h0:H=E++Hc:=by exact rfl) (hm:P.follows .mixedOrders=true:=by kernel_rfl) (hchk:QB l.toArray kk rs pi ia d0=true:=by decide +kernel) :
  WP P C n (.region id l.toArray true) Q F H:=by
 intro a w hs;subst h0;have hc:=I3 hchk
 obtain⟨pre,rest,G,hpr,g1,g2,g3,g4⟩:=h.walk hc.dst1 (fun o h=>by
  have hg:=hc.get (ia,o) h;rw [←dq hg];exact hc.iad)
 have hrep:∀j,(Array.replicate l.toArray.size false).getD j false=false:=fun j=>by
  by_cases hj:j<l.length <;> simp [hj]
 refine wp_mono (Q:=oE C n (fun e F H=>e = .normal∧Q .normal F H)) (wp_region_any hm ?_) (fun e a w h=>h.imp (fun⟨F,H,hs,he,hq⟩=>⟨F,H,hs,he▸hq⟩) fun h=>h);refine Sh (K:=fun F H=>WPL P C n l.toArray (l.drop kk) (fun F H=>Q .normal F H) F H) (Hc:=Hc) (E:=E) (X:=[]) (F0:=F) (s:=0) hc (fun ch _ _ hp => .inr ⟨ch,rfl,hp⟩) (fun F E a w hK hst=>?_) l.toArray.size false _ a _ pre rest G _ ?_ ⟨hpr,fun l1 i o l2 he _=>g2 l1 i o l2 he,fun t _=>g3 t,g4,fun x hx hxr=>?_,fun j hj=>?_,by simp,fun m j hm=>?_,fun u k _=>?_⟩ (.no (hrep ia)) ?_
 ·exact hK a w hst _ ⟨fun a2 w2 F2 H2 hs2 hq => .mk hs2 ⟨rfl,hq⟩,fun ch _ _ hp => .inr ⟨ch,rfl,hp⟩⟩
 ·have hk:=hc.hk
  have:(left l.toArray kk (Array.replicate l.toArray.size false)).length≤kk:=by
   unfold left;refine aU (lK _ _) ?_;simp;omega
  omega
 ·rw [g1 x hx]at hxr;cases hxr
 ·rw [hrep j]at hj;cases hj
 ·rw [hrep m]at hm;cases hm
 ·rw [hrep k];exact⟨fun h=>(by cases h),fun h=>om⟩
 ·obtain⟨hdef,hn,m,h1,h2,h3,h4,h5⟩:=hs;refine⟨hdef,hn,m,⟨h1.at',h1.base⟩,⟨h2.1,h2.2⟩,h3.drw,h4,fun t=>?_⟩
  have:kf l.toArray (Array.replicate l.toArray.size false) t=false:=by
   cases hb:kf l.toArray (Array.replicate l.toArray.size false) t with
   |false=>rfl
   |true =>
    obtain⟨j,_,_,hj,_⟩:=iO.1 hb;rw [hrep j]at hj;cases hj
  unfold zF;rw [this];exact h5 t
section
variable {s i d:Nat}{r:List NO'}{E:LH}{ty:TypeId}{pos:String}{aft:Array Edge}{ph:Bool}
theorem S6 (h:K F (E++Hc)):My P C n ops rs Hc ia d0 XK K true s [] F E := .nil1 h
def PJ (rs:List Nat) (ia:Nat):List NO'→Bool
 | []=>true
 |x::r => !rs.contains x.1 && !(Nat.beq x.1 ia)&&PJ rs ia r
def mkY (P:Program) (C:Ctx) (n:Nat) (ops:Array Oper) (rs:List Nat) (Hc:LH) (ia d0:Nat) (XK:SV→LH→Prop) (K:Fr→LH→Prop) (ph:Bool) (s:Nat) (r:List NO') (E:LH):List NW→Fr→Prop:=fun N F=>N=[]∧My P C n ops rs Hc ia d0 XK K ph s r F E
theorem Fh (h:My P C n ops rs Hc ia d0 XK K ph s r F E):mkY P C n ops rs Hc ia d0 XK K ph s r E [] F:=⟨rfl,h⟩
theorem Dr.my {r:List NO'}:∀{L:List NO'}{F F':Fr},PJ rs ia L=true→Dr P ops n Hc L [] F F'→My P C n ops rs Hc ia d0 XK K ph s r F' E→My P C n ops rs Hc ia d0 XK K ph s (L++r) F E
 | [],_,_,_,h,hx=>by cases h;exact hx
 |(i,o)::L,F,F',hf,h,hx=>by
  simp only [PJ,bG,fw]at hf;cases h with
  |val hd hds hdn h=>exact .free hf.1.1 (fun e=>by have h2:Nat.beq i ia=false:=hf.1.2;rw [e,cY]at h2;cases h2) hd hdn hds (Dr.my hf.2 h hx)
theorem YkD {L:List NO'}(k:Nat) (h:Dk P ops n Hc (L.take k) (mkY P C n ops rs Hc ia d0 XK K ph s (L.drop k) E) F) (hf:PJ rs ia (L.take k)=true:=by exact rfl):My P C n ops rs Hc ia d0 XK K ph s L F E:=by
 obtain⟨N,F',h1,rfl,hx⟩:=h;have:=Dr.my hf h1 hx;rwa [gO]at this
theorem YkF {o:Oper}(ht:∀F1,(∀t,t∈o.looksAt ops→F t=F1 t)→∀H,WPL P C n ops [o] (fun F' H'=>∃sv,(∃X,XK sv X∧H'=X++H)∧F'=ib o F1 sv) F1 H) (h:My P C n ops rs Hc ia d0 XK K ph s r F E) (ho:ops[ia]? = some o:=by exact rfl) (hg:o.guard=none:=by exact rfl) (hr:rs.contains ia=false:=by exact rfl):My P C n ops rs Hc ia d0 XK K ph s ((ia,o)::r) F E :=
 .flt hr (fun H=>TZ.of ho hg fun F1 hF1=>ht F1 hF1 H) h
theorem T9 {T:TypeId}{sz by_:Nat}{z:List SV}{g:Bool} [hT:TY P T sz by_ z g] (hX:XK=fun sv X=>∃b,sv=lit (.pointer (some ⟨b,0,none⟩))∧X=[(b,T,z)]) (h:My P C n ops rs Hc ia d0 XK K ph s r F E) (ho:ops[ia]? = some ⟨some d0, .alloc T,ty,pos,aft,none⟩:=by exact rfl) (hr:rs.contains ia=false:=by exact rfl) (hd:Nat.blt d0 n=true:=by exact rfl) :
  My P C n ops rs Hc ia d0 XK K ph s ((ia,⟨some d0, .alloc T,ty,pos,aft,none⟩)::r) F E:=by
 subst hX;exact YkF (fun F1 _ H=>WPL.alloc (T:=T) hd (fun b=>WPL.nil ⟨_,⟨_,⟨b,rfl,rfl⟩,rfl⟩,rfl⟩)) h ho rfl hr
abbrev esl:SV:=ex fun b:Nat=>lit (.slice (some ⟨b,0,none⟩) 0 0)
theorem Ny {d:Nat}{s s':SV}:upd (upd F d s) d s'=upd F d s':=by
 funext t
 by_cases h:t=d
 ·rw [h,bS,bS]
 ·rw [bz h,bz h,bz h]
theorem Em {T e:TypeId}{sz by_:Nat}{z:List SV}{g:Bool} [hS:TSl P T e] [hT:TY P e sz by_ z g]{x k0:Nat}{y:Operand}{ds:List SV}{Po:SV→LH→Prop}
  (hx:F x=esl) (hy:ev F y=sl ds k0) (hyx:y≠ .tmp x) (hxd:x≠d) (hds:ds.length=k0*sz) (hpos:0<k0*sz) (hl:k0≤1000000000) (hby:by_≤10000)
  (k:∀s' H',Own e sz k0 ds s' H'→Po s' (H'++H)) (hd:Nat.blt d n=true) :
  WPL P C n ops [⟨some d, .call ⟨.builtin .append,#[.tmp x,y],#[T,T]⟩,ty,pos,aft,none⟩] (fun F' H'=>∃sv,Po sv H'∧F'=upd F d sv) F H:=by
 refine WPL.exd (d:=x) hx fun b=>?_
 have hy':ev (upd F x (lit (.slice (some ⟨b,0,none⟩) 0 0))) y=sl ds k0:=by
  rw [←hy];cases y with
  |tmp t=>exact bz fun e=>hyx (by rw [e])
  |_=>rfl
 refine WPL.appAllS (b0:=b) (show upd F x _ x=_ from bS) hy' hds hpos hl hby (fun s' H' hO=>?_) hd;refine WPL.le (F':=upd F d s') (fun t=>?_) (WPL.nil ⟨s',k s' H' hO,rfl⟩);by_cases ht:t=d
 ·rw [ht,bS,bS];exact Le.refl _
 ·rw [bz ht,bz ht];by_cases htx:t=x
  ·rw [htx,bS,hx];exact Le.ex b Lr
  ·rw [bz htx];exact Le.refl _
theorem TN {T e:TypeId}{sz by_:Nat}{z:List SV}{g:Bool} [hS:TSl P T e] [hT:TY P e sz by_ z g]{x k0:Nat}{y:Operand}{ds:List SV}(hX:XK=fun sv X=>Own e sz k0 ds sv X)
  (hx:F x=esl) (hy:ev F y=sl ds k0) (hds:ds.length=k0*sz) (hpos:0<k0*sz) (hl:k0≤1000000000) (h:My P C n ops rs Hc ia d0 XK K ph s r F E)
  (hyx:y≠ .tmp x:=by decide) (hxd:x≠d0:=by decide) (hby:by_≤10000:=by decide) (ho:ops[ia]? = some ⟨some d0, .call ⟨.builtin .append,#[.tmp x,y],#[T,T]⟩,ty,pos,aft,none⟩:=by exact rfl) (hr:rs.contains ia=false:=by exact rfl) (hd:Nat.blt d0 n=true:=by exact rfl) :
  My P C n ops rs Hc ia d0 XK K ph s ((ia,⟨some d0, .call ⟨.builtin .append,#[.tmp x,y],#[T,T]⟩,ty,pos,aft,none⟩)::r) F E:=by
 subst hX;refine YkF (fun F1 hF1 H=>?_) h ho rfl hr;have hx1:F1 x=esl:=by rw [←hx];exact(fu (x := .tmp x) (by simp [Op.operands,Call.operands]) hF1)
 have hy1:ev F1 y=sl ds k0:=by rw [←hy];exact(fu (by simp [Op.operands,Call.operands]) hF1)
 exact Em (Po:=fun sv H'=>∃X,Own e sz k0 ds sv X∧H'=X++H) hx1 hy1 hyx hxd hds hpos hl hby (fun s' H' hO=>⟨H',hO,rfl⟩) hd
theorem TZ.permP {o:Oper}{Fe:Fr}{H H':LH}{Post:SV→LH→Prop}(hp:H.Perm H') (h:TZ P C n ops i o Fe H' Post):TZ P C n ops i o Fe H Post :=
 fun F hF a w hst=>h F hF a w (hst.perm hp)
theorem TZ.post {o:Oper}{Fe:Fr}{H:LH}{Post Post':SV→LH→Prop}(h:TZ P C n ops i o Fe H Post) (k:∀sv H1,Post sv H1→∃H2,H1.Perm H2∧Post' sv H2):TZ P C n ops i o Fe H Post' :=
 fun F hF a w hst Q' K' hpan hK=>h F hF a w hst Q' K' hpan fun sv H1 hP a' w' hst'=>by
  obtain⟨H2,hp,hP2⟩:=k sv H1 hP;exact hK sv H2 hP2 a' w' (hst'.perm hp)
theorem GM (X A E Hc:LH):(A++(X++(E++Hc))).Perm (X++((A++E)++Hc)):=by
 rw [ax,←ax A X,←ax X A];exact aG.append_right _
theorem vJ {T e:TypeId}{sz by_:Nat}{z:List SV}{g:Bool} [hS:TSl P T e] [hT:TY P e sz by_ z g]{x k0:Nat}{y:Operand}{ds:List SV}{X:LH}
  (hx:F x=esl) (hy:ev F y=sl ds k0) (hyx:y≠ .tmp x) (hxd:x≠d) (hds:ds.length=k0*sz) (hpos:0<k0*sz) (hl:k0≤1000000000) (hby:by_≤10000) (hd:Nat.blt d n=true)
  (ho:ops[i]? = some ⟨some d, .call ⟨.builtin .append,#[.tmp x,y],#[T,T]⟩,ty,pos,aft,none⟩) :
  TZ P C n ops i ⟨some d, .call ⟨.builtin .append,#[.tmp x,y],#[T,T]⟩,ty,pos,aft,none⟩ F (X++(E++Hc)) (fun sv H'=>∃E',H'=X++(E'++Hc)∧∃Hs,Own e sz k0 ds sv Hs∧E'=Hs++E):=by
 refine TZ.post (TZ.of ho rfl fun F1 hF1=>?_) (Post:=fun sv H'=>∃Hs,Own e sz k0 ds sv Hs∧H'=Hs++(X++(E++Hc))) fun sv H1 h=>?_
 ·have hx1:F1 x=esl:=by rw [←hx];exact(fu (x := .tmp x) (by simp [Op.operands,Call.operands]) hF1)
  have hy1:ev F1 y=sl ds k0:=by rw [←hy];exact(fu (by simp [Op.operands,Call.operands]) hF1)
  exact Em (Po:=fun sv H'=>∃Hs,Own e sz k0 ds sv Hs∧H'=Hs++(X++(E++Hc))) hx1 hy1 hyx hxd hds hpos hl hby (fun s' H' hO=>⟨H',hO,rfl⟩) hd
 ·obtain⟨Hs,hO,rfl⟩:=h;exact⟨_,GM X Hs E Hc,_,rfl,Hs,hO,rfl⟩
theorem YkE {T e:TypeId}{sz by_:Nat}{z:List SV}{g:Bool} [hS:TSl P T e] [hT:TY P e sz by_ z g]{x k0:Nat}{y:Operand}{ds:List SV}
  (hx:F x=esl) (hy:ev F y=sl ds k0) (hds:ds.length=k0*sz) (hpos:0<k0*sz) (hl:k0≤1000000000) (k:∀s' H',Own e sz k0 ds s' H'→My P C n ops rs Hc ia d0 XK K ph (s+1) r (upd F d s') (H'++E))
  (hyx:y≠ .tmp x:=by decide) (hxd:x≠d:=by decide) (hby:by_≤10000:=by decide) (hlk:dJ ops i d0=false:=by decide +kernel) (ho:ops[i]? = some ⟨some d, .call ⟨.builtin .append,#[.tmp x,y],#[T,T]⟩,ty,pos,aft,none⟩:=by exact rfl) (hr:rs[s]? = some i:=by exact rfl) (hd:Nat.blt d n=true:=by exact rfl) :
  My P C n ops rs Hc ia d0 XK K ph s ((i,⟨some d, .call ⟨.builtin .append,#[.tmp x,y],#[T,T]⟩,ty,pos,aft,none⟩)::r) F E:=by
 cases ph with
 |false=>exact .row0 (Post:=fun sv E'=>∃Hs,Own e sz k0 ds sv Hs∧E'=Hs++E) hr hlk (fun X _=>vJ hx hy hyx hxd hds hpos hl hby hd ho) (fun sv E' ⟨Hs,hO,e⟩=>by rw [e];exact k sv Hs hO)
 |true=>exact .row1 (Post:=fun sv E'=>∃Hs,Own e sz k0 ds sv Hs∧E'=Hs++E) hr (vJ (X:=[]) hx hy hyx hxd hds hpos hl hby hd ho) (fun sv E' ⟨Hs,hO,e⟩=>by rw [e];exact k sv Hs hO)
theorem rX {T e:TypeId}{sz by_:Nat}{z:List SV}{g:Bool} [hS:TSl P T e] [hT:TY P e sz by_ z g]{x y:Operand}{n0:Nat}{cs ds:List SV}{so:SV}{Hs R Hf:LH}
  (hown:Own e sz n0 cs so Hs) (hp:Hf.Perm (Hs++R)) (hx:ev F x=so) (hy:ev F y=sl ds 1) (hds:ds.length=sz) (hpos:0<sz) (hl:n0≤1000000000) (hby:by_≤10000) (hd:Nat.blt d n=true)
  (ho:ops[i]? = some ⟨some d, .call ⟨.builtin .append,#[x,y],#[T,T]⟩,ty,pos,aft,none⟩) :
  TZ P C n ops i ⟨some d, .call ⟨.builtin .append,#[x,y],#[T,T]⟩,ty,pos,aft,none⟩ F Hf (fun sv H'=>sv=sl (cs++ds) (n0+1)∧H'=R):=by
 refine TZ.permP hp (TZ.of ho rfl fun F1 hF1=>?_);have hx1:ev F1 x=so:=by rw [←hx];exact(fu (by simp [Op.operands,Call.operands]) hF1)
 have hy1:ev F1 y=sl ds 1:=by rw [←hy];exact(fu (by simp [Op.operands,Call.operands]) hF1)
 refine .appOwnS hown hx1 hy1 (Spl.app _ _) hds hpos hl hby (fun s' H' hO=>?_) hd;refine WPL.rowS (R:=R) d hO bS (j5 _) ?_;rw [Ny];exact WPL.nil ⟨_,⟨rfl,rfl⟩,rfl⟩
theorem YkP {T e:TypeId}{sz by_:Nat}{z:List SV}{g:Bool} [hS:TSl P T e] [hT:TY P e sz by_ z g]{x y:Operand}{n0:Nat}{cs ds:List SV}{so:SV}{Hs:LH}
  (hown:Own e sz n0 cs so Hs) (hl:n0≤1000000000) (k:My P C n ops rs Hc ia d0 XK K ph (s+1) r (upd F d (sl (cs++ds) (n0+1))) E)
  (hx:ev F x=so:=by exact rfl) (hy:ev F y=sl ds 1:=by exact rfl) (hds:ds.length=sz:=by exact rfl) (hpos:0<sz:=by decide) (hby:by_≤10000:=by decide)
  (hlk:dJ ops i d0=false:=by decide +kernel) (ho:ops[i]? = some ⟨some d, .call ⟨.builtin .append,#[x,y],#[T,T]⟩,ty,pos,aft,none⟩:=by exact rfl) (hr:rs[s]? = some i:=by exact rfl) (hd:Nat.blt d n=true:=by exact rfl) :
  My P C n ops rs Hc ia d0 XK K ph s ((i,⟨some d, .call ⟨.builtin .append,#[x,y],#[T,T]⟩,ty,pos,aft,none⟩)::r) F (Hs++E):=by
 cases ph with
 |false=>exact .row0 (Post:=fun sv E'=>sv=sl (cs++ds) (n0+1)∧E'=E) hr hlk (fun X _=>(rX hown (R:=X++(E++Hc)) (GM X Hs E Hc).symm hx hy hds hpos hl hby hd ho).post fun sv H1 h=>⟨H1,j5 _,E,h.2,h.1,rfl⟩) (fun sv E' ⟨h1,h2⟩=>by rw [h1,h2];exact k)
 |true=>exact .row1 (Post:=fun sv E'=>sv=sl (cs++ds) (n0+1)∧E'=E) hr ((rX hown (R:=E++Hc) (by rw [ax]) hx hy hds hpos hl hby hd ho).post fun sv H1 h=>⟨H1,j5 _,E,h.2,h.1,rfl⟩) (fun sv E' ⟨h1,h2⟩=>by rw [h1,h2];exact k)
theorem TO {T e:TypeId}{sz by_:Nat}{z:List SV}{g:Bool} [hS:TSl P T e] [hT:TY P e sz by_ z g]{y:Operand}{n0:Nat}{cs ds:List SV}(hX:XK=fun sv X=>Own e sz n0 cs sv X) (hl:n0≤1000000000)
  (k:∀sv,My P C n ops rs Hc ia d0 XK K true (s+1) r (upd (upd F d0 sv) d (sl (cs++ds) (n0+1))) E)
  (hy:ev F y=sl ds 1) (hyx:y≠ .tmp d0:=by decide) (hds:ds.length=sz:=by exact rfl) (hpos:0<sz:=by decide) (hby:by_≤10000:=by decide)
  (he:da ops i ia=true:=by decide +kernel) (ho:ops[i]? = some ⟨some d, .call ⟨.builtin .append,#[.tmp d0,y],#[T,T]⟩,ty,pos,aft,none⟩:=by exact rfl) (hr:rs[s]? = some i:=by exact rfl) (hd:Nat.blt d n=true:=by exact rfl) :
  My P C n ops rs Hc ia d0 XK K false s ((i,⟨some d, .call ⟨.builtin .append,#[.tmp d0,y],#[T,T]⟩,ty,pos,aft,none⟩)::r) F E:=by
 subst hX;refine .rowA (Post:=fun _ sv' E'=>sv'=sl (cs++ds) (n0+1)∧E'=E) hr he (fun sv X hown=>(rX hown (R:=E++Hc) (j5 _) (show ev (upd F d0 sv) (.tmp d0)=sv from bS) (hy:=?_) hds hpos hl hby hd ho).post fun sv H1 h=>⟨H1,j5 _,E,h.2,h.1,rfl⟩) (fun sv X sv' E' _ ⟨h1,h2⟩=>by rw [h1,h2];exact k sv);rw [←hy];cases y with
 |tmp t=>exact bz fun e=>hyx (by rw [e])
 |_=>rfl
theorem Ta {T:TypeId}{sz by_:Nat}{z:List SV}{g:Bool} [hT:TY P T sz by_ z g]{v:Operand}{sv:SV}{ds:List SV}(hX:XK=fun sv X=>∃b,sv=lit (.pointer (some ⟨b,0,none⟩))∧X=[(b,T,z)])
  (k:∀b,My P C n ops rs Hc ia d0 XK K true (s+1) r (upd F d0 (lit (.pointer (some ⟨b,0,none⟩)))) ((b,T,ds)::E)) (hv:ev F v=sv) [hco:CO sv ds] (hlen:Nat.beq ds.length sz=true:=by exact rfl) (hz:spl z 0 ds=ds:=by exact rfl) (hle:Nat.ble (0+sz) z.length=true:=by exact rfl)
  (hvx:v≠ .tmp d0:=by decide) (he:da ops i ia=true:=by decide +kernel) (ho:ops[i]? = some ⟨none, .store T (.tmp d0) v,ty,pos,aft,none⟩:=by exact rfl) (hr:rs[s]? = some i:=by exact rfl) :
  My P C n ops rs Hc ia d0 XK K false s ((i,⟨none, .store T (.tmp d0) v,ty,pos,aft,none⟩)::r) F E:=by
 subst hX;refine .rowA (Post:=fun s0 _ E'=>∃b,s0=lit (.pointer (some ⟨b,0,none⟩))∧E'=(b,T,ds)::E) hr he (fun s0 X hb=>?_) (fun s0 X sv' E' _ ⟨b,h1,h2⟩=>by rw [h1,h2];exact k b);obtain⟨b,rfl,rfl⟩:=hb
 have hv':ev (upd F d0 (lit (.pointer (some ⟨b,0,none⟩)))) v=sv:=by
  rw [←hv];cases v with
  |tmp t=>exact bz fun e=>hvx (by rw [e])
  |_=>rfl
 have ht:=TS.store (P:=P) (C:=C) (n:=n) (ops:=ops) (s0:=lit undef) (H:=[(b,T,z)]++(E++Hc)) (H':=(b,T,ds)::(E++Hc)) ho (show ev (upd F d0 (lit (.pointer (some ⟨b,0,none⟩)))) (.tmp d0)=lit (.pointer (some ⟨b,0,none⟩))from bS) hv' hlen (.here _) hz hle;exact fun F1 hF a w hst Q' K' _ hK=>ht F1 hF a w hst Q' K' fun a' w' h'=>hK (lit undef) _ ⟨(b,T,ds)::E,rfl,b,rfl,rfl⟩ a' w' h'
theorem oB {T e:TypeId}{sz by_:Nat}{z:List SV}{g:Bool} [hS:TSl P T e] [hT:TY P e sz by_ z g] (hpos:Nat.blt 0 sz=true:=by exact rfl):OpV P (.buildSlice T 0 [].toArray) ty F H esl :=
 OpV.pubN (nk (r:=[]) (cs:=[]) .nil rfl (by rw [bQ];rfl) hpos) fun m b arr hb h=>by unfold esl ex lit;exact⟨b,rfl⟩
theorem si {T e:TypeId}{sz by_:Nat}{z:List SV}{g:Bool} [hS:TSl P T e] [hT:TY P e sz by_ z g] (hpos:Nat.blt 0 sz=true:=by exact rfl):OpV P (.buildSlice T 0 [].toArray) ty F H (xsl [] 0) :=
 OpV.pubN (nk (r:=[]) (cs:=[]) .nil rfl (by rw [bQ];rfl) hpos) fun m b arr hb h=>G9 hb h (by simp only [maxLen];omega)
theorem po {T e:TypeId}{sz by_:Nat}{z:List SV}{g:Bool} [hS:TSl P T e] [hT:TY P e sz by_ z g]{x y:Operand}(hx:ev F x=xsl [] 0) (hy:ev F y=sl [] 0) :
  OpV P (.call ⟨.builtin .append,#[x,y],#[T,T]⟩) ty F H (xsl [] 0) :=
 OpV.pure fun m w o a ho _ _ _ h=>by
  have e0:=h x (by simp [Op.operands,Call.operands]);rw [hx]at e0;have e1:=h y (by simp [Op.operands,Call.operands]);rw [hy]at e1;have e0':=e0;unfold xsl at e0;obtain⟨ad,e0,hkm,hadn,hca⟩:=e0;obtain⟨ad2,c2,e1,hc1,hc2,hcb⟩:=ft e1;obtain⟨i,v,hi,hsz,hbyt,hz,hzl,hfl,hvs⟩:=hT.run_bytes
  have hs:Src P i.size T (.slice ad2 0 c2) 0 [] w:=by
   cases ad2 with
   |none=>exact Src.ofNil w hS.h c2
   |some a2=>exact Src.ofSlice w hS.h a2 0 c2 [] (by simp) (by intro j u hj;simp at hj) (by intro u hu;cases hu)
  have hrun:=run_append_nothing (P:=P) w T T o.type e i hS.h hi ad 0 0 (au _) _ hs;refine⟨.slice ad 0 0,?_,by rw [←e0];exact e0'⟩;rw [←e1]at hrun;simp [execOp,ho,resolve,invoke,builtin,e0,hrun]
end
end
end Go.Ab
