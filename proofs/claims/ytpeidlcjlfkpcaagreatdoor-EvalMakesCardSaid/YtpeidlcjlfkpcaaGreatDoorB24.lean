/- Texts laid one behind the other: Zip, RowD. -/
import Derived.Test.YtpeidlcjlfkpcaaGreatDoorB23
set_option linter.all false
namespace Go.Ab
open Go.Proofs
variable [Base]
section
variable {P:Program}{C:Ctx}{n:Nat}{F F' F0 Fe:Fr}{H:LH}{ops:Array Oper}{Q:Exit→Fr→LH→Prop}{rs:List Nat}{Hc:LH}{K:Fr→LH→Prop}
def pk (l:List Oper):List Nat→List NO'
 | []=>[]
 |i::r=>match l[i]? with
  |some o=>(i,o)::pk l r
  |none=>pk l r
def JL (ops:Array Oper) (rs:List Nat):List Nat→List Nat→Bool
 |_,[]=>true
 |dn,i::r=>(r.all fun j => !da ops i j && !(Nat.beq i j))&&(rs.contains i||rs.all fun k => !dn.contains k||da ops i k)&&JL ops rs (i::dn) r
def zOk (ops:Array Oper) (kk:Nat) (rs pi:List Nat):Bool :=
 ((List.range ops.size).all fun i=>lY ops i) &&
 ((List.range kk).all fun i=>(List.range i).all fun j=>(et ops j).isNone || !(et ops i==et ops j)) &&
 ((List.range kk).all fun i=>(List.range kk).all fun j=>match et ops j with
  |some d => !dJ ops i d||da ops i j||da ops j i||Nat.beq i j
  |none=>true) &&
 ((List.range kk).all fun i=>pi.contains i)&&(pi.all fun i=>Nat.blt i kk)&&JL ops rs [] pi &&
 ((List.range rs.length).all fun t=>Nat.blt (rs.getD t 0) kk&&(List.range t).all fun u=>da ops (rs.getD t 0) (rs.getD u 0) && !(Nat.beq (rs.getD u 0) (rs.getD t 0))) &&
 Nat.ble kk ops.size&&((List.range ops.size).all fun i=>Nat.blt i kk||(List.range i).all fun j=>da ops i j)
def TZ (P:Program) (C:Ctx) (n:Nat) (ops:Array Oper) (i:Nat) (o:Oper) (Fe:Fr) (H:LH) (Post:SV→LH→Prop):Prop :=
 ∀F,(∀t,t∈o.looksAt ops→Fe t=F t)→∀a w,St C n F H a w→∀(Q':Exit→Act→World→Prop) (K':Act→World→Prop),(∀ch a' w',Pan C ch a' w'→Q' (.panic ch) a' w')→(∀sv H',Post sv H'→∀a' w',St C n (ib o F sv) H' a' w'→K' a' w')→wpOp P ops Q' i K' a w
inductive Mz (P:Program) (C:Ctx) (n:Nat) (ops:Array Oper) (rs:List Nat) (Hc:LH) (K:Fr→LH→Prop):Nat→List NO'→Fr→LH→Prop
 |nil {s:Nat}{F:Fr}{E:LH}(h:K F (E++Hc)):Mz P C n ops rs Hc K s [] F E
 |free {s i d:Nat}{o:Oper}{sv:SV}{r:List NO'}{F:Fr}{E:LH}(hr:rs.contains i=false) (hd:o.dst=some d) (hdn:Nat.blt d n=true) (hds:DS P ops n Hc o F sv) (h:Mz P C n ops rs Hc K s r (upd F d sv) E):Mz P C n ops rs Hc K s ((i,o)::r) F E
 |late {s i d:Nat}{o:Oper}{sv:SV}{r:List NO'}{F:Fr}{E:LH}(hl:rs.length=s) (hr:rs.contains i=false) (hd:o.dst=some d) (hdn:Nat.blt d n=true) (hds:DS P ops n (E++Hc) o F sv) (h:Mz P C n ops rs Hc K s r (upd F d sv) E):Mz P C n ops rs Hc K s ((i,o)::r) F E
 |row {s i:Nat}{o:Oper}{r:List NO'}{F:Fr}{E:LH}{Post:SV→LH→Prop}(hr:rs[s]? = some i) (ht:TZ P C n ops i o F (E++Hc) (fun sv H'=>∃E',H'=E'++Hc∧Post sv E')) (h:∀sv E',Post sv E'→Mz P C n ops rs Hc K (s+1) r (ib o F sv) E'):Mz P C n ops rs Hc K s ((i,o)::r) F E
theorem eV {x:NO'}{r:List NO'}{t:Nat}:er (x::r) t=(x.2.dst==some t||er r t):=rfl
theorem eW {l r:List NO'}{t:Nat}:er (l++r) t=(er l t||er r t):=by unfold er;rw [pS]
def T7 (P:Program) (C:Ctx) (n:Nat) (ops:Array Oper) (rs:List Nat) (Hc:LH) (K:Fr→LH→Prop) (s:Nat) (rest:List NO') (G:Fr) (E:LH):Prop :=
 (rest=[]∧K G (E++Hc))∨∃i o r,rest=(i,o)::r∧rs[s]? = some i∧∃Post:SV→LH→Prop,TZ P C n ops i o G (E++Hc) (fun sv H'=>∃E',H'=E'++Hc∧Post sv E')∧∀sv E',Post sv E'→Mz P C n ops rs Hc K (s+1) r (ib o G sv) E'
def ZV (P:Program) (n:Nat) (ops:Array Oper) (rs:List Nat) (s:Nat) (E Hc:LH) (F0 G:Fr) (l1:List NO') (o:Oper):Prop :=
 ∃Hd d Fk,(Hd=Hc∨(rs.length=s∧Hd=E++Hc))∧o.dst=some d∧Nat.blt d n=true∧(∀t,Fk t=if er l1 t=true then G t else F0 t)∧DS P ops n Hd o Fk (G d)
def Cn (L:List NO'):Prop:=∀l1 x l2 t,L=l1++x::l2→x.2.dst=some t→er l1 t=false∧er l2 t=false
theorem Cn.tail {x:NO'}{L:List NO'}(h:Cn (x::L)):Cn L:=fun l1 y l2 t he hd=>by
 have:=h (x::l1) y l2 t (by rw [he];rfl) hd;rw [eV,cg]at this;exact⟨this.1.2,this.2⟩
theorem Mz.walk {s:Nat}{L:List NO'}{E:LH}(h:Mz P C n ops rs Hc K s L F E):Cn L→∃pre rest G,L=pre++rest∧(∀x∈pre,rs.contains x.1=false)∧(∀l1 i o l2,pre=l1++(i,o)::l2→ZV P n ops rs s E Hc F G l1 o)∧
  (∀t,er pre t=false→G t=F t)∧T7 P C n ops rs Hc K s rest G E:=by
 induction h with
 | @nil s F E h=>exact fun _=>⟨[],[],F,rfl,(fun x hx=>by cases hx),(fun l1 i o l2 he=>by cases l1 <;> cases he),fun _ _=>rfl, .inl ⟨rfl,h⟩⟩
 | @row s i o r F E Post hr ht h _=>exact fun _=>⟨[],_,F,rfl,(fun x hx=>by cases hx),(fun l1 i o l2 he=>by cases l1 <;> cases he),fun _ _=>rfl, .inr ⟨i,o,r,rfl,hr,Post,ht,h⟩⟩
 | @free s i d o sv r F E hr hd hdn hds h ih =>
  intro h1;obtain⟨pre,rest,G,rfl,g1,g2,g3,g4⟩:=ih h1.tail
  have hpre:er pre d=false:=by
   have:=(h1 [] (i,o) (pre++rest) d rfl hd).2;rw [eW,cg]at this;exact this.1
  have hGd:G d=sv:=by rw [g3 d hpre,bS]
  refine⟨(i,o)::pre,rest,G,rfl,fun x hx=>?_,fun l1 i' o' l2 he=>?_,fun t ht=>?_,g4⟩
  ·rcases ak.1 hx with rfl|hx
   ·exact hr
   ·exact g1 x hx
  ·cases l1 with
   |nil =>
    simp only [a8,dV,cP]at he;obtain⟨⟨rfl,rfl⟩,rfl⟩:=he;exact⟨Hc,d,F, .inl rfl,hd,hdn,fun t=>by simp [er],hGd▸hds⟩
   |cons x l1 =>
    simp only [ab,dV]at he;obtain⟨rfl,rfl⟩:=he;obtain⟨Hd,d',Fk,k0,k1,k2,k3,k4⟩:=g2 l1 i' o' l2 rfl;refine⟨Hd,d',Fk,k0,k1,k2,fun t=>?_,k4⟩;rw [k3 t,eV];by_cases ht:t=d
    ·subst ht;rw [eW,cg]at hpre;rw [hpre.1];simp only [hd,nf,bs,aV,bE,aO,bS,hGd]
    ·have:(o.dst==some t)=false:=by rw [hd];simpa using fun e=>ht e.symm
     simp only [this,aW,bz ht]
  ·rw [eV,cg]at ht;rw [g3 t ht.2,bz fun e=>?_];rw [hd,e]at ht;simp at ht
 | @late s i d o sv r F E hl hr hd hdn hds h ih =>
  intro h1;obtain⟨pre,rest,G,rfl,g1,g2,g3,g4⟩:=ih h1.tail
  have hpre:er pre d=false:=by
   have:=(h1 [] (i,o) (pre++rest) d rfl hd).2;rw [eW,cg]at this;exact this.1
  have hGd:G d=sv:=by rw [g3 d hpre,bS]
  refine⟨(i,o)::pre,rest,G,rfl,fun x hx=>?_,fun l1 i' o' l2 he=>?_,fun t ht=>?_,g4⟩
  ·rcases ak.1 hx with rfl|hx
   ·exact hr
   ·exact g1 x hx
  ·cases l1 with
   |nil =>
    simp only [a8,dV,cP]at he;obtain⟨⟨rfl,rfl⟩,rfl⟩:=he;exact⟨E++Hc,d,F, .inr ⟨hl,rfl⟩,hd,hdn,fun t=>by simp [er],hGd▸hds⟩
   |cons x l1 =>
    simp only [ab,dV]at he;obtain⟨rfl,rfl⟩:=he;obtain⟨Hd,d',Fk,k0,k1,k2,k3,k4⟩:=g2 l1 i' o' l2 rfl;refine⟨Hd,d',Fk,k0,k1,k2,fun t=>?_,k4⟩;rw [k3 t,eV];by_cases ht:t=d
    ·subst ht;rw [eW,cg]at hpre;rw [hpre.1];simp only [hd,nf,bs,aV,bE,aO,bS,hGd]
    ·have:(o.dst==some t)=false:=by rw [hd];simpa using fun e=>ht e.symm
     simp only [this,aW,bz ht]
  ·rw [eV,cg]at ht;rw [g3 t ht.2,bz fun e=>?_];rw [hd,e]at ht;simp at ht
theorem F7 {l:List Oper}:∀{pi:List Nat},(∀i∈pi,i<l.length)→(pk l pi).map (·.1)=pi
 | [],_=>rfl
 |i::r,h=>by
  have hi:=h i (by simp);have:l[i]? = some l[i]:=by simp [hi]
  unfold pk;rw [this];rw [aD,F7 fun j hj=>h j (Mc hj)]
theorem By {l:List Oper}{x:NO'}:∀{pi:List Nat},x∈pk l pi→l[x.1]? = some x.2
 | [],h=>by cases h
 |i::r,h=>by
  unfold pk at h;cases ho:l[i]? with
  |none=>rw [ho]at h;exact By h
  |some o =>
   rw [ho]at h;rcases ak.1 h with rfl|h
   ·exact ho
   ·exact By h
theorem vH:∀{pi dn:List Nat},JL ops rs dn pi=true→∀l1 i l2,pi=l1++i::l2→(∀j∈l2,da ops i j=false∧i≠j)∧(rs.contains i=false→∀k∈rs,k∈l1∨k∈dn→da ops i k=true)
 | [],_,_,l1,i,l2,he=>by cases l1 <;> cases he
 |j::r,dn,h,l1,i,l2,he=>by
  simp only [JL,bG,fQ,bO,fw]at h;obtain⟨⟨h1,h2⟩,h3⟩:=h;cases l1 with
  |nil =>
   simp only [a8,dV]at he;obtain⟨rfl,rfl⟩:=he;refine⟨fun k hk=>⟨(h1 k hk).1,fun e=>?_⟩,fun hr k hk hkd=>?_⟩
   ·have:=(h1 k hk).2;rw [e,cY]at this;cases this
   ·rcases h2 with h2|h2
    ·rw [hr]at h2;cases h2
    ·rcases hkd with hkd|hkd
     ·cases hkd
     ·rcases h2 k hk with h|h
      ·rw [fv.2 hkd]at h;cases h
      ·exact h
  |cons x l1 =>
   simp only [ab,dV]at he;obtain⟨rfl,rfl⟩:=he;obtain⟨g1,g2⟩:=vH h3 l1 i l2 rfl;refine⟨g1,fun hr k hk hkd=>g2 hr k hk ?_⟩;rcases hkd with hkd|hkd
   ·rcases ak.1 hkd with rfl|hkd
    ·exact .inr (by simp)
    ·exact .inl hkd
   ·exact .inr (by simp [hkd])
structure T8 (ops:Array Oper) (kk:Nat) (rs:List Nat) (PI:List NO'):Prop where
 back:∀i,i<ops.size→lY ops i=true
 look:∀i j d,i<kk→j<kk→et ops j=some d→dJ ops i d=true→da ops i j=true∨da ops j i=true∨i=j
 all:∀i o,i<kk→ops[i]? = some o→(i,o)∈PI
 get:∀x∈PI,ops[x.1]? = some x.2
 lt:∀x∈PI,x.1<kk
 hk:kk≤ops.size
 tail:∀i,i<ops.size→kk≤i→∀j,j<i→da ops i j=true
 top:∀l1 x l2,PI=l1++x::l2→(∀y∈l2,da ops x.1 y.1=false∧x.1≠y.1)∧(rs.contains x.1=false→∀y∈l1,rs.contains y.1=true→da ops x.1 y.1=true)
 row:∀(t k:Nat),rs[t]? = some k→k<kk∧∀(u:Nat) (k':Nat),u<t→rs[u]? = some k'→da ops k k'=true∧k'≠k
 dst1:Cn PI
theorem AA {l:List NO'}{l1 l2:List NO'}{x:NO'}(h:l=l1++x::l2):l.map (·.1)=l1.map (·.1)++x.1::l2.map (·.1):=by subst h;simp
theorem JM {l:List Oper}{kk:Nat}{pi:List Nat}(h:zOk l.toArray kk rs pi=true):T8 l.toArray kk rs (pk l pi):=by
 simp only [zOk,bG,fQ,dE]at h;obtain⟨⟨⟨⟨⟨⟨⟨⟨h1,h2⟩,h3⟩,h4⟩,h5⟩,h6⟩,h7⟩,h8⟩,h9⟩:=h;have hkk:kk≤l.toArray.size:=gY h8;have hkl:kk≤l.length:=by simpa using hkk
 have hlt:∀i∈pi,i<l.length:=fun i hi=>cQ (ay.mp (h5 i hi)) hkl
 have hfst:=F7 hlt;have hget:∀x∈pk l pi,l.toArray[x.1]? = some x.2:=fun x hx=>by simpa using By hx
 have htop:∀l1 x l2,pk l pi=l1++x::l2→(∀y∈l2,da l.toArray x.1 y.1=false∧x.1≠y.1)∧(rs.contains x.1=false→∀y∈l1,rs.contains y.1=true→da l.toArray x.1 y.1=true):=fun l1 x l2 he=>by
  have:=AA he;rw [hfst]at this;obtain⟨g1,g2⟩:=vH h6 _ _ _ this;exact⟨fun y hy=>g1 y.1 (aj.2 ⟨y,hy,rfl⟩),fun hr y hy hyr=>g2 hr y.1 (fv.1 hyr) (.inl (aj.2 ⟨y,hy,rfl⟩))⟩
 have hltk:∀x∈pk l pi,x.1<kk:=fun x hx=>by
  have:x.1∈(pk l pi).map (·.1):=aj.2 ⟨x,hx,rfl⟩;rw [hfst]at this;exact ay.mp (h5 _ this)
 have hdis:∀i j d,i<kk→j<i→et l.toArray j=some d→et l.toArray i≠some d:=fun i j d hi hj hd he=>by
  have:=h2 i hi j hj;simp only [bO,fw]at this;rcases this with h|h
  ·rw [hd]at h;cases h
  ·rw [hd,he]at h;simp at h
 have hdne:∀x∈pk l pi,∀y∈pk l pi,x.1≠y.1→∀t,x.2.dst=some t→y.2.dst≠some t:=fun x hx y hy hne t hxt hyt=>by
  have gx:=hget x hx;have gy:=hget y hy;have sx:=hltk x hx;have sy:=hltk y hy;rcases nM hne with h|h
  ·exact hdis y.1 x.1 t sy h (by rw [dq gx,hxt]) (by rw [dq gy,hyt])
  ·exact hdis x.1 y.1 t sx h (by rw [dq gy,hyt]) (by rw [dq gx,hxt])
 refine⟨fun i hi=>h1 i hi,fun i j d hi hj hd hl=>?_,fun i o hi ho=>?_,hget,hltk,hkk,fun i hi hk j hj=>?_,htop,fun t k hk=>?_,fun l1 x l2 t he hd=>?_⟩
 ·have:=h3 i hi j hj;rw [hd]at this;simp only [hl,kU,aW,bO]at this;rcases this with(h|h)|h
  ·exact .inl h
  ·exact .inr (.inl h)
  ·exact .inr (.inr (bA h))
 ·have hm:i∈pi:=fv.1 (h4 i hi);rw [←hfst]at hm;obtain⟨x,hx,rfl⟩:=aj.1 hm;have:=hget x hx;rw [ho]at this;obtain rfl:=bZ this;exact hx
 ·have:=h9 i hi;simp only [bO,ay,fQ,dE]at this;rcases this with h|h
  ·omega
  ·exact h j hj
 ·have ht:=(bI.1 hk).1;have gk:rs.getD t 0=k:=by simp [List.getD,hk]
  obtain⟨g1,g2⟩:=h7 t ht;rw [gk]at g1 g2;refine⟨ay.mp g1,fun u k' hu hk'=>?_⟩;have gk':rs.getD u 0=k':=by simp [List.getD,hk']
  have:=g2 u hu;rw [gk']at this;simp only [fw]at this;exact⟨this.1,fun e=>by rw [e,cY]at this;cases this.2⟩
 ·have hmx:x∈pk l pi:=by rw [he];simp
  have hne1:∀y∈l1,y.1≠x.1:=fun y hy=>by
   obtain⟨a,b,hab⟩:=dA hy;exact((htop a y (b++x::l2) (by rw [he,hab];simp)).1 x (by simp)).2
  have hne2:∀y∈l2,y.1≠x.1:=fun y hy=>fun e=>((htop l1 x l2 he).1 y hy).2 e.symm
  constructor
  ·cases hb:er l1 t with
   |false=>rfl
   |true =>
    obtain⟨y,hy,hyt⟩:=eI.1 hb;exact absurd hyt (hdne x hmx y (by rw [he];simp [hy]) (hne1 y hy).symm t hd)
  ·cases hb:er l2 t with
   |false=>rfl
   |true =>
    obtain⟨y,hy,hyt⟩:=eI.1 hb;exact absurd hyt (hdne x hmx y (by rw [he];simp [hy]) (hne2 y hy).symm t hd)
def zF (ops:Array Oper) (listed:Array Bool) (G F0:Fr):Fr:=fun t=>if kf ops listed t=true then G t else F0 t
theorem iO {listed:Array Bool}{t:Nat}:kf ops listed t=true↔∃j o,ops[j]? = some o∧listed.getD j false=true∧o.dst=some t:=by
 unfold kf;simp only [lz,dE,bG];constructor
 ·rintro ⟨j,hj,h1,h2⟩;exact⟨j,ops[j],by simp [hj],h1,by rw [dq (o:=ops[j]) (by simp [hj])]at h2;simpa using h2⟩
 ·rintro ⟨j,o,ho,h1,h2⟩;exact⟨j,(dt.1 ho).1,h1,by rw [dq ho,h2];simp⟩
structure T6 (P:Program) (C:Ctx) (n:Nat) (ops:Array Oper) (rs:List Nat) (Hc:LH) (K:Fr→LH→Prop) (PI:List NO') (F0:Fr) (s:Nat) (listed:Array Bool) (dn rest:List NO') (G:Fr) (E:LH):Prop where
 pi:PI=dn++rest
 v:∀l1 i o l2,dn=l1++(i,o)::l2→rs.contains i=false→ZV P n ops rs s E Hc F0 G l1 o
 out:∀t,er dn t=false→G t=F0 t
 fin:T7 P C n ops rs Hc K s rest G E
 don:∀x∈dn,rs.contains x.1=true→listed.getD x.1 false=true
 lst:∀j,listed.getD j false=true→∃o,(j,o)∈dn
 size:listed.size=ops.size
 closed:jZ ops listed
 cnt:∀(u k:Nat),rs[u]? = some k→(listed.getD k false=true↔u<s)
theorem js {listed:Array Bool}{j:Nat}(hs:listed.size=ops.size) (hj:j<ops.size):listed.getD j true=listed.getD j false:=by
 have hsz:j<listed.size:=by omega
 simp [hsz]
theorem gq {listed:Array Bool}{i j:Nat}(hs:listed.size=ops.size) (hi:i<ops.size):(listed.setIfInBounds i true).getD j false=true↔listed.getD j false=true∨j=i:=by
 by_cases hji:i=j
 ·subst hji;simp [hs,hi]
 ·rw [getD_set_ne false hji];exact⟨.inl,fun h=>h.elim id fun e=>absurd e.symm hji⟩
theorem Tj {Q' : Exit → Act → World → Prop} {kk : Nat} {PI : List NO'} (hc : T8 ops kk rs PI) (hpan : ∀ ch a w, Pan C ch a w → Q' (.panic ch) a w) (fin : ∀ G E a w, K G (E ++ Hc) → St C n G (E ++ Hc) a w → wpList P ops Q' (ops.toList.drop kk) a w) :
    ∀(fuel s:Nat) (listed:Array Bool) (a:Act) (w:World) (dn rest:List NO') (G:Fr) (E:LH),(left ops kk listed).length+(ops.size-kk)≤fuel→T6 P C n ops rs Hc K PI F0 s listed dn rest G E→St C n (zF ops listed G F0) (E++Hc) a w→wpAny P .any ops Q' fuel listed a w:=by
  have hkk:=hc.hk
  have done:∀(fuel s:Nat) (listed:Array Bool) (a:Act) (w:World) (dn rest:List NO') (G:Fr) (E:LH),ops.size-kk≤fuel→left ops kk listed=[]→T6 P C n ops rs Hc K PI F0 s listed dn rest G E→St C n (zF ops listed G F0) (E++Hc) a w→wpAny P .any ops Q' fuel listed a w:=by
    intro fuel s listed a w dn rest G E hfu hnil hi hst
    have all:∀j,j<kk→listed.getD j false=true:=fun j hj=>by
      cases hb:listed.getD j false with
      |true=>rfl
      |false =>
        have:(j,ops[j])∈left ops kk listed:=cq.2 ⟨hj,by simp,by simp only;rw [js hi.size om];exact hb⟩;rw [hnil]at this;cases this
    have hrest:rest=[]:=by
      cases rest with
      |nil=>rfl
      |cons x r =>
        exfalso;have hx:x∈PI:=by rw [hi.pi];simp
        obtain⟨o,ho⟩:=hi.lst x.1 (all _ (hc.lt x hx));obtain⟨l1,l2,hl⟩:=dA ho;exact((hc.top l1 (x.1,o) (l2++x::r) (by rw [hi.pi,hl];simp)).1 x (by simp)).2 rfl
    have hK:K G (E++Hc):=by
      rcases hi.fin with⟨_,h⟩|⟨i,o,r,h,_⟩
      · exact h
      · rw [hrest]at h;cases h
    refine Bf hc.back hc.tail fuel kk listed a w (au _) hi.size hi.closed hfu (fun j hj=>by rw [js hi.size om];exact all j hj) (fun j hj hjs=>?_) (fin G E a w hK (hst.le fun t=>Le.of_eq ?_))
    · rw [js hi.size hjs]
      cases hb:listed.getD j false with
      |false=>rfl
      |true =>
        obtain⟨o,ho⟩:=hi.lst j hb;have:=hc.lt (j,o) (by rw [hi.pi];simp [ho]);simp only at this;omega
    unfold zF;split
    · rfl
    · rename_i hb
      refine(hi.out t ?_).symm;cases hd:er dn t with
      |false=>rfl
      |true =>
        obtain⟨x,hx,hxt⟩:=eI.1 hd;have hx':x∈PI:=by rw [hi.pi];simp [hx]
        have hg:=hc.get x hx';exact absurd (iO.2 ⟨x.1,x.2,hg,all _ (hc.lt x hx'),hxt⟩) hb
  have noready:∀(listed:Array Bool),listed.size=ops.size→Region.ready .any ops listed=[]→left ops kk listed=[]:=fun listed hs hr=>by
    cases hl:left ops kk listed with
    |nil=>rfl
    |cons x l' =>
      exfalso;obtain⟨i,o⟩:=x;have hmem:(i,o)∈left ops kk listed:=by rw [hl];simp
      obtain⟨h1,h2,h3⟩:=cq.1 hmem;simp only at h1 h2 h3
      have hready:i∈Region.ready .any ops listed:=by
        rw [mem_ready];refine⟨h3,o,h2,fun e he hb=>?_⟩;have hlt:=jT (hc.back i om) h2 e he hb;cases hle:listed.getD e.on false with
        |true=>rfl
        |false =>
          have hm2:(e.on,ops[e.on]' om)∈left ops kk listed:=cq.2 ⟨by simp only;omega,by simp,by simp only;rw [js hs om];exact hle⟩;have hsort:=fO (ops:=ops) kk listed;rw [hl]at hsort hm2;rcases ak.1 hm2 with h|h
          · simp only [cP]at h;omega
          · have:=(eC.1 hsort).1 _ h;simp at this;omega
      rw [hr]at hready;cases hready
  intro fuel;induction fuel with
  |zero =>
    intro s listed a w dn rest G E hfu hi hst;exact done 0 s listed a w dn rest G E om (cT om) hi hst
  |succ fuel ih =>
    intro s listed a w dn rest G E hfu hi hst;by_cases hnil:left ops kk listed=[]
    · exact done (fuel+1) s listed a w dn rest G E om hnil hi hst
    refine⟨fun hrd=>absurd (noready listed hi.size hrd) hnil,fun i him=>?_⟩;obtain⟨hun,o,ho,_⟩:=mem_ready.1 him;have hio:=(dt.1 ho).1
    have hik:i<kk:=by
      rcases aJ i kk with h|h
      · exact h
      · exfalso
        obtain⟨x,hx⟩:=t7 _ hnil;obtain⟨q1,q2,q3⟩:=cq.1 hx;have:=bV hi.closed him (hc.tail i hio h x.1 om);rw [js hi.size om,this]at q3;cases q3
    rw [js hi.size hio]at hun;have hmem:(i,o)∈left ops kk listed:=cq.2 ⟨hik,ho,by simp only;rw [js hi.size hio];exact hun⟩;obtain⟨l1,l2,hl12⟩:=dA hmem;have hset:=pD hi.size hio hl12;have hlen:(l1++l2).length+1=(left ops kk listed).length:=by rw [hl12];simp;omega
    have hls:(listed.setIfInBounds i true).size=ops.size:=by simpa using hi.size
    have hPI:=hc.all i o hik ho
    have ahead:∀(x:NO') (t:Nat),x∈PI→x.2.dst=some t→t∈o.looksAt ops→(da ops i x.1=true∨da ops x.1 i=true∨i=x.1):=fun x t hx hxt ht=>by
      have hg:=hc.get x hx;exact hc.look i x.1 t hik (hc.lt x hx) (by rw [dq hg,hxt]) (by unfold dJ;rw [ho];simpa using ht)
    rw [hi.pi]at hPI;cases hir:rs.contains i with
    |false =>
      have hdn:(i,o)∈dn:=by
        rcases az.1 hPI with h|h
        · exact h
        · exfalso
          rcases hi.fin with⟨hr,_⟩|⟨i',o',r,hr,hrs,_⟩
          · rw [hr]at h;cases h
          · rw [hr]at h
            rcases ak.1 h with h|h
            · cases h
              rw [fv.2 (bn hrs)]at hir;cases hir
            · obtain⟨a1,a2,ha⟩:=dA h
              have htop:=(hc.top (dn++(i',o')::a1) (i,o) a2 (by rw [hi.pi,hr,ha];simp)).2 hir (i',o') (by simp) (fv.2 (bn hrs));have h1:=bV hi.closed him htop;have:=(hi.cnt s i' hrs).1 h1;omega
      obtain⟨k1,k2,hk⟩:=dA hdn;obtain⟨Hd,d,Fk,hHd,hd,hdn',hFk,hds⟩:=hi.v k1 i o k2 hk hir;have hPIk:PI=k1++(i,o)::(k2++rest):=by rw [hi.pi,hk];simp
      have hag:∀t,t∈o.looksAt ops→Fk t=zF ops listed G F0 t:=fun t ht=>by
        rw [hFk t];unfold zF
        have:er k1 t=kf ops listed t:=by
          rw [kA,eI,iO];constructor
          · rintro ⟨x,hx,hxt⟩
            have hxP:x∈PI:=by rw [hPIk];simp [hx]
            obtain⟨b1,b2,hb⟩:=dA hx;have htop:=(hc.top b1 x (b2++(i,o)::(k2++rest)) (by rw [hPIk,hb];simp)).1 (i,o) (by simp);refine⟨x.1,x.2,hc.get x hxP,?_,hxt⟩;rcases ahead x t hxP hxt ht with h|h|h
            · exact bV hi.closed him h
            · rw [htop.1]at h;cases h
            · exact absurd h.symm htop.2
          · rintro ⟨j,o',hj,hjl,hjt⟩
            have hjP:(j,o')∈PI:=by
              obtain⟨o2,h2⟩:=hi.lst j hjl;have h3:(j,o2)∈PI:=by rw [hi.pi];simp [h2]
              have hg:=hc.get _ h3;simp only at hg;rw [hj]at hg;obtain rfl:=bZ hg;exact h3
            have hne:j≠i:=fun e=>by rw [e]at hjl;rw [hun]at hjl;cases hjl
            rcases ahead (j,o') t hjP hjt ht with h|h|h
            · rw [hPIk]at hjP
              rcases az.1 hjP with h'|h'
              · exact⟨_,h',hjt⟩
              · exfalso
                rcases ak.1 h' with h'|h'
                · cases h';exact hne rfl
                · have:=((hc.top k1 (i,o) (k2++rest) hPIk).1 (j,o') h').1
                  simp only at this h;rw [this]at h;cases h
            · exfalso
              have:=yZ hi.closed hjl h;rw [hun]at this;cases this
            · exact absurd h.symm hne
        rw [this]
      have hds':=hds.frame hag;obtain⟨hdef,hn,m,h1,h2,h3,h4,h5⟩:=hst
      have key:∀v m' w',(G d).p m' v→dD m' w'→HOk m' w' (E++Hc)→Rel (keys (E++Hc)) m w m' w'→wpAny P .any ops Q' fuel (listed.setIfInBounds i true) (a.put (some d) v) w':=by
       intro v m' w' hv' hm' hH' r;refine ih s _ _ _ dn rest G E (by rw [hset];omega) ⟨hi.pi,hi.v,hi.out,hi.fin,fun x hx hxr=>(gq hi.size hio).2 (.inl (hi.don x hx hxr)),fun j hj=>?_,hls,hi.closed.step him,fun u k hk'=>?_⟩ ?_
       · rcases(gq hi.size hio).1 hj with h|rfl
         · exact hi.lst j h
         · exact⟨o,hdn⟩
       · rw [gq hi.size hio,hi.cnt u k hk']
         refine⟨fun h=>h.elim id fun e=>?_, .inl⟩;rw [←e,fv.2 (bn hk')]at hir;cases hir
       · have hz:zF ops (listed.setIfInBounds i true) G F0=upd (zF ops listed G F0) d (G d):=by
           funext t
           unfold zF;rw [pC hi.size ho,hd];by_cases ht:t=d
           · subst ht;rw [bS];simp
           · rw [bz ht]
             have:(some d==some t)=false:=by simpa using fun e=>ht e.symm
             rw [this,aQ]
         rw [hz];exact St.put (ay.mp hdn') hdef hn h2 h3 h4 h5 hv' hm' hH' r
      rcases hHd with rfl|⟨-,rfl⟩
      · exact hds'.wp ho hd hn h1 h2.tail h5 fun v m' w' hv' hm' hH' r=>key v m' w' hv' hm' (h2.beside hH' r) (r.mono fun b hb=>by unfold keys at *;rw [aH];exact cN _ hb)
      · exact hds'.wp ho hd hn h1 h2 h5 key
    |true =>
      obtain⟨u,hu⟩:=sV.1 (fv.1 hir);have hus:¬u<s:=fun h=>by have:=(hi.cnt u i hu).2 h;rw [hun]at this;cases this
      have hndn:∀o',(i,o')∉dn:=fun o' h=>by have:=hi.don _ h hir;simp only at this;rw [hun]at this;cases this
      have hrest:(i,o)∈rest:=by
        rcases az.1 hPI with h|h
        · exact absurd h (hndn o)
        · exact h
      rcases hi.fin with⟨hr,_⟩|⟨i',o',r,hr,hrs,Post,hts,hnext⟩
      · rw [hr]at hrest;cases hrest
      have hii:i'=i:=by
        have hsu:u=s:=by
          rcases gQ u s with h|h|h
          · exact absurd h hus
          · exact h
          · exfalso
            have h2:=((hc.row u i hu).2 s i' h hrs).1;have h3:=bV hi.closed him h2;have:=(hi.cnt s i' hrs).1 h3;omega
        subst hsu;rw [hu]at hrs;exact(bZ hrs).symm
      subst hii
      have hoo:o'=o:=by
        have hg:=hc.get (i',o') (by rw [hi.pi,hr];simp);simp only at hg;rw [ho]at hg;exact(bZ hg).symm
      subst hoo;have hPIk:PI=dn++(i',o')::r:=by rw [hi.pi,hr]
      have hag:∀t,t∈o'.looksAt ops→G t=zF ops listed G F0 t:=fun t ht=>by
        unfold zF;split
        · rfl
        · rename_i hb
          refine hi.out t ?_;cases hd:er dn t with
          |false=>rfl
          |true =>
            exfalso;obtain⟨x,hx,hxt⟩:=eI.1 hd;have hxP:x∈PI:=by rw [hPIk];simp [hx]
            obtain⟨b1,b2,hb'⟩:=dA hx;have htop:=(hc.top b1 x (b2++(i',o')::r) (by rw [hPIk,hb'];simp)).1 (i',o') (by simp);rcases ahead x t hxP hxt ht with h|h|h
            · exact hb (iO.2 ⟨x.1,x.2,hc.get x hxP,bV hi.closed him h,hxt⟩)
            · rw [htop.1]at h;cases h
            · exact absurd h.symm htop.2
      refine hts _ hag a w hst Q' _ hpan fun sv H' hP a' w' hst'=>?_
      obtain⟨E',rfl,hP⟩:=hP;have hd1:=hc.dst1
      have hdr:Cn r:=fun l1 x l2 t he hd=>by
        have:=hd1 (dn++(i',o')::l1) x l2 t (by rw [hPIk,he];simp) hd;rw [eW,eV,cg,cg]at this;exact⟨this.1.2.2,this.2⟩
      obtain⟨pre,rest',G',hpr,g1,g2,g3,g4⟩:=(hnext sv E' hP).walk hdr;have hPI2:PI=(dn++(i',o')::pre)++rest':=by rw [hPIk,hpr];simp
      have hGd:∀t,er dn t=true→G' t=G t:=fun t ht=>by
        obtain⟨x,hx,hxt⟩:=eI.1 ht;obtain⟨b1,b2,hb'⟩:=dA hx;have:=(hd1 b1 x (b2++(i',o')::r) t (by rw [hPIk,hb'];simp) hxt).2;rw [hpr,eW,eV,eW,cg,cg,cg]at this;obtain⟨_,q1,q2,_⟩:=this;rw [g3 t q2];unfold ib;cases hod:o'.dst with
        |none=>rfl
        |some d=>exact bz fun e=>by rw [hod,e]at q1;simp at q1
      have hGo:∀d,o'.dst=some d→G' d=sv:=fun d hd=>by
        have:=(hd1 dn (i',o') r d hPIk hd).2;rw [hpr,eW,cg]at this;rw [g3 d this.1];unfold ib;rw [hd];exact bS
      have hG0:∀t,er dn t=false→o'.dst≠some t→er pre t=false→G' t=F0 t:=fun t h1 h2 h3=>by
        rw [g3 t h3];unfold ib;cases hod:o'.dst with
        |none=>exact hi.out t h1
        |some d =>
          simp only;rw [bz fun e=>h2 (by rw [hod,e])];exact hi.out t h1
      refine ih (s+1) _ _ _ (dn++(i',o')::pre) rest' G' E' (by rw [hset];omega) ⟨hPI2,fun l1' j oj l2' he hj=>?_,fun t ht=>?_,g4,fun x hx hxr=>?_,fun j hj=>?_,hls,hi.closed.step him,fun u' k hk'=>?_⟩ ?_
      · -- what is known of the free ones
        rcases xx.1 he with⟨c,hc1,hc2⟩|⟨c,hc1,hc2⟩
        · -- (i',o')::pre=c++(j,oj)::l2'
          cases c with
          |nil =>
            simp only [a8,dV,cP]at hc2;obtain⟨⟨rfl,_⟩,_⟩:=hc2;rw [hir]at hj;cases hj
          |cons x c =>
            simp only [ab,dV]at hc2;obtain⟨rfl,hc2⟩:=hc2;obtain⟨Hd,d',Fk,k0,k1,k2,k3,k4⟩:=g2 c j oj l2' hc2;refine⟨Hd,d',Fk,k0,k1,k2,fun t=>?_,k4⟩;rw [k3 t,hc1,eW,eV];by_cases ht1:er c t=true
            · rw [ht1];simp
            · rw [Bool.not_eq_true]at ht1
              rw [ht1];simp only [bE,aO,aQ];unfold ib;cases hod:o'.dst with
              |none =>
                simp only [bO];by_cases hdt:er dn t=true
                · rw [if_pos (.inl hdt),hGd t hdt]
                · rw [if_neg (by rintro (h|h);exact hdt h;simp at h)]
                  exact hi.out t (by simpa using hdt)
              |some d =>
                simp only [bO,pQ,bM];by_cases htd:t=d
                · subst htd
                  rw [if_pos (.inr rfl),bS,hGo _ hod]
                · rw [bz htd]
                  by_cases hdt:er dn t=true
                  · rw [if_pos (.inl hdt),hGd t hdt]
                  · rw [if_neg (by rintro (h|h);exact hdt h;exact htd h.symm)]
                    exact hi.out t (by simpa using hdt)
        · cases c with
          |nil =>
            simp only [a8,dV,cP]at hc2;obtain⟨⟨rfl,_⟩,_⟩:=hc2;rw [hir]at hj;cases hj
          |cons x c =>
            simp only [ab,dV]at hc2;obtain⟨rfl,_⟩:=hc2;obtain⟨Hd,d',Fk,k0,k1,k2,k3,k4⟩:=hi.v l1' j oj c hc1 hj;have k0':Hd=Hc:=k0.resolve_right fun h=>by have:=(bI.1 hrs).1;omega
            have hG'd:G' d'=G d':=hGd d' (eI.2 ⟨(j,oj),by rw [hc1];simp,k1⟩);refine⟨Hd,d',Fk, .inl k0',k1,k2,fun t=>?_,hG'd▸k4⟩;rw [k3 t];by_cases ht:er l1' t=true
            · rw [if_pos ht,if_pos ht,hGd t (by rw [hc1,eW,ht];rfl)]
            · rw [if_neg ht,if_neg ht]
      · rw [eW,eV,cg,cg]at ht
        exact hG0 t ht.1 (fun e=>by rw [e]at ht;simp at ht) ht.2.2
      · rcases az.1 hx with h|h
        · exact(gq hi.size hio).2 (.inl (hi.don x h hxr))
        · rcases ak.1 h with rfl|h
          · exact(gq hi.size hio).2 (.inr rfl)
          · rw [g1 x h]at hxr;cases hxr
      · rcases(gq hi.size hio).1 hj with h|rfl
        · obtain⟨oj,h⟩:=hi.lst j h
          exact⟨oj,by simp [h]⟩
        · exact⟨o',by simp⟩
      · rw [gq hi.size hio,hi.cnt u' k hk']
        constructor
        · rintro (h|rfl)
          · omega
          · rcases gQ u' s with h|h|h
            · omega
            · omega
            · exact absurd rfl (((hc.row u' k hk').2 s k h hrs).2)
        · intro h
          rcases aJ u' s with h'|h'
          · exact .inl h'
          · have:u'=s:=by omega
            subst this;rw [hrs]at hk';exact .inr (bZ hk').symm
      · refine hst'.le fun t=>Le.of_eq ?_
        unfold ib zF;rw [pC hi.size ho]
        have hlG:kf ops listed t=true→G' t=G t:=fun h=>by
          obtain⟨j,oj,hj,hjl,hjt⟩:=iO.1 h;obtain⟨oj',hoj'⟩:=hi.lst j hjl;have hg:=hc.get (j,oj') (by rw [hi.pi];simp [hoj']);simp only at hg;rw [hj]at hg;obtain rfl:=bZ hg;exact hGd t (eI.2 ⟨_,hoj',hjt⟩)
        cases hod:o'.dst with
        |none =>
          simp only [bO];by_cases h:kf ops listed t=true
          · rw [if_pos h,if_pos (.inl h),hlG h]
          · rw [if_neg h,if_neg (by rintro (h'|h');exact h h';simp at h')]
        |some d =>
          simp only [bO,pQ,bM];by_cases htd:t=d
          · subst htd
            rw [if_pos (.inr rfl),bS,hGo _ hod]
          · rw [bz htd]
            by_cases h:kf ops listed t=true
            · rw [if_pos h,if_pos (.inl h),hlG h]
            · rw [if_neg h,if_neg (by rintro (h'|h');exact h h';exact htd h'.symm)]
attribute [local semireducible] WP WPL Dk PuH
theorem WdZ {id:Nat}{l:List Oper}(kk:Nat) (pi rs:List Nat) (E Hc:LH) (h:Mz P C n l.toArray rs Hc (fun F H=>WPL P C n l.toArray (l.drop kk) (fun F H=>Q .normal F H) F H) 0 (pk l pi) F E) (h0:H=E++Hc:=by exact rfl) (hm:P.follows .mixedOrders=true:=by kernel_rfl) (hchk:zOk l.toArray kk rs pi=true:=by decide +kernel) :
  WP P C n (.region id l.toArray true) Q F H:=by
 intro a w hs;subst h0;have hc:=JM hchk;obtain⟨pre,rest,G,hpr,g1,g2,g3,g4⟩:=h.walk hc.dst1
 have hrep:∀j,(Array.replicate l.toArray.size false).getD j false=false:=fun j=>by
  by_cases hj:j<l.length <;> simp [hj]
 refine wp_mono (Q:=oE C n (fun e F H=>e = .normal∧Q .normal F H)) (wp_region_any hm ?_) (fun e a w h=>h.imp (fun⟨F,H,hs,he,hq⟩=>⟨F,H,hs,he▸hq⟩) fun h=>h);refine Tj (K:=fun F H=>WPL P C n l.toArray (l.drop kk) (fun F H=>Q .normal F H) F H) (Hc:=Hc) (E:=E) (F0:=F) (s:=0) hc (fun ch _ _ hp => .inr ⟨ch,rfl,hp⟩) (fun G E a w hK hst=>?_) l.toArray.size _ a _ pre rest G ?_ ⟨hpr,fun l1 i o l2 he _=>g2 l1 i o l2 he,g3,g4,fun x hx hxr=>?_,fun j hj=>?_,by simp,fun m j hm=>?_,fun u k _=>?_⟩ ?_
 ·exact hK a w hst _ ⟨fun a2 w2 F2 H2 hs2 hq => .mk hs2 ⟨rfl,hq⟩,fun ch _ _ hp => .inr ⟨ch,rfl,hp⟩⟩
 ·have hk:=hc.hk
  have:(left l.toArray kk (Array.replicate l.toArray.size false)).length≤kk:=by
   unfold left;refine aU (lK _ _) ?_;simp;omega
  omega
 ·rw [g1 x hx]at hxr;cases hxr
 ·rw [hrep j]at hj;cases hj
 ·rw [hrep m]at hm;cases hm
 ·rw [hrep k];exact⟨fun h=>(by cases h),fun h=>om⟩
 ·obtain⟨hdef,hn,m,h1,h2,h3,h4,h5⟩:=hs;refine⟨hdef,hn,m,⟨h1.at',h1.base⟩,⟨h2.1,h2.2⟩,h3.drw,h4,fun t=>?_⟩
  have:kf l.toArray (Array.replicate l.toArray.size false) t=false:=by
   cases hb:kf l.toArray (Array.replicate l.toArray.size false) t with
   |false=>rfl
   |true =>
    obtain⟨j,_,_,hj,_⟩:=iO.1 hb;rw [hrep j]at hj;cases hj
  unfold zF;rw [this];exact h5 t
section
variable {s i d:Nat}{r:List NO'}{E:LH}{ty:TypeId}{pos:String}{aft:Array Edge}
theorem ZkN (h:K F (E++Hc)):Mz P C n ops rs Hc K s [] F E := .nil h
def frB (rs:List Nat):List NO'→Bool
 | []=>true
 |x::r => !rs.contains x.1&&frB rs r
def mkZ (P:Program) (C:Ctx) (n:Nat) (ops:Array Oper) (rs:List Nat) (Hc:LH) (K:Fr→LH→Prop) (s:Nat) (r:List NO') (E:LH):List NW→Fr→Prop:=fun N F=>N=[]∧Mz P C n ops rs Hc K s r F E
theorem yu (h:Mz P C n ops rs Hc K s r F E):mkZ P C n ops rs Hc K s r E [] F:=⟨rfl,h⟩
theorem Dr.mz {r:List NO'}:∀{L:List NO'}{F F':Fr},frB rs L=true→Dr P ops n Hc L [] F F'→Mz P C n ops rs Hc K s r F' E→Mz P C n ops rs Hc K s (L++r) F E
 | [],_,_,_,h,hx=>by cases h;exact hx
 |(i,o)::L,F,F',hf,h,hx=>by
  simp only [frB,bG,fw]at hf;cases h with
  |val hd hds hdn h=>exact .free hf.1 hd hdn hds (Dr.mz hf.2 h hx)
theorem ZkD {L:List NO'}(k:Nat) (h:Dk P ops n Hc (L.take k) (mkZ P C n ops rs Hc K s (L.drop k) E) F) (hf:frB rs (L.take k)=true:=by exact rfl):Mz P C n ops rs Hc K s L F E:=by
 obtain⟨N,F',h1,rfl,hx⟩:=h;have:=Dr.mz hf h1 hx;rwa [gO]at this
theorem Dr.mzL {r:List NO'}(hs:rs.length=s):∀{L:List NO'}{F F':Fr},frB rs L=true→Dr P ops n (E++Hc) L [] F F'→Mz P C n ops rs Hc K s r F' E→Mz P C n ops rs Hc K s (L++r) F E
 | [],_,_,_,h,hx=>by cases h;exact hx
 |(i,o)::L,F,F',hf,h,hx=>by
  simp only [frB,bG,fw]at hf;cases h with
  |val hd hds hdn h=>exact .late hs hf.1 hd hdn hds (Dr.mzL hs hf.2 h hx)
theorem TK {L:List NO'}{Hd:LH}(k:Nat) (h:Dk P ops n Hd (L.take k) (mkZ P C n ops rs Hc K s (L.drop k) E) F) (hH:Hd=E++Hc:=by exact rfl) (hs:rs.length=s:=by exact rfl) (hf:frB rs (L.take k)=true:=by exact rfl):Mz P C n ops rs Hc K s L F E:=by
 subst hH;obtain⟨N,F',h1,rfl,hx⟩:=h;have:=Dr.mzL hs hf h1 hx;rwa [gO]at this
theorem TZ.of {o:Oper}{Fe:Fr}{Post:SV→LH→Prop}(ho:ops[i]? = some o) (hg:o.guard=none) (h:∀F:Fr,(∀t,t∈o.looksAt ops→Fe t=F t)→WPL P C n ops [o] (fun F' H'=>∃sv,Post sv H'∧F'=ib o F sv) F H):TZ P C n ops i o Fe H Post:=by
 obtain⟨od,oop,oty,opos,oaft,og⟩:=o;simp only at hg;subst hg;intro F hF a w hst Q' K' hpan hK;have h':=h F hF a w hst (fun e a' w'=>match e with| .normal=>K' a' w'| .panic ch=>Q' (.panic ch) a' w'|_=>False) ⟨fun a' w' F' H' hst' hKK=>?_,fun ch a' w' hp=>hpan ch a' w' hp⟩
 ·unfold wpOp;rw [ho];unfold wpList at h';simp only [Region.wanted,aV]at h'⊢;left;rcases h' with h'|⟨_,a0,w0,h0⟩
  ·exact Co h' (fun _ _ _ h=>h) (fun _ _ h=>h.elim)
  ·exact h0.elim
 ·obtain⟨sv,hP,rfl⟩:=hKK;exact hK sv H' hP a' w' hst'
theorem Jo {o:Oper}{F1:Fr}{la:List Operand}{svs:List SV}(ha:la.map (ev F)=svs) (hin:∀x∈la,x∈o.op.operands) (hF:∀t,t∈o.looksAt ops→F t=F1 t):la.map (ev F1)=svs:=by
 rw [←ha];exact vw fun x hx=>fu (o:=o) (hin x hx) hF
theorem PuH.leA {f:FuncId}{svs svs':List SV}{Hin:LH}{R X:SV→LH→Prop}(h:PuH P f svs Hin R X) (hle:LeL svs' svs):PuH P f svs' Hin R X :=
 ⟨h.1,fun m w vs h1 h2 h3=>h.2 m w vs h1 h2 (h3.le hle)⟩
theorem TL {f:FuncId}{la:List Operand}{tys:Array TypeId}{svs:List SV}{Hin Er:LH}{R X:SV→LH→Prop}(hc:PuH P f svs Hin R X) (hs:Tk E Hin Er) (k:∀res H',R res H'→Mz P C n ops rs Hc K (s+1) r (upd F d res) (H'++Er)) (kx:∀pv H',X pv H'→C.pan pv (H'++(Er++Hc)))
  (hle:LeL (la.map (ev F)) svs) (ho:ops[i]? = some ⟨some d, .call ⟨.value (.func f),la.toArray,tys⟩,ty,pos,aft,none⟩:=by exact rfl) (hr:rs[s]? = some i:=by exact rfl) (hd:Nat.blt d n=true:=by exact rfl) :
  Mz P C n ops rs Hc K s ((i,⟨some d, .call ⟨.value (.func f),la.toArray,tys⟩,ty,pos,aft,none⟩)::r) F E:=by
 have hc':=hc.leA hle;refine .row (Post:=fun sv E'=>∃H',R sv H'∧E'=H'++Er) hr (TZ.of ho rfl fun F1 hF1=>?_) fun sv E' hP=>?_
 ·have ha1:=Jo (o:=⟨some d, .call ⟨.value (.func f),la.toArray,tys⟩,ty,pos,aft,none⟩) (la:=la) rfl (fun x hx=>by simp [Op.operands,Call.operands,hx]) hF1;refine WPL.perm ((hs.perm.append_right Hc).trans (sU (ax _ _ _))) ?_;refine .callH (s:=lit (.func (.func f) #[] #[])) (first:=[]) (caps:=[]) rfl hc' (Spl.app _ _) (by rw [a8,bd];exact ha1) hd (fun res H' hR=>WPL.nil ⟨res,⟨H'++Er,(ax _ _ _).symm,H',hR,rfl⟩,rfl⟩) kx
 ·obtain⟨H',hR,rfl⟩:=hP;exact k sv H' hR
theorem ZkC {f:FuncId}{la:List Operand}{tys:Array TypeId}{svs:List SV}{Hin Er:LH}{R X:SV→LH→Prop}(hc:PuH P f svs Hin R X) (hs:Tk E Hin Er) (k:∀res H',R res H'→Mz P C n ops rs Hc K (s+1) r (upd F d res) (H'++Er)) (kx:∀pv H',X pv H'→C.pan pv (H'++(Er++Hc)))
  (ha:la.map (ev F)=svs:=by exact rfl) (ho:ops[i]? = some ⟨some d, .call ⟨.value (.func f),la.toArray,tys⟩,ty,pos,aft,none⟩:=by exact rfl) (hr:rs[s]? = some i:=by exact rfl) (hd:Nat.blt d n=true:=by exact rfl) :
  Mz P C n ops rs Hc K s ((i,⟨some d, .call ⟨.value (.func f),la.toArray,tys⟩,ty,pos,aft,none⟩)::r) F E:=TL hc hs k kx (ha▸LeL.refl _) ho hr hd
theorem ZkA {T e:TypeId}{sz by_:Nat}{z:List SV}{g:Bool} [hS:TSl P T e] [hT:TY P e sz by_ z g]{x y:Operand}{n0:Nat}{cs ds:List SV}{so:SV}{Hs Er:LH}
  (hown:Own e sz n0 cs so Hs) (hs:Tk E Hs Er) (hl:n0≤1000000000) (k:∀s' H',Own e sz (n0+1) (cs++ds) s' H'→Mz P C n ops rs Hc K (s+1) r (upd F d s') (H'++Er))
  (hx:ev F x=so:=by exact rfl) (hy:ev F y=sl ds 1:=by exact rfl) (hds:ds.length=sz:=by exact rfl) (hpos:0<sz:=by decide) (hby:by_≤10000:=by decide)
  (ho:ops[i]? = some ⟨some d, .call ⟨.builtin .append,#[x,y],#[T,T]⟩,ty,pos,aft,none⟩:=by exact rfl) (hr:rs[s]? = some i:=by exact rfl) (hd:Nat.blt d n=true:=by exact rfl) :
  Mz P C n ops rs Hc K s ((i,⟨some d, .call ⟨.builtin .append,#[x,y],#[T,T]⟩,ty,pos,aft,none⟩)::r) F E:=by
 refine .row (Post:=fun sv E'=>∃H',Own e sz (n0+1) (cs++ds) sv H'∧E'=H'++Er) hr (TZ.of ho rfl fun F1 hF1=>?_) fun sv E' hP=>?_
 ·have hx1:ev F1 x=so:=by rw [←hx];exact(fu (by simp [Op.operands,Call.operands]) hF1)
  have hy1:ev F1 y=sl ds 1:=by rw [←hy];exact(fu (by simp [Op.operands,Call.operands]) hF1)
  refine WPL.perm ((hs.perm.append_right Hc).trans (sU (ax _ _ _))) ?_;exact .appOwnS hown hx1 hy1 (Spl.app _ _) hds hpos hl hby (fun s' H' hO=>WPL.nil ⟨s',⟨H'++Er,(ax _ _ _).symm,H',hO,rfl⟩,rfl⟩) hd
 ·obtain⟨H',hR,rfl⟩:=hP;exact k sv H' hR
end
end
section
variable {P:Program}{C:Ctx}{n:Nat}{F:Fr}{H:LH}{ops:Array Oper}{K:Fr→LH→Prop}{rest:List Oper}{ty:TypeId}{pos:String}{aft:Array Edge}
theorem WPL.appAllS {T e:TypeId}{sz by_:Nat}{z:List SV}{g:Bool} [hS:TSl P T e] [hT:TY P e sz by_ z g]{d:Nat}{x y:Operand}{b0 k0:Nat}{ds:List SV}
  (hx:ev F x=lit (.slice (some ⟨b0,0,none⟩) 0 0)) (hy:ev F y=sl ds k0) (hds:ds.length=k0*sz) (hpos:0<k0*sz) (hl:k0≤1000000000) (hby:by_≤10000)
  (k:∀s' H',Own e sz k0 ds s' H'→WPL P C n ops rest K (upd F d s') (H'++H)) (hd:Nat.blt d n=true:=by exact rfl) :
  WPL P C n ops (⟨some d, .call ⟨.builtin .append,#[x,y],#[T,T]⟩,ty,pos,aft,none⟩::rest) K F H:=by
 unfold WPL;intro a w hs Q hq;have hk0:0<k0:=f9 fun e=>by rw [e,bQ]at hpos;omega
 refine wpList_plain rfl fun K' hK'=>?_
 obtain⟨hdef,hn,m0,h10,h20,h30,h40,h50⟩:=id hs
 have hp0:∀x,(ev F x).p m0 (a.eval x):=fun x=>by
  cases x with
  |tmp t=>exact h50 t
  |const v=>unfold ev lit;rfl
  |global g=>unfold ev lit;rfl
  |func f=>unfold ev lit;rfl
 have e0:=hp0 x;rw [hx,ap]at e0;have e1:=hp0 y;rw [hy]at e1;obtain⟨ad2,c2,e1,hc1,hc2,hcb⟩:=ft e1;obtain⟨b2,off2,rfl,arr2,T2,fz2,hbm2,hall2⟩:=hcb.resolve_left (fun h=>by rw [h]at hds;simp at hds;omega);have hb2:=h10 _ _ hbm2;rw [hds]at hall2;generalize hl2:(arr2.toList.drop off2).take (k0*sz)=l2 at hall2;obtain⟨i,v,hi,hsz,hbyt,hz,hzl,hfl,hvs⟩:=hT.run_bytes;have hlen2:=hall2.length
 have hys:∀j u,l2[j]? = some u→w.cell? ((⟨b2,off2,none⟩:Addr).add j)=some u:=fun j u hj=>by
  rw [cE,eB w b2 _ arr2 _ _ hb2];rw [←hl2,eE]at hj;split at hj
  ·rw [eD]at hj;simpa using hj
  ·cases hj
 have hexec:execOp a.eval (⟨some d, .call ⟨.builtin .append,#[x,y],#[T,T]⟩,ty,pos,aft,none⟩:Oper)=(do let v←Builtin.append_ #[T,T] ty #[a.eval x,a.eval y];pure (.value v)):=by
  simp [execOp,resolve,invoke,builtin]
 have hmul:∀q,q≤1000000001→q*by_≤140737488355328:=fun q hq=>aU (db hq hby) (by decide)
 have get2:∀m,dD m w→(ev F y).p m (a.eval y)→bk m ds l2:=fun m h1 h2=>by
  rw [hy,e1]at h2;obtain⟨ad3,c3,e3,_,_,hcb3⟩:=ft h2;obtain⟨b3,off3,rfl,arr3,T3,fz3,hbm3,hall3⟩:=hcb3.resolve_left (fun h=>by rw [h]at hds;simp at hds;omega);have hb3:=h1 _ _ hbm3;simp only [Value.slice.injEq,bM,Addr.mk.injEq,gJ,gH]at e3;obtain⟨⟨rfl,rfl⟩,_⟩:=e3;rw [hb2]at hb3;simp only [bM,Obj.cells.injEq]at hb3;obtain⟨rfl,_⟩:=hb3;rw [hds,hl2]at hall3;exact hall3
 unfold Oper.wp;rw [hexec,e1,e0];have hrun:=run_append_grow (P:=P) w T ty e i v hS.h hi hz ⟨b0,0,none⟩ 0 0 [] (by simp) (by intro j u hj;simp at hj) ⟨b2,off2,none⟩ k0 c2 l2 (by rw [hlen2,hsz,hds]) hys om om (growslice_fits om (by rw [hbyt];exact hmul _ om));simp only [Sem.run_bind,hrun,Result.andThen_ok,Sem.run_pure];have hge:=grownCap_ge w (0+k0) 0 e;have hle:=grownCap_le_maxLen w (0+k0) 0 e (by simp only [maxLen];omega)
 have h:=k (lit (.slice (some ⟨w.heap.size,0,none⟩) (0+k0) (grownCap w (0+k0) 0 e))) [(w.heap.size,e,ds++List.replicate (grownCap w (0+k0) 0 e*sz-k0*sz) top)]
  ⟨hds, .inr ⟨w.heap.size,grownCap w (0+k0) 0 e,om,hle,by rw [aB],rfl⟩⟩
 unfold WPL at h;refine hK' _ _ (h _ _ (St.pushD (ay.mp hd) hs fun m h1 h2 h3=>?_) Q hq);simp only [fF,du,a8];refine(get2 m h1 (h3 y)).append (bk.topL ?_ (fL hfl));rw [aN,size_zeroCells,hvs,aB,ij]
end
end Go.Ab
