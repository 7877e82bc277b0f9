/- Texts laid one behind the other: PClip, Raw, PRes, IsG, PMrg, ZipB. -/
import Derived.Test.YtjopjomoejfehaaGreatDoorB27
import Derived.Stop.Asserts
import Derived.Test.YtjopjomoejfehaaGreatDoorZipA
set_option linter.all false
set_option maxHeartbeats 16000000
namespace Go.Ab
open Go.Proofs
variable [Base]
theorem Ks {m:Mem}{arr:Array Value}{b:Nat}{T:TypeId}{cs tl:List SV}{n c:Nat}(hm:m b=some (.cells arr T (0,0))) (ha:bn m (cs++tl) arr.toList) (h1:n≤c) (h2:c≤maxLen):(sl cs n).p m (.slice (some ⟨b,0,none⟩) n c):=by
 refine js h1 h2 (.inr ⟨b,0,rfl,arr,T,(0,0),hm,?_⟩);rw [bG];exact ha.split.1
theorem IK {c:PC}{l:Li}{k:Nat}{s:Fg}(h:c[k]? = some s):gA (c.take (k+1)) l=gA (c.take k) l++((jr s.1 s.2 l).map fun w=>(s.1,w)).toList:=by
 unfold gA;rw [jh h,List.filterMap_append,List.filterMap_cons,List.filterMap_nil];cases jr s.1 s.2 l <;> rfl
theorem yo (c:PC) (l:Li):(gA c l).length≤c.length:=List.length_filterMap_le ..
theorem HA {c:PC}{l:Li}{L:Nat}(hc:∀s∈c,s.1.le L∧s.2.le (50*L)) (hl:l.le L) (h1:1≤L) (hU:L≤500) (hn:c.length≤100000) :
  Pu Tryz.prog 251 [pcs c,lfl l] (Ab.tup [pcs (dF (dc l) c l).1,lit (.bool (dF (dc l) c l).2)]):=by
 have c0:=E0 (fun s hs=>(hc s hs).1) hl h1 om om;have c1:=Jc hc hl h1 hU om;unfold dF;cases hp:mE c l with
 |none =>
  rw [hp]at c0;simp only [nt]at c0;simp only;clear hc hl;generalize Option.none.getD Spn.none=w at *;generalize oO c l=z at *;by_cases hz:0<z
  ·rw [a9 hz];refine Pi Tryz.func251 fun C=>?_
   refine D2 c0 c1 ⟨?_⟩;intros;exact G2
  ·rw [ab hz];refine Pi Tryz.func251 fun C=>?_
   refine D2 c0 c1 ⟨?_⟩;intros;exact G2
 |some v =>
  rw [hp]at c0;simp only [nu,jR]at c0;simp only;clear c1;refine PuH.toPu ?_;refine PuH.intro Tryz.func251 rfl kr fun C hC=>?_
  refine D1 c0 ⟨?_⟩;intros;rename_i b3 b6;refine WPL.makeR (c:=c.length+1) rfl rfl om om om rfl fun b8=>?_
  refine A2 ⟨?_⟩;intros
  refine WP.loopS (ι:=Nat) (fun k=>k≤c.length) (fun k=>c.length-k)
   (fun k=>fm [(3,lit (.pointer (some ⟨b3,0,none⟩))),(6,lit (.pointer (some ⟨b6,0,none⟩))),(8,lit (.slice (some ⟨b8,0,none⟩) (gA (c.take k) l).length (c.length+1))),(32,pcs c),(33,lit (.int .i64 c.length)),(34,lit (.int .i64 k))])
   (fun k=>[(b8,frT,((gA (c.take k) l).map fgx).flatten++List.replicate ((c.length+1)*17-(gA (c.take k) l).length*17) top),(b6,387,ivx v),(b3,128,lfc l.a l.b l.c)]) 0 (ak _) lfA Sr ?_
  rintro k hk K hK;have hkl2:=yo (c.take k) l;rw [aA]at hkl2;by_cases hkl:k<c.length
  ·obtain⟨s,hget,hmem,hat,hne⟩:=elt md om hkl;obtain⟨k1,k2⟩:=hc s hmem;have d1:=GW (l:=s.1) (m:=l) (v:=s.2) k1 hl h1 om k2;have hkt:=IK (l:=l) hget;rw [FK]at hkt;have hgo:=fun F' H'=>hK F' H' (k+1) om om
   have hfl:=fM md (gA (c.take k) l);generalize gA (c.take k) l=d at *;generalize gA (c.take (k+1)) l=d' at *;clear hK hc hl c0;cases hb:(qR s.1 s.2 l).2 with
   |true =>
    rw [hb]at d1 hkt;generalize(qR s.1 s.2 l).1=w at *;simp only [aV,rF,Option.toList_some]at hkt;subst hkt;refine A2 ⟨?_⟩;intros;refine Wo (ae (cs':=fgx s) rfl rfl om om hat hne) ?_;repeat(first|(refine A1 ⟨?_⟩;intros)|(refine Wo (eF rfl rfl kr rfl) ?_)|(refine Wdo (eF rfl rfl kr rfl) ?_)|refine W4 d1 ⟨?_⟩)
    have hdl:d.length+1≤c.length+1:=by omega
    refine WPL.appIn (cs:=(d.map fgx).flatten) (tl:=List.replicate ((c.length+1)*17-d.length*17) top) (ds:=fgx (s.1,w)) rfl rfl hfl (iR ..) hdl (.there _ (.there _ (.there _ (.here _)))) cN rfl ?_ rfl
    have hce:((d++[(s.1,w)]).map fgx).flatten++List.replicate ((c.length+1)*17-(d++[(s.1,w)]).length*17) top=((d.map fgx).flatten++fgx (s.1,w))++(List.replicate ((c.length+1)*17-d.length*17) top).drop 17:=by
     rw [aB,cS,List.drop_replicate,ac,show(d.length+[(s.1,w)].length)=d.length+1 from rfl,show(c.length+1)*17-(d.length+1)*17=(c.length+1)*17-d.length*17-17 by omega];simp
    rw [hce,show(d++[(s.1,w)]).length=d.length+1 by simp]at hgo;refine A2 ⟨?_⟩;intros;exact hgo _ _ lfA ((((Sr).cons _).cons _).cons _ |>.cons_cons _)
   |false =>
    rw [hb]at d1 hkt;generalize(qR s.1 s.2 l).1=w at *;simp only [bJ,aQ,Option.map_none,Option.toList_none,bw]at hkt;subst hkt;refine A2 ⟨?_⟩;intros;refine Wo (ae (cs':=fgx s) rfl rfl om om hat hne) ?_;repeat(first|(refine A1 ⟨?_⟩;intros)|(refine Wo (eF rfl rfl kr rfl) ?_)|(refine Wdo (eF rfl rfl kr rfl) ?_)|refine W4 d1 ⟨?_⟩)
    exact hgo _ _ lfA (Sc (Sc Sr))
  ·have hke:k=c.length:=by omega
   subst hke;rw [aX];clear hK
   have hd:∀s∈gA c l,s.1.le L:=fun s hs=>by
    obtain⟨s0,h2,h3,_⟩:=pw.1 hs;rw [←h3];exact(hc s0 h2).1
   have hkl3:=yo c l;have hpos:=Mm l (gA c l);have hfl:=fM md (gA c l);generalize gA c l=d at *;have b0:=RN hd hl h1 om om b8 (c.length+1) (List.replicate ((c.length+1)*17-d.length*17) top);clear hd hc hl c0;refine A2 ⟨?_⟩;intros;refine WfT b0 ?_;rintro _ _ ⟨⟨fb,rfl⟩,rfl⟩;simp only [aa,a8];generalize dc l d=i at *;refine A2 ⟨?_⟩;intros;rename_i bx;refine WfT (IS b8 bx d.length (c.length+1) i 1 ((d.map fgx).flatten) (List.replicate ((c.length+1)*17-d.length*17) top) (fgx (l,v)) hfl (iR ..) rfl om om hpos) ?_;rintro _ _ ⟨rfl,rfl⟩;simp only [aa,a8];have hi:=vP md d (l,v) i;rw [←av]at hi;rw [hi]
   have hlen:d.length+1=(d.take i++(l,v)::d.drop i).length:=by
    rw [ac,aE,aA,cP];omega
   refine WPL.pub (d:=68) (s':=pcs (d.take i++(l,v)::d.drop i)) (.there _ (.there _ (.here _))) rfl (fun m arr hm ha=>by show(sl ((d.take i++(l,v)::d.drop i).map fgx).flatten (d.take i++(l,v)::d.drop i).length).p m _;rw [←hlen];exact Ks hm ha om (by simp only [maxLen];omega)) ?_;refine A2 ⟨?_⟩;intros;exact cD _ _ (eJ (RV.tmp rfl) (RV.tmp rfl) Lr) (aF _) rfl
def aH:Tr→Nat
 | .leaf _=>0
 | .node _ a b=>1+aH a+aH b
def fg:Tr→Nat
 | .leaf _=>0
 | .node _ a b=>1+max (fg a) (fg b)
def Crs (f:Fg) (m:Li):Prop:=∃t,InS f.2 t∧af m (atL f.1 t)=0∧slp f.1 m≠0
open Classical in
noncomputable def yV (L:List Li) (f:Fg):Nat:=L.countP fun m=>decide (Crs f m)
noncomputable def l7 (L:List Li) (l:List Fg):Nat:=(l.map fun f=>1+yV L f).sum
theorem CP (L:List Li) (a b:List Fg):l7 L (a++b)=l7 L a+l7 L b:=by unfold l7;rw [aB,List.sum_append]
theorem vH (L:List Li) (f:Fg) (l:List Fg):l7 L (f::l)=1+yV L f+l7 L l:=by unfold l7;rw [aG,lx]
open Classical in
theorem E5 {L:List Li}{f g:Fg}(h:∀m∈L,Crs g m→Crs f m):yV L g≤yV L f:=by
 unfold yV;induction L with
 |nil=>simp
 |cons a L ih =>
  have ih:=ih fun m hm=>h m (Mc hm)
  rw [dM,dM];by_cases k:Crs g a
  ·rw [if_pos (a9 k),if_pos (a9 (h a cN k))];omega
  ·rw [if_neg (by simpa using k)];omega
open Classical in
theorem Pa {L:List Li}{f g k:Fg}(h1:∀m∈L,Crs g m→Crs f m) (h2:∀m∈L,Crs k m→Crs f m) (h3:∀m∈L,Crs g m→Crs k m→False){x:Li}(hx:x∈L) (x1:Crs f x) (x2:¬Crs g x) (x3:¬Crs k x) :
  yV L g+yV L k+1≤yV L f:=by
 unfold yV;induction L with
 |nil=>cases hx
 |cons a L ih =>
  have g1:∀m∈L,Crs g m→Crs f m:=fun m hm=>h1 m (Mc hm)
  have g2:∀m∈L,Crs k m→Crs f m:=fun m hm=>h2 m (Mc hm)
  have g3:∀m∈L,Crs g m→Crs k m→False:=fun m hm=>h3 m (Mc hm)
  rw [dM,dM,dM]
  have base:L.countP (fun m=>decide (Crs g m))+L.countP (fun m=>decide (Crs k m))≤L.countP (fun m=>decide (Crs f m)):=by
   clear ih hx;induction L with
   |nil=>simp
   |cons b L ih' =>
    have ih':=ih' (fun m hm=>by rcases an.1 hm with e|e;exact h1 m (e▸Ms);exact h1 m (Mc (Mc e)))
     (fun m hm=>by rcases an.1 hm with e|e;exact h2 m (e▸Ms);exact h2 m (Mc (Mc e)))
     (fun m hm=>by rcases an.1 hm with e|e;exact h3 m (e▸Ms);exact h3 m (Mc (Mc e)))
     (fun m hm=>g1 m (Mc hm)) (fun m hm=>g2 m (Mc hm)) (fun m hm=>g3 m (Mc hm))
    rw [dM,dM,dM];have b1:=g1 b Ms;have b2:=g2 b Ms;have b3:=g3 b Ms;by_cases p:Crs g b <;> by_cases q:Crs k b <;> by_cases r:Crs f b <;> simp only [p,q,r,np,lE,aV,bJ,aQ] <;> first|omega|exact absurd (b1 p) r|exact absurd (b2 q) r|exact(b3 p q).elim
  have a1:=h1 a Ms;have a2:=h2 a Ms;have a3:=h3 a Ms;rcases an.1 hx with e|e
  ·subst e;simp only [x1,x2,x3,np,lE,aV,bJ,aQ];omega
  ·have ih:=ih g1 g2 g3 e;by_cases p:Crs g a <;> by_cases q:Crs k a <;> by_cases r:Crs f a <;> simp only [p,q,r,np,lE,aV,bJ,aQ] <;> first|omega|exact absurd (a1 p) r|exact absurd (a2 q) r|exact(a3 p q).elim
structure FgG (L:List Li) (f:Fg):Prop where
 ok:f.1.ok
 mem:f.1∈L
 g:SpG f.2
 b:j6 f.2=false
theorem FgG.some {L:List Li}{f:Fg}(h:FgG L f):∃t,InS f.2 t:=⟨_,lO h.b⟩
theorem R6 {l m:Li}{v w:Spn}(hv:SpG v) (hb:j6 v=false) (h:jr l v m=some w):SpG w∧j6 w=false:=by
 obtain⟨t,ht⟩:=pE ⟨_,lO hb⟩ h;refine⟨?_,p7 ht⟩;unfold jr at h;split at h
 ·split at h
  ·cases h;exact hv
  ·cases h
 ·split at h
  ·cases h
  ·rename_i h2;cases h;exact GS hv (LJ _ _) (by simpa using h2)
theorem x8 {f:Fg}{m:Li}{w:Spn}(h:jr f.1 f.2 m=some w){x:Li}(k:Crs (f.1,w) x):Crs f x:=by
 obtain⟨t,h1,h2,h3⟩:=k;exact⟨t,((jn h t).1 h1).1,h2,h3⟩
theorem InS.mid {s:Spn}{t u:Rat}(ht:InS s t) (hu:InS s u){v:Rat}(h1:t≤v) (h2:v≤u):InS s v:=by
 obtain⟨a,_⟩:=ht;obtain⟨_,b⟩:=hu;exact⟨a.imp id (fun k=>by grind),b.imp id (fun k=>by grind)⟩
theorem Md {f:Fg}{m:Li}{w w':Spn}(hw:∃t,InS f.2 t) (h:jr f.1 f.2 m=some w) (h':jr f.1 f.2 m.neg=some w') :
  Crs f m∧¬Crs (f.1,w) m∧¬Crs (f.1,w') m∧∀x,Crs (f.1,w) x→Crs (f.1,w') x→False:=by
 obtain⟨t,ht⟩:=pE hw h;obtain⟨u,hu⟩:=pE hw h';obtain⟨t1,t2⟩:=(jn h t).1 ht;obtain⟨u1,u2⟩:=(jn h' u).1 hu;rw [mN]at u2
 have hk:slp f.1 m≠0:=fun e=>by
  rw [fI,e]at t2 u2;grind
 refine⟨?_,?_,?_,?_⟩
 ·have e:∀v,af m (atL f.1 v)=(v - -(af m (ct f.1)/slp f.1 m))*slp f.1 m:=yR hk;have e0:=e (-(af m (ct f.1)/slp f.1 m));rw [e]at t2 u2;generalize -(af m (ct f.1)/slp f.1 m)=z at *;refine⟨z,?_,by rw [e0];grind,hk⟩;by_cases hp:0<slp f.1 m
  ·have a:=(kW hp).1 t2;have b:=(kW (x:=z-u) hp).1 (by grind);exact InS.mid u1 t1 (by grind) (by grind)
  ·have hn:0 < - slp f.1 m:=by grind
   have a:=(kW (x:=z-t) hn).1 (by grind);have b:=(kW (x:=u-z) hn).1 (by grind);exact InS.mid t1 u1 (by grind) (by grind)
 ·rintro ⟨v,v1,v2,_⟩;have:=((jn h v).1 v1).2;simp only at v2;rw [v2]at this;exact absurd this (by decide)
 ·rintro ⟨v,v1,v2,_⟩;have:=((jn h' v).1 v1).2;simp only at v2;rw [mN,v2]at this;exact absurd this (by decide)
 ·rintro x ⟨v,v1,v2,v3⟩ ⟨v',w1,w2,w3⟩;simp only at v2 v3 w2
  have hvv:v=v':=by
   rw [fI]at v2 w2;have:(v-v')*slp f.1 x=0:=by grind
   rcases dN.1 this with e|e
   ·grind
   ·exact absurd e v3
  subst hvv;have a:=((jn h v).1 v1).2;have b:=((jn h' v).1 w1).2;rw [mN]at b;grind
theorem B3 {L:List Li}{f:Fg}{m:Li}(hf:FgG L f):(∀g∈(f0 f m).1,FgG L g∧g.1=f.1)∧∀g∈(f0 f m).2,FgG L g∧g.1=f.1:=by
 rw [p6 hf.g hf.b hf.ok]
 have key:∀x:Li,∀g∈((jr f.1 f.2 x).toList).map (fun s=>(f.1,s)),FgG L g∧g.1=f.1:=fun x g hg=>by
  obtain⟨w,hw,rfl⟩:=aj.1 hg;rw [Option.mem_toList]at hw;obtain⟨a,b⟩:=R6 hf.g hf.b hw;exact⟨⟨hf.ok,hf.mem,a,b⟩,rfl⟩
 exact⟨key m,key m.neg⟩
theorem vz {L:List Li}{f:Fg}{m:Li}(hf:FgG L f):(f0 f m).1.length≤1∧(f0 f m).2.length≤1:=by
 rw [p6 hf.g hf.b hf.ok];simp only [cq];constructor
 ·cases jr f.1 f.2 m <;> simp
 ·cases jr f.1 f.2 m.neg <;> simp
theorem HT {L:List Li}{f:Fg}{m:Li}(hf:FgG L f) (hm:m∈L):l7 L (f0 f m).1+l7 L (f0 f m).2≤1+yV L f:=by
 rw [p6 hf.g hf.b hf.ok];cases h:jr f.1 f.2 m with
 |none =>
  cases h':jr f.1 f.2 m.neg with
  |none=>simp [l7]
  |some w' =>
   have:=E5 (L:=L) (f:=f) (g:=(f.1,w')) fun x _ k=>x8 h' k
   simp [l7];omega
 |some w =>
  have h1:=E5 (L:=L) (f:=f) (g:=(f.1,w)) fun x _ k=>x8 h k
  cases h':jr f.1 f.2 m.neg with
  |none=>simp [l7];omega
  |some w' =>
   obtain⟨a,b,c,d⟩:=Md hf.some h h';have:=Pa (L:=L) (f:=f) (g:=(f.1,w)) (k:=(f.1,w')) (fun x _ k=>x8 h k) (fun x _ k=>x8 h' k) (fun x _=>d x) hm a b c;simp [l7];omega
theorem Eo {L:List Li}{f:Fg}(hf:FgG L f):f0 f f.1=([],[]):=by
 have hk:slp f.1 f.1=0:=by unfold slp;grind
 have hb:af f.1 (ct f.1)=0:=by have:=sC hf.ok 0;rw [fI,hk]at this;grind
 rw [p6 hf.g hf.b hf.ok,Hw];unfold jr;rw [hk,hb];simp
theorem JS {L:List Li}{l:List Fg}{m:Li}(hl:∀f∈l,FgG L f):(∀g∈(cV l m).1,FgG L g)∧∀g∈(cV l m).2,FgG L g:=by
 unfold cV;constructor
 ·intro g hg;obtain⟨x,hx,hgx⟩:=kz.1 hg;obtain⟨f,hf,rfl⟩:=aj.1 hx;exact((B3 (hl f hf)).1 g hgx).1
 ·intro g hg;obtain⟨x,hx,hgx⟩:=kz.1 hg;obtain⟨f,hf,rfl⟩:=aj.1 hx;exact((B3 (hl f hf)).2 g hgx).1
theorem xF {L:List Li}{m:Li}(hm:m∈L):∀{l:List Fg},(∀f∈l,FgG L f)→l7 L (cV l m).1+l7 L (cV l m).2≤l7 L l
 | [],_=>by simp [cV,l7]
 |f::l,hl=>by
  have ih:=xF hm (l:=l) fun x hx=>hl x (Mc hx)
  have h1:=HT (hl f Ms) hm;unfold cV at *;simp only [aG,bP]at *;rw [CP,CP,vH];omega
theorem w9 {L:List Li}{f:Fg}{l:List Fg}(hl:∀g∈f::l,FgG L g):l7 L (cV (f::l) f.1).1+l7 L (cV (f::l) f.1).2+1≤l7 L (f::l):=by
 have hf:=hl f Ms;have ih:=xF hf.mem (l:=l) fun x hx=>hl x (Mc hx)
 unfold cV at *;simp only [aG,bP,Eo hf,a8]at *;rw [vH];omega
def Tr.lin (L:List Li):Tr→Prop
 | .leaf _=>True
 | .node l a b=>l∈L∧a.lin L∧b.lin L
theorem rS {L:List Li}(inn:Pq→Bool):∀(n:Nat) (l:List Fg) (c:List Li),(∀f∈l,FgG L f)→l7 L l<n→aH (qP inn n l c)≤l7 L l∧fg (qP inn n l c)≤l7 L l∧(qP inn n l c).lin L
 |0,_,_,_,h=>by omega
 |n+1,[],c,_,_=>⟨ak _,ak _,trivial⟩
 |n+1,f::l,c,hl,h=>by
  have hs:=w9 hl;obtain⟨g1,g2⟩:=JS (m:=f.1) hl;obtain⟨a1,a2,a3⟩:=rS inn n (cV (f::l) f.1).1 (c++[f.1]) g1 om;obtain⟨b1,b2,b3⟩:=rS inn n (cV (f::l) f.1).2 (c++[f.1.neg]) g2 om;unfold qP;refine⟨?_,?_,(hl f Ms).mem,a3,b3⟩
  ·simp only [aH];omega
  ·simp only [fg];omega
theorem Pb (L:List Li) (f:Fg):yV L f≤L.length:=sE
theorem Bh (L:List Li):∀l:List Fg,l7 L l≤l.length*(1+L.length)
 | []=>by simp [l7]
 |f::l=>by
  have:=Bh L l;have:=Pb L f;rw [vH,aE,aJ];omega
theorem yq (l:Li) (a b:Tr):aH (mu l a b)≤1+aH a+aH b∧fg (mu l a b)≤1+max (fg a) (fg b):=by
 cases a with
 |leaf i =>
  cases b with
  |leaf j =>
   show aH (if i=j then Tr.leaf i else Tr.node l (.leaf i) (.leaf j))≤_∧fg (if i=j then Tr.leaf i else Tr.node l (.leaf i) (.leaf j))≤_
   by_cases e:i=j
   ·rw [if_pos e];exact⟨ak _,ak _⟩
   ·rw [if_neg e];exact⟨ar _,ar _⟩
  |node m x y=>exact⟨ar _,ar _⟩
 |node m x y=>exact⟨ar _,ar _⟩
theorem rX:∀t:Tr,aH (lS t)=aH t∧fg (lS t)=fg t
 | .leaf _=>⟨rfl,rfl⟩
 | .node l a b=>by
  obtain⟨a1,a2⟩:=rX a;obtain⟨b1,b2⟩:=rX b;simp only [lS,aH,fg,a1,a2,b1,b2,and_self]
theorem kU:∀(t:Tr) (c:List Li),aH (dt t c)≤aH t∧fg (dt t c)≤fg t
 | .leaf _,_=>⟨ar _,ar _⟩
 | .node l a b,c=>by
  unfold dt;split
  ·have:=kU a c;simp only [aH,fg];omega
  ·split
   ·have:=kU b c;simp only [aH,fg];omega
   ·have h1:=kU a (fK c l);have h2:=kU b (fK c l.neg);have h3:=yq l (dt a (fK c l)) (dt b (fK c l.neg));simp only [aH,fg];omega
theorem BZ (op:Int) (i:Bool) (b:Tr) (c:List Li):aH (qH op i b c)≤aH b∧fg (qH op i b c)≤fg b:=by
 have h:=kU b c;have h2:=rX (dt b c);unfold qH;split
 ·exact⟨ak _,ak _⟩
 ·split
  ·exact⟨ak _,ak _⟩
  ·split
   ·omega
   ·exact h
theorem mn (op:Int):∀(t b:Tr) (c:List Li),aH (eA op t b c)≤aH t+(aH t+1)*aH b∧fg (eA op t b c)≤fg t+fg b
 | .leaf i,b,c=>by
  have:=BZ op i b c;unfold eA;simp only [aH,fg];omega
 | .node l x y,b,c=>by
  have h5:aH x*aH b≤aH x*aH b+aH y*aH b:=Nat.le_add_right _ _;have h6:aH y*aH b≤aH x*aH b+aH y*aH b:=Nat.le_add_left _ _
  have e:(1+aH x+aH y+1)*aH b=aH x*aH b+aH y*aH b+2*aH b:=by
   rw [show 1+aH x+aH y+1=aH x+aH y+2 by omega,aJ,aJ]
  unfold eA;simp only [aH,fg];rw [e];split
  ·have h:=mn op x b c;rw [aJ]at h;omega
  ·split
   ·have h:=mn op y b c;rw [aJ]at h;omega
   ·have h1:=mn op x b (fK c l);have h2:=mn op y b (fK c l.neg);have h3:=yq l (eA op x b (fK c l)) (eA op y b (fK c l.neg));rw [aJ]at h1 h2;omega
end Go.Ab
namespace Go.Ab
open Go.Proofs
variable [Base]
theorem Sz {P:Program}{F:Fr}{H:LH}{r1 r2 r3 r4:ResultVar}{s1 s2 s3 s4 res:SV}(h1:RV P F H r1 s1) (h2:RV P F H r2 s2) (h3:RV P F H r3 s3) (h4:RV P F H r4 s4) (hl:Le (tup [s1,s2,s3,s4]) res):oq P [r1,r2,r3,r4] res F H:=⟨[s1,s2,s3,s4],⟨h1,h2,h3,h4,trivial⟩,hl⟩
def FU (L:Nat) (s:Fg):Prop:=s.1.le L∧s.2.le (50*L)
theorem Ac {l:Li}{L:Nat}(hl:l.le L) (h1:1≤L):∀{c:PC}{v w:Spn},(∀s∈c,s.1.le L)→v.le (50*L)→lR l v c=some w→w.le (50*L)
 | [],v,w,_,hv,h=>by cases h;exact hv
 |s::c,v,w,hc,hv,h=>by
  rw [wn]at h;split at h
  ·exact Ac hl h1 (fun x hx=>hc x (Mc hx)) (BW hl (hc s Ms) h1 hv) h
  ·cases h
theorem uV {pos:PC→Nat}{c:PC}{l:Li}{L:Nat}(hc:∀s∈c,FU L s) (hl:l.le L) (h1:1≤L):∀s∈(dF pos c l).1,FU L s:=fun s hs=>by
 unfold dF at hs;cases hp:mE c l with
 |none=>rw [hp]at hs;exact hc s hs
 |some v =>
  rw [hp]at hs;simp only at hs;rw [(uB (gA c l) (l,v) _).mem_iff,an]at hs;rcases hs with e|e
  ·rw [e];exact⟨hl,Ac hl h1 (fun x hx=>(hc x hx).1) (H9 om) hp⟩
  ·obtain⟨s0,h2,h3,h4⟩:=pw.1 e;obtain⟨k1,k2⟩:=hc s0 h2;have hv:=BW k1 hl h1 k2;rw [FK]at h4;split at h4
   ·have e:=bk h4;rw [FU,←h3,←e];exact⟨k1,hv⟩
   ·cases h4
theorem sd (pos:PC→Nat) (c:PC) (l:Li):(dF pos c l).1.length≤c.length+1:=by
 unfold dF;cases hp:mE c l with
 |none=>exact ni _
 |some v =>
  have:=yo c l;simp only [ac,aE,aA,cP];omega
theorem AL {c:PC}{l:Li}{L:Nat}(hc:∀s∈c,FU L s) (hl:l.le L) (h1:1≤L) (hU:L≤500) (hn:c.length≤100000) :
  Pu Tryz.prog 209 [pcs c,lfl l] (Ab.tup [pcs (dF (dc l) c l).1,pcs (dF (dc l.neg) c l.neg).1,lit (.bool (dF (dc l) c l).2),lit (.bool (dF (dc l.neg) c l.neg).2)]):=by
 have c1:=HA hc hl h1 hU hn;have hln:l.neg.le L:=⟨by show il (-l.a)≤L;rw [iK];exact hl.a,by show il (-l.b)≤L;rw [iK];exact hl.b,by show il (-l.c)≤L;rw [iK];exact hl.c⟩
 have c2:=HA hc hln h1 hU hn;have c3:=Ot l (hl.gr om);clear hc hl hln;refine Pi Tryz.func209 fun C=>?_
 refine D3 c1 c2 c3 ⟨?_⟩;intros;exact db (Sz (RV.tmp rfl) (RV.tmp rfl) (RV.tmp rfl) (RV.tmp rfl) Lr)
theorem Ec (l:Li) (a b:Tr):Pu Tryz.prog 210 [lfl l,bt a,bt b] (bt (mu l a b)):=by
 have c1:=x9 l a b;cases a with
 |leaf i =>
  have d1:=i8 i;cases b with
  |leaf j =>
   have d2:=i8 j;show Pu _ _ _ (bt (if i=j then .leaf i else .node l (.leaf i) (.leaf j)))
   cases i <;> cases j
   all_goals
    first|rw [if_pos rfl]|rw [if_neg (by decide)]
    simp only [bt,si]at *;refine Pi Tryz.func210 fun C=>?_
    exact Y3 d1 d2 c1
  |node m x y =>
   have d2:=i7 m x y;show Pu _ _ _ (bt (.node l (.leaf i) (.node m x y)))
   refine Pi Tryz.func210 fun C=>?_
   exact Y3 d1 d2 c1
 |node m x y =>
  have d1:=i7 m x y;show Pu _ _ _ (bt (.node l (.node m x y) b))
  refine Pi Tryz.func210 fun C=>?_
  exact Y2 d1 c1
theorem pb {L:Nat}(h1:1≤L) (hU:L≤500):∀(t:Tr) (c:PC),(t.all fun l=>l.le L)→(∀s∈c,FU L s)→c.length+fg t≤100000→Pu Tryz.prog 154 [bt t,pcs c] (bt (iA dc t c))
 | .leaf i,c,_,_,_=>by
  have d1:=i8 i;show Pu _ _ _ (bt (.leaf i))
  refine Pi Tryz.func154 fun C=>?_
  exact Y1 d1
 | .node l a b,c,hall,hc,hd=>by
  have hd':c.length+(1+max (fg a) (fg b))≤100000:=hd;have d1:=i7 l a b;have d2:=AL hc hall.1 h1 hU om;have hln:l.neg.le L:=⟨by show il (-l.a)≤L;rw [iK];exact hall.1.a,by show il (-l.b)≤L;rw [iK];exact hall.1.b,by show il (-l.c)≤L;rw [iK];exact hall.1.c⟩
  have d3:=pb h1 hU a c hall.2.1 hc om;have d4:=pb h1 hU b c hall.2.2 hc om;have n1:=sd (dc l) c l;have n2:=sd (dc l.neg) c l.neg;have d5:=pb h1 hU a (dF (dc l) c l).1 hall.2.1 (uV hc hall.1 h1) om;have d6:=pb h1 hU b (dF (dc l.neg) c l.neg).1 hall.2.2 (uV hc hln h1) om;have d7:=Ec l (iA dc a (dF (dc l) c l).1) (iA dc b (dF (dc l.neg) c l.neg).1);unfold iA;clear hd hd' n1 n2 hc hall hln;generalize iA dc a c=ra at *;generalize iA dc b c=rb at *;generalize iA dc a (dF (dc l) c l).1=ra' at *;generalize iA dc b (dF (dc l.neg) c l.neg).1=rb' at *;generalize mu l ra' rb'=rj at *;generalize(dF (dc l) c l).1=c1 at *;generalize(dF (dc l.neg) c l.neg).1=c2 at *;have en:bt (.node l a b)=pt (bc (.node l a b)):=rfl;generalize hb1:(dF (dc l) c l).2=b1 at *;generalize hb2:(dF (dc l.neg) c l.neg).2=b2 at *;clear hb1 hb2;simp only [bt,oH]at d1 d2⊢;cases b2
  ·rw [if_pos rfl];refine Pi Tryz.func154 fun C=>?_
   exact Y3 d1 d2 d3
  ·rw [if_neg (by decide)];cases b1
   ·rw [if_pos rfl];refine Pi Tryz.func154 fun C=>?_
    exact Y3 d1 d2 d4
   ·rw [if_neg (by decide)];refine Pi Tryz.func154 fun C=>?_
    refine D5 d1 d2 d5 d6 d7 ⟨?_⟩;intros;exact E1
abbrev erA (g:Nat) (l c s:SV):SV:=ifc 167 (pt [lit (jo g),l,c,s])
section
variable {F:Fr}{H:LH}{ty:TypeId}
theorem GD {T T' u u':TypeId}{s:SV}{v':Value}{x y:Operand}{ms:Array (String×TypeId)}(hT:(Tryz.prog).underlying T=some (.interface ms)) (hne:u≠u') (hx:ev F x=ifc u s) (hy:ev F y=lit (.iface u' v')):OpV Tryz.prog (.binOp .eql T x y T') ty F H (lit (.bool false)) :=
 OpV.pure fun m w o a ho _ _ _ h=>by
  have h0:=h x (by simp [Op.operands]);rw [hx]at h0;have h1:=h y (by simp [Op.operands]);rw [hy,ap]at h1;unfold ifc at h0;obtain⟨v,h0,_⟩:=h0;exact⟨.bool false,by simp [execOp,ho,h0,h1,run_eql_iface_types u u' v v' hT hne w,Go.eqGuard],ap.2 rfl⟩
theorem GG {s:SV}{x:Operand}(hx:ev F x=ifc 167 s):OpV Tryz.prog (.typeAssert x 35 113 true) ty F H (Ab.tup [lit .nilIface,lit (.bool false)]) :=
 OpV.pure fun m w o a ho _ _ _ h=>by
  have h0:=h x (by simp [Op.operands]);rw [hx]at h0;unfold ifc at h0;obtain⟨v,h0,_⟩:=h0;have hrun:(Instr.typeAssert (.iface 167 v) 35 113 true).run Tryz.prog w = .ok (.tuple #[.nilIface, .bool false]) w:=run_typeAssert_lacksB Tryz.underlying113 kr kr v _ w;refine⟨.tuple #[.nilIface, .bool false],by simp [execOp,ho,h0,hrun],?_⟩;unfold Ab.tup;exact⟨_,rfl,ap.2 rfl,ap.2 rfl,trivial⟩
theorem GF {s:SV}{x:Operand}(hx:ev F x=ifc 167 s):OpV Tryz.prog (.typeAssert x 35 116 true) ty F H (Ab.tup [ifc 167 s,lit (.bool true)]) :=
 OpV.pure fun m w o a ho _ _ _ h=>by
  have h0:=h x (by simp [Op.operands]);rw [hx]at h0;have h00:=h0;unfold ifc at h0;obtain⟨v,h0,_⟩:=h0;have hrun:(Instr.typeAssert (.iface 167 v) 35 116 true).run Tryz.prog w = .ok (.tuple #[.iface 167 v, .bool true]) w:=run_typeAssert_hasB Tryz.underlying116 kr v _ w;refine⟨.tuple #[.iface 167 v, .bool true],by simp [execOp,ho,h0,hrun],?_⟩;rw [h0]at h00;unfold Ab.tup;exact⟨_,rfl,h00,ap.2 rfl,trivial⟩
end
section
variable {P:Program}{F:Fr}{H:LH}{ty:TypeId}
theorem wO {T T' u:TypeId}{s:SV}{x:Operand}(hT:P.isIface T=true) (hx:ev F x=ifc u s):OpV P (.binOp .neq T x (.const .nilIface) T') ty F H (lit (.bool true)) :=
 OpV.pure fun m w o a ho _ _ _ h=>by
  have h0:=h x (by simp [Op.operands]);rw [hx]at h0;unfold ifc at h0;obtain⟨v,h0,_⟩:=h0;have e1:a.eval (.const .nilIface) = .nilIface:=rfl;exact⟨.bool true,by simp [execOp,ho,h0,e1,run_neq_iface_nil w T hT u v,Go.eqGuard],ap.2 rfl⟩
theorem GE {T T' u:TypeId}{s:SV}{x:Operand}(hT:P.isIface T=true) (hx:ev F x=ifc u s):OpV P (.binOp .eql T x (.const .nilIface) T') ty F H (lit (.bool false)) :=
 OpV.pure fun m w o a ho _ _ _ h=>by
  have h0:=h x (by simp [Op.operands]);rw [hx]at h0;unfold ifc at h0;obtain⟨v,h0,_⟩:=h0;have e1:a.eval (.const .nilIface) = .nilIface:=rfl;exact⟨.bool false,by simp [execOp,ho,h0,e1,run_eql_iface_nil w T hT u v,Go.eqGuard],ap.2 rfl⟩
end
theorem Rk (v:Value) (w:World):(Go.method ((Tryz.prog).types.size+Made.depth) 167 v "Unwrap").run Tryz.prog w = .ok (372,v) w:=by kernel_rfl
theorem G0 (g:Nat) (l c s:SV):Pu Tryz.prog 372 [pt [lit (jo g),l,c,s]] (lit (jo g)):=by
 refine Pi Tryz.func372 fun C=>?_
 exact Z1
theorem OI (g:Nat) (l c s:SV):Pu Tryz.prog 20 [erA g l c s,lit (jo g),lit (.bool true)] (lit (.bool true)):=by
 have c:=G0 g l c s;refine Pi Tryz.func20 fun C=>?_
 refine A2 ⟨?_⟩;intros;refine WP.unroll 3 ?_;refine WPR.succ ?_;refine A2 ⟨?_⟩;intros;refine WgE ?_;refine Wo (GD Tryz.underlying35 (by decide) rfl rfl) ?_;refine A2 ⟨?_⟩;intros;refine Wo (GG rfl) ?_;refine A2 ⟨?_⟩;intros;refine Wo (GF rfl) ?_;refine A2 ⟨?_⟩;intros;refine Wo (pe Rk c rfl rfl) ?_;refine A2 ⟨?_⟩;intros;refine WgE ?_;refine Wo (CZ rfl rfl) ?_;exact Z1
theorem Fi (g:Nat) (l c s:SV):Pu Tryz.prog 9 [erA g l c s,lit (jo g)] (lit (.bool true)):=by
 have c:=OI g l c s;refine Pi Tryz.func9 fun C=>?_
 refine A2 ⟨?_⟩;intros;refine Wo (GE (s:=pt _) kr rfl) ?_;refine A2 ⟨?_⟩;intros;refine Wo (vJ rfl) ?_;refine Wo (vL rfl) ?_;exact Y1 c
theorem mf:∀t:Tr,Pu Tryz.prog 112 [bt t] (bt (lS t))
 | .leaf i=>by
  have c:=mc (!i);have d1:=i8 i;show Pu _ _ _ (bt (.leaf (!i)))
  simp only [bt,si]at d1⊢;refine Pi Tryz.func112 fun C=>?_
  exact Y2 d1 c
 | .node l a b=>by
  have c1:=mf a;have c2:=mf b;have c3:=x9 l (lS a) (lS b);have d1:=i7 l a b;show Pu _ _ _ (bt (.node l (lS a) (lS b)))
  generalize lS a=na at *;generalize lS b=nb at *;simp only [bt,oH]at d1 c3⊢;refine Pi Tryz.func112 fun C=>?_
  refine D4 d1 c1 c2 c3 ⟨?_⟩;intros;exact E1
theorem ri:∀t:Tr,fg t≤1000000→Pu Tryz.prog 108 [bt t] (lit (.int .i64 (fg t:Nat)))
 | .leaf i,_=>by
  have d1:=i8 i;show Pu _ _ _ (lit (.int .i64 (0:Nat)))
  refine Pi Tryz.func108 fun C=>?_
  exact Y1 d1
 | .node l a b,h=>by
  simp only [fg]at h;have c1:=ri a om;have c2:=ri b om;have d1:=i7 l a b;show Pu _ _ _ (lit (.int .i64 (1+max (fg a) (fg b):Nat)))
  generalize fg a=x at *;generalize fg b=y at *;simp only [bt,oH]at d1⊢;refine Pi Tryz.func108 fun C=>?_
  refine D3 d1 c1 c2 ⟨?_⟩;intros;refine Wdo (lc rfl rfl (r:=((max x y:Nat):Int)) (by split <;> omega)) ?_;refine A2 ⟨?_⟩;intros;((first|refine db ?_|refine jc ?_);refine bO (RV.tmp rfl) (Le.int ?_))
  all_goals omega
theorem FP {L:Nat}(h1:1≤L) (hU:L≤500) (t:Tr) (h:t.all fun l=>l.le L) (hd:fg t≤100000):Pu Tryz.prog 109 [bt t] (bt (iA dc t [])):=by
 have c:=pb h1 hU t [] h (fun s hs=>by cases hs) (by simpa using hd);have c':=c.arg (l':=[bt t,lit (.slice none 0 0)]) ⟨Le.refl _,iC,trivial⟩;clear c h hd;refine Pi Tryz.func109 fun C=>?_
 exact Y1 c'
theorem Jf {L:Nat}(h1:1≤L) (hU:L≤500) (op:Int) (hop:1≤op∧op≤4) (i:Bool) (b:Tr) (c:PC) (hb:b.all fun l=>l.le L) (hc:∀s∈c,FU L s) (hd:c.length+fg b≤100000) :
  Pu Tryz.prog 257 [lit (.int .i64 op),lit (.bool i),bt b,pcs c] (bt (se dc op i b c)):=by
 have d1:=pb h1 hU b c hb hc hd;have d2:=mf (iA dc b c);have d3:=mc i;have d4:=mc false;unfold se;generalize lS (iA dc b c)=nb at *;generalize iA dc b c=rb at *;clear hb hc hd;have ho:op=1∨op=2∨op=3∨op=4:=by omega
 rcases ho with rfl|rfl|rfl|rfl <;> cases i
 all_goals
  simp only [Int.reduceEq,gL,false_and,gN,and_false,eN,jy,or_true,kD,or_self,aV,aQ,bJ,Bool.true_eq_false,reduceCtorEq];refine Pi Tryz.func257 fun C=>?_
  refine D4 d1 d2 d3 d4 ⟨?_⟩;intros;exact E1
theorem r7 {L:Nat}(h1:1≤L) (hU:L≤500) (op:Int) (hop:1≤op∧op≤4) (b:Tr) (hb:b.all fun l=>l.le L):∀(t:Tr) (c:PC),(t.all fun l=>l.le L)→(∀s∈c,FU L s)→c.length+fg t+fg b≤100000→Pu Tryz.prog 217 [lit (.int .i64 op),bt t,bt b,pcs c] (bt (jZ dc op t b c))
 | .leaf i,c,_,hc,hd=>by
  have d1:=i8 i;have d2:=Jf h1 hU op hop i b c hb hc (by simp only [fg]at hd;omega);show Pu _ _ _ (bt (se dc op i b c))
  generalize se dc op i b c=r at *;have en:bt (.leaf i)=pt (bc (.leaf i)):=rfl;rw [en,si]at d1⊢;clear hc hd hb en;refine Pi Tryz.func217 fun C=>?_
  exact Y2 d1 d2
 | .node l x y,c,hall,hc,hd=>by
  have hd':c.length+(1+max (fg x) (fg y))+fg b≤100000:=hd;have d1:=i7 l x y;have d2:=AL hc hall.1 h1 hU om;have hln:l.neg.le L:=⟨by show il (-l.a)≤L;rw [iK];exact hall.1.a,by show il (-l.b)≤L;rw [iK];exact hall.1.b,by show il (-l.c)≤L;rw [iK];exact hall.1.c⟩
  have d3:=r7 h1 hU op hop b hb x c hall.2.1 hc om;have d4:=r7 h1 hU op hop b hb y c hall.2.2 hc om;have n1:=sd (dc l) c l;have n2:=sd (dc l.neg) c l.neg;have d5:=r7 h1 hU op hop b hb x (dF (dc l) c l).1 hall.2.1 (uV hc hall.1 h1) om;have d6:=r7 h1 hU op hop b hb y (dF (dc l.neg) c l.neg).1 hall.2.2 (uV hc hln h1) om;have d7:=Ec l (jZ dc op x b (dF (dc l) c l).1) (jZ dc op y b (dF (dc l.neg) c l.neg).1);unfold jZ;clear hd hd' n1 n2 hc hall hln hb;generalize jZ dc op x b c=ra at *;generalize jZ dc op y b c=rb at *;generalize jZ dc op x b (dF (dc l) c l).1=ra' at *;generalize jZ dc op y b (dF (dc l.neg) c l.neg).1=rb' at *;generalize mu l ra' rb'=rj at *;generalize(dF (dc l) c l).1=c1 at *;generalize(dF (dc l.neg) c l.neg).1=c2 at *;generalize hb1:(dF (dc l) c l).2=b1 at *;generalize hb2:(dF (dc l.neg) c l.neg).2=b2 at *;clear hb1 hb2;have en:bt (.node l x y)=pt (bc (.node l x y)):=rfl;rw [en,oH]at d1⊢;clear en;cases b2
  ·rw [if_pos rfl];refine Pi Tryz.func217 fun C=>?_
   exact Y3 d1 d2 d3
  ·rw [if_neg (by decide)];cases b1
   ·rw [if_pos rfl];refine Pi Tryz.func217 fun C=>?_
    exact Y3 d1 d2 d4
   ·rw [if_neg (by decide)];refine Pi Tryz.func217 fun C=>?_
    refine D5 d1 d2 d5 d6 d7 ⟨?_⟩;intros;exact E1
section
variable {P:Program}{C:Ctx}{n:Nat}{F:Fr}{ops:Array Oper}{rs:List Nat}{Hc:LH}{K:Fr→LH→Prop}{s i d:Nat}{r:List NO'}{E:LH}{ty:TypeId}{pos:String}{aft:Array Edge}
theorem SD {T e:TypeId}{sz by_:Nat}{z:List SV}{g:Bool} [hS:TSl P T e] [hT:TY P e sz by_ z g]{x y:Operand}{n0 k0:Nat}{cs ds:List SV}{so:SV}{Hs Er:LH}
  (hown:Own e sz n0 cs so Hs) (hs:Tk E Hs Er) (hl:n0+k0≤1000000000) (k:∀s' H',Own e sz (n0+k0) (cs++ds) s' H'→Mz P C n ops rs Hc K (s+1) r (upd F d s') (H'++Er))
  (hx:ev F x=so:=by exact rfl) (hy:ev F y=sl ds k0:=by exact rfl) (hds:ds.length=k0*sz:=by exact rfl) (hpos:0<k0*sz:=by decide) (hby:by_≤10000:=by decide)
  (ho:ops[i]? = some ⟨some d, .call ⟨.builtin .append,#[x,y],#[T,T]⟩,ty,pos,aft,none⟩:=by exact rfl) (hr:rs[s]? = some i:=by exact rfl) (hd:Nat.blt d n=true:=by exact rfl) :
  Mz P C n ops rs Hc K s ((i,⟨some d, .call ⟨.builtin .append,#[x,y],#[T,T]⟩,ty,pos,aft,none⟩)::r) F E:=by
 refine .row (Post:=fun sv E'=>∃H',Own e sz (n0+k0) (cs++ds) sv H'∧E'=H'++Er) hr (TZ.of ho rfl fun F1 hF1=>?_) fun sv E' hP=>?_
 ·have hx1:ev F1 x=so:=by rw [←hx];exact(fN (by simp [Op.operands,Call.operands]) hF1)
  have hy1:ev F1 y=sl ds k0:=by rw [←hy];exact(fN (by simp [Op.operands,Call.operands]) hF1)
  refine WPL.perm ((hs.perm.append_right Hc).trans (List.Perm.of_eq (av _ _ _))) ?_;exact .appOwnK hown hx1 hy1 (Spl.app _ _) hds hpos hl hby (fun s' H' hO=>WPL.nil ⟨s',⟨H'++Er,(av _ _ _).symm,H',hO,rfl⟩,rfl⟩) hd
 ·obtain⟨H',hR,rfl⟩:=hP;exact k sv H' hR
end
abbrev iT:TypeId:=3
abbrev ptT:TypeId:=58
theorem JY (b:Nat) (m:Nat) (hm:m≤100000000) (t:Tr):PuH Tryz.prog 41 [bt t,lit (.pointer (some ⟨b,0,none⟩))] [(b,iT,[lit (.int .i64 (m:Nat))])] (fun r H'=>r=Ab.tup []∧H'=[(b,iT,[lit (.int .i64 ((m+if aH t=0 then 0 else 1:Nat):Int))])]) noX:=by
 cases t with
 |leaf i =>
  have d1:=i8 i;refine PuH.intro Tryz.func41 rfl kr fun C hC=>?_
  refine D1 d1 ⟨?_⟩;intros;exact gE _ _ jx Sr ⟨rfl,rfl⟩
 |node l x y =>
  have d1:=i7 l x y;have e:(if aH (.node l x y)=0 then 0 else 1)=1:=if_neg (by simp only [aH];omega);rw [e];refine PuH.intro Tryz.func41 rfl kr fun C hC=>?_
  refine D1 d1 ⟨?_⟩;intros;exact gE _ _ jx Sr ⟨rfl,by rw [Int.natCast_add];rfl⟩
section
variable {P:Program}{C:Ctx}{n:Nat}{F:Fr}{H:LH}{ops:Array Oper}{rs:List Nat}{Hc:LH}{K Q:Fr→LH→Prop}{s i d:Nat}{r:List NO'}{E:LH}{ty:TypeId}{pos:String}{aft:Array Edge}{rest:List Oper}
theorem cJ {T e:TypeId}{sz by_:Nat}{z:List SV}{g:Bool} [hS:TSl P T e] [hT:TY P e sz by_ z g]{x:Operand}(ds:List SV) (hx:ev F x=ag ds) (hf:li ((List.range 1).map fun i=>(i*sz,sz)) (List.replicate 1 z).flatten [(0,ds)]=some ds:=by exact rfl)
  (hsz:Nat.ble (1*sz) 16777216=true:=by exact rfl) (hpos:Nat.blt 0 sz=true:=by exact rfl):OpV P (.buildSlice T 1 [(0,x)].toArray) ty F H (sl ds 1):=oP (s:=ag ds) hx inferInstance hf hsz hpos
theorem ZkE {T e:TypeId}{sz by_:Nat}{z:List SV}{g:Bool} [hS:TSl P T e] [hT:TY P e sz by_ z g]{x k0:Nat}{y:Operand}{ds:List SV}
  (hx:F x=esl) (hy:ev F y=sl ds k0) (hds:ds.length=k0*sz) (hpos:0<k0*sz) (hl:k0≤1000000000) (k:∀s' H',Own e sz k0 ds s' H'→Mz P C n ops rs Hc K (s+1) r (upd F d s') (H'++E))
  (hyx:y≠ .tmp x:=by decide) (hxd:x≠d:=by decide) (hby:by_≤10000:=by decide) (ho:ops[i]? = some ⟨some d, .call ⟨.builtin .append,#[.tmp x,y],#[T,T]⟩,ty,pos,aft,none⟩:=by exact rfl) (hr:rs[s]? = some i:=by exact rfl) (hd:Nat.blt d n=true:=by exact rfl) :
  Mz P C n ops rs Hc K s ((i,⟨some d, .call ⟨.builtin .append,#[.tmp x,y],#[T,T]⟩,ty,pos,aft,none⟩)::r) F E :=
 .row (Post:=fun sv E'=>∃Hs,Own e sz k0 ds sv Hs∧E'=Hs++E) hr (vt (X:=[]) hx hy hyx hxd hds hpos hl hby hd ho) (fun sv E' ⟨Hs,hO,e⟩=>by rw [e];exact k sv Hs hO)
theorem ZkP {T e:TypeId}{sz by_:Nat}{z:List SV}{g:Bool} [hS:TSl P T e] [hT:TY P e sz by_ z g]{x y:Operand}{n0:Nat}{cs ds:List SV}{so:SV}{Hs:LH}
  (hown:Own e sz n0 cs so Hs) (hl:n0≤1000000000) (k:Mz P C n ops rs Hc K (s+1) r (upd F d (sl (cs++ds) (n0+1))) E)
  (hx:ev F x=so:=by exact rfl) (hy:ev F y=sl ds 1:=by exact rfl) (hds:ds.length=sz:=by exact rfl) (hpos:0<sz:=by decide) (hby:by_≤10000:=by decide)
  (ho:ops[i]? = some ⟨some d, .call ⟨.builtin .append,#[x,y],#[T,T]⟩,ty,pos,aft,none⟩:=by exact rfl) (hr:rs[s]? = some i:=by exact rfl) (hd:Nat.blt d n=true:=by exact rfl) :
  Mz P C n ops rs Hc K s ((i,⟨some d, .call ⟨.builtin .append,#[x,y],#[T,T]⟩,ty,pos,aft,none⟩)::r) F (Hs++E) :=
 .row (Post:=fun sv E'=>sv=sl (cs++ds) (n0+1)∧E'=E) hr ((rJ hown (R:=E++Hc) (by rw [av]) hx hy hds hpos hl hby hd ho).post fun sv H1 h=>⟨H1,iY _,E,h.2,h.1,rfl⟩) (fun sv E' ⟨h1,h2⟩=>by rw [h1,h2];exact k)
theorem MH {T e:TypeId}{sz by_:Nat}{z:List SV}{g:Bool} [hS:TSl P T e] [hT:TY P e sz by_ z g]{x y:Operand}{n0:Nat}{cs ds:List SV}{so:SV}{Hs Rs:LH}
  (hown:Own e sz n0 cs so Hs) (hp:H.Perm (Hs++Rs)) (hl:n0≤1000000000) (k:∀s' H',Own e sz (n0+1) (cs++ds) s' H'→WPL P C n ops rest Q (upd F d s') (H'++Rs))
  (hx:ev F x=so:=by exact rfl) (hy:ev F y=sl ds 1:=by exact rfl) (hds:ds.length=sz:=by exact rfl) (hpos:0<sz:=by decide) (hby:by_≤10000:=by decide) (hd:Nat.blt d n=true:=by exact rfl) :
  WPL P C n ops (⟨some d, .call ⟨.builtin .append,#[x,y],#[T,T]⟩,ty,pos,aft,none⟩::rest) Q F H :=
 .perm hp (.appOwnS hown hx hy (Spl.app _ _) hds hpos hl hby k hd)
theorem FS {T e:TypeId}{sz by_:Nat}{z:List SV}{g:Bool} [hS:TSl P T e] [hT:TY P e sz by_ z g]{x y:Operand}{n0 k0:Nat}{cs ds:List SV}{so:SV}{Hs Rs:LH}
  (hown:Own e sz n0 cs so Hs) (hp:H.Perm (Hs++Rs)) (hl:n0+k0≤1000000000) (hds:ds.length=k0*sz) (k:∀s' H',Own e sz (n0+k0) (cs++ds) s' H'→WPL P C n ops rest Q (upd F d s') (H'++Rs))
  (hx:ev F x=so:=by exact rfl) (hy:ev F y=sl ds k0:=by exact rfl) (hpos:0<sz:=by decide) (hby:by_≤10000:=by decide) (hd:Nat.blt d n=true:=by exact rfl) :
  WPL P C n ops (⟨some d, .call ⟨.builtin .append,#[x,y],#[T,T]⟩,ty,pos,aft,none⟩::rest) Q F H:=by
 refine .perm hp ?_;rcases(by omega:k0=0∨0<k0)with h0|h0
 ·subst h0;rw [bS]at hds;have e0:=cU hds;subst e0;rw [cA,bw]at k;have hk:=k so Hs hown;obtain⟨_,⟨_,rfl,_⟩|⟨_,c,h1,_,rfl,_⟩⟩:=id hown
  ·exact Wo (GH hx hy (ar _)) hk hd
  ·exact Wo (GH hx hy h1) hk hd
 ·exact .appOwnK hown hx hy (Spl.app _ _) hds (nK h0 hpos) hl hby k hd
theorem MI {T e:TypeId}{sz by_:Nat}{z:List SV}{g:Bool} [hS:TSl P T e] [hT:TY P e sz by_ z g]{x y:Operand}{n0 k0:Nat}{cs ds:List SV}{so:SV}{Hs Rs:LH}
  (hown:Own e sz n0 cs so Hs) (hsp:Tk H Hs Rs) (hl:n0+k0≤1000000000) (hds:ds.length=k0*sz) (k:∀s' H',Own e sz (n0+k0) (cs++ds) s' H'→WPL P C n ops rest Q (upd F d s') (Rs++H'))
  (hx:ev F x=so:=by exact rfl) (hy:ev F y=sl ds k0:=by exact rfl) (hpos:0<sz:=by decide) (hby:by_≤10000:=by decide) (hd:Nat.blt d n=true:=by exact rfl) :
  WPL P C n ops (⟨some d, .call ⟨.builtin .append,#[x,y],#[T,T]⟩,ty,pos,aft,none⟩::rest) Q F H :=
 FS hown hsp.perm hl hds (fun s' H' h => .perm aC (k s' H' h)) hx hy hpos hby hd
end
end Go.Ab
