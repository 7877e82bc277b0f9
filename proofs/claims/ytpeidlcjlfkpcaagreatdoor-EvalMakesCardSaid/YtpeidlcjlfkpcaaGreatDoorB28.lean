/- Texts laid one behind the other: PClip, Raw, PRes, IsG, PMrg, ZipB. -/
import Derived.Test.YtpeidlcjlfkpcaaGreatDoorB27
import Derived.Stop.Asserts
import Derived.Test.YtpeidlcjlfkpcaaGreatDoorZipA
set_option linter.all false
set_option maxHeartbeats 16000000
namespace Go.Ab
open Go.Proofs
variable [Base]
theorem KV {m:Mem}{arr:Array Value}{b:Nat}{T:TypeId}{cs tl:List SV}{n c:Nat}(hm:m b=some (.cells arr T (0,0))) (ha:bk m (cs++tl) arr.toList) (h1:n≤c) (h2:c≤maxLen):(sl cs n).p m (.slice (some ⟨b,0,none⟩) n c):=by
 refine jq h1 h2 (.inr ⟨b,0,rfl,arr,T,(0,0),hm,?_⟩);rw [bD];exact ha.split.1
theorem J8 {c:PC}{l:Li}{k:Nat}{s:Fg}(h:c[k]? = some s):gu (c.take (k+1)) l=gu (c.take k) l++((jp s.1 s.2 l).map fun w=>(s.1,w)).toList:=by
 unfold gu;rw [ji h,List.filterMap_append,List.filterMap_cons,List.filterMap_nil];cases jp s.1 s.2 l <;> rfl
theorem yG (c:PC) (l:Li):(gu c l).length≤c.length:=List.length_filterMap_le ..
theorem HU {c:PC}{l:Li}{L:Nat}(hc:∀s∈c,s.1.le L∧s.2.le (50*L)) (hl:l.le L) (h1:1≤L) (hU:L≤500) (hn:c.length≤100000) :
  Pu Tryz.prog 261 [pcs c,lfl l] (Ab.tup [pcs (dM (dh l) c l).1,lit (.bool (dM (dh l) c l).2)]):=by
 have c0:=Eb (fun s hs=>(hc s hs).1) hl h1 om om;have c1:=JA hc hl h1 hU om;unfold dM;cases hp:mC c l with
 |none =>
  rw [hp]at c0;simp only [nu]at c0;simp only;clear hc hl;generalize Option.none.getD Spn.none=w at *;generalize oQ c l=z at *;by_cases hz:0<z
  ·rw [a9 hz];refine Pi Tryz.func261 fun C=>?_
   refine D2 c0 c1 ⟨?_⟩;intros;exact G2
  ·rw [aa hz];refine Pi Tryz.func261 fun C=>?_
   refine D2 c0 c1 ⟨?_⟩;intros;exact G2
 |some v =>
  rw [hp]at c0;simp only [ny,kW]at c0;simp only;clear c1;refine PuH.toPu ?_;refine PuH.intro Tryz.func261 rfl kr fun C hC=>?_
  refine D1 c0 ⟨?_⟩;intros;rename_i b3 b6;refine WPL.makeR (c:=c.length+1) rfl rfl om om om rfl fun b8=>?_
  refine A2 ⟨?_⟩;intros
  refine WP.loopS (ι:=Nat) (fun k=>k≤c.length) (fun k=>c.length-k)
   (fun k=>fm [(3,lit (.pointer (some ⟨b3,0,none⟩))),(6,lit (.pointer (some ⟨b6,0,none⟩))),(8,lit (.slice (some ⟨b8,0,none⟩) (gu (c.take k) l).length (c.length+1))),(32,pcs c),(33,lit (.int .i64 c.length)),(34,lit (.int .i64 k))])
   (fun k=>[(b8,frT,((gu (c.take k) l).map fgx).flatten++List.replicate ((c.length+1)*17-(gu (c.take k) l).length*17) top),(b6,409,ivx v),(b3,128,lfc l.a l.b l.c)]) 0 (an _) lfA Sr ?_
  rintro k hk K hK;have hkl2:=yG (c.take k) l;rw [aC]at hkl2;by_cases hkl:k<c.length
  ·obtain⟨s,hget,hmem,hat,hne⟩:=elt mc om hkl;obtain⟨k1,k2⟩:=hc s hmem;have d1:=Hl (l:=s.1) (m:=l) (v:=s.2) k1 hl h1 om k2;have hkt:=J8 (l:=l) hget;rw [FU]at hkt;have hgo:=fun F' H'=>hK F' H' (k+1) om om
   have hfl:=fP mc (gu (c.take k) l);generalize gu (c.take k) l=d at *;generalize gu (c.take (k+1)) l=d' at *;clear hK hc hl c0;cases hb:(qW s.1 s.2 l).2 with
   |true =>
    rw [hb]at d1 hkt;generalize(qW s.1 s.2 l).1=w at *;simp only [aV,rS,Option.toList_some]at hkt;subst hkt;refine A2 ⟨?_⟩;intros;refine Wo (ae (cs':=fgx s) rfl rfl om om hat hne) ?_;repeat(first|(refine A1 ⟨?_⟩;intros)|(refine Wo (dX rfl rfl kr rfl) ?_)|(refine Wdo (dX rfl rfl kr rfl) ?_)|refine W4 d1 ⟨?_⟩)
    have hdl:d.length+1≤c.length+1:=by omega
    refine WPL.appIn (cs:=(d.map fgx).flatten) (tl:=List.replicate ((c.length+1)*17-d.length*17) top) (ds:=fgx (s.1,w)) rfl rfl hfl (iW ..) hdl (.there _ (.there _ (.there _ (.here _)))) cL rfl ?_ rfl
    have hce:((d++[(s.1,w)]).map fgx).flatten++List.replicate ((c.length+1)*17-(d++[(s.1,w)]).length*17) top=((d.map fgx).flatten++fgx (s.1,w))++(List.replicate ((c.length+1)*17-d.length*17) top).drop 17:=by
     rw [aH,cH,List.drop_replicate,ac,show(d.length+[(s.1,w)].length)=d.length+1 from rfl,show(c.length+1)*17-(d.length+1)*17=(c.length+1)*17-d.length*17-17 by omega];simp
    rw [hce,show(d++[(s.1,w)]).length=d.length+1 by simp]at hgo;refine A2 ⟨?_⟩;intros;exact hgo _ _ lfA ((((Sr).cons _).cons _).cons _ |>.cons_cons _)
   |false =>
    rw [hb]at d1 hkt;generalize(qW s.1 s.2 l).1=w at *;simp only [bE,aO,Option.map_none,Option.toList_none,bd]at hkt;subst hkt;refine A2 ⟨?_⟩;intros;refine Wo (ae (cs':=fgx s) rfl rfl om om hat hne) ?_;repeat(first|(refine A1 ⟨?_⟩;intros)|(refine Wo (dX rfl rfl kr rfl) ?_)|(refine Wdo (dX rfl rfl kr rfl) ?_)|refine W4 d1 ⟨?_⟩)
    exact hgo _ _ lfA (Sc (Sc Sr))
  ·have hke:k=c.length:=by omega
   subst hke;rw [aP];clear hK
   have hd:∀s∈gu c l,s.1.le L:=fun s hs=>by
    obtain⟨s0,h2,h3,_⟩:=pF.1 hs;rw [←h3];exact(hc s0 h2).1
   have hkl3:=yG c l;have hpos:=N5 l (gu c l);have hfl:=fP mc (gu c l);generalize gu c l=d at *;have b0:=ST hd hl h1 om om b8 (c.length+1) (List.replicate ((c.length+1)*17-d.length*17) top);clear hd hc hl c0;refine A2 ⟨?_⟩;intros;refine WfT b0 ?_;rintro _ _ ⟨⟨fb,rfl⟩,rfl⟩;simp only [ab,a8];generalize dh l d=i at *;refine A2 ⟨?_⟩;intros;rename_i bx;refine WfT (Je b8 bx d.length (c.length+1) i 1 ((d.map fgx).flatten) (List.replicate ((c.length+1)*17-d.length*17) top) (fgx (l,v)) hfl (iW ..) rfl om om hpos) ?_;rintro _ _ ⟨rfl,rfl⟩;simp only [ab,a8];have hi:=w5 mc d (l,v) i;rw [←ax]at hi;rw [hi]
   have hlen:d.length+1=(d.take i++(l,v)::d.drop i).length:=by
    rw [ac,aF,aC,cO];omega
   refine WPL.pub (d:=68) (s':=pcs (d.take i++(l,v)::d.drop i)) (.there _ (.there _ (.here _))) rfl (fun m arr hm ha=>by show(sl ((d.take i++(l,v)::d.drop i).map fgx).flatten (d.take i++(l,v)::d.drop i).length).p m _;rw [←hlen];exact KV hm ha om (by simp only [maxLen];omega)) ?_;refine A2 ⟨?_⟩;intros;exact ct _ _ (eJ (RV.tmp rfl) (RV.tmp rfl) Lr) (av _) rfl
def dG:Tr→Nat
 | .leaf _=>0
 | .node _ a b=>1+dG a+dG b
def j6:Tr→Nat
 | .leaf _=>0
 | .node _ a b=>1+max (j6 a) (j6 b)
def Crs (f:Fg) (m:Li):Prop:=∃t,InS f.2 t∧af m (atL f.1 t)=0∧slp f.1 m≠0
open Classical in
noncomputable def zl (L:List Li) (f:Fg):Nat:=L.countP fun m=>decide (Crs f m)
noncomputable def lc (L:List Li) (l:List Fg):Nat:=(l.map fun f=>1+zl L f).sum
theorem D9 (L:List Li) (a b:List Fg):lc L (a++b)=lc L a+lc L b:=by unfold lc;rw [aH,List.sum_append]
theorem vT (L:List Li) (f:Fg) (l:List Fg):lc L (f::l)=1+zl L f+lc L l:=by unfold lc;rw [aD,lx]
open Classical in
theorem Ef {L:List Li}{f g:Fg}(h:∀m∈L,Crs g m→Crs f m):zl L g≤zl L f:=by
 unfold zl;induction L with
 |nil=>simp
 |cons a L ih =>
  have ih:=ih fun m hm=>h m (Mc hm)
  rw [dP,dP];by_cases k:Crs g a
  ·rw [if_pos (a9 k),if_pos (a9 (h a cL k))];omega
  ·rw [if_neg (by simpa using k)];omega
open Classical in
theorem PX {L:List Li}{f g k:Fg}(h1:∀m∈L,Crs g m→Crs f m) (h2:∀m∈L,Crs k m→Crs f m) (h3:∀m∈L,Crs g m→Crs k m→False){x:Li}(hx:x∈L) (x1:Crs f x) (x2:¬Crs g x) (x3:¬Crs k x) :
  zl L g+zl L k+1≤zl L f:=by
 unfold zl;induction L with
 |nil=>cases hx
 |cons a L ih =>
  have g1:∀m∈L,Crs g m→Crs f m:=fun m hm=>h1 m (Mc hm)
  have g2:∀m∈L,Crs k m→Crs f m:=fun m hm=>h2 m (Mc hm)
  have g3:∀m∈L,Crs g m→Crs k m→False:=fun m hm=>h3 m (Mc hm)
  rw [dP,dP,dP]
  have base:L.countP (fun m=>decide (Crs g m))+L.countP (fun m=>decide (Crs k m))≤L.countP (fun m=>decide (Crs f m)):=by
   clear ih hx;induction L with
   |nil=>simp
   |cons b L ih' =>
    have ih':=ih' (fun m hm=>by rcases ak.1 hm with e|e;exact h1 m (e▸Ms);exact h1 m (Mc (Mc e)))
     (fun m hm=>by rcases ak.1 hm with e|e;exact h2 m (e▸Ms);exact h2 m (Mc (Mc e)))
     (fun m hm=>by rcases ak.1 hm with e|e;exact h3 m (e▸Ms);exact h3 m (Mc (Mc e)))
     (fun m hm=>g1 m (Mc hm)) (fun m hm=>g2 m (Mc hm)) (fun m hm=>g3 m (Mc hm))
    rw [dP,dP,dP];have b1:=g1 b Ms;have b2:=g2 b Ms;have b3:=g3 b Ms;by_cases p:Crs g b <;> by_cases q:Crs k b <;> by_cases r:Crs f b <;> simp only [p,q,r,nt,lE,aV,bE,aO] <;> first|omega|exact absurd (b1 p) r|exact absurd (b2 q) r|exact(b3 p q).elim
  have a1:=h1 a Ms;have a2:=h2 a Ms;have a3:=h3 a Ms;rcases ak.1 hx with e|e
  ·subst e;simp only [x1,x2,x3,nt,lE,aV,bE,aO];omega
  ·have ih:=ih g1 g2 g3 e;by_cases p:Crs g a <;> by_cases q:Crs k a <;> by_cases r:Crs f a <;> simp only [p,q,r,nt,lE,aV,bE,aO] <;> first|omega|exact absurd (a1 p) r|exact absurd (a2 q) r|exact(a3 p q).elim
structure FgG (L:List Li) (f:Fg):Prop where
 ok:f.1.ok
 mem:f.1∈L
 g:SpG f.2
 b:j9 f.2=false
theorem FgG.some {L:List Li}{f:Fg}(h:FgG L f):∃t,InS f.2 t:=⟨_,lN h.b⟩
theorem RY {l m:Li}{v w:Spn}(hv:SpG v) (hb:j9 v=false) (h:jp l v m=some w):SpG w∧j9 w=false:=by
 obtain⟨t,ht⟩:=pK ⟨_,lN hb⟩ h;refine⟨?_,pd ht⟩;unfold jp at h;split at h
 ·split at h
  ·cases h;exact hv
  ·cases h
 ·split at h
  ·cases h
  ·rename_i h2;cases h;exact Hi hv (Mp _ _) (by simpa using h2)
theorem xp {f:Fg}{m:Li}{w:Spn}(h:jp f.1 f.2 m=some w){x:Li}(k:Crs (f.1,w) x):Crs f x:=by
 obtain⟨t,h1,h2,h3⟩:=k;exact⟨t,((jn h t).1 h1).1,h2,h3⟩
theorem InS.mid {s:Spn}{t u:Rat}(ht:InS s t) (hu:InS s u){v:Rat}(h1:t≤v) (h2:v≤u):InS s v:=by
 obtain⟨a,_⟩:=ht;obtain⟨_,b⟩:=hu;exact⟨a.imp id (fun k=>by grind),b.imp id (fun k=>by grind)⟩
theorem MT {f:Fg}{m:Li}{w w':Spn}(hw:∃t,InS f.2 t) (h:jp f.1 f.2 m=some w) (h':jp f.1 f.2 m.neg=some w') :
  Crs f m∧¬Crs (f.1,w) m∧¬Crs (f.1,w') m∧∀x,Crs (f.1,w) x→Crs (f.1,w') x→False:=by
 obtain⟨t,ht⟩:=pK hw h;obtain⟨u,hu⟩:=pK hw h';obtain⟨t1,t2⟩:=(jn h t).1 ht;obtain⟨u1,u2⟩:=(jn h' u).1 hu;rw [mP]at u2
 have hk:slp f.1 m≠0:=fun e=>by
  rw [fM,e]at t2 u2;grind
 refine⟨?_,?_,?_,?_⟩
 ·have e:∀v,af m (atL f.1 v)=(v - -(af m (bX f.1)/slp f.1 m))*slp f.1 m:=zh hk;have e0:=e (-(af m (bX f.1)/slp f.1 m));rw [e]at t2 u2;generalize -(af m (bX f.1)/slp f.1 m)=z at *;refine⟨z,?_,by rw [e0];grind,hk⟩;by_cases hp:0<slp f.1 m
  ·have a:=(kZ hp).1 t2;have b:=(kZ (x:=z-u) hp).1 (by grind);exact InS.mid u1 t1 (by grind) (by grind)
  ·have hn:0 < - slp f.1 m:=by grind
   have a:=(kZ (x:=z-t) hn).1 (by grind);have b:=(kZ (x:=u-z) hn).1 (by grind);exact InS.mid t1 u1 (by grind) (by grind)
 ·rintro ⟨v,v1,v2,_⟩;have:=((jn h v).1 v1).2;simp only at v2;rw [v2]at this;exact absurd this (by decide)
 ·rintro ⟨v,v1,v2,_⟩;have:=((jn h' v).1 v1).2;simp only at v2;rw [mP,v2]at this;exact absurd this (by decide)
 ·rintro x ⟨v,v1,v2,v3⟩ ⟨v',w1,w2,w3⟩;simp only at v2 v3 w2
  have hvv:v=v':=by
   rw [fM]at v2 w2;have:(v-v')*slp f.1 x=0:=by grind
   rcases dQ.1 this with e|e
   ·grind
   ·exact absurd e v3
  subst hvv;have a:=((jn h v).1 v1).2;have b:=((jn h' v).1 w1).2;rw [mP]at b;grind
theorem Bj {L:List Li}{f:Fg}{m:Li}(hf:FgG L f):(∀g∈(f4 f m).1,FgG L g∧g.1=f.1)∧∀g∈(f4 f m).2,FgG L g∧g.1=f.1:=by
 rw [pc hf.g hf.b hf.ok]
 have key:∀x:Li,∀g∈((jp f.1 f.2 x).toList).map (fun s=>(f.1,s)),FgG L g∧g.1=f.1:=fun x g hg=>by
  obtain⟨w,hw,rfl⟩:=aj.1 hg;rw [Option.mem_toList]at hw;obtain⟨a,b⟩:=RY hf.g hf.b hw;exact⟨⟨hf.ok,hf.mem,a,b⟩,rfl⟩
 exact⟨key m,key m.neg⟩
theorem vM {L:List Li}{f:Fg}{m:Li}(hf:FgG L f):(f4 f m).1.length≤1∧(f4 f m).2.length≤1:=by
 rw [pc hf.g hf.b hf.ok];simp only [cK];constructor
 ·cases jp f.1 f.2 m <;> simp
 ·cases jp f.1 f.2 m.neg <;> simp
theorem If {L:List Li}{f:Fg}{m:Li}(hf:FgG L f) (hm:m∈L):lc L (f4 f m).1+lc L (f4 f m).2≤1+zl L f:=by
 rw [pc hf.g hf.b hf.ok];cases h:jp f.1 f.2 m with
 |none =>
  cases h':jp f.1 f.2 m.neg with
  |none=>simp [lc]
  |some w' =>
   have:=Ef (L:=L) (f:=f) (g:=(f.1,w')) fun x _ k=>xp h' k
   simp [lc];omega
 |some w =>
  have h1:=Ef (L:=L) (f:=f) (g:=(f.1,w)) fun x _ k=>xp h k
  cases h':jp f.1 f.2 m.neg with
  |none=>simp [lc];omega
  |some w' =>
   obtain⟨a,b,c,d⟩:=MT hf.some h h';have:=PX (L:=L) (f:=f) (g:=(f.1,w)) (k:=(f.1,w')) (fun x _ k=>xp h k) (fun x _ k=>xp h' k) (fun x _=>d x) hm a b c;simp [lc];omega
theorem Ez {L:List Li}{f:Fg}(hf:FgG L f):f4 f f.1=([],[]):=by
 have hk:slp f.1 f.1=0:=by unfold slp;grind
 have hb:af f.1 (bX f.1)=0:=by have:=sN hf.ok 0;rw [fM,hk]at this;grind
 rw [pc hf.g hf.b hf.ok,HQ];unfold jp;rw [hk,hb];simp
theorem Kk {L:List Li}{l:List Fg}{m:Li}(hl:∀f∈l,FgG L f):(∀g∈(cU l m).1,FgG L g)∧∀g∈(cU l m).2,FgG L g:=by
 unfold cU;constructor
 ·intro g hg;obtain⟨x,hx,hgx⟩:=ky.1 hg;obtain⟨f,hf,rfl⟩:=aj.1 hx;exact((Bj (hl f hf)).1 g hgx).1
 ·intro g hg;obtain⟨x,hx,hgx⟩:=ky.1 hg;obtain⟨f,hf,rfl⟩:=aj.1 hx;exact((Bj (hl f hf)).2 g hgx).1
theorem xX {L:List Li}{m:Li}(hm:m∈L):∀{l:List Fg},(∀f∈l,FgG L f)→lc L (cU l m).1+lc L (cU l m).2≤lc L l
 | [],_=>by simp [cU,lc]
 |f::l,hl=>by
  have ih:=xX hm (l:=l) fun x hx=>hl x (Mc hx)
  have h1:=If (hl f Ms) hm;unfold cU at *;simp only [aD,bw]at *;rw [D9,D9,vT];omega
theorem wt {L:List Li}{f:Fg}{l:List Fg}(hl:∀g∈f::l,FgG L g):lc L (cU (f::l) f.1).1+lc L (cU (f::l) f.1).2+1≤lc L (f::l):=by
 have hf:=hl f Ms;have ih:=xX hf.mem (l:=l) fun x hx=>hl x (Mc hx)
 unfold cU at *;simp only [aD,bw,Ez hf,a8]at *;rw [vT];omega
def Tr.lin (L:List Li):Tr→Prop
 | .leaf _=>True
 | .node l a b=>l∈L∧a.lin L∧b.lin L
theorem sc {L:List Li}(inn:Pq→Bool):∀(n:Nat) (l:List Fg) (c:List Li),(∀f∈l,FgG L f)→lc L l<n→dG (qS inn n l c)≤lc L l∧j6 (qS inn n l c)≤lc L l∧(qS inn n l c).lin L
 |0,_,_,_,h=>by omega
 |n+1,[],c,_,_=>⟨an _,an _,trivial⟩
 |n+1,f::l,c,hl,h=>by
  have hs:=wt hl;obtain⟨g1,g2⟩:=Kk (m:=f.1) hl;obtain⟨a1,a2,a3⟩:=sc inn n (cU (f::l) f.1).1 (c++[f.1]) g1 om;obtain⟨b1,b2,b3⟩:=sc inn n (cU (f::l) f.1).2 (c++[f.1.neg]) g2 om;unfold qS;refine⟨?_,?_,(hl f Ms).mem,a3,b3⟩
  ·simp only [dG];omega
  ·simp only [j6];omega
theorem PY (L:List Li) (f:Fg):zl L f≤L.length:=sR
theorem Bz (L:List Li):∀l:List Fg,lc L l≤l.length*(1+L.length)
 | []=>by simp [lc]
 |f::l=>by
  have:=Bz L l;have:=PY L f;rw [vT,aF,aT];omega
end Go.Ab
namespace Go.Ab
open Go.Proofs
variable [Base]
theorem TG {P:Program}{F:Fr}{H:LH}{r1 r2 r3 r4:ResultVar}{s1 s2 s3 s4 res:SV}(h1:RV P F H r1 s1) (h2:RV P F H r2 s2) (h3:RV P F H r3 s3) (h4:RV P F H r4 s4) (hl:Le (tup [s1,s2,s3,s4]) res):ou P [r1,r2,r3,r4] res F H:=⟨[s1,s2,s3,s4],⟨h1,h2,h3,h4,trivial⟩,hl⟩
def G8 (L:Nat) (s:Fg):Prop:=s.1.le L∧s.2.le (50*L)
theorem Al {l:Li}{L:Nat}(hl:l.le L) (h1:1≤L):∀{c:PC}{v w:Spn},(∀s∈c,s.1.le L)→v.le (50*L)→lR l v c=some w→w.le (50*L)
 | [],v,w,_,hv,h=>by cases h;exact hv
 |s::c,v,w,hc,hv,h=>by
  rw [wC]at h;split at h
  ·exact Al hl h1 (fun x hx=>hc x (Mc hx)) (Cc hl (hc s Ms) h1 hv) h
  ·cases h
theorem ve {pos:PC→Nat}{c:PC}{l:Li}{L:Nat}(hc:∀s∈c,G8 L s) (hl:l.le L) (h1:1≤L):∀s∈(dM pos c l).1,G8 L s:=fun s hs=>by
 unfold dM at hs;cases hp:mC c l with
 |none=>rw [hp]at hs;exact hc s hs
 |some v =>
  rw [hp]at hs;simp only at hs;rw [(uO (gu c l) (l,v) _).mem_iff,ak]at hs;rcases hs with e|e
  ·rw [e];exact⟨hl,Al hl h1 (fun x hx=>(hc x hx).1) (Hv om) hp⟩
  ·obtain⟨s0,h2,h3,h4⟩:=pF.1 e;obtain⟨k1,k2⟩:=hc s0 h2;have hv:=Cc k1 hl h1 k2;rw [FU]at h4;split at h4
   ·have e:=bZ h4;rw [G8,←h3,←e];exact⟨k1,hv⟩
   ·cases h4
theorem sC (pos:PC→Nat) (c:PC) (l:Li):(dM pos c l).1.length≤c.length+1:=by
 unfold dM;cases hp:mC c l with
 |none=>exact np _
 |some v =>
  have:=yG c l;simp only [ac,aF,aC,cO];omega
theorem B2 {c:PC}{l:Li}{L:Nat}(hc:∀s∈c,G8 L s) (hl:l.le L) (h1:1≤L) (hU:L≤500) (hn:c.length≤100000) :
  Pu Tryz.prog 223 [pcs c,lfl l] (Ab.tup [pcs (dM (dh l) c l).1,pcs (dM (dh l.neg) c l.neg).1,lit (.bool (dM (dh l) c l).2),lit (.bool (dM (dh l.neg) c l.neg).2)]):=by
 have c1:=HU hc hl h1 hU hn;have hln:l.neg.le L:=⟨by show il (-l.a)≤L;rw [iP];exact hl.a,by show il (-l.b)≤L;rw [iP];exact hl.b,by show il (-l.c)≤L;rw [iP];exact hl.c⟩
 have c2:=HU hc hln h1 hU hn;have c3:=Pb l (hl.gr om);clear hc hl hln;refine Pi Tryz.func223 fun C=>?_
 refine D3 c1 c2 c3 ⟨?_⟩;intros;exact cV (TG (RV.tmp rfl) (RV.tmp rfl) (RV.tmp rfl) (RV.tmp rfl) Lr)
theorem El (l:Li) (a b:Tr):Pu Tryz.prog 224 [lfl l,bt a,bt b] (bt (o9 l a b)):=by
 have c1:=xr l a b;cases a with
 |leaf i =>
  have d1:=i8 i;cases b with
  |leaf j =>
   have d2:=i8 j;show Pu _ _ _ (bt (if i=j then .leaf i else .node l (.leaf i) (.leaf j)))
   cases i <;> cases j
   all_goals
    first|rw [if_pos rfl]|rw [if_neg (by decide)]
    simp only [bt,sF]at *;refine Pi Tryz.func224 fun C=>?_
    exact Y3 d1 d2 c1
  |node m x y =>
   have d2:=i7 m x y;show Pu _ _ _ (bt (.node l (.leaf i) (.node m x y)))
   refine Pi Tryz.func224 fun C=>?_
   exact Y3 d1 d2 c1
 |node m x y =>
  have d1:=i7 m x y;show Pu _ _ _ (bt (.node l (.node m x y) b))
  refine Pi Tryz.func224 fun C=>?_
  exact Y2 d1 c1
theorem pj {L:Nat}(h1:1≤L) (hU:L≤500):∀(t:Tr) (c:PC),(t.all fun l=>l.le L)→(∀s∈c,G8 L s)→c.length+j6 t≤100000→Pu Tryz.prog 169 [bt t,pcs c] (bt (iC dh t c))
 | .leaf i,c,_,_,_=>by
  have d1:=i8 i;show Pu _ _ _ (bt (.leaf i))
  refine Pi Tryz.func169 fun C=>?_
  exact Y1 d1
 | .node l a b,c,hall,hc,hd=>by
  have hd':c.length+(1+max (j6 a) (j6 b))≤100000:=hd;have d1:=i7 l a b;have d2:=B2 hc hall.1 h1 hU om;have hln:l.neg.le L:=⟨by show il (-l.a)≤L;rw [iP];exact hall.1.a,by show il (-l.b)≤L;rw [iP];exact hall.1.b,by show il (-l.c)≤L;rw [iP];exact hall.1.c⟩
  have d3:=pj h1 hU a c hall.2.1 hc om;have d4:=pj h1 hU b c hall.2.2 hc om;have n1:=sC (dh l) c l;have n2:=sC (dh l.neg) c l.neg;have d5:=pj h1 hU a (dM (dh l) c l).1 hall.2.1 (ve hc hall.1 h1) om;have d6:=pj h1 hU b (dM (dh l.neg) c l.neg).1 hall.2.2 (ve hc hln h1) om;have d7:=El l (iC dh a (dM (dh l) c l).1) (iC dh b (dM (dh l.neg) c l.neg).1);unfold iC;clear hd hd' n1 n2 hc hall hln;generalize iC dh a c=ra at *;generalize iC dh b c=rb at *;generalize iC dh a (dM (dh l) c l).1=ra' at *;generalize iC dh b (dM (dh l.neg) c l.neg).1=rb' at *;generalize o9 l ra' rb'=rj at *;generalize(dM (dh l) c l).1=c1 at *;generalize(dM (dh l.neg) c l.neg).1=c2 at *;have en:bt (.node l a b)=pt (bc (.node l a b)):=rfl;generalize hb1:(dM (dh l) c l).2=b1 at *;generalize hb2:(dM (dh l.neg) c l.neg).2=b2 at *;clear hb1 hb2;simp only [bt,oJ]at d1 d2⊢;cases b2
  ·rw [if_pos rfl];refine Pi Tryz.func169 fun C=>?_
   exact Y3 d1 d2 d3
  ·rw [if_neg (by decide)];cases b1
   ·rw [if_pos rfl];refine Pi Tryz.func169 fun C=>?_
    exact Y3 d1 d2 d4
   ·rw [if_neg (by decide)];refine Pi Tryz.func169 fun C=>?_
    refine D5 d1 d2 d5 d6 d7 ⟨?_⟩;intros;exact E1
abbrev erA (g:Nat) (l c s:SV):SV:=ifc 94 (pt [lit (jV g),l,c,s])
section
variable {F:Fr}{H:LH}{ty:TypeId}
theorem Ou {T T' u u':TypeId}{s:SV}{v':Value}{x y:Operand}{ms:Array (String×TypeId)}(hT:(Tryz.prog).underlying T=some (.interface ms)) (hne:u≠u') (hx:ev F x=ifc u s) (hy:ev F y=lit (.iface u' v')):OpV Tryz.prog (.binOp .eql T x y T') ty F H (lit (.bool false)) :=
 OpV.pure fun m w o a ho _ _ _ h=>by
  have h0:=h x (by simp [Op.operands]);rw [hx]at h0;have h1:=h y (by simp [Op.operands]);rw [hy,ap]at h1;unfold ifc at h0;obtain⟨v,h0,_⟩:=h0;exact⟨.bool false,by simp [execOp,ho,h0,h1,run_eql_iface_types u u' v v' hT hne w,Go.eqGuard],ap.2 rfl⟩
theorem OJ {s:SV}{x:Operand}(hx:ev F x=ifc 94 s):OpV Tryz.prog (.typeAssert x 39 217 true) ty F H (Ab.tup [lit .nilIface,lit (.bool false)]) :=
 OpV.pure fun m w o a ho _ _ _ h=>by
  have h0:=h x (by simp [Op.operands]);rw [hx]at h0;unfold ifc at h0;obtain⟨v,h0,_⟩:=h0;have hrun:(Instr.typeAssert (.iface 94 v) 39 217 true).run Tryz.prog w = .ok (.tuple #[.nilIface, .bool false]) w:=run_typeAssert_lacksB Tryz.underlying217 kr kr v _ w;refine⟨.tuple #[.nilIface, .bool false],by simp [execOp,ho,h0,hrun],?_⟩;unfold Ab.tup;exact⟨_,rfl,ap.2 rfl,ap.2 rfl,trivial⟩
theorem OI {s:SV}{x:Operand}(hx:ev F x=ifc 94 s):OpV Tryz.prog (.typeAssert x 39 212 true) ty F H (Ab.tup [ifc 94 s,lit (.bool true)]) :=
 OpV.pure fun m w o a ho _ _ _ h=>by
  have h0:=h x (by simp [Op.operands]);rw [hx]at h0;have h00:=h0;unfold ifc at h0;obtain⟨v,h0,_⟩:=h0;have hrun:(Instr.typeAssert (.iface 94 v) 39 212 true).run Tryz.prog w = .ok (.tuple #[.iface 94 v, .bool true]) w:=run_typeAssert_hasB Tryz.underlying212 kr v _ w;refine⟨.tuple #[.iface 94 v, .bool true],by simp [execOp,ho,h0,hrun],?_⟩;rw [h0]at h00;unfold Ab.tup;exact⟨_,rfl,h00,ap.2 rfl,trivial⟩
end
section
variable {P:Program}{F:Fr}{H:LH}{ty:TypeId}
theorem GT {T T' u:TypeId}{s:SV}{x:Operand}(hT:P.isIface T=true) (hx:ev F x=ifc u s):OpV P (.binOp .neq T x (.const .nilIface) T') ty F H (lit (.bool true)) :=
 OpV.pure fun m w o a ho _ _ _ h=>by
  have h0:=h x (by simp [Op.operands]);rw [hx]at h0;unfold ifc at h0;obtain⟨v,h0,_⟩:=h0;have e1:a.eval (.const .nilIface) = .nilIface:=rfl;exact⟨.bool true,by simp [execOp,ho,h0,e1,run_neq_iface_nil w T hT u v,Go.eqGuard],ap.2 rfl⟩
theorem Ox {T T' u:TypeId}{s:SV}{x:Operand}(hT:P.isIface T=true) (hx:ev F x=ifc u s):OpV P (.binOp .eql T x (.const .nilIface) T') ty F H (lit (.bool false)) :=
 OpV.pure fun m w o a ho _ _ _ h=>by
  have h0:=h x (by simp [Op.operands]);rw [hx]at h0;unfold ifc at h0;obtain⟨v,h0,_⟩:=h0;have e1:a.eval (.const .nilIface) = .nilIface:=rfl;exact⟨.bool false,by simp [execOp,ho,h0,e1,run_eql_iface_nil w T hT u v,Go.eqGuard],ap.2 rfl⟩
end
theorem Tl (v:Value) (w:World):(Go.method ((Tryz.prog).types.size+Made.depth) 94 v "Unwrap").run Tryz.prog w = .ok (370,v) w:=by kernel_rfl
theorem NA (g:Nat) (l c s:SV):Pu Tryz.prog 370 [pt [lit (jV g),l,c,s]] (lit (jV g)):=by
 refine Pi Tryz.func370 fun C=>?_
 exact Z1
theorem Pw (g:Nat) (l c s:SV):Pu Tryz.prog 70 [erA g l c s,lit (jV g),lit (.bool true)] (lit (.bool true)):=by
 have c:=NA g l c s;refine Pi Tryz.func70 fun C=>?_
 refine A2 ⟨?_⟩;intros;refine WP.unroll 3 ?_;refine WPR.succ ?_;refine A2 ⟨?_⟩;intros;refine WgE ?_;refine Wo (Ou Tryz.underlying39 (by decide) rfl rfl) ?_;refine A2 ⟨?_⟩;intros;refine Wo (OJ rfl) ?_;refine A2 ⟨?_⟩;intros;refine Wo (OI rfl) ?_;refine A2 ⟨?_⟩;intros;refine Wo (sf Tl c rfl rfl) ?_;refine A2 ⟨?_⟩;intros;refine WgE ?_;refine Wo (Dg rfl rfl) ?_;exact Z1
theorem RD (g:Nat) (l c s:SV):Pu Tryz.prog 30 [erA g l c s,lit (jV g)] (lit (.bool true)):=by
 have c:=Pw g l c s;refine Pi Tryz.func30 fun C=>?_
 refine A2 ⟨?_⟩;intros;refine Wo (Ox (s:=pt _) kr rfl) ?_;refine A2 ⟨?_⟩;intros;refine Wo (Ao rfl) ?_;refine Wo (Aq rfl) ?_;exact Y1 c
theorem me:∀t:Tr,Pu Tryz.prog 129 [bt t] (bt (ml t))
 | .leaf i=>by
  have c:=m8 (!i);have d1:=i8 i;show Pu _ _ _ (bt (.leaf (!i)))
  simp only [bt,sF]at d1⊢;refine Pi Tryz.func129 fun C=>?_
  exact Y2 d1 c
 | .node l a b=>by
  have c1:=me a;have c2:=me b;have c3:=xr l (ml a) (ml b);have d1:=i7 l a b;show Pu _ _ _ (bt (.node l (ml a) (ml b)))
  generalize ml a=na at *;generalize ml b=nb at *;simp only [bt,oJ]at d1 c3⊢;refine Pi Tryz.func129 fun C=>?_
  refine D4 d1 c1 c2 c3 ⟨?_⟩;intros;exact E1
theorem rE:∀t:Tr,j6 t≤1000000→Pu Tryz.prog 125 [bt t] (lit (.int .i64 (j6 t:Nat)))
 | .leaf i,_=>by
  have d1:=i8 i;show Pu _ _ _ (lit (.int .i64 (0:Nat)))
  refine Pi Tryz.func125 fun C=>?_
  exact Y1 d1
 | .node l a b,h=>by
  simp only [j6]at h;have c1:=rE a om;have c2:=rE b om;have d1:=i7 l a b;show Pu _ _ _ (lit (.int .i64 (1+max (j6 a) (j6 b):Nat)))
  generalize j6 a=x at *;generalize j6 b=y at *;simp only [bt,oJ]at d1⊢;refine Pi Tryz.func125 fun C=>?_
  refine D3 d1 c1 c2 ⟨?_⟩;intros;refine Wdo (F8 rfl rfl (r:=((max x y:Nat):Int)) (by split <;> omega)) ?_;refine A2 ⟨?_⟩;intros;((first|refine cV ?_|refine jK ?_);refine bJ (RV.tmp rfl) (Le.int ?_))
  all_goals omega
theorem G0 {L:Nat}(h1:1≤L) (hU:L≤500) (t:Tr) (h:t.all fun l=>l.le L) (hd:j6 t≤100000):Pu Tryz.prog 126 [bt t] (bt (iC dh t [])):=by
 have c:=pj h1 hU t [] h (fun s hs=>by cases hs) (by simpa using hd);have c':=c.arg (l':=[bt t,lit (.slice none 0 0)]) ⟨Le.refl _,i5,trivial⟩;clear c h hd;refine Pi Tryz.func126 fun C=>?_
 exact Y1 c'
theorem JD {L:Nat}(h1:1≤L) (hU:L≤500) (op:Int) (hop:1≤op∧op≤4) (i:Bool) (b:Tr) (c:PC) (hb:b.all fun l=>l.le L) (hc:∀s∈c,G8 L s) (hd:c.length+j6 b≤100000) :
  Pu Tryz.prog 267 [lit (.int .i64 op),lit (.bool i),bt b,pcs c] (bt (sD dh op i b c)):=by
 have d1:=pj h1 hU b c hb hc hd;have d2:=me (iC dh b c);have d3:=m8 i;have d4:=m8 false;unfold sD;generalize ml (iC dh b c)=nb at *;generalize iC dh b c=rb at *;clear hb hc hd;have ho:op=1∨op=2∨op=3∨op=4:=by omega
 rcases ho with rfl|rfl|rfl|rfl <;> cases i
 all_goals
  simp only [Int.reduceEq,gH,false_and,gJ,and_false,eP,jw,or_true,kC,or_self,aV,aO,bE,Bool.true_eq_false,reduceCtorEq];refine Pi Tryz.func267 fun C=>?_
  refine D4 d1 d2 d3 d4 ⟨?_⟩;intros;exact E1
theorem rn {L:Nat}(h1:1≤L) (hU:L≤500) (op:Int) (hop:1≤op∧op≤4) (b:Tr) (hb:b.all fun l=>l.le L):∀(t:Tr) (c:PC),(t.all fun l=>l.le L)→(∀s∈c,G8 L s)→c.length+j6 t+j6 b≤100000→Pu Tryz.prog 231 [lit (.int .i64 op),bt t,bt b,pcs c] (bt (jW dh op t b c))
 | .leaf i,c,_,hc,hd=>by
  have d1:=i8 i;have d2:=JD h1 hU op hop i b c hb hc (by simp only [j6]at hd;omega);show Pu _ _ _ (bt (sD dh op i b c))
  generalize sD dh op i b c=r at *;have en:bt (.leaf i)=pt (bc (.leaf i)):=rfl;rw [en,sF]at d1⊢;clear hc hd hb en;refine Pi Tryz.func231 fun C=>?_
  exact Y2 d1 d2
 | .node l x y,c,hall,hc,hd=>by
  have hd':c.length+(1+max (j6 x) (j6 y))+j6 b≤100000:=hd;have d1:=i7 l x y;have d2:=B2 hc hall.1 h1 hU om;have hln:l.neg.le L:=⟨by show il (-l.a)≤L;rw [iP];exact hall.1.a,by show il (-l.b)≤L;rw [iP];exact hall.1.b,by show il (-l.c)≤L;rw [iP];exact hall.1.c⟩
  have d3:=rn h1 hU op hop b hb x c hall.2.1 hc om;have d4:=rn h1 hU op hop b hb y c hall.2.2 hc om;have n1:=sC (dh l) c l;have n2:=sC (dh l.neg) c l.neg;have d5:=rn h1 hU op hop b hb x (dM (dh l) c l).1 hall.2.1 (ve hc hall.1 h1) om;have d6:=rn h1 hU op hop b hb y (dM (dh l.neg) c l.neg).1 hall.2.2 (ve hc hln h1) om;have d7:=El l (jW dh op x b (dM (dh l) c l).1) (jW dh op y b (dM (dh l.neg) c l.neg).1);unfold jW;clear hd hd' n1 n2 hc hall hln hb;generalize jW dh op x b c=ra at *;generalize jW dh op y b c=rb at *;generalize jW dh op x b (dM (dh l) c l).1=ra' at *;generalize jW dh op y b (dM (dh l.neg) c l.neg).1=rb' at *;generalize o9 l ra' rb'=rj at *;generalize(dM (dh l) c l).1=c1 at *;generalize(dM (dh l.neg) c l.neg).1=c2 at *;generalize hb1:(dM (dh l) c l).2=b1 at *;generalize hb2:(dM (dh l.neg) c l.neg).2=b2 at *;clear hb1 hb2;have en:bt (.node l x y)=pt (bc (.node l x y)):=rfl;rw [en,oJ]at d1⊢;clear en;cases b2
  ·rw [if_pos rfl];refine Pi Tryz.func231 fun C=>?_
   exact Y3 d1 d2 d3
  ·rw [if_neg (by decide)];cases b1
   ·rw [if_pos rfl];refine Pi Tryz.func231 fun C=>?_
    exact Y3 d1 d2 d4
   ·rw [if_neg (by decide)];refine Pi Tryz.func231 fun C=>?_
    refine D5 d1 d2 d5 d6 d7 ⟨?_⟩;intros;exact E1
section
variable {P:Program}{C:Ctx}{n:Nat}{F:Fr}{ops:Array Oper}{rs:List Nat}{Hc:LH}{K:Fr→LH→Prop}{s i d:Nat}{r:List NO'}{E:LH}{ty:TypeId}{pos:String}{aft:Array Edge}
theorem TM {T e:TypeId}{sz by_:Nat}{z:List SV}{g:Bool} [hS:TSl P T e] [hT:TY P e sz by_ z g]{x y:Operand}{n0 k0:Nat}{cs ds:List SV}{so:SV}{Hs Er:LH}
  (hown:Own e sz n0 cs so Hs) (hs:Tk E Hs Er) (hl:n0+k0≤1000000000) (k:∀s' H',Own e sz (n0+k0) (cs++ds) s' H'→Mz P C n ops rs Hc K (s+1) r (upd F d s') (H'++Er))
  (hx:ev F x=so:=by exact rfl) (hy:ev F y=sl ds k0:=by exact rfl) (hds:ds.length=k0*sz:=by exact rfl) (hpos:0<k0*sz:=by decide) (hby:by_≤10000:=by decide)
  (ho:ops[i]? = some ⟨some d, .call ⟨.builtin .append,#[x,y],#[T,T]⟩,ty,pos,aft,none⟩:=by exact rfl) (hr:rs[s]? = some i:=by exact rfl) (hd:Nat.blt d n=true:=by exact rfl) :
  Mz P C n ops rs Hc K s ((i,⟨some d, .call ⟨.builtin .append,#[x,y],#[T,T]⟩,ty,pos,aft,none⟩)::r) F E:=by
 refine .row (Post:=fun sv E'=>∃H',Own e sz (n0+k0) (cs++ds) sv H'∧E'=H'++Er) hr (TZ.of ho rfl fun F1 hF1=>?_) fun sv E' hP=>?_
 ·have hx1:ev F1 x=so:=by rw [←hx];exact(fu (by simp [Op.operands,Call.operands]) hF1)
  have hy1:ev F1 y=sl ds k0:=by rw [←hy];exact(fu (by simp [Op.operands,Call.operands]) hF1)
  refine WPL.perm ((hs.perm.append_right Hc).trans (sU (ax _ _ _))) ?_;exact .appOwnK hown hx1 hy1 (Spl.app _ _) hds hpos hl hby (fun s' H' hO=>WPL.nil ⟨s',⟨H'++Er,(ax _ _ _).symm,H',hO,rfl⟩,rfl⟩) hd
 ·obtain⟨H',hR,rfl⟩:=hP;exact k sv H' hR
end
abbrev iT:TypeId:=3
abbrev ptT:TypeId:=73
theorem Kq (b:Nat) (m:Nat) (hm:m≤100000000) (t:Tr):PuH Tryz.prog 50 [bt t,lit (.pointer (some ⟨b,0,none⟩))] [(b,iT,[lit (.int .i64 (m:Nat))])] (fun r H'=>r=Ab.tup []∧H'=[(b,iT,[lit (.int .i64 ((m+if dG t=0 then 0 else 1:Nat):Int))])]) noX:=by
 cases t with
 |leaf i =>
  have d1:=i8 i;refine PuH.intro Tryz.func50 rfl kr fun C hC=>?_
  refine D1 d1 ⟨?_⟩;intros;exact gB _ _ jv Sr ⟨rfl,rfl⟩
 |node l x y =>
  have d1:=i7 l x y;have e:(if dG (.node l x y)=0 then 0 else 1)=1:=if_neg (by simp only [dG];omega);rw [e];refine PuH.intro Tryz.func50 rfl kr fun C hC=>?_
  refine D1 d1 ⟨?_⟩;intros;exact gB _ _ jv Sr ⟨rfl,by rw [Int.natCast_add];rfl⟩
section
variable {P:Program}{C:Ctx}{n:Nat}{F:Fr}{H:LH}{ops:Array Oper}{rs:List Nat}{Hc:LH}{K Q:Fr→LH→Prop}{s i d:Nat}{r:List NO'}{E:LH}{ty:TypeId}{pos:String}{aft:Array Edge}{rest:List Oper}
theorem cJ {T e:TypeId}{sz by_:Nat}{z:List SV}{g:Bool} [hS:TSl P T e] [hT:TY P e sz by_ z g]{x:Operand}(ds:List SV) (hx:ev F x=ag ds) (hf:lm ((List.range 1).map fun i=>(i*sz,sz)) (List.replicate 1 z).flatten [(0,ds)]=some ds:=by exact rfl)
  (hsz:Nat.ble (1*sz) 16777216=true:=by exact rfl) (hpos:Nat.blt 0 sz=true:=by exact rfl):OpV P (.buildSlice T 1 [(0,x)].toArray) ty F H (sl ds 1):=oR (s:=ag ds) hx inferInstance hf hsz hpos
theorem ZkE {T e:TypeId}{sz by_:Nat}{z:List SV}{g:Bool} [hS:TSl P T e] [hT:TY P e sz by_ z g]{x k0:Nat}{y:Operand}{ds:List SV}
  (hx:F x=esl) (hy:ev F y=sl ds k0) (hds:ds.length=k0*sz) (hpos:0<k0*sz) (hl:k0≤1000000000) (k:∀s' H',Own e sz k0 ds s' H'→Mz P C n ops rs Hc K (s+1) r (upd F d s') (H'++E))
  (hyx:y≠ .tmp x:=by decide) (hxd:x≠d:=by decide) (hby:by_≤10000:=by decide) (ho:ops[i]? = some ⟨some d, .call ⟨.builtin .append,#[.tmp x,y],#[T,T]⟩,ty,pos,aft,none⟩:=by exact rfl) (hr:rs[s]? = some i:=by exact rfl) (hd:Nat.blt d n=true:=by exact rfl) :
  Mz P C n ops rs Hc K s ((i,⟨some d, .call ⟨.builtin .append,#[.tmp x,y],#[T,T]⟩,ty,pos,aft,none⟩)::r) F E :=
 .row (Post:=fun sv E'=>∃Hs,Own e sz k0 ds sv Hs∧E'=Hs++E) hr (vJ (X:=[]) hx hy hyx hxd hds hpos hl hby hd ho) (fun sv E' ⟨Hs,hO,e⟩=>by rw [e];exact k sv Hs hO)
theorem ZkP {T e:TypeId}{sz by_:Nat}{z:List SV}{g:Bool} [hS:TSl P T e] [hT:TY P e sz by_ z g]{x y:Operand}{n0:Nat}{cs ds:List SV}{so:SV}{Hs:LH}
  (hown:Own e sz n0 cs so Hs) (hl:n0≤1000000000) (k:Mz P C n ops rs Hc K (s+1) r (upd F d (sl (cs++ds) (n0+1))) E)
  (hx:ev F x=so:=by exact rfl) (hy:ev F y=sl ds 1:=by exact rfl) (hds:ds.length=sz:=by exact rfl) (hpos:0<sz:=by decide) (hby:by_≤10000:=by decide)
  (ho:ops[i]? = some ⟨some d, .call ⟨.builtin .append,#[x,y],#[T,T]⟩,ty,pos,aft,none⟩:=by exact rfl) (hr:rs[s]? = some i:=by exact rfl) (hd:Nat.blt d n=true:=by exact rfl) :
  Mz P C n ops rs Hc K s ((i,⟨some d, .call ⟨.builtin .append,#[x,y],#[T,T]⟩,ty,pos,aft,none⟩)::r) F (Hs++E) :=
 .row (Post:=fun sv E'=>sv=sl (cs++ds) (n0+1)∧E'=E) hr ((rX hown (R:=E++Hc) (by rw [ax]) hx hy hds hpos hl hby hd ho).post fun sv H1 h=>⟨H1,j5 _,E,h.2,h.1,rfl⟩) (fun sv E' ⟨h1,h2⟩=>by rw [h1,h2];exact k)
theorem Nm {T e:TypeId}{sz by_:Nat}{z:List SV}{g:Bool} [hS:TSl P T e] [hT:TY P e sz by_ z g]{x y:Operand}{n0:Nat}{cs ds:List SV}{so:SV}{Hs Rs:LH}
  (hown:Own e sz n0 cs so Hs) (hp:H.Perm (Hs++Rs)) (hl:n0≤1000000000) (k:∀s' H',Own e sz (n0+1) (cs++ds) s' H'→WPL P C n ops rest Q (upd F d s') (H'++Rs))
  (hx:ev F x=so:=by exact rfl) (hy:ev F y=sl ds 1:=by exact rfl) (hds:ds.length=sz:=by exact rfl) (hpos:0<sz:=by decide) (hby:by_≤10000:=by decide) (hd:Nat.blt d n=true:=by exact rfl) :
  WPL P C n ops (⟨some d, .call ⟨.builtin .append,#[x,y],#[T,T]⟩,ty,pos,aft,none⟩::rest) Q F H :=
 .perm hp (.appOwnS hown hx hy (Spl.app _ _) hds hpos hl hby k hd)
theorem G6 {T e:TypeId}{sz by_:Nat}{z:List SV}{g:Bool} [hS:TSl P T e] [hT:TY P e sz by_ z g]{x y:Operand}{n0 k0:Nat}{cs ds:List SV}{so:SV}{Hs Rs:LH}
  (hown:Own e sz n0 cs so Hs) (hp:H.Perm (Hs++Rs)) (hl:n0+k0≤1000000000) (hds:ds.length=k0*sz) (k:∀s' H',Own e sz (n0+k0) (cs++ds) s' H'→WPL P C n ops rest Q (upd F d s') (H'++Rs))
  (hx:ev F x=so:=by exact rfl) (hy:ev F y=sl ds k0:=by exact rfl) (hpos:0<sz:=by decide) (hby:by_≤10000:=by decide) (hd:Nat.blt d n=true:=by exact rfl) :
  WPL P C n ops (⟨some d, .call ⟨.builtin .append,#[x,y],#[T,T]⟩,ty,pos,aft,none⟩::rest) Q F H:=by
 refine .perm hp ?_;rcases(by omega:k0=0∨0<k0)with h0|h0
 ·subst h0;rw [bQ]at hds;have e0:=cT hds;subst e0;rw [cj,bd]at k;have hk:=k so Hs hown;obtain⟨_,⟨_,rfl,_⟩|⟨_,c,h1,_,rfl,_⟩⟩:=id hown
  ·exact Wo (GW hx hy (au _)) hk hd
  ·exact Wo (GW hx hy h1) hk hd
 ·exact .appOwnK hown hx hy (Spl.app _ _) hds (kG h0 hpos) hl hby k hd
theorem Nn {T e:TypeId}{sz by_:Nat}{z:List SV}{g:Bool} [hS:TSl P T e] [hT:TY P e sz by_ z g]{x y:Operand}{n0 k0:Nat}{cs ds:List SV}{so:SV}{Hs Rs:LH}
  (hown:Own e sz n0 cs so Hs) (hsp:Tk H Hs Rs) (hl:n0+k0≤1000000000) (hds:ds.length=k0*sz) (k:∀s' H',Own e sz (n0+k0) (cs++ds) s' H'→WPL P C n ops rest Q (upd F d s') (Rs++H'))
  (hx:ev F x=so:=by exact rfl) (hy:ev F y=sl ds k0:=by exact rfl) (hpos:0<sz:=by decide) (hby:by_≤10000:=by decide) (hd:Nat.blt d n=true:=by exact rfl) :
  WPL P C n ops (⟨some d, .call ⟨.builtin .append,#[x,y],#[T,T]⟩,ty,pos,aft,none⟩::rest) Q F H :=
 G6 hown hsp.perm hl hds (fun s' H' h => .perm aG (k s' H' h)) hx hy hpos hby hd
end
end Go.Ab
