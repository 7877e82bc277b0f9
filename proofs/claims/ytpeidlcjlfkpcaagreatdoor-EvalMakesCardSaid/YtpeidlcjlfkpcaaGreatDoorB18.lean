/- Texts laid one behind the other: RSrt, TapeR. -/
import Derived.Test.YtpeidlcjlfkpcaaGreatDoorB17
set_option linter.all false
set_option maxHeartbeats 16000000
namespace Go.Ab
open Go.Proofs
variable [Base]
abbrev rpx (p:Pq):List SV:=[lit (.bool (decide (p.1.num<0))),nat p.1.num.natAbs,dg (oX p.1.den),lit (.bool (decide (p.2.num<0))),nat p.2.num.natAbs,dg (oX p.2.den)]
theorem fq (p:Pq):(rpx p).length=6:=rfl
abbrev rps (l:List Pq):SV:=sl (l.map rpx).flatten l.length
theorem O7 (p q:Pq) (h1:ht p.1≤3000000∧ht p.2≤3000000) (h2:ht q.1≤3000000∧ht q.2≤3000000):Pu Tryz.prog 153 [ag (rpx p),ag (rpx q)] (lit (.int .i64 (yj p q))):=by
 obtain⟨x,y⟩:=p;obtain⟨u,v⟩:=q;have c1:=oA x u h1.1 h2.1;have c2:=oA y v h1.2 h2.2;have e1:=jj (x:=x) (y:=u);unfold yj;simp only;generalize(x-u).num.sign=s at *;generalize(y-v).num.sign=t at *;clear h1 h2;by_cases h:x=u
 ·have hs:=e1.2 h;rw [if_pos h];clear e1 h;subst hs;refine Pi Tryz.func153 fun C=>?_
  exact Y2 c1 c2
 ·have hs:s≠0:=fun e=>h (e1.1 e)
  rw [if_neg h];clear e1 h;refine Pi Tryz.func153 fun C=>?_
  exact Y2 c1 c2
theorem Ih (l:List Pq) (hl:l.length≤100000) (hh:∀p∈l,ht p.1≤3000000∧ht p.2≤3000000):Pu Tryz.prog 110 [rps l] (rps (srt l)):=by
 refine Pi Tryz.func110 fun C=>?_
 refine A2 ⟨?_⟩;intros
 refine WP.loopS (ι:=Nat) (fun k=>k≤l.length) (fun k=>l.length-k) (fun k=>fm [(3,rps (srt (l.take k))),(7,rps l),(8,lit (.int .i64 l.length)),(9,lit (.int .i64 k))]) (fun _=>[]) 0
  (an _) (LeF.cons i5 lfA) (av _) ?_
 rintro k hk K hK;by_cases hkl:k<l.length
 ·have hget:=aA hkl;generalize l[k]=p at hget;have hp:=hh p (bn hget);have hat:=fV (f:=rpx) (n:=6) fq hget;have hne:(l.map rpx).flatten≠[]:=gA fq om (fun e=>by rw [e]at hkl;simp at hkl);have hgo:=fun F' H' h1 h2=>hK F' H' (k+1) om om h1 h2
  rw [Kh hget]at hgo;have hsm:∀q∈srt (l.take k),ht q.1≤3000000∧ht q.2≤3000000:=fun q hq=>hh q (gP ((Gj _ q).1 hq))
  have hsl:=Gk (l.take k);rw [aC]at hsl;generalize srt (l.take k)=out at hgo hsm hsl⊢;clear hK hh;refine A2 ⟨?_⟩;intros;refine Wo (ae (cs':=rpx p) rfl rfl om om hat hne) ?_;refine A2 ⟨?_⟩;intros;rename_i b5
  refine WP.loopS (ι:=Nat) (fun j=>j≤pat out p) (fun j=>out.length-j) (fun j=>fm [(3,rps out),(5,lit (.pointer (some ⟨b5,0,none⟩))),(6,lit (.int .i64 j)),(7,rps l),(8,lit (.int .i64 l.length)),(9,lit (.int .i64 k))])
   (fun _=>[(b5,89,rpx p)]) 0 (an _) lfA Sr ?_
  rintro j hj K2 hK2;have hpl:=QX out p;have hfl:=fP fq out;have hins:=w5 fq out p j;have hdl:(((out.map rpx).flatten).drop (j*6)).length=(out.length-j)*6:=by rw [cO,hfl,ij]
  have hln:j+(1+(out.length-j))=(out.take j++p::out.drop j).length:=by rw [ac,aF,aC,cO];omega
  have htl:(((out.map rpx).flatten).take (j*6)).length=j*6:=by rw [aC,hfl];omega
  have hpl2:(rpx p++((out.map rpx).flatten).drop (j*6)).length=(1+(out.length-j))*6:=by rw [ac,hdl,fq];omega
  by_cases hjl:j<out.length
  ·have hgo2:=out[j]?;have hget2:=aA hjl;generalize out[j]=o at hget2;have ho:=hsm o (bn hget2);have hat2:=fV (f:=rpx) (n:=6) fq hget2;have hne2:(out.map rpx).flatten≠[]:=gA fq om (fun e=>by rw [e]at hjl;simp at hjl);have c:=O7 o p ho hp;obtain⟨s1,s2⟩:=L4 hj hget2;cases hlt:plt o p with
   |true =>
    have hneg:yj o p<0:=by unfold plt at hlt;exact fS hlt
    have hj1:=s1 hlt;generalize yj o p=s at c hneg;clear hgo s1 s2;refine A2 ⟨?_⟩;intros;refine fJ (ae (cs':=rpx o) rfl rfl om om hat2 hne2) ?_;refine D1 c ⟨?_⟩;intros;exact hK2 _ _ (j+1) hj1 om lfA Sr
   |false =>
    have hneg:¬yj o p<0:=by unfold plt at hlt;exact kX hlt
    have hje:=s2 hlt;clear hK2 s1 s2;by_cases hz:o=p
    ·have h0:=Ak.2 hz;have hpi:sJ out p=out:=by unfold sJ;rw [if_pos (by rw [←hje,hget2,hz])]
     rw [hpi]at hgo;rw [h0]at c;clear hneg hlt;refine A2 ⟨?_⟩;intros;refine fJ (ae (cs':=rpx o) rfl rfl om om hat2 hne2) ?_;refine D1 c ⟨?_⟩;intros;refine fJ (ae (cs':=rpx o) rfl rfl om om hat2 hne2) ?_;refine D1 c ⟨?_⟩;intros;exact hgo _ _ lfA (av _)
    ·have h0:¬yj o p=0:=fun e=>hz (Ak.1 e)
     have hpi:sJ out p=out.take j++p::out.drop j:=by unfold sJ;rw [←hje,if_neg (by rw [hget2];exact fun e=>hz (bZ e))]
     rw [hpi]at hgo;have hpos:0<yj o p:=by omega
     generalize yj o p=s at c hpos;clear hneg hlt h0;refine A2 ⟨?_⟩;intros;refine fJ (ae (cs':=rpx o) rfl rfl om om hat2 hne2) ?_;refine D1 c ⟨?_⟩;intros;refine fJ (ae (cs':=rpx o) rfl rfl om om hat2 hne2) ?_;refine D1 c ⟨?_⟩;intros;refine Wdo (m7 j rfl rfl rfl rfl rfl hfl om) ?_;repeat(first|(refine Wdo (nX (s:=ag (rpx p)) (ds:=rpx p) rfl inferInstance) ?_)|(refine Wdo (ld j rfl rfl rfl hfl om) ?_)|(refine A1 ⟨?_⟩;intros))
     refine Wdo (bU (k:=1) (k0:=out.length-j) rfl rfl rfl hdl om) ?_;refine Wdo (bU (k:=j) (k0:=1+(out.length-j)) rfl rfl htl hpl2 om) ?_;rw [hins,hln];refine A2 ⟨?_⟩;intros;exact hgo _ _ lfA (av _)
  ·have hje:j=pat out p:=by omega
   have hpi:sJ out p=out.take j++p::out.drop j:=by unfold sJ;rw [←hje,if_neg (by rw [df om];intro e;cases e)]
   rw [hpi]at hgo;clear hK2;refine A2 ⟨?_⟩;intros;refine Wdo (m7 j rfl rfl rfl rfl rfl hfl om) ?_;repeat(first|(refine Wdo (nX (s:=ag (rpx p)) (ds:=rpx p) rfl inferInstance) ?_)|(refine Wdo (ld j rfl rfl rfl hfl om) ?_)|(refine A1 ⟨?_⟩;intros))
   refine Wdo (bU (k:=1) (k0:=out.length-j) rfl rfl rfl hdl om) ?_;refine Wdo (bU (k:=j) (k0:=1+(out.length-j)) rfl rfl htl hpl2 om) ?_;rw [hins,hln];refine A2 ⟨?_⟩;intros;exact hgo _ _ lfA (av _)
 ·have hke:k=l.length:=by omega
  subst hke;rw [aP];refine A2 ⟨?_⟩;intros;exact cV (bJ (RV.tmp rfl) Lr)
abbrev iq (x y:Int):Pq:=((x:Rat),(y:Rat))
def Iq (p:Pq):Prop:=∃a b:Int,p=iq a b∧a.natAbs≤1000∧b.natAbs≤1000
theorem Iq.ht {p:Pq}(h:Iq p):Ab.ht p.1≤1∧Ab.ht p.2≤1:=by obtain⟨a,b,rfl,ha,hb⟩:=h;exact⟨oq a ha,oq b hb⟩
def oo (l:List Pq):Prop:=l.length≤6∧(∀p∈l,Iq p)∧3≤(srt l).length∧∀(i:Nat) (a b:Pq),l[i]? = some a→l[(i+1)%l.length]? = some b→a≠b
abbrev ringR:SV:=ex fun l:{l:List Pq // oo l}=>rps l.1
theorem Qc {l:List Pq}{p q r:Pq}(hp:p∈l) (hq:q∈l) (hr:r∈l) (h1:p≠q) (h2:p≠r) (h3:q≠r):3≤(srt l).length:=by
 have hn:[p,q,r].Nodup:=by simp [h1,h2,h3]
 exact Av hn fun x hx=>(Gj l x).2 (by
  simp only [ak,fG,eP]at hx;rcases hx with rfl|rfl|rfl <;> assumption)
theorem qB {a b c d:Int}:iq a b=iq c d↔a=c∧b=d:=by
 unfold iq;rw [cP];constructor
 ·rintro ⟨h1,h2⟩;exact⟨by exact_mod_cast h1,by exact_mod_cast h2⟩
 ·rintro ⟨rfl,rfl⟩;exact⟨rfl,rfl⟩
theorem rg3 {a b c d e f:Int}(ha:a.natAbs≤1000) (hb:b.natAbs≤1000) (hc:c.natAbs≤1000) (hd:d.natAbs≤1000) (he:e.natAbs≤1000) (hf:f.natAbs≤1000) (h1:a≠c∨b≠d) (h2:a≠e∨b≠f) (h3:c≠e∨d≠f):oo [iq a b,iq c d,iq e f]:=by
 have n1:iq a b≠iq c d:=fun h=>by rw [qB]at h;omega
 have n2:iq a b≠iq e f:=fun h=>by rw [qB]at h;omega
 have n3:iq c d≠iq e f:=fun h=>by rw [qB]at h;omega
 refine⟨by simp,fun p hp=>?_,Qc (p:=iq a b) (q:=iq c d) (r:=iq e f) (by simp) (by simp) (by simp) n1 n2 n3,fun i x y hx hy=>?_⟩
 ·simp only [ak,fG,eP]at hp;rcases hp with rfl|rfl|rfl
  ·exact⟨_,_,rfl,ha,hb⟩
  ·exact⟨_,_,rfl,hc,hd⟩
  ·exact⟨_,_,rfl,he,hf⟩
 ·match i,hx,hy with
  |0,hx,hy=>simp only [aF,bq,Nat.reduceAdd,Nat.reduceMod,ff,gg,bM]at hx hy;rw [←hx,←hy];exact n1
  |1,hx,hy=>simp only [aF,bq,Nat.reduceAdd,Nat.reduceMod,ff,gg,bM]at hx hy;rw [←hx,←hy];exact n3
  |2,hx,hy=>simp only [aF,bq,Nat.reduceAdd,Nat.reduceMod,ff,gg,bM]at hx hy;rw [←hx,←hy];exact n2.symm
theorem rg4 {a b c d:Int}(ha:a.natAbs≤1000) (hb:b.natAbs≤1000) (hc:c.natAbs≤1000) (hd:d.natAbs≤1000) (h1:a≠c) (h2:b≠d):oo [iq a b,iq c b,iq c d,iq a d]:=by
 have n1:iq a b≠iq c b:=fun h=>by rw [qB]at h;omega
 have n2:iq a b≠iq c d:=fun h=>by rw [qB]at h;omega
 have n3:iq c b≠iq c d:=fun h=>by rw [qB]at h;omega
 have n4:iq c d≠iq a d:=fun h=>by rw [qB]at h;omega
 have n5:iq a d≠iq a b:=fun h=>by rw [qB]at h;omega
 refine⟨by simp,fun p hp=>?_,Qc (p:=iq a b) (q:=iq c b) (r:=iq c d) (by simp) (by simp) (by simp) n1 n2 n3,fun i x y hx hy=>?_⟩
 ·simp only [ak,fG,eP]at hp;rcases hp with rfl|rfl|rfl|rfl
  ·exact⟨_,_,rfl,ha,hb⟩
  ·exact⟨_,_,rfl,hc,hb⟩
  ·exact⟨_,_,rfl,hc,hd⟩
  ·exact⟨_,_,rfl,ha,hd⟩
 ·match i,hx,hy with
  |0,hx,hy=>simp only [aF,bq,Nat.reduceAdd,Nat.reduceMod,ff,gg,bM]at hx hy;rw [←hx,←hy];exact n1
  |1,hx,hy=>simp only [aF,bq,Nat.reduceAdd,Nat.reduceMod,ff,gg,bM]at hx hy;rw [←hx,←hy];exact n3
  |2,hx,hy=>simp only [aF,bq,Nat.reduceAdd,Nat.reduceMod,ff,gg,bM]at hx hy;rw [←hx,←hy];exact n4
  |3,hx,hy=>simp only [aF,bq,Nat.reduceAdd,Nat.reduceMod,ff,gg,bM]at hx hy;rw [←hx,←hy];exact n5
def chn (l:List Pq):Prop:=∀(i:Nat) (a b:Pq),l[i]? = some a→l[i+1]? = some b→a≠b
theorem MY {l:List Pq}{p:Pq}(h:chn l) (hp:∀o,l[l.length-1]? = some o→o≠p):chn (l++[p]):=by
 intro i a b ha hb;have hi:i+1<(l++[p]).length:=(bI.1 hb).1;rw [ac,bH]at hi;by_cases he:i+1<l.length
 ·rw [fD om]at ha;rw [fD he]at hb;exact h i a b ha hb
 ·have hl:l.length=i+1:=by omega
  rw [fD om]at ha;rw [lI om,hl,iV]at hb;simp only [ff,bM]at hb;rw [←hb];exact hp a (by rw [hl];exact ha)
theorem MX {l:List Pq}{k:Nat}(h:chn l):chn (l.take k):=by
 intro i a b ha hb;rw [eE]at ha hb;split at ha
 ·split at hb
  ·exact h i a b ha hb
  ·cases hb
 ·cases ha
def shq (l:List Pq):Prop:=l.length≤6∧∀p∈l,Iq p
theorem KI {l:List Pq}(hs:shq l) (hc:chn l) (h3:3≤(srt l).length) (hl:∀a b,l[0]? = some a→l[l.length-1]? = some b→a≠b):oo l:=by
 refine⟨hs.1,hs.2,h3,fun i a b ha hb=>?_⟩;have hi:i<l.length:=(bI.1 ha).1;by_cases he:i+1<l.length
 ·rw [eN he]at hb;exact hc i a b ha hb
 ·have hl':l.length=i+1:=by omega
  rw [hl',Nat.mod_self]at hb;exact(hl b a hb (by rw [hl'];exact ha)).symm
theorem nab {a b:Int}(ha:a.natAbs≤4) (hb:b.natAbs≤4):(a+b).natAbs≤1000:=by omega
theorem LM {a b c d:Int}(h:b≠0∨d≠0):a≠a+b∨c≠c+d:=by omega
theorem OW {p q u v u' v':Int}(h:u≠v∨u'≠v'):p+u≠p+v∨q+u'≠q+v':=by omega
theorem ht4 {x:Int}(h:x.natAbs≤4):ht (x:Rat)≤1:=oq x (aU h (by decide))
theorem I0 {a b u v:Int}(ha:a.natAbs≤4) (hb:b.natAbs≤4) (hu:u.natAbs≤4) (hv:v.natAbs≤4):Pu Tryz.prog 40 [rp a b,rq 1,rp u v] (rp ((a+u:Int):Rat) ((b+v:Int):Rat)):=by
 have h:=fun {x:Int}(h:x.natAbs≤4)=>aU (ht4 h) (show 1≤1000000 by decide)
 have a1:=qD a b 1 u v (h ha) (h hb) (by rw [lU];decide) (h hu) (h hv);rwa [show(a:Rat)+1*(u:Rat)=((a+u:Int):Rat) by push_cast;grind,show(b:Rat)+1*(v:Rat)=((b+v:Int):Rat) by push_cast;grind]at a1
theorem Jz {a b u v:Int}(ha:a.natAbs≤4) (hb:b.natAbs≤4) (hu:u.natAbs≤4) (hv:v.natAbs≤4):Pu Tryz.prog 109 [rp a b,rp u v] (rq ((a*v-b*u:Int):Rat))∧Pu Tryz.prog 108 [rq ((a*v-b*u:Int):Rat)] (lit (.int .i64 (a*v-b*u).sign)):=by
 have h:=fun {x:Int}(h:x.natAbs≤4)=>aU (ht4 h) (show 1≤100000 by decide)
 have cc:=sa a b u v (h ha) (h hb) (h hu) (h hv);have m1:=xc ha hv;have m2:=xc hb hu;rw [show(a:Rat)*(v:Rat)-(b:Rat)*(u:Rat)=((a*v-b*u:Int):Rat) by push_cast;rfl]at cc;refine⟨cc,?_⟩;clear cc h ha hb hu hv;generalize a*v=x at *;generalize b*u=y at *;have cs:=ri ((x-y:Int):Rat) (by have:=oq (x-y) om;omega);rwa [eA]at cs
theorem MU {a b u v:Int}(h0:a*v-b*u≠0):a≠u∨b≠v:=by
 rcases Int.decEq a u with h|h
 ·exact .inl h
 ·rcases Int.decEq b v with h'|h'
  ·exact .inr h'
  ·exfalso;apply h0;rw [h,h',Int.mul_comm];omega
structure TT where
 i:Nat
 l:List Pq
 s:SV
 Hs:LH
theorem Qm {x y:Int}(hx:x.natAbs≤4) (hy:y.natAbs≤4):Iq (iq x y):=⟨x,y,rfl,om,om⟩
theorem SL {x y:Int}(hx:x.natAbs≤4) (hy:y.natAbs≤4):ht (iq x y).1≤1∧ht (iq x y).2≤1:=⟨oq x om,oq y om⟩
theorem Cv (zs:List Int) (hz:zs.length≤400):PuT 75 zs [] ringR:=by
 refine PuM.intro Tryz.func75 rfl kr fun C b=>?_
 refine A2 ⟨?_⟩;intros;refine Wtx (fj zs hz 4 om om) mmA fun k=>?_
 obtain⟨k,hk⟩:=k;simp only [];refine WPL.nil ?_;refine xW ?_;refine WP.block ?_;refine WP.viaB (fun F H=>LeF F (fm [(0,lit (.pointer (some ⟨b,0,none⟩)))])∧[(b,56,mB zs)].Sublist H) ?_ ?_
 ·by_cases k0:k=0
  ·subst k0;clear hk;refine A2 ⟨?_⟩;intros;refine Wtx (fj zs hz 5 om om) mmA fun a=>?_
   obtain⟨a,ha⟩:=a;simp only [];refine A2 ⟨?_⟩;intros;refine Wtx (fj zs hz 5 om om) mmA fun a2=>?_
   obtain⟨b',hb'⟩:=a2;simp only [];refine A2 ⟨?_⟩;intros;refine Wtx (fj zs hz 4 om om) mmA fun a3=>?_
   obtain⟨c,hc⟩:=a3;simp only [];refine A2 ⟨?_⟩;intros;refine Wtx (fj zs hz 4 om om) mmA fun a4=>?_
   obtain⟨d,hd⟩:=a4;simp only [];have hR:=rg4 (a:=(a:Int)-4) (b:=(b':Int)-4) (c:=(a:Int)-4+1+c) (d:=(b':Int)-4+1+d) om om om om om om;have c1:=u7 ((a:Int)-4) ((b':Int)-4) om om om om;have c2:=u7 ((a:Int)-4+1+c) ((b':Int)-4) om om om om;have c3:=u7 ((a:Int)-4+1+c) ((b':Int)-4+1+d) om om om om;have c4:=u7 ((a:Int)-4) ((b':Int)-4+1+d) om om om om;refine A2 ⟨?_⟩;intros;refine Wcx c1 ?_;refine A2 ⟨?_⟩;intros;refine Wcx c2 ?_;refine A2 ⟨?_⟩;intros;refine Wcx c3 ?_;refine A2 ⟨?_⟩;intros;refine Wcx c4 ?_;refine Wo (BJ fq [iq ((a:Int)-4) ((b':Int)-4),iq ((a:Int)-4+1+c) ((b':Int)-4),iq ((a:Int)-4+1+c) ((b':Int)-4+1+d),iq ((a:Int)-4) ((b':Int)-4+1+d)] (r:=[(0,rpx (iq ((a:Int)-4) ((b':Int)-4))),(1,rpx (iq ((a:Int)-4+1+c) ((b':Int)-4))),(2,rpx (iq ((a:Int)-4+1+c) ((b':Int)-4+1+d))),(3,rpx (iq ((a:Int)-4) ((b':Int)-4+1+d)))]) (.pt rfl (.pt rfl (.pt rfl (.pt rfl .nil))))) ?_;refine A2 ⟨?_⟩;intros;exact fK () _ (bJ (RV.tmp rfl) (Le.ex ⟨_,hR⟩ Lr)) mmA (LeL.refl _)
  ·by_cases k1:k=1
   ·subst k1;clear hk;refine A2 ⟨?_⟩;intros;refine Wtx (zU zs hz) mmA fun p=>?_
    obtain⟨⟨px,py⟩,hpx,hpy⟩:=p;simp only at hpx hpy;simp only [];refine A2 ⟨?_⟩;intros;refine Wtx (Gf zs hz) mmA fun u=>?_
    obtain⟨⟨ux,uy⟩,⟨hux,huy⟩,hu0⟩:=u;simp only at hux huy hu0;simp only [];refine A2 ⟨?_⟩;intros;refine Wtx (Gf zs hz) mmA fun v=>?_
    obtain⟨⟨vx,vy⟩,⟨hvx,hvy⟩,hv0⟩:=v;simp only at hvx hvy hv0;simp only [];obtain⟨cc,cs⟩:=Jz hux huy hvx hvy;by_cases h0:ux*vy-uy*vx=0
    ·rw [h0]at cc cs;clear hu0 hv0 hpx hpy hux huy hvx hvy h0;refine D2 cc cs ⟨?_⟩;intros;exact⟨lfA,Sq⟩
    ·have hs0:(ux*vy-uy*vx).sign≠0:=fun e=>h0 (gc.1 e)
     have a1:=I0 hpx hpy hux huy;have a2:=I0 hpx hpy hvx hvy;have hR:=rg3 (a:=px) (b:=py) (c:=px+ux) (d:=py+uy) (e:=px+vx) (f:=py+vy) (aU hpx (by decide)) (aU hpy (by decide)) (nab hpx hux) (nab hpy huy) (nab hpx hvx) (nab hpy hvy) (LM hu0) (LM hv0) (OW (MU h0));generalize(ux*vy-uy*vx).sign=s at *;generalize ux*vy-uy*vx=z at *;clear h0 hu0 hv0 hpx hpy hux huy hvx hvy;refine D2 cc cs ⟨?_⟩;intros;repeat(first|(refine ol ur ?_)|(refine ol a1 ?_)|(refine ol a2 ?_)|(refine Wdo (BJ fq [iq px py,iq (px+ux) (py+uy),iq (px+vx) (py+vy)] (r:=[(0,rpx (iq px py)),(1,rpx (iq (px+ux) (py+uy))),(2,rpx (iq (px+vx) (py+vy)))]) (.pt rfl (.pt rfl (.pt rfl .nil)))) ?_)|(refine A1 ⟨?_⟩;intros))
     exact fK () _ (bJ (RV.tmp rfl) (Le.ex ⟨_,hR⟩ Lr)) mmA (LeL.refl _)
   ·refine A2 ⟨?_⟩;intros;exact⟨lfA,Sq⟩
 ·rintro F' H' ⟨hF,hH⟩;refine WP.sub hH (WP.le hF ?_);clear hF hH;refine A2 ⟨?_⟩;intros;refine Wtx (fj zs hz 4 om om) mmA fun n0=>?_
  obtain⟨n0,hn0⟩:=n0;simp only [];refine A2 ⟨?_⟩;intros
  refine WP.loopS (ι:=TT) (fun y=>y.l.length+y.i≤6∧chn y.l∧(∀p∈y.l,Iq p)∧Own 89 6 y.l.length (y.l.map rpx).flatten y.s y.Hs) (fun y=>y.i)
   (fun y=>fm [(0,lit (.pointer (some ⟨b,0,none⟩))),(10,y.s),(11,lit (.int .i64 (y.i:Nat)))]) (fun y=>(b,56,mB zs)::y.Hs) ⟨3+n0,[],lit (.slice none 0 0),[]⟩
   ⟨by simp only [bq];omega,fun i a b h=>by simp at h,fun p h=>(by cases h),Own.nil _ _⟩ lfA Sr ?_
  rintro ⟨i,l,s,Hs⟩ ⟨hli,hch,hsh,hown⟩ K hK;simp only at hli hch hsh hown⊢;by_cases hi:0<i
  ·have hgo:∀l' s' Hs',l'.length≤l.length+1→chn l'→(∀p∈l',Iq p)→Own 89 6 l'.length (l'.map rpx).flatten s' Hs'→∀F' H',LeF F' (fm [(0,lit (.pointer (some ⟨b,0,none⟩))),(10,s'),(11,lit (.int .i64 ((i-1:Nat):Int)))])→((b,56,mB zs)::Hs').Sublist H'→K F' H' :=
    fun l' s' Hs' h1 h2 h3 h4 F' H' h5 h6=>hK F' H' ⟨i-1,l',s',Hs'⟩ ⟨by simp only;omega,h2,h3,h4⟩ (by simp only;omega) h5 h6
   clear hK;have hco:=hown.co;by_cases hl0:l.length=0
   ·obtain rfl:=cT hl0;refine A2 ⟨?_⟩;intros;refine Wtx (zU zs hz) mmA fun p=>?_
    obtain⟨⟨x,y⟩,hx,hy⟩:=p;simp only at hx hy;simp only [];refine A2 ⟨?_⟩;intros;refine Wdo (bh hown rfl) ?_;refine A2 ⟨?_⟩;intros;refine ot hown (by decide) (fun s2 H2 hown'=>?_);have hown2:Own 89 6 [iq x y].length ([iq x y].map rpx).flatten s2 H2:=hown';have hco2:=hown2.co;have hgo2:=hgo [iq x y] s2 H2 (by simp) (fun i a b h h'=>by cases i <;> simp at h') (fun p hp=>by rw [ar]at hp;subst hp;exact Qm hx hy) hown2;clear hgo hown hown' hown2;simp only [ab,a8];refine A2 ⟨?_⟩;intros;exact hgo2 _ _ lfA Sq
   ·obtain⟨b2,c2,hnc,hcm,rfl,rfl⟩:=hown.blk om;have hget:=aA (show l.length-1<l.length by omega);generalize l[l.length-1]' om=o at hget;have ho:=(hsh o (bn hget)).ht;have hrow:=KC fq (List.replicate (c2*6-l.length*6) top) hget;have eidx:((l.length:Int)-1).toNat*6=(l.length-1)*6:=by omega
    rw [←eidx]at hrow;clear eidx;refine A2 ⟨?_⟩;intros;refine Wtx (zU zs hz) mmA fun p=>?_
    obtain⟨⟨x,y⟩,hx,hy⟩:=p;simp only at hx hy;simp only [];have hp:=SL hx hy;have c:=y7 o.1 o.2 (iq x y).1 (iq x y).2 om om om om;by_cases hop:o=iq x y
    ·rw [a9 (show o.1=(iq x y).1∧o.2=(iq x y).2 by rw [hop];exact⟨rfl,rfl⟩)]at c;have hgo2:=hgo l _ _ om hch hsh hown;clear hgo hown hch hsh hget ho hp hop;refine A2 ⟨?_⟩;intros;refine fJ (jS rfl mmA hrow (by exact rfl)) ?_;refine D1 c ⟨?_⟩;intros;exact hgo2 _ _ lfA Sq
    ·rw [aa (show¬(o.1=(iq x y).1∧o.2=(iq x y).2)from fun e=>hop (jx e.1 e.2))]at c;have hch2:=MY (p:=iq x y) hch (fun a ha=>by rw [hget]at ha;cases ha;exact hop)
     have hgo2:=fun s' Hs'=>hgo (l++[iq x y]) s' Hs' (by simp) hch2 (fun p hp'=>by
      rcases az.1 hp' with h|h
      ·exact hsh p h
      ·rw [ar]at h;subst h;exact Qm hx hy)
     clear hgo hch hsh hget ho hp hop hch2;refine A2 ⟨?_⟩;intros;refine fJ (jS rfl mmA hrow (by exact rfl)) ?_;refine D1 c ⟨?_⟩;intros;refine ot hown om (fun s2 H2 hown'=>?_)
     have hown2:Own 89 6 (l++[iq x y]).length ((l++[iq x y]).map rpx).flatten s2 H2:=by
      rw [ac,bH,aH,cH];exact hown'
     have hco2:=hown2.co;replace hgo2:=hgo2 s2 H2 hown2;clear hown hown' hown2;simp only [ab,a8];refine A2 ⟨?_⟩;intros;exact hgo2 _ _ lfA Sq
  ·have hi0:i=0:=by omega
   subst hi0;have hl6:l.length≤6:=by omega
   clear hK hli hi;refine WP.rowS 10 hown rfl (show([(b,56,mB zs)]++Hs).Perm _ from aG) ?_;clear hown;have t0:=u7 0 0 (by decide) (by decide) (by decide) (by decide);have t1:=u7 2 0 (by decide) (by decide) (by decide) (by decide);have t2:=u7 0 2 (by decide) (by decide) (by decide) (by decide);have hT:=rg3 (a:=0) (b:=0) (c:=2) (d:=0) (e:=0) (f:=2) (by decide) (by decide) (by decide) (by decide) (by decide) (by decide) (by decide) (by decide) (by decide);refine A2 ⟨?_⟩;intros
   refine WP.loopS (ι:=List Pq) (fun y=>chn y∧y.length≤6∧∀p∈y,Iq p) (fun y=>y.length) (fun y=>fm [(0,lit (.pointer (some ⟨b,0,none⟩))),(10,rps y)]) (fun y=>[(b,56,mB zs)]) l
    ⟨hch,hl6,hsh⟩ lfA Sr ?_
   clear hch hl6 hsh;rintro l ⟨hch,hl6,hsh⟩ K hK;have hfl:=fP fq l;have cs:=Ih l om (fun p hp=>by have:=(hsh p hp).ht;omega);have hsl:=Gk l;by_cases h1:1<l.length
   ·have hget:=aA (show l.length-1<l.length by omega);generalize l[l.length-1]' om=o at hget;have ho:=(hsh o (bn hget)).ht;have hat:=fV (f:=rpx) (n:=6) fq hget;have hget0:=aA (show 0<l.length by omega);generalize l[0]' om=a at hget0;have ha:=(hsh a (bn hget0)).ht;have hat0:=fV (f:=rpx) (n:=6) fq hget0;have hne:(l.map rpx).flatten≠[]:=gA fq om (fun e=>by rw [e]at h1;simp at h1);have eidx:((l.length:Int)-1).toNat*6=(l.length-1)*6:=by omega
    rw [←eidx]at hat;clear eidx;have c:=y7 a.1 a.2 o.1 o.2 om om om om;by_cases hao:a=o
    ·rw [a9 (show a.1=o.1∧a.2=o.2 by rw [hao];exact⟨rfl,rfl⟩)]at c;have hgo:=fun F' H'=>hK F' H' (l.take (l.length-1)) ⟨MX hch,by rw [aC];omega,fun p hp=>hsh p (gP hp)⟩ (by rw [aC];omega)
     have hft:=AU fq l (l.length-1);have hrp:rps (l.take (l.length-1))=sl ((l.take (l.length-1)).map rpx).flatten (l.length-1):=congrArg (fun n:Nat=>sl ((l.take (l.length-1)).map rpx).flatten n) (show(l.take (l.length-1)).length=l.length-1 by rw [aC];omega);clear hK hch hsh hget hget0 ho ha hao cs hsl t0 t1 t2;refine A2 ⟨?_⟩;intros;refine fJ (ae (cs':=rpx a) rfl rfl om om hat0 hne) ?_;refine A2 ⟨?_⟩;intros;refine fJ (ae (cs':=rpx o) rfl rfl om om hat hne) ?_;refine D1 c ⟨?_⟩;intros;refine Wo (L9 (l.length-1) rfl rfl om om) ?_;rw [hft,←hrp];refine A2 ⟨?_⟩;intros;exact hgo _ _ lfA Sr
    ·rw [aa (show¬(a.1=o.1∧a.2=o.2)from fun e=>hao (jx e.1 e.2))]at c;by_cases h3:(srt l).length<3
     ·clear hK hch hsh hget hget0 ho ha hao hfl;refine A2 ⟨?_⟩;intros;refine fJ (ae (cs':=rpx a) rfl rfl om om hat0 hne) ?_;refine A2 ⟨?_⟩;intros;refine fJ (ae (cs':=rpx o) rfl rfl om om hat hne) ?_;refine D4 c cs t0 t1 ⟨?_⟩;intros;refine Wcx t2 ?_;refine Wo (BJ fq [iq 0 0,iq 2 0,iq 0 2] (r:=[(0,rpx (iq 0 0)),(1,rpx (iq 2 0)),(2,rpx (iq 0 2))]) (.pt rfl (.pt rfl (.pt rfl .nil)))) ?_;refine A2 ⟨?_⟩;intros;exact fK () _ (bJ (RV.tmp rfl) (Le.ex ⟨_,hT⟩ Lr)) mmA (LeL.refl _)
     ·have hR:=KI ⟨hl6,hsh⟩ hch om (fun x y hx hy=>by rw [hget0]at hx;rw [hget]at hy;cases hx;cases hy;exact hao);clear hK hch hsh hget hget0 ho ha hao hfl t0 t1 t2;refine A2 ⟨?_⟩;intros;refine fJ (ae (cs':=rpx a) rfl rfl om om hat0 hne) ?_;refine A2 ⟨?_⟩;intros;refine fJ (ae (cs':=rpx o) rfl rfl om om hat hne) ?_;refine D2 c cs ⟨?_⟩;intros;exact fK () _ (bJ (RV.tmp rfl) (Le.ex ⟨l,hR⟩ Lr)) mmA (LeL.refl _)
   ·have h3:(srt l).length<3:=by omega
    clear hK hch hsh hfl;refine D3 cs t0 t1 ⟨?_⟩;intros;refine Wcx t2 ?_;refine Wo (BJ fq [iq 0 0,iq 2 0,iq 0 2] (r:=[(0,rpx (iq 0 0)),(1,rpx (iq 2 0)),(2,rpx (iq 0 2))]) (.pt rfl (.pt rfl (.pt rfl .nil)))) ?_;refine A2 ⟨?_⟩;intros;exact fK () _ (bJ (RV.tmp rfl) (Le.ex ⟨_,hT⟩ Lr)) mmA (LeL.refl _)
theorem oo.ht {l:List Pq}(h:oo l):∀p∈l,Ab.ht p.1≤1∧Ab.ht p.2≤1:=fun p hp=>(h.2.1 p hp).ht
end Go.Ab
