/- Texts laid one behind the other: GwA, Elt, GwB. -/
import Derived.Test.YtpeidlcjlfkpcaaGreatDoorB18
set_option linter.all false
set_option maxHeartbeats 16000000
namespace Go.Ab
open Go.Proofs
variable [Base]
abbrev lqx (l:Li):List SV:=[lit (.bool (decide (l.a<0))),nat l.a.natAbs,lit (.bool (decide (l.b<0))),nat l.b.natAbs,lit (.bool (decide (l.c<0))),nat l.c.natAbs]
theorem kt (l:Li):(lqx l).length=6:=rfl
abbrev lqs (l:List Li):SV:=sl (l.map lqx).flatten l.length
abbrev En:List SV:=[lit (.bool false),lit (.slice none 0 0),lit (.slice none 0 0),lit (.bool false),lit (.slice none 0 0),lit (.slice none 0 0)]
theorem Eo:LeL En (rpx (0,0)):=⟨Le.refl _,wP,wQ,Le.refl _,wP,wQ,trivial⟩
theorem Li.sm.ile {l:Li}(h:l.sm):l.le 1000000:=h.2.gr om
theorem vP {l:Li}{p:Pq}(h:l.sm) (k:hp p 100000):Pu Tryz.prog 191 [lq l,ag (rpx p)] (rq (af l p)):=by
 obtain⟨h1,h2,h3⟩:=h.ht;obtain⟨k1,k2⟩:=k;have:=be (l.a:Rat) p.1;have:=be (l.b:Rat) p.2;have:=fo ((l.a:Rat)*p.1) ((l.b:Rat)*p.2);have c1:=l9 l.a;have c2:=l9 l.b;have c3:=l9 l.c;have c4:=cZ (l.a:Rat) p.1 om om;have c5:=cZ (l.b:Rat) p.2 om om;have c6:=jc ((l.a:Rat)*p.1) ((l.b:Rat)*p.2) om om;have c7:=jc ((l.a:Rat)*p.1+(l.b:Rat)*p.2) (l.c:Rat) om om;unfold af;refine Pi Tryz.func191 fun C=>?_
 repeat(first|(refine A1 ⟨?_⟩;intros)|refine W4 c1 ⟨?_⟩|refine W4 c2 ⟨?_⟩|refine W4 c3 ⟨?_⟩|refine W4 c4 ⟨?_⟩|refine W4 c5 ⟨?_⟩|refine W4 c6 ⟨?_⟩|refine W4 c7 ⟨?_⟩)
 exact G1
theorem uo {l:Li}{p:Pq}(h:l.sm) (k:hp p 100000):Pu Tryz.prog 187 [lq l,ag (rpx p)] (lit (.int .i64 (gR l p))):=by
 have:=Bd h k;have c1:=vP h k;have c2:=ri (af l p) om;unfold gR;refine Pi Tryz.func187 fun C=>?_
 exact Y2 c1 c2
theorem KN {l:Li}{t:Rat}(h:l.sm) (k:ht t≤100000):Pu Tryz.prog 142 [lq l,rq t] (ag (rpx (atL l t))):=by
 obtain⟨b1,b2⟩:=vk h;obtain⟨d1,d2⟩:=ic h;have c1:=ye h.1 h.2;have c2:=oz l h.ile;have c3:=qD (bX l).1 (bX l).2 t (cM l).1 (cM l).2 om om om om om;refine Pi Tryz.func142 fun C=>?_
 refine D3 c1 c2 c3 ⟨?_⟩;intros;exact G1
theorem MS {l:Li}(h:l.ok):uZ (cM l) (cM l)≠0:=fun e=>by
 have hn:=Li.n_pos h;unfold uZ cM at e;rw [show(l.b:Rat)*l.b + -(l.a:Rat) * -(l.a:Rat)=0 from e]at hn;exact absurd hn (by decide)
theorem s7 {l:Li}{p:Pq}(h:l.sm) (k:hp p 100000):Pu Tryz.prog 189 [lq l,ag (rpx p)] (rq (fp l p)):=by
 have h1:=xl k (ic h);have h2:=xl (ic h) (ic h);obtain⟨d1,d2⟩:=ic h;obtain⟨k1,k2⟩:=k;have m1:=be p.1 (cM l).1;have m2:=be p.2 (cM l).2;have m3:=be (cM l).1 (cM l).1;have m4:=be (cM l).2 (cM l).2;have hne:(uZ (cM l) (cM l)).num≠0:=fun e=>MS h.1 (ga.1 e)
 have c1:=oz l h.ile;have c2:=Br p.1 p.2 (cM l).1 (cM l).2 om om om om om om;have c3:=Br (cM l).1 (cM l).2 (cM l).1 (cM l).2 om om om om om om;have c4:=pg (uZ p (cM l)) (uZ (cM l) (cM l)) om om hne;refine Pi Tryz.func189 fun C=>?_
 refine D4 c1 c2 c3 c4 ⟨?_⟩;intros;exact G1
theorem qn (a b:Int) (ha:il a≤1000000) (hb:il b≤1000000):Pu Tryz.prog 196 [int a,int b] (lit (.int .i64 (a + -b).sign)):=by
 have h1:=iP b;have h2:=BZ a (-b);unfold il at *;have c1:=nT b om;have c2:=yf a (-b) om om;have c3:=s6 (a + -b) om;refine Pi Tryz.func196 fun C=>?_
 exact Y3 c1 c2 c3
theorem yd {l m:Li}(h:l.le 1000000) (k:m.le 1000000):Pu Tryz.prog 145 [lq l,lq m] (lit (.int .i64 (rF l m))):=by
 have c1:=qn l.a m.a h.a k.a;have c2:=qn l.b m.b h.b k.b;have c3:=qn l.c m.c h.c k.c;unfold rF;clear h k;generalize(l.a + -m.a).sign=s1 at *;generalize(l.b + -m.b).sign=s2 at *;generalize(l.c + -m.c).sign=s3 at *;by_cases h1:s1=0
 ·rw [if_neg (fun k=>k h1)];by_cases h2:s2=0
  ·rw [if_neg (fun k=>k h2)];refine Pi Tryz.func145 fun C=>?_
   exact Y3 c1 c2 c3
  ·rw [if_pos h2];refine Pi Tryz.func145 fun C=>?_
   exact Y3 c1 c2 c3
 ·rw [if_pos h1];refine Pi Tryz.func145 fun C=>?_
  exact Y3 c1 c2 c3
theorem Iw {l:Li}(h:l.le 1000000):Pu Tryz.prog 157 [lq l] (Ab.tup [lq (lX l),lit (.bool (Q3 l))]):=by
 have c1:=uq l h;have c2:=s6 l.a (by have:=h.a;unfold il at this;omega);have c3:=s6 l.b (by have:=h.b;unfold il at this;omega);unfold lX Q3;clear h;rcases iy l.a 0 with h1|h1|h1
 ·rw [a9 (.inl h1),if_pos rfl];have:=gf h1;rw [this]at c2;refine Pi Tryz.func157 fun C=>?_
  refine D2 c2 c1 ⟨?_⟩;intros;exact G3
 ·rw [show l.a.sign=0 from gc.2 h1]at c2;by_cases h2:l.b<0
  ·rw [a9 (.inr ⟨h1,h2⟩),if_pos rfl];rw [gf h2]at c3;refine Pi Tryz.func157 fun C=>?_
   refine D3 c2 c3 c1 ⟨?_⟩;intros;exact G3
  ·rw [aa om];have hs:¬l.b.sign<0:=fun k=>h2 (Int.sign_neg_iff.1 k)
   generalize l.b.sign=s at *;clear h2;refine Pi Tryz.func157 fun C=>?_
   refine D3 c2 c3 c1 ⟨?_⟩;intros;exact G3
 ·rw [aa om];rw [fy h1]at c2;refine Pi Tryz.func157 fun C=>?_
  refine D2 c2 c1 ⟨?_⟩;intros;exact G3
theorem CP {l m:Li}(h:l.sm) (k:m.sm):Pu Tryz.prog 186 [lq l,lq m] (Ab.tup [ag (rpx ((yz l m).getD (0,0))),lit (.bool (yz l m).isSome)]):=by
 have hd:=HL h k;obtain⟨h1,h2,h3⟩:=h.ht;obtain⟨k1,k2,k3⟩:=k.ht;have m1:=be (l.a:Rat) m.b;have m2:=be (m.a:Rat) l.b;have m3:=be (l.b:Rat) m.c;have m4:=be (m.b:Rat) l.c;have m5:=be (m.a:Rat) l.c;have m6:=be (l.a:Rat) m.c;have s1:=gh ((l.b:Rat)*m.c) (m.b*l.c);have s2:=gh ((m.a:Rat)*l.c) (l.a*m.c);have q1:=l9 l.a;have q2:=l9 l.b;have q3:=l9 l.c;have q4:=l9 m.a;have q5:=l9 m.b;have q6:=l9 m.c;have t1:=cZ (l.a:Rat) m.b om om;have t2:=cZ (m.a:Rat) l.b om om;have u1:=mh ((l.a:Rat)*m.b) ((m.a:Rat)*l.b) om om;rw [show(l.a:Rat)*m.b-(m.a:Rat)*l.b=gW l m from rfl]at u1;have s:=ri (gW l m) om;unfold yz;by_cases hz:gW l m=0
 ·rw [if_pos hz];rw [e7.2 hz]at s;clear h h1 h2 h3 k k1 k2 k3 m1 m2 m3 m4 m5 m6 s1 s2 hd hz;refine Pi Tryz.func186 fun C=>?_
  repeat(first|(refine A1 ⟨?_⟩;intros)|refine W4 q1 ⟨?_⟩|refine W4 q2 ⟨?_⟩|refine W4 q3 ⟨?_⟩|refine W4 q4 ⟨?_⟩|refine W4 q5 ⟨?_⟩|refine W4 q6 ⟨?_⟩|refine W4 t1 ⟨?_⟩|refine W4 t2 ⟨?_⟩|refine W4 u1 ⟨?_⟩|refine W4 s ⟨?_⟩)
  ((first|refine cV ?_|refine jK ?_);exact eJ (s1:=ag En) RVa (RV.tmp rfl) (Le.tup2 (Le.ag Eo) Lr))
 ·rw [if_neg hz];have hs:¬(gW l m).num.sign=0:=fun e=>hz (e7.1 e)
  have hn:(gW l m).num≠0:=fun e=>hz (ga.1 e)
  have t3:=cZ (l.b:Rat) m.c om om;have t4:=cZ (m.b:Rat) l.c om om;have t5:=cZ (m.a:Rat) l.c om om;have t6:=cZ (l.a:Rat) m.c om om;have u2:=mh ((l.b:Rat)*m.c) ((m.b:Rat)*l.c) om om;have u3:=mh ((m.a:Rat)*l.c) ((l.a:Rat)*m.c) om om;have o1:=pg ((l.b:Rat)*m.c-(m.b:Rat)*l.c) (gW l m) om om hn;have o2:=pg ((m.a:Rat)*l.c-(l.a:Rat)*m.c) (gW l m) om om hn;clear h h1 h2 h3 k k1 k2 k3 m1 m2 m3 m4 m5 m6 s1 s2 hd hz hn;generalize(gW l m).num.sign=z at *;simp only [kW,ny];unfold dY;refine Pi Tryz.func186 fun C=>?_
  repeat(first|(refine A1 ⟨?_⟩;intros)|refine W4 q1 ⟨?_⟩|refine W4 q2 ⟨?_⟩|refine W4 q3 ⟨?_⟩|refine W4 q4 ⟨?_⟩|refine W4 q5 ⟨?_⟩|refine W4 q6 ⟨?_⟩|refine W4 t1 ⟨?_⟩|refine W4 t2 ⟨?_⟩|refine W4 u1 ⟨?_⟩|refine W4 s ⟨?_⟩|refine W4 t3 ⟨?_⟩|refine W4 t4 ⟨?_⟩|refine W4 t5 ⟨?_⟩|refine W4 t6 ⟨?_⟩|refine W4 u2 ⟨?_⟩|refine W4 u3 ⟨?_⟩|refine W4 o1 ⟨?_⟩|refine W4 o2 ⟨?_⟩)
  exact G3
theorem CS (v:Pq) (h:hp v 1000000):Pu Tryz.prog 195 [ag (rpx v)] (lit (.int .i64 (qQ v))):=by
 obtain⟨h1,h2⟩:=h;have c1:=ri v.1 om;have c2:=ri v.2 om;have e:=AL v;rw [e];generalize v.1.num.sign=x at *;generalize v.2.num.sign=y at *;clear e h1 h2;by_cases a1:x=0
 ·by_cases a2:y=0
  ·rw [if_pos ⟨a1,a2⟩];refine Pi Tryz.func195 fun C=>?_
   exact Y2 c1 c2
  ·rw [if_neg om];by_cases a3:0<y
   ·rw [if_pos (.inl a3)];refine Pi Tryz.func195 fun C=>?_
    exact Y2 c1 c2
   ·rw [if_neg om];refine Pi Tryz.func195 fun C=>?_
    exact Y2 c1 c2
 ·rw [if_neg om];by_cases a3:0<y
  ·rw [if_pos (.inl a3)];refine Pi Tryz.func195 fun C=>?_
   exact Y2 c1 c2
  ·by_cases a4:y=0
   ·by_cases a5:0<x
    ·rw [if_pos (.inr ⟨a4,a5⟩)];refine Pi Tryz.func195 fun C=>?_
     exact Y2 c1 c2
    ·rw [if_neg om];refine Pi Tryz.func195 fun C=>?_
     exact Y2 c1 c2
   ·rw [if_neg om];refine Pi Tryz.func195 fun C=>?_
    exact Y2 c1 c2
theorem Iy (u v:Pq) (h:hp u 40000) (k:hp v 40000):Pu Tryz.prog 144 [ag (rpx u),ag (rpx v)] (lit (.int .i64 (wq u v))):=by
 have hx:=sB h k;obtain⟨h1,h2⟩:=h;obtain⟨k1,k2⟩:=k;have c1:=CS u ⟨om,om⟩;have c2:=CS v ⟨om,om⟩;have c3:=sa u.1 u.2 v.1 v.2 om om om om;have c4:=ri (gi u v) om;have hs : -1≤(gi u v).num.sign∧(gi u v).num.sign≤1:=by have:=kz (gi u v).num;omega
 unfold wq;rw [show u.1*v.2-u.2*v.1=gi u v from rfl]at c3;generalize qQ u=a at *;generalize qQ v=b at *;clear h1 h2 k1 k2;by_cases e:a=b
 ·rw [if_neg (fun k=>k e)];clear hx;generalize(gi u v).num.sign=z at *;refine Pi Tryz.func144 fun C=>?_
  refine D4 c1 c2 c3 c4 ⟨?_⟩;intros;exact E1
 ·rw [if_pos e];by_cases f:a<b
  ·rw [if_pos f];clear hx hs;refine Pi Tryz.func144 fun C=>?_
   exact Y2 c1 c2
  ·rw [if_neg f];clear hx hs;refine Pi Tryz.func144 fun C=>?_
   exact Y2 c1 c2
theorem EN (a b c:Pq) (h:hp a 1000) (k:hp b 1000) (j:hp c 1000):Pu Tryz.prog 244 [ag (rpx a),ag (rpx b),ag (rpx c)] (lit (.int .i64 (uC a b c))):=by
 obtain⟨h1,h2⟩:=h;obtain⟨k1,k2⟩:=k;obtain⟨j1,j2⟩:=j;have m1:=gh b.1 a.1;have m2:=gh b.2 a.2;have m3:=gh c.1 a.1;have m4:=gh c.2 a.2;have c1:=wV b.1 b.2 a.1 a.2 om om om om;have c2:=wV c.1 c.2 a.1 a.2 om om om om;have c3:=sa (b.1-a.1) (b.2-a.2) (c.1-a.1) (c.2-a.2) om om om om;have hx:=sB (p:=(b.1-a.1,b.2-a.2)) (q:=(c.1-a.1,c.2-a.2)) (n:=2001) (m:=2001) ⟨by simp only;omega,by simp only;omega⟩ ⟨by simp only;omega,by simp only;omega⟩;have c4:=ri (gi (b.1-a.1,b.2-a.2) (c.1-a.1,c.2-a.2)) om;unfold uC;refine Pi Tryz.func244 fun C=>?_
 refine D4 c1 c2 c3 c4 ⟨?_⟩;intros;exact E1
theorem elt {α:Type}{f:α→List SV}{n:Nat}(hf:∀a,(f a).length=n) (hn:0<n){l:List α}{k:Nat}(hk:k<l.length):∃a,l[k]? = some a∧a∈l∧(((l.map f).flatten).drop (k*n)).take n=f a∧(l.map f).flatten≠[] :=
 have h:=aA hk
 ⟨l[k],h,bn h,fV hf h,gA hf om (fun e=>by rw [e]at hk;simp at hk)⟩
theorem Py {α:Type}{f:α→List SV}{n:Nat}(hf:∀a,(f a).length=n) (out:List α) (x:α) (j:Nat) (hj:j≤out.length):((out.map f).flatten).length=out.length*n∧(((out.map f).flatten).drop (j*n)).length=(out.length-j)*n∧(((out.map f).flatten).take (j*n)).length=j*n∧
  (f x++((out.map f).flatten).drop (j*n)).length=(1+(out.length-j))*n∧((out.map f).flatten).take (j*n)++(f x++((out.map f).flatten).drop (j*n))=((out.take j++x::out.drop j).map f).flatten∧j+(1+(out.length-j))=(out.take j++x::out.drop j).length:=by
 have hfl:=fP hf out;have hdl:(((out.map f).flatten).drop (j*n)).length=(out.length-j)*n:=by rw [cO,hfl,ij]
 refine⟨hfl,hdl,?_,?_,w5 hf out x j,?_⟩
 ·have:=aR n hj;rw [aC,hfl];omega
 ·rw [ac,hdl,hf,aT,aY]
 ·rw [ac,aF,aC,cO];omega
section
variable {α:Type}{lt:α→α→Bool}{out:List α}{x o:α}{j:Nat}
theorem Hn (hj:j=lQ lt out x):DQ lt out x=out.take j++x::out.drop j:=by unfold DQ;rw [←hj]
theorem xg [DecidableEq α] (hj:j=lQ lt out x) (ho:out[j]? = some o) (e:o=x):lS lt out x=out:=by unfold lS;rw [←hj,if_pos (by rw [ho,e])]
theorem xh [DecidableEq α] (hj:j=lQ lt out x) (ho:out[j]? = some o) (e:¬o=x):lS lt out x=out.take j++x::out.drop j:=by
 unfold lS;rw [←hj,if_neg (by rw [ho];exact fun h=>e (bZ h))];exact Hn hj
theorem uP [DecidableEq α] (hj:j=out.length) (h:j≤lQ lt out x):lS lt out x=out.take j++x::out.drop j:=by
 have hp:=se lt out x;have he:j=lQ lt out x:=by omega
 unfold lS;rw [←he,if_neg (by rw [df om];intro h;cases h)];exact Hn he
end
theorem kw {α:Type}{l:List α}{k:Nat}{a:α}(h:l[k]? = some a):l.drop k=a::l.drop (k+1):=by
 obtain⟨h1,h2⟩:=bI.1 h;rw [jO h1,h2]
abbrev rqx (x:Rat):List SV:=[lit (.bool (decide (x.num<0))),nat x.num.natAbs,dg (oX x.den)]
theorem mH (x:Rat):(rqx x).length=3:=rfl
abbrev rqs (l:List Rat):SV:=sl (l.map rqx).flatten l.length
theorem Jv {l:List Li}{k:Nat}{a:Li}(h:l[k]? = some a):wd (l.take (k+1))=lS llt (wd (l.take k)) (lX a):=qG h
theorem Bt (l:List Li) (hl:l.length≤100000) (hh:∀m∈l,m.le 1000000):Pu Tryz.prog 114 [lqs l] (lqs (wd l)):=by
 refine Pi Tryz.func114 fun C=>?_
 refine A2 ⟨?_⟩;intros
 refine WP.loopS (ι:=Nat) (fun k=>k≤l.length) (fun k=>l.length-k) (fun k=>fm [(3,lqs (wd (l.take k))),(7,lqs l),(8,lit (.int .i64 l.length)),(9,lit (.int .i64 k))]) (fun _=>[]) 0
  (an _) (LeF.cons i5 lfA) (av _) ?_
 rintro k hk K hK;by_cases hkl:k<l.length
 ·obtain⟨a,hget,ham,hat,hne⟩:=elt kt om hkl;have ha:=hh a ham;have cc:=Iw ha
  have hx:(lX a).le 1000000:=by
   unfold lX;split
   ·exact⟨by show il (-a.a)≤_;rw [iP];exact ha.a,by show il (-a.b)≤_;rw [iP];exact ha.b,by show il (-a.c)≤_;rw [iP];exact ha.c⟩
   ·exact ha
  have hgo:=fun F' H' h1 h2=>hK F' H' (k+1) om om h1 h2
  rw [Jv hget]at hgo
  have hsm:∀q∈wd (l.take k),q.le 1000000:=fun q hq=>by
   obtain⟨y,hy,rfl⟩:=MO.1 hq;have h:=hh y (gP hy);unfold lX;split
   ·exact⟨by show il (-y.a)≤_;rw [iP];exact h.a,by show il (-y.b)≤_;rw [iP];exact h.b,by show il (-y.c)≤_;rw [iP];exact h.c⟩
   ·exact h
  have hsl:=MP (l.take k);rw [aC]at hsl;generalize wd (l.take k)=out at hgo hsm hsl⊢;generalize lX a=x at *;generalize Q3 a=fl at *;clear hK hh ha ham hget;refine A2 ⟨?_⟩;intros;refine Wo (ae (cs':=lqx a) rfl rfl om om hat hne) ?_;refine D1 cc ⟨?_⟩;intros;rename_i b5;refine WP.loopS (ι:=Nat) (fun j=>j≤lQ llt out x) (fun j=>out.length-j) (fun j=>fm [(3,sl (out.map lqx).flatten out.length),(6,lit (.int .i64 j)),(5,lit (.pointer (some ⟨b5,0,none⟩))),(7,lqs l),(8,lit (.int .i64 l.length)),(9,lit (.int .i64 k))]) (fun _=>[(b5,83,lqx x)]) 0 (an _) lfA Sr ?_;rintro j hj K2 hK2;have hpl:=se llt out x;obtain⟨hfl,hdl,htl,hpl2,hins,hln⟩:=Py kt out x j om;by_cases hjl:j<out.length
  ·obtain⟨o,hget2,hom,hat2,hne2⟩:=elt kt om hjl;have ho:=hsm o hom;obtain⟨z,hzz⟩:∃z,z=rF o x:=⟨_,rfl⟩
   have c:=yd ho hx;have hlt:llt o x=decide (z<0):=by rw [hzz]
   have heq:z=0↔o=x:=by rw [hzz];exact lW
   rw [←hzz]at c;obtain⟨s1,s2⟩:=sd (lt:=llt) (x:=x) hj hget2;rw [hlt]at s1 s2;by_cases hneg:z<0
   ·have hj1:=s1 (a9 hneg);clear hgo s1 s2
    as_aux_lemma =>
     refine A2 ⟨?_⟩;intros;refine fJ (ae (cs':=lqx o) rfl rfl om om hat2 hne2) ?_;refine D1 c ⟨?_⟩;intros;exact hK2 _ _ (j+1) hj1 om lfA Sr
   ·have hje:=s2 (aa hneg);clear hK2 s1 s2;by_cases hz:o=x
    ·rw [xg hje hget2 hz]at hgo;have hz0:=heq.2 hz;clear heq
     as_aux_lemma =>
      refine A2 ⟨?_⟩;intros;refine fJ (ae (cs':=lqx o) rfl rfl om om hat2 hne2) ?_;refine D1 c ⟨?_⟩;intros;refine fJ (ae (cs':=lqx o) rfl rfl om om hat2 hne2) ?_;refine D1 c ⟨?_⟩;intros;exact hgo _ _ lfA (av _)
    ·rw [xh hje hget2 hz]at hgo;have hz0:¬z=0:=fun e=>hz (heq.1 e)
     clear heq
     as_aux_lemma =>
      refine A2 ⟨?_⟩;intros;refine fJ (ae (cs':=lqx o) rfl rfl om om hat2 hne2) ?_;refine D1 c ⟨?_⟩;intros;refine fJ (ae (cs':=lqx o) rfl rfl om om hat2 hne2) ?_;refine D1 c ⟨?_⟩;intros;refine Wdo (m7 j rfl rfl rfl rfl rfl hfl om) ?_;repeat(first|(refine Wdo (nX (s:=ag (lqx x)) (ds:=lqx x) rfl inferInstance) ?_)|(refine Wdo (ld j rfl rfl rfl hfl om) ?_)|(refine A1 ⟨?_⟩;intros))
      refine Wdo (bU (k:=1) (k0:=out.length-j) rfl rfl rfl hdl om) ?_;refine Wdo (bU (k:=j) (k0:=1+(out.length-j)) rfl rfl htl hpl2 om) ?_;rw [hins,hln];refine A2 ⟨?_⟩;intros;exact hgo _ _ lfA (av _)
  ·have hje:j=out.length:=by omega
   rw [uP hje hj]at hgo;clear hK2
   as_aux_lemma =>
    refine A2 ⟨?_⟩;intros;refine Wdo (m7 j rfl rfl rfl rfl rfl hfl om) ?_;repeat(first|(refine Wdo (nX (s:=ag (lqx x)) (ds:=lqx x) rfl inferInstance) ?_)|(refine Wdo (ld j rfl rfl rfl hfl om) ?_)|(refine A1 ⟨?_⟩;intros))
    refine Wdo (bU (k:=1) (k0:=out.length-j) rfl rfl rfl hdl om) ?_;refine Wdo (bU (k:=j) (k0:=1+(out.length-j)) rfl rfl htl hpl2 om) ?_;rw [hins,hln];refine A2 ⟨?_⟩;intros;exact hgo _ _ lfA (av _)
 ·have hke:k=l.length:=by omega
  subst hke;rw [aP];refine A2 ⟨?_⟩;intros;exact cV (bJ (RV.tmp rfl) Lr)
theorem A8 (x:Rat) (h:ht x≤1000000):Pu Tryz.prog 193 [rq x] (rq (x/2)):=by
 have o:=vR 2 om om;have h2:=uU 2 om;have c:=pg x ((2:Int):Rat) om om (by decide);rw [show((2:Int):Rat)=2 from rfl]at c o;refine Pi Tryz.func193 fun C=>?_
 exact X2 o c
theorem Gx (x y:Rat) (h:ht x≤100000) (k:ht y≤100000):Pu Tryz.prog 194 [rq x,rq y] (rq (mQ x y)):=by
 have:=fo x y;have c1:=jc x y om om;have c2:=A8 (x+y) om;unfold mQ;refine Pi Tryz.func194 fun C=>?_
 exact X2 c1 c2
theorem H8 {p v:Pq}{a:Li}(ha:a.sm) (hp':hp p 120) (hv:hp v 1):ht (af a p)≤247∧ht (af a (iQ p 1 v))≤255∧ht (af a (iQ p 1 v)-af a p)≤503∧ht (-(af a p/(af a (iQ p 1 v)-af a p)))≤752∧ht (-(af a p/(af a (iQ p 1 v)-af a p))/2)≤755:=by
 have h1:=lU;have h2:ht (2:Rat)≤1:=uU 2 om;have v1:=Bd ha (vm (k:=1) hp' (show ht 1≤1 by omega) hv);have v2:=Bd ha hp';have d:=gh (af a (iQ p 1 v)) (af a p);have q:=qC (af a p) (af a (iQ p 1 v)-af a p);have n:=fI (af a p/(af a (iQ p 1 v)-af a p));have e:=qC (-(af a p/(af a (iQ p 1 v)-af a p))) 2;omega
theorem IW {p v:Pq}{s:Rat}{a:Li}(ha:a.sm) (hp':hp p 120) (hv:hp v 1) (hs:ht s≤760):ht (gS p v s a)≤760:=by
 have:=H8 ha hp' hv;unfold gS;split
 ·exact hs
 ·split
  ·omega
  ·exact hs
theorem LK {l:List Li}{p v:Pq}(hh:∀m∈l,m.sm) (hp':hp p 120) (hv:hp v 1):hp (Aw l p v) 883:=by
 have key:∀(l:List Li),(∀m∈l,m.sm)→∀s,ht s≤760→ht (l.foldl (gS p v) s)≤760:=by
  intro l;induction l with
  |nil=>intro _ s h;exact h
  |cons a l ih=>intro h s hs;exact ih (fun m hm=>h m (Mc hm)) _ (IW (h a Ms) hp' hv hs)
 have h1:=lU;exact vm hp' (key l hh 1 om) hv
theorem KE (l:List Li) (p v:Pq) (hl:l.length≤100000) (hh:∀m∈l,m.sm) (hp':hp p 120) (hv:hp v 1):Pu Tryz.prog 141 [lqs l,ag (rpx p),ag (rpx v)] (ag (rpx (Aw l p v))):=by
 have h1:=lU;obtain⟨p1,p2⟩:=hp';obtain⟨v1,v2⟩:=hv;have d0:=qD p.1 p.2 1 v.1 v.2 om om om om om;refine Pi Tryz.func141 fun C=>?_
 refine D1 ur ⟨?_⟩;intros;rename_i b4 b5 b6 b7
 refine WP.loopS (ι:=Nat×Rat) (fun y=>y.1≤l.length∧y.2=(l.take y.1).foldl (gS p v) 1∧ht y.2≤760) (fun y=>l.length-y.1) (fun y=>fm [(4,lit (.pointer (some ⟨b4,0,none⟩))),(5,lit (.pointer (some ⟨b5,0,none⟩))),(6,lit (.pointer (some ⟨b6,0,none⟩))),(7,lit (.pointer (some ⟨b7,0,none⟩))),(13,lqs l),(14,lit (.int .i64 l.length)),(15,lit (.int .i64 y.1))])
  (fun y=>[(b7,87,rqx y.2),(b6,89,En),(b5,89,rpx v),(b4,89,rpx p)]) (0,1) ⟨an _,rfl,by show ht 1≤760;omega⟩ lfA Sr ?_
 rintro ⟨k,s⟩ ⟨hk,hs,hsb⟩ K hK;simp only at hk hs hsb⊢;by_cases hkl:k<l.length
 ·obtain⟨a,hget,ham,hat,hne⟩:=elt kt om hkl;have ha:=hh a ham;have hgo:=fun s' (e:s'=gS p v s a) (hb:ht s'≤760) F' H'=>hK F' H' (k+1,s') ⟨by simp only;omega,by rw [e,hs,qG hget],hb⟩ (by simp only;omega)
  obtain⟨b1,b2,b3,b4,b5⟩:=H8 ha ⟨p1,p2⟩ ⟨v1,v2⟩;have hadd:=vm (p:=p) (v:=v) (k:=1) ⟨p1,p2⟩ (show ht 1≤1 by omega) ⟨v1,v2⟩;have d1:=vP (p:=iQ p 1 v) ha ⟨by have:=hadd.1;omega,by have:=hadd.2;omega⟩;have d2:=vP (p:=p) ha ⟨om,om⟩;have d3:=mh (af a (iQ p 1 v)) (af a p) om om;have d4:=ri (af a (iQ p 1 v)-af a p) om;have d5:=uo (p:=p) ha ⟨om,om⟩;have d6:=fun h=>pg (af a p) (af a (iQ p 1 v)-af a p) om om h
  have hq:=qC (af a p) (af a (iQ p 1 v)-af a p);have d7:=mJ (af a p/(af a (iQ p 1 v)-af a p)) om;unfold gS at hgo;have hnum:(af a (iQ p 1 v)-af a p).num.sign≠0→(af a (iQ p 1 v)-af a p).num≠0:=fun h e=>h (by rw [e];rfl)
  generalize af a (iQ p 1 v)=A at *;generalize af a p=B at *;generalize -(B/(A-B))=t at *;have d8:=ri t om;have d9:=A8 t om;have d10:=oA (t/2) s om om;generalize(A-B).num.sign=z1 at *;generalize gR a p=z2 at *;generalize t.num.sign=z3 at *;generalize(t/2-s).num.sign=z4 at *;clear hK hh ham hs hget hadd hq;by_cases hz1:z1=0
  ·rw [if_pos (.inl hz1)]at hgo;subst hz1;replace hgo:=hgo s rfl hsb;clear d6 hnum b1 b2 b3 b4 b5;refine A2 ⟨?_⟩;intros;refine Wo (ae (cs':=lqx a) rfl rfl om om hat hne) ?_;repeat(first|(refine A1 ⟨?_⟩;intros)|refine W4 ur ⟨?_⟩|refine W4 d0 ⟨?_⟩|refine W4 d1 ⟨?_⟩|refine W4 d2 ⟨?_⟩|refine W4 d3 ⟨?_⟩|refine W4 d4 ⟨?_⟩|refine W4 d5 ⟨?_⟩)
   exact hgo _ _ lfA (Sc (Sc Sr))
  ·by_cases hz2:z2=0
   ·rw [if_pos (.inr hz2)]at hgo;subst hz2;replace hgo:=hgo s rfl hsb;clear d6 hnum b1 b2 b3 b4 b5;refine A2 ⟨?_⟩;intros;refine Wo (ae (cs':=lqx a) rfl rfl om om hat hne) ?_;repeat(first|(refine A1 ⟨?_⟩;intros)|refine W4 ur ⟨?_⟩|refine W4 d0 ⟨?_⟩|refine W4 d1 ⟨?_⟩|refine W4 d2 ⟨?_⟩|refine W4 d3 ⟨?_⟩|refine W4 d4 ⟨?_⟩|refine W4 d5 ⟨?_⟩)
    exact hgo _ _ lfA Sq
   ·rw [if_neg (fun h=>h.elim hz1 hz2)]at hgo;replace d6:=d6 (hnum hz1);by_cases hz3:0<z3
    ·by_cases hz4:z4<0
     ·rw [if_pos ⟨hz3,hz4⟩]at hgo;replace hgo:=hgo _ rfl om;clear hnum b1 b2 b3 b4 b5;generalize t/2=t2 at *;refine A2 ⟨?_⟩;intros;refine Wo (ae (cs':=lqx a) rfl rfl om om hat hne) ?_;repeat(first|(refine A1 ⟨?_⟩;intros)|refine W4 ur ⟨?_⟩|refine W4 d0 ⟨?_⟩|refine W4 d1 ⟨?_⟩|refine W4 d2 ⟨?_⟩|refine W4 d3 ⟨?_⟩|refine W4 d4 ⟨?_⟩|refine W4 d5 ⟨?_⟩|refine W4 d6 ⟨?_⟩|refine W4 d7 ⟨?_⟩|refine W4 d8 ⟨?_⟩|refine W4 d9 ⟨?_⟩|refine W4 d10 ⟨?_⟩)
      exact hgo _ _ lfA Sq
     ·rw [if_neg (fun h=>hz4 h.2)]at hgo;replace hgo:=hgo s rfl hsb;clear hnum b1 b2 b3 b4 b5;generalize t/2=t2 at *;refine A2 ⟨?_⟩;intros;refine Wo (ae (cs':=lqx a) rfl rfl om om hat hne) ?_;repeat(first|(refine A1 ⟨?_⟩;intros)|refine W4 ur ⟨?_⟩|refine W4 d0 ⟨?_⟩|refine W4 d1 ⟨?_⟩|refine W4 d2 ⟨?_⟩|refine W4 d3 ⟨?_⟩|refine W4 d4 ⟨?_⟩|refine W4 d5 ⟨?_⟩|refine W4 d6 ⟨?_⟩|refine W4 d7 ⟨?_⟩|refine W4 d8 ⟨?_⟩|refine W4 d9 ⟨?_⟩|refine W4 d10 ⟨?_⟩)
      exact hgo _ _ lfA Sq
    ·rw [if_neg (fun h=>hz3 h.1)]at hgo;replace hgo:=hgo s rfl hsb;clear hnum b1 b2 b3 b4 b5;refine A2 ⟨?_⟩;intros;refine Wo (ae (cs':=lqx a) rfl rfl om om hat hne) ?_;repeat(first|(refine A1 ⟨?_⟩;intros)|refine W4 ur ⟨?_⟩|refine W4 d0 ⟨?_⟩|refine W4 d1 ⟨?_⟩|refine W4 d2 ⟨?_⟩|refine W4 d3 ⟨?_⟩|refine W4 d4 ⟨?_⟩|refine W4 d5 ⟨?_⟩|refine W4 d6 ⟨?_⟩|refine W4 d7 ⟨?_⟩|refine W4 d8 ⟨?_⟩)
     exact hgo _ _ lfA Sq
 ·have hke:k=l.length:=by omega
  subst hke;rw [aP]at hs;have c:=qD p.1 p.2 s v.1 v.2 om om om om om;have e:Aw l p v=iQ p s v:=by unfold Aw;rw [hs]
  rw [e];clear hK hh hs e;exact X1 c
end Go.Ab
