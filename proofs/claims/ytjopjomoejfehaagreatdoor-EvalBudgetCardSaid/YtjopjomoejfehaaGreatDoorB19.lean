/- Texts laid one behind the other: GwA, Elt, GwB. -/
import Derived.Test.YtjopjomoejfehaaGreatDoorB18
set_option linter.all false
set_option maxHeartbeats 16000000
namespace Go.Ab
open Go.Proofs
variable [Base]
abbrev lqx (l:Li):List SV:=[lit (.bool (decide (l.a<0))),nat l.a.natAbs,lit (.bool (decide (l.b<0))),nat l.b.natAbs,lit (.bool (decide (l.c<0))),nat l.c.natAbs]
theorem ku (l:Li):(lqx l).length=6:=rfl
abbrev lqs (l:List Li):SV:=sl (l.map lqx).flatten l.length
abbrev Ef:List SV:=[lit (.bool false),lit (.slice none 0 0),lit (.slice none 0 0),lit (.bool false),lit (.slice none 0 0),lit (.slice none 0 0)]
theorem Eg:LeL Ef (rpx (0,0)):=⟨Le.refl _,wB,wC,Le.refl _,wB,wC,trivial⟩
theorem Li.sm.ile {l:Li}(h:l.sm):l.le 1000000:=h.2.gr om
theorem vC {l:Li}{p:Pq}(h:l.sm) (k:hp p 100000):Pu Tryz.prog 175 [lq l,ag (rpx p)] (rq (af l p)):=by
 obtain⟨h1,h2,h3⟩:=h.ht;obtain⟨k1,k2⟩:=k;have:=bF (l.a:Rat) p.1;have:=bF (l.b:Rat) p.2;have:=fh ((l.a:Rat)*p.1) ((l.b:Rat)*p.2);have c1:=l6 l.a;have c2:=l6 l.b;have c3:=l6 l.c;have c4:=dI (l.a:Rat) p.1 om om;have c5:=dI (l.b:Rat) p.2 om om;have c6:=jL ((l.a:Rat)*p.1) ((l.b:Rat)*p.2) om om;have c7:=jL ((l.a:Rat)*p.1+(l.b:Rat)*p.2) (l.c:Rat) om om;unfold af;refine Pi Tryz.func175 fun C=>?_
 repeat(first|(refine A1 ⟨?_⟩;intros)|refine W4 c1 ⟨?_⟩|refine W4 c2 ⟨?_⟩|refine W4 c3 ⟨?_⟩|refine W4 c4 ⟨?_⟩|refine W4 c5 ⟨?_⟩|refine W4 c6 ⟨?_⟩|refine W4 c7 ⟨?_⟩)
 exact G1
theorem u4 {l:Li}{p:Pq}(h:l.sm) (k:hp p 100000):Pu Tryz.prog 171 [lq l,ag (rpx p)] (lit (.int .i64 (gS l p))):=by
 have:=AX h k;have c1:=vC h k;have c2:=qZ (af l p) om;unfold gS;refine Pi Tryz.func171 fun C=>?_
 exact Y2 c1 c2
theorem Kk {l:Li}{t:Rat}(h:l.sm) (k:ht t≤100000):Pu Tryz.prog 124 [lq l,rq t] (ag (rpx (atL l t))):=by
 obtain⟨b1,b2⟩:=v6 h;obtain⟨d1,d2⟩:=ic h;have c1:=xT h.1 h.2;have c2:=ov l h.ile;have c3:=qx (ct l).1 (ct l).2 t (cK l).1 (cK l).2 om om om om om;refine Pi Tryz.func124 fun C=>?_
 refine D3 c1 c2 c3 ⟨?_⟩;intros;exact G1
theorem Mb {l:Li}(h:l.ok):uO (cK l) (cK l)≠0:=fun e=>by
 have hn:=Li.n_pos h;unfold uO cK at e;rw [show(l.b:Rat)*l.b + -(l.a:Rat) * -(l.a:Rat)=0 from e]at hn;exact absurd hn (by decide)
theorem rP {l:Li}{p:Pq}(h:l.sm) (k:hp p 100000):Pu Tryz.prog 173 [lq l,ag (rpx p)] (rq (ff l p)):=by
 have h1:=wX k (ic h);have h2:=wX (ic h) (ic h);obtain⟨d1,d2⟩:=ic h;obtain⟨k1,k2⟩:=k;have m1:=bF p.1 (cK l).1;have m2:=bF p.2 (cK l).2;have m3:=bF (cK l).1 (cK l).1;have m4:=bF (cK l).2 (cK l).2;have hne:(uO (cK l) (cK l)).num≠0:=fun e=>Mb h.1 (gc.1 e)
 have c1:=ov l h.ile;have c2:=Bb p.1 p.2 (cK l).1 (cK l).2 om om om om om om;have c3:=Bb (cK l).1 (cK l).2 (cK l).1 (cK l).2 om om om om om om;have c4:=pa (uO p (cK l)) (uO (cK l) (cK l)) om om hne;refine Pi Tryz.func173 fun C=>?_
 refine D4 c1 c2 c3 c4 ⟨?_⟩;intros;exact G1
theorem qk (a b:Int) (ha:il a≤1000000) (hb:il b≤1000000):Pu Tryz.prog 180 [int a,int b] (lit (.int .i64 (a + -b).sign)):=by
 have h1:=iK b;have h2:=BJ a (-b);unfold il at *;have c1:=nS b om;have c2:=xU a (-b) om om;have c3:=rO (a + -b) om;refine Pi Tryz.func180 fun C=>?_
 exact Y3 c1 c2 c3
theorem xS {l m:Li}(h:l.le 1000000) (k:m.le 1000000):Pu Tryz.prog 127 [lq l,lq m] (lit (.int .i64 (rl l m))):=by
 have c1:=qk l.a m.a h.a k.a;have c2:=qk l.b m.b h.b k.b;have c3:=qk l.c m.c h.c k.c;unfold rl;clear h k;generalize(l.a + -m.a).sign=s1 at *;generalize(l.b + -m.b).sign=s2 at *;generalize(l.c + -m.c).sign=s3 at *;by_cases h1:s1=0
 ·rw [if_neg (fun k=>k h1)];by_cases h2:s2=0
  ·rw [if_neg (fun k=>k h2)];refine Pi Tryz.func127 fun C=>?_
   exact Y3 c1 c2 c3
  ·rw [if_pos h2];refine Pi Tryz.func127 fun C=>?_
   exact Y3 c1 c2 c3
 ·rw [if_pos h1];refine Pi Tryz.func127 fun C=>?_
  exact Y3 c1 c2 c3
theorem I9 {l:Li}(h:l.le 1000000):Pu Tryz.prog 139 [lq l] (Ab.tup [lq (lY l),lit (.bool (Pe l))]):=by
 have c1:=u5 l h;have c2:=rO l.a (by have:=h.a;unfold il at this;omega);have c3:=rO l.b (by have:=h.b;unfold il at this;omega);unfold lY Pe;clear h;rcases iw l.a 0 with h1|h1|h1
 ·rw [a9 (.inl h1),if_pos rfl];have:=gg h1;rw [this]at c2;refine Pi Tryz.func139 fun C=>?_
  refine D2 c2 c1 ⟨?_⟩;intros;exact G3
 ·rw [show l.a.sign=0 from ge.2 h1]at c2;by_cases h2:l.b<0
  ·rw [a9 (.inr ⟨h1,h2⟩),if_pos rfl];rw [gg h2]at c3;refine Pi Tryz.func139 fun C=>?_
   refine D3 c2 c3 c1 ⟨?_⟩;intros;exact G3
  ·rw [ab om];have hs:¬l.b.sign<0:=fun k=>h2 (Int.sign_neg_iff.1 k)
   generalize l.b.sign=s at *;clear h2;refine Pi Tryz.func139 fun C=>?_
   refine D3 c2 c3 c1 ⟨?_⟩;intros;exact G3
 ·rw [ab om];rw [fu h1]at c2;refine Pi Tryz.func139 fun C=>?_
  refine D2 c2 c1 ⟨?_⟩;intros;exact G3
theorem CA {l m:Li}(h:l.sm) (k:m.sm):Pu Tryz.prog 170 [lq l,lq m] (Ab.tup [ag (rpx ((yg l m).getD (0,0))),lit (.bool (yg l m).isSome)]):=by
 have hd:=Hr h k;obtain⟨h1,h2,h3⟩:=h.ht;obtain⟨k1,k2,k3⟩:=k.ht;have m1:=bF (l.a:Rat) m.b;have m2:=bF (m.a:Rat) l.b;have m3:=bF (l.b:Rat) m.c;have m4:=bF (m.b:Rat) l.c;have m5:=bF (m.a:Rat) l.c;have m6:=bF (l.a:Rat) m.c;have s1:=gU ((l.b:Rat)*m.c) (m.b*l.c);have s2:=gU ((m.a:Rat)*l.c) (l.a*m.c);have q1:=l6 l.a;have q2:=l6 l.b;have q3:=l6 l.c;have q4:=l6 m.a;have q5:=l6 m.b;have q6:=l6 m.c;have t1:=dI (l.a:Rat) m.b om om;have t2:=dI (m.a:Rat) l.b om om;have u1:=mj ((l.a:Rat)*m.b) ((m.a:Rat)*l.b) om om;rw [show(l.a:Rat)*m.b-(m.a:Rat)*l.b=gZ l m from rfl]at u1;have s:=qZ (gZ l m) om;unfold yg;by_cases hz:gZ l m=0
 ·rw [if_pos hz];rw [e7.2 hz]at s;clear h h1 h2 h3 k k1 k2 k3 m1 m2 m3 m4 m5 m6 s1 s2 hd hz;refine Pi Tryz.func170 fun C=>?_
  repeat(first|(refine A1 ⟨?_⟩;intros)|refine W4 q1 ⟨?_⟩|refine W4 q2 ⟨?_⟩|refine W4 q3 ⟨?_⟩|refine W4 q4 ⟨?_⟩|refine W4 q5 ⟨?_⟩|refine W4 q6 ⟨?_⟩|refine W4 t1 ⟨?_⟩|refine W4 t2 ⟨?_⟩|refine W4 u1 ⟨?_⟩|refine W4 s ⟨?_⟩)
  ((first|refine db ?_|refine jc ?_);exact eJ (s1:=ag Ef) RVa (RV.tmp rfl) (Le.tup2 (Le.ag Eg) Lr))
 ·rw [if_neg hz];have hs:¬(gZ l m).num.sign=0:=fun e=>hz (e7.1 e)
  have hn:(gZ l m).num≠0:=fun e=>hz (gc.1 e)
  have t3:=dI (l.b:Rat) m.c om om;have t4:=dI (m.b:Rat) l.c om om;have t5:=dI (m.a:Rat) l.c om om;have t6:=dI (l.a:Rat) m.c om om;have u2:=mj ((l.b:Rat)*m.c) ((m.b:Rat)*l.c) om om;have u3:=mj ((m.a:Rat)*l.c) ((l.a:Rat)*m.c) om om;have o1:=pa ((l.b:Rat)*m.c-(m.b:Rat)*l.c) (gZ l m) om om hn;have o2:=pa ((m.a:Rat)*l.c-(l.a:Rat)*m.c) (gZ l m) om om hn;clear h h1 h2 h3 k k1 k2 k3 m1 m2 m3 m4 m5 m6 s1 s2 hd hz hn;generalize(gZ l m).num.sign=z at *;simp only [jR,nu];unfold dX;refine Pi Tryz.func170 fun C=>?_
  repeat(first|(refine A1 ⟨?_⟩;intros)|refine W4 q1 ⟨?_⟩|refine W4 q2 ⟨?_⟩|refine W4 q3 ⟨?_⟩|refine W4 q4 ⟨?_⟩|refine W4 q5 ⟨?_⟩|refine W4 q6 ⟨?_⟩|refine W4 t1 ⟨?_⟩|refine W4 t2 ⟨?_⟩|refine W4 u1 ⟨?_⟩|refine W4 s ⟨?_⟩|refine W4 t3 ⟨?_⟩|refine W4 t4 ⟨?_⟩|refine W4 t5 ⟨?_⟩|refine W4 t6 ⟨?_⟩|refine W4 u2 ⟨?_⟩|refine W4 u3 ⟨?_⟩|refine W4 o1 ⟨?_⟩|refine W4 o2 ⟨?_⟩)
  exact G3
theorem CD (v:Pq) (h:hp v 1000000):Pu Tryz.prog 179 [ag (rpx v)] (lit (.int .i64 (qM v))):=by
 obtain⟨h1,h2⟩:=h;have c1:=qZ v.1 om;have c2:=qZ v.2 om;have e:=Ax v;rw [e];generalize v.1.num.sign=x at *;generalize v.2.num.sign=y at *;clear e h1 h2;by_cases a1:x=0
 ·by_cases a2:y=0
  ·rw [if_pos ⟨a1,a2⟩];refine Pi Tryz.func179 fun C=>?_
   exact Y2 c1 c2
  ·rw [if_neg om];by_cases a3:0<y
   ·rw [if_pos (.inl a3)];refine Pi Tryz.func179 fun C=>?_
    exact Y2 c1 c2
   ·rw [if_neg om];refine Pi Tryz.func179 fun C=>?_
    exact Y2 c1 c2
 ·rw [if_neg om];by_cases a3:0<y
  ·rw [if_pos (.inl a3)];refine Pi Tryz.func179 fun C=>?_
   exact Y2 c1 c2
  ·by_cases a4:y=0
   ·by_cases a5:0<x
    ·rw [if_pos (.inr ⟨a4,a5⟩)];refine Pi Tryz.func179 fun C=>?_
     exact Y2 c1 c2
    ·rw [if_neg om];refine Pi Tryz.func179 fun C=>?_
     exact Y2 c1 c2
   ·rw [if_neg om];refine Pi Tryz.func179 fun C=>?_
    exact Y2 c1 c2
theorem Ib (u v:Pq) (h:hp u 40000) (k:hp v 40000):Pu Tryz.prog 126 [ag (rpx u),ag (rpx v)] (lit (.int .i64 (w5 u v))):=by
 have hx:=sc h k;obtain⟨h1,h2⟩:=h;obtain⟨k1,k2⟩:=k;have c1:=CD u ⟨om,om⟩;have c2:=CD v ⟨om,om⟩;have c3:=rR u.1 u.2 v.1 v.2 om om om om;have c4:=qZ (gt u v) om;have hs : -1≤(gt u v).num.sign∧(gt u v).num.sign≤1:=by have:=kA (gt u v).num;omega
 unfold w5;rw [show u.1*v.2-u.2*v.1=gt u v from rfl]at c3;generalize qM u=a at *;generalize qM v=b at *;clear h1 h2 k1 k2;by_cases e:a=b
 ·rw [if_neg (fun k=>k e)];clear hx;generalize(gt u v).num.sign=z at *;refine Pi Tryz.func126 fun C=>?_
  refine D4 c1 c2 c3 c4 ⟨?_⟩;intros;exact E1
 ·rw [if_pos e];by_cases f:a<b
  ·rw [if_pos f];clear hx hs;refine Pi Tryz.func126 fun C=>?_
   exact Y2 c1 c2
  ·rw [if_neg f];clear hx hs;refine Pi Tryz.func126 fun C=>?_
   exact Y2 c1 c2
theorem ED (a b c:Pq) (h:hp a 1000) (k:hp b 1000) (j:hp c 1000):Pu Tryz.prog 232 [ag (rpx a),ag (rpx b),ag (rpx c)] (lit (.int .i64 (ul a b c))):=by
 obtain⟨h1,h2⟩:=h;obtain⟨k1,k2⟩:=k;obtain⟨j1,j2⟩:=j;have m1:=gU b.1 a.1;have m2:=gU b.2 a.2;have m3:=gU c.1 a.1;have m4:=gU c.2 a.2;have c1:=B7 b.1 b.2 a.1 a.2 om om om om;have c2:=B7 c.1 c.2 a.1 a.2 om om om om;have c3:=rR (b.1-a.1) (b.2-a.2) (c.1-a.1) (c.2-a.2) om om om om;have hx:=sc (p:=(b.1-a.1,b.2-a.2)) (q:=(c.1-a.1,c.2-a.2)) (n:=2001) (m:=2001) ⟨by simp only;omega,by simp only;omega⟩ ⟨by simp only;omega,by simp only;omega⟩;have c4:=qZ (gt (b.1-a.1,b.2-a.2) (c.1-a.1,c.2-a.2)) om;unfold ul;refine Pi Tryz.func232 fun C=>?_
 refine D4 c1 c2 c3 c4 ⟨?_⟩;intros;exact E1
theorem elt {α:Type}{f:α→List SV}{n:Nat}(hf:∀a,(f a).length=n) (hn:0<n){l:List α}{k:Nat}(hk:k<l.length):∃a,l[k]? = some a∧a∈l∧(((l.map f).flatten).drop (k*n)).take n=f a∧(l.map f).flatten≠[] :=
 have h:=ax hk
 ⟨l[k],h,bo h,fV hf h,gD hf om (fun e=>by rw [e]at hk;simp at hk)⟩
theorem OK {α:Type}{f:α→List SV}{n:Nat}(hf:∀a,(f a).length=n) (out:List α) (x:α) (j:Nat) (hj:j≤out.length):((out.map f).flatten).length=out.length*n∧(((out.map f).flatten).drop (j*n)).length=(out.length-j)*n∧(((out.map f).flatten).take (j*n)).length=j*n∧
  (f x++((out.map f).flatten).drop (j*n)).length=(1+(out.length-j))*n∧((out.map f).flatten).take (j*n)++(f x++((out.map f).flatten).drop (j*n))=((out.take j++x::out.drop j).map f).flatten∧j+(1+(out.length-j))=(out.take j++x::out.drop j).length:=by
 have hfl:=fM hf out;have hdl:(((out.map f).flatten).drop (j*n)).length=(out.length-j)*n:=by rw [cP,hfl,ij]
 refine⟨hfl,hdl,?_,?_,vP hf out x j,?_⟩
 ·have:=aT n hj;rw [aA,hfl];omega
 ·rw [ac,hdl,hf,aJ,aY]
 ·rw [ac,aE,aA,cP];omega
section
variable {α:Type}{lt:α→α→Bool}{out:List α}{x o:α}{j:Nat}
theorem GY (hj:j=lQ lt out x):DD lt out x=out.take j++x::out.drop j:=by unfold DD;rw [←hj]
theorem wT [DecidableEq α] (hj:j=lQ lt out x) (ho:out[j]? = some o) (e:o=x):lU lt out x=out:=by unfold lU;rw [←hj,if_pos (by rw [ho,e])]
theorem wU [DecidableEq α] (hj:j=lQ lt out x) (ho:out[j]? = some o) (e:¬o=x):lU lt out x=out.take j++x::out.drop j:=by
 unfold lU;rw [←hj,if_neg (by rw [ho];exact fun h=>e (bk h))];exact GY hj
theorem uC [DecidableEq α] (hj:j=out.length) (h:j≤lQ lt out x):lU lt out x=out.take j++x::out.drop j:=by
 have hp:=rU lt out x;have he:j=lQ lt out x:=by omega
 unfold lU;rw [←he,if_neg (by rw [cM om];intro h;cases h)];exact GY he
end
theorem mQ {α:Type}{l:List α}{k:Nat}{a:α}(h:l[k]? = some a):l.drop k=a::l.drop (k+1):=by
 obtain⟨h1,h2⟩:=bC.1 h;rw [jf h1,h2]
abbrev rqx (x:Rat):List SV:=[lit (.bool (decide (x.num<0))),nat x.num.natAbs,dg (pD x.den)]
theorem mJ (x:Rat):(rqx x).length=3:=rfl
abbrev rqs (l:List Rat):SV:=sl (l.map rqx).flatten l.length
theorem J7 {l:List Li}{k:Nat}{a:Li}(h:l[k]? = some a):vS (l.take (k+1))=lU llt (vS (l.take k)) (lY a):=qA h
theorem Bc (l:List Li) (hl:l.length≤100000) (hh:∀m∈l,m.le 1000000):Pu Tryz.prog 93 [lqs l] (lqs (vS l)):=by
 refine Pi Tryz.func93 fun C=>?_
 refine A2 ⟨?_⟩;intros
 refine WP.loopS (ι:=Nat) (fun k=>k≤l.length) (fun k=>l.length-k) (fun k=>fm [(3,lqs (vS (l.take k))),(7,lqs l),(8,lit (.int .i64 l.length)),(9,lit (.int .i64 k))]) (fun _=>[]) 0
  (ak _) (LeF.cons iC lfA) (aF _) ?_
 rintro k hk K hK;by_cases hkl:k<l.length
 ·obtain⟨a,hget,ham,hat,hne⟩:=elt ku om hkl;have ha:=hh a ham;have cc:=I9 ha
  have hx:(lY a).le 1000000:=by
   unfold lY;split
   ·exact⟨by show il (-a.a)≤_;rw [iK];exact ha.a,by show il (-a.b)≤_;rw [iK];exact ha.b,by show il (-a.c)≤_;rw [iK];exact ha.c⟩
   ·exact ha
  have hgo:=fun F' H' h1 h2=>hK F' H' (k+1) om om h1 h2
  rw [J7 hget]at hgo
  have hsm:∀q∈vS (l.take k),q.le 1000000:=fun q hq=>by
   obtain⟨y,hy,rfl⟩:=M7.1 hq;have h:=hh y (fD hy);unfold lY;split
   ·exact⟨by show il (-y.a)≤_;rw [iK];exact h.a,by show il (-y.b)≤_;rw [iK];exact h.b,by show il (-y.c)≤_;rw [iK];exact h.c⟩
   ·exact h
  have hsl:=M8 (l.take k);rw [aA]at hsl;generalize vS (l.take k)=out at hgo hsm hsl⊢;generalize lY a=x at *;generalize Pe a=fl at *;clear hK hh ha ham hget;refine A2 ⟨?_⟩;intros;refine Wo (ae (cs':=lqx a) rfl rfl om om hat hne) ?_;refine D1 cc ⟨?_⟩;intros;rename_i b5;refine WP.loopS (ι:=Nat) (fun j=>j≤lQ llt out x) (fun j=>out.length-j) (fun j=>fm [(3,sl (out.map lqx).flatten out.length),(6,lit (.int .i64 j)),(5,lit (.pointer (some ⟨b5,0,none⟩))),(7,lqs l),(8,lit (.int .i64 l.length)),(9,lit (.int .i64 k))]) (fun _=>[(b5,76,lqx x)]) 0 (ak _) lfA Sr ?_;rintro j hj K2 hK2;have hpl:=rU llt out x;obtain⟨hfl,hdl,htl,hpl2,hins,hln⟩:=OK ku out x j om;by_cases hjl:j<out.length
  ·obtain⟨o,hget2,hom,hat2,hne2⟩:=elt ku om hjl;have ho:=hsm o hom;obtain⟨z,hzz⟩:∃z,z=rl o x:=⟨_,rfl⟩
   have c:=xS ho hx;have hlt:llt o x=decide (z<0):=by rw [hzz]
   have heq:z=0↔o=x:=by rw [hzz];exact lX
   rw [←hzz]at c;obtain⟨s1,s2⟩:=rT (lt:=llt) (x:=x) hj hget2;rw [hlt]at s1 s2;by_cases hneg:z<0
   ·have hj1:=s1 (a9 hneg);clear hgo s1 s2
    as_aux_lemma =>
     refine A2 ⟨?_⟩;intros;refine fO (ae (cs':=lqx o) rfl rfl om om hat2 hne2) ?_;refine D1 c ⟨?_⟩;intros;exact hK2 _ _ (j+1) hj1 om lfA Sr
   ·have hje:=s2 (ab hneg);clear hK2 s1 s2;by_cases hz:o=x
    ·rw [wT hje hget2 hz]at hgo;have hz0:=heq.2 hz;clear heq
     as_aux_lemma =>
      refine A2 ⟨?_⟩;intros;refine fO (ae (cs':=lqx o) rfl rfl om om hat2 hne2) ?_;refine D1 c ⟨?_⟩;intros;refine fO (ae (cs':=lqx o) rfl rfl om om hat2 hne2) ?_;refine D1 c ⟨?_⟩;intros;exact hgo _ _ lfA (aF _)
    ·rw [wU hje hget2 hz]at hgo;have hz0:¬z=0:=fun e=>hz (heq.1 e)
     clear heq
     as_aux_lemma =>
      refine A2 ⟨?_⟩;intros;refine fO (ae (cs':=lqx o) rfl rfl om om hat2 hne2) ?_;refine D1 c ⟨?_⟩;intros;refine fO (ae (cs':=lqx o) rfl rfl om om hat2 hne2) ?_;refine D1 c ⟨?_⟩;intros;refine Wdo (m9 j rfl rfl rfl rfl rfl hfl om) ?_;repeat(first|(refine Wdo (nY (s:=ag (lqx x)) (ds:=lqx x) rfl inferInstance) ?_)|(refine Wdo (l8 j rfl rfl rfl hfl om) ?_)|(refine A1 ⟨?_⟩;intros))
      refine Wdo (cg (k:=1) (k0:=out.length-j) rfl rfl rfl hdl om) ?_;refine Wdo (cg (k:=j) (k0:=1+(out.length-j)) rfl rfl htl hpl2 om) ?_;rw [hins,hln];refine A2 ⟨?_⟩;intros;exact hgo _ _ lfA (aF _)
  ·have hje:j=out.length:=by omega
   rw [uC hje hj]at hgo;clear hK2
   as_aux_lemma =>
    refine A2 ⟨?_⟩;intros;refine Wdo (m9 j rfl rfl rfl rfl rfl hfl om) ?_;repeat(first|(refine Wdo (nY (s:=ag (lqx x)) (ds:=lqx x) rfl inferInstance) ?_)|(refine Wdo (l8 j rfl rfl rfl hfl om) ?_)|(refine A1 ⟨?_⟩;intros))
    refine Wdo (cg (k:=1) (k0:=out.length-j) rfl rfl rfl hdl om) ?_;refine Wdo (cg (k:=j) (k0:=1+(out.length-j)) rfl rfl htl hpl2 om) ?_;rw [hins,hln];refine A2 ⟨?_⟩;intros;exact hgo _ _ lfA (aF _)
 ·have hke:k=l.length:=by omega
  subst hke;rw [aX];refine A2 ⟨?_⟩;intros;exact db (bO (RV.tmp rfl) Lr)
theorem zX (x:Rat) (h:ht x≤1000000):Pu Tryz.prog 177 [rq x] (rq (x/2)):=by
 have o:=vF 2 om om;have h2:=uI 2 om;have c:=pa x ((2:Int):Rat) om om (by decide);rw [show((2:Int):Rat)=2 from rfl]at c o;refine Pi Tryz.func177 fun C=>?_
 exact X2 o c
theorem Gg (x y:Rat) (h:ht x≤100000) (k:ht y≤100000):Pu Tryz.prog 178 [rq x,rq y] (rq (mO x y)):=by
 have:=fh x y;have c1:=jL x y om om;have c2:=zX (x+y) om;unfold mO;refine Pi Tryz.func178 fun C=>?_
 exact X2 c1 c2
theorem GO {p v:Pq}{a:Li}(ha:a.sm) (hp':hp p 120) (hv:hp v 1):ht (af a p)≤247∧ht (af a (iL p 1 v))≤255∧ht (af a (iL p 1 v)-af a p)≤503∧ht (-(af a p/(af a (iL p 1 v)-af a p)))≤752∧ht (-(af a p/(af a (iL p 1 v)-af a p))/2)≤755:=by
 have h1:=lV;have h2:ht (2:Rat)≤1:=uI 2 om;have v1:=AX ha (v7 (k:=1) hp' (show ht 1≤1 by omega) hv);have v2:=AX ha hp';have d:=gU (af a (iL p 1 v)) (af a p);have q:=qw (af a p) (af a (iL p 1 v)-af a p);have n:=gq (af a p/(af a (iL p 1 v)-af a p));have e:=qw (-(af a p/(af a (iL p 1 v)-af a p))) 2;omega
theorem Ix {p v:Pq}{s:Rat}{a:Li}(ha:a.sm) (hp':hp p 120) (hv:hp v 1) (hs:ht s≤760):ht (gT p v s a)≤760:=by
 have:=GO ha hp' hv;unfold gT;split
 ·exact hs
 ·split
  ·omega
  ·exact hs
theorem L6 {l:List Li}{p v:Pq}(hh:∀m∈l,m.sm) (hp':hp p 120) (hv:hp v 1):hp (Ag l p v) 883:=by
 have key:∀(l:List Li),(∀m∈l,m.sm)→∀s,ht s≤760→ht (l.foldl (gT p v) s)≤760:=by
  intro l;induction l with
  |nil=>intro _ s h;exact h
  |cons a l ih=>intro h s hs;exact ih (fun m hm=>h m (Mc hm)) _ (Ix (h a Ms) hp' hv hs)
 have h1:=lV;exact v7 hp' (key l hh 1 om) hv
theorem Kd (l:List Li) (p v:Pq) (hl:l.length≤100000) (hh:∀m∈l,m.sm) (hp':hp p 120) (hv:hp v 1):Pu Tryz.prog 123 [lqs l,ag (rpx p),ag (rpx v)] (ag (rpx (Ag l p v))):=by
 have h1:=lV;obtain⟨p1,p2⟩:=hp';obtain⟨v1,v2⟩:=hv;have d0:=qx p.1 p.2 1 v.1 v.2 om om om om om;refine Pi Tryz.func123 fun C=>?_
 refine D1 u7 ⟨?_⟩;intros;rename_i b4 b5 b6 b7
 refine WP.loopS (ι:=Nat×Rat) (fun y=>y.1≤l.length∧y.2=(l.take y.1).foldl (gT p v) 1∧ht y.2≤760) (fun y=>l.length-y.1) (fun y=>fm [(4,lit (.pointer (some ⟨b4,0,none⟩))),(5,lit (.pointer (some ⟨b5,0,none⟩))),(6,lit (.pointer (some ⟨b6,0,none⟩))),(7,lit (.pointer (some ⟨b7,0,none⟩))),(13,lqs l),(14,lit (.int .i64 l.length)),(15,lit (.int .i64 y.1))])
  (fun y=>[(b7,94,rqx y.2),(b6,96,Ef),(b5,96,rpx v),(b4,96,rpx p)]) (0,1) ⟨ak _,rfl,by show ht 1≤760;omega⟩ lfA Sr ?_
 rintro ⟨k,s⟩ ⟨hk,hs,hsb⟩ K hK;simp only at hk hs hsb⊢;by_cases hkl:k<l.length
 ·obtain⟨a,hget,ham,hat,hne⟩:=elt ku om hkl;have ha:=hh a ham;have hgo:=fun s' (e:s'=gT p v s a) (hb:ht s'≤760) F' H'=>hK F' H' (k+1,s') ⟨by simp only;omega,by rw [e,hs,qA hget],hb⟩ (by simp only;omega)
  obtain⟨b1,b2,b3,b4,b5⟩:=GO ha ⟨p1,p2⟩ ⟨v1,v2⟩;have hadd:=v7 (p:=p) (v:=v) (k:=1) ⟨p1,p2⟩ (show ht 1≤1 by omega) ⟨v1,v2⟩;have d1:=vC (p:=iL p 1 v) ha ⟨by have:=hadd.1;omega,by have:=hadd.2;omega⟩;have d2:=vC (p:=p) ha ⟨om,om⟩;have d3:=mj (af a (iL p 1 v)) (af a p) om om;have d4:=qZ (af a (iL p 1 v)-af a p) om;have d5:=u4 (p:=p) ha ⟨om,om⟩;have d6:=fun h=>pa (af a p) (af a (iL p 1 v)-af a p) om om h
  have hq:=qw (af a p) (af a (iL p 1 v)-af a p);have d7:=qj (af a p/(af a (iL p 1 v)-af a p)) om;unfold gT at hgo;have hnum:(af a (iL p 1 v)-af a p).num.sign≠0→(af a (iL p 1 v)-af a p).num≠0:=fun h e=>h (by rw [e];rfl)
  generalize af a (iL p 1 v)=A at *;generalize af a p=B at *;generalize -(B/(A-B))=t at *;have d8:=qZ t om;have d9:=zX t om;have d10:=ow (t/2) s om om;generalize(A-B).num.sign=z1 at *;generalize gS a p=z2 at *;generalize t.num.sign=z3 at *;generalize(t/2-s).num.sign=z4 at *;clear hK hh ham hs hget hadd hq;by_cases hz1:z1=0
  ·rw [if_pos (.inl hz1)]at hgo;subst hz1;replace hgo:=hgo s rfl hsb;clear d6 hnum b1 b2 b3 b4 b5;refine A2 ⟨?_⟩;intros;refine Wo (ae (cs':=lqx a) rfl rfl om om hat hne) ?_;repeat(first|(refine A1 ⟨?_⟩;intros)|refine W4 u7 ⟨?_⟩|refine W4 d0 ⟨?_⟩|refine W4 d1 ⟨?_⟩|refine W4 d2 ⟨?_⟩|refine W4 d3 ⟨?_⟩|refine W4 d4 ⟨?_⟩|refine W4 d5 ⟨?_⟩)
   exact hgo _ _ lfA (Sc (Sc Sr))
  ·by_cases hz2:z2=0
   ·rw [if_pos (.inr hz2)]at hgo;subst hz2;replace hgo:=hgo s rfl hsb;clear d6 hnum b1 b2 b3 b4 b5;refine A2 ⟨?_⟩;intros;refine Wo (ae (cs':=lqx a) rfl rfl om om hat hne) ?_;repeat(first|(refine A1 ⟨?_⟩;intros)|refine W4 u7 ⟨?_⟩|refine W4 d0 ⟨?_⟩|refine W4 d1 ⟨?_⟩|refine W4 d2 ⟨?_⟩|refine W4 d3 ⟨?_⟩|refine W4 d4 ⟨?_⟩|refine W4 d5 ⟨?_⟩)
    exact hgo _ _ lfA Sq
   ·rw [if_neg (fun h=>h.elim hz1 hz2)]at hgo;replace d6:=d6 (hnum hz1);by_cases hz3:0<z3
    ·by_cases hz4:z4<0
     ·rw [if_pos ⟨hz3,hz4⟩]at hgo;replace hgo:=hgo _ rfl om;clear hnum b1 b2 b3 b4 b5;generalize t/2=t2 at *;refine A2 ⟨?_⟩;intros;refine Wo (ae (cs':=lqx a) rfl rfl om om hat hne) ?_;repeat(first|(refine A1 ⟨?_⟩;intros)|refine W4 u7 ⟨?_⟩|refine W4 d0 ⟨?_⟩|refine W4 d1 ⟨?_⟩|refine W4 d2 ⟨?_⟩|refine W4 d3 ⟨?_⟩|refine W4 d4 ⟨?_⟩|refine W4 d5 ⟨?_⟩|refine W4 d6 ⟨?_⟩|refine W4 d7 ⟨?_⟩|refine W4 d8 ⟨?_⟩|refine W4 d9 ⟨?_⟩|refine W4 d10 ⟨?_⟩)
      exact hgo _ _ lfA Sq
     ·rw [if_neg (fun h=>hz4 h.2)]at hgo;replace hgo:=hgo s rfl hsb;clear hnum b1 b2 b3 b4 b5;generalize t/2=t2 at *;refine A2 ⟨?_⟩;intros;refine Wo (ae (cs':=lqx a) rfl rfl om om hat hne) ?_;repeat(first|(refine A1 ⟨?_⟩;intros)|refine W4 u7 ⟨?_⟩|refine W4 d0 ⟨?_⟩|refine W4 d1 ⟨?_⟩|refine W4 d2 ⟨?_⟩|refine W4 d3 ⟨?_⟩|refine W4 d4 ⟨?_⟩|refine W4 d5 ⟨?_⟩|refine W4 d6 ⟨?_⟩|refine W4 d7 ⟨?_⟩|refine W4 d8 ⟨?_⟩|refine W4 d9 ⟨?_⟩|refine W4 d10 ⟨?_⟩)
      exact hgo _ _ lfA Sq
    ·rw [if_neg (fun h=>hz3 h.1)]at hgo;replace hgo:=hgo s rfl hsb;clear hnum b1 b2 b3 b4 b5;refine A2 ⟨?_⟩;intros;refine Wo (ae (cs':=lqx a) rfl rfl om om hat hne) ?_;repeat(first|(refine A1 ⟨?_⟩;intros)|refine W4 u7 ⟨?_⟩|refine W4 d0 ⟨?_⟩|refine W4 d1 ⟨?_⟩|refine W4 d2 ⟨?_⟩|refine W4 d3 ⟨?_⟩|refine W4 d4 ⟨?_⟩|refine W4 d5 ⟨?_⟩|refine W4 d6 ⟨?_⟩|refine W4 d7 ⟨?_⟩|refine W4 d8 ⟨?_⟩)
     exact hgo _ _ lfA Sq
 ·have hke:k=l.length:=by omega
  subst hke;rw [aX]at hs;have c:=qx p.1 p.2 s v.1 v.2 om om om om om;have e:Ag l p v=iL p s v:=by unfold Ag;rw [hs]
  rw [e];clear hK hh hs e;exact X1 c
end Go.Ab
