/- Texts laid one behind the other: Opn, Seg, GwI. -/
import Derived.Test.YtnhepimaijhhaaaGreatDoorB29
set_option linter.all false
set_option maxHeartbeats 16000000
namespace Go.Ab
open Go.Proofs
variable [Base]
theorem DI {xa xb la lb ma mb p q:Rat}(hl:0<la*p+lb*q) (hx:0<xa*p+xb*q) (hm:0<ma*p+mb*q) (h1:0≤xa*lb-xb*la) (h2:0≤la*mb-lb*ma):0≤xa*mb-xb*ma:=by
 have e:(xa*mb-xb*ma)*(la*p+lb*q)=(xa*lb-xb*la)*(ma*p+mb*q)+(la*mb-lb*ma)*(xa*p+xb*q):=by grind
 have a1:=Rat.mul_nonneg h1 (Rat.le_of_lt hm);have a2:=Rat.mul_nonneg h2 (Rat.le_of_lt hx);by_cases c:xa*mb-xb*ma<0
 ·exfalso;have a3:=Rat.mul_pos (show 0 < -(xa*mb-xb*ma) by grind) hl;rw [Rat.neg_mul,e]at a3;grind
 ·exact Rat.not_lt.1 c
theorem sN {p q:Rat}:∀(l:List (Rat×Rat)),l≠[]→(∀m∈l,0<m.1*p+m.2*q)→∃x∈l,∀m∈l,0≤x.1*m.2-x.2*m.1
 | [],h,_=>absurd rfl h
 | [x],_,_=>⟨x,List.mem_cons_self ..,fun m hm=>by
  rw [List.mem_singleton.1 hm];grind⟩
 |x::y::l,_,H=>by
  obtain⟨z,hz,k⟩:=sN (y::l) (by simp) (fun m hm=>H m (Mc hm));have Hx:=H x (List.mem_cons_self ..);have Hz:=H z (Mc hz);by_cases c:x.1*z.2-x.2*z.1<0
  ·refine⟨z,Mc hz,fun m hm=>?_⟩;rcases List.mem_cons.1 hm with rfl|hm
   ·grind
   ·exact k m hm
  ·refine⟨x,List.mem_cons_self ..,fun m hm=>?_⟩;rcases List.mem_cons.1 hm with rfl|hm
   ·grind
   ·exact DI Hz Hx (H m (Mc hm)) (Rat.not_lt.1 c) (k m hm)
theorem m9 {c:PC}(hc:cW c){s:Fg}(hs:s∈c){k:Rat}(hk:k≠0) (H:∀m∈aa c,0≤k*slp s.1 m):s.2.nl=true∨s.2.nh=true:=by
 obtain⟨h1,t0,h2⟩:=hc.span s hs
 have far:∀r:Rat,0≤r→InS s.2 (t0+r*k):=by
  intro r hr;refine(h1 _).2 fun m hm ne=>?_
  have q1:=(h1 t0).1 h2 m hm ne;rw [bq]at q1⊢;have q2:=Rat.mul_nonneg hr (H m hm);grind
 rcases hnl:s.2.nl with _|_
 ·rcases hnh:s.2.nh with _|_
  ·exfalso;unfold InS at h2 far;rw [hnl,hnh]at h2;have h3:s.2.lo<t0:=by rcases h2.1 with q|q;cases q;exact q
   have h4:t0<s.2.hi:=by rcases h2.2 with q|q;cases q;exact q
   by_cases kp:0<k
   ·have e:(s.2.hi-t0)/k*k=s.2.hi-t0:=Rat.div_mul_cancel hk
    have pos:0≤(s.2.hi-t0)/k:=by
     rw [Rat.div_def];exact Rat.mul_nonneg (by grind) (Rat.le_of_lt (Rat.inv_pos.2 kp))
    have f:=(far _ pos).2;rw [hnh,e]at f;rcases f with q|q
    ·cases q
    ·grind
   ·have kn:0 < -k:=by grind
    have e:(t0-s.2.lo)/(-k)*(-k)=t0-s.2.lo:=Rat.div_mul_cancel (by grind)
    have pos:0≤(t0-s.2.lo)/(-k):=by
     rw [Rat.div_def];exact Rat.mul_nonneg (by grind) (Rat.le_of_lt (Rat.inv_pos.2 kn))
    have f:=(far _ pos).1;rw [hnl]at f;rcases f with q|q
    ·cases q
    ·grind
  ·exact Or.inr rfl
 ·exact Or.inl rfl
theorem uS {c:PC}(hc:cW c){s:Fg}(hs:s∈c) (h:s.2.nl=true∨s.2.nh=true):∃k:Rat,k≠0∧∀m∈aa c,0≤k*slp s.1 m:=by
 obtain⟨h1,t0,h2⟩:=hc.span s hs;have CE:slp s.1 s.1=0:=by unfold slp;grind
 have go:∀k:Rat,(∀r:Rat,0≤r→InS s.2 (t0+r*k))→∀m∈aa c,0≤k*slp s.1 m:=by
  intro k far m hm;by_cases e:m=s.1
  ·rw [e,CE];grind
  by_cases g:0≤k*slp s.1 m
  ·exact g
  exfalso;have g':0 < -(k*slp s.1 m):=by grind
  have q1:=(h1 t0).1 h2 m hm e;rw [bq]at q1
  have pos:0≤(a6 m (aD s.1)+t0*slp s.1 m)/(-(k*slp s.1 m)):=by
   rw [Rat.div_def];exact Rat.mul_nonneg (Rat.le_of_lt q1) (Rat.le_of_lt (Rat.inv_pos.2 g'))
  have eq:(a6 m (aD s.1)+t0*slp s.1 m)/(-(k*slp s.1 m))*(-(k*slp s.1 m))=a6 m (aD s.1)+t0*slp s.1 m:=Rat.div_mul_cancel (by grind);have q2:=(h1 _).1 (far _ pos) m hm e;rw [bq]at q2;grind
 unfold InS at h2;rcases h with h|h
 ·refine⟨-1,by grind,go _ fun r hr=>⟨Or.inl h,?_⟩⟩;rcases h2.2 with q|q
  ·exact Or.inl q
  ·exact Or.inr (by grind)
 ·refine⟨1,by grind,go _ fun r hr=>⟨?_,Or.inl h⟩⟩;rcases h2.1 with q|q
  ·exact Or.inl q
  ·exact Or.inr (by grind)
theorem vT {a b:Rat}(h:a≠0∨b≠0):0<a*a+b*b:=by
 have ha:0≤a*a:=by
  by_cases q:0≤a
  ·exact Rat.mul_nonneg q q
  ·have:=Rat.mul_nonneg (show 0≤-a by grind) (show 0≤-a by grind);grind
 have hb:0≤b*b:=by
  by_cases q:0≤b
  ·exact Rat.mul_nonneg q q
  ·have:=Rat.mul_nonneg (show 0≤-b by grind) (show 0≤-b by grind);grind
 by_cases e:a*a+b*b=0
 ·have e1:a*a=0:=by grind
  have e2:b*b=0:=by grind
  rcases Rat.mul_eq_zero.1 e1 with q|q <;> rcases Rat.mul_eq_zero.1 e2 with r|r <;> grind
 ·grind
theorem FI {c:PC}(hc:cW c) (hne:c≠[]):(∃s∈c,s.2.nl=true∨s.2.nh=true)↔∃d:Pq,(d.1≠0∨d.2≠0)∧∀m∈aa c,0≤(m.a:Rat)*d.1+(m.b:Rat)*d.2:=by
 constructor
 ·rintro ⟨s,hs,h⟩;obtain⟨k,hk,H⟩:=uS hc hs h;refine⟨(k*s.1.b,-(k*s.1.a)),?_,fun m hm=>?_⟩
  ·rcases(hc.ok s hs).2 with q|q
   ·right;have:(s.1.a:Rat)≠0:=fun e=>q (Rat.intCast_eq_zero_iff.1 e)
    intro e;have e':k*(s.1.a:Rat)=0:=by simp only at e;grind
    rcases Rat.mul_eq_zero.1 e' with r|r
    ·exact hk r
    ·exact this r
   ·left;have:(s.1.b:Rat)≠0:=fun e=>q (Rat.intCast_eq_zero_iff.1 e)
    intro e;have e':k*(s.1.b:Rat)=0:=e;rcases Rat.mul_eq_zero.1 e' with r|r
    ·exact hk r
    ·exact this r
  ·have:=H m hm;unfold slp at this;simp only;grind
 ·rintro ⟨⟨p,q⟩,hd,H⟩;simp only at hd H;by_cases h0:∃s∈c,(s.1.a:Rat)*p+(s.1.b:Rat)*q=0
  ·obtain⟨s,hs,e⟩:=h0
   have hab:(s.1.a:Rat)≠0∨(s.1.b:Rat)≠0:=by
    rcases(hc.ok s hs).2 with r|r
    ·exact Or.inl fun e=>r (Rat.intCast_eq_zero_iff.1 e)
    ·exact Or.inr fun e=>r (Rat.intCast_eq_zero_iff.1 e)
   have n1:=vT hab;have n2:=vT hd;refine⟨s,hs,m9 hc hs (k:=p*s.1.b-q*s.1.a) ?_ fun m hm=>?_⟩
   ·intro z;have:=Rat.mul_pos n1 n2;have id:((s.1.a:Rat)*s.1.a+s.1.b*s.1.b)*(p*p+q*q)=(p*s.1.b-q*s.1.a)*(p*s.1.b-q*s.1.a)+((s.1.a:Rat)*p+s.1.b*q)*((s.1.a:Rat)*p+s.1.b*q):=by grind
    rw [id,z,e]at this;grind
   ·have:=Rat.mul_nonneg (Rat.le_of_lt n1) (H m hm);have id:(p*(s.1.b:Rat)-q*s.1.a)*slp s.1 m=((s.1.a:Rat)*s.1.a+s.1.b*s.1.b)*(m.a*p+m.b*q)-((s.1.a:Rat)*p+s.1.b*q)*(m.a*s.1.a+m.b*s.1.b):=by unfold slp;grind
    rw [id,e];grind
  ·have H':∀m∈(aa c).map (fun l=>((l.a:Rat),(l.b:Rat))),0<m.1*p+m.2*q:=by
    intro m hm;obtain⟨l,hl,rfl⟩:=List.mem_map.1 hm;obtain⟨s,hs,rfl⟩:=List.mem_map.1 hl;have a1:=H _ hl;have a2:(s.1.a:Rat)*p+(s.1.b:Rat)*q≠0:=fun e=>h0 ⟨s,hs,e⟩
    simp only;grind
   obtain⟨x,hx,k⟩:=sN _ (by simpa [aa] using hne) H';obtain⟨l,hl,rfl⟩:=List.mem_map.1 hx;obtain⟨s,hs,rfl⟩:=List.mem_map.1 hl;refine⟨s,hs,m9 hc hs (k := -1) (by grind) fun m hm=>?_⟩;have:=k _ (List.mem_map_of_mem hm);unfold slp;simp only at this;grind
theorem Kg {α:Type}{P:α→Nat→Prop}:∀{L:List α},(∀N,∃n,N≤n∧∃c∈L,P c n)→∃c∈L,∀N,∃n,N≤n∧P c n
 | [],H=>by
  obtain⟨_,_,_,h,_⟩:=H 0;cases h
 |x::L,H=>by
  by_cases e:∀N,∃n,N≤n∧P x n
  ·exact⟨x,List.mem_cons_self ..,e⟩
  ·obtain⟨N0,k⟩:=Classical.not_forall.1 e
   obtain⟨c,hc,h⟩:=Kg (L:=L) (P:=P) fun N=>by
    obtain⟨n,hn,c,hc,hp⟩:=H (max N N0);refine⟨n,om,c,?_,hp⟩;rcases List.mem_cons.1 hc with rfl|hc
    ·exact absurd ⟨n,om,hp⟩ k
    ·exact hc
   exact⟨c,Mc hc,h⟩
theorem kC (l:Li) (q d:Pq) (t:Rat):a6 l (cA q t d)=a6 l q+t*((l.a:Rat)*d.1+(l.b:Rat)*d.2):=by
 unfold a6 cA;simp only;grind
theorem yn (x:Rat):∃N:Nat,x≤(N:Rat):=by
 refine⟨x.ceil.toNat,?_⟩;have h1:x≤(x.ceil:Rat):=Rat.le_ceil;have h2:(x.ceil:Rat)≤((x.ceil.toNat:Int):Rat):=Rat.intCast_le_intCast.2 (Int.self_le_toNat _);exact Rat.le_trans h1 (by rw [Rat.intCast_natCast]at h2;exact h2)
theorem EW {ls:List Li}{q d:Pq}(H:∀N:Nat,∃n:Nat,N≤n∧Inn ls (cA q (n:Rat) d)):∀m∈ls,0≤(m.a:Rat)*d.1+(m.b:Rat)*d.2:=by
 intro m hm;by_cases g:0≤(m.a:Rat)*d.1+(m.b:Rat)*d.2
 ·exact g
 exfalso;generalize hs:(m.a:Rat)*d.1+(m.b:Rat)*d.2=s at g;have hp:0 < -s:=by grind
 obtain⟨N,hN⟩:=yn (a6 m q / -s);obtain⟨n,hn,hi⟩:=H N;have h1:=hi m hm;rw [kC,hs]at h1;have h2:a6 m q / -s≤(n:Rat):=Rat.le_trans hN (Rat.natCast_le_natCast.2 hn);have h3:=Rat.mul_nonneg (show 0≤(n:Rat)-a6 m q / -s by grind) (Rat.le_of_lt hp);have h4:a6 m q / -s * -s=a6 m q:=Rat.div_mul_cancel (by grind);grind
theorem FH {ls:List Li}{q d:Pq}(hq:Inn ls q) (H:∀m∈ls,0≤(m.a:Rat)*d.1+(m.b:Rat)*d.2){t:Rat}(ht:0≤t):Inn ls (cA q t d):=by
 intro m hm;have h1:=hq m hm;have h2:=Rat.mul_nonneg ht (H m hm);rw [kC];grind
theorem yJ {q:Pq}(v:Pq):∀{ls:List Li},Inn ls q→∃t0:Rat,0<t0∧∀t,0<t→t≤t0→Inn ls (cA q t v)
 | [],_=>⟨1,by grind,fun _ _ _ l hl=>by cases hl⟩
 |l::ls,H=>by
  obtain⟨t1,h1,h2⟩:=yJ v (ls:=ls) fun m hm=>H m (Mc hm)
  have hV:=H l (List.mem_cons_self ..);generalize hK:(l.a:Rat)*v.1+(l.b:Rat)*v.2=K;by_cases kp:0≤K
  ·refine⟨t1,h1,fun t p1 p2 m hm=>?_⟩;rcases List.mem_cons.1 hm with rfl|hm
   ·rw [kC,hK];have:=Rat.mul_nonneg (Rat.le_of_lt p1) kp;grind
   ·exact h2 t p1 p2 m hm
  ·obtain⟨n1,n2⟩:=uU hV (show K<0 by grind);by_cases c:t1≤-(a6 l q/K)/2
   ·refine⟨t1,h1,fun t p1 p2 m hm=>?_⟩;rcases List.mem_cons.1 hm with rfl|hm
    ·rw [kC,hK];exact n2 t p1 (Rat.le_trans p2 c)
    ·exact h2 t p1 p2 m hm
   ·refine⟨-(a6 l q/K)/2,by grind,fun t p1 p2 m hm=>?_⟩;rcases List.mem_cons.1 hm with rfl|hm
    ·rw [kC,hK];exact n2 t p1 p2
    ·exact h2 t p1 (by grind) m hm
theorem bI (m:Li) (q:Pq):a6 m.neg q = - a6 m q:=by
 unfold a6 Li.neg;simp only [Rat.intCast_neg];grind
theorem mr:∀(ms:List Li){ls:List Li}{q:Pq},(∀m∈ms,m.ok)→Inn ls q→∃r,Inn ls r∧∀m∈ms,a6 m r≠0
 | [],_,q,_,h=>⟨q,h,fun _ hm=>by cases hm⟩
 |m::ms,ls,q,hms,h=>by
  have step:∃r,Inn ls r∧a6 m r≠0:=by
   by_cases e:a6 m q=0
   ·obtain⟨t,t1,t2⟩:=yJ ((m.a:Rat),(m.b:Rat)) h;refine⟨_,t2 t t1 (Rat.le_refl),?_⟩;rw [kC,e]
    have ab:(m.a:Rat)≠0∨(m.b:Rat)≠0:=by
     rcases(hms m (List.mem_cons_self ..)).2 with r|r
     ·exact Or.inl fun e=>r (Rat.intCast_eq_zero_iff.1 e)
     ·exact Or.inr fun e=>r (Rat.intCast_eq_zero_iff.1 e)
    have:=Rat.mul_pos t1 (vT ab);simp only;grind
   ·exact⟨q,h,e⟩
  obtain⟨r,r1,r2⟩:=step;by_cases p:0<a6 m r
  ·obtain⟨z,z1,z2⟩:=mr ms (ls:=m::ls) (q:=r) (fun x hx=>hms x (Mc hx)) (fun x hx=>by
    rcases List.mem_cons.1 hx with rfl|hx
    ·exact p
    ·exact r1 x hx)
   refine⟨z,fun x hx=>z1 x (Mc hx),fun x hx=>?_⟩;rcases List.mem_cons.1 hx with rfl|hx
   ·have:=z1 x (List.mem_cons_self ..);grind
   ·exact z2 x hx
  ·obtain⟨z,z1,z2⟩:=mr ms (ls:=m.neg::ls) (q:=r) (fun x hx=>hms x (Mc hx)) (fun x hx=>by
    rcases List.mem_cons.1 hx with rfl|hx
    ·rw [bI];grind
    ·exact r1 x hx)
   refine⟨z,fun x hx=>z1 x (Mc hx),fun x hx=>?_⟩;rcases List.mem_cons.1 hx with rfl|hx
   ·have:=z1 _ (List.mem_cons_self ..);rw [bI]at this;grind
   ·exact z2 x hx
theorem Bf {q d:Pq}:∀{ms:List Li},(∀m∈ms,a6 m q≠0)→∃N:Nat,∀n:Nat,N≤n→∀m∈ms,a6 m (cA q (n:Rat) d)≠0
 | [],_=>⟨0,fun _ _ _ h=>by cases h⟩
 |m::ms,H=>by
  obtain⟨N1,h1⟩:=Bf (d:=d) (ms:=ms) fun x hx=>H x (Mc hx)
  have hv:=H m (List.mem_cons_self ..);generalize hs:(m.a:Rat)*d.1+(m.b:Rat)*d.2=s;obtain⟨N2,h2⟩:=yn (-(a6 m q)/s);refine⟨max N1 (N2+1),fun n hn x hx=>?_⟩;rcases List.mem_cons.1 hx with rfl|hx
  ·rw [kC,hs];intro e;by_cases z:s=0
   ·rw [z]at e;grind
   ·have e1 : -(a6 x q)/s*s = -(a6 x q):=Rat.div_mul_cancel z;have e2:((n:Rat) - -(a6 x q)/s)*s=0:=by grind
    have h3:((N2+1:Nat):Rat)≤(n:Rat):=Rat.natCast_le_natCast.2 om;rw [Rat.natCast_add]at h3;rcases Rat.mul_eq_zero.1 e2 with r|r
    ·grind
    ·exact z r
  ·exact h1 n om x hx
def xF (p q:Pq):Fg:=(thr p.1 p.2 q.1 q.2,⟨cl (thr p.1 p.2 q.1 q.2) p,cl (thr p.1 p.2 q.1 q.2) q,false,false⟩)
theorem Az (z:Int) (h:z.natAbs≤4000000000):il z≤1:=bS (k:=1) (by simp;omega)
theorem Eg (x y u v:Int):thr (x:Rat) y u v=gw ((-(v-y):Int):Rat) ((u-x:Int):Rat) (((v-y)*x-(u-x)*y:Int):Rat):=by
 unfold thr;push_cast
 congr 1 <;> grind
theorem s5 {p q:Pq}(hp:Iq p) (hq:Iq q) (h:p≠q):(thr p.1 p.2 q.1 q.2).sm:=by
 obtain⟨x,y,rfl,hx,hy⟩:=hp;obtain⟨u,v,rfl,hu,hv⟩:=hq
 have hne:u-x≠0∨v-y≠0:=by
  by_cases h1:u-x=0
  ·right;intro h2;exact h (kP.2 ⟨om,om⟩)
  ·exact .inl h1
 show(thr (x:Rat) y u v).sm
 rw [Eg];have hne' : -(v-y)≠0∨u-x≠0:=by clear hx hy hu hv h;omega
 have hm1:((v-y)*x).natAbs≤2000*1000:=by rw [Int.natAbs_mul];exact Nat.mul_le_mul om hx
 have hm2:((u-x)*y).natAbs≤2000*1000:=by rw [Int.natAbs_mul];exact Nat.mul_le_mul om hy
 obtain⟨q1,q2,q3⟩:=xV ((v-y)*x-(u-x)*y) hne'
 have hok:(gw ((-(v-y):Int):Rat) ((u-x:Int):Rat) (((v-y)*x-(u-x)*y:Int):Rat)).ok:=Bl (by
  rcases hne' with h|h
  ·exact .inl fun e=>h (fB.1 e)
  ·exact .inr fun e=>h (fB.1 e))
 clear hne hne' h;generalize(v-y)*x=e1 at *;generalize(u-x)*y=e2 at *;generalize gw ((-(v-y):Int):Rat) ((u-x:Int):Rat) ((e1-e2:Int):Rat)=r at *;exact⟨hok,Az _ om,Az _ om,Az _ om⟩
theorem KA {p q:Pq}(hp:Iq p) (hq:Iq q) (h:p≠q):cl (thr p.1 p.2 q.1 q.2) p<cl (thr p.1 p.2 q.1 q.2) q:=by
 have hok:=(s5 hp hq h).1
 have hne:q.1-p.1≠0∨q.2-p.2≠0:=by
  by_cases h1:q.1-p.1=0
  ·right;intro h2;exact h (Prod.ext (by grind) (by grind))
  ·exact .inl h1
 have h1:=wi hok p;have h2:=wi hok q;have n0:=dA hok
 have key:0<q.1*(thr p.1 p.2 q.1 q.2).b-q.2*(thr p.1 p.2 q.1 q.2).a-(p.1*(thr p.1 p.2 q.1 q.2).b-p.2*(thr p.1 p.2 q.1 q.2).a):=by
  unfold thr
  have hn' : -(q.2-p.2)≠0∨q.1-p.1≠0:=by
   rcases hne with h|h
   ·exact .inr h
   ·left;grind
  obtain⟨e1,e2,_⟩:=Bm (c := -(-(q.2-p.2)*p.1+(q.1-p.1)*p.2)) hn';have gp:=AC (c := -(-(q.2-p.2)*p.1+(q.1-p.1)*p.2)) hn';rw [←e1,←e2];have ip:=Rat.inv_pos.2 gp;have sq:=vT hne;generalize(g3 (-(q.2-p.2)) (q.1-p.1) (-(-(q.2-p.2)*p.1+(q.1-p.1)*p.2)))⁻¹=g at *;have:=Rat.mul_pos ip sq;grind
 generalize(thr p.1 p.2 q.1 q.2)=l at *;generalize cl l p=s at *;generalize cl l q=t at *;by_cases c:s<t
 ·exact c
 ·exfalso;have:=Rat.mul_nonneg (show 0≤s-t by grind) (Rat.le_of_lt n0);grind
theorem KC {L:List Li}{p q:Pq}(hp:Iq p) (hq:Iq q) (h:p≠q) (hL:thr p.1 p.2 q.1 q.2∈L):FgG L (xF p q):=by
 have hlt:=KA hp hq h
 have hn:¬(0≤(cl (thr p.1 p.2 q.1 q.2) p-cl (thr p.1 p.2 q.1 q.2) q).num.sign):=fun e=>by
  have:=jP.1 e;grind
 refine⟨(s5 hp hq h).1,hL,⟨(fun e=>by cases e),(fun e=>by cases e),fun _ _=>hlt⟩,?_⟩;unfold cj xF;simp [hn]
theorem KB {p q:Pq}(hp:Iq p) (hq:Iq q) (h:p≠q):(xF p q).2.le 16:=by
 have hl:=s5 hp hq h;exact⟨kI (n:=1) hl hp.ht,kI (n:=1) hl hq.ht⟩
def dS (l:List Pq):List Fg:=(List.range l.length).map fun i=>xF (l.getD i (0,0)) (l.getD ((i+1)%l.length) (0,0))
theorem oV (l:List Pq):(dS l).length=l.length:=by unfold dS;simp
theorem EP {l:List Pq}(h:eL l){i:Nat}(hi:i<l.length):Iq (l.getD i (0,0))∧Iq (l.getD ((i+1)%l.length) (0,0))∧l.getD i (0,0)≠l.getD ((i+1)%l.length) (0,0):=by
 have hj:(i+1)%l.length<l.length:=Nat.mod_lt _ om;have e1:l[i]? = some (l.getD i (0,0)):=by rw [List.getD,List.getElem?_eq_getElem hi];rfl
 have e2:l[(i+1)%l.length]? = some (l.getD ((i+1)%l.length) (0,0)):=by rw [List.getD,List.getElem?_eq_getElem hj];rfl
 exact⟨h.2.1 _ (List.mem_of_getElem? e1),h.2.1 _ (List.mem_of_getElem? e2),h.2.2.2 i _ _ e1 e2⟩
theorem rk {l:List Pq}(h:eL l):∀f∈dS l,f.1.sm∧f.2.le 16∧∀L,f.1∈L→FgG L f:=fun f hf=>by
 obtain⟨i,hi,rfl⟩:=List.mem_map.1 hf;rw [List.mem_range]at hi;obtain⟨h1,h2,h3⟩:=EP h hi;exact⟨s5 h1 h2 h3,KB h1 h2 h3,fun L hL=>KC h1 h2 h3 hL⟩
theorem Ji (x y:Rat):t9 x y=x∨t9 x y=y:=by unfold t9;split;exact .inl rfl;exact .inr rfl
theorem Jd (x y:Rat):sX x y=x∨sX x y=y:=by unfold sX;split;exact .inl rfl;exact .inr rfl
theorem zJ {v w:Spn}{n:Nat}(hv:v.le n) (hw:w.le n):(bN v w).le n:=by
 obtain⟨v1,v2⟩:=hv;obtain⟨w1,w2⟩:=hw;unfold bN;constructor
 ·show ht (if v.nl then w.lo else if w.nl then v.lo else t9 v.lo w.lo)≤n
  split
  ·exact w1
  ·split
   ·exact v1
   ·rcases Ji v.lo w.lo with e|e <;> rw [e] <;> assumption
 ·show ht (if v.nh then w.hi else if w.nh then v.hi else sX v.hi w.hi)≤n
  split
  ·exact w2
  ·split
   ·exact v2
   ·rcases Jd v.hi w.hi with e|e <;> rw [e] <;> assumption
theorem JL {l m:Li}{v w:Spn}(hl:l.sm) (hm:m.sm) (hv:v.le 46) (h:ej l v m=some w):w.le 46:=by
 have hz:=gZ
 have hx:slp l m≠0→ht (-(a6 m (aD l)/slp l m))≤46:=fun hs=>by
  have hd:dF l m≠0:=fun e=>hs (by rw [md]at e;grind)
  have h1:=lJ hl hm;have h2:=kI hl h1
  have e : -(a6 m (aD l)/slp l m)=cl l (bz l m):=by
   have e1:=tH hs (cl l (bz l m));have e2:=nW hl.1 hd (cl l (bz l m));have e3:(cl l (bz l m)-cl l (bz l m))*slp l m=0:=by grind
   rw [e3]at e2;rw [e2]at e1;rcases Rat.mul_eq_zero.1 e1.symm with e|e
   ·grind
   ·exact absurd e hs
  rw [e];omega
 unfold ej at h;split at h
 ·split at h
  ·cases h;exact hv
  ·cases h
 ·rename_i hs;have hs':slp l m≠0:=fun e=>hs (by rw [e];rfl)
  have hq:=hx hs';split at h
  ·cases h
  ·cases h;refine zJ hv ?_;unfold hlf;split
   ·exact⟨hq,by show ht 0≤46;omega⟩
   ·exact⟨by show ht 0≤46;omega,hq⟩
theorem um {L:List Li}{f:Fg}{m:Li}(hf:FgG L f) (hl:f.1.sm) (hm:m.sm) (hv:f.2.le 46):(∀g∈(bh f m).1,g.2.le 46)∧∀g∈(bh f m).2,g.2.le 46:=by
 rw [iS hf.g hf.b hf.ok]
 have key:∀x:Li,x.sm→∀g∈((ej f.1 f.2 x).toList).map (fun s=>(f.1,s)),g.2.le 46:=fun x hx g hg=>by
  obtain⟨w,hw,rfl⟩:=List.mem_map.1 hg;rw [Option.mem_toList]at hw;exact JL hl hx hv hw
 exact⟨key m hm,key m.neg hm.neg⟩
theorem Am {α:Type}{f:α→Bool}{l:List α}{k:Nat}{t:α}(h:l[k]? = some t):((((l.take (k+1)).map f)).map fun b=>[(lit (.bool b):SV)]).flatten=(((l.take k).map f).map fun b=>[lit (.bool b)]).flatten++[lit (.bool (f t))]:=by
 rw [bV h,List.map_append,List.map_append,List.flatten_append];rfl
theorem lz (op : Int) (hop : op = 1 ∨ op = 2) (a b : List Spn) (hla : a.length ≤ 10000) (hlb : b.length ≤ 10000) (ha : ∀ s ∈ a, s.le 10000) (hb : ∀ s ∈ b, s.le 10000) :
    Pu Tryz.prog 74 [lit (.int .i64 op),sps a,sps b] (sps (iE op a b)):=by
  have hl:(a++b).length≤20000:=by rw [List.length_append];omega
  have hab:∀s∈a++b,s.le 10000:=fun s hs=>(List.mem_append.1 hs).elim (ha s) (hb s)
  have c1:=EU (a++b) om (fun s hs=>⟨by have:=(hab s hs).1;omega,by have:=(hab s hs).2;omega⟩);have hel:=yV (a++b);have heh:=C5 hab;have hpl:=kH (cU (a++b));have hph:=CP heh;have c2:=zQ (cU (a++b)) om (fun y hy=>by have:=heh y hy;omega);have c3:=ES (cU (a++b)) ((ed (cU (a++b))).map fun t=>opB op (inL a t) (inL b t)) om (by rw [List.length_map];exact hpl);have hfa:((a.map spx).flatten).length=a.length*8:=cT jj a;have hfb:((b.map spx).flatten).length=b.length*8:=cT jj b;have hfab:(a.map spx).flatten++(b.map spx).flatten=((a++b).map spx).flatten:=by rw [List.map_append,List.flatten_append]
  have e1:∀s H',Own sT 8 (a.length+b.length) ((a.map spx).flatten++(b.map spx).flatten) s H'→Own sT 8 (a++b).length ((a++b).map spx).flatten s H':=fun s H' h=>by rw [List.length_append,←hfab];exact h
  clear hfab hab;unfold iE;generalize cU (a++b)=cuts at *;generalize hM:(ed cuts).map (fun t=>opB op (inL a t) (inL b t))=M at *;generalize hP:ed cuts=ps at *;have hMl:M.length=ps.length:=by rw [←hM,List.length_map]
  have di:∀t∈ps,Pu Tryz.prog 113 [sps a,rq t] (lit (.bool (inL a t)))∧Pu Tryz.prog 113 [sps b,rq t] (lit (.bool (inL b t))):=fun t ht=>⟨EO a t om (fun s hs=>⟨by have:=(ha s hs).1;omega,by have:=(ha s hs).2;omega⟩) (by have:=hph t ht;omega),EO b t om (fun s hs=>⟨by have:=(hb s hs).1;omega,by have:=(hb s hs).2;omega⟩) (by have:=hph t ht;omega)⟩
  clear heh hph ha hb;refine Pi Tryz.func74 fun C=>?_
  repeat(refine A1 ⟨?_⟩;intros)
  rename_i b14;refine vL (k0:=a.length) (n0:=0) (cs:=[]) (ds:=(a.map spx).flatten) (Hs:=[(b14,sT,[])]) ⟨rfl, .inr ⟨b14,0,Nat.le_refl _,by decide,rfl,rfl⟩⟩ (Tk.cons (.here _) (Tk.nil _)) om hfa (fun s1 H1 hown1=>?_);rw [Nat.zero_add,List.nil_append]at hown1;have hco1:=hown1.co;repeat(refine A1 ⟨?_⟩;intros)
  refine vL (k0:=b.length) hown1 (Tk.same _) om hfb (fun s2 H2 hown2=>?_);replace hown2:=e1 _ _ hown2;have hco2:=hown2.co;refine WPL.rowS 18 hown2 rfl (R:=[]) (by simp) ?_;clear hown1 hown2 e1 hfa hfb;repeat(first|(refine A1 ⟨?_⟩;intros)|refine W4 c1 ⟨?_⟩|refine W4 c2 ⟨?_⟩)
  refine WP.loopS (ι:=pf) (fun y=>y.k≤ps.length∧Own bT 1 y.k (((ps.take y.k).map fun t=>opB op (inL a t) (inL b t)).map fun b=>[lit (.bool b)]).flatten y.s y.Hs) (fun y=>ps.length-y.k)
    (fun y=>fm [(0,lit (.int .i64 op)),(1,sps a),(2,sps b),(7,rqs cuts),(8,y.s),(21,rqs ps),(22,lit (.int .i64 ps.length)),(23,lit (.int .i64 y.k))]) (fun y=>y.Hs) ⟨0,lit (.slice none 0 0),[]⟩
    ⟨Nat.zero_le _,Own.nil _ _⟩ lfA (List.nil_sublist _) ?_
  rintro ⟨k,s,Hs⟩ ⟨hk,hown⟩ K hK;simp only at hk hown⊢;have hco:=hown.co;by_cases hkl:k<ps.length
  · obtain⟨t,hget,hmm,hat,hne⟩:=elt iK om hkl
    obtain⟨d1,d2⟩:=di t hmm;have hgo:=fun s' Hs' (h:Own bT 1 (k+1) ((((ps.take k).map fun t=>opB op (inL a t) (inL b t)).map fun b=>[lit (.bool b)]).flatten++[lit (.bool (opB op (inL a t) (inL b t)))]) s' Hs') F' H'=>hK F' H' ⟨k+1,s',Hs'⟩ ⟨by simp only;omega,by simp only;rw [Am hget];exact h⟩ (by simp only;omega)
    clear hK di c1 c2 c3 hget hmm hM hP;generalize inL a t=x at *;generalize inL b t=y at *;generalize(((ps.take k).map fun t=>opB op (inL a t) (inL b t)).map fun b=>[(lit (.bool b):SV)]).flatten=cs at *;rcases hop with rfl|rfl <;> cases x <;> cases y
    all_goals
      simp only [opB,Int.reduceEq,if_true,if_false,Bool.or_true,Bool.or_false,Bool.and_true,Bool.and_false,Bool.or_self,Bool.and_self,Bool.false_eq_true]at hgo;repeat(refine A1 ⟨?_⟩;intros)
      refine Wo (a7 (cs':=rqx t) rfl rfl om om hat hne) ?_;repeat(first|(refine Wo (eS (s:=lit (.bool true)) (ds:=[lit (.bool true)]) rfl inferInstance) ?_)|(refine Wdo (eS (s:=lit (.bool true)) (ds:=[lit (.bool true)]) rfl inferInstance) ?_)|(refine Wo (eS (s:=lit (.bool false)) (ds:=[lit (.bool false)]) rfl inferInstance) ?_)|(refine Wdo (eS (s:=lit (.bool false)) (ds:=[lit (.bool false)]) rfl inferInstance) ?_)|(refine A1 ⟨?_⟩;intros)|refine W4 d1 ⟨?_⟩|refine W4 d2 ⟨?_⟩)
    all_goals first
      | (refine iG (ds := [lit (.bool true)]) hown (Tk.skip _ (Tk.same _)) om (fun s' H1 hown' => ?_)
         have hco':=hown'.co;replace hgo:=hgo s' H1 hown';clear hown hown';repeat(refine A1 ⟨?_⟩;intros)
         exact hgo _ _ lfA (Sc Sr))
      | (refine iG (ds := [lit (.bool false)]) hown (Tk.skip _ (Tk.same _)) om (fun s' H1 hown' => ?_)
         have hco':=hown'.co;replace hgo:=hgo s' H1 hown';clear hown hown';repeat(refine A1 ⟨?_⟩;intros)
         exact hgo _ _ lfA (Sc Sr))
  · have hke:k=ps.length:=by omega
    subst hke;rw [List.take_length,hM]at hown;have hl2:ps.length=M.length:=hMl.symm;rw [hl2]at hown;refine WP.rowS 8 hown rfl (by rw [List.append_nil]) ?_;clear hK hown di;exact Y1 c3
theorem uE {l m:Li}(hl:l.sm) (hm:m.sm) (side:Int) (hs:side=1∨side = -1):Pu Tryz.prog 110 [lq l,lq m,lit (.int .i64 side)] (Ab.tup [sps (fk l m side).1,lit (.bool (fk l m side).2)]):=by
 have d1:=xJ hl hm;have hmt:=lJ hl hm;have hpt:=kI hl hmt;have h1:=gP;unfold fk;by_cases h0:dF l m=0
 ·rw [if_pos h0];unfold t8 at d1;rw [if_pos h0]at d1;obtain⟨q1,q2⟩:=pc hl;have d3:=sA hl.1 hl.2;have d4:=o9 (l:=m) (p:=aD l) hm ⟨om,om⟩;simp only [Option.getD_none,Option.isSome_none]at d1;have e4:ag (rpx (aD l))=rp (l.bf*l.a) (l.bf*l.b):=rfl;rw [e4]at d4;clear hmt hpt q1 q2 e4 h0;generalize dt m (aD l)=z at *;by_cases hz:z=side
  ·rw [if_pos hz];subst hz;by_cases z0:z=0
   ·omega
   ·rw [decide_eq_false z0];refine Pi Tryz.func110 fun C=>?_
    repeat(first|(refine Wo (aE (spx Spn.full) rfl) ?_)|(refine Wdo (aE (spx Spn.full) rfl) ?_)|(refine A1 ⟨?_⟩;intros)|refine W4 d1 ⟨?_⟩|refine W4 d3 ⟨?_⟩|refine W4 d4 ⟨?_⟩|refine W4 sr ⟨?_⟩)
    exact G2
  ·rw [if_neg hz];by_cases z0:z=0
   ·rw [decide_eq_true z0];refine Pi Tryz.func110 fun C=>?_
    repeat(first|(refine A1 ⟨?_⟩;intros)|refine W4 d1 ⟨?_⟩|refine W4 d3 ⟨?_⟩|refine W4 d4 ⟨?_⟩)
    ((first|refine aS ?_|refine eV ?_);exact fQ (RV.tmp rfl) (RV.tmp rfl) (Le.tup2 dJ Lr))
   ·rw [decide_eq_false z0];refine Pi Tryz.func110 fun C=>?_
    repeat(first|(refine A1 ⟨?_⟩;intros)|refine W4 d1 ⟨?_⟩|refine W4 d3 ⟨?_⟩|refine W4 d4 ⟨?_⟩)
    ((first|refine aS ?_|refine eV ?_);exact fQ (RV.tmp rfl) (RV.tmp rfl) (Le.tup2 dJ Lr))
 ·rw [if_neg h0];unfold t8 at d1;rw [if_neg h0]at d1;simp only [Option.getD_some,Option.isSome_some]at d1;have d3:=mg (l:=l) (p:=bz l m) hl ⟨by have:=hmt.1;omega,by have:=hmt.2;omega⟩;have ha:=dp (cl l (bz l m)) 1;have d4:=eQ (cl l (bz l m)) 1 om om;have d5:=EX (l:=l) (t:=cl l (bz l m)+1) hl om;have hat:=HD (t:=cl l (bz l m)+1) (n:=100) hl om;have d6:=o9 (l:=m) (p:=atL l (cl l (bz l m)+1)) hm ⟨by have:=hat.1;omega,by have:=hat.2;omega⟩;clear hmt hpt ha hat h0;generalize dt m (atL l (cl l (bz l m)+1))=z at *;generalize atL l (cl l (bz l m)+1)=q at *;generalize cl l (bz l m)+1=t1 at *;generalize cl l (bz l m)=t at *;generalize bz l m=mp at *;by_cases hz:z=side
  ·rw [if_pos hz];refine Pi Tryz.func110 fun C=>?_
   repeat(first|(refine Wo (aE (rqx t++[lit (.bool false),lit (.slice none 0 0),lit (.slice none 0 0),lit (.bool false),lit (.bool true)]) rfl) ?_)|(refine Wdo (aE (rqx t++[lit (.bool false),lit (.slice none 0 0),lit (.slice none 0 0),lit (.bool false),lit (.bool true)]) rfl) ?_)|(refine A1 ⟨?_⟩;intros)|refine W4 d1 ⟨?_⟩|refine W4 d3 ⟨?_⟩|refine W4 d4 ⟨?_⟩|refine W4 d5 ⟨?_⟩|refine W4 d6 ⟨?_⟩|refine W4 oh ⟨?_⟩)
   ((first|refine aS ?_|refine eV ?_);exact fQ (RV.tmp rfl) (RV.tmp rfl) (Le.tup2 (Aq (b:=spx ⟨t,0,false,true⟩) ⟨Le.refl _,Le.refl _,Le.refl _,Le.refl _,qG,qH,Le.refl _,Le.refl _,trivial⟩) Lr))
  ·rw [if_neg hz];refine Pi Tryz.func110 fun C=>?_
   repeat(first|(refine Wo (aE ([lit (.bool false),lit (.slice none 0 0),lit (.slice none 0 0)]++rqx t++[lit (.bool true),lit (.bool false)]) rfl) ?_)|(refine Wdo (aE ([lit (.bool false),lit (.slice none 0 0),lit (.slice none 0 0)]++rqx t++[lit (.bool true),lit (.bool false)]) rfl) ?_)|(refine A1 ⟨?_⟩;intros)|refine W4 d1 ⟨?_⟩|refine W4 d3 ⟨?_⟩|refine W4 d4 ⟨?_⟩|refine W4 d5 ⟨?_⟩|refine W4 d6 ⟨?_⟩|refine W4 oh ⟨?_⟩)
   ((first|refine aS ?_|refine eV ?_);exact fQ (RV.tmp rfl) (RV.tmp rfl) (Le.tup2 (Aq (b:=spx ⟨0,t,true,false⟩) ⟨Le.refl _,qG,qH,Le.refl _,Le.refl _,Le.refl _,Le.refl _,Le.refl _,trivial⟩) Lr))
abbrev fqx (f:Fg):List SV:=lqx f.1++spx f.2
theorem jr (f:Fg):(fqx f).length=14:=rfl
abbrev fqs (l:List Fg):SV:=sl (l.map fqx).flatten l.length
theorem oK {α:Type}{l:List α}(h:l.length≤1):l=[]∨∃x,l=[x]:=by
 match l,h with
 | [],_=>exact .inl rfl
 | [x],_=>exact .inr ⟨x,rfl⟩
theorem jq:Le (lit (.slice none 0 0)) (xsl [] 0):=fun m v h=>by
 rw [ae]at h;subst h;unfold xsl;exact⟨none,rfl,by simp only [maxLen];omega,fun _=>rfl, .inl rfl⟩
theorem BK:Le (lit (.slice none 0 0)) (fqs []):=dJ
theorem uw {L:List Li}{f:Fg}{m:Li}(hf:FgG L f) (hl:f.1.sm) (hm:m.sm) (hv:f.2.le 46):Pu Tryz.prog 73 [ag (fqx f),lq m] (Ab.tup [fqs (bh f m).1,fqs (bh f m).2]):=by
 have d1:=uE hl hm 1 (.inl rfl);have d2:=uE hl hm (-1) (.inr rfl);have hsl:=pz (m:=m) hf;have hd:(fk f.1 m (-1)).2=(fk f.1 m 1).2:=by unfold fk;split <;> (try rfl);split <;> split <;> rfl
 have hh:∀side,(fk f.1 m side).1.length≤1∧∀s∈(fk f.1 m side).1,s.le 10000:=fun side=>by
  have h0:=gZ;have hmt:=lJ hl hm;have hpt:=kI hl hmt;unfold fk;split
  ·split
   ·exact⟨Nat.le_refl _,fun s hs=>by rw [List.mem_singleton.1 hs];exact⟨by show ht 0≤_;omega,by show ht 0≤_;omega⟩⟩
   ·exact⟨by simp,fun s hs=>by cases hs⟩
  ·split
   ·exact⟨Nat.le_refl _,fun s hs=>by rw [List.mem_singleton.1 hs];exact⟨by simp only;omega,by show ht 0≤_;omega⟩⟩
   ·exact⟨Nat.le_refl _,fun s hs=>by rw [List.mem_singleton.1 hs];exact⟨by show ht 0≤_;omega,by simp only;omega⟩⟩
 have e1:=lz 2 (.inr rfl) [f.2] (fk f.1 m 1).1 (by simp) (by have:=(hh 1).1;omega) (fun s hs=>by rw [List.mem_singleton.1 hs];exact⟨by have:=hv.1;omega,by have:=hv.2;omega⟩) (hh 1).2;have e2:=lz 2 (.inr rfl) [f.2] (fk f.1 m (-1)).1 (by simp) (by have:=(hh (-1)).1;omega) (fun s hs=>by rw [List.mem_singleton.1 hs];exact⟨by have:=hv.1;omega,by have:=hv.2;omega⟩) (hh (-1)).2;rw [hd]at d2;unfold bh at hsl⊢;clear hh hd;generalize(fk f.1 m 1).2=on at *;generalize iE 2 [f.2] (fk f.1 m 1).1=A at *;generalize iE 2 [f.2] (fk f.1 m (-1)).1=B at *;generalize(fk f.1 m 1).1=hA at *;generalize(fk f.1 m (-1)).1=hB at *;obtain⟨l,s⟩:=f;simp only at *;cases on with
 |true =>
  rw [if_pos rfl];clear hsl e1 e2 hf hv d2;refine Pi Tryz.func73 fun C=>?_
  repeat(first|(refine Wo (aB (sv:=ag _) rfl) ?_)|(refine Wdo (aB (sv:=ag _) rfl) ?_)|(refine Wo (aX (r:=[(0,[lit (.int .i64 1)]),(1,[lit (.int .i64 (-1))])]) (cs:=[lit (.int .i64 1),lit (.int .i64 (-1))]) (.cons (sv:=lit (.int .i64 1)) rfl inferInstance (.cons (sv:=lit (.int .i64 (-1))) rfl inferInstance .nil))) ?_)|(refine Wdo (aX (r:=[(0,[lit (.int .i64 1)]),(1,[lit (.int .i64 (-1))])]) (cs:=[lit (.int .i64 1),lit (.int .i64 (-1))]) (.cons (sv:=lit (.int .i64 1)) rfl inferInstance (.cons (sv:=lit (.int .i64 (-1))) rfl inferInstance .nil))) ?_)|(refine A1 ⟨?_⟩;intros))
  refine WP.unroll 1 (WPR.succ ?_);repeat(refine A1 ⟨?_⟩;intros)
  refine Wo (a7 (cs':=[lit (.int .i64 1)]) rfl rfl (by decide) (by decide) rfl (fun h=>by cases h)) ?_;repeat(first|(refine A1 ⟨?_⟩;intros)|refine W4 d1 ⟨?_⟩)
  ((first|refine aS ?_|refine eV ?_);exact fQ (RV.tmp rfl) (RV.tmp rfl) (Le.tup2 BK BK))
 |false =>
  rw [if_neg (by decide)]at hsl⊢;simp only at hsl;rw [List.length_map,List.length_map]at hsl;obtain⟨h1,h2⟩:=hsl;refine Pi Tryz.func73 fun C=>?_
  repeat(first|(refine Wo (aB (sv:=ag _) rfl) ?_)|(refine Wdo (aB (sv:=ag _) rfl) ?_)|(refine Wo (aX (r:=[(0,[lit (.int .i64 1)]),(1,[lit (.int .i64 (-1))])]) (cs:=[lit (.int .i64 1),lit (.int .i64 (-1))]) (.cons (sv:=lit (.int .i64 1)) rfl inferInstance (.cons (sv:=lit (.int .i64 (-1))) rfl inferInstance .nil))) ?_)|(refine Wdo (aX (r:=[(0,[lit (.int .i64 1)]),(1,[lit (.int .i64 (-1))])]) (cs:=[lit (.int .i64 1),lit (.int .i64 (-1))]) (.cons (sv:=lit (.int .i64 1)) rfl inferInstance (.cons (sv:=lit (.int .i64 (-1))) rfl inferInstance .nil))) ?_)|(refine A1 ⟨?_⟩;intros))
  replace e1:Pu Tryz.prog 74 [lit (.int .i64 2),sl (spx s) 1,sps hA] (sps A):=e1;replace e2:Pu Tryz.prog 74 [lit (.int .i64 2),sl (spx s) 1,sps hB] (sps B):=e2;have l0:([]:List Spn).length=0:=rfl;have l1:∀w:Spn,[w].length=1:=fun _=>rfl
  clear hf hv hl hm;obtain rfl|⟨w,rfl⟩:=oK h1
  ·obtain rfl|⟨u,rfl⟩:=oK h2
   ·refine WP.unroll 3 (WPR.succ ?_);repeat(refine A1 ⟨?_⟩;intros)
    refine WPL.lowB (cs':=[xsl [] 0,xsl [] 0]) (.here _) ⟨jq,jq,trivial⟩ ?_;refine Wo (a7 (cs':=[lit (.int .i64 1)]) rfl rfl (by decide) (by decide) rfl (fun h=>by cases h)) ?_;repeat(first|(refine Wo (aE (spx s) rfl) ?_)|(refine Wdo (aE (spx s) rfl) ?_)|(refine A1 ⟨?_⟩;intros)|refine W4 d1 ⟨?_⟩|refine W4 e1 ⟨?_⟩)
    refine WP.unroll 1 (WPR.succ ?_);repeat(refine A1 ⟨?_⟩;intros)
    refine Wo (a7 (cs':=[lit (.int .i64 (-1))]) rfl rfl (by decide) (by decide) rfl (fun h=>by cases h)) ?_;repeat(first|(refine Wo (aE (spx s) rfl) ?_)|(refine Wdo (aE (spx s) rfl) ?_)|(refine A1 ⟨?_⟩;intros)|refine W4 d2 ⟨?_⟩|refine W4 e2 ⟨?_⟩)
    refine WP.unroll 1 (WPR.succ ?_);repeat(refine A1 ⟨?_⟩;intros)
    refine Wdo (dW (e:=112) (len:=2) kr rfl rfl om om) ?_;repeat(refine A1 ⟨?_⟩;intros)
    refine Wdo (dW (e:=112) (len:=2) kr rfl rfl om om) ?_;repeat(refine A1 ⟨?_⟩;intros)
    exact aS (fQ (RV.tmp rfl) (RV.tmp rfl) (Le.tup2 lN lN))
   ·refine WP.unroll 3 (WPR.succ ?_);have lw:=l1 u;repeat(refine A1 ⟨?_⟩;intros)
    refine WPL.lowB (cs':=[xsl [] 0,xsl [] 0]) (.here _) ⟨jq,jq,trivial⟩ ?_;refine Wo (a7 (cs':=[lit (.int .i64 1)]) rfl rfl (by decide) (by decide) rfl (fun h=>by cases h)) ?_;repeat(first|(refine Wo (aE (spx s) rfl) ?_)|(refine Wdo (aE (spx s) rfl) ?_)|(refine A1 ⟨?_⟩;intros)|refine W4 d1 ⟨?_⟩|refine W4 e1 ⟨?_⟩)
    refine WP.unroll 1 (WPR.succ ?_);repeat(refine A1 ⟨?_⟩;intros)
    refine Wo (a7 (cs':=[lit (.int .i64 (-1))]) rfl rfl (by decide) (by decide) rfl (fun h=>by cases h)) ?_;repeat(first|(refine Wo (aE (spx s) rfl) ?_)|(refine Wdo (aE (spx s) rfl) ?_)|(refine A1 ⟨?_⟩;intros)|refine W4 d2 ⟨?_⟩|refine W4 e2 ⟨?_⟩)
    refine WP.unroll 2 (WPR.succ ?_);repeat(refine A1 ⟨?_⟩;intros)
    refine Wo (a7 (cs':=spx u) rfl rfl om om rfl (fun h=>by cases h)) ?_;repeat(first|(refine AS ⟨?_⟩;intros)|(refine O1 ⟨?_⟩;intros))
    refine WdN 10 ?_;repeat(refine A1 ⟨?_⟩;intros)
    refine Wdo (dW (e:=112) (len:=2) kr rfl rfl om om) ?_;repeat(first|(refine Wo (aE (fqx (l,u)) rfl) ?_)|(refine Wdo (aE (fqx (l,u)) rfl) ?_)|(refine Wo (az (k:=0) (k0:=1) (ds:=fqx (l,u)) rfl rfl rfl rfl om) ?_)|(refine Wdo (az (k:=0) (k0:=1) (ds:=fqx (l,u)) rfl rfl rfl rfl om) ?_)|(refine A1 ⟨?_⟩;intros))
    refine Wo (dW (e:=112) (len:=2) kr rfl rfl om om) ?_;repeat(refine A1 ⟨?_⟩;intros)
    refine Wdo (dW (e:=112) (len:=2) kr rfl rfl om om) ?_;repeat(refine A1 ⟨?_⟩;intros)
    refine Wdo (dW (e:=112) (len:=2) kr rfl rfl om om) ?_;repeat(refine A1 ⟨?_⟩;intros)
    exact aS (fQ (RV.tmp rfl) (RV.tmp rfl) (Le.tup2 lN Lr))
  ·obtain rfl|⟨u,rfl⟩:=oK h2
   ·refine WP.unroll 3 (WPR.succ ?_);have lw:=l1 w;repeat(refine A1 ⟨?_⟩;intros)
    refine WPL.lowB (cs':=[xsl [] 0,xsl [] 0]) (.here _) ⟨jq,jq,trivial⟩ ?_;refine Wo (a7 (cs':=[lit (.int .i64 1)]) rfl rfl (by decide) (by decide) rfl (fun h=>by cases h)) ?_;repeat(first|(refine Wo (aE (spx s) rfl) ?_)|(refine Wdo (aE (spx s) rfl) ?_)|(refine A1 ⟨?_⟩;intros)|refine W4 d1 ⟨?_⟩|refine W4 e1 ⟨?_⟩)
    refine WP.unroll 2 (WPR.succ ?_);repeat(refine A1 ⟨?_⟩;intros)
    refine Wo (a7 (cs':=spx w) rfl rfl om om rfl (fun h=>by cases h)) ?_;repeat(first|(refine AS ⟨?_⟩;intros)|(refine O1 ⟨?_⟩;intros))
    refine WdN 10 ?_;repeat(refine A1 ⟨?_⟩;intros)
    refine Wdo (dW (e:=112) (len:=2) kr rfl rfl om om) ?_;repeat(first|(refine Wo (aE (fqx (l,w)) rfl) ?_)|(refine Wdo (aE (fqx (l,w)) rfl) ?_)|(refine Wo (az (k:=0) (k0:=1) (ds:=fqx (l,w)) rfl rfl rfl rfl om) ?_)|(refine Wdo (az (k:=0) (k0:=1) (ds:=fqx (l,w)) rfl rfl rfl rfl om) ?_)|(refine A1 ⟨?_⟩;intros))
    refine Wo (dW (e:=112) (len:=2) kr rfl rfl om om) ?_;repeat(refine A1 ⟨?_⟩;intros)
    refine Wo (a7 (cs':=[lit (.int .i64 (-1))]) rfl rfl (by decide) (by decide) rfl (fun h=>by cases h)) ?_;repeat(first|(refine Wo (aE (spx s) rfl) ?_)|(refine Wdo (aE (spx s) rfl) ?_)|(refine A1 ⟨?_⟩;intros)|refine W4 d2 ⟨?_⟩|refine W4 e2 ⟨?_⟩)
    refine WP.unroll 1 (WPR.succ ?_);repeat(refine A1 ⟨?_⟩;intros)
    refine Wdo (dW (e:=112) (len:=2) kr rfl rfl om om) ?_;repeat(refine A1 ⟨?_⟩;intros)
    refine Wdo (dW (e:=112) (len:=2) kr rfl rfl om om) ?_;repeat(refine A1 ⟨?_⟩;intros)
    exact aS (fQ (RV.tmp rfl) (RV.tmp rfl) (Le.tup2 Lr lN))
   ·refine WP.unroll 3 (WPR.succ ?_);have lw:=l1 w;have lw:=l1 u;repeat(refine A1 ⟨?_⟩;intros)
    refine WPL.lowB (cs':=[xsl [] 0,xsl [] 0]) (.here _) ⟨jq,jq,trivial⟩ ?_;refine Wo (a7 (cs':=[lit (.int .i64 1)]) rfl rfl (by decide) (by decide) rfl (fun h=>by cases h)) ?_;repeat(first|(refine Wo (aE (spx s) rfl) ?_)|(refine Wdo (aE (spx s) rfl) ?_)|(refine A1 ⟨?_⟩;intros)|refine W4 d1 ⟨?_⟩|refine W4 e1 ⟨?_⟩)
    refine WP.unroll 2 (WPR.succ ?_);repeat(refine A1 ⟨?_⟩;intros)
    refine Wo (a7 (cs':=spx w) rfl rfl om om rfl (fun h=>by cases h)) ?_;repeat(first|(refine AS ⟨?_⟩;intros)|(refine O1 ⟨?_⟩;intros))
    refine WdN 10 ?_;repeat(refine A1 ⟨?_⟩;intros)
    refine Wdo (dW (e:=112) (len:=2) kr rfl rfl om om) ?_;repeat(first|(refine Wo (aE (fqx (l,w)) rfl) ?_)|(refine Wdo (aE (fqx (l,w)) rfl) ?_)|(refine Wo (az (k:=0) (k0:=1) (ds:=fqx (l,w)) rfl rfl rfl rfl om) ?_)|(refine Wdo (az (k:=0) (k0:=1) (ds:=fqx (l,w)) rfl rfl rfl rfl om) ?_)|(refine A1 ⟨?_⟩;intros))
    refine Wo (dW (e:=112) (len:=2) kr rfl rfl om om) ?_;repeat(refine A1 ⟨?_⟩;intros)
    refine Wo (a7 (cs':=[lit (.int .i64 (-1))]) rfl rfl (by decide) (by decide) rfl (fun h=>by cases h)) ?_;repeat(first|(refine Wo (aE (spx s) rfl) ?_)|(refine Wdo (aE (spx s) rfl) ?_)|(refine A1 ⟨?_⟩;intros)|refine W4 d2 ⟨?_⟩|refine W4 e2 ⟨?_⟩)
    refine WP.unroll 2 (WPR.succ ?_);repeat(refine A1 ⟨?_⟩;intros)
    refine Wo (a7 (cs':=spx u) rfl rfl om om rfl (fun h=>by cases h)) ?_;repeat(first|(refine AS ⟨?_⟩;intros)|(refine O1 ⟨?_⟩;intros))
    refine WdN 10 ?_;repeat(refine A1 ⟨?_⟩;intros)
    refine Wdo (dW (e:=112) (len:=2) kr rfl rfl om om) ?_;repeat(first|(refine Wo (aE (fqx (l,u)) rfl) ?_)|(refine Wdo (aE (fqx (l,u)) rfl) ?_)|(refine Wo (az (k:=0) (k0:=1) (ds:=fqx (l,u)) rfl rfl rfl rfl om) ?_)|(refine Wdo (az (k:=0) (k0:=1) (ds:=fqx (l,u)) rfl rfl rfl rfl om) ?_)|(refine A1 ⟨?_⟩;intros))
    refine Wo (dW (e:=112) (len:=2) kr rfl rfl om om) ?_;repeat(refine A1 ⟨?_⟩;intros)
    refine Wdo (dW (e:=112) (len:=2) kr rfl rfl om om) ?_;repeat(refine A1 ⟨?_⟩;intros)
    refine Wdo (dW (e:=112) (len:=2) kr rfl rfl om om) ?_;repeat(refine A1 ⟨?_⟩;intros)
    exact aS (fQ (RV.tmp rfl) (RV.tmp rfl) (Le.tup2 Lr Lr))
end Go.Ab
