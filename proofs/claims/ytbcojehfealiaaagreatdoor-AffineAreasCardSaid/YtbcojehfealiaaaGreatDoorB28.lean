/- Texts laid one behind the other: TrA, Sec, ArA, ArB, RSrt. -/
import Derived.Test.YtbcojehfealiaaaGreatDoorB27
set_option linter.all false
set_option maxHeartbeats 16000000
namespace Go.Ab
open Go.Proofs
variable [Base]
def sd (m:Li) (q:Pq):Bool:=decide (0<a8 m q)
structure LB (L:List Li) (P:Pq→Prop) (q r:Pq):Prop where
 oq:Off L q
 or:Off L r
 pq:P q
 pr:P r
 one:∃l:Li,∀m∈L,sd m q≠sd m r→m=l∨m=l.neg
inductive Way (L:List Li) (P:Pq→Prop):Pq→Pq→Prop
 |refl (q:Pq):Way L P q q
 |step {q r s:Pq}(h:LB L P q r) (w:Way L P r s):Way L P q s
theorem Way.trans {L:List Li}{P:Pq→Prop}{q r s:Pq}(h:Way L P q r) (k:Way L P r s):Way L P q s:=by
 induction h with
 |refl=>exact k
 |step h _ ih=>exact .step h (ih k)
abbrev lrp (q r:Pq) (t:Rat):Pq:=(q.1+t*(r.1-q.1),q.2+t*(r.2-q.2))
theorem nB (m:Li) (q r:Pq) (t:Rat):a8 m (lrp q r t)=a8 m q+t*(a8 m r-a8 m q):=gX m r q t
theorem AU (q r:Pq) (s t:Rat):lrp (lrp q r s) r t=lrp q r (s+t*(1-s)):=by
 unfold lrp;ext <;> simp only <;> grind
def KO (L:List Li) (q r:Pq):Prop:=∀m∈L,∀k∈L,∀t,a8 m (lrp q r t)=0→a8 k (lrp q r t)=0→k=m∨k=m.neg
abbrev jO (q r:Pq) (m:Li):Bool:=sd m q != sd m r
noncomputable abbrev eJ (q r:Pq) (m:Li):Rat:=a8 m q/(a8 m q-a8 m r)
theorem Bg {L:List Li}{q r:Pq}{m:Li}(hm:m∈L) (hq:Off L q) (hr:Off L r) (h:jO q r m=true):(0<a8 m q∧a8 m r<0)∨(a8 m q<0∧0<a8 m r):=by
 have h1:=hq m hm;have h2:=hr m hm;unfold jO sd at h;rw [bne_iff_ne,ne_eq,decide_eq_decide]at h;by_cases c:0<a8 m q
 ·exact .inl ⟨c,by
   have:¬0<a8 m r:=fun d=>h ⟨fun _=>d,fun _=>c⟩
   grind⟩
 ·refine .inr ⟨by grind,?_⟩;apply Classical.byContradiction;intro d;exact h ⟨fun e=>absurd e c,fun e=>absurd e d⟩
theorem Bh {q r:Pq}{m:Li}(h:¬jO q r m=true):(0<a8 m q↔0<a8 m r):=by
 unfold jO sd at h;rw [bne_iff_ne,ne_eq,Classical.not_not,decide_eq_decide]at h;exact h
theorem nI {L:List Li}{q r:Pq}{m:Li}(hm:m∈L) (hq:Off L q) (hr:Off L r) (h:jO q r m=true) (t:Rat):a8 m (lrp q r t)=(eJ q r m-t)*(a8 m q-a8 m r)∧0<eJ q r m∧eJ q r m<1:=by
 have hd:=Bg hm hq hr h;have e:eJ q r m*(a8 m q-a8 m r)=a8 m q:=Rat.div_mul_cancel (by grind);generalize eJ q r m=x at *;rw [nB];refine⟨by grind,?_,?_⟩
 ·rcases hd with⟨h1,h2⟩|⟨h1,h2⟩
  ·apply Classical.byContradiction;intro c;have:=Rat.mul_le_mul_of_nonneg_right (show x≤0 by grind) (show 0≤a8 m q-a8 m r by grind);grind
  ·apply Classical.byContradiction;intro c;have:=Rat.mul_le_mul_of_nonneg_right (show x≤0 by grind) (show 0≤a8 m r-a8 m q by grind);grind
 ·rcases hd with⟨h1,h2⟩|⟨h1,h2⟩
  ·apply Classical.byContradiction;intro c;have:=Rat.mul_le_mul_of_nonneg_right (show 1≤x by grind) (show 0≤a8 m q-a8 m r by grind);grind
  ·apply Classical.byContradiction;intro c;have:=Rat.mul_le_mul_of_nonneg_right (show 1≤x by grind) (show 0≤a8 m r-a8 m q by grind);grind
theorem vn {x y s:Rat}(h0:0≤s) (h1:s≤1):(0<x→0<y→0<x+s*(y-x))∧(x<0→y<0→x+s*(y-x)<0):=by
 have key:∀x y:Rat,0<x→0<y→0<x+s*(y-x):=fun x y hx hy=>by
  by_cases c:s=0
  ·subst c;grind
  ·have:=Rat.mul_pos (show 0<s by grind) hy;have:=Rat.mul_nonneg (show 0≤1-s by grind) (show 0≤x by grind);grind
 refine⟨key x y,fun hx hy=>?_⟩;have:=key (-x) (-y) (by grind) (by grind);grind
theorem rQ {L:List Li}{q r:Pq}{m:Li}(hm:m∈L) (hq:Off L q) (hr:Off L r) (h:¬jO q r m=true){s:Rat}(h0:0≤s) (h1:s≤1):a8 m (lrp q r s)≠0∧(0<a8 m (lrp q r s)↔0<a8 m q):=by
 have hd:=Bh h;have k1:=hq m hm;have k2:=hr m hm;obtain⟨p1,p2⟩:=vn (x:=a8 m q) (y:=a8 m r) h0 h1;rw [nB];by_cases c:0<a8 m q
 ·have:=p1 c (hd.1 c);grind
 ·have:=p2 (by grind) (by grind);grind
theorem kO (q r:Pq):lrp q r 0=q:=by unfold lrp;ext <;> simp only <;> grind
theorem o5 (q r:Pq):lrp q r 1=r:=by unfold lrp;ext <;> simp only <;> grind
theorem Iz {L:List Li}{P:Pq→Prop}:∀(n:Nat){q r:Pq},L.countP (jO q r)≤n→Off L q→Off L r→KO L q r→(∀t,0≤t→t≤1→Off L (lrp q r t)→P (lrp q r t))→Way L P q r:=by
 intro n;induction n with
 |zero =>
  intro q r hn hq hr hg hp;have pq:P q:=by have:=hp 0 Rat.le_refl (by decide +kernel) (by rw [kO];exact hq);rwa [kO]at this
  have pr:P r:=by have:=hp 1 (by decide +kernel) Rat.le_refl (by rw [o5];exact hr);rwa [o5]at this
  refine .step ⟨hq,hr,pq,pr,⟨0,0,0⟩,fun m hm hd=>?_⟩ (.refl _);have:=List.countP_eq_zero.1 (Nat.le_zero.1 hn) m hm;exact absurd (bne_iff_ne.2 hd) this
 |succ n ih =>
  intro q r hn hq hr hg hp;have pq:P q:=by have:=hp 0 Rat.le_refl (by decide +kernel) (by rw [kO];exact hq);rwa [kO]at this
  have pr:P r:=by have:=hp 1 (by decide +kernel) Rat.le_refl (by rw [o5];exact hr);rwa [o5]at this
  by_cases hS:L.filter (jO q r)=[]
  ·refine .step ⟨hq,hr,pq,pr,⟨0,0,0⟩,fun m hm hd=>?_⟩ (.refl _);have:m∈L.filter (jO q r):=List.mem_filter.2 ⟨hm,bne_iff_ne.2 hd⟩;rw [hS]at this;cases this
  obtain⟨m1,hm1,min1⟩:=sG (eJ q r) _ hS;obtain⟨l1,d1⟩:=List.mem_filter.1 hm1
  have same:∀m∈L,jO q r m=true→eJ q r m=eJ q r m1→m=m1∨m=m1.neg:=fun m hm hd he =>
   hg m1 l1 m hm (eJ q r m1) (by rw [(nI l1 hq hr d1 _).1];grind) (by rw [(nI hm hq hr hd _).1];grind)
  by_cases hS2:(L.filter (jO q r)).filter (fun m=>decide (eJ q r m≠eJ q r m1))=[]
  ·refine .step ⟨hq,hr,pq,pr,m1,fun m hm hd=>?_⟩ (.refl _);have hd:=bne_iff_ne.2 hd;refine same m hm hd (Classical.byContradiction fun c=>?_);have:m∈(L.filter (jO q r)).filter (fun m=>decide (eJ q r m≠eJ q r m1)):=List.mem_filter.2 ⟨List.mem_filter.2 ⟨hm,hd⟩,decide_eq_true c⟩;rw [hS2]at this;cases this
  obtain⟨m2,hm2,min2⟩:=sG (eJ q r) _ hS2;obtain⟨hm2',ne2⟩:=List.mem_filter.1 hm2;obtain⟨l2,d2⟩:=List.mem_filter.1 hm2';have ne2:=of_decide_eq_true ne2;have lt12:eJ q r m1<eJ q r m2:=by have:=min1 m2 hm2';grind
  have b1:=(nI l1 hq hr d1 0).2;have b2:=(nI l2 hq hr d2 0).2
  have hsp:∀m∈L,jO q r m=true→(eJ q r m=eJ q r m1)∨eJ q r m2≤eJ q r m:=fun m hm hd=>by
   by_cases c:eJ q r m=eJ q r m1
   ·exact .inl c
   ·exact .inr (min2 m (List.mem_filter.2 ⟨List.mem_filter.2 ⟨hm,hd⟩,decide_eq_true c⟩))
  obtain⟨s,hs1,hs2⟩:∃s,eJ q r m1<s∧s<eJ q r m2:=⟨(eJ q r m1+eJ q r m2)/2,by grind,by grind⟩
  have s0:0≤s:=by grind
  have s1:s≤1:=by grind
  have vals:∀m∈L,jO q r m=true→a8 m (lrp q r s)≠0∧(eJ q r m=eJ q r m1→(0<a8 m (lrp q r s)↔0<a8 m r))∧(eJ q r m2≤eJ q r m→(0<a8 m (lrp q r s)↔0<a8 m q)):=fun m hm hd=>by
   obtain⟨e,_,_⟩:=nI hm hq hr hd s;have dv:=Bg hm hq hr hd;rw [e];rcases hsp m hm hd with c|c
   ·have hneg:eJ q r m-s<0:=by grind
    generalize eJ q r m-s=u at *;rcases dv with⟨p1,p2⟩|⟨p1,p2⟩
    ·have:=Rat.mul_pos (show 0 < -u by grind) (show 0<a8 m q-a8 m r by grind);refine⟨by grind,fun _=>⟨fun h=>?_,fun h=>?_⟩,fun h=>?_⟩
     ·grind
     ·grind
     ·grind
    ·have:=Rat.mul_pos (show 0 < -u by grind) (show 0<a8 m r-a8 m q by grind);refine⟨by grind,fun _=>⟨fun h=>?_,fun h=>?_⟩,fun h=>?_⟩
     ·grind
     ·grind
     ·grind
   ·have hpos:0<eJ q r m-s:=by grind
    have hne:eJ q r m≠eJ q r m1:=by grind
    generalize eJ q r m-s=u at *;rcases dv with⟨p1,p2⟩|⟨p1,p2⟩
    ·have:=Rat.mul_pos hpos (show 0<a8 m q-a8 m r by grind);exact⟨by grind,fun h=>absurd h hne,fun _=>⟨fun _=>p1,fun _=>this⟩⟩
    ·have:=Rat.mul_pos hpos (show 0<a8 m r-a8 m q by grind);exact⟨by grind,fun h=>absurd h hne,fun _=>⟨fun h=>by grind,fun h=>by grind⟩⟩
  have hoS:Off L (lrp q r s):=fun m hm=>by
   by_cases hd:jO q r m=true
   ·exact(vals m hm hd).1
   ·exact(rQ hm hq hr hd s0 s1).1
  have ps:=hp s s0 s1 hoS;refine .step (r:=lrp q r s) ⟨hq,hoS,pq,ps,m1,fun m hm hd=>?_⟩ (ih ?_ hoS hr ?_ ?_)
  ·by_cases hd2:jO q r m=true
   ·rcases hsp m hm hd2 with c|c
    ·exact same m hm hd2 c
    ·exact absurd (by unfold sd;rw [decide_eq_decide];exact((vals m hm hd2).2.2 c).symm) hd
   ·exact absurd (by unfold sd;rw [decide_eq_decide];exact(rQ hm hq hr hd2 s0 s1).2.symm) hd
  ·have:=ni (p:=jO (lrp q r s) r) (q:=jO q r) (x0:=m1) (L:=L) (fun m hm hd=>?_) l1 d1 ?_
   ·omega
   ·apply Classical.byContradiction;intro hd2;have k1:=(rQ hm hq hr hd2 s0 s1).2;have k2:=Bh hd2;refine absurd hd ?_;unfold jO sd;rw [bne_iff_ne,ne_eq,Classical.not_not,decide_eq_decide,k1,k2]
   ·have:=(vals m1 l1 d1).2.1 rfl;unfold jO sd;rw [bne_eq_false_iff_eq,decide_eq_decide,this]
  ·intro m hm k hk t h1 h2;rw [AU]at h1 h2;exact hg m hm k hk _ h1 h2
  ·intro t t0 t1 ho;rw [AU]at ho⊢;have e1:=Rat.mul_nonneg t0 (show 0≤1-s by grind);have e2:=Rat.mul_nonneg (show 0≤1-t by grind) (show 0≤1-s by grind);exact hp _ (by grind) (by grind) ho
abbrev Af:=Rat×Rat×Rat
def aEv (f:Af) (q:Pq):Rat:=f.1*q.1+f.2.1*q.2+f.2.2
abbrev Li.af (m:Li):Af:=((m.a:Rat),(m.b:Rat),(m.c:Rat))
theorem pV (m:Li) (q:Pq):aEv m.af q=a8 m q:=rfl
def KK (f:Af):Af:=(-f.1,-f.2.1,-f.2.2)
theorem FK (f:Af) (q:Pq):aEv (KK f) q = -aEv f q:=by unfold aEv KK;grind
theorem FL (f:Af) (q v:Pq) (t:Rat):aEv f (bO q t v)=aEv f q+t*(f.1*v.1+f.2.1*v.2):=by unfold aEv bO;grind
abbrev aIn (fs:List Af) (q:Pq):Prop:=∀f∈fs,0<aEv f q
theorem Jv {fs:List Af}{q:Pq}(h:aIn fs q) (v:Pq):∃e:Rat,0<e∧∀t,0<t→t≤e→aIn fs (bO q t v):=by
 obtain⟨e,e0,he⟩:=fy (fun f:Af=>aEv f q) (fun f=>f.1*v.1+f.2.1*v.2) fs h;exact⟨e,e0,fun t t0 t1 f hf=>by rw [FL];exact he f hf t t0 t1⟩
theorem lj {a b:Rat}(h:a≠0∨b≠0):0<a*a+b*b:=by
 have sq:∀x:Rat,0≤x*x:=fun x=>by
  rcases(by grind:0≤x∨0≤-x)with h|h
  ·exact Rat.mul_nonneg h h
  ·have:=Rat.mul_nonneg h h;grind
 have sp:∀x:Rat,x≠0→0<x*x:=fun x hx=>by
  rcases(by grind:0<x∨0 < -x)with h|h
  ·exact Rat.mul_pos h h
  ·have:=Rat.mul_pos h h;grind
 rcases h with h|h
 ·have:=sp a h;have:=sq b;grind
 ·have:=sp b h;have:=sq a;grind
theorem KJ:∀(gs fs:List Af){q:Pq},(∀g∈gs,g.1≠0∨g.2.1≠0)→aIn fs q→∃r,aIn fs r∧∀g∈gs,aEv g r≠0
 | [],_,q,_,h=>⟨q,h,fun _ hm=>by cases hm⟩
 |g::gs,fs,q,hg,h=>by
  have hg0:=hg g Ms;have hgs:∀x∈gs,x.1≠0∨x.2.1≠0:=fun x hx=>hg x (Mc hx)
  obtain⟨r,r1,r2⟩:∃r,aIn fs r∧aEv g r≠0:=by
   by_cases e:aEv g q=0
   ·obtain⟨t,t0,ht⟩:=Jv h (g.1,g.2.1);refine⟨_,ht t t0 Rat.le_refl,?_⟩;rw [FL,e];have:=Rat.mul_pos t0 (lj hg0);simp only;grind
   ·exact⟨q,h,e⟩
  obtain⟨z,z1,z2⟩:=KJ gs ((if 0<aEv g r then g else KK g)::fs) (q:=r) hgs fun f hf=>by
   rcases List.mem_cons.1 hf with rfl|hf
   ·split
    ·assumption
    ·rw [FK];grind
   ·exact r1 f hf
  refine⟨z,fun f hf=>z1 f (Mc hf),fun x hx=>?_⟩;rcases List.mem_cons.1 hx with rfl|hx
  ·have:=z1 _ Ms;split at this
   ·grind
   ·rw [FK]at this;grind
  ·exact z2 x hx
theorem yV {m k:Li}(hm:m.ok) (hk:k.ok){x y:Rat}(hx:x≠0) (hy:y≠0) (ha:x*k.a=y*m.a) (hb:x*k.b=y*m.b) (hc:x*k.c=y*m.c):k=m∨k=m.neg:=by
 have ng:∀x y:Rat,0<x→0 < -y→x*k.a=y*m.a→x*k.b=y*m.b→x*k.c=y*m.c→k=m.neg:=fun x y hx hy ha hb hc =>
  Li.prop_eqR hk (Li.ok.neg hm) hx hy (by unfold Li.neg;simp only [Rat.intCast_neg];grind) (by unfold Li.neg;simp only [Rat.intCast_neg];grind) (by unfold Li.neg;simp only [Rat.intCast_neg];grind)
 rcases(by grind:0<x∨0 < -x)with h1|h1 <;> rcases(by grind:0<y∨0 < -y)with h2|h2
 ·exact .inl (Li.prop_eqR hk hm h1 h2 ha hb hc)
 ·exact .inr (ng x y h1 h2 ha hb hc)
 ·exact .inr (ng (-x) (-y) h1 (by grind) (by grind) (by grind) (by grind))
 ·exact .inl (Li.prop_eqR hk hm h1 h2 (by grind) (by grind) (by grind))
def aCr (q:Pq) (m k:Li):Af:=(a8 m q*k.a-a8 k q*m.a,a8 m q*k.b-a8 k q*m.b,a8 m q*k.c-a8 k q*m.c)
theorem Lk (q r:Pq) (m k:Li):aEv (aCr q m k) r=a8 m q*a8 k r-a8 k q*a8 m r:=by unfold aEv aCr a8;grind
theorem Ku {L:List Li}(hL:∀l∈L,l.ok){q r:Pq}(hq:Off L q) (H:∀m∈L,∀k∈L,((aCr q m k).1≠0∨(aCr q m k).2.1≠0)→aEv (aCr q m k) r≠0):KO L q r:=by
 intro m hm k hk t h1 h2;by_cases c:(aCr q m k).1≠0∨(aCr q m k).2.1≠0
 ·refine absurd ?_ (H m hm k hk c);rw [Lk];rw [nB]at h1 h2;have:=hq m hm;generalize a8 m q=a at *;generalize a8 k q=b at *;generalize a8 m r=c at *;generalize a8 k r=d at *;by_cases t0:t=0
  ·subst t0;grind
  ·refine(Rat.mul_eq_zero.1 (show t*(a*d-b*c)=0 by grind)).resolve_left t0
 ·have h3:(aCr q m k).1=0:=Classical.byContradiction fun h=>c (.inl h)
  have h4:(aCr q m k).2.1=0:=Classical.byContradiction fun h=>c (.inr h)
  unfold aCr at h3 h4;simp only at h3 h4;refine yV (hL m hm) (hL k hk) (hq m hm) (hq k hk) (by grind) (by grind) ?_;have e:a8 m q*a8 k q=a8 k q*a8 m q:=Rat.mul_comm _ _;conv at e=>lhs;rhs;unfold a8
  conv at e=>rhs;rhs;unfold a8
  grind
theorem G6 {L:List Li}(hL:∀l∈L,l.ok){P:Pq→Prop}{ls:List Li}{q r:Pq}(hq:Off L q) (hr:Off L r) (iq:Inn ls q) (ir:Inn ls r) (hp:∀s,Off L s→Inn ls s→P s):Way L P q r:=by
 obtain⟨z,z1,z2⟩:=KJ ((L.flatMap fun m=>L.map fun k=>aCr q m k).filter fun g=>decide (g.1≠0∨g.2.1≠0)) (ls.map Li.af++L.map fun m=>if 0<a8 m r then m.af else m.neg.af) (q:=r) (fun g hg=>of_decide_eq_true (List.mem_filter.1 hg).2) fun f hf=>by
  rcases List.mem_append.1 hf with hf|hf
  ·obtain⟨l,hl,rfl⟩:=List.mem_map.1 hf;exact ir l hl
  ·obtain⟨m,hm,rfl⟩:=List.mem_map.1 hf;split
   ·rw [pV];assumption
   ·have:=hr m hm;rw [pV,cA];grind
 have hz:Inn ls z:=fun l hl=>z1 _ (List.mem_append_left _ (List.mem_map.2 ⟨l,hl,rfl⟩))
 have hsd:∀m∈L,a8 m z≠0∧(0<a8 m z↔0<a8 m r):=fun m hm=>by
  have:=z1 _ (List.mem_append_right _ (List.mem_map.2 ⟨m,hm,rfl⟩));split at this
  ·rw [pV]at this;grind
  ·rw [pV,cA]at this;grind
 have hzo:Off L z:=fun m hm=>(hsd m hm).1
 have hg:KO L q z:=Ku hL hq fun m hm k hk hc=>z2 _ (List.mem_filter.2 ⟨List.mem_flatMap.2 ⟨m,hm,List.mem_map.2 ⟨k,hk,rfl⟩⟩,decide_eq_true hc⟩)
 refine(Iz _ (Nat.le_refl _) hq hzo hg fun t t0 t1 ho=>hp _ ho (qv ls z q t hz iq t0 t1)).trans (.step ⟨hzo,hr,hp _ hzo hz,hp _ hr ir,⟨0,0,0⟩,fun m hm hd=>?_⟩ (.refl _));refine absurd ?_ hd;unfold sd;rw [decide_eq_decide,(hsd m hm).2]
def up (v:Pq):Prop:=0<v.2∨(v.2=0∧0<v.1)
def ngP (v:Pq):Pq:=(-v.1,-v.2)
abbrev nz (v:Pq):Prop:=v.1≠0∨v.2≠0
def lta (u v:Pq):Prop:=(up u∧¬up v)∨((up u↔up v)∧0<a9 u v)
theorem pJ {v:Pq}(h:nz v):up (ngP v)↔¬up v:=by
 unfold up ngP nz at *;simp only;constructor
 ·rintro (a|⟨a,b⟩) (c|⟨c,d⟩) <;> grind
 ·intro k;by_cases c:v.2=0
  ·refine .inr ⟨by grind,?_⟩;have:¬0<v.1:=fun d=>k (.inr ⟨c,d⟩)
   grind
  ·refine .inl ?_;have:¬0<v.2:=fun d=>k (.inl d)
   grind
theorem AI {v:Pq}(h:nz v):nz (ngP v):=by unfold nz ngP at *;simp only;grind
theorem kw (u v:Pq):a9 (ngP u) v = - a9 u v:=by unfold a9 ngP;grind
theorem kv (u v:Pq):a9 u (ngP v) = - a9 u v:=by unfold a9 ngP;grind
theorem f7 (u v:Pq):a9 u v = - a9 v u:=by unfold a9;grind
theorem fP {a b:Rat}(h:0<a*b) (k:0≤a):0<b:=by
 apply Classical.byContradiction;intro c;have:=Rat.mul_nonneg k (show 0≤-b by grind);grind
theorem vW {a b c:Pq}(ha:up a) (hb:up b) (hc:up c) (h1:0<a9 a b) (h2:0<a9 b c):0<a9 a c:=by
 obtain⟨a1,a2⟩:=a;obtain⟨b1,b2⟩:=b;obtain⟨c1,c2⟩:=c;unfold up at ha hb hc;unfold a9 at *;simp only at *;have a0:0≤a2:=by grind
 have b0:0≤b2:=by grind
 have c0:0≤c2:=by grind
 have id:(a1*c2-a2*c1)*b2=(a1*b2-a2*b1)*c2+(b1*c2-b2*c1)*a2:=by grind
 by_cases hb2:b2=0
 ·-- b on the axis: then a lies Jt
  subst hb2;have hb1:0<b1:=by grind
  have:=Rat.mul_nonneg a0 (show 0≤b1 by grind);grind
 ·have hb3:0<b2:=by grind
  by_cases hc2:c2=0
  ·subst hc2;have hc1:0<c1:=by grind
   have:=Rat.mul_pos hb3 hc1;grind
  ·have:=Rat.mul_pos h1 (show 0<c2 by grind);have:=Rat.mul_nonneg (show 0≤b1*c2-b2*c1 by grind) a0;have h3:0<b2*(a1*c2-a2*c1):=by grind
   exact fP h3 b0
theorem zR {a b c:Pq}(na:nz a) (nb:nz b) (nc:nz c) (ha:¬up a) (hb:¬up b) (hc:¬up c) (h1:0<a9 a b) (h2:0<a9 b c):0<a9 a c:=by
 have:=vW (a:=ngP a) (b:=ngP b) (c:=ngP c) ((pJ na).2 ha) ((pJ nb).2 hb) ((pJ nc).2 hc) (by rw [kw,kv];grind) (by rw [kw,kv];grind);rw [kw,kv]at this;grind
theorem kW (u:Pq):a9 u u=0:=by unfold a9;grind
theorem tP {a b:Pq}(h:lta a b) (k:lta b a):False:=by
 unfold lta at h k;rcases h with⟨h1,h2⟩|⟨h1,h2⟩ <;> rcases k with⟨k1,k2⟩|⟨k1,k2⟩
 ·exact h2 k1
 ·exact h2 (k1.2 h1)
 ·exact k2 (h1.2 k1)
 ·rw [f7]at k2;grind
theorem tO {a b c:Pq}(na:nz a) (nb:nz b) (nc:nz c) (h:lta a b) (k:lta b c):lta a c:=by
 unfold lta at h k⊢;rcases h with⟨h1,h2⟩|⟨h1,h2⟩ <;> rcases k with⟨k1,k2⟩|⟨k1,k2⟩
 ·exact absurd k1 h2
 ·exact .inl ⟨h1,fun e=>h2 (k1.2 e)⟩
 ·exact .inl ⟨h1.2 k1,k2⟩
 ·refine .inr ⟨h1.trans k1,?_⟩;by_cases u:up a
  ·exact vW u (h1.1 u) (k1.1 (h1.1 u)) h2 k2
  ·exact zR na nb nc u (fun e=>u (h1.2 e)) (fun e=>u (h1.2 (k1.2 e))) h2 k2
theorem Kn {e d:Pq}(h:a9 e d≠0):lta e d∨lta d e:=by
 unfold lta;by_cases a:up e <;> by_cases b:up d
 ·rcases(by grind:0<a9 e d∨a9 e d<0)with c|c
  ·exact .inl (.inr ⟨⟨fun _=>b,fun _=>a⟩,c⟩)
  ·exact .inr (.inr ⟨⟨fun _=>a,fun _=>b⟩,by rw [f7];grind⟩)
 ·exact .inl (.inl ⟨a,b⟩)
 ·exact .inr (.inl ⟨b,a⟩)
 ·rcases(by grind:0<a9 e d∨a9 e d<0)with c|c
  ·exact .inl (.inr ⟨⟨fun h=>absurd h a,fun h=>absurd h b⟩,c⟩)
  ·exact .inr (.inr ⟨⟨fun h=>absurd h b,fun h=>absurd h a⟩,by rw [f7];grind⟩)
open Classical in
theorem B5 {v:Pq}(h:nz v):j6 v=if up v then 1 else 2:=by
 unfold j6 up;by_cases c:v.1=0∧v.2=0
 ·rcases h with h|h
  ·exact absurd c.1 h
  ·exact absurd c.2 h
 ·rw [if_neg c];by_cases k:0<v.2∨v.2=0∧0<v.1
  ·rw [if_pos k,if_pos k]
  ·rw [if_neg k,if_neg k]
open Classical in
theorem KH {u v:Pq}(hu:nz u) (hv:nz v):mw u v<0↔lta u v:=by
 unfold mw lta;rw [B5 hu,B5 hv];by_cases a:up u <;> by_cases b:up v
 ·rw [if_pos a,if_pos b,if_neg (by decide)];simp only [a,b,not_true,and_false,false_or,true_and,iff_self];have : -(a9 u v).num.sign<0↔0<(a9 u v).num.sign:=by omega
  rw [this,bp]
 ·rw [if_pos a,if_neg b,if_pos (by decide),if_pos (by decide)];simp [a,b]
 ·rw [if_neg a,if_pos b,if_pos (by decide),if_neg (by decide)];simp [a,b]
 ·rw [if_neg a,if_neg b,if_neg (by decide)];simp only [a,b,false_and,false_or,true_and,iff_self];have : -(a9 u v).num.sign<0↔0<(a9 u v).num.sign:=by omega
  rw [this,bp]
theorem pF (p:Nat→Bool) (n:Nat) (hm:∀i j,i≤j→j<n→p j=true→p i=true):∀(f i j:Nat),i≤j→j≤n→j-i<f→(∀k,k<i→p k=true)→(∀k,j≤k→k<n→p k=false)→eD p f i j≤n∧(∀k,k<eD p f i j→p k=true)∧∀k,eD p f i j≤k→k<n→p k=false
 |0,i,j,_,_,h,_,_=>by omega
 |f+1,i,j,hij,hj,h,h1,h2=>by
  unfold eD;by_cases c:i<j
  ·rw [if_pos c];cases hp:p ((i+j)/2)with
   |true =>
    rw [if_pos rfl];exact pF p n hm f _ _ om hj om (fun k hk=>hm k _ om om hp) h2
   |false =>
    rw [if_neg (by decide)];refine pF p n hm f _ _ om om om h1 fun k hk hkn=>?_
    cases hq:p k with
    |false=>rfl
    |true=>rw [hm _ k hk hkn hq]at hp;cases hp
  ·rw [if_neg c];have:i=j:=by omega
   subst this;exact⟨om,h1,h2⟩
abbrev n7 (s:Fg):Pq:=dirL s.1
def fI (c:PC):Prop:=(c.map n7).Pairwise lta
theorem tD {l:Li}(h:l.ok):nz (dirL l):=by
 unfold nz dirL;simp only;rcases h.2 with r|r
 ·exact .inr fun e=>r (Rat.intCast_eq_zero_iff.1 (by grind))
 ·exact .inl fun e=>r (Rat.intCast_eq_zero_iff.1 e)
theorem te {d:PC}(h:bZ d){l m:Li}(hl:l∈ac d) (hm:m∈ac d) (hne:l≠m):lta (dirL l) (dirL m)∨lta (dirL m) (dirL l):=by
 have hlo:=h.lok l hl;have hmo:=h.lok m hm;by_cases cz:a9 (dirL l) (dirL m)=0
 ·by_cases uu:(up (dirL l)↔up (dirL m))
  ·exfalso;obtain⟨r,r0,r1⟩:=h.edg hl;obtain⟨q,q0,q1⟩:=h.edg hm;have a1:=r1 m hm fun e=>hne e.symm
   have a2:=q1 l hl hne;have n1:=cC hlo;have n2:=cC hmo;have cz2:(l.b:Rat)*m.a=l.a*m.b:=by unfold a9 dirL at cz;simp only at cz;grind
   have dot:0<(l.a:Rat)*m.a+l.b*m.b:=by
    apply Classical.byContradiction;intro c;have hn:=(pJ (tD hlo))
    have key:(l.a:Rat)*m.a+l.b*m.b≠0:=fun z=>by
     have e1:((l.a:Rat)*l.a+l.b*l.b)*m.a=0:=by grind
     have e2:((l.a:Rat)*l.a+l.b*l.b)*m.b=0:=by grind
     have f1:=(Rat.mul_eq_zero.1 e1).resolve_left (by grind);have f2:=(Rat.mul_eq_zero.1 e2).resolve_left (by grind);rw [f1,f2]at n2;grind
    have neg:(l.a:Rat)*m.a+l.b*m.b<0:=by grind
    have e1:((l.a:Rat)*l.a+l.b*l.b)*m.a=((l.a:Rat)*m.a+l.b*m.b)*l.a:=by grind
    have e2:((l.a:Rat)*l.a+l.b*l.b)*m.b=((l.a:Rat)*m.a+l.b*m.b)*l.b:=by grind
    generalize(l.a:Rat)*l.a+l.b*l.b=N at *;generalize(l.a:Rat)*m.a+l.b*m.b=D at *;unfold up dirL at uu;simp only at uu
    have sg:∀x y:Rat,N*y=D*x→(0<x↔y<0)∧(x<0↔0<y)∧(x=0↔y=0):=fun x y e=>by
     have t1:0<x→y<0:=fun hx=>by
      have:=Rat.mul_pos (show 0 < -D by grind) hx;have:=fP (show 0<N*(-y) by grind) (by grind);grind
     have t2:x<0→0<y:=fun hx=>by
      have:=Rat.mul_pos (show 0 < -D by grind) (show 0 < -x by grind);exact fP (show 0<N*y by grind) (by grind)
     have t3:x=0→y=0:=fun hx=>by
      rw [hx]at e;exact(Rat.mul_eq_zero.1 (show N*y=0 by grind)).resolve_left (by grind)
     refine⟨⟨t1,fun hy=>?_⟩,⟨t2,fun hy=>?_⟩,⟨t3,fun hy=>?_⟩⟩
     ·rcases(by grind:0<x∨x<0∨x=0)with c|c|c
      ·exact c
      ·have:=t2 c;grind
      ·have:=t3 c;grind
     ·rcases(by grind:0<x∨x<0∨x=0)with c|c|c
      ·have:=t1 c;grind
      ·exact c
      ·have:=t3 c;grind
     ·rcases(by grind:0<x∨x<0∨x=0)with c|c|c
      ·have:=t1 c;grind
      ·have:=t2 c;grind
      ·exact c
    have sa:=sg _ _ e1;have sb:=sg _ _ e2
    have h0:(l.a:Rat)≠0∨(l.b:Rat)≠0:=by
     rcases hlo.2 with r|r
     ·exact .inl fun e=>r (Rat.intCast_eq_zero_iff.1 e)
     ·exact .inr fun e=>r (Rat.intCast_eq_zero_iff.1 e)
    generalize(l.a:Rat)=x at *;generalize(l.b:Rat)=y at *;generalize(m.a:Rat)=z at *;generalize(m.b:Rat)=w at *;rcases(by grind:x<0∨0<x∨x=0)with c1|c1|c1
    ·have k1:0 < -x∨(-x=0∧0<y) := .inl (by grind);have k2:=uu.1 k1;have:=sa.2.1.1 c1;grind
    ·have:=sa.1.1 c1;have k1:0 < -z∨(-z=0∧0<w) := .inl (by grind);have k2:=uu.2 k1;grind
    ·have z0:=sa.2.2.1 c1;rcases(by grind:y<0∨0<y)with c2|c2
     ·have:=sb.2.1.1 c2;have k1:0 < -z∨(-z=0∧0<w) := .inr ⟨by grind,this⟩;have k2:=uu.2 k1;grind
     ·have:=sb.1.1 c2;have k1:0 < -x∨(-x=0∧0<y) := .inr ⟨by grind,c2⟩;have k2:=uu.1 k1;grind
   have e:∀p,((l.a:Rat)*l.a+l.b*l.b)*(a8 m p-a8 m r)=((l.a:Rat)*m.a+l.b*m.b)*(a8 l p-a8 l r):=fun p=>by
    unfold a8;have e1:((l.a:Rat)*l.a+l.b*l.b)*m.a=((l.a:Rat)*m.a+l.b*m.b)*l.a:=by grind
    have e2:((l.a:Rat)*l.a+l.b*l.b)*m.b=((l.a:Rat)*m.a+l.b*m.b)*l.b:=by grind
    grind
   have ep:=e q;rw [q0,r0]at ep;have p1:=Rat.mul_pos dot a2;have p2:=Rat.mul_pos n1 a1;grind
  ·unfold lta;by_cases c:up (dirL l)
   ·exact .inl (.inl ⟨c,fun k=>uu ⟨fun _=>k,fun _=>c⟩⟩)
   ·refine .inr (.inl ⟨Classical.byContradiction fun k=>uu ⟨fun h=>absurd h c,fun h=>absurd h k⟩,c⟩)
 ·exact Kn cz
theorem G0 {c d:PC}(h:bZ c) (ho:fI c){l:Li}(hl:l.ok) (hd:bs (aP l) c l=(d,true)):fI d:=by
 have hk:=(gP h hl (aP l) hd).1;unfold bs at hd;cases hp:gH c l with
 |none =>
  rw [hp]at hd;simp only [Prod.mk.injEq]at hd;rw [←hd.1];exact ho
 |some v =>
  rw [hp]at hd;simp only [Prod.mk.injEq,and_true]at hd
  have hks:fI (bd c l):=by
   have e:∀c:PC,c.map n7=(ac c).map dirL:=fun c=>by unfold ac;rw [List.map_map];rfl
   unfold fI at ho⊢;rw [e]at ho⊢;exact ho.sublist ((pf c l).map dirL)
  have hmem:∀s∈bd c l,s.1∈ac d∧s∈d:=fun s hs=>by
   have:s∈d:=by rw [←hd];exact(iH _ _ _).mem_iff.2 (Mc hs)
   exact⟨List.mem_map.2 ⟨s,this,rfl⟩,this⟩
  have hlm:l∈ac d:=by rw [←hd];exact List.mem_map.2 ⟨(l,v),(iH _ _ _).mem_iff.2 Ms,rfl⟩
  have hnl:∀s∈bd c l,s.1≠l:=fun s hs e=>by
   have nd:=hk.nd
   have hp:(ac d).Perm (l::ac (bd c l)):=by
    rw [←hd];unfold ac;exact(iH _ _ _).map _
   have:=(hp.nodup_iff.1 nd)
   rw [List.nodup_cons]at this;have m:s.1∈ac (bd c l):=List.mem_map.2 ⟨s,hs,rfl⟩;rw [e]at m;exact this.1 m
  have hdir:∀s∈bd c l,lta (n7 s) (dirL l)∨lta (dirL l) (n7 s):=fun s hs=>te hk (hmem s hs).1 hlm (hnl s hs)
  have hnz:∀s∈bd c l,nz (n7 s):=fun s hs=>tD (hk.ok s (hmem s hs).2)
  have pw:=List.pairwise_iff_getElem.1 hks;generalize hq:(fun k=>decide (mw (dirL (((bd c l).getD k (⟨0,0,0⟩,Spn.none)).1)) (dirL l)<0))=p at *
  have hpk:∀{k:Nat}(hkl:k<(bd c l).length),p k=true↔lta (n7 ((bd c l)[k])) (dirL l):=fun {k} hkl=>by
   rw [←hq];simp only;rw [decide_eq_true_iff,List.getD,List.getElem?_eq_getElem hkl,Option.getD_some,KH (hnz _ (List.getElem_mem hkl)) (tD hl)]
  have hb:=pF p (bd c l).length (fun i j hij hj hpj=>by
   rw [hpk hj]at hpj;rw [hpk om];by_cases e:i=j
   ·subst e;exact hpj
   ·have:=pw i j (by simpa using (by omega:i<(bd c l).length)) (by simpa using hj) om;simp only [List.getElem_map]at this;exact tO (hnz _ (List.getElem_mem _)) (hnz _ (List.getElem_mem _)) (tD hl) this hpj) ((bd c l).length+1) 0 (bd c l).length (Nat.zero_le _) (Nat.le_refl _) om (fun k hk=>by omega) (fun k h1 h2=>by omega)
  have hpos:aP l (bd c l)=eD p ((bd c l).length+1) 0 (bd c l).length:=by unfold aP;rw [hq]
  rw [hpos]at hd;generalize eD p ((bd c l).length+1) 0 (bd c l).length=r at *;obtain⟨b1,b2,b3⟩:=hb;rw [←hd];unfold fI;rw [List.map_append,List.map_cons,List.map_take,List.map_drop]
  have hbef:∀a∈((bd c l).map n7).take r,lta a (dirL l):=fun a ha=>by
   obtain⟨k,hk,rfl⟩:=List.mem_iff_getElem.1 ha;rw [List.length_take,List.length_map]at hk;rw [List.getElem_take,List.getElem_map];exact(hpk om).1 (b2 k om)
  have haft:∀a∈((bd c l).map n7).drop r,lta (dirL l) a:=fun a ha=>by
   obtain⟨k,hk,rfl⟩:=List.mem_iff_getElem.1 ha;rw [List.length_drop,List.length_map]at hk;rw [List.getElem_drop,List.getElem_map];have hr:r+k<(bd c l).length:=by omega
   rcases hdir _ (List.getElem_mem hr)with h|h
   ·have:=b3 (r+k) om hr;rw [(hpk hr).2 h]at this;cases this
   ·exact h
  refine List.pairwise_append.2 ⟨hks.sublist (List.take_sublist _ _),List.pairwise_cons.2 ⟨haft,hks.sublist (List.drop_sublist _ _)⟩,fun a ha b hb=>?_⟩
  have nza:∀a∈(bd c l).map n7,nz a:=fun a ha=>by
   obtain⟨s,hs,rfl⟩:=List.mem_map.1 ha;exact hnz s hs
  rcases List.mem_cons.1 hb with rfl|hb
  ·exact hbef a ha
  ·exact tO (nza a (List.mem_of_mem_take ha)) (tD hl) (nza b (List.mem_of_mem_drop hb)) (hbef a ha) (haft b hb)
end Go.Ab
namespace Go.Ab
open Go.Proofs
variable [Base]
theorem vS (l m:Li):a9 (dirL l) (dirL m)=slp m l:=td m l
theorem B4 {c:PC}(h:bZ c){s:Fg}(hs:s∈c) (hh:s.2.nh=false):(∃m∈ac c,a8 m (atL s.1 s.2.hi)=0∧0<a9 (dirL s.1) (dirL m))∧∀j∈ac c,0≤a8 j (atL s.1 s.2.hi):=by
 obtain⟨sp,t0,ht0⟩:=h.span s hs;have hso:=h.ok s hs
 have t0h:t0<s.2.hi:=by
  rcases ht0.2 with r|r
  ·rw [hh]at r;cases r
  ·exact r
 have f0:=(sp t0).1 ht0
 have nn:∀j∈ac c,j≠s.1→0≤a8 j (atL s.1 s.2.hi):=fun j hj hne=>by
  apply Classical.byContradiction;intro cn;have a0:=f0 j hj hne;rw [aV]at a0 cn
  have fz:∀z,InS s.2 z→0<a8 j (aD s.1)+z*slp s.1 j:=fun z k=>by
   have:=(sp z).1 k j hj hne;rwa [aV]at this
  clear hj hne;generalize a8 j (aD s.1)=A at *;generalize slp s.1 j=B at *
  have hB:B<0:=by
   apply Classical.byContradiction;intro c;have:=Rat.mul_nonneg (show 0≤s.2.hi-t0 by grind) (show 0≤B by grind);grind
  have e : -A/B*B = -A:=Rat.div_mul_cancel (by grind);generalize -A/B=z at e
  have z1:t0<z:=by
   apply Classical.byContradiction;intro c;have:=Rat.mul_nonneg (show 0≤t0-z by grind) (show 0≤-B by grind);grind
  have z2:z<s.2.hi:=by
   apply Classical.byContradiction;intro c;have:=Rat.mul_nonneg (show 0≤z-s.2.hi by grind) (show 0≤-B by grind);grind
  have hin:InS s.2 z:=⟨by
   rcases ht0.1 with r|r
   ·exact .inl r
   ·exact .inr (by grind), .inr z2⟩
  have:=fz z hin;grind
 refine⟨?_,fun j hj=>?_⟩
 ·have hni:¬InS s.2 s.2.hi:=fun k=>by
   rcases k.2 with r|r
   ·rw [hh]at r;cases r
   ·grind
  obtain⟨m,hm,hne,hle⟩:∃m∈ac c,m≠s.1∧¬0<a8 m (atL s.1 s.2.hi):=by
   apply Classical.byContradiction;intro k;refine hni ((sp _).2 fun m hm hne=>?_);apply Classical.byContradiction;intro k2;exact k ⟨m,hm,hne,k2⟩
  have z:=nn m hm hne;have z0:a8 m (atL s.1 s.2.hi)=0:=by grind
  refine⟨m,hm,z0,?_⟩;rw [f7,vS];have a0:=f0 m hm hne;rw [aV]at a0 z0;apply Classical.byContradiction;intro k;have:=Rat.mul_nonneg (show 0≤s.2.hi-t0 by grind) (show 0≤slp s.1 m by grind);grind
 ·by_cases e:j=s.1
  ·rw [e,fk hso];grind
  ·exact nn j hj e
theorem GL {u m j:Li}{P:Pq}(hu:a8 u P=0) (hm:a8 m P=0) (q:Pq):a9 (dirL u) (dirL m)*(a8 j q-a8 j P)=a9 (dirL j) (dirL m)*a8 u q+a9 (dirL u) (dirL j)*a8 m q:=by
 have e1:a8 u q=a8 u q-a8 u P:=by grind
 have e2:a8 m q=a8 m q-a8 m P:=by grind
 rw [e1,e2];unfold a9 dirL a8;simp only;grind
theorem Dw {c:PC}(h:bZ c){u m:Li}(hu:u∈ac c) (hm:m∈ac c){P:Pq}(u0:a8 u P=0) (m0:a8 m P=0) (K:0<a9 (dirL u) (dirL m)) (hP:∀j∈ac c,0≤a8 j P){j:Li}(hj:j∈ac c) (ju:j≠u) (jm:j≠m):0<a8 j P:=by
 apply Classical.byContradiction;intro cn;have j0:a8 j P=0:=by have:=hP j hj;grind
 have um:u≠m:=fun e=>by rw [e,kW]at K;grind
 obtain⟨ru,a0,a1⟩:=h.edg hu;obtain⟨rm,b0,b1⟩:=h.edg hm;obtain⟨rj,c0,c1⟩:=h.edg hj;have t1:=GL (j:=j) u0 m0 ru;have t2:=GL (j:=j) u0 m0 rm;have t3:=GL (j:=j) u0 m0 rj;have p1:=a1 m hm fun e=>um e.symm
 have p2:=a1 j hj ju;have p3:=b1 u hu um;have p4:=b1 j hj jm;have p5:=c1 u hu fun e=>ju e.symm
 have p6:=c1 m hm fun e=>jm e.symm
 rw [j0,a0]at t1;rw [j0,b0]at t2;rw [j0,c0]at t3;generalize a9 (dirL u) (dirL m)=k at *;generalize a9 (dirL j) (dirL m)=x at *;generalize a9 (dirL u) (dirL j)=y at *;have y1:0<y:=fP (a:=a8 m ru) (by have:=Rat.mul_pos K p2;grind) (by grind);have x1:0<x:=fP (a:=a8 u rm) (by have:=Rat.mul_pos K p4;grind) (by grind);have:=Rat.mul_pos x1 p5;have:=Rat.mul_pos y1 p6;grind
theorem BB {c:PC}(h:bZ c){u m:Li}(hu:u∈ac c) (hm:m∈ac c){P:Pq}(u0:a8 u P=0) (m0:a8 m P=0) (K:0<a9 (dirL u) (dirL m)) (hP:∀j∈ac c,0≤a8 j P){e:Li}(he:e∈ac c) (k1:0<a9 (dirL u) (dirL e)) (k2:0<a9 (dirL e) (dirL m)):False:=by
 have eu:e≠u:=fun x=>by rw [x,kW]at k1;grind
 have em:e≠m:=fun x=>by rw [x,kW]at k2;grind
 obtain⟨r,r0,r1⟩:=h.edg he;have t:=GL (j:=e) u0 m0 r;have p1:=r1 u hu fun x=>eu x.symm
 have p2:=r1 m hm fun x=>em x.symm
 have p3:=hP e he;have q1:=Rat.mul_pos k2 p1;have q2:=Rat.mul_pos k1 p2;have q3:=Rat.mul_nonneg (show 0≤a9 (dirL u) (dirL m) by grind) p3;rw [r0]at t;grind
theorem L7 {c:PC}(h:bZ c){s s':Fg}(hs:s∈c) (hs':s'∈c) (hh:s.2.nh=false) (v0:a8 s'.1 (atL s.1 s.2.hi)=0) (K:0<a9 (dirL s.1) (dirL s'.1)):s'.2.nl=false∧atL s'.1 s'.2.lo=atL s.1 s.2.hi:=by
 have hso:=h.ok s hs;have hso':=h.ok s' hs';have ml:s.1∈ac c:=List.mem_map.2 ⟨s,hs,rfl⟩;have ml':s'.1∈ac c:=List.mem_map.2 ⟨s',hs',rfl⟩;obtain⟨_,hP⟩:=B4 h hs hh;have hne:s.1≠s'.1:=fun e=>by rw [e,kW]at K;grind
 obtain⟨sp,_,_⟩:=h.span s' hs';have hat:=kB hso' v0;generalize bo s'.1 (atL s.1 s.2.hi)=t0 at hat;have sl:0<slp s'.1 s.1:=by rw [←vS];exact K
 have fs:∀t,a8 s.1 (atL s'.1 t)=(t-t0)*slp s'.1 s.1:=fun t=>by
  have e0:a8 s.1 (atL s'.1 t0)=0:=by rw [hat];exact fk hso _
  rw [aV]at e0⊢;grind
 have not_in:∀t,t≤t0→¬InS s'.2 t:=fun t ht k=>by
  have:=(sp t).1 k s.1 ml hne;rw [fs]at this;have:=Rat.mul_nonneg (show 0≤t0-t by grind) (show 0≤slp s'.1 s.1 by grind);grind
 obtain⟨e,e0,he⟩:=fy (fun j:Li=>a8 j (atL s'.1 t0)) (fun j=>slp s'.1 j) ((ac c).filter fun j=>decide (kz j s.1≠0∧kz j s'.1≠0)) fun j hj=>by
  obtain⟨j1,j2⟩:=List.mem_filter.1 hj;have j2:=of_decide_eq_true j2;rw [hat];exact Dw h ml ml' (fk hso _) v0 K hP j1 (fun x=>j2.1 (dS.2 x)) (fun x=>j2.2 (dS.2 x))
 have is_in:∀t,t0<t→t≤t0+e→InS s'.2 t:=fun t h1 h2=>(sp t).2 fun j hj jn=>by
  by_cases x:j=s.1
  ·rw [x,fs];exact Rat.mul_pos (by grind) sl
  ·have:=he j (List.mem_filter.2 ⟨hj,decide_eq_true ⟨fun k=>x (dS.1 k),fun k=>jn (dS.1 k)⟩⟩) (t-t0) (by grind) (by grind);rw [aV]at this⊢;grind
 have i1:=is_in (t0+e) (by grind) (by grind)
 have hnl:s'.2.nl=false:=by
  cases hq:s'.2.nl with
  |false=>rfl
  |true =>
   refine absurd ⟨.inl hq,?_⟩ (not_in t0 (by grind));rcases i1.2 with r|r
   ·exact .inl r
   ·exact .inr (by grind)
 refine⟨hnl,?_⟩
 have lo_lt:∀t,t0<t→t≤t0+e→s'.2.lo<t:=fun t h1 h2=>by
  rcases(is_in t h1 h2).1 with r|r
  ·rw [hnl]at r;cases r
  ·exact r
 have lo_eq:s'.2.lo=t0:=by
  rcases(by grind:s'.2.lo<t0∨t0<s'.2.lo∨s'.2.lo=t0)with k|k|k
  ·refine absurd ⟨.inr k,?_⟩ (not_in t0 (by grind));rcases i1.2 with r|r
   ·exact .inl r
   ·exact .inr (by grind)
  ·exfalso;by_cases k2:s'.2.lo≤t0+e
   ·have:=lo_lt s'.2.lo k k2;grind
   ·have:=lo_lt (t0+e) (by grind) (by grind);grind
  ·exact k
 rw [lo_eq];exact hat
theorem GO {D:List Pq}(hs:D.Pairwise lta) (hz:∀e∈D,nz e){i:Nat}{u m:Pq}(hi:D[i]? = some u) (hm:m∈D) (K:0<a9 u m) (hn:∀e∈D,¬(0<a9 u e∧0<a9 e m)):D[(i+1)%D.length]? = some m:=by
 obtain⟨hil,rfl⟩:=List.getElem?_eq_some_iff.1 hi;obtain⟨j,hj,rfl⟩:=List.mem_iff_getElem.1 hm;have pw:=List.pairwise_iff_getElem.1 hs;have z:=fun {k:Nat}(hk:k<D.length)=>hz _ (List.getElem_mem hk)
 have nji:j≠i:=fun e=>by subst e;rw [kW]at K;grind
 have mid:∀{u w m:Pq},nz u→nz w→nz m→0<a9 u m→lta u w→lta w m→0<a9 u w∧0<a9 w m:=fun {u w m} nu nw nm k a b=>by
  have nmu:=AI nu;have nmm:=AI nm;by_cases uu:up u
  ·by_cases um:up m
   ·have uw:up w:=by
     rcases b with⟨x,_⟩|⟨x,_⟩
     ·exact x
     ·exact x.2 um
    constructor
    ·rcases a with⟨_,y⟩|⟨_,y⟩
     ·exact absurd uw y
     ·exact y
    ·rcases b with⟨_,y⟩|⟨_,y⟩
     ·exact absurd um y
     ·exact y
   ·by_cases uw:up w
    ·have c1:0<a9 u w:=by
      rcases a with⟨_,y⟩|⟨_,y⟩
      ·exact absurd uw y
      ·exact y
     have c2:=vW ((pJ nm).2 um) uu uw (by rw [kw,f7];grind) c1;rw [kw,f7]at c2;exact⟨c1,by grind⟩
    ·have c1:0<a9 w m:=by
      rcases b with⟨y,_⟩|⟨_,y⟩
      ·exact absurd y uw
      ·exact y
     have c2:=zR nw nm nmu uw um (fun x=>(pJ nu).1 x uu) c1 (by rw [kv,f7];grind);rw [kv,f7]at c2;exact⟨by grind,c1⟩
  ·have uw:¬up w:=fun x=>by
    rcases a with⟨y,_⟩|⟨y,_⟩
    ·exact uu y
    ·exact uu (y.2 x)
   have um:¬up m:=fun x=>by
    rcases b with⟨y,_⟩|⟨y,_⟩
    ·exact uw y
    ·exact uw (y.2 x)
   constructor
   ·rcases a with⟨y,_⟩|⟨_,y⟩
    ·exact absurd y uu
    ·exact y
   ·rcases b with⟨y,_⟩|⟨_,y⟩
    ·exact absurd y uw
    ·exact y
 have mid2:∀{u w m:Pq},nz u→nz w→nz m→0<a9 u m→lta m u→(lta u w∨lta w m)→0<a9 u w∧0<a9 w m:=fun {u w m} nu nw nm k a b=>by
  have nmu:=AI nu;have nmm:=AI nm
  have um:up m∧¬up u:=by
   rcases a with y|⟨_,y⟩
   ·exact y
   ·rw [f7]at y;grind
  rcases b with b|b
  ·have uw:¬up w:=fun x=>by
    rcases b with⟨y,_⟩|⟨y,_⟩
    ·exact um.2 y
    ·exact um.2 (y.2 x)
   have c1:0<a9 u w:=by
    rcases b with⟨y,_⟩|⟨_,y⟩
    ·exact absurd y um.2
    ·exact y
   have c2:=zR nmm nu nw (fun x=>(pJ nm).1 x um.1) um.2 uw (by rw [kw,f7];grind) c1;rw [kw,f7]at c2;exact⟨c1,by grind⟩
  ·have uw:up w:=by
    rcases b with⟨y,_⟩|⟨y,_⟩
    ·exact y
    ·exact y.2 um.1
   have c1:0<a9 w m:=by
    rcases b with⟨_,y⟩|⟨_,y⟩
    ·exact absurd um.1 y
    ·exact y
   have c2:=vW uw um.1 ((pJ nu).2 um.2) c1 (by rw [kv,f7];grind);rw [kv,f7]at c2;exact⟨by grind,c1⟩
 by_cases hl:i+1<D.length
 ·rw [Nat.mod_eq_of_lt hl,List.getElem?_eq_getElem hl];by_cases e:j=i+1
  ·subst e;rfl
  ·exfalso;have uw:=pw i (i+1) hil hl om;by_cases k:j<i
   ·exact hn _ (List.getElem_mem hl) (mid2 (z hil) (z hl) (z hj) K (pw j i hj hil k) (.inl uw))
   ·exact hn _ (List.getElem_mem hl) (mid (z hil) (z hl) (z hj) K uw (pw (i+1) j hl hj om))
 ·have hpos:0<D.length:=by omega
  rw [show(i+1)%D.length=0 from by rw [show i+1=D.length by omega,Nat.mod_self],List.getElem?_eq_getElem hpos];by_cases e:j=0
  ·subst e;rfl
  ·exfalso;exact hn _ (List.getElem_mem hpos) (mid2 (z hil) (z hpos) (z hj) K (pw j i hj hil om) (.inr (pw 0 j hpos hj om)))
theorem tG {c:PC}(h:bZ c) (ho:fI c){i:Nat}{s:Fg}(hi:c[i]? = some s) (hh:s.2.nh=false):∃s',c[(i+1)%c.length]? = some s'∧a8 s'.1 (atL s.1 s.2.hi)=0∧0<a9 (dirL s.1) (dirL s'.1)∧s'.2.nl=false∧atL s'.1 s'.2.lo=atL s.1 s.2.hi:=by
 have hs:=List.mem_of_getElem? hi;have ml:s.1∈ac c:=List.mem_map.2 ⟨s,hs,rfl⟩;obtain⟨⟨m,hm,m0,K⟩,hP⟩:=B4 h hs hh;obtain⟨s',hs',rfl⟩:=List.mem_map.1 hm
 have hnx:=GO ho (fun e he=>by
  obtain⟨x,hx,rfl⟩:=List.mem_map.1 he;exact tD (h.ok x hx)) (i:=i) (u:=n7 s) (m:=n7 s') (by rw [List.getElem?_map,hi];rfl) (List.mem_map.2 ⟨s',hs',rfl⟩) K (fun e he ⟨k1,k2⟩=>by
  obtain⟨x,hx,rfl⟩:=List.mem_map.1 he;exact BB h ml hm (fk (h.ok s hs) _) m0 K hP (List.mem_map.2 ⟨x,hx,rfl⟩) k1 k2)
 rw [List.length_map,List.getElem?_map]at hnx;obtain⟨x,hx,hxe⟩:=Option.map_eq_some_iff.1 hnx
 have hxs:x=s':=by
  apply Classical.byContradiction;intro k;have hxm:=List.mem_of_getElem? hx
  have hne:x.1≠s'.1:=fun e=>k (by
   have nd:=h.nd;obtain⟨a,ha,ea⟩:=List.mem_iff_getElem.1 hxm;obtain⟨b,hb,eb⟩:=List.mem_iff_getElem.1 hs'
   have:(ac c)[a]'(by unfold ac;simpa using ha)=(ac c)[b]'(by unfold ac;simpa using hb):=by
    unfold ac;rw [List.getElem_map,List.getElem_map,ea,eb,e]
   have:=(List.getElem_inj nd).1 this;subst this;rw [←ea,←eb])
  rcases te h (List.mem_map.2 ⟨x,hxm,rfl⟩) (List.mem_map.2 ⟨s',hs',rfl⟩) hne with q|q
  ·have q2:lta (n7 x) (n7 s'):=q;rw [hxe]at q2;exact tP q2 q2
  ·have q2:lta (n7 s') (n7 x):=q;rw [hxe]at q2;exact tP q2 q2
 subst hxs;obtain⟨n1,n2⟩:=L7 h hs hs' hh m0 K;exact⟨x,hx,m0,K,n1,n2⟩
abbrev rpx (p:Pq):List SV:=[lit (.bool (decide (p.1.num<0))),nat p.1.num.natAbs,dg (gO p.1.den),lit (.bool (decide (p.2.num<0))),nat p.2.num.natAbs,dg (gO p.2.den)]
theorem ct (p:Pq):(rpx p).length=6:=rfl
abbrev rps (l:List Pq):SV:=sl (l.map rpx).flatten l.length
theorem Hk (p q:Pq) (h1:ht p.1≤3000000∧ht p.2≤3000000) (h2:ht q.1≤3000000∧ht q.2≤3000000):Pu Tryz.prog 197 [ag (rpx p),ag (rpx q)] (lit (.int .i64 (rg p q))):=by
 obtain⟨x,y⟩:=p;obtain⟨u,v⟩:=q;have c1:=gT x u h1.1 h2.1;have c2:=gT y v h1.2 h2.2;have e1:=ez (x:=x) (y:=u);unfold rg;simp only;generalize(x-u).num.sign=s at *;generalize(y-v).num.sign=t at *;clear h1 h2;by_cases h:x=u
 ·have hs:=e1.2 h;rw [if_pos h];clear e1 h;subst hs;refine Pi Tryz.func197 fun C=>?_
  exact Y2 c1 c2
 ·have hs:s≠0:=fun e=>h (e1.1 e)
  rw [if_neg h];clear e1 h;refine Pi Tryz.func197 fun C=>?_
  exact Y2 c1 c2
theorem BK (l:List Pq) (hl:l.length≤100000) (hh:∀p∈l,ht p.1≤3000000∧ht p.2≤3000000):Pu Tryz.prog 139 [rps l] (rps (srt l)):=by
 refine Pi Tryz.func139 fun C=>?_
 repeat(refine A1 ⟨?_⟩;intros)
 refine WP.loopS (ι:=Nat) (fun k=>k≤l.length) (fun k=>l.length-k) (fun k=>fm [(3,rps (srt (l.take k))),(7,rps l),(8,lit (.int .i64 l.length)),(9,lit (.int .i64 k))]) (fun _=>[]) 0
  (Nat.zero_le _) (LeF.cons ft lfA) (List.nil_sublist _) ?_
 rintro k hk K hK;by_cases hkl:k<l.length
 ·have hget:=List.getElem?_eq_getElem hkl;generalize l[k]=p at hget;have hp:=hh p (List.mem_of_getElem? hget);have hat:=dJ (f:=rpx) (n:=6) ct hget;have hne:(l.map rpx).flatten≠[]:=eI ct om (fun e=>by rw [e]at hkl;simp at hkl);have hgo:=fun F' H' h1 h2=>hK F' H' (k+1) om om h1 h2
  rw [DK hget]at hgo;have hsm:∀q∈srt (l.take k),ht q.1≤3000000∧ht q.2≤3000000:=fun q hq=>hh q (List.mem_of_mem_take ((Aa _ q).1 hq))
  have hsl:=Ac (l.take k);rw [List.length_take]at hsl;generalize srt (l.take k)=out at hgo hsm hsl⊢;clear hK hh;repeat(refine A1 ⟨?_⟩;intros)
  refine Wo (aa (cs':=rpx p) rfl rfl om om hat hne) ?_;repeat(refine A1 ⟨?_⟩;intros)
  rename_i b5
  refine WP.loopS (ι:=Nat) (fun j=>j≤pat out p) (fun j=>out.length-j) (fun j=>fm [(3,rps out),(5,lit (.pointer (some ⟨b5,0,none⟩))),(6,lit (.int .i64 j)),(7,rps l),(8,lit (.int .i64 l.length)),(9,lit (.int .i64 k))])
   (fun _=>[(b5,70,rpx p)]) 0 (Nat.zero_le _) lfA Sr ?_
  rintro j hj K2 hK2;have hpl:=JS out p;have hfl:=cJ ct out;have hins:=pj ct out p j;have hdl:(((out.map rpx).flatten).drop (j*6)).length=(out.length-j)*6:=by rw [List.length_drop,hfl,Nat.sub_mul]
  have hln:j+(1+(out.length-j))=(out.take j++p::out.drop j).length:=by rw [List.length_append,List.length_cons,List.length_take,List.length_drop];omega
  have htl:(((out.map rpx).flatten).take (j*6)).length=j*6:=by rw [List.length_take,hfl];omega
  have hpl2:(rpx p++((out.map rpx).flatten).drop (j*6)).length=(1+(out.length-j))*6:=by rw [List.length_append,hdl,ct];omega
  by_cases hjl:j<out.length
  ·have hgo2:=out[j]?;have hget2:=List.getElem?_eq_getElem hjl;generalize out[j]=o at hget2;have ho:=hsm o (List.mem_of_getElem? hget2);have hat2:=dJ (f:=rpx) (n:=6) ct hget2;have hne2:(out.map rpx).flatten≠[]:=eI ct om (fun e=>by rw [e]at hjl;simp at hjl);have c:=Hk o p ho hp;obtain⟨s1,s2⟩:=En hj hget2;cases hlt:plt o p with
   |true =>
    have hneg:rg o p<0:=by unfold plt at hlt;exact of_decide_eq_true hlt
    have hj1:=s1 hlt;generalize rg o p=s at c hneg;clear hgo s1 s2;repeat(refine A1 ⟨?_⟩;intros)
    refine cT (aa (cs':=rpx o) rfl rfl om om hat2 hne2) ?_;repeat(first|(refine A1 ⟨?_⟩;intros)|refine W4 c ⟨?_⟩)
    exact hK2 _ _ (j+1) hj1 om lfA Sr
   |false =>
    have hneg:¬rg o p<0:=by unfold plt at hlt;exact of_decide_eq_false hlt
    have hje:=s2 hlt;clear hK2 s1 s2;by_cases hz:o=p
    ·have h0:=tx.2 hz;have hpi:mo out p=out:=by unfold mo;rw [if_pos (by rw [←hje,hget2,hz])]
     rw [hpi]at hgo;rw [h0]at c;clear hneg hlt;repeat(refine A1 ⟨?_⟩;intros)
     refine cT (aa (cs':=rpx o) rfl rfl om om hat2 hne2) ?_;repeat(first|(refine A1 ⟨?_⟩;intros)|refine W4 c ⟨?_⟩)
     refine cT (aa (cs':=rpx o) rfl rfl om om hat2 hne2) ?_;repeat(first|(refine A1 ⟨?_⟩;intros)|refine W4 c ⟨?_⟩)
     exact hgo _ _ lfA (List.nil_sublist _)
    ·have h0:¬rg o p=0:=fun e=>hz (tx.1 e)
     have hpi:mo out p=out.take j++p::out.drop j:=by unfold mo;rw [←hje,if_neg (by rw [hget2];exact fun e=>hz (Option.some.inj e))]
     rw [hpi]at hgo;have hpos:0<rg o p:=by omega
     generalize rg o p=s at c hpos;clear hneg hlt h0;repeat(refine A1 ⟨?_⟩;intros)
     refine cT (aa (cs':=rpx o) rfl rfl om om hat2 hne2) ?_;repeat(first|(refine A1 ⟨?_⟩;intros)|refine W4 c ⟨?_⟩)
     refine cT (aa (cs':=rpx o) rfl rfl om om hat2 hne2) ?_;repeat(first|(refine A1 ⟨?_⟩;intros)|refine W4 c ⟨?_⟩)
     refine Wdo (gB j rfl rfl rfl rfl rfl hfl om) ?_;repeat(first|(refine Wdo (iB (s:=ag (rpx p)) (ds:=rpx p) rfl inferInstance) ?_)|(refine Wdo (gA j rfl rfl rfl hfl om) ?_)|(refine A1 ⟨?_⟩;intros))
     refine Wdo (aG (k:=1) (k0:=out.length-j) rfl rfl rfl hdl om) ?_;refine Wdo (aG (k:=j) (k0:=1+(out.length-j)) rfl rfl htl hpl2 om) ?_;rw [hins,hln];repeat(refine A1 ⟨?_⟩;intros)
     exact hgo _ _ lfA (List.nil_sublist _)
  ·have hje:j=pat out p:=by omega
   have hpi:mo out p=out.take j++p::out.drop j:=by unfold mo;rw [←hje,if_neg (by rw [List.getElem?_eq_none om];intro e;cases e)]
   rw [hpi]at hgo;clear hK2;repeat(refine A1 ⟨?_⟩;intros)
   refine Wdo (gB j rfl rfl rfl rfl rfl hfl om) ?_;repeat(first|(refine Wdo (iB (s:=ag (rpx p)) (ds:=rpx p) rfl inferInstance) ?_)|(refine Wdo (gA j rfl rfl rfl hfl om) ?_)|(refine A1 ⟨?_⟩;intros))
   refine Wdo (aG (k:=1) (k0:=out.length-j) rfl rfl rfl hdl om) ?_;refine Wdo (aG (k:=j) (k0:=1+(out.length-j)) rfl rfl htl hpl2 om) ?_;rw [hins,hln];repeat(refine A1 ⟨?_⟩;intros)
   exact hgo _ _ lfA (List.nil_sublist _)
 ·have hke:k=l.length:=by omega
  subst hke;rw [List.take_length];repeat(refine A1 ⟨?_⟩;intros)
  exact aS (aJ (RV.tmp rfl) Lr)
end Go.Ab
