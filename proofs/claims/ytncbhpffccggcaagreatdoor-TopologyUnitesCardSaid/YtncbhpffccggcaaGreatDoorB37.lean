/- Texts laid one behind the other: TrA, TrB. -/
import Derived.Test.YtncbhpffccggcaaGreatDoorB36
set_option linter.all false
namespace Go.Ab
open Go.Proofs
variable [Base]
def sd (m:Li) (q:Pq):Bool:=decide (0<a6 m q)
structure FY (L:List Li) (P:Pq→Prop) (q r:Pq):Prop where
 oq:Off L q
 or:Off L r
 pq:P q
 pr:P r
 one:∃l:Li,∀m∈L,sd m q≠sd m r→m=l∨m=l.neg
theorem FY.symm {L:List Li}{P:Pq→Prop}{q r:Pq}(h:FY L P q r):FY L P r q:=by
 obtain⟨l,hl⟩:=h.one;exact⟨h.or,h.oq,h.pr,h.pq,l,fun m hm e=>hl m hm e.symm⟩
inductive Way (L:List Li) (P:Pq→Prop):Pq→Pq→Prop
 |refl (q:Pq):Way L P q q
 |step {q r s:Pq}(h:FY L P q r) (w:Way L P r s):Way L P q s
theorem Way.trans {L:List Li}{P:Pq→Prop}{q r s:Pq}(h:Way L P q r) (k:Way L P r s):Way L P q s:=by
 induction h with
 |refl=>exact k
 |step h _ ih=>exact .step h (ih k)
theorem Way.symm {L:List Li}{P:Pq→Prop}{q r:Pq}(h:Way L P q r):Way L P r q:=by
 induction h with
 |refl=>exact .refl _
 |step h _ ih=>exact ih.trans (.step h.symm (.refl _))
abbrev lrp (q r:Pq) (t:Rat):Pq:=(q.1+t*(r.1-q.1),q.2+t*(r.2-q.2))
theorem mK (m:Li) (q r:Pq) (t:Rat):a6 m (lrp q r t)=a6 m q+t*(a6 m r-a6 m q):=gV m r q t
theorem AE (q r:Pq) (s t:Rat):lrp (lrp q r s) r t=lrp q r (s+t*(1-s)):=by
 unfold lrp;ext <;> simp only <;> grind
def JJ (L:List Li) (q r:Pq):Prop:=∀m∈L,∀k∈L,∀t,a6 m (lrp q r t)=0→a6 k (lrp q r t)=0→k=m∨k=m.neg
abbrev jG (q r:Pq) (m:Li):Bool:=sd m q != sd m r
noncomputable abbrev eC (q r:Pq) (m:Li):Rat:=a6 m q/(a6 m q-a6 m r)
theorem B2 {L:List Li}{q r:Pq}{m:Li}(hm:m∈L) (hq:Off L q) (hr:Off L r) (h:jG q r m=true):(0<a6 m q∧a6 m r<0)∨(a6 m q<0∧0<a6 m r):=by
 have h1:=hq m hm;have h2:=hr m hm;unfold jG sd at h;rw [bne_iff_ne,ne_eq,decide_eq_decide]at h;by_cases c:0<a6 m q
 ·exact .inl ⟨c,by
   have:¬0<a6 m r:=fun d=>h ⟨fun _=>d,fun _=>c⟩
   grind⟩
 ·refine .inr ⟨by grind,?_⟩;apply Classical.byContradiction;intro d;exact h ⟨fun e=>absurd e c,fun e=>absurd e d⟩
theorem B3 {q r:Pq}{m:Li}(h:¬jG q r m=true):(0<a6 m q↔0<a6 m r):=by
 unfold jG sd at h;rw [bne_iff_ne,ne_eq,Classical.not_not,decide_eq_decide]at h;exact h
theorem mQ {L:List Li}{q r:Pq}{m:Li}(hm:m∈L) (hq:Off L q) (hr:Off L r) (h:jG q r m=true) (t:Rat):a6 m (lrp q r t)=(eC q r m-t)*(a6 m q-a6 m r)∧0<eC q r m∧eC q r m<1:=by
 have hd:=B2 hm hq hr h;have e:eC q r m*(a6 m q-a6 m r)=a6 m q:=Rat.div_mul_cancel (by grind);generalize eC q r m=x at *;rw [mK];refine⟨by grind,?_,?_⟩
 ·rcases hd with⟨h1,h2⟩|⟨h1,h2⟩
  ·apply Classical.byContradiction;intro c;have:=Rat.mul_le_mul_of_nonneg_right (show x≤0 by grind) (show 0≤a6 m q-a6 m r by grind);grind
  ·apply Classical.byContradiction;intro c;have:=Rat.mul_le_mul_of_nonneg_right (show x≤0 by grind) (show 0≤a6 m r-a6 m q by grind);grind
 ·rcases hd with⟨h1,h2⟩|⟨h1,h2⟩
  ·apply Classical.byContradiction;intro c;have:=Rat.mul_le_mul_of_nonneg_right (show 1≤x by grind) (show 0≤a6 m q-a6 m r by grind);grind
  ·apply Classical.byContradiction;intro c;have:=Rat.mul_le_mul_of_nonneg_right (show 1≤x by grind) (show 0≤a6 m r-a6 m q by grind);grind
theorem AC {x y s:Rat}(h0:0≤s) (h1:s≤1):(0<x→0<y→0<x+s*(y-x))∧(x<0→y<0→x+s*(y-x)<0):=by
 have key:∀x y:Rat,0<x→0<y→0<x+s*(y-x):=fun x y hx hy=>by
  by_cases c:s=0
  ·subst c;grind
  ·have:=Rat.mul_pos (show 0<s by grind) hy;have:=Rat.mul_nonneg (show 0≤1-s by grind) (show 0≤x by grind);grind
 refine⟨key x y,fun hx hy=>?_⟩;have:=key (-x) (-y) (by grind) (by grind);grind
theorem rJ {L:List Li}{q r:Pq}{m:Li}(hm:m∈L) (hq:Off L q) (hr:Off L r) (h:¬jG q r m=true){s:Rat}(h0:0≤s) (h1:s≤1):a6 m (lrp q r s)≠0∧(0<a6 m (lrp q r s)↔0<a6 m q):=by
 have hd:=B3 h;have k1:=hq m hm;have k2:=hr m hm;obtain⟨p1,p2⟩:=AC (x:=a6 m q) (y:=a6 m r) h0 h1;rw [mK];by_cases c:0<a6 m q
 ·have:=p1 c (hd.1 c);grind
 ·have:=p2 (by grind) (by grind);grind
theorem nF (q r:Pq):lrp q r 0=q:=by unfold lrp;ext <;> simp only <;> grind
theorem pX (q r:Pq):lrp q r 1=r:=by unfold lrp;ext <;> simp only <;> grind
theorem HY {L:List Li}{P:Pq→Prop}:∀(n:Nat){q r:Pq},L.countP (jG q r)≤n→Off L q→Off L r→JJ L q r→(∀t,0≤t→t≤1→Off L (lrp q r t)→P (lrp q r t))→Way L P q r:=by
 intro n;induction n with
 |zero =>
  intro q r hn hq hr hg hp;have pq:P q:=by have:=hp 0 Rat.le_refl (by decide +kernel) (by rw [nF];exact hq);rwa [nF]at this
  have pr:P r:=by have:=hp 1 (by decide +kernel) Rat.le_refl (by rw [pX];exact hr);rwa [pX]at this
  refine .step ⟨hq,hr,pq,pr,⟨0,0,0⟩,fun m hm hd=>?_⟩ (.refl _);have:=List.countP_eq_zero.1 (Nat.le_zero.1 hn) m hm;exact absurd (bne_iff_ne.2 hd) this
 |succ n ih =>
  intro q r hn hq hr hg hp;have pq:P q:=by have:=hp 0 Rat.le_refl (by decide +kernel) (by rw [nF];exact hq);rwa [nF]at this
  have pr:P r:=by have:=hp 1 (by decide +kernel) Rat.le_refl (by rw [pX];exact hr);rwa [pX]at this
  by_cases hS:L.filter (jG q r)=[]
  ·refine .step ⟨hq,hr,pq,pr,⟨0,0,0⟩,fun m hm hd=>?_⟩ (.refl _);have:m∈L.filter (jG q r):=List.mem_filter.2 ⟨hm,bne_iff_ne.2 hd⟩;rw [hS]at this;cases this
  obtain⟨m1,hm1,min1⟩:=sr (eC q r) _ hS;obtain⟨l1,d1⟩:=List.mem_filter.1 hm1
  have same:∀m∈L,jG q r m=true→eC q r m=eC q r m1→m=m1∨m=m1.neg:=fun m hm hd he =>
   hg m1 l1 m hm (eC q r m1) (by rw [(mQ l1 hq hr d1 _).1];grind) (by rw [(mQ hm hq hr hd _).1];grind)
  by_cases hS2:(L.filter (jG q r)).filter (fun m=>decide (eC q r m≠eC q r m1))=[]
  ·refine .step ⟨hq,hr,pq,pr,m1,fun m hm hd=>?_⟩ (.refl _);have hd:=bne_iff_ne.2 hd;refine same m hm hd (Classical.byContradiction fun c=>?_);have:m∈(L.filter (jG q r)).filter (fun m=>decide (eC q r m≠eC q r m1)):=List.mem_filter.2 ⟨List.mem_filter.2 ⟨hm,hd⟩,decide_eq_true c⟩;rw [hS2]at this;cases this
  obtain⟨m2,hm2,min2⟩:=sr (eC q r) _ hS2;obtain⟨hm2',ne2⟩:=List.mem_filter.1 hm2;obtain⟨l2,d2⟩:=List.mem_filter.1 hm2';have ne2:=of_decide_eq_true ne2;have lt12:eC q r m1<eC q r m2:=by have:=min1 m2 hm2';grind
  have b1:=(mQ l1 hq hr d1 0).2;have b2:=(mQ l2 hq hr d2 0).2
  have hsp:∀m∈L,jG q r m=true→(eC q r m=eC q r m1)∨eC q r m2≤eC q r m:=fun m hm hd=>by
   by_cases c:eC q r m=eC q r m1
   ·exact .inl c
   ·exact .inr (min2 m (List.mem_filter.2 ⟨List.mem_filter.2 ⟨hm,hd⟩,decide_eq_true c⟩))
  obtain⟨s,hs1,hs2⟩:∃s,eC q r m1<s∧s<eC q r m2:=⟨(eC q r m1+eC q r m2)/2,by grind,by grind⟩
  have s0:0≤s:=by grind
  have s1:s≤1:=by grind
  have vals:∀m∈L,jG q r m=true→a6 m (lrp q r s)≠0∧(eC q r m=eC q r m1→(0<a6 m (lrp q r s)↔0<a6 m r))∧(eC q r m2≤eC q r m→(0<a6 m (lrp q r s)↔0<a6 m q)):=fun m hm hd=>by
   obtain⟨e,_,_⟩:=mQ hm hq hr hd s;have dv:=B2 hm hq hr hd;rw [e];rcases hsp m hm hd with c|c
   ·have hneg:eC q r m-s<0:=by grind
    generalize eC q r m-s=u at *;rcases dv with⟨p1,p2⟩|⟨p1,p2⟩
    ·have:=Rat.mul_pos (show 0 < -u by grind) (show 0<a6 m q-a6 m r by grind);refine⟨by grind,fun _=>⟨fun h=>?_,fun h=>?_⟩,fun h=>?_⟩
     ·grind
     ·grind
     ·grind
    ·have:=Rat.mul_pos (show 0 < -u by grind) (show 0<a6 m r-a6 m q by grind);refine⟨by grind,fun _=>⟨fun h=>?_,fun h=>?_⟩,fun h=>?_⟩
     ·grind
     ·grind
     ·grind
   ·have hpos:0<eC q r m-s:=by grind
    have hne:eC q r m≠eC q r m1:=by grind
    generalize eC q r m-s=u at *;rcases dv with⟨p1,p2⟩|⟨p1,p2⟩
    ·have:=Rat.mul_pos hpos (show 0<a6 m q-a6 m r by grind);exact⟨by grind,fun h=>absurd h hne,fun _=>⟨fun _=>p1,fun _=>this⟩⟩
    ·have:=Rat.mul_pos hpos (show 0<a6 m r-a6 m q by grind);exact⟨by grind,fun h=>absurd h hne,fun _=>⟨fun h=>by grind,fun h=>by grind⟩⟩
  have hoS:Off L (lrp q r s):=fun m hm=>by
   by_cases hd:jG q r m=true
   ·exact(vals m hm hd).1
   ·exact(rJ hm hq hr hd s0 s1).1
  have ps:=hp s s0 s1 hoS;refine .step (r:=lrp q r s) ⟨hq,hoS,pq,ps,m1,fun m hm hd=>?_⟩ (ih ?_ hoS hr ?_ ?_)
  ·by_cases hd2:jG q r m=true
   ·rcases hsp m hm hd2 with c|c
    ·exact same m hm hd2 c
    ·exact absurd (by unfold sd;rw [decide_eq_decide];exact((vals m hm hd2).2.2 c).symm) hd
   ·exact absurd (by unfold sd;rw [decide_eq_decide];exact(rJ hm hq hr hd2 s0 s1).2.symm) hd
  ·have:=mw (p:=jG (lrp q r s) r) (q:=jG q r) (x0:=m1) (L:=L) (fun m hm hd=>?_) l1 d1 ?_
   ·omega
   ·apply Classical.byContradiction;intro hd2;have k1:=(rJ hm hq hr hd2 s0 s1).2;have k2:=B3 hd2;refine absurd hd ?_;unfold jG sd;rw [bne_iff_ne,ne_eq,Classical.not_not,decide_eq_decide,k1,k2]
   ·have:=(vals m1 l1 d1).2.1 rfl;unfold jG sd;rw [bne_eq_false_iff_eq,decide_eq_decide,this]
  ·intro m hm k hk t h1 h2;rw [AE]at h1 h2;exact hg m hm k hk _ h1 h2
  ·intro t t0 t1 ho;rw [AE]at ho⊢;have e1:=Rat.mul_nonneg t0 (show 0≤1-s by grind);have e2:=Rat.mul_nonneg (show 0≤1-t by grind) (show 0≤1-s by grind);exact hp _ (by grind) (by grind) ho
abbrev Af:=Rat×Rat×Rat
def aEv (f:Af) (q:Pq):Rat:=f.1*q.1+f.2.1*q.2+f.2.2
abbrev Li.af (m:Li):Af:=((m.a:Rat),(m.b:Rat),(m.c:Rat))
theorem pw (m:Li) (q:Pq):aEv m.af q=a6 m q:=rfl
def JF (f:Af):Af:=(-f.1,-f.2.1,-f.2.2)
theorem Fj (f:Af) (q:Pq):aEv (JF f) q = -aEv f q:=by unfold aEv JF;grind
theorem Fl (f:Af) (q v:Pq) (t:Rat):aEv f (cn q t v)=aEv f q+t*(f.1*v.1+f.2.1*v.2):=by unfold aEv cn;grind
abbrev aIn (fs:List Af) (q:Pq):Prop:=∀f∈fs,0<aEv f q
theorem FU {fs:List Af}{q:Pq}(h:aIn fs q) (v:Pq):∃e:Rat,0<e∧∀t,0<t→t≤e→aIn fs (cn q t v):=by
 obtain⟨e,e0,he⟩:=fo (fun f:Af=>aEv f q) (fun f=>f.1*v.1+f.2.1*v.2) fs h;exact⟨e,e0,fun t t0 t1 f hf=>by rw [Fl];exact he f hf t t0 t1⟩
theorem Gh {a b:Rat}(h:a≠0∨b≠0):0<a*a+b*b:=by
 have sq:∀x:Rat,0≤x*x:=fun x=>by
  rcases(by grind:0≤x∨0≤-x)with h|h
  ·exact Rat.mul_nonneg h h
  ·have:=Rat.mul_nonneg h h;grind
 have sp:∀x:Rat,x≠0→0<x*x:=fun x hx=>by
  rcases(by grind:0<x∨0 < -x)with h|h
  ·exact Rat.mul_pos h h
  ·have:=Rat.mul_pos h h;grind
 rcases h with h|h
 ·have:=sp a h;have:=sq b;grind
 ·have:=sp b h;have:=sq a;grind
theorem JE:∀(gs fs:List Af){q:Pq},(∀g∈gs,g.1≠0∨g.2.1≠0)→aIn fs q→∃r,aIn fs r∧∀g∈gs,aEv g r≠0
 | [],_,q,_,h=>⟨q,h,fun _ hm=>by cases hm⟩
 |g::gs,fs,q,hg,h=>by
  have hg0:=hg g Ms;have hgs:∀x∈gs,x.1≠0∨x.2.1≠0:=fun x hx=>hg x (Mc hx)
  obtain⟨r,r1,r2⟩:∃r,aIn fs r∧aEv g r≠0:=by
   by_cases e:aEv g q=0
   ·obtain⟨t,t0,ht⟩:=FU h (g.1,g.2.1);refine⟨_,ht t t0 Rat.le_refl,?_⟩;rw [Fl,e];have:=Rat.mul_pos t0 (Gh hg0);simp only;grind
   ·exact⟨q,h,e⟩
  obtain⟨z,z1,z2⟩:=JE gs ((if 0<aEv g r then g else JF g)::fs) (q:=r) hgs fun f hf=>by
   rcases List.mem_cons.1 hf with rfl|hf
   ·split
    ·assumption
    ·rw [Fj];grind
   ·exact r1 f hf
  refine⟨z,fun f hf=>z1 f (Mc hf),fun x hx=>?_⟩;rcases List.mem_cons.1 hx with rfl|hx
  ·have:=z1 _ Ms;split at this
   ·grind
   ·rw [Fj]at this;grind
  ·exact z2 x hx
theorem rd {m k:Li}(hm:m.ok) (hk:k.ok){x y:Rat}(hx:x≠0) (hy:y≠0) (ha:x*k.a=y*m.a) (hb:x*k.b=y*m.b) (hc:x*k.c=y*m.c):k=m∨k=m.neg:=by
 have ng:∀x y:Rat,0<x→0 < -y→x*k.a=y*m.a→x*k.b=y*m.b→x*k.c=y*m.c→k=m.neg:=fun x y hx hy ha hb hc =>
  Li.prop_eqR hk (Li.ok.neg hm) hx hy (by unfold Li.neg;simp only [Rat.intCast_neg];grind) (by unfold Li.neg;simp only [Rat.intCast_neg];grind) (by unfold Li.neg;simp only [Rat.intCast_neg];grind)
 rcases(by grind:0<x∨0 < -x)with h1|h1 <;> rcases(by grind:0<y∨0 < -y)with h2|h2
 ·exact .inl (Li.prop_eqR hk hm h1 h2 ha hb hc)
 ·exact .inr (ng x y h1 h2 ha hb hc)
 ·exact .inr (ng (-x) (-y) h1 (by grind) (by grind) (by grind) (by grind))
 ·exact .inl (Li.prop_eqR hk hm h1 h2 (by grind) (by grind) (by grind))
def aCr (q:Pq) (m k:Li):Af:=(a6 m q*k.a-a6 k q*m.a,a6 m q*k.b-a6 k q*m.b,a6 m q*k.c-a6 k q*m.c)
theorem Kh (q r:Pq) (m k:Li):aEv (aCr q m k) r=a6 m q*a6 k r-a6 k q*a6 m r:=by unfold aEv aCr a6;grind
theorem Jv {L:List Li}(hL:∀l∈L,l.ok){q r:Pq}(hq:Off L q) (H:∀m∈L,∀k∈L,((aCr q m k).1≠0∨(aCr q m k).2.1≠0)→aEv (aCr q m k) r≠0):JJ L q r:=by
 intro m hm k hk t h1 h2;by_cases c:(aCr q m k).1≠0∨(aCr q m k).2.1≠0
 ·refine absurd ?_ (H m hm k hk c);rw [Kh];rw [mK]at h1 h2;have:=hq m hm;generalize a6 m q=a at *;generalize a6 k q=b at *;generalize a6 m r=c at *;generalize a6 k r=d at *;by_cases t0:t=0
  ·subst t0;grind
  ·refine(Rat.mul_eq_zero.1 (show t*(a*d-b*c)=0 by grind)).resolve_left t0
 ·have h3:(aCr q m k).1=0:=Classical.byContradiction fun h=>c (.inl h)
  have h4:(aCr q m k).2.1=0:=Classical.byContradiction fun h=>c (.inr h)
  unfold aCr at h3 h4;simp only at h3 h4;refine rd (hL m hm) (hL k hk) (hq m hm) (hq k hk) (by grind) (by grind) ?_;have e:a6 m q*a6 k q=a6 k q*a6 m q:=Rat.mul_comm _ _;conv at e=>lhs;rhs;unfold a6
  conv at e=>rhs;rhs;unfold a6
  grind
theorem FG {L:List Li}(hL:∀l∈L,l.ok){P:Pq→Prop}{ls:List Li}{q r:Pq}(hq:Off L q) (hr:Off L r) (iq:Inn ls q) (ir:Inn ls r) (hp:∀s,Off L s→Inn ls s→P s):Way L P q r:=by
 obtain⟨z,z1,z2⟩:=JE ((L.flatMap fun m=>L.map fun k=>aCr q m k).filter fun g=>decide (g.1≠0∨g.2.1≠0)) (ls.map Li.af++L.map fun m=>if 0<a6 m r then m.af else m.neg.af) (q:=r) (fun g hg=>of_decide_eq_true (List.mem_filter.1 hg).2) fun f hf=>by
  rcases List.mem_append.1 hf with hf|hf
  ·obtain⟨l,hl,rfl⟩:=List.mem_map.1 hf;exact ir l hl
  ·obtain⟨m,hm,rfl⟩:=List.mem_map.1 hf;split
   ·rw [pw];assumption
   ·have:=hr m hm;rw [pw,bF];grind
 have hz:Inn ls z:=fun l hl=>z1 _ (List.mem_append_left _ (List.mem_map.2 ⟨l,hl,rfl⟩))
 have hsd:∀m∈L,a6 m z≠0∧(0<a6 m z↔0<a6 m r):=fun m hm=>by
  have:=z1 _ (List.mem_append_right _ (List.mem_map.2 ⟨m,hm,rfl⟩));split at this
  ·rw [pw]at this;grind
  ·rw [pw,bF]at this;grind
 have hzo:Off L z:=fun m hm=>(hsd m hm).1
 have hg:JJ L q z:=Jv hL hq fun m hm k hk hc=>z2 _ (List.mem_filter.2 ⟨List.mem_flatMap.2 ⟨m,hm,List.mem_map.2 ⟨k,hk,rfl⟩⟩,decide_eq_true hc⟩)
 refine(HY _ (Nat.le_refl _) hq hzo hg fun t t0 t1 ho=>hp _ ho (ql ls z q t hz iq t0 t1)).trans (.step ⟨hzo,hr,hp _ hzo hz,hp _ hr ir,⟨0,0,0⟩,fun m hm hd=>?_⟩ (.refl _));refine absurd ?_ hd;unfold sd;rw [decide_eq_decide,(hsd m hm).2]
theorem E5 {l m:Li}(hl:l.ok) (hm:m.ok) (hs:slp l m=0){p:Pq}(h1:a6 l p=0) (h2:a6 m p=0):m=l∨m=l.neg:=by
 have hn:=dk hl
 have hy:(m.a:Rat)*l.a+m.b*l.b≠0:=fun e=>by
  unfold slp at hs;have e1:((l.a:Rat)*l.a+l.b*l.b)*m.a=0:=by grind
  have e2:((l.a:Rat)*l.a+l.b*l.b)*m.b=0:=by grind
  have n0:(l.a:Rat)*l.a+l.b*l.b≠0:=by grind
  have f1:=(Rat.mul_eq_zero.1 e1).resolve_left n0;have f2:=(Rat.mul_eq_zero.1 e2).resolve_left n0;rcases hm.2 with r|r
  ·exact r (Rat.intCast_eq_zero_iff.1 f1)
  ·exact r (Rat.intCast_eq_zero_iff.1 f2)
 unfold slp at hs;refine rd hl hm (x:=(l.a:Rat)*l.a+l.b*l.b) (by grind) hy (by grind) (by grind) ?_;unfold a6 at h1 h2;grind
def aGp (l m:Li):Af:=(slp l m,0,a6 m (ay l))
theorem zK (l m:Li) (q:Pq):aEv (aGp l m) q=a6 m (atL l q.1):=by rw [aZ];unfold aEv aGp;grind
open Classical in
theorem DA {L a b:List Li}(hL:∀l∈L,l.ok) (ha:∀l∈a,l.ok) (ia:∃q,Inn a q) (ib:∃q,Inn b q) (h:Shr a b):∃q r,Off L q∧Off L r∧Inn a q∧Inn b r∧∃l,∀m∈L,sd m q≠sd m r→m=l∨m=l.neg:=by
 obtain⟨l,hla,hlb,t0,ht0⟩:=h;obtain⟨_,ia⟩:=ia;obtain⟨_,ib⟩:=ib;have hl:=ha l hla;have na:l.neg∉a:=v8 ia hla;have nb:l∉b:=by have:=v8 ib hlb;rwa [eF]at this
 obtain⟨p,hp0,hp1,hp2⟩:∃p,a6 l p=0∧(∀m,m∈a∨m∈b→m≠l→m≠l.neg→0<a6 m p)∧∀m∈L,m≠l→m≠l.neg→a6 m p≠0:=by
  obtain⟨z,z1,z2⟩:=JE ((L.map (aGp l)).filter fun g=>decide (g.1≠0∨g.2.1≠0)) (((a++b).filter fun m=>decide (m≠l∧m≠l.neg)).map (aGp l)) (q:=(t0,0)) (fun g hg=>of_decide_eq_true (List.mem_filter.1 hg).2) fun f hf=>by
   obtain⟨m,hm,rfl⟩:=List.mem_map.1 hf;obtain⟨h1,h2⟩:=List.mem_filter.1 hm;have h2:=of_decide_eq_true h2;rw [zK];exact ht0 m (List.mem_append.1 h1) h2.1 h2.2
  refine⟨atL l z.1,gS hl _,fun m hm n1 n2=>?_,fun m hm n1 n2 e=>?_⟩
  ·rw [←zK];exact z1 _ (List.mem_map.2 ⟨m,List.mem_filter.2 ⟨List.mem_append.2 hm,decide_eq_true ⟨n1,n2⟩⟩,rfl⟩)
  ·by_cases c:slp l m=0
   ·rcases E5 hl (hL m hm) c (gS hl z.1) e with h|h
    ·exact n1 h
    ·exact n2 h
   ·refine z2 (aGp l m) (List.mem_filter.2 ⟨List.mem_map.2 ⟨m,hm,rfl⟩,decide_eq_true (.inl c)⟩) ?_;rw [zK];exact e
 have hfs:aIn (((a++b).filter fun m=>decide (m≠l∧m≠l.neg)).map Li.af++(L.filter fun m=>decide (m≠l∧m≠l.neg)).map fun m=>if 0<a6 m p then m.af else m.neg.af) p:=fun f hf=>by
  rcases List.mem_append.1 hf with hf|hf
  ·obtain⟨m,hm,rfl⟩:=List.mem_map.1 hf;obtain⟨h1,h2⟩:=List.mem_filter.1 hm;have h2:=of_decide_eq_true h2;exact hp1 m (List.mem_append.1 h1) h2.1 h2.2
  ·obtain⟨m,hm,rfl⟩:=List.mem_map.1 hf;obtain⟨h1,h2⟩:=List.mem_filter.1 hm;have h2:=of_decide_eq_true h2;split
   ·rw [pw];assumption
   ·have:=hp2 m h1 h2.1 h2.2;rw [pw,bF];grind
 have use:∀q,aIn (((a++b).filter fun m=>decide (m≠l∧m≠l.neg)).map Li.af++(L.filter fun m=>decide (m≠l∧m≠l.neg)).map fun m=>if 0<a6 m p then m.af else m.neg.af) q→(∀m,m∈a∨m∈b→m≠l→m≠l.neg→0<a6 m q)∧∀m∈L,m≠l→m≠l.neg→a6 m q≠0∧(0<a6 m q↔0<a6 m p):=fun q hq=>by
  refine⟨fun m hm n1 n2=>?_,fun m hm n1 n2=>?_⟩
  ·exact hq m.af (List.mem_append_left _ (List.mem_map.2 ⟨m,List.mem_filter.2 ⟨List.mem_append.2 hm,decide_eq_true ⟨n1,n2⟩⟩,rfl⟩))
  ·have:=hq _ (List.mem_append_right _ (List.mem_map.2 ⟨m,List.mem_filter.2 ⟨hm,decide_eq_true ⟨n1,n2⟩⟩,rfl⟩));split at this
   ·rw [pw]at this;grind
   ·rw [pw,bF]at this;grind
 obtain⟨e1,p1,k1⟩:=FU hfs ((l.a:Rat),(l.b:Rat));obtain⟨e2,p2,k2⟩:=FU hfs (-(l.a:Rat),-(l.b:Rat));have hn:=dk hl;obtain⟨q1,q2⟩:=use _ (k1 e1 p1 Rat.le_refl);obtain⟨r1,r2⟩:=use _ (k2 e2 p2 Rat.le_refl)
 have vq:0<a6 l (cn p e1 ((l.a:Rat),(l.b:Rat))):=by
  have:=Rat.mul_pos p1 hn;unfold a6 cn at *;grind
 have vr:a6 l (cn p e2 (-(l.a:Rat),-(l.b:Rat)))<0:=by
  have:=Rat.mul_pos p2 hn;unfold a6 cn at *;grind
 generalize cn p e1 ((l.a:Rat),(l.b:Rat))=q at *;generalize cn p e2 (-(l.a:Rat),-(l.b:Rat))=r at *;refine⟨q,r,fun m hm=>?_,fun m hm=>?_,fun m hm=>?_,fun m hm=>?_,l,fun m hm hd=>?_⟩
 ·by_cases c1:m=l
  ·rw [c1];grind
  ·by_cases c2:m=l.neg
   ·rw [c2,bF];grind
   ·exact(q2 m hm c1 c2).1
 ·by_cases c1:m=l
  ·rw [c1];grind
  ·by_cases c2:m=l.neg
   ·rw [c2,bF];grind
   ·exact(r2 m hm c1 c2).1
 ·by_cases c1:m=l
  ·rw [c1];exact vq
  ·exact q1 m (.inl hm) c1 fun c2=>na (c2▸hm)
 ·by_cases c2:m=l.neg
  ·rw [c2,bF];grind
  ·exact r1 m (.inr hm) (fun c1=>nb (c1▸hm)) c2
 ·apply Classical.byContradiction;intro c;have c1:m≠l:=fun h=>c (.inl h)
  have c2:m≠l.neg:=fun h=>c (.inr h)
  refine hd ?_;unfold sd;rw [decide_eq_decide,(q2 m hm c1 c2).2,(r2 m hm c1 c2).2]
abbrev yd (L a:List Li):Prop:=∀m∈a,m∈L∨m.neg∈L
theorem ut {L a:List Li}(hs:yd L a){m:Li}(hm:m∈a){q:Pq}(hq:Off L q):a6 m q≠0:=by
 rcases hs m hm with h|h
 ·exact hq m h
 ·have:=hq _ h;rw [bF]at this;grind
theorem pL {L a:List Li}(hs:yd L a){l:Li}{q r:Pq}(hl:∀m∈L,sd m q≠sd m r→m=l∨m=l.neg) (hq:Off L q) (hr:Off L r){m:Li}(hm:m∈a) (hd:¬(0<a6 m q↔0<a6 m r)):m=l∨m=l.neg:=by
 rcases hs m hm with h|h
 ·exact hl m h fun e=>hd (by unfold sd at e;rwa [decide_eq_decide]at e)
 ·have h0:=ut hs hm hq;have h1:=ut hs hm hr;rcases hl _ h (fun e=>hd (by unfold sd at e;rw [decide_eq_decide,bF,bF]at e;grind))with e|e
  ·exact .inr (by rw [←e,eF])
  ·exact .inl (by rw [←eF m,e,eF])
theorem Dm {L a b:List Li}(sa:yd L a) (sb:yd L b) (ha:∀l∈a,l.ok){q r:Pq}(hq:Off L q) (hr:Off L r) (iq:Inn a q) (ir:Inn b r) (nr:¬Inn a r) (nq:¬Inn b q){l:Li}(hl:∀m∈L,sd m q≠sd m r→m=l∨m=l.neg):Shr a b:=by
 obtain⟨x,hx,nx⟩:∃x∈a,¬0<a6 x r:=by
  apply Classical.byContradiction;intro c;exact nr fun m hm=>Classical.byContradiction fun d=>c ⟨m,hm,d⟩
 obtain⟨y,hy,ny⟩:∃y∈b,¬0<a6 y q:=by
  apply Classical.byContradiction;intro c;exact nq fun m hm=>Classical.byContradiction fun d=>c ⟨m,hm,d⟩
 have px:=iq x hx;have py:=ir y hy;have ex:=pL sa hl hq hr hx fun e=>nx (e.1 px)
 have ey:=pL sb hl hq hr hy fun e=>ny (e.2 py)
 have hyx:y=x.neg:=by
  rcases ex with rfl|rfl <;> rcases ey with rfl|rfl
  ·exact absurd px ny
  ·rfl
  ·rw [eF]
  ·exact absurd px ny
 subst hyx;have hxr:a6 x r<0:=by have:=ut sa hx hr;grind
 have hok:=ha x hx;have e:a6 x q/(a6 x q-a6 x r)*(a6 x q-a6 x r)=a6 x q:=Rat.div_mul_cancel (by grind);generalize hs:a6 x q/(a6 x q-a6 x r)=s at e
 have hs0:0≤s:=by
  apply Classical.byContradiction;intro c;have:=Rat.mul_le_mul_of_nonneg_right (show s≤0 by grind) (show 0≤a6 x q-a6 x r by grind);grind
 have hs1:s≤1:=by
  apply Classical.byContradiction;intro c;have:=Rat.mul_le_mul_of_nonneg_right (show 1≤s by grind) (show 0≤a6 x q-a6 x r by grind);grind
 have hp:a6 x (lrp q r s)=0:=by rw [mK];grind
 refine⟨x,hx,hy,bZ x (lrp q r s),fun m hm n1 n2=>?_⟩;rw [mE hok hp,mK]
 have key:0<a6 m q∧0<a6 m r:=by
  rcases hm with hm|hm
  ·have h0:=iq m hm;refine⟨h0,Classical.byContradiction fun c=>?_⟩;rcases pL sa hl hq hr hm fun e=>c (e.1 h0)with e|e <;> rcases ex with e2|e2
   ·exact n1 (e.trans e2.symm)
   ·exact n2 (by rw [e,e2,eF])
   ·exact n2 (by rw [e,e2])
   ·exact n1 (e.trans e2.symm)
  ·have h0:=ir m hm;refine⟨Classical.byContradiction fun c=>?_,h0⟩;rcases pL sb hl hq hr hm fun e=>c (e.2 h0)with e|e <;> rcases ex with e2|e2
   ·exact n1 (e.trans e2.symm)
   ·exact n2 (by rw [e,e2,eF])
   ·exact n2 (by rw [e,e2])
   ·exact n1 (e.trans e2.symm)
 exact(AC hs0 hs1).1 key.1 key.2
end Go.Ab
namespace Go.Ab
open Go.Proofs
variable [Base]
theorem gI (g:Nat→Nat) (a b j:Nat):pn g a b j=if g j=max (g a) (g b)then min (g a) (g b)else g j:=rfl
theorem kK (w:Nat→Bool) (T:Nat→Nat→Bool) (g:Nat→Nat) (p:Nat×Nat):fP w T g p=g∨((w p.1=true∧w p.2=true∧T p.1 p.2=true∧g p.1≠g p.2)∧fP w T g p=pn g p.1 p.2):=by
 unfold fP zV;split
 ·rename_i h;rw [Bool.and_eq_true]at h;split
  ·rename_i k;exact .inr ⟨⟨h.1,h.2,k.2,k.1⟩,rfl⟩
  ·exact .inl rfl
 ·exact .inl rfl
theorem Fb {w:Nat→Bool}{T:Nat→Nat→Bool}{E:Nat→Nat→Prop}(hs:∀{i k},E i k→E k i) (ht:∀{i j k},E i j→E j k→E i k):∀(ps:List (Nat×Nat)) (g:Nat→Nat),(∀p∈ps,w p.1=true→w p.2=true→T p.1 p.2=true→E p.1 p.2)→(∀i,E i (g i))→∀i,E i (ps.foldl (fP w T) g i)
 | [],_,_,h=>h
 |p::ps,g,hp,h=>by
  rw [List.foldl_cons];refine Fb (E:=E) (w:=w) (T:=T) hs ht ps _ (fun q hq=>hp q (Mc hq)) fun i=>?_
  rcases kK w T g p with e|⟨⟨h1,h2,h3,_⟩,e⟩
  ·rw [e];exact h i
  ·rw [e,gI];split
   ·rename_i c;have ab:=hp p List.mem_cons_self h1 h2 h3;have hab:E (g p.1) (g p.2):=ht (hs (h p.1)) (ht ab (h p.2));have hi:=h i;rw [c]at hi;rcases Nat.le_total (g p.1) (g p.2)with le|le
    ·rw [Nat.max_eq_right le]at hi;rw [Nat.min_eq_left le];exact ht hi (hs hab)
    ·rw [Nat.max_eq_left le]at hi;rw [Nat.min_eq_right le];exact ht hi hab
   ·exact h i
theorem we {w:Nat→Bool}{T:Nat→Nat→Bool}{g:Nat→Nat}{p:Nat×Nat}{i k:Nat}(h:g i=g k):fP w T g p i=fP w T g p k:=by
 rcases kK w T g p with e|⟨_,e⟩
 ·rw [e,h]
 ·rw [e,gI,gI,h]
theorem xD {w:Nat→Bool}{T:Nat→Nat→Bool}{i k:Nat}:∀(ps:List (Nat×Nat)) (g:Nat→Nat),g i=g k→ps.foldl (fP w T) g i=ps.foldl (fP w T) g k
 | [],_,h=>h
 |p::ps,g,h=>by rw [List.foldl_cons];exact xD ps _ (we h)
theorem oM {w:Nat→Bool}{T:Nat→Nat→Bool}{p:Nat×Nat}(h1:w p.1=true) (h2:w p.2=true) (h3:T p.1 p.2=true):∀(ps:List (Nat×Nat)) (g:Nat→Nat),p∈ps→ps.foldl (fP w T) g p.1=ps.foldl (fP w T) g p.2
 | [],_,h=>by cases h
 |q::ps,g,h=>by
  rw [List.foldl_cons];rcases List.mem_cons.1 h with rfl|h
  ·refine xD ps _ ?_;by_cases c:g p.1=g p.2
   ·exact we c
   ·have e:fP w T g p=pn g p.1 p.2:=by
     unfold fP zV;rw [if_pos (by rw [h1,h2];rfl),if_pos ⟨c,h3⟩]
    rw [e,gI,gI];rcases Nat.lt_or_gt_of_ne c with lt|lt
    ·rw [if_neg om,if_pos om];omega
    ·rw [if_pos om,if_neg om];omega
  ·exact oM h1 h2 h3 ps _ h
theorem tX {w:Nat→Bool}{T:Nat→Nat→Bool}:∀(ps:List (Nat×Nat)) (g:Nat→Nat),(∀j,g (g j)=g j)→∀j,ps.foldl (fP w T) g (ps.foldl (fP w T) g j)=ps.foldl (fP w T) g j
 | [],_,h=>h
 |p::ps,g,h=>by
  rw [List.foldl_cons];refine tX ps _ fun j=>?_
  rcases kK w T g p with e|⟨⟨_,_,_,hne⟩,e⟩
  ·rw [e];exact h j
  ·rw [e]
   have hm:g (min (g p.1) (g p.2))=min (g p.1) (g p.2):=by
    rcases Nat.le_total (g p.1) (g p.2)with le|le
    ·rw [Nat.min_eq_left le];exact h _
    ·rw [Nat.min_eq_right le];exact h _
   have hj:=h j;rw [gI g p.1 p.2 j];split
   ·rw [gI,hm,if_neg om]
   ·rename_i c;rw [gI,hj,if_neg c]
theorem Ae {n i k:Nat}(h:k<i) (hi:i<n):(i,k)∈nk [] (List.range n):=by
 induction n with
 |zero=>omega
 |succ n ih =>
  rw [List.range_succ,nf];rw [List.mem_append];by_cases c:i<n
  ·exact .inl (ih c)
  ·refine .inr (List.mem_map.2 ⟨k,?_,?_⟩)
   ·rw [List.nil_append];exact List.mem_range.2 om
   ·rw [show n=i by omega]
def InC (l:Pts) (k:Nat) (q:Pq):Prop:=∃x,l[k]? = some x∧Inn (a9 x.1) q
theorem ew {l:Pts}{k:Nat}{x:PC×Bool}(h:l[k]? = some x):inB l k=x.2∧clB l k=x.1:=by
 unfold inB clB;rw [List.getD,h];exact⟨rfl,rfl⟩
theorem eH {l:Pts}{k:Nat}(h:inB l k=true):∃x,l[k]? = some x∧x.2=true:=by
 unfold inB at h;rw [List.getD]at h;cases e:l[k]? with
 |none=>rw [e]at h;cases h
 |some x=>rw [e]at h;exact⟨x,rfl,h⟩
theorem CI {l:Pts}{i k:Nat}(hi:inB l i=true) (hk:inB l k=true) (h:dE (clB l i) (clB l k)=true) (h':dE (clB l k) (clB l i)=true):cP l i=cP l k:=by
 obtain⟨x,hx,_⟩:=eH hi;obtain⟨y,hy,_⟩:=eH hk;have li:=(List.getElem?_eq_some_iff.1 hx).1;have lk:=(List.getElem?_eq_some_iff.1 hy).1;rw [se];rcases Nat.lt_trichotomy i k with c|c|c
 ·exact(oM (p:=(k,i)) hk hi h' _ _ (Ae c lk)).symm
 ·rw [c]
 ·exact oM (p:=(i,k)) hi hk h _ _ (Ae c li)
theorem zE {l:Pts}{E:Nat→Nat→Prop}(h0:∀i,E i i) (hs:∀{i k},E i k→E k i) (ht:∀{i j k},E i j→E j k→E i k) (h:∀i k,inB l i=true→inB l k=true→dE (clB l i) (clB l k)=true→k<i→E i k) (i:Nat):E i (cP l i):=by
 rw [se];exact Fb (E:=E) hs ht _ _ (fun p hp h1 h2 h3=>h _ _ h1 h2 h3 (J6 hp).2) h0 i
theorem lL (l:Pts) (i:Nat):cP l (cP l i)=cP l i:=by
 rw [se];exact tX _ _ (fun _=>rfl) i
theorem qn (l:Pts) (i:Nat):inB l i=inB l (cP l i):=zE (E:=fun i k=>inB l i=inB l k) (fun _=>rfl) (fun h=>h.symm) (fun h k=>h.trans k) (fun _ _ h k _ _=>h.trans k.symm) i
theorem oX {L:List Li}(hL:∀l∈L,l.ok):∀(t:Tr) (c:List Li),t.lin L→(∀l∈c,l.ok)→yd L c→∀y∈ky t c,yd L y.1
 | .leaf i,c,_,hc,h,y,hy=>by
  unfold ky at hy;split at hy
  ·rw [List.mem_singleton.1 hy];exact fun m hm=>h m ((dH hc).1 hm).1
  ·cases hy
 | .node l a b,c,hn,hc,h,y,hy=>by
  have hl:=hL l hn.1;have hok:∀m∈dh c,m.ok:=fun m hm=>hc m ((dH hc).1 hm).1
  have hsb:yd L (dh c):=fun m hm=>h m ((dH hc).1 hm).1
  unfold ky at hy;split at hy
  ·rcases List.mem_append.1 hy with hy|hy
   ·refine oX hL a _ hn.2.1 (fD hok hl) (fun m hm=>?_) y hy;rcases List.mem_append.1 hm with hm|hm
    ·exact hsb m hm
    ·rw [List.mem_singleton.1 hm];exact .inl hn.1
   ·refine oX hL b _ hn.2.2 (fD hok (Li.ok.neg hl)) (fun m hm=>?_) y hy;rcases List.mem_append.1 hm with hm|hm
    ·exact hsb m hm
    ·rw [List.mem_singleton.1 hm];exact .inr (by rw [eF];exact hn.1)
  ·cases hy
structure Cel (L:List Li) (t:Tr):Prop where
 ok:∀l∈L,l.ok
 g:Gd L t
theorem Cel.lok {L:List Li}{t:Tr}(h:Cel L t):t.lok:=ci h.ok h.g.1
theorem Cel.cr {L:List Li}{t:Tr}(h:Cel L t){x:PC×Bool}(hx:x∈a8 t []):dC x.1∧yd L (a9 x.1):=by
 obtain⟨y,hy,hr⟩:=(GF h.lok h.g.2).left hx;exact⟨hr.p,fun m hm=>oX h.ok t [] h.g.1 (fun l h=>by cases h) (fun l h=>by cases h) y hy m ((hr.m m).1 hm)⟩
theorem Cel.dis {L:List Li}{t:Tr}(h:Cel L t){i k:Nat}{q:Pq}(hi:InC (a8 t []) i q) (hk:InC (a8 t []) k q):i=k:=by
 obtain⟨x,hx,xq⟩:=hi;obtain⟨y,hy,yq⟩:=hk;have hp:=List.pairwise_iff_getElem.1 (Ab.dis t [] dC.nil h.lok h.g.2).2;obtain⟨li,ei⟩:=List.getElem?_eq_some_iff.1 hx;obtain⟨lk,ek⟩:=List.getElem?_eq_some_iff.1 hy;rcases Nat.lt_trichotomy i k with c|c|c
 ·have:=hp i k li lk c q;rw [ei,ek]at this;exact absurd yq (this xq)
 ·exact c
 ·have:=hp k i lk li c q;rw [ei,ek]at this;exact absurd xq (this yq)
theorem Cel.cov {L:List Li}{t:Tr}(h:Cel L t){q:Pq}(hq:Off L q):∃k,InC (a8 t []) k q:=by
 obtain⟨k,x,h1,h2⟩:=FA hq t [] dC.nil h.lok h.g.1 h.g.2 (nL q);exact⟨k,x,h1,h2⟩
theorem Cel.flag {L:List Li}{t:Tr}(h:Cel L t){k:Nat}{q:Pq}(hk:InC (a8 t []) k q):inB (a8 t []) k=atT t q:=by
 obtain⟨x,hx,xq⟩:=hk;rw [(ew hx).1,Ij h.lok h.g.2 hx xq]
theorem Cel.pt {L:List Li}{t:Tr}(h:Cel L t){k:Nat}(hk:inB (a8 t []) k=true):∃q,Off L q∧InC (a8 t []) k q:=by
 obtain⟨x,hx,_⟩:=eH hk;obtain⟨q,hq⟩:=(h.cr (List.mem_of_getElem? hx)).1.inn;obtain⟨r,h1,h2⟩:=jq L h.ok hq;exact⟨r,h2,x,hx,h1⟩
abbrev InT (t:Tr) (q:Pq):Prop:=atT t q=true
theorem Cel.touch {L:List Li}{t:Tr}(h:Cel L t){i k:Nat}{x y:PC×Bool}(hx:(a8 t [])[i]? = some x) (hy:(a8 t [])[k]? = some y) (hne:i≠k):dE x.1 y.1=true↔Shr (a9 x.1) (a9 y.1) :=
 Bn (h.cr (List.mem_of_getElem? hx)).1 (h.cr (List.mem_of_getElem? hy)).1 fun q h1 h2=>hne (h.dis ⟨x,hx,h1⟩ ⟨y,hy,h2⟩)
theorem Cel.grp_way {L:List Li}{t:Tr}(h:Cel L t){i k:Nat}(hg:cP (a8 t []) i=cP (a8 t []) k){q r:Pq}(hq:Off L q) (hr:Off L r) (iq:InC (a8 t []) i q) (kr:InC (a8 t []) k r) (tq:InT t q) (tr:InT t r):Way L (InT t) q r:=by
 have Bz:∀{j:Nat}{a b:Pq},inB (a8 t []) j=true→Off L a→Off L b→InC (a8 t []) j a→InC (a8 t []) j b→Way L (InT t) a b:=by
  rintro j a b hj ha hb ⟨x,hx,xa⟩ ⟨y,hy,yb⟩;obtain rfl:=Option.some.inj (hx.symm.trans hy)
  exact FG h.ok ha hb xa yb fun s _ hs=>by
   show atT t s=true
   rw [←h.flag ⟨x,hx,hs⟩];exact hj
 let E:Nat→Nat→Prop:=fun i k=>i=k∨(inB (a8 t []) i=true∧inB (a8 t []) k=true∧∀q r,Off L q→Off L r→InC (a8 t []) i q→InC (a8 t []) k r→Way L (InT t) q r)
 have h0:∀i,E i i:=fun i => .inl rfl
 have hs:∀{i k},E i k→E k i:=fun {i k} e=>by
  rcases e with e|⟨e1,e2,e3⟩
  ·exact .inl e.symm
  ·exact .inr ⟨e2,e1,fun q r hq hr a b=>(e3 r q hr hq b a).symm⟩
 have ht:∀{i j k},E i j→E j k→E i k:=fun {i j k} e f=>by
  rcases e with rfl|⟨e1,e2,e3⟩
  ·exact f
  rcases f with rfl|⟨f1,f2,f3⟩
  ·exact .inr ⟨e1,e2,e3⟩
  obtain⟨z,z1,z2⟩:=h.pt e2;exact .inr ⟨e1,f2,fun q r hq hr a b=>(e3 q z hq z1 a z2).trans (f3 z r z1 hr z2 b)⟩
 have hj:∀i k,inB (a8 t []) i=true→inB (a8 t []) k=true→dE (clB (a8 t []) i) (clB (a8 t []) k)=true→k<i→E i k:=fun i k hi hk htc hlt=>by
  obtain⟨x,hx,hx2⟩:=eH hi;obtain⟨y,hy,hy2⟩:=eH hk;rw [(ew hx).2,(ew hy).2]at htc;obtain⟨ox,sx⟩:=h.cr (List.mem_of_getElem? hx);obtain⟨oy,sy⟩:=h.cr (List.mem_of_getElem? hy);obtain⟨a,b,oa,ob,xa,yb,l,hl⟩:=DA h.ok ox.lok ox.inn oy.inn ((h.touch hx hy om).1 htc);have ia:InC (a8 t []) i a:=⟨x,hx,xa⟩
  have ib:InC (a8 t []) k b:=⟨y,hy,yb⟩
  have st:FY L (InT t) a b:=⟨oa,ob,by show atT t a=true;rw [←h.flag ia];exact hi,by show atT t b=true;rw [←h.flag ib];exact hk,l,hl⟩
  exact .inr ⟨hi,hk,fun q r hq hr c d=>(Bz hi hq oa c ia).trans (.step st (Bz hk ob hr ib d))⟩
 have e1:=zE (l:=a8 t []) h0 hs ht hj i;have e2:=zE (l:=a8 t []) h0 hs ht hj k;rw [hg]at e1;have hi:inB (a8 t []) i=true:=by rw [h.flag iq];exact tq
 rcases ht e1 (hs e2)with rfl|⟨_,_,e⟩
 ·exact Bz hi hq hr iq kr
 ·exact e q r hq hr iq kr
theorem Cel.way_grp {L:List Li}{t:Tr}(h:Cel L t){q r:Pq}(w:Way L (InT t) q r):∀{i k:Nat},InC (a8 t []) i q→InC (a8 t []) k r→cP (a8 t []) i=cP (a8 t []) k:=by
 induction w with
 |refl q=>intro i k hi hk;rw [h.dis hi hk]
 |step s _ ih =>
  intro i k hi hk;obtain⟨j,hj⟩:=h.cov s.or;refine Eq.trans ?_ (ih hj hk);by_cases c:i=j
  ·rw [c]
  have bi:inB (a8 t []) i=true:=by rw [h.flag hi];exact s.pq
  have bj:inB (a8 t []) j=true:=by rw [h.flag hj];exact s.pr
  obtain⟨l,hl⟩:=s.one;have ni:¬InC (a8 t []) i _:=fun e=>c (h.dis e hj)
  have nj:¬InC (a8 t []) j _:=fun e=>c (h.dis hi e)
  obtain⟨x,hx,xq⟩:=hi;obtain⟨y,hy,yr⟩:=hj;obtain⟨ox,sx⟩:=h.cr (List.mem_of_getElem? hx);obtain⟨oy,sy⟩:=h.cr (List.mem_of_getElem? hy);have sh:=Dm sx sy ox.lok s.oq s.or xq yr (fun e=>ni ⟨x,hx,e⟩) (fun e=>nj ⟨y,hy,e⟩) hl;refine CI bi bj ?_ ?_
  ·rw [(ew hx).2,(ew hy).2];exact(h.touch hx hy c).2 sh
  ·rw [(ew hx).2,(ew hy).2];exact(h.touch hy hx fun e=>c e.symm).2 (Dz sh)
theorem Way.mono {L:List Li}{P Q:Pq→Prop}(h:∀q,Off L q→P q→Q q){q r:Pq}(w:Way L P q r):Way L Q q r:=by
 induction w with
 |refl=>exact .refl _
 |step s _ ih=>exact .step ⟨s.oq,s.or,h _ s.oq s.pq,h _ s.or s.pr,s.one⟩ ih
theorem AG {α β:Type} [BEq β] [LawfulBEq β]{R:α→β→Prop}:∀{A:List α}{B:List β},A.Nodup→(∀a∈A,∃b∈B,R a b)→(∀a∈A,∀c∈A,∀b,R a b→R c b→a=c)→A.length≤B.length
 | [],_,_,_,_=>Nat.zero_le _
 |a::A,B,hn,h1,h2=>by
  obtain⟨b,hb,hab⟩:=h1 a Ms;have hn:=List.nodup_cons.1 hn
  have:=AG (A:=A) (B:=B.erase b) hn.2 (fun c hc=>by
   obtain⟨d,hd,hcd⟩:=h1 c (Mc hc);refine⟨d,(List.mem_erase_of_ne fun e=>?_).2 hd,hcd⟩;rw [e]at hcd;have:=h2 a List.mem_cons_self c (Mc hc) b hab hcd;rw [this]at hn;exact hn.1 hc) fun c hc d hd=>h2 c (Mc hc) d (Mc hd)
  rw [List.length_erase_of_mem hb]at this;have:=List.length_pos_of_mem hb;rw [List.length_cons];omega
def Mee (L:List Li) (t u:Tr) (i k:Nat):Prop:=∃q a b,Off L q∧InC (a8 t []) a q∧cP (a8 t []) a=i∧InC (a8 u []) b q∧cP (a8 u []) b=k∧InT t q∧InT u q
theorem Mee.symm {L:List Li}{t u:Tr}{i k:Nat}(h:Mee L t u i k):Mee L u t k i:=by
 obtain⟨q,a,b,h1,h2,h3,h4,h5,h6,h7⟩:=h;exact⟨q,b,a,h1,h4,h5,h2,h3,h7,h6⟩
structure Two (L:List Li) (t u:Tr):Prop where
 x:Cel L t
 y:Cel L u
 e:∀q,Off L q→atT t q=atT u q
theorem Two.symm {L:List Li}{t u:Tr}(h:Two L t u):Two L u t:=⟨h.y,h.x,fun q hq=>(h.e q hq).symm⟩
theorem Two.not {L:List Li}{t u:Tr}(h:Two L t u):Two L (cN t) (cN u):=⟨⟨h.x.ok,h.x.g.not⟩,⟨h.y.ok,h.y.g.not⟩,fun q hq=>by rw [k8,k8,h.e q hq]⟩
theorem Two.ex {L:List Li}{t u:Tr}(h:Two L t u){i:Nat}(hi:be (a8 t []) i=true):∃k,be (a8 u []) k=true∧k<(a8 u []).length∧Mee L t u i k:=by
 unfold be at hi;rw [Bool.and_eq_true,decide_eq_true_iff]at hi;obtain⟨q,hq,iq⟩:=h.x.pt hi.1;obtain⟨b,hb⟩:=h.y.cov hq;have tq:InT t q:=by show atT t q=true;rw [←h.x.flag iq];exact hi.1
 have uq:InT u q:=by show atT u q=true;rw [←h.e q hq];exact tq
 have bb:inB (a8 u []) (cP (a8 u []) b)=true:=by rw [←qn,h.y.flag hb];exact uq
 refine⟨cP (a8 u []) b,?_,?_,q,i,b,hq,iq,hi.2,hb,rfl,tq,uq⟩
 ·unfold be;rw [bb,lL,decide_eq_true rfl];rfl
 ·obtain⟨x,hx,_⟩:=eH bb;exact(List.getElem?_eq_some_iff.1 hx).1
theorem Two.way {L:List Li}{t u:Tr}(h:Two L t u){q r:Pq}(w:Way L (InT t) q r):Way L (InT u) q r:=w.mono fun q hq hp=>by show atT u q=true;rw [←h.e q hq];exact hp
theorem Two.inj {L:List Li}{t u:Tr}(h:Two L t u){i j k:Nat}(h1:Mee L t u i k) (h2:Mee L t u j k):i=j:=by
 obtain⟨q,a,b,q1,q2,q3,q4,q5,q6,q7⟩:=h1;obtain⟨r,c,d,r1,r2,r3,r4,r5,r6,r7⟩:=h2;rw [←q3,←r3];exact h.x.way_grp (h.symm.way (h.y.grp_way (q5.trans r5.symm) q1 r1 q4 r4 q7 r7)) q2 r2
theorem Two.bnd {L:List Li}{t u:Tr}(h:Two L t u){i k:Nat}(hm:Mee L t u i k) (hb:df (a8 t []) i=false):df (a8 u []) k=false:=by
 obtain⟨q,a,b,q1,q2,q3,q4,q5,q6,q7⟩:=hm;rw [zH]at hb⊢;obtain⟨j,x,hx,hx2,hxb⟩:=hb;rw [Bool.and_eq_true,decide_eq_true_iff]at hx2;obtain⟨ox,sx⟩:=h.x.cr (List.mem_of_getElem? hx);obtain⟨d,hd,ho⟩:=(nu ox).1 hxb;have hjb:inB (a8 t []) j=true:=by rw [(ew hx).1];exact hx2.1
 obtain⟨c,hc,hco⟩:=w6 h.x.ok ox.inn ho (S:=((List.range (a8 u []).length).filter fun m=>inB (a8 u []) m&&decide (cP (a8 u []) m=k)).map (clB (a8 u []))) fun r hr hi=>by
  have ir:InC (a8 t []) j r:=⟨x,hx,hi⟩
  have tr:InT t r:=by show atT t r=true;rw [←h.x.flag ir];exact hjb
  have ur:InT u r:=by show atT u r=true;rw [←h.e r hr];exact tr
  obtain⟨m,hm⟩:=h.y.cov hr;have hg:=h.y.way_grp (h.way (h.x.grp_way (hx2.2.trans q3.symm) hr q1 ir q2 tr q6)) hm q4;have hmb:=h.y.flag hm;obtain⟨y,hy,yr⟩:=hm;refine⟨clB (a8 u []) m,List.mem_map.2 ⟨m,List.mem_filter.2 ⟨List.mem_range.2 (List.getElem?_eq_some_iff.1 hy).1,?_⟩,rfl⟩,?_⟩
  ·rw [hmb,show atT u r=true from ur,decide_eq_true (hg.trans q5)];rfl
  ·rw [(ew hy).2];exact yr
 obtain⟨m,hm,rfl⟩:=List.mem_map.1 hc;obtain⟨hm1,hm2⟩:=List.mem_filter.1 hm;rw [Bool.and_eq_true,decide_eq_true_iff]at hm2;obtain⟨y,hy,hy2⟩:=eH hm2.1;obtain⟨oy,sy⟩:=h.y.cr (List.mem_of_getElem? hy);refine⟨m,y,hy,?_,(nu oy).2 ⟨d,hd,?_⟩⟩
 ·rw [hy2,decide_eq_true hm2.2];rfl
 ·rw [←(ew hy).2];exact hco
theorem Two.le {L:List Li}{t u:Tr}(h:Two L t u) (p:Bool→Bool):((List.range (a8 t []).length).filter fun i=>be (a8 t []) i&&p (df (a8 t []) i)).length≤((List.range (a8 u []).length).filter fun i=>be (a8 u []) i&&p (df (a8 u []) i)).length:=by
 refine AG (R:=Mee L t u) (List.nodup_range.filter _) (fun i hi=>?_) (fun i _ j _ k h1 h2=>h.inj h1 h2);have hi:=(List.mem_filter.1 hi).2;rw [Bool.and_eq_true]at hi;obtain⟨k,k1,k2,k3⟩:=h.ex hi.1;refine⟨k,List.mem_filter.2 ⟨List.mem_range.2 k2,?_⟩,k3⟩
 have e:df (a8 t []) i=df (a8 u []) k:=by
  cases e1:df (a8 t []) i with
  |false=>exact(h.bnd k3 e1).symm
  |true =>
   cases e2:df (a8 u []) k with
   |false=>rw [h.symm.bnd k3.symm e2]at e1;cases e1
   |true=>rfl
 rw [Bool.and_eq_true,k1,←e,hi.2];exact⟨rfl,rfl⟩
theorem Two.eq {L:List Li}{t u:Tr}(h:Two L t u) (p:Bool→Bool):((gO (a8 t []) t).filter fun c=>p c.2).length=((gO (a8 u []) u).filter fun c=>p c.2).length:=by
 have e:∀(l:Pts) (t:Tr),((gO l t).filter fun c=>p c.2).length=((List.range l.length).filter fun i=>be l i&&p (df l i)).length:=fun l t=>by
  unfold gO;rw [List.filter_map,List.length_map,List.filter_filter];congr 1
  exact List.filter_congr fun i _=>by
   show(p (df l i)&&be l i)=_
   rw [Bool.and_comm]
 rw [e,e];exact Nat.le_antisymm (h.le p) (h.symm.le p)
end Go.Ab
