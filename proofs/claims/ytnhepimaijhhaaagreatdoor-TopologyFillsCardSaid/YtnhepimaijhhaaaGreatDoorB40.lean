/- Texts laid one behind the other: L28M, TrA, TrB, L28F. -/
import Derived.Test.YtnhepimaijhhaaaGreatDoorB37
set_option linter.all false
set_option maxHeartbeats 16000000
namespace Go.Ab
open Go.Proofs
variable [Base]
abbrev knF:Tr:=xc [sqP 0 3,sqP 1 2]
theorem Dh:Nat.beq (cV (a8 knF [])).length 1=true:=by kernel_rfl
theorem Di:Nat.beq (fC (cV (aN (a8 knF [])))).length 1=true:=by kernel_rfl
theorem yA:Pu Tryz.prog 15 [] (lit (.bool true)):=by
 have o1:eL (sqP 0 3):=rM om om om;have o2:eL (sqP 1 2):=rM om om om
 have hrs:∀x∈[sqP 0 3,sqP 1 2],eL x:=fun x hx=>by
  simp only [List.mem_cons,List.not_mem_nil,or_false]at hx;rcases hx with rfl|rfl <;> assumption
 obtain⟨b1,b2,b3⟩:=x9 (by simp) (by simp) hrs;obtain⟨L,h1,h2,h3⟩:=pR (fill:=1) (rs:=[sqP 0 3,sqP 1 2]) (by simp) hrs;have hd:aU knF≤L.length:=h3.dep;have hz:cK knF≤L.length*(1+L.length):=h3.size (ln h2);have hm:L.length*(1+L.length)≤18*19:=Nat.mul_le_mul h1 om;have tp:CN knF (cV (a8 knF [])).length (fC (cV (aN (a8 knF [])))).length:=He om h2 h3.1 om om;have hw:=tp.w;have hc:=tp.cc;have e1:(cV (a8 knF [])).length=1:=Nat.eq_of_beq_eq_true Dh;have e2:(fC (cV (aN (a8 knF [])))).length=1:=Nat.eq_of_beq_eq_true Di;rw [e1,e2]at hc;have s1:=gD 0 3 om om;have s2:=gD 1 2 om om;have b1':=b1.arg (l':=[xsl [rps (sqP 0 3),rps (sqP 1 2)] 2]) ⟨lN,trivial⟩;clear tp h1 h2 h3 e1 e2 o1 o2 hrs hd hz hm;unfold knF at hw hc;generalize xc [sqP 0 3,sqP 1 2]=t at *;generalize sqP 0 3=p1 at *;generalize sqP 1 2=p2 at *;refine Pi Tryz.func15 fun C=>?_
 repeat(first|(refine Wo (mq (r:=[(0,[rps p1]),(1,[rps p2])]) (cs:=[rps p1,rps p2]) (.cons (sv:=rps p1) rfl inferInstance (.cons (sv:=rps p2) rfl inferInstance .nil))) ?_)|(refine Wdo (mq (r:=[(0,[rps p1]),(1,[rps p2])]) (cs:=[rps p1,rps p2]) (.cons (sv:=rps p1) rfl inferInstance (.cons (sv:=rps p2) rfl inferInstance .nil))) ?_)|(refine A1 ⟨?_⟩;intros)|refine W4 s1 ⟨?_⟩|refine W4 s2 ⟨?_⟩|refine W4 b1' ⟨?_⟩|refine W4 b2 ⟨?_⟩|refine W4 b3 ⟨?_⟩|refine W4 hw ⟨?_⟩|refine W4 hc ⟨?_⟩)
 exact E1
def sd (m:Li) (q:Pq):Bool:=decide (0<a6 m q)
structure HK (L:List Li) (P:Pq→Prop) (q r:Pq):Prop where
 oq:Off L q
 or:Off L r
 pq:P q
 pr:P r
 one:∃l:Li,∀m∈L,sd m q≠sd m r→m=l∨m=l.neg
theorem HK.symm {L:List Li}{P:Pq→Prop}{q r:Pq}(h:HK L P q r):HK L P r q:=by
 obtain⟨l,hl⟩:=h.one;exact⟨h.or,h.oq,h.pr,h.pq,l,fun m hm e=>hl m hm e.symm⟩
inductive Way (L:List Li) (P:Pq→Prop):Pq→Pq→Prop
 |refl (q:Pq):Way L P q q
 |step {q r s:Pq}(h:HK L P q r) (w:Way L P r s):Way L P q s
theorem Way.trans {L:List Li}{P:Pq→Prop}{q r s:Pq}(h:Way L P q r) (k:Way L P r s):Way L P q s:=by
 induction h with
 |refl=>exact k
 |step h _ ih=>exact .step h (ih k)
theorem Way.symm {L:List Li}{P:Pq→Prop}{q r:Pq}(h:Way L P q r):Way L P r q:=by
 induction h with
 |refl=>exact .refl _
 |step h _ ih=>exact ih.trans (.step h.symm (.refl _))
abbrev lrp (q r:Pq) (t:Rat):Pq:=(q.1+t*(r.1-q.1),q.2+t*(r.2-q.2))
theorem nV (m:Li) (q r:Pq) (t:Rat):a6 m (lrp q r t)=a6 m q+t*(a6 m r-a6 m q):=iI m r q t
theorem BH (q r:Pq) (s t:Rat):lrp (lrp q r s) r t=lrp q r (s+t*(1-s)):=by
 unfold lrp;ext <;> simp only <;> grind
def Lt (L:List Li) (q r:Pq):Prop:=∀m∈L,∀k∈L,∀t,a6 m (lrp q r t)=0→a6 k (lrp q r t)=0→k=m∨k=m.neg
abbrev ko (q r:Pq) (m:Li):Bool:=sd m q != sd m r
noncomputable abbrev eP (q r:Pq) (m:Li):Rat:=a6 m q/(a6 m q-a6 m r)
theorem C9 {L:List Li}{q r:Pq}{m:Li}(hm:m∈L) (hq:Off L q) (hr:Off L r) (h:ko q r m=true):(0<a6 m q∧a6 m r<0)∨(a6 m q<0∧0<a6 m r):=by
 have h1:=hq m hm;have h2:=hr m hm;unfold ko sd at h;rw [bne_iff_ne,ne_eq,decide_eq_decide]at h;by_cases c:0<a6 m q
 ·exact .inl ⟨c,by
   have:¬0<a6 m r:=fun d=>h ⟨fun _=>d,fun _=>c⟩
   grind⟩
 ·refine .inr ⟨by grind,?_⟩;apply Classical.byContradiction;intro d;exact h ⟨fun e=>absurd e c,fun e=>absurd e d⟩
theorem Ca {q r:Pq}{m:Li}(h:¬ko q r m=true):(0<a6 m q↔0<a6 m r):=by
 unfold ko sd at h;rw [bne_iff_ne,ne_eq,Classical.not_not,decide_eq_decide]at h;exact h
theorem nZ {L:List Li}{q r:Pq}{m:Li}(hm:m∈L) (hq:Off L q) (hr:Off L r) (h:ko q r m=true) (t:Rat):a6 m (lrp q r t)=(eP q r m-t)*(a6 m q-a6 m r)∧0<eP q r m∧eP q r m<1:=by
 have hd:=C9 hm hq hr h;have e:eP q r m*(a6 m q-a6 m r)=a6 m q:=Rat.div_mul_cancel (by grind);generalize eP q r m=x at *;rw [nV];refine⟨by grind,?_,?_⟩
 ·rcases hd with⟨h1,h2⟩|⟨h1,h2⟩
  ·apply Classical.byContradiction;intro c;have:=Rat.mul_le_mul_of_nonneg_right (show x≤0 by grind) (show 0≤a6 m q-a6 m r by grind);grind
  ·apply Classical.byContradiction;intro c;have:=Rat.mul_le_mul_of_nonneg_right (show x≤0 by grind) (show 0≤a6 m r-a6 m q by grind);grind
 ·rcases hd with⟨h1,h2⟩|⟨h1,h2⟩
  ·apply Classical.byContradiction;intro c;have:=Rat.mul_le_mul_of_nonneg_right (show 1≤x by grind) (show 0≤a6 m q-a6 m r by grind);grind
  ·apply Classical.byContradiction;intro c;have:=Rat.mul_le_mul_of_nonneg_right (show 1≤x by grind) (show 0≤a6 m r-a6 m q by grind);grind
theorem BG {x y s:Rat}(h0:0≤s) (h1:s≤1):(0<x→0<y→0<x+s*(y-x))∧(x<0→y<0→x+s*(y-x)<0):=by
 have key:∀x y:Rat,0<x→0<y→0<x+s*(y-x):=fun x y hx hy=>by
  by_cases c:s=0
  ·subst c;grind
  ·have:=Rat.mul_pos (show 0<s by grind) hy;have:=Rat.mul_nonneg (show 0≤1-s by grind) (show 0≤x by grind);grind
 refine⟨key x y,fun hx hy=>?_⟩;have:=key (-x) (-y) (by grind) (by grind);grind
theorem te {L:List Li}{q r:Pq}{m:Li}(hm:m∈L) (hq:Off L q) (hr:Off L r) (h:¬ko q r m=true){s:Rat}(h0:0≤s) (h1:s≤1):a6 m (lrp q r s)≠0∧(0<a6 m (lrp q r s)↔0<a6 m q):=by
 have hd:=Ca h;have k1:=hq m hm;have k2:=hr m hm;obtain⟨p1,p2⟩:=BG (x:=a6 m q) (y:=a6 m r) h0 h1;rw [nV];by_cases c:0<a6 m q
 ·have:=p1 c (hd.1 c);grind
 ·have:=p2 (by grind) (by grind);grind
theorem oJ (q r:Pq):lrp q r 0=q:=by unfold lrp;ext <;> simp only <;> grind
theorem r8 (q r:Pq):lrp q r 1=r:=by unfold lrp;ext <;> simp only <;> grind
theorem Jz {L:List Li}{P:Pq→Prop}:∀(n:Nat){q r:Pq},L.countP (ko q r)≤n→Off L q→Off L r→Lt L q r→(∀t,0≤t→t≤1→Off L (lrp q r t)→P (lrp q r t))→Way L P q r:=by
 intro n;induction n with
 |zero =>
  intro q r hn hq hr hg hp;have pq:P q:=by have:=hp 0 Rat.le_refl (by decide +kernel) (by rw [oJ];exact hq);rwa [oJ]at this
  have pr:P r:=by have:=hp 1 (by decide +kernel) Rat.le_refl (by rw [r8];exact hr);rwa [r8]at this
  refine .step ⟨hq,hr,pq,pr,⟨0,0,0⟩,fun m hm hd=>?_⟩ (.refl _);have:=List.countP_eq_zero.1 (Nat.le_zero.1 hn) m hm;exact absurd (bne_iff_ne.2 hd) this
 |succ n ih =>
  intro q r hn hq hr hg hp;have pq:P q:=by have:=hp 0 Rat.le_refl (by decide +kernel) (by rw [oJ];exact hq);rwa [oJ]at this
  have pr:P r:=by have:=hp 1 (by decide +kernel) Rat.le_refl (by rw [r8];exact hr);rwa [r8]at this
  by_cases hS:L.filter (ko q r)=[]
  ·refine .step ⟨hq,hr,pq,pr,⟨0,0,0⟩,fun m hm hd=>?_⟩ (.refl _);have:m∈L.filter (ko q r):=List.mem_filter.2 ⟨hm,bne_iff_ne.2 hd⟩;rw [hS]at this;cases this
  obtain⟨m1,hm1,min1⟩:=tP (eP q r) _ hS;obtain⟨l1,d1⟩:=List.mem_filter.1 hm1
  have same:∀m∈L,ko q r m=true→eP q r m=eP q r m1→m=m1∨m=m1.neg:=fun m hm hd he =>
   hg m1 l1 m hm (eP q r m1) (by rw [(nZ l1 hq hr d1 _).1];grind) (by rw [(nZ hm hq hr hd _).1];grind)
  by_cases hS2:(L.filter (ko q r)).filter (fun m=>decide (eP q r m≠eP q r m1))=[]
  ·refine .step ⟨hq,hr,pq,pr,m1,fun m hm hd=>?_⟩ (.refl _);have hd:=bne_iff_ne.2 hd;refine same m hm hd (Classical.byContradiction fun c=>?_);have:m∈(L.filter (ko q r)).filter (fun m=>decide (eP q r m≠eP q r m1)):=List.mem_filter.2 ⟨List.mem_filter.2 ⟨hm,hd⟩,decide_eq_true c⟩;rw [hS2]at this;cases this
  obtain⟨m2,hm2,min2⟩:=tP (eP q r) _ hS2;obtain⟨hm2',ne2⟩:=List.mem_filter.1 hm2;obtain⟨l2,d2⟩:=List.mem_filter.1 hm2';have ne2:=of_decide_eq_true ne2;have lt12:eP q r m1<eP q r m2:=by have:=min1 m2 hm2';grind
  have b1:=(nZ l1 hq hr d1 0).2;have b2:=(nZ l2 hq hr d2 0).2
  have hsp:∀m∈L,ko q r m=true→(eP q r m=eP q r m1)∨eP q r m2≤eP q r m:=fun m hm hd=>by
   by_cases c:eP q r m=eP q r m1
   ·exact .inl c
   ·exact .inr (min2 m (List.mem_filter.2 ⟨List.mem_filter.2 ⟨hm,hd⟩,decide_eq_true c⟩))
  obtain⟨s,hs1,hs2⟩:∃s,eP q r m1<s∧s<eP q r m2:=⟨(eP q r m1+eP q r m2)/2,by grind,by grind⟩
  have s0:0≤s:=by grind
  have s1:s≤1:=by grind
  have vals:∀m∈L,ko q r m=true→a6 m (lrp q r s)≠0∧(eP q r m=eP q r m1→(0<a6 m (lrp q r s)↔0<a6 m r))∧(eP q r m2≤eP q r m→(0<a6 m (lrp q r s)↔0<a6 m q)):=fun m hm hd=>by
   obtain⟨e,_,_⟩:=nZ hm hq hr hd s;have dv:=C9 hm hq hr hd;rw [e];rcases hsp m hm hd with c|c
   ·have hneg:eP q r m-s<0:=by grind
    generalize eP q r m-s=u at *;rcases dv with⟨p1,p2⟩|⟨p1,p2⟩
    ·have:=Rat.mul_pos (show 0 < -u by grind) (show 0<a6 m q-a6 m r by grind);refine⟨by grind,fun _=>⟨fun h=>?_,fun h=>?_⟩,fun h=>?_⟩
     ·grind
     ·grind
     ·grind
    ·have:=Rat.mul_pos (show 0 < -u by grind) (show 0<a6 m r-a6 m q by grind);refine⟨by grind,fun _=>⟨fun h=>?_,fun h=>?_⟩,fun h=>?_⟩
     ·grind
     ·grind
     ·grind
   ·have hpos:0<eP q r m-s:=by grind
    have hne:eP q r m≠eP q r m1:=by grind
    generalize eP q r m-s=u at *;rcases dv with⟨p1,p2⟩|⟨p1,p2⟩
    ·have:=Rat.mul_pos hpos (show 0<a6 m q-a6 m r by grind);exact⟨by grind,fun h=>absurd h hne,fun _=>⟨fun _=>p1,fun _=>this⟩⟩
    ·have:=Rat.mul_pos hpos (show 0<a6 m r-a6 m q by grind);exact⟨by grind,fun h=>absurd h hne,fun _=>⟨fun h=>by grind,fun h=>by grind⟩⟩
  have hoS:Off L (lrp q r s):=fun m hm=>by
   by_cases hd:ko q r m=true
   ·exact(vals m hm hd).1
   ·exact(te hm hq hr hd s0 s1).1
  have ps:=hp s s0 s1 hoS;refine .step (r:=lrp q r s) ⟨hq,hoS,pq,ps,m1,fun m hm hd=>?_⟩ (ih ?_ hoS hr ?_ ?_)
  ·by_cases hd2:ko q r m=true
   ·rcases hsp m hm hd2 with c|c
    ·exact same m hm hd2 c
    ·exact absurd (by unfold sd;rw [decide_eq_decide];exact((vals m hm hd2).2.2 c).symm) hd
   ·exact absurd (by unfold sd;rw [decide_eq_decide];exact(te hm hq hr hd2 s0 s1).2.symm) hd
  ·have:=nI (p:=ko (lrp q r s) r) (q:=ko q r) (x0:=m1) (L:=L) (fun m hm hd=>?_) l1 d1 ?_
   ·omega
   ·apply Classical.byContradiction;intro hd2;have k1:=(te hm hq hr hd2 s0 s1).2;have k2:=Ca hd2;refine absurd hd ?_;unfold ko sd;rw [bne_iff_ne,ne_eq,Classical.not_not,decide_eq_decide,k1,k2]
   ·have:=(vals m1 l1 d1).2.1 rfl;unfold ko sd;rw [bne_eq_false_iff_eq,decide_eq_decide,this]
  ·intro m hm k hk t h1 h2;rw [BH]at h1 h2;exact hg m hm k hk _ h1 h2
  ·intro t t0 t1 ho;rw [BH]at ho⊢;have e1:=Rat.mul_nonneg t0 (show 0≤1-s by grind);have e2:=Rat.mul_nonneg (show 0≤1-t by grind) (show 0≤1-s by grind);exact hp _ (by grind) (by grind) ho
abbrev Af:=Rat×Rat×Rat
def aEv (f:Af) (q:Pq):Rat:=f.1*q.1+f.2.1*q.2+f.2.2
abbrev Li.af (m:Li):Af:=((m.a:Rat),(m.b:Rat),(m.c:Rat))
theorem qx (m:Li) (q:Pq):aEv m.af q=a6 m q:=rfl
def Lp (f:Af):Af:=(-f.1,-f.2.1,-f.2.2)
theorem GO (f:Af) (q:Pq):aEv (Lp f) q = -aEv f q:=by unfold aEv Lp;grind
theorem GP (f:Af) (q v:Pq) (t:Rat):aEv f (cA q t v)=aEv f q+t*(f.1*v.1+f.2.1*v.2):=by unfold aEv cA;grind
abbrev aIn (fs:List Af) (q:Pq):Prop:=∀f∈fs,0<aEv f q
theorem HI {fs:List Af}{q:Pq}(h:aIn fs q) (v:Pq):∃e:Rat,0<e∧∀t,0<t→t≤e→aIn fs (cA q t v):=by
 obtain⟨e,e0,he⟩:=fJ (fun f:Af=>aEv f q) (fun f=>f.1*v.1+f.2.1*v.2) fs h;exact⟨e,e0,fun t t0 t1 f hf=>by rw [GP];exact he f hf t t0 t1⟩
theorem HX {a b:Rat}(h:a≠0∨b≠0):0<a*a+b*b:=by
 have sq:∀x:Rat,0≤x*x:=fun x=>by
  rcases(by grind:0≤x∨0≤-x)with h|h
  ·exact Rat.mul_nonneg h h
  ·have:=Rat.mul_nonneg h h;grind
 have sp:∀x:Rat,x≠0→0<x*x:=fun x hx=>by
  rcases(by grind:0<x∨0 < -x)with h|h
  ·exact Rat.mul_pos h h
  ·have:=Rat.mul_pos h h;grind
 rcases h with h|h
 ·have:=sp a h;have:=sq b;grind
 ·have:=sp b h;have:=sq a;grind
theorem Lo:∀(gs fs:List Af){q:Pq},(∀g∈gs,g.1≠0∨g.2.1≠0)→aIn fs q→∃r,aIn fs r∧∀g∈gs,aEv g r≠0
 | [],_,q,_,h=>⟨q,h,fun _ hm=>by cases hm⟩
 |g::gs,fs,q,hg,h=>by
  have hg0:=hg g Ms;have hgs:∀x∈gs,x.1≠0∨x.2.1≠0:=fun x hx=>hg x (Mc hx)
  obtain⟨r,r1,r2⟩:∃r,aIn fs r∧aEv g r≠0:=by
   by_cases e:aEv g q=0
   ·obtain⟨t,t0,ht⟩:=HI h (g.1,g.2.1);refine⟨_,ht t t0 Rat.le_refl,?_⟩;rw [GP,e];have:=Rat.mul_pos t0 (HX hg0);simp only;grind
   ·exact⟨q,h,e⟩
  obtain⟨z,z1,z2⟩:=Lo gs ((if 0<aEv g r then g else Lp g)::fs) (q:=r) hgs fun f hf=>by
   rcases List.mem_cons.1 hf with rfl|hf
   ·split
    ·assumption
    ·rw [GO];grind
   ·exact r1 f hf
  refine⟨z,fun f hf=>z1 f (Mc hf),fun x hx=>?_⟩;rcases List.mem_cons.1 hx with rfl|hx
  ·have:=z1 _ Ms;split at this
   ·grind
   ·rw [GO]at this;grind
  ·exact z2 x hx
theorem sD {m k:Li}(hm:m.ok) (hk:k.ok){x y:Rat}(hx:x≠0) (hy:y≠0) (ha:x*k.a=y*m.a) (hb:x*k.b=y*m.b) (hc:x*k.c=y*m.c):k=m∨k=m.neg:=by
 have ng:∀x y:Rat,0<x→0 < -y→x*k.a=y*m.a→x*k.b=y*m.b→x*k.c=y*m.c→k=m.neg:=fun x y hx hy ha hb hc =>
  Li.prop_eqR hk (Li.ok.neg hm) hx hy (by unfold Li.neg;simp only [Rat.intCast_neg];grind) (by unfold Li.neg;simp only [Rat.intCast_neg];grind) (by unfold Li.neg;simp only [Rat.intCast_neg];grind)
 rcases(by grind:0<x∨0 < -x)with h1|h1 <;> rcases(by grind:0<y∨0 < -y)with h2|h2
 ·exact .inl (Li.prop_eqR hk hm h1 h2 ha hb hc)
 ·exact .inr (ng x y h1 h2 ha hb hc)
 ·exact .inr (ng (-x) (-y) h1 (by grind) (by grind) (by grind) (by grind))
 ·exact .inl (Li.prop_eqR hk hm h1 h2 (by grind) (by grind) (by grind))
def aCr (q:Pq) (m k:Li):Af:=(a6 m q*k.a-a6 k q*m.a,a6 m q*k.b-a6 k q*m.b,a6 m q*k.c-a6 k q*m.c)
theorem LZ (q r:Pq) (m k:Li):aEv (aCr q m k) r=a6 m q*a6 k r-a6 k q*a6 m r:=by unfold aEv aCr a6;grind
theorem Lc {L:List Li}(hL:∀l∈L,l.ok){q r:Pq}(hq:Off L q) (H:∀m∈L,∀k∈L,((aCr q m k).1≠0∨(aCr q m k).2.1≠0)→aEv (aCr q m k) r≠0):Lt L q r:=by
 intro m hm k hk t h1 h2;by_cases c:(aCr q m k).1≠0∨(aCr q m k).2.1≠0
 ·refine absurd ?_ (H m hm k hk c);rw [LZ];rw [nV]at h1 h2;have:=hq m hm;generalize a6 m q=a at *;generalize a6 k q=b at *;generalize a6 m r=c at *;generalize a6 k r=d at *;by_cases t0:t=0
  ·subst t0;grind
  ·refine(Rat.mul_eq_zero.1 (show t*(a*d-b*c)=0 by grind)).resolve_left t0
 ·have h3:(aCr q m k).1=0:=Classical.byContradiction fun h=>c (.inl h)
  have h4:(aCr q m k).2.1=0:=Classical.byContradiction fun h=>c (.inr h)
  unfold aCr at h3 h4;simp only at h3 h4;refine sD (hL m hm) (hL k hk) (hq m hm) (hq k hk) (by grind) (by grind) ?_;have e:a6 m q*a6 k q=a6 k q*a6 m q:=Rat.mul_comm _ _;conv at e=>lhs;rhs;unfold a6
  conv at e=>rhs;rhs;unfold a6
  grind
theorem Hm {L:List Li}(hL:∀l∈L,l.ok){P:Pq→Prop}{ls:List Li}{q r:Pq}(hq:Off L q) (hr:Off L r) (iq:Inn ls q) (ir:Inn ls r) (hp:∀s,Off L s→Inn ls s→P s):Way L P q r:=by
 obtain⟨z,z1,z2⟩:=Lo ((L.flatMap fun m=>L.map fun k=>aCr q m k).filter fun g=>decide (g.1≠0∨g.2.1≠0)) (ls.map Li.af++L.map fun m=>if 0<a6 m r then m.af else m.neg.af) (q:=r) (fun g hg=>of_decide_eq_true (List.mem_filter.1 hg).2) fun f hf=>by
  rcases List.mem_append.1 hf with hf|hf
  ·obtain⟨l,hl,rfl⟩:=List.mem_map.1 hf;exact ir l hl
  ·obtain⟨m,hm,rfl⟩:=List.mem_map.1 hf;split
   ·rw [qx];assumption
   ·have:=hr m hm;rw [qx,bI];grind
 have hz:Inn ls z:=fun l hl=>z1 _ (List.mem_append_left _ (List.mem_map.2 ⟨l,hl,rfl⟩))
 have hsd:∀m∈L,a6 m z≠0∧(0<a6 m z↔0<a6 m r):=fun m hm=>by
  have:=z1 _ (List.mem_append_right _ (List.mem_map.2 ⟨m,hm,rfl⟩));split at this
  ·rw [qx]at this;grind
  ·rw [qx,bI]at this;grind
 have hzo:Off L z:=fun m hm=>(hsd m hm).1
 have hg:Lt L q z:=Lc hL hq fun m hm k hk hc=>z2 _ (List.mem_filter.2 ⟨List.mem_flatMap.2 ⟨m,hm,List.mem_map.2 ⟨k,hk,rfl⟩⟩,decide_eq_true hc⟩)
 refine(Jz _ (Nat.le_refl _) hq hzo hg fun t t0 t1 ho=>hp _ ho (rv ls z q t hz iq t0 t1)).trans (.step ⟨hzo,hr,hp _ hzo hz,hp _ hr ir,⟨0,0,0⟩,fun m hm hd=>?_⟩ (.refl _));refine absurd ?_ hd;unfold sd;rw [decide_eq_decide,(hsd m hm).2]
theorem Fo {l m:Li}(hl:l.ok) (hm:m.ok) (hs:slp l m=0){p:Pq}(h1:a6 l p=0) (h2:a6 m p=0):m=l∨m=l.neg:=by
 have hn:=dA hl
 have hy:(m.a:Rat)*l.a+m.b*l.b≠0:=fun e=>by
  unfold slp at hs;have e1:((l.a:Rat)*l.a+l.b*l.b)*m.a=0:=by grind
  have e2:((l.a:Rat)*l.a+l.b*l.b)*m.b=0:=by grind
  have n0:(l.a:Rat)*l.a+l.b*l.b≠0:=by grind
  have f1:=(Rat.mul_eq_zero.1 e1).resolve_left n0;have f2:=(Rat.mul_eq_zero.1 e2).resolve_left n0;rcases hm.2 with r|r
  ·exact r (Rat.intCast_eq_zero_iff.1 f1)
  ·exact r (Rat.intCast_eq_zero_iff.1 f2)
 unfold slp at hs;refine sD hl hm (x:=(l.a:Rat)*l.a+l.b*l.b) (by grind) hy (by grind) (by grind) ?_;unfold a6 at h1 h2;grind
def aGp (l m:Li):Af:=(slp l m,0,a6 m (aD l))
theorem AT (l m:Li) (q:Pq):aEv (aGp l m) q=a6 m (atL l q.1):=by rw [bq];unfold aEv aGp;grind
open Classical in
theorem EE {L a b:List Li}(hL:∀l∈L,l.ok) (ha:∀l∈a,l.ok) (ia:∃q,Inn a q) (ib:∃q,Inn b q) (h:Shr a b):∃q r,Off L q∧Off L r∧Inn a q∧Inn b r∧∃l,∀m∈L,sd m q≠sd m r→m=l∨m=l.neg:=by
 obtain⟨l,hla,hlb,t0,ht0⟩:=h;obtain⟨_,ia⟩:=ia;obtain⟨_,ib⟩:=ib;have hl:=ha l hla;have na:l.neg∉a:=wv ia hla;have nb:l∉b:=by have:=wv ib hlb;rwa [du]at this
 obtain⟨p,hp0,hp1,hp2⟩:∃p,a6 l p=0∧(∀m,m∈a∨m∈b→m≠l→m≠l.neg→0<a6 m p)∧∀m∈L,m≠l→m≠l.neg→a6 m p≠0:=by
  obtain⟨z,z1,z2⟩:=Lo ((L.map (aGp l)).filter fun g=>decide (g.1≠0∨g.2.1≠0)) (((a++b).filter fun m=>decide (m≠l∧m≠l.neg)).map (aGp l)) (q:=(t0,0)) (fun g hg=>of_decide_eq_true (List.mem_filter.1 hg).2) fun f hf=>by
   obtain⟨m,hm,rfl⟩:=List.mem_map.1 hf;obtain⟨h1,h2⟩:=List.mem_filter.1 hm;have h2:=of_decide_eq_true h2;rw [AT];exact ht0 m (List.mem_append.1 h1) h2.1 h2.2
  refine⟨atL l z.1,iF hl _,fun m hm n1 n2=>?_,fun m hm n1 n2 e=>?_⟩
  ·rw [←AT];exact z1 _ (List.mem_map.2 ⟨m,List.mem_filter.2 ⟨List.mem_append.2 hm,decide_eq_true ⟨n1,n2⟩⟩,rfl⟩)
  ·by_cases c:slp l m=0
   ·rcases Fo hl (hL m hm) c (iF hl z.1) e with h|h
    ·exact n1 h
    ·exact n2 h
   ·refine z2 (aGp l m) (List.mem_filter.2 ⟨List.mem_map.2 ⟨m,hm,rfl⟩,decide_eq_true (.inl c)⟩) ?_;rw [AT];exact e
 have hfs:aIn (((a++b).filter fun m=>decide (m≠l∧m≠l.neg)).map Li.af++(L.filter fun m=>decide (m≠l∧m≠l.neg)).map fun m=>if 0<a6 m p then m.af else m.neg.af) p:=fun f hf=>by
  rcases List.mem_append.1 hf with hf|hf
  ·obtain⟨m,hm,rfl⟩:=List.mem_map.1 hf;obtain⟨h1,h2⟩:=List.mem_filter.1 hm;have h2:=of_decide_eq_true h2;exact hp1 m (List.mem_append.1 h1) h2.1 h2.2
  ·obtain⟨m,hm,rfl⟩:=List.mem_map.1 hf;obtain⟨h1,h2⟩:=List.mem_filter.1 hm;have h2:=of_decide_eq_true h2;split
   ·rw [qx];assumption
   ·have:=hp2 m h1 h2.1 h2.2;rw [qx,bI];grind
 have use:∀q,aIn (((a++b).filter fun m=>decide (m≠l∧m≠l.neg)).map Li.af++(L.filter fun m=>decide (m≠l∧m≠l.neg)).map fun m=>if 0<a6 m p then m.af else m.neg.af) q→(∀m,m∈a∨m∈b→m≠l→m≠l.neg→0<a6 m q)∧∀m∈L,m≠l→m≠l.neg→a6 m q≠0∧(0<a6 m q↔0<a6 m p):=fun q hq=>by
  refine⟨fun m hm n1 n2=>?_,fun m hm n1 n2=>?_⟩
  ·exact hq m.af (List.mem_append_left _ (List.mem_map.2 ⟨m,List.mem_filter.2 ⟨List.mem_append.2 hm,decide_eq_true ⟨n1,n2⟩⟩,rfl⟩))
  ·have:=hq _ (List.mem_append_right _ (List.mem_map.2 ⟨m,List.mem_filter.2 ⟨hm,decide_eq_true ⟨n1,n2⟩⟩,rfl⟩));split at this
   ·rw [qx]at this;grind
   ·rw [qx,bI]at this;grind
 obtain⟨e1,p1,k1⟩:=HI hfs ((l.a:Rat),(l.b:Rat));obtain⟨e2,p2,k2⟩:=HI hfs (-(l.a:Rat),-(l.b:Rat));have hn:=dA hl;obtain⟨q1,q2⟩:=use _ (k1 e1 p1 Rat.le_refl);obtain⟨r1,r2⟩:=use _ (k2 e2 p2 Rat.le_refl)
 have vq:0<a6 l (cA p e1 ((l.a:Rat),(l.b:Rat))):=by
  have:=Rat.mul_pos p1 hn;unfold a6 cA at *;grind
 have vr:a6 l (cA p e2 (-(l.a:Rat),-(l.b:Rat)))<0:=by
  have:=Rat.mul_pos p2 hn;unfold a6 cA at *;grind
 generalize cA p e1 ((l.a:Rat),(l.b:Rat))=q at *;generalize cA p e2 (-(l.a:Rat),-(l.b:Rat))=r at *;refine⟨q,r,fun m hm=>?_,fun m hm=>?_,fun m hm=>?_,fun m hm=>?_,l,fun m hm hd=>?_⟩
 ·by_cases c1:m=l
  ·rw [c1];grind
  ·by_cases c2:m=l.neg
   ·rw [c2,bI];grind
   ·exact(q2 m hm c1 c2).1
 ·by_cases c1:m=l
  ·rw [c1];grind
  ·by_cases c2:m=l.neg
   ·rw [c2,bI];grind
   ·exact(r2 m hm c1 c2).1
 ·by_cases c1:m=l
  ·rw [c1];exact vq
  ·exact q1 m (.inl hm) c1 fun c2=>na (c2▸hm)
 ·by_cases c2:m=l.neg
  ·rw [c2,bI];grind
  ·exact r1 m (.inr hm) (fun c1=>nb (c1▸hm)) c2
 ·apply Classical.byContradiction;intro c;have c1:m≠l:=fun h=>c (.inl h)
  have c2:m≠l.neg:=fun h=>c (.inr h)
  refine hd ?_;unfold sd;rw [decide_eq_decide,(q2 m hm c1 c2).2,(r2 m hm c1 c2).2]
abbrev zw (L a:List Li):Prop:=∀m∈a,m∈L∨m.neg∈L
theorem vS {L a:List Li}(hs:zw L a){m:Li}(hm:m∈a){q:Pq}(hq:Off L q):a6 m q≠0:=by
 rcases hs m hm with h|h
 ·exact hq m h
 ·have:=hq _ h;rw [bI]at this;grind
theorem qL {L a:List Li}(hs:zw L a){l:Li}{q r:Pq}(hl:∀m∈L,sd m q≠sd m r→m=l∨m=l.neg) (hq:Off L q) (hr:Off L r){m:Li}(hm:m∈a) (hd:¬(0<a6 m q↔0<a6 m r)):m=l∨m=l.neg:=by
 rcases hs m hm with h|h
 ·exact hl m h fun e=>hd (by unfold sd at e;rwa [decide_eq_decide]at e)
 ·have h0:=vS hs hm hq;have h1:=vS hs hm hr;rcases hl _ h (fun e=>hd (by unfold sd at e;rw [decide_eq_decide,bI,bI]at e;grind))with e|e
  ·exact .inr (by rw [←e,du])
  ·exact .inl (by rw [←du m,e,du])
theorem Eo {L a b:List Li}(sa:zw L a) (sb:zw L b) (ha:∀l∈a,l.ok){q r:Pq}(hq:Off L q) (hr:Off L r) (iq:Inn a q) (ir:Inn b r) (nr:¬Inn a r) (nq:¬Inn b q){l:Li}(hl:∀m∈L,sd m q≠sd m r→m=l∨m=l.neg):Shr a b:=by
 obtain⟨x,hx,nx⟩:∃x∈a,¬0<a6 x r:=by
  apply Classical.byContradiction;intro c;exact nr fun m hm=>Classical.byContradiction fun d=>c ⟨m,hm,d⟩
 obtain⟨y,hy,ny⟩:∃y∈b,¬0<a6 y q:=by
  apply Classical.byContradiction;intro c;exact nq fun m hm=>Classical.byContradiction fun d=>c ⟨m,hm,d⟩
 have px:=iq x hx;have py:=ir y hy;have ex:=qL sa hl hq hr hx fun e=>nx (e.1 px)
 have ey:=qL sb hl hq hr hy fun e=>ny (e.2 py)
 have hyx:y=x.neg:=by
  rcases ex with rfl|rfl <;> rcases ey with rfl|rfl
  ·exact absurd px ny
  ·rfl
  ·rw [du]
  ·exact absurd px ny
 subst hyx;have hxr:a6 x r<0:=by have:=vS sa hx hr;grind
 have hok:=ha x hx;have e:a6 x q/(a6 x q-a6 x r)*(a6 x q-a6 x r)=a6 x q:=Rat.div_mul_cancel (by grind);generalize hs:a6 x q/(a6 x q-a6 x r)=s at e
 have hs0:0≤s:=by
  apply Classical.byContradiction;intro c;have:=Rat.mul_le_mul_of_nonneg_right (show s≤0 by grind) (show 0≤a6 x q-a6 x r by grind);grind
 have hs1:s≤1:=by
  apply Classical.byContradiction;intro c;have:=Rat.mul_le_mul_of_nonneg_right (show 1≤s by grind) (show 0≤a6 x q-a6 x r by grind);grind
 have hp:a6 x (lrp q r s)=0:=by rw [nV];grind
 refine⟨x,hx,hy,cl x (lrp q r s),fun m hm n1 n2=>?_⟩;rw [nP hok hp,nV]
 have key:0<a6 m q∧0<a6 m r:=by
  rcases hm with hm|hm
  ·have h0:=iq m hm;refine⟨h0,Classical.byContradiction fun c=>?_⟩;rcases qL sa hl hq hr hm fun e=>c (e.1 h0)with e|e <;> rcases ex with e2|e2
   ·exact n1 (e.trans e2.symm)
   ·exact n2 (by rw [e,e2,du])
   ·exact n2 (by rw [e,e2])
   ·exact n1 (e.trans e2.symm)
  ·have h0:=ir m hm;refine⟨Classical.byContradiction fun c=>?_,h0⟩;rcases qL sb hl hq hr hm fun e=>c (e.2 h0)with e|e <;> rcases ex with e2|e2
   ·exact n1 (e.trans e2.symm)
   ·exact n2 (by rw [e,e2,du])
   ·exact n2 (by rw [e,e2])
   ·exact n1 (e.trans e2.symm)
 exact(BG hs0 hs1).1 key.1 key.2
end Go.Ab
namespace Go.Ab
open Go.Proofs
variable [Base]
theorem ii (g:Nat→Nat) (a b j:Nat):lP g a b j=if g j=max (g a) (g b)then min (g a) (g b)else g j:=rfl
theorem ll (w:Nat→Bool) (T:Nat→Nat→Bool) (g:Nat→Nat) (p:Nat×Nat):fV w T g p=g∨((w p.1=true∧w p.2=true∧T p.1 p.2=true∧g p.1≠g p.2)∧fV w T g p=lP g p.1 p.2):=by
 unfold fV jN;split
 ·rename_i h;rw [Bool.and_eq_true]at h;split
  ·rename_i k;exact .inr ⟨⟨h.1,h.2,k.2,k.1⟩,rfl⟩
  ·exact .inl rfl
 ·exact .inl rfl
theorem GJ {w:Nat→Bool}{T:Nat→Nat→Bool}{E:Nat→Nat→Prop}(hs:∀{i k},E i k→E k i) (ht:∀{i j k},E i j→E j k→E i k):∀(ps:List (Nat×Nat)) (g:Nat→Nat),(∀p∈ps,w p.1=true→w p.2=true→T p.1 p.2=true→E p.1 p.2)→(∀i,E i (g i))→∀i,E i (ps.foldl (fV w T) g i)
 | [],_,_,h=>h
 |p::ps,g,hp,h=>by
  rw [List.foldl_cons];refine GJ (E:=E) (w:=w) (T:=T) hs ht ps _ (fun q hq=>hp q (Mc hq)) fun i=>?_
  rcases ll w T g p with e|⟨⟨h1,h2,h3,_⟩,e⟩
  ·rw [e];exact h i
  ·rw [e,ii];split
   ·rename_i c;have ab:=hp p List.mem_cons_self h1 h2 h3;have hab:E (g p.1) (g p.2):=ht (hs (h p.1)) (ht ab (h p.2));have hi:=h i;rw [c]at hi;rcases Nat.le_total (g p.1) (g p.2)with le|le
    ·rw [Nat.max_eq_right le]at hi;rw [Nat.min_eq_left le];exact ht hi (hs hab)
    ·rw [Nat.max_eq_left le]at hi;rw [Nat.min_eq_right le];exact ht hi hab
   ·exact h i
theorem xy {w:Nat→Bool}{T:Nat→Nat→Bool}{g:Nat→Nat}{p:Nat×Nat}{i k:Nat}(h:g i=g k):fV w T g p i=fV w T g p k:=by
 rcases ll w T g p with e|⟨_,e⟩
 ·rw [e,h]
 ·rw [e,ii,ii,h]
theorem yP {w:Nat→Bool}{T:Nat→Nat→Bool}{i k:Nat}:∀(ps:List (Nat×Nat)) (g:Nat→Nat),g i=g k→ps.foldl (fV w T) g i=ps.foldl (fV w T) g k
 | [],_,h=>h
 |p::ps,g,h=>by rw [List.foldl_cons];exact yP ps _ (xy h)
theorem pU {w:Nat→Bool}{T:Nat→Nat→Bool}{p:Nat×Nat}(h1:w p.1=true) (h2:w p.2=true) (h3:T p.1 p.2=true):∀(ps:List (Nat×Nat)) (g:Nat→Nat),p∈ps→ps.foldl (fV w T) g p.1=ps.foldl (fV w T) g p.2
 | [],_,h=>by cases h
 |q::ps,g,h=>by
  rw [List.foldl_cons];rcases List.mem_cons.1 h with rfl|h
  ·refine yP ps _ ?_;by_cases c:g p.1=g p.2
   ·exact xy c
   ·have e:fV w T g p=lP g p.1 p.2:=by
     unfold fV jN;rw [if_pos (by rw [h1,h2];rfl),if_pos ⟨c,h3⟩]
    rw [e,ii,ii];rcases Nat.lt_or_gt_of_ne c with lt|lt
    ·rw [if_neg om,if_pos om];omega
    ·rw [if_pos om,if_neg om];omega
  ·exact pU h1 h2 h3 ps _ h
theorem vz {w:Nat→Bool}{T:Nat→Nat→Bool}:∀(ps:List (Nat×Nat)) (g:Nat→Nat),(∀j,g (g j)=g j)→∀j,ps.foldl (fV w T) g (ps.foldl (fV w T) g j)=ps.foldl (fV w T) g j
 | [],_,h=>h
 |p::ps,g,h=>by
  rw [List.foldl_cons];refine vz ps _ fun j=>?_
  rcases ll w T g p with e|⟨⟨_,_,_,hne⟩,e⟩
  ·rw [e];exact h j
  ·rw [e]
   have hm:g (min (g p.1) (g p.2))=min (g p.1) (g p.2):=by
    rcases Nat.le_total (g p.1) (g p.2)with le|le
    ·rw [Nat.min_eq_left le];exact h _
    ·rw [Nat.min_eq_right le];exact h _
   have hj:=h j;rw [ii g p.1 p.2 j];split
   ·rw [ii,hm,if_neg om]
   ·rename_i c;rw [ii,hj,if_neg c]
theorem Bj {n i k:Nat}(h:k<i) (hi:i<n):(i,k)∈ie [] (List.range n):=by
 induction n with
 |zero=>omega
 |succ n ih =>
  rw [List.range_succ,ou];rw [List.mem_append];by_cases c:i<n
  ·exact .inl (ih c)
  ·refine .inr (List.mem_map.2 ⟨k,?_,?_⟩)
   ·rw [List.nil_append];exact List.mem_range.2 om
   ·rw [show n=i by omega]
def InC (l:Pts) (k:Nat) (q:Pq):Prop:=∃x,l[k]? = some x∧Inn (aa x.1) q
theorem gY {l:Pts}{k:Nat}{x:PC×Bool}(h:l[k]? = some x):inB l k=x.2∧clB l k=x.1:=by
 unfold inB clB;rw [List.getD,h];exact⟨rfl,rfl⟩
theorem j9 {l:Pts}{k:Nat}(h:inB l k=true):∃x,l[k]? = some x∧x.2=true:=by
 unfold inB at h;rw [List.getD]at h;cases e:l[k]? with
 |none=>rw [e]at h;cases h
 |some x=>rw [e]at h;exact⟨x,rfl,h⟩
theorem DP {l:Pts}{i k:Nat}(hi:inB l i=true) (hk:inB l k=true) (h:dD (clB l i) (clB l k)=true) (h':dD (clB l k) (clB l i)=true):eE l i=eE l k:=by
 obtain⟨x,hx,_⟩:=j9 hi;obtain⟨y,hy,_⟩:=j9 hk;have li:=(List.getElem?_eq_some_iff.1 hx).1;have lk:=(List.getElem?_eq_some_iff.1 hy).1;rw [p7];rcases Nat.lt_trichotomy i k with c|c|c
 ·exact(pU (p:=(k,i)) hk hi h' _ _ (Bj c lk)).symm
 ·rw [c]
 ·exact pU (p:=(i,k)) hi hk h _ _ (Bj c li)
theorem AO {l:Pts}{E:Nat→Nat→Prop}(h0:∀i,E i i) (hs:∀{i k},E i k→E k i) (ht:∀{i j k},E i j→E j k→E i k) (h:∀i k,inB l i=true→inB l k=true→dD (clB l i) (clB l k)=true→k<i→E i k) (i:Nat):E i (eE l i):=by
 rw [p7];exact GJ (E:=E) hs ht _ _ (fun p hp h1 h2 h3=>h _ _ h1 h2 h3 (F8 hp).2) h0 i
theorem DQ (l:Pts) (i:Nat):eE l (eE l i)=eE l i:=by
 rw [p7];exact vz _ _ (fun _=>rfl) i
theorem JQ (l:Pts) (i:Nat):inB l i=inB l (eE l i):=AO (E:=fun i k=>inB l i=inB l k) (fun _=>rfl) (fun h=>h.symm) (fun h k=>h.trans k) (fun _ _ h k _ _=>h.trans k.symm) i
theorem qf {L:List Li}(hL:∀l∈L,l.ok):∀(t:Tr) (c:List Li),t.lin L→(∀l∈c,l.ok)→zw L c→∀y∈aF t c,zw L y.1
 | .leaf i,c,_,hc,h,y,hy=>by
  unfold aF at hy;split at hy
  ·rw [List.mem_singleton.1 hy];exact fun m hm=>h m ((dV hc).1 hm).1
  ·cases hy
 | .node l a b,c,hn,hc,h,y,hy=>by
  have hl:=hL l hn.1;have hok:∀m∈aZ c,m.ok:=fun m hm=>hc m ((dV hc).1 hm).1
  have hsb:zw L (aZ c):=fun m hm=>h m ((dV hc).1 hm).1
  unfold aF at hy;split at hy
  ·rcases List.mem_append.1 hy with hy|hy
   ·refine qf hL a _ hn.2.1 (iJ hok hl) (fun m hm=>?_) y hy;rcases List.mem_append.1 hm with hm|hm
    ·exact hsb m hm
    ·rw [List.mem_singleton.1 hm];exact .inl hn.1
   ·refine qf hL b _ hn.2.2 (iJ hok (Li.ok.neg hl)) (fun m hm=>?_) y hy;rcases List.mem_append.1 hm with hm|hm
    ·exact hsb m hm
    ·rw [List.mem_singleton.1 hm];exact .inr (by rw [du];exact hn.1)
  ·cases hy
structure Cel (L:List Li) (t:Tr):Prop where
 ok:∀l∈L,l.ok
 g:Gd L t
theorem Cel.lok {L:List Li}{t:Tr}(h:Cel L t):t.lok:=cM h.ok h.g.1
theorem Cel.cr {L:List Li}{t:Tr}(h:Cel L t){x:PC×Bool}(hx:x∈a9 t []):cW x.1∧zw L (aa x.1):=by
 obtain⟨y,hy,hr⟩:=(oA h.lok h.g.2).left hx;exact⟨hr.p,fun m hm=>qf h.ok t [] h.g.1 (fun l h=>by cases h) (fun l h=>by cases h) y hy m ((hr.m m).1 hm)⟩
theorem Cel.dis {L:List Li}{t:Tr}(h:Cel L t){i k:Nat}{q:Pq}(hi:InC (a9 t []) i q) (hk:InC (a9 t []) k q):i=k:=by
 obtain⟨x,hx,xq⟩:=hi;obtain⟨y,hy,yq⟩:=hk;have hp:=List.pairwise_iff_getElem.1 (Ab.dis t [] cW.nil h.lok h.g.2).2;obtain⟨li,ei⟩:=List.getElem?_eq_some_iff.1 hx;obtain⟨lk,ek⟩:=List.getElem?_eq_some_iff.1 hy;rcases Nat.lt_trichotomy i k with c|c|c
 ·have:=hp i k li lk c q;rw [ei,ek]at this;exact absurd yq (this xq)
 ·exact c
 ·have:=hp k i lk li c q;rw [ei,ek]at this;exact absurd xq (this yq)
theorem Cel.cov {L:List Li}{t:Tr}(h:Cel L t){q:Pq}(hq:Off L q):∃k,InC (a9 t []) k q:=by
 obtain⟨k,x,h1,h2⟩:=zd hq t [] cW.nil h.lok h.g.1 h.g.2 (mw q);exact⟨k,x,h1,h2⟩
theorem Cel.flag {L:List Li}{t:Tr}(h:Cel L t){k:Nat}{q:Pq}(hk:InC (a9 t []) k q):inB (a9 t []) k=atT t q:=by
 obtain⟨x,hx,xq⟩:=hk;rw [(gY hx).1,xg h.lok h.g.2 hx xq]
theorem Cel.pt {L:List Li}{t:Tr}(h:Cel L t){k:Nat}(hk:inB (a9 t []) k=true):∃q,Off L q∧InC (a9 t []) k q:=by
 obtain⟨x,hx,_⟩:=j9 hk;obtain⟨q,hq⟩:=(h.cr (List.mem_of_getElem? hx)).1.inn;obtain⟨r,h1,h2⟩:=mr L h.ok hq;exact⟨r,h2,x,hx,h1⟩
abbrev InT (t:Tr) (q:Pq):Prop:=atT t q=true
theorem Cel.touch {L:List Li}{t:Tr}(h:Cel L t){i k:Nat}{x y:PC×Bool}(hx:(a9 t [])[i]? = some x) (hy:(a9 t [])[k]? = some y) (hne:i≠k):dD x.1 y.1=true↔Shr (aa x.1) (aa y.1) :=
 ui (h.cr (List.mem_of_getElem? hx)).1 (h.cr (List.mem_of_getElem? hy)).1 fun q h1 h2=>hne (h.dis ⟨x,hx,h1⟩ ⟨y,hy,h2⟩)
theorem Cel.grp_way {L:List Li}{t:Tr}(h:Cel L t){i k:Nat}(hg:eE (a9 t []) i=eE (a9 t []) k){q r:Pq}(hq:Off L q) (hr:Off L r) (iq:InC (a9 t []) i q) (kr:InC (a9 t []) k r) (tq:InT t q) (tr:InT t r):Way L (InT t) q r:=by
 have CE:∀{j:Nat}{a b:Pq},inB (a9 t []) j=true→Off L a→Off L b→InC (a9 t []) j a→InC (a9 t []) j b→Way L (InT t) a b:=by
  rintro j a b hj ha hb ⟨x,hx,xa⟩ ⟨y,hy,yb⟩;obtain rfl:=Option.some.inj (hx.symm.trans hy)
  exact Hm h.ok ha hb xa yb fun s _ hs=>by
   show atT t s=true
   rw [←h.flag ⟨x,hx,hs⟩];exact hj
 let E:Nat→Nat→Prop:=fun i k=>i=k∨(inB (a9 t []) i=true∧inB (a9 t []) k=true∧∀q r,Off L q→Off L r→InC (a9 t []) i q→InC (a9 t []) k r→Way L (InT t) q r)
 have h0:∀i,E i i:=fun i => .inl rfl
 have hs:∀{i k},E i k→E k i:=fun {i k} e=>by
  rcases e with e|⟨e1,e2,e3⟩
  ·exact .inl e.symm
  ·exact .inr ⟨e2,e1,fun q r hq hr a b=>(e3 r q hr hq b a).symm⟩
 have ht:∀{i j k},E i j→E j k→E i k:=fun {i j k} e f=>by
  rcases e with rfl|⟨e1,e2,e3⟩
  ·exact f
  rcases f with rfl|⟨f1,f2,f3⟩
  ·exact .inr ⟨e1,e2,e3⟩
  obtain⟨z,z1,z2⟩:=h.pt e2;exact .inr ⟨e1,f2,fun q r hq hr a b=>(e3 q z hq z1 a z2).trans (f3 z r z1 hr z2 b)⟩
 have hj:∀i k,inB (a9 t []) i=true→inB (a9 t []) k=true→dD (clB (a9 t []) i) (clB (a9 t []) k)=true→k<i→E i k:=fun i k hi hk htc hlt=>by
  obtain⟨x,hx,hx2⟩:=j9 hi;obtain⟨y,hy,hy2⟩:=j9 hk;rw [(gY hx).2,(gY hy).2]at htc;obtain⟨ox,sx⟩:=h.cr (List.mem_of_getElem? hx);obtain⟨oy,sy⟩:=h.cr (List.mem_of_getElem? hy);obtain⟨a,b,oa,ob,xa,yb,l,hl⟩:=EE h.ok ox.lok ox.inn oy.inn ((h.touch hx hy om).1 htc);have ia:InC (a9 t []) i a:=⟨x,hx,xa⟩
  have ib:InC (a9 t []) k b:=⟨y,hy,yb⟩
  have st:HK L (InT t) a b:=⟨oa,ob,by show atT t a=true;rw [←h.flag ia];exact hi,by show atT t b=true;rw [←h.flag ib];exact hk,l,hl⟩
  exact .inr ⟨hi,hk,fun q r hq hr c d=>(CE hi hq oa c ia).trans (.step st (CE hk ob hr ib d))⟩
 have e1:=AO (l:=a9 t []) h0 hs ht hj i;have e2:=AO (l:=a9 t []) h0 hs ht hj k;rw [hg]at e1;have hi:inB (a9 t []) i=true:=by rw [h.flag iq];exact tq
 rcases ht e1 (hs e2)with rfl|⟨_,_,e⟩
 ·exact CE hi hq hr iq kr
 ·exact e q r hq hr iq kr
theorem Cel.way_grp {L:List Li}{t:Tr}(h:Cel L t){q r:Pq}(w:Way L (InT t) q r):∀{i k:Nat},InC (a9 t []) i q→InC (a9 t []) k r→eE (a9 t []) i=eE (a9 t []) k:=by
 induction w with
 |refl q=>intro i k hi hk;rw [h.dis hi hk]
 |step s _ ih =>
  intro i k hi hk;obtain⟨j,hj⟩:=h.cov s.or;refine Eq.trans ?_ (ih hj hk);by_cases c:i=j
  ·rw [c]
  have bi:inB (a9 t []) i=true:=by rw [h.flag hi];exact s.pq
  have bj:inB (a9 t []) j=true:=by rw [h.flag hj];exact s.pr
  obtain⟨l,hl⟩:=s.one;have ni:¬InC (a9 t []) i _:=fun e=>c (h.dis e hj)
  have nj:¬InC (a9 t []) j _:=fun e=>c (h.dis hi e)
  obtain⟨x,hx,xq⟩:=hi;obtain⟨y,hy,yr⟩:=hj;obtain⟨ox,sx⟩:=h.cr (List.mem_of_getElem? hx);obtain⟨oy,sy⟩:=h.cr (List.mem_of_getElem? hy);have sh:=Eo sx sy ox.lok s.oq s.or xq yr (fun e=>ni ⟨x,hx,e⟩) (fun e=>nj ⟨y,hy,e⟩) hl;refine DP bi bj ?_ ?_
  ·rw [(gY hx).2,(gY hy).2];exact(h.touch hx hy c).2 sh
  ·rw [(gY hx).2,(gY hy).2];exact(h.touch hy hx fun e=>c e.symm).2 (rT sh)
theorem Way.mono {L:List Li}{P Q:Pq→Prop}(h:∀q,Off L q→P q→Q q){q r:Pq}(w:Way L P q r):Way L Q q r:=by
 induction w with
 |refl=>exact .refl _
 |step s _ ih=>exact .step ⟨s.oq,s.or,h _ s.oq s.pq,h _ s.or s.pr,s.one⟩ ih
theorem BJ {α β:Type} [BEq β] [LawfulBEq β]{R:α→β→Prop}:∀{A:List α}{B:List β},A.Nodup→(∀a∈A,∃b∈B,R a b)→(∀a∈A,∀c∈A,∀b,R a b→R c b→a=c)→A.length≤B.length
 | [],_,_,_,_=>Nat.zero_le _
 |a::A,B,hn,h1,h2=>by
  obtain⟨b,hb,hab⟩:=h1 a Ms;have hn:=List.nodup_cons.1 hn
  have:=BJ (A:=A) (B:=B.erase b) hn.2 (fun c hc=>by
   obtain⟨d,hd,hcd⟩:=h1 c (Mc hc);refine⟨d,(List.mem_erase_of_ne fun e=>?_).2 hd,hcd⟩;rw [e]at hcd;have:=h2 a List.mem_cons_self c (Mc hc) b hab hcd;rw [this]at hn;exact hn.1 hc) fun c hc d hd=>h2 c (Mc hc) d (Mc hd)
  rw [List.length_erase_of_mem hb]at this;have:=List.length_pos_of_mem hb;rw [List.length_cons];omega
def Mee (L:List Li) (t u:Tr) (i k:Nat):Prop:=∃q a b,Off L q∧InC (a9 t []) a q∧eE (a9 t []) a=i∧InC (a9 u []) b q∧eE (a9 u []) b=k∧InT t q∧InT u q
theorem Mee.symm {L:List Li}{t u:Tr}{i k:Nat}(h:Mee L t u i k):Mee L u t k i:=by
 obtain⟨q,a,b,h1,h2,h3,h4,h5,h6,h7⟩:=h;exact⟨q,b,a,h1,h4,h5,h2,h3,h7,h6⟩
structure Two (L:List Li) (t u:Tr):Prop where
 x:Cel L t
 y:Cel L u
 e:∀q,Off L q→atT t q=atT u q
theorem Two.symm {L:List Li}{t u:Tr}(h:Two L t u):Two L u t:=⟨h.y,h.x,fun q hq=>(h.e q hq).symm⟩
theorem Two.not {L:List Li}{t u:Tr}(h:Two L t u):Two L (aN t) (aN u):=⟨⟨h.x.ok,h.x.g.not⟩,⟨h.y.ok,h.y.g.not⟩,fun q hq=>by rw [qV,qV,h.e q hq]⟩
theorem Two.ex {L:List Li}{t u:Tr}(h:Two L t u){i:Nat}(hi:dO (a9 t []) i=true):∃k,dO (a9 u []) k=true∧k<(a9 u []).length∧Mee L t u i k:=by
 unfold dO at hi;rw [Bool.and_eq_true,decide_eq_true_iff]at hi;obtain⟨q,hq,iq⟩:=h.x.pt hi.1;obtain⟨b,hb⟩:=h.y.cov hq;have tq:InT t q:=by show atT t q=true;rw [←h.x.flag iq];exact hi.1
 have uq:InT u q:=by show atT u q=true;rw [←h.e q hq];exact tq
 have bb:inB (a9 u []) (eE (a9 u []) b)=true:=by rw [←JQ,h.y.flag hb];exact uq
 refine⟨eE (a9 u []) b,?_,?_,q,i,b,hq,iq,hi.2,hb,rfl,tq,uq⟩
 ·unfold dO;rw [bb,DQ,decide_eq_true rfl];rfl
 ·obtain⟨x,hx,_⟩:=j9 bb;exact(List.getElem?_eq_some_iff.1 hx).1
theorem Two.way {L:List Li}{t u:Tr}(h:Two L t u){q r:Pq}(w:Way L (InT t) q r):Way L (InT u) q r:=w.mono fun q hq hp=>by show atT u q=true;rw [←h.e q hq];exact hp
theorem Two.inj {L:List Li}{t u:Tr}(h:Two L t u){i j k:Nat}(h1:Mee L t u i k) (h2:Mee L t u j k):i=j:=by
 obtain⟨q,a,b,q1,q2,q3,q4,q5,q6,q7⟩:=h1;obtain⟨r,c,d,r1,r2,r3,r4,r5,r6,r7⟩:=h2;rw [←q3,←r3];exact h.x.way_grp (h.symm.way (h.y.grp_way (q5.trans r5.symm) q1 r1 q4 r4 q7 r7)) q2 r2
theorem Two.bnd {L:List Li}{t u:Tr}(h:Two L t u){i k:Nat}(hm:Mee L t u i k) (hb:er (a9 t []) i=false):er (a9 u []) k=false:=by
 obtain⟨q,a,b,q1,q2,q3,q4,q5,q6,q7⟩:=hm;rw [Hn]at hb⊢;obtain⟨j,x,hx,hx2,hxb⟩:=hb;rw [Bool.and_eq_true,decide_eq_true_iff]at hx2;obtain⟨ox,sx⟩:=h.x.cr (List.mem_of_getElem? hx);obtain⟨d,hd,ho⟩:=(jY ox).1 hxb;have hjb:inB (a9 t []) j=true:=by rw [(gY hx).1];exact hx2.1
 obtain⟨c,hc,hco⟩:=rJ h.x.ok ox.inn ho (S:=((List.range (a9 u []).length).filter fun m=>inB (a9 u []) m&&decide (eE (a9 u []) m=k)).map (clB (a9 u []))) fun r hr hi=>by
  have ir:InC (a9 t []) j r:=⟨x,hx,hi⟩
  have tr:InT t r:=by show atT t r=true;rw [←h.x.flag ir];exact hjb
  have ur:InT u r:=by show atT u r=true;rw [←h.e r hr];exact tr
  obtain⟨m,hm⟩:=h.y.cov hr;have hg:=h.y.way_grp (h.way (h.x.grp_way (hx2.2.trans q3.symm) hr q1 ir q2 tr q6)) hm q4;have hmb:=h.y.flag hm;obtain⟨y,hy,yr⟩:=hm;refine⟨clB (a9 u []) m,List.mem_map.2 ⟨m,List.mem_filter.2 ⟨List.mem_range.2 (List.getElem?_eq_some_iff.1 hy).1,?_⟩,rfl⟩,?_⟩
  ·rw [hmb,show atT u r=true from ur,decide_eq_true (hg.trans q5)];rfl
  ·rw [(gY hy).2];exact yr
 obtain⟨m,hm,rfl⟩:=List.mem_map.1 hc;obtain⟨hm1,hm2⟩:=List.mem_filter.1 hm;rw [Bool.and_eq_true,decide_eq_true_iff]at hm2;obtain⟨y,hy,hy2⟩:=j9 hm2.1;obtain⟨oy,sy⟩:=h.y.cr (List.mem_of_getElem? hy);refine⟨m,y,hy,?_,(jY oy).2 ⟨d,hd,?_⟩⟩
 ·rw [hy2,decide_eq_true hm2.2];rfl
 ·rw [←(gY hy).2];exact hco
theorem Two.le {L:List Li}{t u:Tr}(h:Two L t u) (p:Bool→Bool):((List.range (a9 t []).length).filter fun i=>dO (a9 t []) i&&p (er (a9 t []) i)).length≤((List.range (a9 u []).length).filter fun i=>dO (a9 u []) i&&p (er (a9 u []) i)).length:=by
 refine BJ (R:=Mee L t u) (List.nodup_range.filter _) (fun i hi=>?_) (fun i _ j _ k h1 h2=>h.inj h1 h2);have hi:=(List.mem_filter.1 hi).2;rw [Bool.and_eq_true]at hi;obtain⟨k,k1,k2,k3⟩:=h.ex hi.1;refine⟨k,List.mem_filter.2 ⟨List.mem_range.2 k2,?_⟩,k3⟩
 have e:er (a9 t []) i=er (a9 u []) k:=by
  cases e1:er (a9 t []) i with
  |false=>exact(h.bnd k3 e1).symm
  |true =>
   cases e2:er (a9 u []) k with
   |false=>rw [h.symm.bnd k3.symm e2]at e1;cases e1
   |true=>rfl
 rw [Bool.and_eq_true,k1,←e,hi.2];exact⟨rfl,rfl⟩
theorem Two.eq {L:List Li}{t u:Tr}(h:Two L t u) (p:Bool→Bool):((fR (a9 t []) t).filter fun c=>p c.2).length=((fR (a9 u []) u).filter fun c=>p c.2).length:=by
 have e:∀(l:Pts) (t:Tr),((fR l t).filter fun c=>p c.2).length=((List.range l.length).filter fun i=>dO l i&&p (er l i)).length:=fun l t=>by
  unfold fR;rw [List.filter_map,List.length_map,List.filter_filter];congr 1
  exact List.filter_congr fun i _=>by
   show(p (er l i)&&dO l i)=_
   rw [Bool.and_comm]
 rw [e,e];exact Nat.le_antisymm (h.le p) (h.symm.le p)
theorem Two.count {L:List Li}{t u:Tr}(h:Two L t u):(fR (a9 t []) t).length=(fR (a9 u []) u).length:=by
 have e:∀l:List (Tr×Bool),l.filter (fun _=>true)=l:=fun l=>List.filter_eq_self.2 fun _ _=>rfl
 have:=h.eq fun _=>true
 rwa [e,e]at this
theorem Two.holes {L:List Li}{t u:Tr}(h:Two L t u):(fC (fR (a9 t []) t)).length=(fC (fR (a9 u []) u)).length:=by
 unfold fC;rw [List.length_map,List.length_map];exact h.eq fun b=>b
theorem Dw {L:List Li}{t:Tr}{l:Li}(hs:∀m∈L++[l],m.sm) (ht:t.lin L):Two (L++[l]) (a8 t []) (a8 (.node l t t) []):=by
 have hok:=ln hs;have h1:t.lin (L++[l]):=Tr.lin.mono (fun m hm=>List.mem_append_left _ hm) ht;have h2:(Tr.node l t t).lin (L++[l]):=⟨List.mem_append_right _ Ms,h1,h1⟩
 refine⟨⟨hok,Gd.restr hok h1⟩,⟨hok,Gd.restr hok h2⟩,fun q hq=>?_⟩;rw [pE hok h1 hq,pE hok h2 hq];show atT t q=if 0<a6 l q then atT t q else atT t q
 split <;> rfl
theorem GH {L:List Li}{t:Tr}{l:Li}(hL:L.length≤24) (hs:∀m∈L,m.sm) (hg:Gd L t) (hl:l.sm):∃n h:Nat,CN t n h∧CN (.node l t t) n h:=by
 have hs2:∀m∈L++[l],m.sm:=fun m hm=>by
  rcases List.mem_append.1 hm with hm|hm
  ·exact hs m hm
  ·rw [List.mem_singleton.1 hm];exact hl
 have hlen:(L++[l]).length≤25:=by rw [List.length_append,List.length_singleton];omega
 have two:=Dw hs2 hg.1;have hd:=hg.dep;have hz:=hg.size (ln hs);have hm:L.length*(1+L.length)≤24*25:=Nat.mul_le_mul hL om;have c1:=He (t:=t) om hs hg.1 om om;have h1:t.lin (L++[l]):=Tr.lin.mono (fun m hm=>List.mem_append_left _ hm) hg.1;have c2:=He (t := .node l t t) hlen hs2 ⟨List.mem_append_right _ Ms,h1,h1⟩ (by simp only [aU];omega) (by simp only [cK];omega);have e1:(cV (a8 t [])).length=(cV (a8 (.node l t t) [])).length:=two.count;have e2:(fC (cV (aN (a8 t [])))).length=(fC (cV (aN (a8 (.node l t t) [])))).length:=two.not.holes;rw [←e1,←e2]at c2;exact⟨_,_,c1,c2⟩
theorem pn (zs:List Int) (hz:zs.length≤9223372036854775807):Pu Tryz.prog 5 [nsl .i64 zs] (lit (.bool true)):=by
 have hk:(zs.take (min zs.length 400)).length≤400:=by simp;omega
 have hnew:=FO zs hz;generalize zs.take (min zs.length 400)=ys at *;have hreg:=tc ys hk;have htl:=AZ ys hk;clear hz;refine Pi Tryz.func5 fun C=>?_
 repeat(refine A1 ⟨?_⟩;intros)
 refine WPL.callN hnew rfl rfl fun bb=>?_
 repeat(refine A1 ⟨?_⟩;intros)
 refine Wtx hreg mmA fun t=>?_
 obtain⟨t,L,h1,h2,h3⟩:=t;simp only [];repeat(refine A1 ⟨?_⟩;intros)
 refine Wtx htl mmA fun l=>?_
 obtain⟨l,hok,hle⟩:=l;simp only [];obtain⟨n,h,⟨w1,c1⟩,w2,c2⟩:=GH h1 h2 h3 ⟨hok,hle⟩;rw [show rt (.node l t t)=pt (rc (.node l t t))from rfl,eN]at w2;clear hreg htl hnew h1 h2 h3;repeat(first|(refine Wo (aB (sv:=ag _) rfl) ?_)|(refine Wdo (aB (sv:=ag _) rfl) ?_)|(refine A1 ⟨?_⟩;intros)|refine W4 w1 ⟨?_⟩|refine W4 c1 ⟨?_⟩|refine W4 w2 ⟨?_⟩|refine W4 c2 ⟨?_⟩|refine W4 yA ⟨?_⟩)
 exact E1
end Go.Ab
