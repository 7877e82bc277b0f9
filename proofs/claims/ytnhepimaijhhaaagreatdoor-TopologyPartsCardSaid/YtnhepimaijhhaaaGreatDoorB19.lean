/- Texts laid one behind the other: CvxE, CvxI, CvxR, CvxP. -/
import Derived.Test.YtnhepimaijhhaaaGreatDoorB17
import Derived.Test.YtnhepimaijhhaaaGreatDoorB18
set_option linter.all false
namespace Go.Ab
open Go.Proofs
variable [Base]
theorem bQ {x:Rat}:0<x.num.sign↔0<x:=by rw [Int.sign_pos_iff];exact qQ
theorem Df {x:Rat}:x.num<0↔x<0:=by
 have h1:0≤x.num↔0≤x:=Rat.num_nonneg
 constructor
 ·intro h
  exact Rat.not_le.1 fun k=>by have:=h1.2 k;omega
 ·intro h
  have:¬0≤x.num:=fun k=>Rat.not_le.2 h (h1.1 k)
  omega
theorem dZ {x:Rat}:x.num.sign<0↔x<0:=by rw [Int.sign_neg_iff];exact Df
theorem jr {x:Rat}:0≤x.num.sign↔0≤x:=by
 rw [←Int.not_lt,dZ,Rat.not_lt]
theorem Ic (l:Li):nS (aI l) (aI l)=(l.a:Rat)*l.a+l.b*l.b:=by unfold nS aI;simp only;grind
theorem FJ {l:Li}(h:l.ok):l.bf*((l.a:Rat)*l.a+l.b*l.b) = -l.c:=by
 have hn:=dB h
 unfold Li.bf
 rw [show(l.b:Rat)*l.b + -(l.a:Rat) * -(l.a:Rat)=(l.a:Rat)*l.a+l.b*l.b by grind]
 generalize(l.a:Rat)*l.a+l.b*l.b=n at *
 rw [Rat.neg_mul,Rat.div_mul_cancel (by grind)]
theorem uO {l:Li}(h:l.ok) (p:Pq):ce l p*((l.a:Rat)*l.a+l.b*l.b)=p.1*l.b-p.2*l.a:=by
 have hn:=dB h
 unfold ce
 rw [Ic,Rat.div_mul_cancel (by grind)]
 unfold nS aI;simp only;grind
theorem FN {l:Li}(t:Rat):atL l t=(l.bf*l.a+t*l.b,l.bf*l.b-t*l.a):=by
 unfold atL cT aB aI;refine Prod.ext ?_ ?_ <;> simp only <;> grind
theorem j6 {l:Li}(h:l.ok) (t:Rat):a7 l (atL l t)=0:=by
 have hb:=FJ h
 rw [FN];unfold a7;simp only;grind
theorem oZ {l:Li}(h:l.ok){p:Pq}(hp:a7 l p=0):atL l (ce l p)=p:=by
 have hn:=dB h
 have hb:=FJ h
 have hq:=uO h p
 rw [FN]
 obtain⟨x,y⟩:=p
 have hc:(l.c:Rat) = -(l.a*x+l.b*y):=by unfold a7 at hp;simp only at hp;grind
 generalize ce l (x,y)=t at *
 generalize l.bf=f at *
 simp only at hq
 rw [hc]at hb
 generalize(l.a:Rat)=a at *
 generalize(l.b:Rat)=b at *
 have hne:a*a+b*b≠0:=by grind
 simp only [Prod.mk.injEq]
 constructor
 ·refine jX hne ?_
  have:(a*a+b*b)*(f*a+t*b)=(f*(a*a+b*b))*a+(t*(a*a+b*b))*b:=by grind
  rw [this,hb,hq];grind
 ·refine jX hne ?_
  have:(a*a+b*b)*(f*b-t*a)=(f*(a*a+b*b))*b-(t*(a*a+b*b))*a:=by grind
  rw [this,hb,hq];grind
theorem HM {l m:Li}(h:df l m≠0):a7 l (bq l m)=0∧a7 m (bq l m)=0:=by
 have e1:∀x:Rat,x/df l m*df l m=x:=fun x=>Rat.div_mul_cancel h
 obtain⟨x,hx⟩:∃x,x=((l.b:Rat)*m.c-m.b*l.c)/df l m:=⟨_,rfl⟩
 obtain⟨y,hy⟩:∃y,y=((m.a:Rat)*l.c-l.a*m.c)/df l m:=⟨_,rfl⟩
 have hx':x*df l m=(l.b:Rat)*m.c-m.b*l.c:=by rw [hx];exact e1 _
 have hy':y*df l m=(m.a:Rat)*l.c-l.a*m.c:=by rw [hy];exact e1 _
 have:bq l m=(x,y):=by unfold bq;rw [←hx,←hy]
 rw [this]
 clear e1 hx hy this
 constructor
 ·refine jX h ?_
  unfold a7
  have:df l m*((l.a:Rat)*x+l.b*y+l.c)=l.a*(x*df l m)+l.b*(y*df l m)+l.c*df l m:=by grind
  simp only
  rw [this,hx',hy'];unfold df;grind
 ·refine jX h ?_
  unfold a7
  have:df l m*((m.a:Rat)*x+m.b*y+m.c)=m.a*(x*df l m)+m.b*(y*df l m)+m.c*df l m:=by grind
  simp only
  rw [this,hx',hy'];unfold df;grind
def slp (l m:Li):Rat:=(m.a:Rat)*l.b-m.b*l.a
theorem Bc (l m:Li):cO (aI m) (aI l)=slp l m:=by unfold cO aI slp;simp only;grind
theorem lz (l m:Li):df l m = - slp l m:=by unfold df slp;grind
theorem br (l m:Li) (t:Rat):a7 m (atL l t)=a7 m (aB l)+t*slp l m:=by
 rw [FN];unfold a7 slp aB;simp only;grind
theorem mS {l m:Li}(hl:l.ok) (h:df l m≠0) (t:Rat):a7 m (atL l t)=(t-ce l (bq l m))*slp l m:=by
 obtain⟨h1,h2⟩:=HM h
 have h3:=oZ hl h1
 have h4:=br l m (ce l (bq l m))
 rw [h3,h2]at h4
 rw [br];grind
def InS (s:Spn) (t:Rat):Prop:=(s.nl=true∨s.lo<t)∧(s.nh=true∨t<s.hi)
theorem ka {x y:Rat}(h:x<y):x<i7 x y∧i7 x y<y:=by unfold i7;grind
theorem eE {s:Spn}(h:bX s=false):InS s (aT s):=by
 obtain⟨lo,hi,nl,nh⟩:=s
 unfold bX at h
 unfold InS aT
 cases nl <;> cases nh <;> simp only [Bool.and_self,Bool.false_eq_true,if_false,if_true,Bool.and_true,Bool.and_false,true_or,false_or,true_and,and_true]
 ·have h':lo<hi:=by
   have:¬0≤(lo-hi).num.sign:=of_decide_eq_false h
   rw [jr]at this;grind
  exact ka h'
 ·grind
 ·grind
theorem gG {s:Spn}{t:Rat}(h:InS s t):bX s=false:=by
 unfold bX
 cases h1:s.nl with
 |true=>rfl
 |false =>
  cases h2:s.nh with
  |true=>rfl
  |false =>
   obtain⟨a,b⟩:=h
   rw [h1]at a;rw [h2]at b
   have a:=a.resolve_left (by decide)
   have b:=b.resolve_left (by decide)
   have:¬0≤(s.lo-s.hi).num.sign:=by rw [jr];grind
   rw [decide_eq_false this];rfl
theorem fB {x k:Rat}(hk:0<k):0<x*k↔0<x:=by
 rw [Rat.mul_comm];exact Rat.mul_pos_iff_of_pos_left hk
theorem xq {l m:Li}(hl:l.ok) (h:df l m≠0) (s:Spn) (t:Rat):InS (eC l m s) t↔InS s t∧0<a7 m (atL l t):=by
 rw [mS hl h]
 unfold eC
 rw [Bc]
 generalize ce l (bq l m)=u
 have hk:slp l m≠0:=fun e=>h (by rw [lz,e];rfl)
 generalize slp l m=k at *
 clear h
 by_cases h0:0<k.num.sign
 ·rw [if_pos h0,fB (bQ.1 h0)]
  split
  ·rename_i h1
   rw [bQ]at h1
   unfold InS;simp only
   constructor
   ·rintro ⟨a,b⟩
    have a:=a.resolve_left (by decide)
    refine⟨⟨?_,b⟩,by grind⟩
    rcases h1 with h1|h1
    ·exact .inl h1
    ·right;grind
   ·rintro ⟨⟨a,b⟩,c⟩
    exact⟨.inr (by grind),b⟩
  ·rename_i h1
   rw [not_or,bQ]at h1
   constructor
   ·intro h
    refine⟨h,?_⟩
    have:=h.1.resolve_left h1.1
    grind
   ·exact And.left
 ·rw [if_neg h0]
  rw [bQ]at h0
  have hk':0 < -k:=by grind
  have e:(t-u)*k=(u-t) * -k:=by grind
  rw [e,fB hk']
  split
  ·rename_i h1
   rw [dZ]at h1
   unfold InS;simp only
   constructor
   ·rintro ⟨a,b⟩
    have b:=b.resolve_left (by decide)
    refine⟨⟨a,?_⟩,by grind⟩
    rcases h1 with h1|h1
    ·exact .inl h1
    ·right;grind
   ·rintro ⟨⟨a,b⟩,c⟩
    exact⟨a, .inr (by grind)⟩
  ·rename_i h1
   rw [not_or,dZ]at h1
   constructor
   ·intro h
    refine⟨h,?_⟩
    have:=h.2.resolve_left h1.1
    grind
   ·exact And.left
theorem FX {l m:Li}(h:df l m=0) (t:Rat):a7 m (atL l t)=a7 m (aB l):=by
 have:slp l m=0:=by rw [lz]at h;grind
 rw [br,this];grind
theorem jK {l:Li}(hl:l.ok) (i:Nat):∀(c:List Li) (k:Nat) (s:Spn),(∃t,InS s t)→c[i-k]? = some l∨i<k→
  ((eU l i k c s).2=true→(∀t,InS (eU l i k c s).1 t↔InS s t∧∀m∈c,m≠l→0<a7 m (atL l t))∧∃t,InS (eU l i k c s).1 t)∧
  ((eU l i k c s).2=false→∀t,InS s t→∃m∈c,m≠l∧a7 m (atL l t)≤0)
 | [],k,s,hs,_=>⟨fun _=>⟨fun t=>by simp [eU],hs⟩,fun h=>by cases h⟩
 |m::c,k,s,hs,hi=>by
  have hi':c[i-(k+1)]? = some l∨i<k+1:=by
   rcases hi with h|h
   ·by_cases e:i≤k
    ·exact .inr om
    ·left
     rw [show i-k=i-(k+1)+1 by omega,List.getElem?_cons_succ]at h
     exact h
   ·exact .inr om
  unfold eU
  by_cases h0:k=i∨gL l m=0
  ·rw [if_pos h0]
   have hml:m=l:=by
    rcases h0 with h0|h0
    ·rcases hi with h|h
     ·rw [h0,Nat.sub_self]at h;simpa using h
     ·omega
    ·exact(dP.1 h0).symm
   obtain⟨a,b⟩:=jK hl i c (k+1) s hs hi'
   refine⟨fun h=>⟨fun t=>?_,(a h).2⟩,fun h t ht=>?_⟩
   ·rw [(a h).1 t]
    constructor
    ·rintro ⟨h1,h2⟩
     refine⟨h1,fun m' hm' hne=>?_⟩
     rcases List.mem_cons.1 hm' with e|e
     ·exact absurd (e.trans hml) hne
     ·exact h2 m' e hne
    ·rintro ⟨h1,h2⟩
     exact⟨h1,fun m' hm'=>h2 m' (Mc hm')⟩
   ·obtain⟨m',h1,h2⟩:=b h t ht
    exact⟨m',Mc h1,h2⟩
  ·rw [if_neg h0]
   rw [not_or,dP]at h0
   have hne:m≠l:=fun e=>h0.2 e.symm
   by_cases hd:df l m=0
   ·rw [if_pos hd]
    have hv:=FX hd
    by_cases hsd:0<cX m (aB l)
    ·rw [if_pos hsd]
     have hsd':0<a7 m (aB l):=bQ.1 hsd
     obtain⟨a,b⟩:=jK hl i c (k+1) s hs hi'
     refine⟨fun h=>⟨fun t=>?_,(a h).2⟩,fun h t ht=>?_⟩
     ·rw [(a h).1 t]
      constructor
      ·rintro ⟨h1,h2⟩
       refine⟨h1,fun m' hm' hne=>?_⟩
       rcases List.mem_cons.1 hm' with e|e
       ·rw [e,hv];exact hsd'
       ·exact h2 m' e hne
      ·rintro ⟨h1,h2⟩
       exact⟨h1,fun m' hm'=>h2 m' (Mc hm')⟩
     ·obtain⟨m',h1,h2⟩:=b h t ht
      exact⟨m',Mc h1,h2⟩
    ·rw [if_neg hsd]
     refine⟨fun h=>(by cases h),fun _ t _=>⟨m,Ms,hne,?_⟩⟩
     rw [hv]
     exact Rat.not_lt.1 fun k=>hsd (bQ.2 k)
   ·rw [if_neg hd]
    have hst:=xq hl hd s
    cases hb:bX (eC l m s)with
    |true =>
     rw [if_pos rfl]
     refine⟨fun h=>(by cases h),fun _ t ht=>⟨m,Ms,hne,Rat.not_lt.1 fun k=>?_⟩⟩
     rw [gG ((hst t).2 ⟨ht,k⟩)]at hb;cases hb
    |false =>
     rw [if_neg (by decide)]
     obtain⟨a,b⟩:=jK hl i c (k+1) (eC l m s) ⟨_,eE hb⟩ hi'
     refine⟨fun h=>⟨fun t=>?_,(a h).2⟩,fun h t ht=>?_⟩
     ·rw [(a h).1 t,hst]
      constructor
      ·rintro ⟨⟨h1,h3⟩,h2⟩
       refine⟨h1,fun m' hm' hne=>?_⟩
       rcases List.mem_cons.1 hm' with e|e
       ·rw [e];exact h3
       ·exact h2 m' e hne
      ·rintro ⟨h1,h2⟩
       exact⟨⟨h1,h2 m List.mem_cons_self hne⟩,fun m' hm'=>h2 m' (Mc hm')⟩
     ·by_cases hm:0<a7 m (atL l t)
      ·obtain⟨m',h1,h2⟩:=b h t ((hst t).2 ⟨ht,hm⟩)
       exact⟨m',Mc h1,h2⟩
      ·exact⟨m,Ms,hne,Rat.not_lt.1 hm⟩
theorem AE {c:List Li}{i:Nat}{l:Li}(hl:l.ok) (hi:c[i]? = some l) (h:(bR c i).2=true):(∀t,InS (bR c i).1 t↔∀m∈c,m≠l→0<a7 m (atL l t))∧∃t,InS (bR c i).1 t:=by
 have e:c.getD i ⟨0,0,0⟩=l:=by rw [List.getD_eq_getElem?_getD,hi];rfl
 unfold bR at h⊢
 rw [e]at h⊢
 obtain⟨a,b⟩:=(jK hl i c 0 Spn.full ⟨0, .inl rfl, .inl rfl⟩ (.inl (by rw [Nat.sub_zero];exact hi))).1 h
 exact⟨fun t=>(a t).trans ⟨fun h=>h.2,fun h=>⟨⟨.inl rfl, .inl rfl⟩,h⟩⟩,b⟩
theorem oS {c:List Li}{i:Nat}{l:Li}(hl:l.ok) (hi:c[i]? = some l):(bR c i).2=true↔Edg c l:=by
 constructor
 ·intro h
  obtain⟨a,t,b⟩:=AE hl hi h
  exact⟨atL l t,j6 hl t,(a t).1 b⟩
 ·rintro ⟨r,h1,h2⟩
  cases h:(bR c i).2 with
  |true=>rfl
  |false =>
   have e:c.getD i ⟨0,0,0⟩=l:=by rw [List.getD_eq_getElem?_getD,hi];rfl
   unfold bR at h
   rw [e]at h
   obtain⟨m,hm,hne,hv⟩:=(jK hl i c 0 Spn.full ⟨0, .inl rfl, .inl rfl⟩ (.inl (by rw [Nat.sub_zero];exact hi))).2 h (ce l r) ⟨.inl rfl, .inl rfl⟩
   rw [oZ hl h1]at hv
   exact absurd (h2 m hm hne) (Rat.not_lt.2 hv)
theorem tT (v:Pq):kG v=if v.1.num.sign=0∧v.2.num.sign=0 then 0 else if 0<v.2.num.sign∨v.2.num.sign=0∧0<v.1.num.sign then 1 else 2:=by
 unfold kG
 simp only [bA,bQ]
theorem It (a:Li) (p v:Pq) (t:Rat):a7 a (cT p t v)=a7 a p+t*(a7 a (cT p 1 v)-a7 a p):=by unfold a7 cT;simp only;grind
theorem CE (a l:Li) (p:Pq):a7 a (cT p 1 (-(aI l).2,(aI l).1))-a7 a p=(a.a:Rat)*l.a+a.b*l.b:=by unfold a7 cT aI;simp only;grind
theorem tC {V K:Rat}(hV:0<V) (hK:K<0):0 < -(V/K)∧∀s,0<s→s≤-(V/K)/2→0<V+s*K:=by
 obtain⟨u,hu⟩:∃u,u = -(V/K):=⟨_,rfl⟩
 have e:u * -K=V:=by rw [hu,Rat.neg_mul,Rat.mul_neg,Rat.neg_neg];exact Rat.div_mul_cancel (by grind)
 rw [←hu]
 clear hu
 have h0:0<u:=by
  rcases Rat.le_total (a:=u) (b:=0)with k|k
  ·have:=Rat.mul_nonneg (show 0≤-u by grind) (show 0≤-K by grind)
   grind
  ·by_cases e':u=0
   ·rw [e']at e;grind
   ·grind
 refine⟨h0,fun s hs h=>?_⟩
 have:=Rat.mul_nonneg (show 0≤u/2-s by grind) (show 0≤-K by grind)
 have e2:u/2 * -K=V/2:=by grind
 grind
theorem wK (p v:Pq) (s:Rat) (a:Li) (hs:0<s):0<cY p v s a∧cY p v s a≤s∧(a7 a p≠0→a7 a (cT p 1 v)-a7 a p≠0→0 < -(a7 a p/(a7 a (cT p 1 v)-a7 a p))→cY p v s a≤-(a7 a p/(a7 a (cT p 1 v)-a7 a p))/2):=by
 unfold cY cX
 generalize -(a7 a p/(a7 a (cT p 1 v)-a7 a p))=u
 generalize a7 a (cT p 1 v)-a7 a p=k
 split
 ·rename_i h
  rw [bA,bA]at h
  exact⟨hs,Rat.le_refl,fun a b _=>(h.elim b a).elim⟩
 ·split
  ·rename_i h
   rw [bQ,dZ]at h
   exact⟨by grind,by grind,fun _ _ _=>Rat.le_refl⟩
  ·rename_i h
   rw [bQ,dZ]at h
   exact⟨hs,Rat.le_refl,fun _ _ h'=>by grind⟩
theorem wL (p v:Pq):∀(c:List Li) (s:Rat),0<s→0<c.foldl (cY p v) s∧c.foldl (cY p v) s≤s∧∀a∈c,a7 a p≠0→a7 a (cT p 1 v)-a7 a p≠0→0 < -(a7 a p/(a7 a (cT p 1 v)-a7 a p))→c.foldl (cY p v) s≤-(a7 a p/(a7 a (cT p 1 v)-a7 a p))/2
 | [],s,hs=>⟨hs,Rat.le_refl,fun a h=>by cases h⟩
 |m::c,s,hs=>by
  obtain⟨a1,a2,a3⟩:=wK p v s m hs
  obtain⟨b1,b2,b3⟩:=wL p v c _ a1
  rw [List.foldl_cons]
  refine⟨b1,Rat.le_trans b2 a2,fun a ha h1 h2 h3=>?_⟩
  rcases List.mem_cons.1 ha with e|e
  ·rw [e]at h1 h2 h3⊢
   exact Rat.le_trans b2 (a3 h1 h2 h3)
  ·exact b3 a e h1 h2 h3
theorem x9 {c:List Li}{i:Nat}{l:Li}(hl:l.ok) (hi:c[i]? = some l) (h:(bR c i).2=true):Inn c (nK c i l):=fun m hm=>by
 obtain⟨a,t,b⟩:=AE hl hi h
 have hs:=eE (gG b)
 unfold nK tD
 obtain⟨p,hp⟩:∃p,p=atL l (aT (bR c i).1):=⟨_,rfl⟩
 have hz:a7 l p=0:=by rw [hp];exact j6 hl _
 have hv:=(a _).1 hs
 rw [←hp]at hv⊢
 obtain⟨n1,_,n3⟩:=wL p (-(aI l).2,(aI l).1) c 1 (by decide)
 rw [It]
 by_cases hml:m=l
 ·rw [hml,CE,hz,Rat.zero_add]
  exact Rat.mul_pos n1 (dB hl)
 ·have h1:=hv m hm hml
  have h3:=n3 m hm (fun e=>by rw [e]at h1;exact absurd h1 (by decide))
  generalize List.foldl (cY p (-(aI l).2,(aI l).1)) 1 c=s at *
  generalize a7 m (cT p 1 (-(aI l).2,(aI l).1))-a7 m p=k at *
  by_cases hk:k<0
  ·obtain⟨g1,g2⟩:=tC h1 hk
   exact g2 s n1 (h3 (by grind) g1)
  ·have:=Rat.mul_nonneg (Rat.le_of_lt n1) (Rat.not_lt.1 hk)
   grind
theorem mA {c:List Li}(hc:∀l∈c,l.ok):∀(d:List Li) (i:Nat),(∀k l,d[k]? = some l→c[i+k]? = some l)→
  (∀p,fj c i d=some p→Inn c p)∧(fj c i d=none→∀l∈d,¬Edg c l)
 | [],_,_=>⟨fun p h=>(by cases h),fun _ l h=>(by cases h)⟩
 |l::d,i,hd=>by
  have hi:c[i]? = some l:=by have:=hd 0 l rfl;simpa using this
  have hl:l.ok:=hc l (List.mem_of_getElem? hi)
  unfold fj
  cases h:(bR c i).2 with
  |true =>
   rw [if_pos rfl]
   exact⟨fun p e=>(Option.some.inj e)▸x9 hl hi h,fun e=>(by cases e)⟩
  |false =>
   rw [if_neg (by decide)]
   obtain⟨a,b⟩:=mA hc d (i+1) (fun k l h=>by rw [show i+1+k=i+(k+1) by omega];exact hd (k+1) l (by rw [List.getElem?_cons_succ];exact h))
   refine⟨a,fun e l' hl'=>?_⟩
   rcases List.mem_cons.1 hl' with e'|e'
   ·rw [e',←oS hl hi,h];decide
   ·exact b e l' e'
theorem yP {c:List Li}(hc:∀l∈c,l.ok){p:Pq}(h:cw c=some p):Inn c p:=by
 unfold cw at h
 split at h
 ·rename_i e
  rw [e];intro l hl;cases hl
 ·exact(mA hc c 0 (fun k l h=>by rw [Nat.zero_add];exact h)).1 p h
theorem x8 {c:List Li}(hc:∀l∈c,l.ok):(cw c).isSome=true↔∃q,Inn c q:=by
 constructor
 ·intro h
  obtain⟨p,hp⟩:=Option.isSome_iff_exists.1 h
  exact⟨p,yP hc hp⟩
 ·rintro ⟨q,hq⟩
  by_cases e:c=[]
  ·unfold cw;rw [if_pos e];rfl
  ·cases h:cw c with
   |some p=>rfl
   |none =>
    unfold cw at h
    rw [if_neg e]at h
    obtain⟨m,hm,hE⟩:=Inn.edge hc hq e
    exact absurd hE ((mA hc c 0 (fun k l h=>by rw [Nat.zero_add];exact h)).2 h m hm)
theorem mI (c:List Li):∀(l:List Nat) (out:List Li) (y:Li),y∈l.foldl (cN c) out↔(∃i∈l,(bR c i).2=true∧y=c.getD i ⟨0,0,0⟩)∨y∈out
 | [],out,y=>by simp
 |i::l,out,y=>by
  rw [List.foldl_cons,mI c l]
  unfold cN
  cases h:(bR c i).2 with
  |true =>
   rw [if_pos rfl,jI]
   constructor
   ·rintro (⟨j,hj,h1,h2⟩|h1|h1)
    ·exact .inl ⟨j,Mc hj,h1,h2⟩
    ·exact .inl ⟨i,Ms,h,h1⟩
    ·exact .inr h1
   ·rintro (⟨j,hj,h1,h2⟩|h1)
    ·rcases List.mem_cons.1 hj with e|e
     ·rw [e]at h2;exact .inr (.inl h2)
     ·exact .inl ⟨j,e,h1,h2⟩
    ·exact .inr (.inr h1)
  |false =>
   rw [if_neg (by decide)]
   constructor
   ·rintro (⟨j,hj,h1,h2⟩|h1)
    ·exact .inl ⟨j,Mc hj,h1,h2⟩
    ·exact .inr h1
   ·rintro (⟨j,hj,h1,h2⟩|h1)
    ·rcases List.mem_cons.1 hj with e|e
     ·rw [e,h]at h1;cases h1
     ·exact .inl ⟨j,e,h1,h2⟩
    ·exact .inr h1
theorem fx {c:List Li}(hc:∀l∈c,l.ok){y:Li}:y∈aZ c↔y∈c∧Edg c y:=by
 unfold aZ
 rw [mI]
 constructor
 ·rintro (⟨i,hi,h1,h2⟩|h)
  ·have hi:=List.mem_range.1 hi
   have e:=List.getElem?_eq_getElem hi
   have e2:c.getD i ⟨0,0,0⟩=c[i]:=by rw [List.getD_eq_getElem?_getD,e];rfl
   have hm:c[i]∈c:=List.getElem_mem hi
   rw [h2,e2]
   exact⟨hm,(oS (hc _ hm) e).1 h1⟩
  ·cases h
 ·rintro ⟨h1,h2⟩
  obtain⟨i,hi,e⟩:=List.mem_iff_getElem.1 h1
  have e1:c[i]? = some y:=by rw [List.getElem?_eq_getElem hi,e]
  exact .inl ⟨i,List.mem_range.2 hi,(oS (hc y h1) e1).2 h2,by rw [List.getD_eq_getElem?_getD,e1];rfl⟩
theorem iK {c:List Li}(hc:∀l∈c,l.ok) (hn:∃q,Inn c q) (p:Pq):Inn (aZ c) p↔Inn c p:=by
 obtain⟨q,hq⟩:=hn
 exact⟨fun h=>Inn.kept hc hq (fun m hm he=>(fx hc).2 ⟨hm,he⟩) h,fun h l hl=>h l ((fx hc).1 hl).1⟩
theorem fg (l:Li) (p:Pq):a7 l.neg p = - a7 l p:=by
 unfold a7 Li.neg;simp only [Rat.intCast_neg];grind
theorem Li.ok.neg {l:Li}(h:l.ok):l.neg.ok:=by
 refine⟨?_,?_⟩
 ·show Nat.gcd (Nat.gcd (-l.a).natAbs (-l.b).natAbs) (-l.c).natAbs=1
  rw [Int.natAbs_neg,Int.natAbs_neg,Int.natAbs_neg];exact h.1
 ·rcases h.2 with k|k
  ·left;show -l.a≠0;omega
  ·right;show -l.b≠0;omega
def Lft (I:Pq→Prop) (l:Li):Prop:=∃q,I q∧0<a7 l q
def Rgt (I:Pq→Prop) (l:Li):Prop:=∃q,I q∧a7 l q<0
theorem el {c:List Li}{l:Li}{q:Pq}:Inn (c++[l]) q↔Inn c q∧0<a7 l q:=by
 unfold Inn
 constructor
 ·intro h
  exact⟨fun m hm=>h m (List.mem_append_left _ hm),h l (List.mem_append_right _ Ms)⟩
 ·rintro ⟨h1,h2⟩ m hm
  rcases List.mem_append.1 hm with hm|hm
  ·exact h1 m hm
  ·rw [List.mem_singleton]at hm;rw [hm];exact h2
theorem gW {c:List Li}{l:Li}(hc:∀l∈c,l.ok) (hl:l.ok):∀m∈c++[l],m.ok:=fun m hm=>by
 rcases List.mem_append.1 hm with hm|hm
 ·exact hc m hm
 ·rw [List.mem_singleton]at hm;rw [hm];exact hl
theorem rJ {c:List Li}{l:Li}(hc:∀l∈c,l.ok) (hl:l.ok):(cw (c++[l])).isSome=true↔Lft (Inn c) l:=by
 rw [x8 (gW hc hl)]
 exact⟨fun⟨q,h⟩=>⟨q,el.1 h⟩,fun⟨q,h⟩=>⟨q,el.2 h⟩⟩
theorem wZ {c:List Li}{l:Li}(hc:∀l∈c,l.ok) (hl:l.ok):(cw (c++[l.neg])).isSome=true↔Rgt (Inn c) l:=by
 rw [rJ hc hl.neg]
 unfold Lft Rgt
 have:∀q,0<a7 l.neg q↔a7 l q<0:=fun q=>by rw [fg];grind
 simp only [this]
theorem Inn.side {c:List Li}{l:Li}(hl:l.ok){q:Pq}(hq:Inn c q):Lft (Inn c) l∨Rgt (Inn c) l:=by
 by_cases h:a7 l q<0
 ·exact .inr ⟨q,hq,h⟩
 ·obtain⟨e,he,hs⟩:=fF (fun j=>a7 j q) (fun j=>(j.a:Rat)*l.a+j.b*l.b) c hq
  refine .inl ⟨(q.1+e*l.a,q.2+e*l.b),fun j hj=>by rw [bP];exact hs j hj e he Rat.le_refl,?_⟩
  rw [bP]
  have:=Rat.mul_pos he (dB hl)
  grind
theorem p9 {c:List Li}{l:Li}(hc:∀l∈c,l.ok) (hl:l.ok) :
  (eT c l=0↔Lft (Inn c) l∧Rgt (Inn c) l)∧(eT c l=1↔Lft (Inn c) l∧¬Rgt (Inn c) l)∧(eT c l = -1↔¬Lft (Inn c) l):=by
 have h1:=rJ hc hl
 have h2:=wZ hc hl
 unfold eT
 cases e1:(cw (c++[l])).isSome with
 |true =>
  cases e2:(cw (c++[l.neg])).isSome with
  |true =>
   have a:=h1.1 e1
   have b:=h2.1 e2
   simp [a,b]
  |false =>
   have a:=h1.1 e1
   have b:¬Rgt (Inn c) l:=fun h=>by have:=h2.2 h;rw [e2]at this;cases this
   simp [a,b]
 |false =>
  have a:¬Lft (Inn c) l:=fun h=>by have:=h1.2 h;rw [e1]at this;cases this
  simp [a]
def Tr.lok:Tr→Prop
 | .leaf _=>True
 | .node l a b=>l.ok∧a.lok∧b.lok
open Classical in
noncomputable def ew:Tr→(Pq→Prop)→Tr
 | .leaf i,_ => .leaf i
 | .node l a b,I=>if¬Rgt I l then ew a I else if¬Lft I l then ew b I else eQ l (ew a fun q=>I q∧0<a7 l q) (ew b fun q=>I q∧a7 l q<0)
noncomputable def ql (op:Int) (i:Bool) (b:Tr) (I:Pq→Prop):Tr :=
 if op=1∧i=true then .leaf true else if(op=2∨op=3)∧i=false then .leaf false else if(op=3∨op=4)∧i=true then bi (ew b I)else ew b I
open Classical in
noncomputable def fL (op:Int):Tr→Tr→(Pq→Prop)→Tr
 | .leaf i,b,I=>ql op i b I
 | .node l x y,b,I=>if¬Rgt I l then fL op x b I else if¬Lft I l then fL op y b I else eQ l (fL op x b fun q=>I q∧0<a7 l q) (fL op y b fun q=>I q∧a7 l q<0)
theorem rA (l:Li) (q:Pq):0<a7 l.neg q↔a7 l q<0:=by rw [fg];grind
theorem jo {c:List Li}{l:Li}(hc:∀l∈c,l.ok) (hl:l.ok) (h:Lft (Inn c) l):Inn (bZ c l)=fun q=>Inn c q∧0<a7 l q:=by
 funext q
 refine propext ?_
 unfold bZ
 rw [iK (gW hc hl) (h.imp fun q hq=>el.2 hq),el]
theorem jR {c:List Li}{l:Li}(hc:∀l∈c,l.ok) (hl:l.ok) (h:Rgt (Inn c) l):Inn (bZ c l.neg)=fun q=>Inn c q∧a7 l q<0:=by
 rw [jo hc hl.neg (h.imp fun q hq=>⟨hq.1,(rA l q).2 hq.2⟩)]
 funext q
 rw [rA]
theorem mQ {c:List Li}{l:Li}(hc:∀l∈c,l.ok) (hl:l.ok):∀m∈bZ c l,m.ok:=fun m hm=>gW hc hl m ((fx (gW hc hl)).1 hm).1
theorem iz:∀{t:Tr}{c:List Li},t.lok→(∀l∈c,l.ok)→(∃q,Inn c q)→ac t c=ew t (Inn c)
 | .leaf i,c,_,_,_=>rfl
 | .node l a b,c,⟨hl,ha,hb⟩,hc,hn=>by
  obtain⟨q,hq⟩:=hn
  obtain⟨p0,p1,p2⟩:=p9 hc hl
  unfold ac ew
  by_cases h1:Rgt (Inn c) l
  ·rw [if_neg (fun e=>(p1.1 e).2 h1)]
   rw [if_neg (show¬¬Rgt (Inn c) l from fun h=>h h1)]
   by_cases h2:Lft (Inn c) l
   ·rw [if_neg (fun e=>p2.1 e h2),if_neg (show¬¬Lft (Inn c) l from fun h=>h h2)]
    rw [iz ha (mQ hc hl) (by rw [jo hc hl h2];exact h2),iz hb (mQ hc hl.neg) (by rw [jR hc hl h1];exact h1),jo hc hl h2,jR hc hl h1]
   ·rw [if_pos (p2.2 h2),if_pos h2]
    exact iz hb hc ⟨q,hq⟩
  ·have h2:=(hq.side hl).resolve_right h1
   rw [if_pos (p1.2 ⟨h2,h1⟩),if_pos h1]
   exact iz ha hc ⟨q,hq⟩
theorem kY {op:Int}:∀{t b:Tr}{c:List Li},t.lok→b.lok→(∀l∈c,l.ok)→(∃q,Inn c q)→dI op t b c=fL op t b (Inn c)
 | .leaf i,b,c,_,hb,hc,hn=>by
  unfold dI fL qk ql
  rw [iz hb hc hn]
 | .node l x y,b,c,⟨hl,hx,hy⟩,hb,hc,hn=>by
  obtain⟨q,hq⟩:=hn
  obtain⟨p0,p1,p2⟩:=p9 hc hl
  unfold dI fL
  by_cases h1:Rgt (Inn c) l
  ·rw [if_neg (fun e=>(p1.1 e).2 h1)]
   rw [if_neg (show¬¬Rgt (Inn c) l from fun h=>h h1)]
   by_cases h2:Lft (Inn c) l
   ·rw [if_neg (fun e=>p2.1 e h2),if_neg (show¬¬Lft (Inn c) l from fun h=>h h2)]
    rw [kY hx hb (mQ hc hl) (by rw [jo hc hl h2];exact h2),kY hy hb (mQ hc hl.neg) (by rw [jR hc hl h1];exact h1),jo hc hl h2,jR hc hl h1]
   ·rw [if_pos (p2.2 h2),if_pos h2]
    exact kY hy hb hc ⟨q,hq⟩
  ·have h2:=(hq.side hl).resolve_right h1
   rw [if_pos (p1.2 ⟨h2,h1⟩),if_pos h1]
   exact kY hx hb hc ⟨q,hq⟩
end Go.Ab
namespace Go.Ab
open Go.Proofs
variable [Base]
def rD (x y:Rat):Rat:=if(x-y).num.sign≤0 then x else y
def rG (x y:Rat):Rat:=if 0≤(x-y).num.sign then x else y
def bI (v w:Spn):Spn :=
 ⟨if v.nl then w.lo else if w.nl then v.lo else rG v.lo w.lo,if v.nh then w.hi else if w.nh then v.hi else rD v.hi w.hi,v.nl&&w.nl,v.nh&&w.nh⟩
theorem HO {x y t:Rat}:rG x y<t↔x<t∧y<t:=by
 unfold rG
 split
 ·rename_i h;rw [jr]at h;grind
 ·rename_i h;rw [jr]at h;grind
theorem HJ {x y t:Rat}:t<rD x y↔t<x∧t<y:=by
 have e:(x-y).num.sign≤0↔x≤y:=by
  rw [←Int.not_lt,bQ];grind
 unfold rD
 split
 ·rename_i h;rw [e]at h;grind
 ·rename_i h;rw [e]at h;grind
theorem fM (v w:Spn) (t:Rat):InS (bI v w) t↔InS v t∧InS w t:=by
 obtain⟨a,b,c,d⟩:=v
 obtain⟨a',b',c',d'⟩:=w
 unfold InS bI
 cases c <;> cases d <;> cases c' <;> cases d' <;> simp [HO,HJ] <;> grind
def hlf (k u:Rat):Spn:=if k.num.sign=1 then⟨u,0,false,true⟩else⟨0,u,true,false⟩
theorem EN {k:Rat}(hk:k≠0) (u t:Rat):InS (hlf k u) t↔0<(t-u)*k:=by
 unfold hlf
 by_cases h1:k.num.sign=1
 ·rw [if_pos h1]
  have:0<k:=bQ.1 om
  rw [fB this]
  unfold InS;simp only
  grind
 ·rw [if_neg h1]
  have h0:k.num.sign≠0:=fun e=>hk (bA.1 e)
  have h3:k.num.sign<0:=by have:=Int.sign_trichotomy k.num;omega
  have:0 < - k:=by have:=dZ.1 h3;grind
  rw [show(t-u)*k=(u-t) * -k by grind,fB this]
  unfold InS;simp only
  grind
def dO (l:Li) (v:Spn) (m:Li):Option Spn :=
 if(slp l m).num.sign=0 then(if 0<(a7 m (aB l)).num.sign then some v else none)
 else if bX (bI v (hlf (slp l m) (-(a7 m (aB l)/slp l m))))then none else some (bI v (hlf (slp l m) (-(a7 m (aB l)/slp l m))))
theorem s8 {l m:Li}(h:slp l m≠0) (t:Rat):a7 m (atL l t)=(t - -(a7 m (aB l)/slp l m))*slp l m:=by
 rw [br]
 have:a7 m (aB l)/slp l m*slp l m=a7 m (aB l):=Rat.div_mul_cancel h
 generalize a7 m (aB l)/slp l m=u at *
 rw [←this];grind
theorem dN {l m:Li}{v w:Spn}(h:dO l v m=some w) (t:Rat):InS w t↔InS v t∧0<a7 m (atL l t):=by
 unfold dO at h
 by_cases h0:(slp l m).num.sign=0
 ·rw [if_pos h0]at h
  split at h
  ·rename_i h1
   cases h
   rw [bA]at h0
   rw [br,h0,Rat.mul_zero,Rat.add_zero]
   exact⟨fun k=>⟨k,bQ.1 h1⟩,And.left⟩
  ·cases h
 ·rw [if_neg h0]at h
  have hk:slp l m≠0:=fun e=>h0 (bA.2 e)
  split at h
  ·cases h
  ·cases h
   rw [fM,s8 hk,EN hk]
theorem oU {l m:Li}{v:Spn}(h:dO l v m=none) (t:Rat):¬(InS v t∧0<a7 m (atL l t)):=by
 unfold dO at h
 by_cases h0:(slp l m).num.sign=0
 ·rw [if_pos h0]at h
  split at h
  ·cases h
  ·rename_i h1
   rw [bA]at h0
   rw [br,h0,Rat.mul_zero,Rat.add_zero]
   exact fun k=>h1 (bQ.2 k.2)
 ·rw [if_neg h0]at h
  have hk:slp l m≠0:=fun e=>h0 (bA.2 e)
  split at h
  ·rename_i h2
   rintro ⟨k1,k2⟩
   rw [s8 hk,←EN hk]at k2
   rw [gG ((fM _ _ t).2 ⟨k1,k2⟩)]at h2;cases h2
  ·cases h
theorem jM {l m:Li}{v w:Spn}(hv:∃t,InS v t) (h:dO l v m=some w):∃t,InS w t:=by
 unfold dO at h
 by_cases h0:(slp l m).num.sign=0
 ·rw [if_pos h0]at h
  split at h
  ·cases h;exact hv
  ·cases h
 ·rw [if_neg h0]at h
  split at h
  ·cases h
  ·rename_i h2
   cases h
   exact⟨_,eE (by simpa using h2)⟩
abbrev PC:=List Fg
def gb (l:Li):Spn→PC→Option Spn
 |v,[]=>some v
 |v,s::c=>match dO l v s.1 with
  |some w=>gb l w c
  |none=>none
def gR (c:PC) (l:Li):Option Spn:=gb l Spn.full c
theorem pa {l:Li}:∀{c:PC}{v w:Spn},(∃t,InS v t)→gb l v c=some w→(∀t,InS w t↔InS v t∧∀s∈c,0<a7 s.1 (atL l t))∧∃t,InS w t
 | [],v,w,hv,h=>by cases h;exact⟨fun t=>by simp,hv⟩
 |s::c,v,w,hv,h=>by
  unfold gb at h
  split at h
  ·rename_i u hu
   obtain⟨a,b⟩:=pa (jM hv hu) h
   refine⟨fun t=>?_,b⟩
   rw [a t,dN hu]
   simp only [List.mem_cons,forall_eq_or_imp]
   exact and_assoc
  ·cases h
theorem pb {l:Li}:∀{c:PC}{v:Spn},gb l v c=none→∀t,InS v t→∃s∈c,¬0<a7 s.1 (atL l t)
 | [],v,h,_,_=>by cases h
 |s::c,v,h,t,ht=>by
  unfold gb at h
  split at h
  ·rename_i u hu
   by_cases k:0<a7 s.1 (atL l t)
   ·obtain⟨s',h1,h2⟩:=pb h t ((dN hu t).2 ⟨ht,k⟩)
    exact⟨s',Mc h1,h2⟩
   ·exact⟨s,Ms,k⟩
  ·rename_i hu
   exact⟨s,Ms,fun k=>oU hu t ⟨ht,k⟩⟩
theorem lO (t:Rat):InS Spn.full t:=⟨.inl rfl, .inl rfl⟩
abbrev a8 (c:PC):List Li:=c.map Prod.fst
theorem rg {c:PC}{l:Li}{w:Spn}(h:gR c l=some w):(∀t,InS w t↔Inn (a8 c) (atL l t))∧∃t,InS w t:=by
 obtain⟨a,b⟩:=pa ⟨0,lO 0⟩ h
 refine⟨fun t=>?_,b⟩
 rw [a t]
 unfold Inn
 simp only [List.mem_map,forall_exists_index,and_imp,forall_apply_eq_imp_iff₂]
 exact⟨And.right,fun k=>⟨lO t,k⟩⟩
theorem mn {c:PC}{l:Li}(hl:l.ok) (h:gR c l=none) (p:Pq) (hp:a7 l p=0):¬Inn (a8 c) p:=fun k=>by
 obtain⟨s,h1,h2⟩:=pb h (ce l p) (lO _)
 rw [oZ hl hp]at h2
 exact h2 (k s.1 (List.mem_map.2 ⟨s,h1,rfl⟩))
structure da (c:PC):Prop where
 ok:∀s∈c,s.1.ok
 inn:∃q,Inn (a8 c) q
 nd:(a8 c).Nodup
 span:∀s∈c,(∀t,InS s.2 t↔∀m∈a8 c,m≠s.1→0<a7 m (atL s.1 t))∧∃t,InS s.2 t
theorem da.lok {c:PC}(h:da c):∀l∈a8 c,l.ok:=fun l hl=>by
 obtain⟨s,hs,rfl⟩:=List.mem_map.1 hl
 exact h.ok s hs
theorem da.nil:da []:=⟨fun s h=>(by cases h),⟨(0,0),fun l h=>(by cases h)⟩,List.nodup_nil,fun s h=>(by cases h)⟩
def jd (l:Li):PC→Int
 | [] => -1
 |s::c=>if cX l (atL s.1 (aT s.2))≠0 then cX l (atL s.1 (aT s.2))else if s.1=l then 1 else jd l c
def je (c:PC) (l:Li):Int:=if(gR c l).isSome then 0 else jd l c
theorem rn {c:List Li}{l:Li}(h:∀p,a7 l p=0→¬Inn c p):¬(Lft (Inn c) l∧Rgt (Inn c) l):=by
 rintro ⟨⟨p,hp,hp0⟩,⟨q,hq,hq0⟩⟩
 obtain⟨s,hs⟩:∃s,s*(a7 l p-a7 l q)=a7 l p:=⟨a7 l p/(a7 l p-a7 l q),Rat.div_mul_cancel (by grind)⟩
 obtain⟨h0,h1⟩:=Du hs hp0 (by grind)
 refine h (p.1+s*(q.1-p.1),p.2+s*(q.2-p.2)) (by rw [iO];exact zM hs) fun m hm=>?_
 rw [iO]
 exact yh h0 h1 (hp m hm) (hq m hm)
theorem lQ {c:PC}(h:da c){l:Li}{s:Fg}(hs:s∈c){t:Rat}(ht:InS s.2 t):(0<a7 l (atL s.1 t)→Lft (Inn (a8 c)) l)∧(a7 l (atL s.1 t)<0→Rgt (Inn (a8 c)) l):=by
 have hv:=((h.span s hs).1 t).1 ht
 have hz:=j6 (h.ok s hs) t
 generalize atL s.1 t=r at *
 have key:∀(k:Rat),0<k*a7 l r→∃q,Inn (a8 c) q∧0<k*a7 l q:=fun k hk=>by
  obtain⟨e,he,hsm⟩:=fF (fun j:Option Li=>match j with|none=>k*a7 l r|some j=>a7 j r) (fun j=>match j with|none=>k*((l.a:Rat)*s.1.a+l.b*s.1.b)|some j=>(j.a:Rat)*s.1.a+j.b*s.1.b)
   (none::((a8 c).filter fun j=>decide (j≠s.1)).map some) (fun j hj=>by
    rcases List.mem_cons.1 hj with rfl|hj
    ·exact hk
    ·obtain⟨j',hj',rfl⟩:=List.mem_map.1 hj
     rw [List.mem_filter,decide_eq_true_eq]at hj'
     exact hv j' hj'.1 hj'.2)
  refine⟨(r.1+e*s.1.a,r.2+e*s.1.b),fun j hj=>?_,?_⟩
  ·rw [bP]
   by_cases hjs:j=s.1
   ·rw [hjs,hz,Rat.zero_add];exact Rat.mul_pos he (dB (h.ok s hs))
   ·exact hsm (some j) (Mc (List.mem_map.2 ⟨j,List.mem_filter.2 ⟨hj,decide_eq_true hjs⟩,rfl⟩)) e he Rat.le_refl
  ·rw [bP]
   have:=hsm none List.mem_cons_self e he Rat.le_refl
   simp only at this
   grind
 constructor
 ·intro h0
  obtain⟨q,h1,h2⟩:=key 1 (by grind)
  exact⟨q,h1,by grind⟩
 ·intro h0
  obtain⟨q,h1,h2⟩:=key (-1) (by grind)
  exact⟨q,h1,by grind⟩
theorem Bd {l:Li}{p:Pq}:cX l p=1↔0<a7 l p:=by
 unfold cX
 rw [←bQ]
 have:=Int.sign_trichotomy (a7 l p).num
 omega
theorem Be {l:Li}{p:Pq}:cX l p = -1↔a7 l p<0:=by
 unfold cX
 rw [←dZ]
 have:=Int.sign_trichotomy (a7 l p).num
 omega
theorem xW {l:Li}{p:Pq}:cX l p=0↔a7 l p=0:=bA
theorem sU (l:Li) (p:Pq):cX l p=1∨cX l p=0∨cX l p = -1:=by
 have:=Int.sign_trichotomy (a7 l p).num
 unfold cX
 omega
theorem qK {l m:Li}(hl:l.ok) (hm:m.ok){t u:Rat}(hne:t≠u) (h1:a7 m (atL l t)=0) (h2:a7 m (atL l u)=0):m=l∨m=l.neg:=by
 rw [br]at h1 h2
 have hk:slp l m=0:=by
  have:(t-u)*slp l m=0:=by grind
  rcases Rat.mul_eq_zero.1 this with e|e
  ·exact absurd (by grind) hne
  ·exact e
 have hb:a7 m (aB l)=0:=by rw [hk]at h1;grind
 have hn:=dB hl
 have hz:a7 l (aB l)=0:=by
  have h:=j6 hl 0
  rw [br]at h
  grind
 obtain⟨f,hf⟩:∃f,f*((l.a:Rat)*l.a+l.b*l.b)=(m.a:Rat)*l.a+m.b*l.b:=⟨_,Rat.div_mul_cancel (by grind)⟩
 have ea:(m.a:Rat)=f*l.a:=by
  refine jX (n:=(l.a:Rat)*l.a+l.b*l.b) (by grind) ?_
  have:((l.a:Rat)*l.a+l.b*l.b)*(f*l.a)=(f*((l.a:Rat)*l.a+l.b*l.b))*l.a:=by grind
  rw [this,hf]
  unfold slp at hk
  grind
 have eb:(m.b:Rat)=f*l.b:=by
  refine jX (n:=(l.a:Rat)*l.a+l.b*l.b) (by grind) ?_
  have:((l.a:Rat)*l.a+l.b*l.b)*(f*l.b)=(f*((l.a:Rat)*l.a+l.b*l.b))*l.b:=by grind
  rw [this,hf]
  unfold slp at hk
  grind
 have ec:(m.c:Rat)=f*l.c:=by
  have z1:a7 m (aB l)=f*(a7 l (aB l)-l.c)+m.c:=by unfold a7;rw [ea,eb];grind
  rw [hb,hz]at z1;grind
 rcases Rat.le_total (a:=f) (b:=0)with k|k
 ·by_cases e:f=0
  ·rw [e,Rat.zero_mul]at ea eb
   rcases hm.2 with h|h
   ·exact absurd (Rat.intCast_eq_zero_iff.1 ea) h
   ·exact absurd (Rat.intCast_eq_zero_iff.1 eb) h
  ·right
   refine Li.prop_eqR hm hl.neg (s:=1) (t := -f) (by decide) (by grind) ?_ ?_ ?_
   ·unfold Li.neg;simp only [Rat.intCast_neg];rw [ea];grind
   ·unfold Li.neg;simp only [Rat.intCast_neg];rw [eb];grind
   ·unfold Li.neg;simp only [Rat.intCast_neg];rw [ec];grind
 ·by_cases e:f=0
  ·rw [e,Rat.zero_mul]at ea eb
   rcases hm.2 with h|h
   ·exact absurd (Rat.intCast_eq_zero_iff.1 ea) h
   ·exact absurd (Rat.intCast_eq_zero_iff.1 eb) h
  ·left
   refine Li.prop_eqR hm hl (s:=1) (t:=f) (by decide) (by grind) ?_ ?_ ?_
   ·rw [ea];grind
   ·rw [eb];grind
   ·rw [ec];grind
theorem IT {s:Spn}{t:Rat}(h:InS s t):∃u,u≠t∧InS s u:=by
 obtain⟨lo,hi,nl,nh⟩:=s
 unfold InS at *
 simp only at *
 cases nl <;> cases nh <;> simp at h⊢
 ·exact⟨i7 t hi,by have:=ka h.2;grind,by have:=ka h.2;grind,by have:=ka h.2;grind⟩
 ·exact⟨t+1,by grind,by grind⟩
 ·exact⟨t-1,by grind,by grind⟩
 ·exact⟨t+1,by grind⟩
theorem sV {c:PC}(h:da c){l:Li}(hl:l.ok) (hm:∀p,a7 l p=0→¬Inn (a8 c) p):∀(d:PC),(∀s∈d,s∈c)→(jd l d=1∧Lft (Inn (a8 c)) l∧¬Rgt (Inn (a8 c)) l)∨(jd l d = -1∧Rgt (Inn (a8 c)) l∧¬Lft (Inn (a8 c)) l)∨(jd l d = -1∧∀s∈d,s.1=l.neg)
 | [],_ => .inr (.inr ⟨rfl,fun s h=>by cases h⟩)
 |s::d,hd=>by
  have hs:=hd s Ms
  have hsp:=h.span s hs
  have hin:=eE (gG hsp.2.choose_spec)
  have hns:=rn hm
  obtain⟨e1,e2⟩:=lQ h (l:=l) hs hin
  unfold jd
  rcases sU l (atL s.1 (aT s.2))with k|k|k
  ·rw [k,if_pos (by decide)]
   have a:=e1 (Bd.1 k)
   exact .inl ⟨rfl,a,fun b=>hns ⟨a,b⟩⟩
  ·rw [k,if_neg (by decide)]
   have hz:=xW.1 k
   by_cases hsl:s.1=l
   ·rw [if_pos hsl]
    obtain⟨q,hq⟩:=h.inn
    have a:Lft (Inn (a8 c)) l:=⟨q,hq,hsl▸hq s.1 (List.mem_map.2 ⟨s,hs,rfl⟩)⟩
    exact .inl ⟨rfl,a,fun b=>hns ⟨a,b⟩⟩
   ·rw [if_neg hsl]
    have hneg:s.1=l.neg:=by
     obtain⟨u,hu,hui⟩:=IT hin
     have z2:a7 l (atL s.1 u)=0:=by
      obtain⟨g1,g2⟩:=lQ h (l:=l) hs hui
      have hk:a7 l (atL s.1 u)=a7 l (atL s.1 (aT s.2))+(u-aT s.2)*slp s.1 l:=by rw [br,br];grind
      by_cases z:a7 l (atL s.1 u)=0
      ·exact z
      ·exfalso
       have hslp:slp s.1 l≠0:=fun e=>by rw [e,hz]at hk;exact z (by rw [hk];grind)
       obtain⟨e,he,hsm⟩:=fF (fun j:Option (Li×Bool)=>match j with|none=>1|some j=>a7 j.1 (atL s.1 (aT s.2))) (fun j=>match j with|none=>0|some j=>if j.2 then slp s.1 j.1 else-slp s.1 j.1)
        ((((a8 c).filter fun j=>decide (j≠s.1)).map fun j=>some (j,true))++(((a8 c).filter fun j=>decide (j≠s.1)).map fun j=>some (j,false))) (fun j hj=>by
         rcases List.mem_append.1 hj with hj|hj <;> (obtain⟨j',hj',rfl⟩:=List.mem_map.1 hj;rw [List.mem_filter,decide_eq_true_eq]at hj';exact(hsp.1 _).1 hin j' hj'.1 hj'.2))
       have i1:InS s.2 (aT s.2+e):=(hsp.1 _).2 fun j hj hne=>by
        have:=hsm (some (j,true)) (List.mem_append_left _ (List.mem_map.2 ⟨j,List.mem_filter.2 ⟨hj,decide_eq_true hne⟩,rfl⟩)) e he Rat.le_refl
        simp only [if_true]at this
        rw [br]at this⊢
        grind
       have i2:InS s.2 (aT s.2-e):=(hsp.1 _).2 fun j hj hne=>by
        have:=hsm (some (j,false)) (List.mem_append_right _ (List.mem_map.2 ⟨j,List.mem_filter.2 ⟨hj,decide_eq_true hne⟩,rfl⟩)) e he Rat.le_refl
        simp only [Bool.false_eq_true,if_false]at this
        rw [br]at this⊢
        grind
       obtain⟨a1,a2⟩:=lQ h (l:=l) hs i1
       obtain⟨b1,b2⟩:=lQ h (l:=l) hs i2
       have v1:a7 l (atL s.1 (aT s.2+e))=e*slp s.1 l:=by rw [br]at hz⊢;grind
       have v2:a7 l (atL s.1 (aT s.2-e)) = -(e*slp s.1 l):=by rw [br]at hz⊢;grind
       rw [v1]at a1 a2
       rw [v2]at b1 b2
       have hne:e*slp s.1 l≠0:=fun k=>by rcases Rat.mul_eq_zero.1 k with k|k <;> grind
       rcases Rat.le_total (a:=e*slp s.1 l) (b:=0)with k|k
       ·exact hns ⟨b1 (by grind),a2 (by grind)⟩
       ·exact hns ⟨a1 (by grind),b2 (by grind)⟩
     rcases qK (h.ok s hs) hl (fun e=>hu e.symm) hz z2 with e|e
     ·exact absurd e.symm hsl
     ·rw [e];unfold Li.neg;simp
    rcases sV h hl hm d (fun x hx=>hd x (Mc hx))with r|r|⟨r,rr⟩
    ·exact .inl r
    ·exact .inr (.inl r)
    ·refine .inr (.inr ⟨r,fun x hx=>?_⟩)
     rcases List.mem_cons.1 hx with e|e
     ·rw [e,hneg]
     ·exact rr x e
  ·rw [k,if_pos (by decide)]
   have b:=e2 (Be.1 k)
   exact .inr (.inl ⟨rfl,b,fun a=>hns ⟨a,b⟩⟩)
theorem ts {c:PC}(h:da c){l:Li}(hl:l.ok) :
  (je c l=0∧Lft (Inn (a8 c)) l∧Rgt (Inn (a8 c)) l)∨(je c l=1∧Lft (Inn (a8 c)) l∧¬Rgt (Inn (a8 c)) l)∨(je c l = -1∧¬Lft (Inn (a8 c)) l∧Rgt (Inn (a8 c)) l):=by
 unfold je
 cases hp:gR c l with
 |some w =>
  left
  obtain⟨a,t,b⟩:=rg hp
  have hin:=(a t).1 b
  refine⟨rfl,?_,?_⟩
  ·obtain⟨e,he,hs⟩:=fF (fun j=>a7 j (atL l t)) (fun j=>(j.a:Rat)*l.a+j.b*l.b) _ hin
   exact⟨((atL l t).1+e*l.a,(atL l t).2+e*l.b),fun j hj=>by rw [bP];exact hs j hj e he Rat.le_refl,by rw [bP,j6 hl];have:=Rat.mul_pos he (dB hl);grind⟩
  ·obtain⟨e,he,hs⟩:=fF (fun j=>a7 j (atL l t)) (fun j => -((j.a:Rat)*l.a+j.b*l.b)) _ hin
   exact⟨((atL l t).1 + -e*l.a,(atL l t).2 + -e*l.b),fun j hj=>by rw [bP];have:=hs j hj e he Rat.le_refl;grind,by rw [bP,j6 hl];have:=Rat.mul_pos he (dB hl);grind⟩
 |none =>
  right
  have hm:=mn hl hp
  rcases sV h hl hm c (fun s hs=>hs)with⟨r,a,b⟩|⟨r,a,b⟩|⟨r,rr⟩
  ·exact .inl ⟨r,a,b⟩
  ·exact .inr ⟨r,b,a⟩
  ·right
   have hns:=rn hm
   cases c with
   |nil =>
    exfalso
    unfold gR gb at hp;cases hp
   |cons s c =>
    obtain⟨q,hq⟩:=h.inn
    have hsl:=rr s Ms
    have hv:=hq s.1 (List.mem_map.2 ⟨s,Ms,rfl⟩)
    rw [hsl,fg]at hv
    have b:Rgt (Inn (a8 (s::c))) l:=⟨q,hq,by grind⟩
    exact⟨r,fun a=>hns ⟨a,b⟩,b⟩
end Go.Ab
