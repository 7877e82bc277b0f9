/- Texts laid one behind the other: GmB, CvxE, Mix, StkA. -/
import Derived.Test.YtgiifnbebppbgaaGreatDoorB15
import Derived.Test.YtgiifnbebppbgaaGreatDoorB16
import Derived.Test.YtgiifnbebppbgaaGreatDoorLate
import Derived.Test.YtgiifnbebppbgaaGreatDoorB13
import Derived.Test.YtgiifnbebppbgaaGreatDoorB05
set_option linter.unusedSectionVars false
set_option linter.unusedVariables false
set_option linter.unusedSimpArgs false
namespace Go.Ab
open Go.Proofs
variable [Base]
def spAt (cuts:List Rat) (i:Nat):Spn:=⟨if 0<i then cuts.getD (i-1) 0 else 0,if i<cuts.length then cuts.getD i 0 else 0,decide (i=0),decide (i=cuts.length)⟩
def fromStep (cuts:List Rat) (marks:List Bool) (out:List Spn) (i:Nat):List Spn :=
 if marks.getD i false=false then out
 else if 0<i∧marks.getD (i-1) false=true∧0<out.length then out.set (out.length-1) ⟨(out.getD (out.length-1) Spn.full).lo,(spAt cuts i).hi,(out.getD (out.length-1) Spn.full).nl,(spAt cuts i).nh⟩
 else out++[spAt cuts i]
def fromS (cuts:List Rat) (marks:List Bool):List Spn:=(List.range marks.length).foldl (fromStep cuts marks) []
def combS (op:Int) (a b:List Spn):List Spn:=fromS (endsS (a++b)) ((probes (endsS (a++b))).map fun t=>opB op (inL a t) (inL b t))
def sampleS (s:Spn):Rat:=if s.nl&&s.nh then 0 else if s.nl then s.hi-1 else if s.nh then s.lo+1 else midR s.lo s.hi
abbrev Fg:=Li×Spn
def halfS (l m:Li) (side:Int):List Spn×Bool :=
 if detL l m=0 then(if sideL m (baseL l)=side then [Spn.full]else [],decide (sideL m (baseL l)=0))
 else if sideL m (atL l (parL l (meetP l m)+1))=side then([⟨parL l (meetP l m),0,false,true⟩],false)else([⟨0,parL l (meetP l m),true,false⟩],false)
def splitF (f:Fg) (m:Li):List Fg×List Fg :=
 if(halfS f.1 m 1).2 then([],[])else((combS 2 [f.2] (halfS f.1 m 1).1).map fun s=>(f.1,s),(combS 2 [f.2] (halfS f.1 m (-1)).1).map fun s=>(f.1,s))
def edgeStep (l m:Li) (s:Spn):Spn :=
 if 0<(crossP (dirL m) (dirL l)).num.sign then(if s.nl=true∨0<(parL l (meetP l m)-s.lo).num.sign then⟨parL l (meetP l m),s.hi,false,s.nh⟩else s)
 else if s.nh=true∨(parL l (meetP l m)-s.hi).num.sign<0 then⟨s.lo,parL l (meetP l m),s.nl,false⟩else s
def spBad (s:Spn):Bool := !s.nl && !s.nh&&decide (0≤(s.lo-s.hi).num.sign)
def edgeGo (l:Li) (i:Nat):Nat→List Li→Spn→Spn×Bool
 |_,[],s=>(s,true)
 |k,m::c,s=>if k=i∨cmpL l m=0 then edgeGo l i (k+1) c s
  else if detL l m=0 then(if 0<sideL m (baseL l)then edgeGo l i (k+1) c s else(s,false))
  else if spBad (edgeStep l m s)then(edgeStep l m s,false)else edgeGo l i (k+1) c (edgeStep l m s)
def edgeC (c:List Li) (i:Nat):Spn×Bool:=edgeGo (c.getD i ⟨0,0,0⟩) i 0 c Spn.full
def nearStep (p v:Pq) (s:Rat) (a:Li):Rat :=
 if(valL a (addP p 1 v)-valL a p).num.sign=0∨sideL a p=0 then s
 else if 0<(-(valL a p/(valL a (addP p 1 v)-valL a p))).num.sign∧(-(valL a p/(valL a (addP p 1 v)-valL a p))/2-s).num.sign<0 then -(valL a p/(valL a (addP p 1 v)-valL a p))/2 else s
def nearP (l:List Li) (p v:Pq):Pq:=addP p (l.foldl (nearStep p v) 1) v
def innerAt (c:List Li) (i:Nat) (l:Li):Pq:=nearP c (atL l (sampleS (edgeC c i).1)) (-(dirL l).2,(dirL l).1)
def innerGo (c:List Li):Nat→List Li→Option Pq
 |_,[]=>none
 |i,l::r=>if(edgeC c i).2 then some (innerAt c i l)else innerGo c (i+1) r
def innerC (c:List Li):Option Pq:=if c=[]then some (0,0)else innerGo c 0 c
abbrev alt (l m:Li):Bool:=decide (angP (dirL l) (dirL m)<0)
def canonStep (c:List Li) (out:List Li) (i:Nat):List Li:=if(edgeC c i).2 then insB alt out (c.getD i ⟨0,0,0⟩)else out
def canonC (c:List Li):List Li:=(List.range c.length).foldl (canonStep c) []
def placeC (c:List Li) (l:Li):Int:=if(innerC (c++[l])).isSome then(if(innerC (c++[l.neg])).isSome then 0 else 1)else -1
def joinT (l:Li):Tr→Tr→Tr
 | .leaf i, .leaf j=>if i=j then .leaf i else .node l (.leaf i) (.leaf j)
 |a,b => .node l a b
abbrev withC (c:List Li) (l:Li):List Li:=canonC (c++[l])
def restrT:Tr→List Li→Tr
 | .leaf i,_ => .leaf i
 | .node l a b,c=>if placeC c l=1 then restrT a c else if placeC c l = -1 then restrT b c else joinT l (restrT a (withC c l)) (restrT b (withC c l.neg))
def notT:Tr→Tr
 | .leaf i => .leaf (!i)
 | .node l a b => .node l (notT a) (notT b)
def chooseT (op:Int) (i:Bool) (b:Tr) (c:List Li):Tr :=
 if op=1∧i=true then .leaf true else if(op=2∨op=3)∧i=false then .leaf false else if(op=3∨op=4)∧i=true then notT (restrT b c)else restrT b c
def mergeT (op:Int):Tr→Tr→List Li→Tr
 | .leaf i,b,c=>chooseT op i b c
 | .node l x y,b,c=>if placeC c l=1 then mergeT op x b c else if placeC c l = -1 then mergeT op y b c else joinT l (mergeT op x b (withC c l)) (mergeT op y b (withC c l.neg))
def linesT:Tr→List Li
 | .leaf _=>[]
 | .node l a b=>l::(linesT a++linesT b)
def splits (l:List Fg) (m:Li):List Fg×List Fg:=((l.map fun f=>(splitF f m).1).flatten,(l.map fun f=>(splitF f m).2).flatten)
def rawT (inn:Pq→Bool):Nat→List Fg→List Li→Tr
 |0,_,_ => .leaf false
 |n+1,[],c => .leaf (inn ((innerC c).getD (0,0)))
 |n+1,f::l,c => .node f.1 (rawT inn n (splits (f::l) f.1).1 (c++[f.1])) (rawT inn n (splits (f::l) f.1).2 (c++[f.1.neg]))
theorem rsign_pos {x:Rat}:0<x.num.sign↔0<x:=by rw [Int.sign_pos_iff];exact rnum_pos
theorem rnum_neg {x:Rat}:x.num<0↔x<0:=by
 have h1:0≤x.num↔0≤x:=Rat.num_nonneg
 constructor
 ·intro h
  exact Rat.not_le.1 fun k=>by have:=h1.2 k;omega
 ·intro h
  have:¬0≤x.num:=fun k=>Rat.not_le.2 h (h1.1 k)
  omega
theorem rsign_neg {x:Rat}:x.num.sign<0↔x<0:=by rw [Int.sign_neg_iff];exact rnum_neg
theorem rsign_nn {x:Rat}:0≤x.num.sign↔0≤x:=by
 rw [←Int.not_lt,rsign_neg,Rat.not_lt]
theorem den_dir (l:Li):dotP (dirL l) (dirL l)=(l.a:Rat)*l.a+l.b*l.b:=by unfold dotP dirL;simp only;grind
theorem bf_mul {l:Li}(h:l.ok):l.bf*((l.a:Rat)*l.a+l.b*l.b) = -l.c:=by
 have hn:=nrm_pos h
 unfold Li.bf
 rw [show(l.b:Rat)*l.b + -(l.a:Rat) * -(l.a:Rat)=(l.a:Rat)*l.a+l.b*l.b by grind]
 generalize(l.a:Rat)*l.a+l.b*l.b=n at *
 rw [Rat.neg_mul,Rat.div_mul_cancel (by grind)]
theorem par_mul {l:Li}(h:l.ok) (p:Pq):parL l p*((l.a:Rat)*l.a+l.b*l.b)=p.1*l.b-p.2*l.a:=by
 have hn:=nrm_pos h
 unfold parL
 rw [den_dir,Rat.div_mul_cancel (by grind)]
 unfold dotP dirL;simp only;grind
theorem at_eq {l:Li}(t:Rat):atL l t=(l.bf*l.a+t*l.b,l.bf*l.b-t*l.a):=by
 unfold atL addP baseL dirL;refine Prod.ext ?_ ?_ <;> simp only <;> grind
theorem at_on {l:Li}(h:l.ok) (t:Rat):valL l (atL l t)=0:=by
 have hb:=bf_mul h
 rw [at_eq];unfold valL;simp only;grind
theorem at_par {l:Li}(h:l.ok){p:Pq}(hp:valL l p=0):atL l (parL l p)=p:=by
 have hn:=nrm_pos h
 have hb:=bf_mul h
 have hq:=par_mul h p
 rw [at_eq]
 obtain⟨x,y⟩:=p
 have hc:(l.c:Rat) = -(l.a*x+l.b*y):=by unfold valL at hp;simp only at hp;grind
 generalize parL l (x,y)=t at *
 generalize l.bf=f at *
 simp only at hq
 rw [hc]at hb
 generalize(l.a:Rat)=a at *
 generalize(l.b:Rat)=b at *
 have hne:a*a+b*b≠0:=by grind
 simp only [Prod.mk.injEq]
 constructor
 ·refine ra_can hne ?_
  have:(a*a+b*b)*(f*a+t*b)=(f*(a*a+b*b))*a+(t*(a*a+b*b))*b:=by grind
  rw [this,hb,hq];grind
 ·refine ra_can hne ?_
  have:(a*a+b*b)*(f*b-t*a)=(f*(a*a+b*b))*b-(t*(a*a+b*b))*a:=by grind
  rw [this,hb,hq];grind
theorem meet_on {l m:Li}(h:detL l m≠0):valL l (meetP l m)=0∧valL m (meetP l m)=0:=by
 have e1:∀x:Rat,x/detL l m*detL l m=x:=fun x=>Rat.div_mul_cancel h
 obtain⟨x,hx⟩:∃x,x=((l.b:Rat)*m.c-m.b*l.c)/detL l m:=⟨_,rfl⟩
 obtain⟨y,hy⟩:∃y,y=((m.a:Rat)*l.c-l.a*m.c)/detL l m:=⟨_,rfl⟩
 have hx':x*detL l m=(l.b:Rat)*m.c-m.b*l.c:=by rw [hx];exact e1 _
 have hy':y*detL l m=(m.a:Rat)*l.c-l.a*m.c:=by rw [hy];exact e1 _
 have:meetP l m=(x,y):=by unfold meetP;rw [←hx,←hy]
 rw [this]
 clear e1 hx hy this
 constructor
 ·refine ra_can h ?_
  unfold valL
  have:detL l m*((l.a:Rat)*x+l.b*y+l.c)=l.a*(x*detL l m)+l.b*(y*detL l m)+l.c*detL l m:=by grind
  simp only
  rw [this,hx',hy'];unfold detL;grind
 ·refine ra_can h ?_
  unfold valL
  have:detL l m*((m.a:Rat)*x+m.b*y+m.c)=m.a*(x*detL l m)+m.b*(y*detL l m)+m.c*detL l m:=by grind
  simp only
  rw [this,hx',hy'];unfold detL;grind
def slp (l m:Li):Rat:=(m.a:Rat)*l.b-m.b*l.a
theorem slp_cross (l m:Li):crossP (dirL m) (dirL l)=slp l m:=by unfold crossP dirL slp;simp only;grind
theorem slp_det (l m:Li):detL l m = - slp l m:=by unfold detL slp;grind
theorem valL_at (l m:Li) (t:Rat):valL m (atL l t)=valL m (baseL l)+t*slp l m:=by
 rw [at_eq];unfold valL slp baseL;simp only;grind
theorem valL_at2 {l m:Li}(hl:l.ok) (h:detL l m≠0) (t:Rat):valL m (atL l t)=(t-parL l (meetP l m))*slp l m:=by
 obtain⟨h1,h2⟩:=meet_on h
 have h3:=at_par hl h1
 have h4:=valL_at l m (parL l (meetP l m))
 rw [h3,h2]at h4
 rw [valL_at];grind
def InS (s:Spn) (t:Rat):Prop:=(s.nl=true∨s.lo<t)∧(s.nh=true∨t<s.hi)
theorem midR_in {x y:Rat}(h:x<y):x<midR x y∧midR x y<y:=by unfold midR;grind
theorem sample_in {s:Spn}(h:spBad s=false):InS s (sampleS s):=by
 obtain⟨lo,hi,nl,nh⟩:=s
 unfold spBad at h
 unfold InS sampleS
 cases nl <;> cases nh <;> simp only [Bool.and_self,Bool.false_eq_true,if_false,if_true,Bool.and_true,Bool.and_false,true_or,false_or,true_and,and_true]
 ·have h':lo<hi:=by
   have:¬0≤(lo-hi).num.sign:=of_decide_eq_false h
   rw [rsign_nn]at this;grind
  exact midR_in h'
 ·grind
 ·grind
theorem spBad_in {s:Spn}{t:Rat}(h:InS s t):spBad s=false:=by
 unfold spBad
 cases h1:s.nl with
 |true=>rfl
 |false =>
  cases h2:s.nh with
  |true=>rfl
  |false =>
   obtain⟨a,b⟩:=h
   rw [h1]at a;rw [h2]at b
   have a:=a.resolve_left (by decide)
   have b:=b.resolve_left (by decide)
   have:¬0≤(s.lo-s.hi).num.sign:=by rw [rsign_nn];grind
   rw [decide_eq_false this];rfl
theorem mul_pos_r {x k:Rat}(hk:0<k):0<x*k↔0<x:=by
 rw [Rat.mul_comm];exact Rat.mul_pos_iff_of_pos_left hk
theorem edgeStep_in {l m:Li}(hl:l.ok) (h:detL l m≠0) (s:Spn) (t:Rat):InS (edgeStep l m s) t↔InS s t∧0<valL m (atL l t):=by
 rw [valL_at2 hl h]
 unfold edgeStep
 rw [slp_cross]
 generalize parL l (meetP l m)=u
 have hk:slp l m≠0:=fun e=>h (by rw [slp_det,e];rfl)
 generalize slp l m=k at *
 clear h
 by_cases h0:0<k.num.sign
 ·rw [if_pos h0,mul_pos_r (rsign_pos.1 h0)]
  split
  ·rename_i h1
   rw [rsign_pos]at h1
   unfold InS;simp only
   constructor
   ·rintro ⟨a,b⟩
    have a:=a.resolve_left (by decide)
    refine⟨⟨?_,b⟩,by grind⟩
    rcases h1 with h1|h1
    ·exact .inl h1
    ·right;grind
   ·rintro ⟨⟨a,b⟩,c⟩
    exact⟨.inr (by grind),b⟩
  ·rename_i h1
   rw [not_or,rsign_pos]at h1
   constructor
   ·intro h
    refine⟨h,?_⟩
    have:=h.1.resolve_left h1.1
    grind
   ·exact And.left
 ·rw [if_neg h0]
  rw [rsign_pos]at h0
  have hk':0 < -k:=by grind
  have e:(t-u)*k=(u-t) * -k:=by grind
  rw [e,mul_pos_r hk']
  split
  ·rename_i h1
   rw [rsign_neg]at h1
   unfold InS;simp only
   constructor
   ·rintro ⟨a,b⟩
    have b:=b.resolve_left (by decide)
    refine⟨⟨a,?_⟩,by grind⟩
    rcases h1 with h1|h1
    ·exact .inl h1
    ·right;grind
   ·rintro ⟨⟨a,b⟩,c⟩
    exact⟨a, .inr (by grind)⟩
  ·rename_i h1
   rw [not_or,rsign_neg]at h1
   constructor
   ·intro h
    refine⟨h,?_⟩
    have:=h.2.resolve_left h1.1
    grind
   ·exact And.left
theorem val_par {l m:Li}(h:detL l m=0) (t:Rat):valL m (atL l t)=valL m (baseL l):=by
 have:slp l m=0:=by rw [slp_det]at h;grind
 rw [valL_at,this];grind
theorem edgeGo_ok {l:Li}(hl:l.ok) (i:Nat):∀(c:List Li) (k:Nat) (s:Spn),(∃t,InS s t)→c[i-k]? = some l∨i<k→
  ((edgeGo l i k c s).2=true→(∀t,InS (edgeGo l i k c s).1 t↔InS s t∧∀m∈c,m≠l→0<valL m (atL l t))∧∃t,InS (edgeGo l i k c s).1 t)∧
  ((edgeGo l i k c s).2=false→∀t,InS s t→∃m∈c,m≠l∧valL m (atL l t)≤0)
 | [],k,s,hs,_=>⟨fun _=>⟨fun t=>by simp [edgeGo],hs⟩,fun h=>by cases h⟩
 |m::c,k,s,hs,hi=>by
  have hi':c[i-(k+1)]? = some l∨i<k+1:=by
   rcases hi with h|h
   ·by_cases e:i≤k
    ·exact .inr (by omega)
    ·left
     rw [show i-k=i-(k+1)+1 by omega,List.getElem?_cons_succ]at h
     exact h
   ·exact .inr (by omega)
  unfold edgeGo
  by_cases h0:k=i∨cmpL l m=0
  ·rw [if_pos h0]
   have hml:m=l:=by
    rcases h0 with h0|h0
    ·rcases hi with h|h
     ·rw [h0,Nat.sub_self]at h;simpa using h
     ·omega
    ·exact(cmpL_zero.1 h0).symm
   obtain⟨a,b⟩:=edgeGo_ok hl i c (k+1) s hs hi'
   refine⟨fun h=>⟨fun t=>?_,(a h).2⟩,fun h t ht=>?_⟩
   ·rw [(a h).1 t]
    constructor
    ·rintro ⟨h1,h2⟩
     refine⟨h1,fun m' hm' hne=>?_⟩
     rcases List.mem_cons.1 hm' with e|e
     ·exact absurd (e.trans hml) hne
     ·exact h2 m' e hne
    ·rintro ⟨h1,h2⟩
     exact⟨h1,fun m' hm'=>h2 m' (List.mem_cons_of_mem _ hm')⟩
   ·obtain⟨m',h1,h2⟩:=b h t ht
    exact⟨m',List.mem_cons_of_mem _ h1,h2⟩
  ·rw [if_neg h0]
   rw [not_or,cmpL_zero]at h0
   have hne:m≠l:=fun e=>h0.2 e.symm
   by_cases hd:detL l m=0
   ·rw [if_pos hd]
    have hv:=val_par hd
    by_cases hsd:0<sideL m (baseL l)
    ·rw [if_pos hsd]
     have hsd':0<valL m (baseL l):=rsign_pos.1 hsd
     obtain⟨a,b⟩:=edgeGo_ok hl i c (k+1) s hs hi'
     refine⟨fun h=>⟨fun t=>?_,(a h).2⟩,fun h t ht=>?_⟩
     ·rw [(a h).1 t]
      constructor
      ·rintro ⟨h1,h2⟩
       refine⟨h1,fun m' hm' hne=>?_⟩
       rcases List.mem_cons.1 hm' with e|e
       ·rw [e,hv];exact hsd'
       ·exact h2 m' e hne
      ·rintro ⟨h1,h2⟩
       exact⟨h1,fun m' hm'=>h2 m' (List.mem_cons_of_mem _ hm')⟩
     ·obtain⟨m',h1,h2⟩:=b h t ht
      exact⟨m',List.mem_cons_of_mem _ h1,h2⟩
    ·rw [if_neg hsd]
     refine⟨fun h=>(by cases h),fun _ t _=>⟨m,List.mem_cons_self,hne,?_⟩⟩
     rw [hv]
     exact Rat.not_lt.1 fun k=>hsd (rsign_pos.2 k)
   ·rw [if_neg hd]
    have hst:=edgeStep_in hl hd s
    cases hb:spBad (edgeStep l m s)with
    |true =>
     rw [if_pos rfl]
     refine⟨fun h=>(by cases h),fun _ t ht=>⟨m,List.mem_cons_self,hne,Rat.not_lt.1 fun k=>?_⟩⟩
     rw [spBad_in ((hst t).2 ⟨ht,k⟩)]at hb;cases hb
    |false =>
     rw [if_neg (by decide)]
     obtain⟨a,b⟩:=edgeGo_ok hl i c (k+1) (edgeStep l m s) ⟨_,sample_in hb⟩ hi'
     refine⟨fun h=>⟨fun t=>?_,(a h).2⟩,fun h t ht=>?_⟩
     ·rw [(a h).1 t,hst]
      constructor
      ·rintro ⟨⟨h1,h3⟩,h2⟩
       refine⟨h1,fun m' hm' hne=>?_⟩
       rcases List.mem_cons.1 hm' with e|e
       ·rw [e];exact h3
       ·exact h2 m' e hne
      ·rintro ⟨h1,h2⟩
       exact⟨⟨h1,h2 m List.mem_cons_self hne⟩,fun m' hm'=>h2 m' (List.mem_cons_of_mem _ hm')⟩
     ·by_cases hm:0<valL m (atL l t)
      ·obtain⟨m',h1,h2⟩:=b h t ((hst t).2 ⟨ht,hm⟩)
       exact⟨m',List.mem_cons_of_mem _ h1,h2⟩
      ·exact⟨m,List.mem_cons_self,hne,Rat.not_lt.1 hm⟩
theorem edgeC_t {c:List Li}{i:Nat}{l:Li}(hl:l.ok) (hi:c[i]? = some l) (h:(edgeC c i).2=true):(∀t,InS (edgeC c i).1 t↔∀m∈c,m≠l→0<valL m (atL l t))∧∃t,InS (edgeC c i).1 t:=by
 have e:c.getD i ⟨0,0,0⟩=l:=by rw [List.getD_eq_getElem?_getD,hi];rfl
 unfold edgeC at h⊢
 rw [e]at h⊢
 obtain⟨a,b⟩:=(edgeGo_ok hl i c 0 Spn.full ⟨0, .inl rfl, .inl rfl⟩ (.inl (by rw [Nat.sub_zero];exact hi))).1 h
 exact⟨fun t=>(a t).trans ⟨fun h=>h.2,fun h=>⟨⟨.inl rfl, .inl rfl⟩,h⟩⟩,b⟩
theorem edgeC_edg {c:List Li}{i:Nat}{l:Li}(hl:l.ok) (hi:c[i]? = some l):(edgeC c i).2=true↔Edg c l:=by
 constructor
 ·intro h
  obtain⟨a,t,b⟩:=edgeC_t hl hi h
  exact⟨atL l t,at_on hl t,(a t).1 b⟩
 ·rintro ⟨r,h1,h2⟩
  cases h:(edgeC c i).2 with
  |true=>rfl
  |false =>
   have e:c.getD i ⟨0,0,0⟩=l:=by rw [List.getD_eq_getElem?_getD,hi];rfl
   unfold edgeC at h
   rw [e]at h
   obtain⟨m,hm,hne,hv⟩:=(edgeGo_ok hl i c 0 Spn.full ⟨0, .inl rfl, .inl rfl⟩ (.inl (by rw [Nat.sub_zero];exact hi))).2 h (parL l r) ⟨.inl rfl, .inl rfl⟩
   rw [at_par hl h1]at hv
   exact absurd (h2 m hm hne) (Rat.not_lt.2 hv)
theorem halfP_sgn (v:Pq):halfP v=if v.1.num.sign=0∧v.2.num.sign=0 then 0 else if 0<v.2.num.sign∨v.2.num.sign=0∧0<v.1.num.sign then 1 else 2:=by
 unfold halfP
 simp only [rsign_zero,rsign_pos]
section
variable {P:Program}{C:Ctx}{n:Nat}{F F' F0 Fe:Fr}{H:LH}{ops:Array Oper}{Q:Exit→Fr→LH→Prop}{rs:List Nat}{Hc:LH}{E:Nat→LH}
def befB (ops:Array Oper) (k t:Nat):Bool:=(List.range k).any fun j=>dstAt ops j==some t
def lisB (ops:Array Oper) (listed:Array Bool) (t:Nat):Bool:=(List.range ops.size).any fun j=>listed.getD j false&&dstAt ops j==some t
def mixF (B:Nat→Bool) (Fe F0:Fr):Fr:=fun t=>bif B t then Fe t else F0 t
def mixOk (ops:Array Oper) (rs:List Nat):Bool :=
 ((List.range ops.size).all fun i=>backAt ops i) &&
 ((List.range ops.size).all fun i=>(List.range i).all fun j=>(dstAt ops j).isNone || !(dstAt ops i==dstAt ops j)) &&
 ((List.range ops.size).all fun i=>(List.range ops.size).all fun j=>match dstAt ops j with
  |some d => !looksAtB ops i d||(bif Nat.blt j i then edgeT ops i j else(Nat.beq i j||edgeT ops j i))
  |none=>true) &&
 ((List.range rs.length).all fun t=>Nat.blt (rs.getD t 0) ops.size&&(List.range t).all fun u=>edgeT ops (rs.getD t 0) (rs.getD u 0)&&Nat.blt (rs.getD u 0) (rs.getD t 0))
inductive Mx (P:Program) (C:Ctx) (n:Nat) (ops:Array Oper) (rs:List Nat) (Hc:LH) (E:Nat→LH):Nat→Nat→List Oper→Fr→Fr→Prop
 |nil {i s:Nat}(F:Fr):Mx P C n ops rs Hc E i s [] F F
 |free {i s d:Nat}{o:Oper}{sv:SV}{r:List Oper}{F F':Fr}(hr:rs.contains i=false) (hd:o.dst=some d) (hdn:Nat.blt d n=true) (hds:DS P ops n Hc o F sv) (h:Mx P C n ops rs Hc E (i+1) s r (upd F d sv) F'):Mx P C n ops rs Hc E i s (o::r) F F'
 |row {i s:Nat}{o:Oper}{sv:SV}{r:List Oper}{F F':Fr}(hr:rs[s]? = some i) (hts:TS P C n ops i o F (E s++Hc) sv (E (s+1)++Hc)) (h:Mx P C n ops rs Hc E (i+1) (s+1) r (dstf o F sv) F'):Mx P C n ops rs Hc E i s (o::r) F F'
def Vld (P:Program) (C:Ctx) (n:Nat) (ops:Array Oper) (rs:List Nat) (Hc:LH) (E:Nat→LH) (F0 Fe:Fr) (k:Nat):Prop:=∃o,ops[k]? = some o∧∃Fk:Fr,(∀t,Fk t=mixF (befB ops k) Fe F0 t)∧
  ((rs.contains k=false∧∃d,o.dst=some d∧Nat.blt d n=true∧DS P ops n Hc o Fk (Fe d))∨
   ∃s sv,rs[s]? = some k∧(∀d,o.dst=some d→sv=Fe d)∧TS P C n ops k o Fk (E s++Hc) sv (E (s+1)++Hc))
theorem Mx.keep {i s:Nat}{l:List Oper}(h:Mx P C n ops rs Hc E i s l F F'):∀t,(∀o∈l,o.dst≠some t)→F' t=F t:=by
 induction h with
 |nil=>intro t _;rfl
 |free _ hd _ _ _ ih =>
  intro t ht
  rw [ih t fun o ho=>ht o (by simp [ho])]
  exact upd_ne fun e=>ht _ List.mem_cons_self (by rw [hd,e])
 | @row i s o sv r F F' _ _ _ ih =>
  intro t ht
  rw [ih t fun o ho=>ht o (by simp [ho])]
  unfold dstf
  cases hd:o.dst with
  |none=>rfl
  |some d=>exact upd_ne fun e=>ht o (by simp) (by rw [hd,e])
theorem befB_succ (k t:Nat):befB ops (k+1) t=(befB ops k t||dstAt ops k==some t):=by
 unfold befB;rw [List.range_succ,List.any_append];simp
theorem mixOk_spec (h:mixOk ops rs=true):(∀i,i<ops.size→backAt ops i=true)∧(∀i j d,i<ops.size→j<i→dstAt ops j=some d→dstAt ops i≠some d)∧
  (∀i j d,i<ops.size→j<ops.size→dstAt ops j=some d→looksAtB ops i d=true→(j<i→edgeT ops i j=true)∧(i<j→edgeT ops j i=true))∧
  ∀(t k:Nat),rs[t]? = some k→k<ops.size∧∀(u:Nat) (k':Nat),u<t→rs[u]? = some k'→edgeT ops k k'=true∧k'<k:=by
 simp only [mixOk,Bool.and_eq_true,List.all_eq_true,List.mem_range,Bool.or_eq_true,Nat.blt_eq]at h
 obtain⟨⟨⟨h1,h2⟩,h3⟩,h4⟩:=h
 refine⟨h1,fun i j d hi hj hd he=>?_,fun i j d hi hj hd hl=>?_,fun t k hk=>?_⟩
 ·rcases h2 i hi j hj with h|h
  ·rw [hd]at h;cases h
  ·rw [hd,he]at h;simp at h
 ·have:=h3 i hi j hj
  rw [hd]at this
  simp only [hl,Bool.not_true,Bool.false_or]at this
  refine⟨fun hji=>?_,fun hij=>?_⟩
  ·rw [show Nat.blt j i=true from by simpa using hji]at this
   exact this
  ·rw [show Nat.blt j i=false from by
    cases hb:Nat.blt j i with
    |false=>rfl
    |true=>have:=Nat.blt_eq.mp hb;omega]at this
   simp only [cond_false,Bool.or_eq_true]at this
   rcases this with h|h
   ·have:=Nat.eq_of_beq_eq_true h;omega
   ·exact h
 ·have ht:=(List.getElem?_eq_some_iff.1 hk).1
  have gk:rs.getD t 0=k:=by simp [List.getD,hk]
  obtain⟨g1,g2⟩:=h4 t ht
  rw [gk]at g1 g2
  refine⟨g1,fun u k' hu hk'=>?_⟩
  have gk':rs.getD u 0=k':=by simp [List.getD,hk']
  have:=g2 u hu
  rw [gk']at this
  exact this
theorem dstAt_of {i:Nat}{o:Oper}(h:ops[i]? = some o):dstAt ops i=o.dst:=by unfold dstAt;rw [h]
theorem Mx.vld (hchk:mixOk ops rs=true){i s:Nat}{l:List Oper}(h:Mx P C n ops rs Hc E i s l F Fe):l=ops.toList.drop i→(∀t,F t=mixF (befB ops i) Fe F0 t)→∀k,i≤k→k<ops.size→Vld P C n ops rs Hc E F0 Fe k:=by
 obtain⟨_,hdis,_,_⟩:=mixOk_spec hchk
 induction h with
 |nil =>
  intro hl _ k hik hk
  have:=congrArg List.length hl
  simp at this
  omega
 | @free i s d o sv r F F' hr hd hdn hds h ih =>
  intro hl hF k hik hk
  have ho:ops[i]? = some o:=by
   have:=congrArg (·[0]?) hl
   simpa using this.symm
  have hr':r=ops.toList.drop (i+1):=by
   have:=congrArg List.tail hl
   simpa using this
  have hsv:F' d=sv:=by
   rw [h.keep d fun o' ho'=>?_]
   ·exact upd_eq
   ·rw [hr']at ho'
    obtain⟨j,hj,rfl⟩:=List.mem_iff_getElem.1 ho'
    simp only [List.length_drop,Array.length_toList]at hj
    simp only [List.getElem_drop,Array.getElem_toList]
    have:=hdis (i+1+j) i d (by omega) (by omega) (by rw [dstAt_of ho,hd])
    rwa [dstAt_of (o:=ops[i+1+j]) (by simp)]at this
  rcases Nat.lt_or_ge i k with hlt|hge
  ·refine ih hr' (fun t=>?_) k (by omega) hk
   unfold mixF
   rw [befB_succ,dstAt_of ho,hd]
   by_cases ht:t=d
   ·subst ht;rw [upd_eq,hsv];simp
   ·rw [upd_ne ht,hF t]
    unfold mixF
    have:(some d==some t)=false:=by simpa using fun e=>ht e.symm
    rw [this,Bool.or_false]
  ·obtain rfl:k=i:=by omega
   exact⟨o,ho,F,hF, .inl ⟨hr,d,hd,hdn,hsv▸hds⟩⟩
 | @row i s o sv r F F' hr hts h ih =>
  intro hl hF k hik hk
  have ho:ops[i]? = some o:=by
   have:=congrArg (·[0]?) hl
   simpa using this.symm
  have hr':r=ops.toList.drop (i+1):=by
   have:=congrArg List.tail hl
   simpa using this
  have hsv:∀d,o.dst=some d→F' d=sv:=fun d hd=>by
   rw [h.keep d fun o' ho'=>?_]
   ·unfold dstf;rw [hd];exact upd_eq
   ·rw [hr']at ho'
    obtain⟨j,hj,rfl⟩:=List.mem_iff_getElem.1 ho'
    simp only [List.length_drop,Array.length_toList]at hj
    simp only [List.getElem_drop,Array.getElem_toList]
    have:=hdis (i+1+j) i d (by omega) (by omega) (by rw [dstAt_of ho,hd])
    rwa [dstAt_of (o:=ops[i+1+j]) (by simp)]at this
  rcases Nat.lt_or_ge i k with hlt|hge
  ·refine ih hr' (fun t=>?_) k (by omega) hk
   unfold mixF dstf
   rw [befB_succ,dstAt_of ho]
   cases hd:o.dst with
   |none =>
    simp only
    rw [hF t]
    unfold mixF
    simp
   |some d =>
    by_cases ht:t=d
    ·subst ht;simp only [upd_eq];rw [hsv _ hd];simp
    ·simp only [upd_ne ht]
     rw [hF t]
     unfold mixF
     have:(some d==some t)=false:=by simpa using fun e=>ht e.symm
     rw [this,Bool.or_false]
  ·obtain rfl:k=i:=by omega
   exact⟨o,ho,F,hF, .inr ⟨s,sv,hr,fun d hd=>(hsv d hd).symm,hts⟩⟩
theorem lisB_set {listed:Array Bool}{i t:Nat}{o:Oper}(hs:listed.size=ops.size) (ho:ops[i]? = some o):lisB ops (listed.setIfInBounds i true) t=(lisB ops listed t||o.dst==some t):=by
 have hio:=(Array.getElem?_eq_some_iff.1 ho).1
 have key:∀j,j<ops.size→((listed.setIfInBounds i true).getD j false=(listed.getD j false||Nat.beq j i)):=fun j hj=>by
  by_cases hji:i=j
  ·subst hji;simp [hs,hio]
  ·rw [getD_set_ne false hji]
   have:Nat.beq j i=false:=by
    cases hb:Nat.beq j i with
    |false=>rfl
    |true=>exact absurd (Nat.eq_of_beq_eq_true hb).symm hji
   rw [this,Bool.or_false]
 rw [Bool.eq_iff_iff]
 unfold lisB
 simp only [List.any_eq_true,List.mem_range,Bool.and_eq_true,Bool.or_eq_true]
 constructor
 ·rintro ⟨j,hj,h1,h2⟩
  rw [key j hj,Bool.or_eq_true]at h1
  rcases h1 with h1|h1
  ·exact .inl ⟨j,hj,h1,h2⟩
  ·have:=Nat.eq_of_beq_eq_true h1
   subst this
   rw [dstAt_of ho]at h2
   exact .inr h2
 ·rintro (⟨j,hj,h1,h2⟩|h2)
  ·exact⟨j,hj,by rw [key j hj,h1];rfl,h2⟩
  ·exact⟨i,hio,by rw [key i hio,Nat.beq_refl];simp,by rw [dstAt_of ho];exact h2⟩
theorem edgeT_on {i j:Nat}{listed:Array Bool}(hcl:Closed ops listed) (hi:listed.getD i false=true) (he:edgeT ops i j=true):listed.getD j false=true:=by
 have on:∀(k S:Nat),(∀j,S.testBit j=true→listed.getD j false=true)→∀j,(clos ops k S).testBit j=true→listed.getD j false=true:=by
  intro k
  induction k with
  |zero=>intro S hS j h;exact hS j h
  |succ k ih =>
   intro S hS j h
   unfold clos at h
   refine ih _ (fun j h=>?_) j h
   cases hb:S.testBit k with
   |false=>rw [hb]at h;exact hS j h
   |true =>
    rw [hb]at h
    simp only [cond_true,Nat.testBit_or,Bool.or_eq_true]at h
    rcases h with h|h
    ·exact hS j h
    ·exact hcl k j (hS k hb) (dmask_edge h)
 exact on i _ (fun j h=>hcl i j hi (dmask_edge h)) j he
theorem mixRun {Q':Exit→Act→World→Prop}(hchk:mixOk ops rs=true) (hv:∀k,k<ops.size→Vld P C n ops rs Hc E F0 Fe k) (hF0:∀t,befB ops ops.size t=false→Fe t=F0 t)
  (fin:∀a w,St C n Fe (E rs.length++Hc) a w→Q' .normal a w) :
  ∀(fuel s:Nat) (listed:Array Bool) (a:Act) (w:World),s≤rs.length→(left ops ops.size listed).length≤fuel→listed.size=ops.size→Closed ops listed→
   (∀(u:Nat) (k:Nat),rs[u]? = some k→(listed.getD k true=true↔u<s))→St C n (mixF (lisB ops listed) Fe F0) (E s++Hc) a w→wpAny P .any ops Q' fuel listed a w:=by
 obtain⟨hback,hdis,hlook,hrow⟩:=mixOk_spec hchk
 have done:∀(s:Nat) (listed:Array Bool) (a:Act) (w:World),s≤rs.length→left ops ops.size listed=[]→listed.size=ops.size→
   (∀(u:Nat) (k:Nat),rs[u]? = some k→(listed.getD k true=true↔u<s))→St C n (mixF (lisB ops listed) Fe F0) (E s++Hc) a w→Q' .normal a w:=by
  intro s listed a w hsr hnil hs hr hst
  have all:∀j,j<ops.size→listed.getD j true=true:=fun j hj=>by
   cases hb:listed.getD j true with
   |true=>rfl
   |false =>
    have:(j,ops[j])∈left ops ops.size listed:=mem_left.2 ⟨hj,by simp,hb⟩
    rw [hnil]at this;cases this
  have hs':s=rs.length:=by
   rcases Nat.lt_or_ge s rs.length with h|h
   ·exfalso
    have h1:rs[s]? = some rs[s]:=by simp [h]
    have h2:=(hrow s _ h1).1
    have:=(hr s _ h1).1 (all _ h2)
    omega
   ·omega
  subst hs'
  refine fin a w (hst.le fun t=>Le.of_eq ?_)
  unfold mixF
  have hb:lisB ops listed t=befB ops ops.size t:=by
   rw [Bool.eq_iff_iff]
   unfold lisB befB
   simp only [List.any_eq_true,List.mem_range,Bool.and_eq_true]
   constructor
   ·rintro ⟨j,h1,_,h3⟩;exact⟨j,h1,h3⟩
   ·rintro ⟨j,h1,h3⟩
    refine⟨j,h1,?_,h3⟩
    have:=all j h1
    have hsz:j<listed.size:=by omega
    simp [hsz]at this⊢;exact this
  rw [hb]
  cases h:befB ops ops.size t with
  |true=>rfl
  |false=>exact(hF0 t h).symm
 have noready:∀(listed:Array Bool),listed.size=ops.size→Region.ready .any ops listed=[]→left ops ops.size listed=[]:=fun listed hs hr=>by
  cases hl:left ops ops.size listed with
  |nil=>rfl
  |cons x l' =>
   exfalso
   obtain⟨i,o⟩:=x
   have hmem:(i,o)∈left ops ops.size listed:=by rw [hl];simp
   obtain⟨h1,h2,h3⟩:=mem_left.1 hmem
   simp only at h1 h2 h3
   have hready:i∈Region.ready .any ops listed:=by
    rw [mem_ready]
    refine⟨h3,o,h2,fun e he hb=>?_⟩
    have hlt:=back_spec (hback i h1) h2 e he hb
    cases hle:listed.getD e.on false with
    |true=>rfl
    |false =>
     have hsz:e.on<listed.size:=by omega
     have h4:listed.getD e.on true=false:=by simp [hsz]at hle⊢;exact hle
     have hm2:(e.on,ops[e.on]'(by omega))∈left ops ops.size listed:=mem_left.2 ⟨by simp only;omega,by simp,h4⟩
     have hsort:=left_sorted (ops:=ops) ops.size listed
     rw [hl]at hsort hm2
     rcases List.mem_cons.1 hm2 with h|h
     ·simp only [Prod.mk.injEq]at h;omega
     ·have:=(List.pairwise_cons.1 hsort).1 _ h;simp at this;omega
   rw [hr]at hready;cases hready
 intro fuel
 induction fuel with
 |zero =>
  intro s listed a w hsr hfu hs hcl hr hst
  have hnil:=List.eq_nil_of_length_eq_zero (Nat.le_zero.1 hfu)
  refine⟨?_,done s listed a w hsr hnil hs hr hst⟩
  cases hrd:Region.ready .any ops listed with
  |nil=>rfl
  |cons i l =>
   exfalso
   have hi:i∈Region.ready .any ops listed:=by rw [hrd];simp
   obtain⟨hun,o,ho,_⟩:=mem_ready.1 hi
   have:(i,o)∈left ops ops.size listed:=mem_left.2 ⟨(Array.getElem?_eq_some_iff.1 ho).1,ho,hun⟩
   rw [hnil]at this;cases this
 |succ fuel ih =>
  intro s listed a w hsr hfu hs hcl hr hst
  refine⟨fun hrd=>done s listed a w hsr (noready listed hs hrd) hs hr hst,fun i hi=>?_⟩
  obtain⟨hun,o,ho,_⟩:=mem_ready.1 hi
  have hio:=(Array.getElem?_eq_some_iff.1 ho).1
  have hmem:(i,o)∈left ops ops.size listed:=mem_left.2 ⟨hio,ho,hun⟩
  obtain⟨l1,l2,hl12⟩:=List.append_of_mem hmem
  have hset:=left_set hs hio hl12
  have hlen:(l1++l2).length+1=(left ops ops.size listed).length:=by rw [hl12];simp;omega
  obtain⟨o',ho',Fk,hFk,hcase⟩:=hv i hio
  rw [ho]at ho'
  obtain rfl:=Option.some.inj ho'
  have hlooks:∀t∈o.looksAt ops,Fk t=mixF (lisB ops listed) Fe F0 t:=fun t ht=>by
   rw [hFk t]
   unfold mixF
   have hlk:looksAtB ops i t=true:=by unfold looksAtB;rw [ho];simpa using ht
   have:befB ops i t=lisB ops listed t:=by
    rw [Bool.eq_iff_iff]
    unfold lisB befB
    simp only [List.any_eq_true,List.mem_range,Bool.and_eq_true]
    constructor
    ·rintro ⟨j,h1,h2⟩
     have h2':dstAt ops j=some t:=by simpa using h2
     exact⟨j,by omega,edgeT_listed hcl hi ((hlook i j t hio (by omega) h2' hlk).1 h1),h2⟩
    ·rintro ⟨j,h1,h2,h3⟩
     have h3':dstAt ops j=some t:=by simpa using h3
     refine⟨j,?_,h3⟩
     rcases Nat.lt_trichotomy j i with h|h|h
     ·exact h
     ·exfalso;subst h;rw [listed_false hs h1 h2]at hun;cases hun
     ·exfalso
      have he:=(hlook i j t hio h1 h3' hlk).2 h
      have:=listed_false hs hio (edgeT_on hcl h2 he)
      rw [this]at hun;cases hun
   rw [this]
  have hmix:∀d,o.dst=some d→upd (mixF (lisB ops listed) Fe F0) d (Fe d)=mixF (lisB ops (listed.setIfInBounds i true)) Fe F0:=fun d hd=>by
   funext t
   unfold mixF
   rw [lisB_set hs ho,hd]
   by_cases ht:t=d
   ·subst ht;rw [upd_eq];simp
   ·rw [upd_ne ht]
    have:(some d==some t)=false:=by simpa using fun e=>ht e.symm
    rw [this,Bool.or_false]
  have hmix0:o.dst=none→mixF (lisB ops listed) Fe F0=mixF (lisB ops (listed.setIfInBounds i true)) Fe F0:=fun hd=>by
   funext t
   unfold mixF
   rw [lisB_set hs ho,hd]
   simp
  rcases hcase with⟨hnr,d,hd,hdn,hds⟩|⟨u,sv,hu,hsv,hts⟩
  ·have hds':=hds.frame hlooks
   obtain⟨hdef,hn,m,h1,h2,h3,h4,h5⟩:=hst
   refine hds'.wp ho hd hn h1 h2.tail h5 fun v m' w' hv' hm' hH' r=>?_
   refine ih s _ _ _ hsr (by rw [hset];omega) (by simpa using hs) (hcl.step hi) (fun u k hk=>?_) ?_
   ·have hki:i≠k:=fun e=>by
     have:rs.contains i=true:=by rw [e];exact List.contains_iff_mem.2 (List.mem_of_getElem? hk)
     rw [hnr]at this;cases this
    rw [getD_set_ne true hki]
    exact hr u k hk
   ·rw [←hmix d hd]
    exact St.put (Nat.blt_eq.mp hdn) hdef hn h2 h3 h4 h5 hv' hm' (h2.beside hH' r) (r.mono fun b hb=>by unfold keys at *;rw [List.map_append];exact List.mem_append_right _ hb)
  ·have hus:u=s:=by
    rcases Nat.lt_trichotomy u s with h|h|h
    ·exfalso
     have:=(hr u i hu).2 h
     rw [hun]at this;cases this
    ·exact h
    ·exfalso
     have hul:=(List.getElem?_eq_some_iff.1 hu).1
     have h1:rs[s]? = some (rs[s]'(by omega)):=by simp
     have h2:=((hrow u i hu).2 s _ h h1).1
     have h3:=listed_false hs (hrow s _ h1).1 (edgeT_listed hcl hi h2)
     have:=(hr s _ h1).1 h3
     omega
   subst hus
   have hul:=(List.getElem?_eq_some_iff.1 hu).1
   refine hts _ hlooks a w hst Q' _ fun a' w' hst'=>?_
   refine ih (u+1) _ _ _ hul (by rw [hset];omega) (by simpa using hs) (hcl.step hi) (fun x k hk=>?_) ?_
   ·by_cases hki:i=k
    ·subst hki
     have hx:x=u:=by
      rcases Nat.lt_trichotomy x u with h|h|h
      ·have:=((hrow u i hu).2 x _ h hk).2;omega
      ·exact h
      ·have:=((hrow x i hk).2 u _ h hu).2;omega
     subst hx
     simp [hs,hio]
    ·rw [getD_set_ne true hki,hr x k hk]
     constructor
     ·intro h;omega
     ·intro h
      rcases Nat.lt_or_ge x u with h'|h'
      ·exact h'
      ·exfalso
       have:x=u:=by omega
       subst this
       rw [hu]at hk
       exact hki (Option.some.inj hk)
   ·unfold dstf at hst'
    cases hd:o.dst with
    |none=>rw [hd]at hst';rw [←hmix0 hd];exact hst'
    |some d =>
     rw [hd]at hst'
     simp only at hst'
     rw [hsv d hd]at hst'
     rw [←hmix d hd];exact hst'
attribute [local semireducible] WP WPL Dk PuH
def Mk (P:Program) (C:Ctx) (n:Nat) (ops:Array Oper) (rs:List Nat) (Hc:LH) (E:Nat→LH) (i s:Nat) (l:List Oper) (K:Fr→Prop) (F:Fr):Prop:=∃Fe,Mx P C n ops rs Hc E i s l F Fe∧K Fe
theorem WdM {id:Nat}{l:List Oper}(rs:List Nat) (Hc:LH) (E:Nat→LH) (h:Mk P C n l.toArray rs Hc E 0 0 l (fun Fe=>Q .normal Fe (E rs.length++Hc)) F) (h0:E 0++Hc=H:=by exact rfl) (hm:P.follows .mixedOrders=true:=by kernel_rfl) (hchk:mixOk l.toArray rs=true:=by decide +kernel) :
  WP P C n (.region id l.toArray true) Q F H:=by
 obtain⟨Fe,hx,hQ⟩:=h
 intro a w hs
 subst h0
 refine wp_region_any hm ?_
 refine mixRun (C:=C) (n:=n) (F0:=F) (Fe:=Fe) (rs:=rs) (Hc:=Hc) (E:=E) hchk (fun k hk=>hx.vld hchk (by simp) (fun t=>by simp [mixF,befB]) k (Nat.zero_le _) hk) (fun t ht=>hx.keep t fun o ho e=>?_) (fun a' w' hst => .mk hst hQ) l.toArray.size 0 _ a _ (Nat.zero_le _) ?_ (by simp) (fun m j hm=>by by_cases hlt:m<l.length <;> simp [hlt]at hm) (fun u k hk=>?_) ?_
 ·obtain⟨j,hj,rfl⟩:=List.mem_iff_getElem.1 ho
  have:befB l.toArray l.toArray.size t=true:=by
   unfold befB
   rw [List.any_eq_true]
   exact⟨j,by simpa using hj,by rw [dstAt_of (o:=l[j]) (by simp [hj]),e];simp⟩
  rw [ht]at this;cases this
 ·unfold left
  refine Nat.le_trans (List.length_filter_le _ _) ?_
  simp
 ·have hkl:=((mixOk_spec hchk).2.2.2 u k hk).1
  have hkl':k<l.length:=by simpa using hkl
  simp [hkl']
 ·obtain⟨hdef,hn,m,h1,h2,h3,h4,h5⟩:=hs
  refine⟨hdef,hn,m,⟨h1.at',h1.base⟩,⟨h2.1,h2.2⟩,⟨h3.le,h3.old,h3.os,h3.tape,h3.output,h3.size,h3.block⟩,h4,fun t=>?_⟩
  have:lisB l.toArray (Array.replicate l.toArray.size false) t=false:=by
   unfold lisB
   rw [List.any_eq_false]
   intro j hj
   have hj':j<l.length:=by simpa using hj
   simp [hj']
  unfold mixF
  rw [this]
  exact h5 t
section
variable {l:List Oper}{K:Fr→Prop}{i s:Nat}
theorem MkN (h:K F):Mk P C n ops rs Hc E i s [] K F:=⟨F, .nil F,h⟩
def freeB (rs:List Nat) (i k:Nat):Bool:=(List.range k).all fun j => !rs.contains (i+j)
def mkD (P:Program) (C:Ctx) (n:Nat) (ops:Array Oper) (rs:List Nat) (Hc:LH) (E:Nat→LH) (i s:Nat) (l:List Oper) (K:Fr→Prop):List NW→Fr→Prop:=fun N F=>N=[]∧Mk P C n ops rs Hc E i s l K F
theorem mkD0 (h:Mk P C n ops rs Hc E i s l K F):mkD P C n ops rs Hc E i s l K [] F:=⟨rfl,h⟩
theorem Dr.mx {s:Nat}{Fe:Fr}:∀(k:Nat) (l:List Oper) (i:Nat) (F F':Fr),freeB rs i k=true→k≤l.length→Dr P ops n Hc (preK i k l) [] F F'→Mx P C n ops rs Hc E (i+k) s (l.drop k) F' Fe→Mx P C n ops rs Hc E i s l F Fe
 |0,l,i,F,F',_,_,h,hx=>by
  cases h
  simpa using hx
 |k+1,[],i,F,F',_,hk,_,_=>by simp at hk
 |k+1,o::l,i,F,F',hf,hk,h,hx=>by
  have hfi:rs.contains i=false∧freeB rs (i+1) k=true:=by
   unfold freeB at hf⊢
   simp only [List.all_eq_true,List.mem_range,Bool.not_eq_true']at hf⊢
   refine⟨by simpa using hf 0 (by omega),fun j hj=>?_⟩
   have:=hf (j+1) (by omega)
   rwa [show i+(j+1)=i+1+j from by omega]at this
  unfold preK at h
  cases h with
  |val hd hds hdn h =>
   exact .free hfi.1 hd hdn hds (Dr.mx k l (i+1) _ _ hfi.2 (by simpa using hk) h (by rw [show i+1+k=i+(k+1)from by omega];simpa using hx))
theorem MkD (k:Nat) (h:Dk P ops n Hc (preK i k l) (mkD P C n ops rs Hc E (i+k) s (l.drop k) K) F) (hf:freeB rs i k=true:=by exact rfl) (hk:Nat.ble k l.length=true:=by exact rfl):Mk P C n ops rs Hc E i s l K F:=by
 obtain⟨N,F',h1,rfl,Fe,hx,hK⟩:=h
 exact⟨Fe,Dr.mx k l i F F' hf (Nat.le_of_ble_eq_true hk) h1 hx,hK⟩
theorem MkR {o:Oper}{sv:SV}(hts:TS P C n ops i o F (E s++Hc) sv (E (s+1)++Hc)) (h:Mk P C n ops rs Hc E (i+1) (s+1) l K (dstf o F sv)) (hr:rs[s]? = some i:=by exact rfl):Mk P C n ops rs Hc E i s (o::l) K F:=by
 obtain⟨Fe,hx,hK⟩:=h
 exact⟨Fe, .row hr hts hx,hK⟩
theorem wp_agree {o:Oper}{a:Act}{w:World}{K':Act→World→Prop}{Q1 Q2:Exit→Act→World→Prop}(h:o.wp P a w K' Q1) (hp:∀ch a w,Q1 (.panic ch) a w→Q2 (.panic ch) a w) (ho:∀a w,Q1 .outgrown a w→Q2 .outgrown a w):o.wp P a w K' Q2:=by
 unfold Oper.wp at *
 generalize(execOp a.eval o).run P w=r at *
 unfold Oper.upon at *
 split at h
 ·exact h
 ·exact h
 ·exact h
 ·refine Calls.mono h ?_
  intro e w'' he
  cases e with
  |returned v=>exact he
  |panicked ch=>exact hp _ _ _ he
  |outgrown=>obtain⟨a0,w0,h0⟩:=he;exact⟨a0,w0,ho _ _ h0⟩
 ·exact h
 ·exact hp _ _ _ h
 ·exact h.elim
theorem TS.call {i d:Nat}{f:FuncId}{la:List Operand}{tys:Array TypeId}{ty:TypeId}{pos:String}{aft:Array Edge}{svs:List SV}{Hin Hout Rs:LH}{res:SV}(hc:PuH P f svs Hin (fun r H=>r=res∧H=Hout) noX) (ha:la.map (ev F)=svs) (hd:Nat.blt d n=true) (ho:ops[i]? = some ⟨some d, .call ⟨.value (.func f),la.toArray,tys⟩,ty,pos,aft,none⟩) :
  TS P C n ops i ⟨some d, .call ⟨.value (.func f),la.toArray,tys⟩,ty,pos,aft,none⟩ F (Hin++Rs) res (Hout++Rs):=by
 intro F1 hF a w hst Q' K' hK
 have ha':la.map (ev F1)=svs:=by
  rw [←ha]
  refine List.map_congr_left fun x hx=>?_
  exact ev_looks (o:=⟨some d, .call ⟨.value (.func f),la.toArray,tys⟩,ty,pos,aft,none⟩) (x:=x) (by simp [Op.operands,Call.operands,hx]) hF
 have h:=WPL.callHG (P:=P) (C:={C with pan:=noX}) (n:=n) (F:=F1) (H:=Hin++Rs) (ops:=ops) (rest:=[]) (d:=d) (x := .func f) (s:=lit (.func (.func f) #[] #[])) (f:=f) (first:=[]) (caps:=[]) (l:=la) (tys:=tys) (ty:=ty) (pos:=pos) (aft:=aft) (g:=none)
  (K:=fun F' H'=>F'=upd F1 d res∧H'=Hout++Rs) rfl hc (Spl.app _ _) (by rw [List.nil_append,List.append_nil];exact ha') hd (fun _ _ _=>rfl)
  (fun r H' ⟨hr,hH'⟩=>WPL.nil ⟨by rw [hr],by rw [hH']⟩) (fun _ _ h=>h.elim)
 have h':=h a w hst (fun e a' w'=>match e with| .normal=>K' a' w'|e=>False) ⟨fun a' w' F' H' hst' hKK=>?_,fun ch a' w' hp=>?_⟩
 ·unfold wpOp
  rw [ho]
  unfold wpList at h'
  simp only [Region.wanted,if_true]at h'⊢
  left
  rcases h' with h'|⟨_,a0,w0,h0⟩
  ·exact wp_agree h' (fun _ _ _ h=>h.elim) (fun _ _ h=>h.elim)
  ·exact h0.elim
 ·obtain⟨rfl,rfl⟩:=hKK
  exact hK a' w' hst'
 ·obtain⟨_,_,_,_,_,_,_,_,_,_,_,hx⟩:=hp
  exact hx.elim
end
end
@[irreducible] def xsl (cs:List SV) (k:Nat):SV:=⟨fun m v=>∃a,v = .slice a k k∧k≤maxLen∧(a=none→k=0)∧(cs=[]∨∃b off,a=some ⟨b,off,none⟩∧cellsAt m b off cs),
 fun h ⟨a,e,x,y,k⟩=>⟨a,e,x,y,k.imp id fun⟨b,off,e,k⟩=>⟨b,off,e,k.mono h⟩⟩⟩
section
variable {P:Program}{C:Ctx}{n:Nat}{F:Fr}{H:LH}{ty:TypeId}
theorem pub_new {m:Mem}{w w':World}{arr:Array Value}{e:TypeId}(h1:MemIn m w) (hw:w'=w.alloc (.cells arr e)∨w'=w.drew.alloc (.cells arr e)) :
  ∃m',MemIn m' w'∧Rel [] m w m' w'∧m' w.heap.size=some (.cells arr e (0,0)):=by
 have hnone:m w.heap.size=none:=by
  cases hmm:m w.heap.size with
  |none=>rfl
  |some o=>have:=h1 _ _ hmm;rw [Array.getElem?_eq_none (Nat.le_refl _)]at this;cases this
 have hsize:w'.heap.size=w.heap.size+1:=by rcases hw with rfl|rfl <;> exact World.size_alloc ..
 have hold:∀b,b<w.heap.size→w'.heap[b]? = w.heap[b]?:=by
  rcases hw with rfl|rfl
  ·exact fun b hb=>heap_alloc_old w _ b hb
  ·exact fun b hb=>heap_alloc_old w.drew _ b hb
 have hnew:w'.heap[w.heap.size]? = some (.cells arr e (0,0)):=by
  rcases hw with rfl|rfl
  ·exact heap_alloc_new w _
  ·exact heap_alloc_new w.drew _
 have hos:w'.os=w.os∧w'.tape=w.tape∧w'.output=w.output:=by rcases hw with rfl|rfl <;> exact⟨rfl,rfl,rfl⟩
 have hle:m.le fun b=>if b=w.heap.size then some (.cells arr e (0,0))else m b:=fun b o hb=>by
  have:b≠w.heap.size:=fun e=>by rw [e,hnone]at hb;cases hb
  simp only [if_neg this];exact hb
 refine⟨fun b=>if b=w.heap.size then some (.cells arr e (0,0))else m b,⟨fun b o hb=>?_,Mem.le_trans h1.base hle⟩,⟨hle,fun b hb _=>?_,hos.1,hos.2.1,hos.2.2,by omega,fun b hb _=>hold b hb⟩,by simp⟩
 ·by_cases hbe:b=w.heap.size
  ·subst hbe
   simp only [if_true]at hb
   obtain rfl:=Option.some.inj hb
   exact hnew
  ·simp only [if_neg hbe]at hb
   have:=h1 b o hb
   rw [hold b (Array.getElem?_eq_some_iff.1 this).1];exact this
 ·simp only [if_neg (Nat.ne_of_lt hb)]
theorem OpV.pubN {op:Op}{T:TypeId}{z:List SV}{mk:Nat→Value}{sv:SV}(hn:NewOk P op F T z mk) (hsv:∀(m:Mem) (b:Nat) (arr:Array Value),m b=some (.cells arr T (0,0))→All2 m z arr.toList→sv.p m (mk b)):OpV P op ty F H sv:=by
 refine OpV.of0 ?_
 intro m w o a ho hty h1 h2 h3 K Q hK
 obtain⟨arr,hrun,hall⟩:=hn w o a ho ⟨m,h3⟩
 obtain⟨m',g1,g2,g3⟩:=pub_new (w':=w.alloc (.cells arr T)) h1 (.inl rfl)
 unfold Oper.wp
 rw [hrun]
 exact hK _ m' _ (hsv m' _ arr g3 ((hall m h3).mono g2.le)) g1 g2
theorem sl_new {m:Mem}{b k:Nat}{arr:Array Value}{T:TypeId}{cs:List SV}(hb:m b=some (.cells arr T (0,0))) (h:All2 m cs arr.toList) (hk:k≤maxLen):(sl cs k).p m (.slice (some ⟨b,0,none⟩) k k) :=
 sl_mk (Nat.le_refl _) hk (.inr ⟨b,0,rfl,arr,T,(0,0),hb,by rw [List.drop_zero,←h.length,List.take_length];exact h⟩)
theorem run_bound {P:Program}{w:World}{v:Value}(l u:Nat){ki:IntKind}(code:BoundsCode) (hy:v = .int ki l) (hle:l≤u):(Instr.sliceBound v u code).run P w = .ok l w:=by
 have h1:(l:Int)≤(u:Int):=by omega
 subst hy
 simp [Instr.sliceBound,asIntOf,h1]
theorem le_nilS:Le (lit (.slice none 0 0)) (sl [] 0):=fun m v h=>by
 rw [lit_p]at h
 subst h
 exact sl_mk (Nat.le_refl _) (Nat.zero_le _) (.inl rfl)
end
end Go.Ab
