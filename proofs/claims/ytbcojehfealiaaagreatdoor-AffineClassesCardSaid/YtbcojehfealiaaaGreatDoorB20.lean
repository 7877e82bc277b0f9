/- Texts laid one behind the other: GmB, CvxE, CvxI, CvxR, CvxP. -/
import Derived.Test.YtbcojehfealiaaaGreatDoorB19
set_option linter.all false
namespace Go.Ab
open Go.Proofs
variable [Base]
def iC (cuts:List Rat) (i:Nat):Spn:=⟨if 0<i then cuts.getD (i-1) 0 else 0,if i<cuts.length then cuts.getD i 0 else 0,decide (i=0),decide (i=cuts.length)⟩
def cK (cuts:List Rat) (marks:List Bool) (out:List Spn) (i:Nat):List Spn :=
 if marks.getD i false=false then out
 else if 0<i∧marks.getD (i-1) false=true∧0<out.length then out.set (out.length-1) ⟨(out.getD (out.length-1) Spn.full).lo,(iC cuts i).hi,(out.getD (out.length-1) Spn.full).nl,(iC cuts i).nh⟩
 else out++[iC cuts i]
def qY (cuts:List Rat) (marks:List Bool):List Spn:=(List.range marks.length).foldl (cK cuts marks) []
def jK (op:Int) (a b:List Spn):List Spn:=qY (cq (a++b)) ((dC (cq (a++b))).map fun t=>opB op (inL a t) (inL b t))
def bK (s:Spn):Rat:=if s.nl&&s.nh then 0 else if s.nl then s.hi-1 else if s.nh then s.lo+1 else gP s.lo s.hi
abbrev Fg:=Li×Spn
def eD (l m:Li) (side:Int):List Spn×Bool :=
 if cO l m=0 then(if cM m (aV l)=side then [Spn.full]else [],decide (cM m (aV l)=0))
 else if cM m (atL l (bO l (be l m)+1))=side then([⟨bO l (be l m),0,false,true⟩],false)else([⟨0,bO l (be l m),true,false⟩],false)
def bM (f:Fg) (m:Li):List Fg×List Fg :=
 if(eD f.1 m 1).2 then([],[])else((jK 2 [f.2] (eD f.1 m 1).1).map fun s=>(f.1,s),(jK 2 [f.2] (eD f.1 m (-1)).1).map fun s=>(f.1,s))
def ej (l m:Li) (s:Spn):Spn :=
 if 0<(a7 (dirL m) (dirL l)).num.sign then(if s.nl=true∨0<(bO l (be l m)-s.lo).num.sign then⟨bO l (be l m),s.hi,false,s.nh⟩else s)
 else if s.nh=true∨(bO l (be l m)-s.hi).num.sign<0 then⟨s.lo,bO l (be l m),s.nl,false⟩else s
def fG (s:Spn):Bool := !s.nl && !s.nh&&decide (0≤(s.lo-s.hi).num.sign)
def eG (l:Li) (i:Nat):Nat→List Li→Spn→Spn×Bool
 |_,[],s=>(s,true)
 |k,m::c,s=>if k=i∨lN l m=0 then eG l i (k+1) c s
  else if cO l m=0 then(if 0<cM m (aV l)then eG l i (k+1) c s else(s,false))
  else if fG (ej l m s)then(ej l m s,false)else eG l i (k+1) c (ej l m s)
def bF (c:List Li) (i:Nat):Spn×Bool:=eG (c.getD i ⟨0,0,0⟩) i 0 c Spn.full
def cJ (p v:Pq) (s:Rat) (a:Li):Rat :=
 if(a6 a (cP p 1 v)-a6 a p).num.sign=0∨cM a p=0 then s
 else if 0<(-(a6 a p/(a6 a (cP p 1 v)-a6 a p))).num.sign∧(-(a6 a p/(a6 a (cP p 1 v)-a6 a p))/2-s).num.sign<0 then -(a6 a p/(a6 a (cP p 1 v)-a6 a p))/2 else s
def sN (l:List Li) (p v:Pq):Pq:=cP p (l.foldl (cJ p v) 1) v
def nj (c:List Li) (i:Nat) (l:Li):Pq:=sN c (atL l (bK (bF c i).1)) (-(dirL l).2,(dirL l).1)
def eQ (c:List Li):Nat→List Li→Option Pq
 |_,[]=>none
 |i,l::r=>if(bF c i).2 then some (nj c i l)else eQ c (i+1) r
def bX (c:List Li):Option Pq:=if c=[]then some (0,0)else eQ c 0 c
abbrev alt (l m:Li):Bool:=decide (fE (dirL l) (dirL m)<0)
def cw (c:List Li) (out:List Li) (i:Nat):List Li:=if(bF c i).2 then fP alt out (c.getD i ⟨0,0,0⟩)else out
def dr (c:List Li):List Li:=(List.range c.length).foldl (cw c) []
def gi (c:List Li) (l:Li):Int:=if(bX (c++[l])).isSome then(if(bX (c++[l.neg])).isSome then 0 else 1)else -1
def l7 (l:Li):Tr→Tr→Tr
 | .leaf i, .leaf j=>if i=j then .leaf i else .node l (.leaf i) (.leaf j)
 |a,b => .node l a b
abbrev dA (c:List Li) (l:Li):List Li:=dr (c++[l])
def bq:Tr→List Li→Tr
 | .leaf i,_ => .leaf i
 | .node l a b,c=>if gi c l=1 then bq a c else if gi c l = -1 then bq b c else l7 l (bq a (dA c l)) (bq b (dA c l.neg))
def ol:Tr→Tr
 | .leaf i => .leaf (!i)
 | .node l a b => .node l (ol a) (ol b)
def pM (op:Int) (i:Bool) (b:Tr) (c:List Li):Tr :=
 if op=1∧i=true then .leaf true else if(op=2∨op=3)∧i=false then .leaf false else if(op=3∨op=4)∧i=true then ol (bq b c)else bq b c
def dE (op:Int):Tr→Tr→List Li→Tr
 | .leaf i,b,c=>pM op i b c
 | .node l x y,b,c=>if gi c l=1 then dE op x b c else if gi c l = -1 then dE op y b c else l7 l (dE op x b (dA c l)) (dE op y b (dA c l.neg))
def bB:Tr→List Li
 | .leaf _=>[]
 | .node l a b=>l::(bB a++bB b)
def aJ (l:List Fg) (m:Li):List Fg×List Fg:=((l.map fun f=>(bM f m).1).flatten,(l.map fun f=>(bM f m).2).flatten)
def jN (inn:Pq→Bool):Nat→List Fg→List Li→Tr
 |0,_,_ => .leaf false
 |n+1,[],c => .leaf (inn ((bX c).getD (0,0)))
 |n+1,f::l,c => .node f.1 (jN inn n (aJ (f::l) f.1).1 (c++[f.1])) (jN inn n (aJ (f::l) f.1).2 (c++[f.1.neg]))
theorem bd {x:Rat}:0<x.num.sign↔0<x:=by rw [Int.sign_pos_iff];exact qn
theorem Ck {x:Rat}:x.num<0↔x<0:=by
 have h1:0≤x.num↔0≤x:=Rat.num_nonneg;constructor
 ·intro h;exact Rat.not_le.1 fun k=>by have:=h1.2 k;omega
 ·intro h;have:¬0≤x.num:=fun k=>Rat.not_le.2 h (h1.1 k)
  omega
theorem cH {x:Rat}:x.num.sign<0↔x<0:=by rw [Int.sign_neg_iff];exact Ck
theorem jS {x:Rat}:0≤x.num.sign↔0≤x:=by
 rw [←Int.not_lt,cH,Rat.not_lt]
theorem Gy (l:Li):nt (dirL l) (dirL l)=(l.a:Rat)*l.a+l.b*l.b:=by unfold nt dirL;simp only;grind
theorem Ec {l:Li}(h:l.ok):l.bf*((l.a:Rat)*l.a+l.b*l.b) = -l.c:=by
 have hn:=cW h;unfold Li.bf;rw [show(l.b:Rat)*l.b + -(l.a:Rat) * -(l.a:Rat)=(l.a:Rat)*l.a+l.b*l.b by grind];generalize(l.a:Rat)*l.a+l.b*l.b=n at *;rw [Rat.neg_mul,Rat.div_mul_cancel (by grind)]
theorem u5 {l:Li}(h:l.ok) (p:Pq):bO l p*((l.a:Rat)*l.a+l.b*l.b)=p.1*l.b-p.2*l.a:=by
 have hn:=cW h;unfold bO;rw [Gy,Rat.div_mul_cancel (by grind)];unfold nt dirL;simp only;grind
theorem Ef {l:Li}(t:Rat):atL l t=(l.bf*l.a+t*l.b,l.bf*l.b-t*l.a):=by
 unfold atL cP aV dirL;refine Prod.ext ?_ ?_ <;> simp only <;> grind
theorem fH {l:Li}(h:l.ok) (t:Rat):a6 l (atL l t)=0:=by
 have hb:=Ec h;rw [Ef];unfold a6;simp only;grind
theorem lR {l:Li}(h:l.ok){p:Pq}(hp:a6 l p=0):atL l (bO l p)=p:=by
 have hn:=cW h;have hb:=Ec h;have hq:=u5 h p;rw [Ef];obtain⟨x,y⟩:=p;have hc:(l.c:Rat) = -(l.a*x+l.b*y):=by unfold a6 at hp;simp only at hp;grind
 generalize bO l (x,y)=t at *;generalize l.bf=f at *;simp only at hq;rw [hc]at hb;generalize(l.a:Rat)=a at *;generalize(l.b:Rat)=b at *;have hne:a*a+b*b≠0:=by grind
 simp only [Prod.mk.injEq];constructor
 ·refine jk hne ?_;have:(a*a+b*b)*(f*a+t*b)=(f*(a*a+b*b))*a+(t*(a*a+b*b))*b:=by grind
  rw [this,hb,hq];grind
 ·refine jk hne ?_;have:(a*a+b*b)*(f*b-t*a)=(f*(a*a+b*b))*b-(t*(a*a+b*b))*a:=by grind
  rw [this,hb,hq];grind
theorem G6 {l m:Li}(h:cO l m≠0):a6 l (be l m)=0∧a6 m (be l m)=0:=by
 have e1:∀x:Rat,x/cO l m*cO l m=x:=fun x=>Rat.div_mul_cancel h
 obtain⟨x,hx⟩:∃x,x=((l.b:Rat)*m.c-m.b*l.c)/cO l m:=⟨_,rfl⟩
 obtain⟨y,hy⟩:∃y,y=((m.a:Rat)*l.c-l.a*m.c)/cO l m:=⟨_,rfl⟩
 have hx':x*cO l m=(l.b:Rat)*m.c-m.b*l.c:=by rw [hx];exact e1 _
 have hy':y*cO l m=(m.a:Rat)*l.c-l.a*m.c:=by rw [hy];exact e1 _
 have:be l m=(x,y):=by unfold be;rw [←hx,←hy]
 rw [this];clear e1 hx hy this;constructor
 ·refine jk h ?_;unfold a6;have:cO l m*((l.a:Rat)*x+l.b*y+l.c)=l.a*(x*cO l m)+l.b*(y*cO l m)+l.c*cO l m:=by grind
  simp only;rw [this,hx',hy'];unfold cO;grind
 ·refine jk h ?_;unfold a6;have:cO l m*((m.a:Rat)*x+m.b*y+m.c)=m.a*(x*cO l m)+m.b*(y*cO l m)+m.c*cO l m:=by grind
  simp only;rw [this,hx',hy'];unfold cO;grind
def slp (l m:Li):Rat:=(m.a:Rat)*l.b-m.b*l.a
theorem sf (l m:Li):a7 (dirL m) (dirL l)=slp l m:=by unfold a7 dirL slp;simp only;grind
theorem kw (l m:Li):cO l m = - slp l m:=by unfold cO slp;grind
theorem aR (l m:Li) (t:Rat):a6 m (atL l t)=a6 m (aV l)+t*slp l m:=by
 rw [Ef];unfold a6 slp aV;simp only;grind
theorem mg {l m:Li}(hl:l.ok) (h:cO l m≠0) (t:Rat):a6 m (atL l t)=(t-bO l (be l m))*slp l m:=by
 obtain⟨h1,h2⟩:=G6 h;have h3:=lR hl h1;have h4:=aR l m (bO l (be l m));rw [h3,h2]at h4;rw [aR];grind
def InS (s:Spn) (t:Rat):Prop:=(s.nl=true∨s.lo<t)∧(s.nh=true∨t<s.hi)
theorem jr {x y:Rat}(h:x<y):x<gP x y∧gP x y<y:=by unfold gP;grind
theorem fL {s:Spn}(h:fG s=false):InS s (bK s):=by
 obtain⟨lo,hi,nl,nh⟩:=s;unfold fG at h;unfold InS bK;cases nl <;> cases nh <;> simp only [Bool.and_self,Bool.false_eq_true,if_false,if_true,Bool.and_true,Bool.and_false,true_or,false_or,true_and,and_true]
 ·have h':lo<hi:=by
   have:¬0≤(lo-hi).num.sign:=of_decide_eq_false h;rw [jS]at this;grind
  exact jr h'
 ·grind
 ·grind
theorem iK {s:Spn}{t:Rat}(h:InS s t):fG s=false:=by
 unfold fG;cases h1:s.nl with
 |true=>rfl
 |false =>
  cases h2:s.nh with
  |true=>rfl
  |false =>
   obtain⟨a,b⟩:=h;rw [h1]at a;rw [h2]at b;have a:=a.resolve_left (by decide);have b:=b.resolve_left (by decide);have:¬0≤(s.lo-s.hi).num.sign:=by rw [jS];grind
   rw [decide_eq_false this];rfl
theorem fh {x k:Rat}(hk:0<k):0<x*k↔0<x:=by
 rw [Rat.mul_comm];exact Rat.mul_pos_iff_of_pos_left hk
theorem wG {l m:Li}(hl:l.ok) (h:cO l m≠0) (s:Spn) (t:Rat):InS (ej l m s) t↔InS s t∧0<a6 m (atL l t):=by
 rw [mg hl h];unfold ej;rw [sf];generalize bO l (be l m)=u;have hk:slp l m≠0:=fun e=>h (by rw [kw,e];rfl)
 generalize slp l m=k at *;clear h;by_cases h0:0<k.num.sign
 ·rw [if_pos h0,fh (bd.1 h0)];split
  ·rename_i h1;rw [bd]at h1;unfold InS;simp only;constructor
   ·rintro ⟨a,b⟩;have a:=a.resolve_left (by decide);refine⟨⟨?_,b⟩,by grind⟩;rcases h1 with h1|h1
    ·exact .inl h1
    ·right;grind
   ·rintro ⟨⟨a,b⟩,c⟩;exact⟨.inr (by grind),b⟩
  ·rename_i h1;rw [not_or,bd]at h1;constructor
   ·intro h;refine⟨h,?_⟩;have:=h.1.resolve_left h1.1;grind
   ·exact And.left
 ·rw [if_neg h0];rw [bd]at h0;have hk':0 < -k:=by grind
  have e:(t-u)*k=(u-t) * -k:=by grind
  rw [e,fh hk'];split
  ·rename_i h1;rw [cH]at h1;unfold InS;simp only;constructor
   ·rintro ⟨a,b⟩;have b:=b.resolve_left (by decide);refine⟨⟨a,?_⟩,by grind⟩;rcases h1 with h1|h1
    ·exact .inl h1
    ·right;grind
   ·rintro ⟨⟨a,b⟩,c⟩;exact⟨a, .inr (by grind)⟩
  ·rename_i h1;rw [not_or,cH]at h1;constructor
   ·intro h;refine⟨h,?_⟩;have:=h.2.resolve_left h1.1;grind
   ·exact And.left
theorem Et {l m:Li}(h:cO l m=0) (t:Rat):a6 m (atL l t)=a6 m (aV l):=by
 have:slp l m=0:=by rw [kw]at h;grind
 rw [aR,this];grind
theorem j6 {l:Li}(hl:l.ok) (i:Nat):∀(c:List Li) (k:Nat) (s:Spn),(∃t,InS s t)→c[i-k]? = some l∨i<k→
  ((eG l i k c s).2=true→(∀t,InS (eG l i k c s).1 t↔InS s t∧∀m∈c,m≠l→0<a6 m (atL l t))∧∃t,InS (eG l i k c s).1 t)∧
  ((eG l i k c s).2=false→∀t,InS s t→∃m∈c,m≠l∧a6 m (atL l t)≤0)
 | [],k,s,hs,_=>⟨fun _=>⟨fun t=>by simp [eG],hs⟩,fun h=>by cases h⟩
 |m::c,k,s,hs,hi=>by
  have hi':c[i-(k+1)]? = some l∨i<k+1:=by
   rcases hi with h|h
   ·by_cases e:i≤k
    ·exact .inr om
    ·left;rw [show i-k=i-(k+1)+1 by omega,List.getElem?_cons_succ]at h;exact h
   ·exact .inr om
  unfold eG;by_cases h0:k=i∨lN l m=0
  ·rw [if_pos h0]
   have hml:m=l:=by
    rcases h0 with h0|h0
    ·rcases hi with h|h
     ·rw [h0,Nat.sub_self]at h;simpa using h
     ·omega
    ·exact(eB.1 h0).symm
   obtain⟨a,b⟩:=j6 hl i c (k+1) s hs hi';refine⟨fun h=>⟨fun t=>?_,(a h).2⟩,fun h t ht=>?_⟩
   ·rw [(a h).1 t];constructor
    ·rintro ⟨h1,h2⟩;refine⟨h1,fun m' hm' hne=>?_⟩;rcases List.mem_cons.1 hm' with e|e
     ·exact absurd (e.trans hml) hne
     ·exact h2 m' e hne
    ·rintro ⟨h1,h2⟩;exact⟨h1,fun m' hm'=>h2 m' (Mc hm')⟩
   ·obtain⟨m',h1,h2⟩:=b h t ht;exact⟨m',Mc h1,h2⟩
  ·rw [if_neg h0];rw [not_or,eB]at h0;have hne:m≠l:=fun e=>h0.2 e.symm
   by_cases hd:cO l m=0
   ·rw [if_pos hd];have hv:=Et hd;by_cases hsd:0<cM m (aV l)
    ·rw [if_pos hsd];have hsd':0<a6 m (aV l):=bd.1 hsd;obtain⟨a,b⟩:=j6 hl i c (k+1) s hs hi';refine⟨fun h=>⟨fun t=>?_,(a h).2⟩,fun h t ht=>?_⟩
     ·rw [(a h).1 t];constructor
      ·rintro ⟨h1,h2⟩;refine⟨h1,fun m' hm' hne=>?_⟩;rcases List.mem_cons.1 hm' with e|e
       ·rw [e,hv];exact hsd'
       ·exact h2 m' e hne
      ·rintro ⟨h1,h2⟩;exact⟨h1,fun m' hm'=>h2 m' (Mc hm')⟩
     ·obtain⟨m',h1,h2⟩:=b h t ht;exact⟨m',Mc h1,h2⟩
    ·rw [if_neg hsd];refine⟨fun h=>(by cases h),fun _ t _=>⟨m,Ms,hne,?_⟩⟩;rw [hv];exact Rat.not_lt.1 fun k=>hsd (bd.2 k)
   ·rw [if_neg hd];have hst:=wG hl hd s;cases hb:fG (ej l m s)with
    |true =>
     rw [if_pos rfl];refine⟨fun h=>(by cases h),fun _ t ht=>⟨m,Ms,hne,Rat.not_lt.1 fun k=>?_⟩⟩;rw [iK ((hst t).2 ⟨ht,k⟩)]at hb;cases hb
    |false =>
     rw [if_neg (by decide)];obtain⟨a,b⟩:=j6 hl i c (k+1) (ej l m s) ⟨_,fL hb⟩ hi';refine⟨fun h=>⟨fun t=>?_,(a h).2⟩,fun h t ht=>?_⟩
     ·rw [(a h).1 t,hst];constructor
      ·rintro ⟨⟨h1,h3⟩,h2⟩;refine⟨h1,fun m' hm' hne=>?_⟩;rcases List.mem_cons.1 hm' with e|e
       ·rw [e];exact h3
       ·exact h2 m' e hne
      ·rintro ⟨h1,h2⟩;exact⟨⟨h1,h2 m List.mem_cons_self hne⟩,fun m' hm'=>h2 m' (Mc hm')⟩
     ·by_cases hm:0<a6 m (atL l t)
      ·obtain⟨m',h1,h2⟩:=b h t ((hst t).2 ⟨ht,hm⟩);exact⟨m',Mc h1,h2⟩
      ·exact⟨m,Ms,hne,Rat.not_lt.1 hm⟩
theorem zT {c:List Li}{i:Nat}{l:Li}(hl:l.ok) (hi:c[i]? = some l) (h:(bF c i).2=true):(∀t,InS (bF c i).1 t↔∀m∈c,m≠l→0<a6 m (atL l t))∧∃t,InS (bF c i).1 t:=by
 have e:c.getD i ⟨0,0,0⟩=l:=by rw [List.getD_eq_getElem?_getD,hi];rfl
 unfold bF at h⊢;rw [e]at h⊢;obtain⟨a,b⟩:=(j6 hl i c 0 Spn.full ⟨0, .inl rfl, .inl rfl⟩ (.inl (by rw [Nat.sub_zero];exact hi))).1 h;exact⟨fun t=>(a t).trans ⟨fun h=>h.2,fun h=>⟨⟨.inl rfl, .inl rfl⟩,h⟩⟩,b⟩
theorem oE {c:List Li}{i:Nat}{l:Li}(hl:l.ok) (hi:c[i]? = some l):(bF c i).2=true↔Edg c l:=by
 constructor
 ·intro h;obtain⟨a,t,b⟩:=zT hl hi h;exact⟨atL l t,fH hl t,(a t).1 b⟩
 ·rintro ⟨r,h1,h2⟩;cases h:(bF c i).2 with
  |true=>rfl
  |false =>
   have e:c.getD i ⟨0,0,0⟩=l:=by rw [List.getD_eq_getElem?_getD,hi];rfl
   unfold bF at h;rw [e]at h;obtain⟨m,hm,hne,hv⟩:=(j6 hl i c 0 Spn.full ⟨0, .inl rfl, .inl rfl⟩ (.inl (by rw [Nat.sub_zero];exact hi))).2 h (bO l r) ⟨.inl rfl, .inl rfl⟩;rw [lR hl h1]at hv;exact absurd (h2 m hm hne) (Rat.not_lt.2 hv)
theorem t7 (v:Pq):iu v=if v.1.num.sign=0∧v.2.num.sign=0 then 0 else if 0<v.2.num.sign∨v.2.num.sign=0∧0<v.1.num.sign then 1 else 2:=by
 unfold iu;simp only [bh,bd]
theorem GM (a:Li) (p v:Pq) (t:Rat):a6 a (cP p t v)=a6 a p+t*(a6 a (cP p 1 v)-a6 a p):=by unfold a6 cP;simp only;grind
theorem BL (a l:Li) (p:Pq):a6 a (cP p 1 (-(dirL l).2,(dirL l).1))-a6 a p=(a.a:Rat)*l.a+a.b*l.b:=by unfold a6 cP dirL;simp only;grind
theorem sM {V K:Rat}(hV:0<V) (hK:K<0):0 < -(V/K)∧∀s,0<s→s≤-(V/K)/2→0<V+s*K:=by
 obtain⟨u,hu⟩:∃u,u = -(V/K):=⟨_,rfl⟩
 have e:u * -K=V:=by rw [hu,Rat.neg_mul,Rat.mul_neg,Rat.neg_neg];exact Rat.div_mul_cancel (by grind)
 rw [←hu];clear hu
 have h0:0<u:=by
  rcases Rat.le_total (a:=u) (b:=0)with k|k
  ·have:=Rat.mul_nonneg (show 0≤-u by grind) (show 0≤-K by grind);grind
  ·by_cases e':u=0
   ·rw [e']at e;grind
   ·grind
 refine⟨h0,fun s hs h=>?_⟩;have:=Rat.mul_nonneg (show 0≤u/2-s by grind) (show 0≤-K by grind);have e2:u/2 * -K=V/2:=by grind
 grind
theorem we (p v:Pq) (s:Rat) (a:Li) (hs:0<s):0<cJ p v s a∧cJ p v s a≤s∧(a6 a p≠0→a6 a (cP p 1 v)-a6 a p≠0→0 < -(a6 a p/(a6 a (cP p 1 v)-a6 a p))→cJ p v s a≤-(a6 a p/(a6 a (cP p 1 v)-a6 a p))/2):=by
 unfold cJ cM;generalize -(a6 a p/(a6 a (cP p 1 v)-a6 a p))=u;generalize a6 a (cP p 1 v)-a6 a p=k;split
 ·rename_i h;rw [bh,bh]at h;exact⟨hs,Rat.le_refl,fun a b _=>(h.elim b a).elim⟩
 ·split
  ·rename_i h;rw [bd,cH]at h;exact⟨by grind,by grind,fun _ _ _=>Rat.le_refl⟩
  ·rename_i h;rw [bd,cH]at h;exact⟨hs,Rat.le_refl,fun _ _ h'=>by grind⟩
theorem wg (p v:Pq):∀(c:List Li) (s:Rat),0<s→0<c.foldl (cJ p v) s∧c.foldl (cJ p v) s≤s∧∀a∈c,a6 a p≠0→a6 a (cP p 1 v)-a6 a p≠0→0 < -(a6 a p/(a6 a (cP p 1 v)-a6 a p))→c.foldl (cJ p v) s≤-(a6 a p/(a6 a (cP p 1 v)-a6 a p))/2
 | [],s,hs=>⟨hs,Rat.le_refl,fun a h=>by cases h⟩
 |m::c,s,hs=>by
  obtain⟨a1,a2,a3⟩:=we p v s m hs;obtain⟨b1,b2,b3⟩:=wg p v c _ a1;rw [List.foldl_cons];refine⟨b1,Rat.le_trans b2 a2,fun a ha h1 h2 h3=>?_⟩;rcases List.mem_cons.1 ha with e|e
  ·rw [e]at h1 h2 h3⊢;exact Rat.le_trans b2 (a3 h1 h2 h3)
  ·exact b3 a e h1 h2 h3
theorem wv {c:List Li}{i:Nat}{l:Li}(hl:l.ok) (hi:c[i]? = some l) (h:(bF c i).2=true):Inn c (nj c i l):=fun m hm=>by
 obtain⟨a,t,b⟩:=zT hl hi h;have hs:=fL (iK b);unfold nj sN;obtain⟨p,hp⟩:∃p,p=atL l (bK (bF c i).1):=⟨_,rfl⟩
 have hz:a6 l p=0:=by rw [hp];exact fH hl _
 have hv:=(a _).1 hs;rw [←hp]at hv⊢;obtain⟨n1,_,n3⟩:=wg p (-(dirL l).2,(dirL l).1) c 1 (by decide);rw [GM];by_cases hml:m=l
 ·rw [hml,BL,hz,Rat.zero_add];exact Rat.mul_pos n1 (cW hl)
 ·have h1:=hv m hm hml;have h3:=n3 m hm (fun e=>by rw [e]at h1;exact absurd h1 (by decide));generalize List.foldl (cJ p (-(dirL l).2,(dirL l).1)) 1 c=s at *;generalize a6 m (cP p 1 (-(dirL l).2,(dirL l).1))-a6 m p=k at *;by_cases hk:k<0
  ·obtain⟨g1,g2⟩:=sM h1 hk;exact g2 s n1 (h3 (by grind) g1)
  ·have:=Rat.mul_nonneg (Rat.le_of_lt n1) (Rat.not_lt.1 hk);grind
theorem lx {c:List Li}(hc:∀l∈c,l.ok):∀(d:List Li) (i:Nat),(∀k l,d[k]? = some l→c[i+k]? = some l)→
  (∀p,eQ c i d=some p→Inn c p)∧(eQ c i d=none→∀l∈d,¬Edg c l)
 | [],_,_=>⟨fun p h=>(by cases h),fun _ l h=>(by cases h)⟩
 |l::d,i,hd=>by
  have hi:c[i]? = some l:=by have:=hd 0 l rfl;simpa using this
  have hl:l.ok:=hc l (List.mem_of_getElem? hi);unfold eQ;cases h:(bF c i).2 with
  |true =>
   rw [if_pos rfl];exact⟨fun p e=>(Option.some.inj e)▸wv hl hi h,fun e=>(by cases e)⟩
  |false =>
   rw [if_neg (by decide)];obtain⟨a,b⟩:=lx hc d (i+1) (fun k l h=>by rw [show i+1+k=i+(k+1) by omega];exact hd (k+1) l (by rw [List.getElem?_cons_succ];exact h));refine⟨a,fun e l' hl'=>?_⟩;rcases List.mem_cons.1 hl' with e'|e'
   ·rw [e',←oE hl hi,h];decide
   ·exact b e l' e'
theorem yc {c:List Li}(hc:∀l∈c,l.ok){p:Pq}(h:bX c=some p):Inn c p:=by
 unfold bX at h;split at h
 ·rename_i e;rw [e];intro l hl;cases hl
 ·exact(lx hc c 0 (fun k l h=>by rw [Nat.zero_add];exact h)).1 p h
theorem wu {c:List Li}(hc:∀l∈c,l.ok):(bX c).isSome=true↔∃q,Inn c q:=by
 constructor
 ·intro h;obtain⟨p,hp⟩:=Option.isSome_iff_exists.1 h;exact⟨p,yc hc hp⟩
 ·rintro ⟨q,hq⟩;by_cases e:c=[]
  ·unfold bX;rw [if_pos e];rfl
  ·cases h:bX c with
   |some p=>rfl
   |none =>
    unfold bX at h;rw [if_neg e]at h;obtain⟨m,hm,hE⟩:=Inn.edge hc hq e;exact absurd hE ((lx hc c 0 (fun k l h=>by rw [Nat.zero_add];exact h)).2 h m hm)
theorem lO (c:List Li):∀(l:List Nat) (out:List Li) (y:Li),y∈l.foldl (cw c) out↔(∃i∈l,(bF c i).2=true∧y=c.getD i ⟨0,0,0⟩)∨y∈out
 | [],out,y=>by simp
 |i::l,out,y=>by
  rw [List.foldl_cons,lO c l];unfold cw;cases h:(bF c i).2 with
  |true =>
   rw [if_pos rfl,iY];constructor
   ·rintro (⟨j,hj,h1,h2⟩|h1|h1)
    ·exact .inl ⟨j,Mc hj,h1,h2⟩
    ·exact .inl ⟨i,Ms,h,h1⟩
    ·exact .inr h1
   ·rintro (⟨j,hj,h1,h2⟩|h1)
    ·rcases List.mem_cons.1 hj with e|e
     ·rw [e]at h2;exact .inr (.inl h2)
     ·exact .inl ⟨j,e,h1,h2⟩
    ·exact .inr (.inr h1)
  |false =>
   rw [if_neg (by decide)];constructor
   ·rintro (⟨j,hj,h1,h2⟩|h1)
    ·exact .inl ⟨j,Mc hj,h1,h2⟩
    ·exact .inr h1
   ·rintro (⟨j,hj,h1,h2⟩|h1)
    ·rcases List.mem_cons.1 hj with e|e
     ·rw [e,h]at h1;cases h1
     ·exact .inl ⟨j,e,h1,h2⟩
    ·exact .inr h1
theorem f8 {c:List Li}(hc:∀l∈c,l.ok){y:Li}:y∈dr c↔y∈c∧Edg c y:=by
 unfold dr;rw [lO];constructor
 ·rintro (⟨i,hi,h1,h2⟩|h)
  ·have hi:=List.mem_range.1 hi;have e:=List.getElem?_eq_getElem hi;have e2:c.getD i ⟨0,0,0⟩=c[i]:=by rw [List.getD_eq_getElem?_getD,e];rfl
   have hm:c[i]∈c:=List.getElem_mem hi;rw [h2,e2];exact⟨hm,(oE (hc _ hm) e).1 h1⟩
  ·cases h
 ·rintro ⟨h1,h2⟩;obtain⟨i,hi,e⟩:=List.mem_iff_getElem.1 h1;have e1:c[i]? = some y:=by rw [List.getElem?_eq_getElem hi,e]
  exact .inl ⟨i,List.mem_range.2 hi,(oE (hc y h1) e1).2 h2,by rw [List.getD_eq_getElem?_getD,e1];rfl⟩
theorem gY {c:List Li}(hc:∀l∈c,l.ok) (hn:∃q,Inn c q) (p:Pq):Inn (dr c) p↔Inn c p:=by
 obtain⟨q,hq⟩:=hn;exact⟨fun h=>Inn.kept hc hq (fun m hm he=>(f8 hc).2 ⟨hm,he⟩) h,fun h l hl=>h l ((f8 hc).1 hl).1⟩
theorem fU (l:Li) (p:Pq):a6 l.neg p = - a6 l p:=by
 unfold a6 Li.neg;simp only [Rat.intCast_neg];grind
theorem Li.ok.neg {l:Li}(h:l.ok):l.neg.ok:=by
 refine⟨?_,?_⟩
 ·show Nat.gcd (Nat.gcd (-l.a).natAbs (-l.b).natAbs) (-l.c).natAbs=1
  rw [Int.natAbs_neg,Int.natAbs_neg,Int.natAbs_neg];exact h.1
 ·rcases h.2 with k|k
  ·left;show -l.a≠0;omega
  ·right;show -l.b≠0;omega
def Lft (I:Pq→Prop) (l:Li):Prop:=∃q,I q∧0<a6 l q
def Rgt (I:Pq→Prop) (l:Li):Prop:=∃q,I q∧a6 l q<0
theorem ed {c:List Li}{l:Li}{q:Pq}:Inn (c++[l]) q↔Inn c q∧0<a6 l q:=by
 unfold Inn;constructor
 ·intro h;exact⟨fun m hm=>h m (List.mem_append_left _ hm),h l (List.mem_append_right _ Ms)⟩
 ·rintro ⟨h1,h2⟩ m hm;rcases List.mem_append.1 hm with hm|hm
  ·exact h1 m hm
  ·rw [List.mem_singleton]at hm;rw [hm];exact h2
theorem gz {c:List Li}{l:Li}(hc:∀l∈c,l.ok) (hl:l.ok):∀m∈c++[l],m.ok:=fun m hm=>by
 rcases List.mem_append.1 hm with hm|hm
 ·exact hc m hm
 ·rw [List.mem_singleton]at hm;rw [hm];exact hl
theorem qU {c:List Li}{l:Li}(hc:∀l∈c,l.ok) (hl:l.ok):(bX (c++[l])).isSome=true↔Lft (Inn c) l:=by
 rw [wu (gz hc hl)];exact⟨fun⟨q,h⟩=>⟨q,ed.1 h⟩,fun⟨q,h⟩=>⟨q,ed.2 h⟩⟩
theorem wt {c:List Li}{l:Li}(hc:∀l∈c,l.ok) (hl:l.ok):(bX (c++[l.neg])).isSome=true↔Rgt (Inn c) l:=by
 rw [qU hc hl.neg];unfold Lft Rgt;have:∀q,0<a6 l.neg q↔a6 l q<0:=fun q=>by rw [fU];grind
 simp only [this]
theorem Inn.side {c:List Li}{l:Li}(hl:l.ok){q:Pq}(hq:Inn c q):Lft (Inn c) l∨Rgt (Inn c) l:=by
 by_cases h:a6 l q<0
 ·exact .inr ⟨q,hq,h⟩
 ·obtain⟨e,he,hs⟩:=fo (fun j=>a6 j q) (fun j=>(j.a:Rat)*l.a+j.b*l.b) c hq;refine .inl ⟨(q.1+e*l.a,q.2+e*l.b),fun j hj=>by rw [bS];exact hs j hj e he Rat.le_refl,?_⟩;rw [bS];have:=Rat.mul_pos he (cW hl);grind
theorem oQ {c:List Li}{l:Li}(hc:∀l∈c,l.ok) (hl:l.ok) :
  (gi c l=0↔Lft (Inn c) l∧Rgt (Inn c) l)∧(gi c l=1↔Lft (Inn c) l∧¬Rgt (Inn c) l)∧(gi c l = -1↔¬Lft (Inn c) l):=by
 have h1:=qU hc hl;have h2:=wt hc hl;unfold gi;cases e1:(bX (c++[l])).isSome with
 |true =>
  cases e2:(bX (c++[l.neg])).isSome with
  |true =>
   have a:=h1.1 e1;have b:=h2.1 e2;simp [a,b]
  |false =>
   have a:=h1.1 e1;have b:¬Rgt (Inn c) l:=fun h=>by have:=h2.2 h;rw [e2]at this;cases this
   simp [a,b]
 |false =>
  have a:¬Lft (Inn c) l:=fun h=>by have:=h1.2 h;rw [e1]at this;cases this
  simp [a]
def Tr.lok:Tr→Prop
 | .leaf _=>True
 | .node l a b=>l.ok∧a.lok∧b.lok
open Classical in
noncomputable def fM:Tr→(Pq→Prop)→Tr
 | .leaf i,_ => .leaf i
 | .node l a b,I=>if¬Rgt I l then fM a I else if¬Lft I l then fM b I else l7 l (fM a fun q=>I q∧0<a6 l q) (fM b fun q=>I q∧a6 l q<0)
noncomputable def pN (op:Int) (i:Bool) (b:Tr) (I:Pq→Prop):Tr :=
 if op=1∧i=true then .leaf true else if(op=2∨op=3)∧i=false then .leaf false else if(op=3∨op=4)∧i=true then ol (fM b I)else fM b I
open Classical in
noncomputable def fu (op:Int):Tr→Tr→(Pq→Prop)→Tr
 | .leaf i,b,I=>pN op i b I
 | .node l x y,b,I=>if¬Rgt I l then fu op x b I else if¬Lft I l then fu op y b I else l7 l (fu op x b fun q=>I q∧0<a6 l q) (fu op y b fun q=>I q∧a6 l q<0)
theorem xU (l:Li) (q:Pq):0<a6 l.neg q↔a6 l q<0:=by rw [fU];grind
theorem iI {c:List Li}{l:Li}(hc:∀l∈c,l.ok) (hl:l.ok) (h:Lft (Inn c) l):Inn (dA c l)=fun q=>Inn c q∧0<a6 l q:=by
 funext q
 refine propext ?_;unfold dA;rw [gY (gz hc hl) (h.imp fun q hq=>ed.2 hq),ed]
theorem jc {c:List Li}{l:Li}(hc:∀l∈c,l.ok) (hl:l.ok) (h:Rgt (Inn c) l):Inn (dA c l.neg)=fun q=>Inn c q∧a6 l q<0:=by
 rw [iI hc hl.neg (h.imp fun q hq=>⟨hq.1,(xU l q).2 hq.2⟩)];funext q
 rw [xU]
theorem lW {c:List Li}{l:Li}(hc:∀l∈c,l.ok) (hl:l.ok):∀m∈dA c l,m.ok:=fun m hm=>gz hc hl m ((f8 (gz hc hl)).1 hm).1
theorem iN:∀{t:Tr}{c:List Li},t.lok→(∀l∈c,l.ok)→(∃q,Inn c q)→bq t c=fM t (Inn c)
 | .leaf i,c,_,_,_=>rfl
 | .node l a b,c,⟨hl,ha,hb⟩,hc,hn=>by
  obtain⟨q,hq⟩:=hn;obtain⟨p0,p1,p2⟩:=oQ hc hl;unfold bq fM;by_cases h1:Rgt (Inn c) l
  ·rw [if_neg (fun e=>(p1.1 e).2 h1)];rw [if_neg (show¬¬Rgt (Inn c) l from fun h=>h h1)];by_cases h2:Lft (Inn c) l
   ·rw [if_neg (fun e=>p2.1 e h2),if_neg (show¬¬Lft (Inn c) l from fun h=>h h2)];rw [iN ha (lW hc hl) (by rw [iI hc hl h2];exact h2),iN hb (lW hc hl.neg) (by rw [jc hc hl h1];exact h1),iI hc hl h2,jc hc hl h1]
   ·rw [if_pos (p2.2 h2),if_pos h2];exact iN hb hc ⟨q,hq⟩
  ·have h2:=(hq.side hl).resolve_right h1;rw [if_pos (p1.2 ⟨h2,h1⟩),if_pos h1];exact iN ha hc ⟨q,hq⟩
theorem jV {op:Int}:∀{t b:Tr}{c:List Li},t.lok→b.lok→(∀l∈c,l.ok)→(∃q,Inn c q)→dE op t b c=fu op t b (Inn c)
 | .leaf i,b,c,_,hb,hc,hn=>by
  unfold dE fu pM pN;rw [iN hb hc hn]
 | .node l x y,b,c,⟨hl,hx,hy⟩,hb,hc,hn=>by
  obtain⟨q,hq⟩:=hn;obtain⟨p0,p1,p2⟩:=oQ hc hl;unfold dE fu;by_cases h1:Rgt (Inn c) l
  ·rw [if_neg (fun e=>(p1.1 e).2 h1)];rw [if_neg (show¬¬Rgt (Inn c) l from fun h=>h h1)];by_cases h2:Lft (Inn c) l
   ·rw [if_neg (fun e=>p2.1 e h2),if_neg (show¬¬Lft (Inn c) l from fun h=>h h2)];rw [jV hx hb (lW hc hl) (by rw [iI hc hl h2];exact h2),jV hy hb (lW hc hl.neg) (by rw [jc hc hl h1];exact h1),iI hc hl h2,jc hc hl h1]
   ·rw [if_pos (p2.2 h2),if_pos h2];exact jV hy hb hc ⟨q,hq⟩
  ·have h2:=(hq.side hl).resolve_right h1;rw [if_pos (p1.2 ⟨h2,h1⟩),if_pos h1];exact jV hx hb hc ⟨q,hq⟩
end Go.Ab
namespace Go.Ab
open Go.Proofs
variable [Base]
def xW (x y:Rat):Rat:=if(x-y).num.sign≤0 then x else y
def xY (x y:Rat):Rat:=if 0≤(x-y).num.sign then x else y
def gq (v w:Spn):Spn :=
 ⟨if v.nl then w.lo else if w.nl then v.lo else xY v.lo w.lo,if v.nh then w.hi else if w.nh then v.hi else xW v.hi w.hi,v.nl&&w.nl,v.nh&&w.nh⟩
theorem G9 {x y t:Rat}:xY x y<t↔x<t∧y<t:=by
 unfold xY;split
 ·rename_i h;rw [jS]at h;grind
 ·rename_i h;rw [jS]at h;grind
theorem G0 {x y t:Rat}:t<xW x y↔t<x∧t<y:=by
 have e:(x-y).num.sign≤0↔x≤y:=by
  rw [←Int.not_lt,bd];grind
 unfold xW;split
 ·rename_i h;rw [e]at h;grind
 ·rename_i h;rw [e]at h;grind
theorem qP (v w:Spn) (t:Rat):InS (gq v w) t↔InS v t∧InS w t:=by
 obtain⟨a,b,c,d⟩:=v;obtain⟨a',b',c',d'⟩:=w;unfold InS gq;cases c <;> cases d <;> cases c' <;> cases d' <;> simp [G9,G0] <;> grind
def hlf (k u:Rat):Spn:=if k.num.sign=1 then⟨u,0,false,true⟩else⟨0,u,true,false⟩
theorem Dz {k:Rat}(hk:k≠0) (u t:Rat):InS (hlf k u) t↔0<(t-u)*k:=by
 unfold hlf;by_cases h1:k.num.sign=1
 ·rw [if_pos h1];have:0<k:=bd.1 om;rw [fh this];unfold InS;simp only;grind
 ·rw [if_neg h1];have h0:k.num.sign≠0:=fun e=>hk (bh.1 e)
  have h3:k.num.sign<0:=by have:=Int.sign_trichotomy k.num;omega
  have:0 < - k:=by have:=cH.1 h3;grind
  rw [show(t-u)*k=(u-t) * -k by grind,fh this];unfold InS;simp only;grind
def eN (l:Li) (v:Spn) (m:Li):Option Spn :=
 if(slp l m).num.sign=0 then(if 0<(a6 m (aV l)).num.sign then some v else none)
 else if fG (gq v (hlf (slp l m) (-(a6 m (aV l)/slp l m))))then none else some (gq v (hlf (slp l m) (-(a6 m (aV l)/slp l m))))
theorem rl {l m:Li}(h:slp l m≠0) (t:Rat):a6 m (atL l t)=(t - -(a6 m (aV l)/slp l m))*slp l m:=by
 rw [aR];have:a6 m (aV l)/slp l m*slp l m=a6 m (aV l):=Rat.div_mul_cancel h;generalize a6 m (aV l)/slp l m=u at *;rw [←this];grind
theorem dV {l m:Li}{v w:Spn}(h:eN l v m=some w) (t:Rat):InS w t↔InS v t∧0<a6 m (atL l t):=by
 unfold eN at h;by_cases h0:(slp l m).num.sign=0
 ·rw [if_pos h0]at h;split at h
  ·rename_i h1;cases h;rw [bh]at h0;rw [aR,h0,Rat.mul_zero,Rat.add_zero];exact⟨fun k=>⟨k,bd.1 h1⟩,And.left⟩
  ·cases h
 ·rw [if_neg h0]at h;have hk:slp l m≠0:=fun e=>h0 (bh.2 e)
  split at h
  ·cases h
  ·cases h;rw [qP,rl hk,Dz hk]
theorem tn {l m:Li}{v:Spn}(h:eN l v m=none) (t:Rat):¬(InS v t∧0<a6 m (atL l t)):=by
 unfold eN at h;by_cases h0:(slp l m).num.sign=0
 ·rw [if_pos h0]at h;split at h
  ·cases h
  ·rename_i h1;rw [bh]at h0;rw [aR,h0,Rat.mul_zero,Rat.add_zero];exact fun k=>h1 (bd.2 k.2)
 ·rw [if_neg h0]at h;have hk:slp l m≠0:=fun e=>h0 (bh.2 e)
  split at h
  ·rename_i h2;rintro ⟨k1,k2⟩;rw [rl hk,←Dz hk]at k2;rw [iK ((qP _ _ t).2 ⟨k1,k2⟩)]at h2;cases h2
  ·cases h
theorem j8 {l m:Li}{v w:Spn}(hv:∃t,InS v t) (h:eN l v m=some w):∃t,InS w t:=by
 unfold eN at h;by_cases h0:(slp l m).num.sign=0
 ·rw [if_pos h0]at h;split at h
  ·cases h;exact hv
  ·cases h
 ·rw [if_neg h0]at h;split at h
  ·cases h
  ·rename_i h2;cases h;exact⟨_,fL (by simpa using h2)⟩
abbrev PC:=List Fg
def ln (l:Li):Spn→PC→Option Spn
 |v,[]=>some v
 |v,s::c=>match eN l v s.1 with
  |some w=>ln l w c
  |none=>none
def mO (c:PC) (l:Li):Option Spn:=ln l Spn.full c
theorem oR {l:Li}:∀{c:PC}{v w:Spn},(∃t,InS v t)→ln l v c=some w→(∀t,InS w t↔InS v t∧∀s∈c,0<a6 s.1 (atL l t))∧∃t,InS w t
 | [],v,w,hv,h=>by cases h;exact⟨fun t=>by simp,hv⟩
 |s::c,v,w,hv,h=>by
  unfold ln at h;split at h
  ·rename_i u hu;obtain⟨a,b⟩:=oR (j8 hv hu) h;refine⟨fun t=>?_,b⟩;rw [a t,dV hu];simp only [List.mem_cons,forall_eq_or_imp];exact and_assoc
  ·cases h
theorem oS {l:Li}:∀{c:PC}{v:Spn},ln l v c=none→∀t,InS v t→∃s∈c,¬0<a6 s.1 (atL l t)
 | [],v,h,_,_=>by cases h
 |s::c,v,h,t,ht=>by
  unfold ln at h;split at h
  ·rename_i u hu;by_cases k:0<a6 s.1 (atL l t)
   ·obtain⟨s',h1,h2⟩:=oS h t ((dV hu t).2 ⟨ht,k⟩);exact⟨s',Mc h1,h2⟩
   ·exact⟨s,Ms,k⟩
  ·rename_i hu;exact⟨s,Ms,fun k=>tn hu t ⟨ht,k⟩⟩
theorem uJ (t:Rat):InS Spn.full t:=⟨.inl rfl, .inl rfl⟩
abbrev aa (c:PC):List Li:=c.map Prod.fst
theorem qE {c:PC}{l:Li}{w:Spn}(h:mO c l=some w):(∀t,InS w t↔Inn (aa c) (atL l t))∧∃t,InS w t:=by
 obtain⟨a,b⟩:=oR ⟨0,uJ 0⟩ h;refine⟨fun t=>?_,b⟩;rw [a t];unfold Inn;simp only [List.mem_map,forall_exists_index,and_imp,forall_apply_eq_imp_iff₂];exact⟨And.right,fun k=>⟨uJ t,k⟩⟩
theorem lm {c:PC}{l:Li}(hl:l.ok) (h:mO c l=none) (p:Pq) (hp:a6 l p=0):¬Inn (aa c) p:=fun k=>by
 obtain⟨s,h1,h2⟩:=oS h (bO l p) (uJ _);rw [lR hl hp]at h2;exact h2 (k s.1 (List.mem_map.2 ⟨s,h1,rfl⟩))
structure dH (c:PC):Prop where
 ok:∀s∈c,s.1.ok
 inn:∃q,Inn (aa c) q
 nd:(aa c).Nodup
 span:∀s∈c,(∀t,InS s.2 t↔∀m∈aa c,m≠s.1→0<a6 m (atL s.1 t))∧∃t,InS s.2 t
theorem dH.lok {c:PC}(h:dH c):∀l∈aa c,l.ok:=fun l hl=>by
 obtain⟨s,hs,rfl⟩:=List.mem_map.1 hl;exact h.ok s hs
theorem dH.nil:dH []:=⟨fun s h=>(by cases h),⟨(0,0),fun l h=>(by cases h)⟩,List.nodup_nil,fun s h=>(by cases h)⟩
def nT (l:Li):PC→Int
 | [] => -1
 |s::c=>if cM l (atL s.1 (bK s.2))≠0 then cM l (atL s.1 (bK s.2))else if s.1=l then 1 else nT l c
def ll (c:PC) (l:Li):Int:=if(mO c l).isSome then 0 else nT l c
theorem qK {c:List Li}{l:Li}(h:∀p,a6 l p=0→¬Inn c p):¬(Lft (Inn c) l∧Rgt (Inn c) l):=by
 rintro ⟨⟨p,hp,hp0⟩,⟨q,hq,hq0⟩⟩;obtain⟨s,hs⟩:∃s,s*(a6 l p-a6 l q)=a6 l p:=⟨a6 l p/(a6 l p-a6 l q),Rat.div_mul_cancel (by grind)⟩
 obtain⟨h0,h1⟩:=Cu hs hp0 (by grind);refine h (p.1+s*(q.1-p.1),p.2+s*(q.2-p.2)) (by rw [i7];exact yS hs) fun m hm=>?_
 rw [i7];exact xH h0 h1 (hp m hm) (hq m hm)
theorem kN {c:PC}(h:dH c){l:Li}{s:Fg}(hs:s∈c){t:Rat}(ht:InS s.2 t):(0<a6 l (atL s.1 t)→Lft (Inn (aa c)) l)∧(a6 l (atL s.1 t)<0→Rgt (Inn (aa c)) l):=by
 have hv:=((h.span s hs).1 t).1 ht;have hz:=fH (h.ok s hs) t;generalize atL s.1 t=r at *
 have key:∀(k:Rat),0<k*a6 l r→∃q,Inn (aa c) q∧0<k*a6 l q:=fun k hk=>by
  obtain⟨e,he,hsm⟩:=fo (fun j:Option Li=>match j with|none=>k*a6 l r|some j=>a6 j r) (fun j=>match j with|none=>k*((l.a:Rat)*s.1.a+l.b*s.1.b)|some j=>(j.a:Rat)*s.1.a+j.b*s.1.b)
   (none::((aa c).filter fun j=>decide (j≠s.1)).map some) (fun j hj=>by
    rcases List.mem_cons.1 hj with rfl|hj
    ·exact hk
    ·obtain⟨j',hj',rfl⟩:=List.mem_map.1 hj;rw [List.mem_filter,decide_eq_true_eq]at hj';exact hv j' hj'.1 hj'.2)
  refine⟨(r.1+e*s.1.a,r.2+e*s.1.b),fun j hj=>?_,?_⟩
  ·rw [bS];by_cases hjs:j=s.1
   ·rw [hjs,hz,Rat.zero_add];exact Rat.mul_pos he (cW (h.ok s hs))
   ·exact hsm (some j) (Mc (List.mem_map.2 ⟨j,List.mem_filter.2 ⟨hj,decide_eq_true hjs⟩,rfl⟩)) e he Rat.le_refl
  ·rw [bS];have:=hsm none List.mem_cons_self e he Rat.le_refl;simp only at this;grind
 constructor
 ·intro h0;obtain⟨q,h1,h2⟩:=key 1 (by grind);exact⟨q,h1,by grind⟩
 ·intro h0;obtain⟨q,h1,h2⟩:=key (-1) (by grind);exact⟨q,h1,by grind⟩
theorem Ar {l:Li}{p:Pq}:cM l p=1↔0<a6 l p:=by
 unfold cM;rw [←bd];have:=Int.sign_trichotomy (a6 l p).num;omega
theorem As {l:Li}{p:Pq}:cM l p = -1↔a6 l p<0:=by
 unfold cM;rw [←cH];have:=Int.sign_trichotomy (a6 l p).num;omega
theorem xo {l:Li}{p:Pq}:cM l p=0↔a6 l p=0:=bh
theorem si (l:Li) (p:Pq):cM l p=1∨cM l p=0∨cM l p = -1:=by
 have:=Int.sign_trichotomy (a6 l p).num;unfold cM;omega
theorem ql {l m:Li}(hl:l.ok) (hm:m.ok){t u:Rat}(hne:t≠u) (h1:a6 m (atL l t)=0) (h2:a6 m (atL l u)=0):m=l∨m=l.neg:=by
 rw [aR]at h1 h2
 have hk:slp l m=0:=by
  have:(t-u)*slp l m=0:=by grind
  rcases Rat.mul_eq_zero.1 this with e|e
  ·exact absurd (by grind) hne
  ·exact e
 have hb:a6 m (aV l)=0:=by rw [hk]at h1;grind
 have hn:=cW hl
 have hz:a6 l (aV l)=0:=by
  have h:=fH hl 0;rw [aR]at h;grind
 obtain⟨f,hf⟩:∃f,f*((l.a:Rat)*l.a+l.b*l.b)=(m.a:Rat)*l.a+m.b*l.b:=⟨_,Rat.div_mul_cancel (by grind)⟩
 have ea:(m.a:Rat)=f*l.a:=by
  refine jk (n:=(l.a:Rat)*l.a+l.b*l.b) (by grind) ?_;have:((l.a:Rat)*l.a+l.b*l.b)*(f*l.a)=(f*((l.a:Rat)*l.a+l.b*l.b))*l.a:=by grind
  rw [this,hf];unfold slp at hk;grind
 have eb:(m.b:Rat)=f*l.b:=by
  refine jk (n:=(l.a:Rat)*l.a+l.b*l.b) (by grind) ?_;have:((l.a:Rat)*l.a+l.b*l.b)*(f*l.b)=(f*((l.a:Rat)*l.a+l.b*l.b))*l.b:=by grind
  rw [this,hf];unfold slp at hk;grind
 have ec:(m.c:Rat)=f*l.c:=by
  have z1:a6 m (aV l)=f*(a6 l (aV l)-l.c)+m.c:=by unfold a6;rw [ea,eb];grind
  rw [hb,hz]at z1;grind
 rcases Rat.le_total (a:=f) (b:=0)with k|k
 ·by_cases e:f=0
  ·rw [e,Rat.zero_mul]at ea eb;rcases hm.2 with h|h
   ·exact absurd (Rat.intCast_eq_zero_iff.1 ea) h
   ·exact absurd (Rat.intCast_eq_zero_iff.1 eb) h
  ·right;refine Li.prop_eqR hm hl.neg (s:=1) (t := -f) (by decide) (by grind) ?_ ?_ ?_
   ·unfold Li.neg;simp only [Rat.intCast_neg];rw [ea];grind
   ·unfold Li.neg;simp only [Rat.intCast_neg];rw [eb];grind
   ·unfold Li.neg;simp only [Rat.intCast_neg];rw [ec];grind
 ·by_cases e:f=0
  ·rw [e,Rat.zero_mul]at ea eb;rcases hm.2 with h|h
   ·exact absurd (Rat.intCast_eq_zero_iff.1 ea) h
   ·exact absurd (Rat.intCast_eq_zero_iff.1 eb) h
  ·left;refine Li.prop_eqR hm hl (s:=1) (t:=f) (by decide) (by grind) ?_ ?_ ?_
   ·rw [ea];grind
   ·rw [eb];grind
   ·rw [ec];grind
theorem Ho {s:Spn}{t:Rat}(h:InS s t):∃u,u≠t∧InS s u:=by
 obtain⟨lo,hi,nl,nh⟩:=s;unfold InS at *;simp only at *;cases nl <;> cases nh <;> simp at h⊢
 ·exact⟨gP t hi,by have:=jr h.2;grind,by have:=jr h.2;grind,by have:=jr h.2;grind⟩
 ·exact⟨t+1,by grind,by grind⟩
 ·exact⟨t-1,by grind,by grind⟩
 ·exact⟨t+1,by grind⟩
theorem sj {c:PC}(h:dH c){l:Li}(hl:l.ok) (hm:∀p,a6 l p=0→¬Inn (aa c) p):∀(d:PC),(∀s∈d,s∈c)→(nT l d=1∧Lft (Inn (aa c)) l∧¬Rgt (Inn (aa c)) l)∨(nT l d = -1∧Rgt (Inn (aa c)) l∧¬Lft (Inn (aa c)) l)∨(nT l d = -1∧∀s∈d,s.1=l.neg)
 | [],_ => .inr (.inr ⟨rfl,fun s h=>by cases h⟩)
 |s::d,hd=>by
  have hs:=hd s Ms;have hsp:=h.span s hs;have hin:=fL (iK hsp.2.choose_spec);have hns:=qK hm;obtain⟨e1,e2⟩:=kN h (l:=l) hs hin;unfold nT;rcases si l (atL s.1 (bK s.2))with k|k|k
  ·rw [k,if_pos (by decide)];have a:=e1 (Ar.1 k);exact .inl ⟨rfl,a,fun b=>hns ⟨a,b⟩⟩
  ·rw [k,if_neg (by decide)];have hz:=xo.1 k;by_cases hsl:s.1=l
   ·rw [if_pos hsl];obtain⟨q,hq⟩:=h.inn;have a:Lft (Inn (aa c)) l:=⟨q,hq,hsl▸hq s.1 (List.mem_map.2 ⟨s,hs,rfl⟩)⟩
    exact .inl ⟨rfl,a,fun b=>hns ⟨a,b⟩⟩
   ·rw [if_neg hsl]
    have hneg:s.1=l.neg:=by
     obtain⟨u,hu,hui⟩:=Ho hin
     have z2:a6 l (atL s.1 u)=0:=by
      obtain⟨g1,g2⟩:=kN h (l:=l) hs hui;have hk:a6 l (atL s.1 u)=a6 l (atL s.1 (bK s.2))+(u-bK s.2)*slp s.1 l:=by rw [aR,aR];grind
      by_cases z:a6 l (atL s.1 u)=0
      ·exact z
      ·exfalso;have hslp:slp s.1 l≠0:=fun e=>by rw [e,hz]at hk;exact z (by rw [hk];grind)
       obtain⟨e,he,hsm⟩:=fo (fun j:Option (Li×Bool)=>match j with|none=>1|some j=>a6 j.1 (atL s.1 (bK s.2))) (fun j=>match j with|none=>0|some j=>if j.2 then slp s.1 j.1 else-slp s.1 j.1)
        ((((aa c).filter fun j=>decide (j≠s.1)).map fun j=>some (j,true))++(((aa c).filter fun j=>decide (j≠s.1)).map fun j=>some (j,false))) (fun j hj=>by
         rcases List.mem_append.1 hj with hj|hj <;> (obtain⟨j',hj',rfl⟩:=List.mem_map.1 hj;rw [List.mem_filter,decide_eq_true_eq]at hj';exact(hsp.1 _).1 hin j' hj'.1 hj'.2))
       have i1:InS s.2 (bK s.2+e):=(hsp.1 _).2 fun j hj hne=>by
        have:=hsm (some (j,true)) (List.mem_append_left _ (List.mem_map.2 ⟨j,List.mem_filter.2 ⟨hj,decide_eq_true hne⟩,rfl⟩)) e he Rat.le_refl;simp only [if_true]at this;rw [aR]at this⊢;grind
       have i2:InS s.2 (bK s.2-e):=(hsp.1 _).2 fun j hj hne=>by
        have:=hsm (some (j,false)) (List.mem_append_right _ (List.mem_map.2 ⟨j,List.mem_filter.2 ⟨hj,decide_eq_true hne⟩,rfl⟩)) e he Rat.le_refl;simp only [Bool.false_eq_true,if_false]at this;rw [aR]at this⊢;grind
       obtain⟨a1,a2⟩:=kN h (l:=l) hs i1;obtain⟨b1,b2⟩:=kN h (l:=l) hs i2;have v1:a6 l (atL s.1 (bK s.2+e))=e*slp s.1 l:=by rw [aR]at hz⊢;grind
       have v2:a6 l (atL s.1 (bK s.2-e)) = -(e*slp s.1 l):=by rw [aR]at hz⊢;grind
       rw [v1]at a1 a2;rw [v2]at b1 b2;have hne:e*slp s.1 l≠0:=fun k=>by rcases Rat.mul_eq_zero.1 k with k|k <;> grind
       rcases Rat.le_total (a:=e*slp s.1 l) (b:=0)with k|k
       ·exact hns ⟨b1 (by grind),a2 (by grind)⟩
       ·exact hns ⟨a1 (by grind),b2 (by grind)⟩
     rcases ql (h.ok s hs) hl (fun e=>hu e.symm) hz z2 with e|e
     ·exact absurd e.symm hsl
     ·rw [e];unfold Li.neg;simp
    rcases sj h hl hm d (fun x hx=>hd x (Mc hx))with r|r|⟨r,rr⟩
    ·exact .inl r
    ·exact .inr (.inl r)
    ·refine .inr (.inr ⟨r,fun x hx=>?_⟩);rcases List.mem_cons.1 hx with e|e
     ·rw [e,hneg]
     ·exact rr x e
  ·rw [k,if_pos (by decide)];have b:=e2 (As.1 k);exact .inr (.inl ⟨rfl,b,fun a=>hns ⟨a,b⟩⟩)
theorem sE {c:PC}(h:dH c){l:Li}(hl:l.ok) :
  (ll c l=0∧Lft (Inn (aa c)) l∧Rgt (Inn (aa c)) l)∨(ll c l=1∧Lft (Inn (aa c)) l∧¬Rgt (Inn (aa c)) l)∨(ll c l = -1∧¬Lft (Inn (aa c)) l∧Rgt (Inn (aa c)) l):=by
 unfold ll;cases hp:mO c l with
 |some w =>
  left;obtain⟨a,t,b⟩:=qE hp;have hin:=(a t).1 b;refine⟨rfl,?_,?_⟩
  ·obtain⟨e,he,hs⟩:=fo (fun j=>a6 j (atL l t)) (fun j=>(j.a:Rat)*l.a+j.b*l.b) _ hin;exact⟨((atL l t).1+e*l.a,(atL l t).2+e*l.b),fun j hj=>by rw [bS];exact hs j hj e he Rat.le_refl,by rw [bS,fH hl];have:=Rat.mul_pos he (cW hl);grind⟩
  ·obtain⟨e,he,hs⟩:=fo (fun j=>a6 j (atL l t)) (fun j => -((j.a:Rat)*l.a+j.b*l.b)) _ hin;exact⟨((atL l t).1 + -e*l.a,(atL l t).2 + -e*l.b),fun j hj=>by rw [bS];have:=hs j hj e he Rat.le_refl;grind,by rw [bS,fH hl];have:=Rat.mul_pos he (cW hl);grind⟩
 |none =>
  right;have hm:=lm hl hp;rcases sj h hl hm c (fun s hs=>hs)with⟨r,a,b⟩|⟨r,a,b⟩|⟨r,rr⟩
  ·exact .inl ⟨r,a,b⟩
  ·exact .inr ⟨r,b,a⟩
  ·right;have hns:=qK hm;cases c with
   |nil =>
    exfalso;unfold mO ln at hp;cases hp
   |cons s c =>
    obtain⟨q,hq⟩:=h.inn;have hsl:=rr s Ms;have hv:=hq s.1 (List.mem_map.2 ⟨s,Ms,rfl⟩);rw [hsl,fU]at hv;have b:Rgt (Inn (aa (s::c))) l:=⟨q,hq,by grind⟩
    exact⟨r,fun a=>hns ⟨a,b⟩,b⟩
end Go.Ab
