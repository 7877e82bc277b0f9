/- Texts laid one behind the other: GmB, CvxE, Mix, StkA. -/
import Derived.Test.YtpeidlcjlfkpcaaGreatDoorB15
set_option linter.all false
namespace Go.Ab
open Go.Proofs
variable [Base]
def oN (cuts:List Rat) (i:Nat):Spn:=⟨if 0<i then cuts.getD (i-1) 0 else 0,if i<cuts.length then cuts.getD i 0 else 0,decide (i=0),decide (i=cuts.length)⟩
def gU (cuts:List Rat) (marks:List Bool) (out:List Spn) (i:Nat):List Spn :=
 if marks.getD i false=false then out
 else if 0<i∧marks.getD (i-1) false=true∧0<out.length then out.set (out.length-1) ⟨(out.getD (out.length-1) Spn.full).lo,(oN cuts i).hi,(out.getD (out.length-1) Spn.full).nl,(oN cuts i).nh⟩
 else out++[oN cuts i]
def yP (cuts:List Rat) (marks:List Bool):List Spn:=(List.range marks.length).foldl (gU cuts marks) []
def qR (op:Int) (a b:List Spn):List Spn:=yP (fW (a++b)) ((iN (fW (a++b))).map fun t=>opB op (inL a t) (inL b t))
def dp (s:Spn):Rat:=if s.nl&&s.nh then 0 else if s.nl then s.hi-1 else if s.nh then s.lo+1 else mQ s.lo s.hi
abbrev Fg:=Li×Spn
def jU (l m:Li) (side:Int):List Spn×Bool :=
 if gW l m=0 then(if gR m (bX l)=side then [Spn.full]else [],decide (gR m (bX l)=0))
 else if gR m (atL l (fp l (dY l m)+1))=side then([⟨fp l (dY l m),0,false,true⟩],false)else([⟨0,fp l (dY l m),true,false⟩],false)
def f4 (f:Fg) (m:Li):List Fg×List Fg :=
 if(jU f.1 m 1).2 then([],[])else((qR 2 [f.2] (jU f.1 m 1).1).map fun s=>(f.1,s),(qR 2 [f.2] (jU f.1 m (-1)).1).map fun s=>(f.1,s))
def jL (l m:Li) (s:Spn):Spn :=
 if 0<(gi (cM m) (cM l)).num.sign then(if s.nl=true∨0<(fp l (dY l m)-s.lo).num.sign then⟨fp l (dY l m),s.hi,false,s.nh⟩else s)
 else if s.nh=true∨(fp l (dY l m)-s.hi).num.sign<0 then⟨s.lo,fp l (dY l m),s.nl,false⟩else s
def j9 (s:Spn):Bool := !s.nl && !s.nh&&decide (0≤(s.lo-s.hi).num.sign)
def jX (l:Li) (i:Nat):Nat→List Li→Spn→Spn×Bool
 |_,[],s=>(s,true)
 |k,m::c,s=>if k=i∨rF l m=0 then jX l i (k+1) c s
  else if gW l m=0 then(if 0<gR m (bX l)then jX l i (k+1) c s else(s,false))
  else if j9 (jL l m s)then(jL l m s,false)else jX l i (k+1) c (jL l m s)
def eU (c:List Li) (i:Nat):Spn×Bool:=jX (c.getD i ⟨0,0,0⟩) i 0 c Spn.full
def gS (p v:Pq) (s:Rat) (a:Li):Rat :=
 if(af a (iQ p 1 v)-af a p).num.sign=0∨gR a p=0 then s
 else if 0<(-(af a p/(af a (iQ p 1 v)-af a p))).num.sign∧(-(af a p/(af a (iQ p 1 v)-af a p))/2-s).num.sign<0 then -(af a p/(af a (iQ p 1 v)-af a p))/2 else s
def Aw (l:List Li) (p v:Pq):Pq:=iQ p (l.foldl (gS p v) 1) v
def uR (c:List Li) (i:Nat) (l:Li):Pq:=Aw c (atL l (dp (eU c i).1)) (-(cM l).2,(cM l).1)
def ku (c:List Li):Nat→List Li→Option Pq
 |_,[]=>none
 |i,l::r=>if(eU c i).2 then some (uR c i l)else ku c (i+1) r
def fH (c:List Li):Option Pq:=if c=[]then some (0,0)else ku c 0 c
abbrev alt (l m:Li):Bool:=decide (wq (cM l) (cM m)<0)
def fY (c:List Li) (out:List Li) (i:Nat):List Li:=if(eU c i).2 then lS alt out (c.getD i ⟨0,0,0⟩)else out
def qN (c:List Li):List Li:=(List.range c.length).foldl (fY c) []
def mv (c:List Li) (l:Li):Int:=if(fH (c++[l])).isSome then(if(fH (c++[l.neg])).isSome then 0 else 1)else -1
def o9 (l:Li):Tr→Tr→Tr
 | .leaf i, .leaf j=>if i=j then .leaf i else .node l (.leaf i) (.leaf j)
 |a,b => .node l a b
abbrev iL (c:List Li) (l:Li):List Li:=qN (c++[l])
def dI:Tr→List Li→Tr
 | .leaf i,_ => .leaf i
 | .node l a b,c=>if mv c l=1 then dI a c else if mv c l = -1 then dI b c else o9 l (dI a (iL c l)) (dI b (iL c l.neg))
def ml:Tr→Tr
 | .leaf i => .leaf (!i)
 | .node l a b => .node l (ml a) (ml b)
def xq (op:Int) (i:Bool) (b:Tr) (c:List Li):Tr :=
 if op=1∧i=true then .leaf true else if(op=2∨op=3)∧i=false then .leaf false else if(op=3∨op=4)∧i=true then ml (dI b c)else dI b c
def fk (op:Int):Tr→Tr→List Li→Tr
 | .leaf i,b,c=>xq op i b c
 | .node l x y,b,c=>if mv c l=1 then fk op x b c else if mv c l = -1 then fk op y b c else o9 l (fk op x b (iL c l)) (fk op y b (iL c l.neg))
def oT:Tr→List Li
 | .leaf _=>[]
 | .node l a b=>l::(oT a++oT b)
def cU (l:List Fg) (m:Li):List Fg×List Fg:=((l.map fun f=>(f4 f m).1).flatten,(l.map fun f=>(f4 f m).2).flatten)
def qS (inn:Pq→Bool):Nat→List Fg→List Li→Tr
 |0,_,_ => .leaf false
 |n+1,[],c => .leaf (inn ((fH c).getD (0,0)))
 |n+1,f::l,c => .node f.1 (qS inn n (cU (f::l) f.1).1 (c++[f.1])) (qS inn n (cU (f::l) f.1).2 (c++[f.1.neg]))
theorem eR {x:Rat}:0<x.num.sign↔0<x:=by rw [Int.sign_pos_iff];exact y8
theorem KD {x:Rat}:x.num<0↔x<0:=by
 have h1:0≤x.num↔0≤x:=pX;constructor
 ·intro h;exact nz.1 fun k=>by have:=h1.2 k;omega
 ·intro h;have:¬0≤x.num:=fun k=>nz.2 h (h1.1 k)
  omega
theorem jk {x:Rat}:x.num.sign<0↔x<0:=by rw [Int.sign_neg_iff];exact KD
theorem pf {x:Rat}:0≤x.num.sign↔0≤x:=by
 rw [←pa,jk,ig]
theorem PU (l:Li):uZ (cM l) (cM l)=(l.a:Rat)*l.a+l.b*l.b:=by unfold uZ cM;simp only;grind
theorem Nb {l:Li}(h:l.ok):l.bf*((l.a:Rat)*l.a+l.b*l.b) = -l.c:=by
 have hn:=jr h;unfold Li.bf;rw [show(l.b:Rat)*l.b + -(l.a:Rat) * -(l.a:Rat)=(l.a:Rat)*l.a+l.b*l.b by grind];generalize(l.a:Rat)*l.a+l.b*l.b=n at *;rw [Rat.neg_mul,g8 (by grind)]
theorem BA {l:Li}(h:l.ok) (p:Pq):fp l p*((l.a:Rat)*l.a+l.b*l.b)=p.1*l.b-p.2*l.a:=by
 have hn:=jr h;unfold fp;rw [PU,g8 (by grind)];unfold uZ cM;simp only;grind
theorem Nf {l:Li}(t:Rat):atL l t=(l.bf*l.a+t*l.b,l.bf*l.b-t*l.a):=by
 unfold atL iQ bX cM;refine jx ?_ ?_ <;> simp only <;> grind
theorem sN {l:Li}(h:l.ok) (t:Rat):af l (atL l t)=0:=by
 have hb:=Nb h;rw [Nf];unfold af;simp only;grind
theorem zx {l:Li}(h:l.ok){p:Pq}(hp:af l p=0):atL l (fp l p)=p:=by
 have hn:=jr h;have hb:=Nb h;have hq:=BA h p;rw [Nf];obtain⟨x,y⟩:=p;have hc:(l.c:Rat) = -(l.a*x+l.b*y):=by unfold af at hp;simp only at hp;grind
 generalize fp l (x,y)=t at *;generalize l.bf=f at *;simp only at hq;rw [hc]at hb;generalize(l.a:Rat)=a at *;generalize(l.b:Rat)=b at *;have hne:a*a+b*b≠0:=by grind
 simp only [cP];constructor
 ·refine qq hne ?_;have:(a*a+b*b)*(f*a+t*b)=(f*(a*a+b*b))*a+(t*(a*a+b*b))*b:=by grind
  rw [this,hb,hq];grind
 ·refine qq hne ?_;have:(a*a+b*b)*(f*b-t*a)=(f*(a*a+b*b))*b-(t*(a*a+b*b))*a:=by grind
  rw [this,hb,hq];grind
theorem P6 {l m:Li}(h:gW l m≠0):af l (dY l m)=0∧af m (dY l m)=0:=by
 have e1:∀x:Rat,x/gW l m*gW l m=x:=fun x=>g8 h
 obtain⟨x,hx⟩:∃x,x=((l.b:Rat)*m.c-m.b*l.c)/gW l m:=⟨_,rfl⟩
 obtain⟨y,hy⟩:∃y,y=((m.a:Rat)*l.c-l.a*m.c)/gW l m:=⟨_,rfl⟩
 have hx':x*gW l m=(l.b:Rat)*m.c-m.b*l.c:=by rw [hx];exact e1 _
 have hy':y*gW l m=(m.a:Rat)*l.c-l.a*m.c:=by rw [hy];exact e1 _
 have:dY l m=(x,y):=by unfold dY;rw [←hx,←hy]
 rw [this];clear e1 hx hy this;constructor
 ·refine qq h ?_;unfold af;have:gW l m*((l.a:Rat)*x+l.b*y+l.c)=l.a*(x*gW l m)+l.b*(y*gW l m)+l.c*gW l m:=by grind
  simp only;rw [this,hx',hy'];unfold gW;grind
 ·refine qq h ?_;unfold af;have:gW l m*((m.a:Rat)*x+m.b*y+m.c)=m.a*(x*gW l m)+m.b*(y*gW l m)+m.c*gW l m:=by grind
  simp only;rw [this,hx',hy'];unfold gW;grind
def slp (l m:Li):Rat:=(m.a:Rat)*l.b-m.b*l.a
theorem Ii (l m:Li):gi (cM m) (cM l)=slp l m:=by unfold gi cM slp;simp only;grind
theorem rZ (l m:Li):gW l m = - slp l m:=by unfold gW slp;grind
theorem fM (l m:Li) (t:Rat):af m (atL l t)=af m (bX l)+t*slp l m:=by
 rw [Nf];unfold af slp bX;simp only;grind
theorem ud {l m:Li}(hl:l.ok) (h:gW l m≠0) (t:Rat):af m (atL l t)=(t-fp l (dY l m))*slp l m:=by
 obtain⟨h1,h2⟩:=P6 h;have h3:=zx hl h1;have h4:=fM l m (fp l (dY l m));rw [h3,h2]at h4;rw [fM];grind
def InS (s:Spn) (t:Rat):Prop:=(s.nl=true∨s.lo<t)∧(s.nh=true∨t<s.hi)
theorem qy {x y:Rat}(h:x<y):x<mQ x y∧mQ x y<y:=by unfold mQ;grind
theorem lN {s:Spn}(h:j9 s=false):InS s (dp s):=by
 obtain⟨lo,hi,nl,nh⟩:=s;unfold j9 at h;unfold InS dp;cases nl <;> cases nh <;> simp only [jE,bE,aO,aV,bo,aS,kC,jw,gH,gJ]
 ·have h':lo<hi:=by
   have:¬0≤(lo-hi).num.sign:=kX h;rw [pf]at this;grind
  exact qy h'
 ·grind
 ·grind
theorem pd {s:Spn}{t:Rat}(h:InS s t):j9 s=false:=by
 unfold j9;cases h1:s.nl with
 |true=>rfl
 |false =>
  cases h2:s.nh with
  |true=>rfl
  |false =>
   obtain⟨a,b⟩:=h;rw [h1]at a;rw [h2]at b;have a:=a.resolve_left (by decide);have b:=b.resolve_left (by decide);have:¬0≤(s.lo-s.hi).num.sign:=by rw [pf];grind
   rw [aa this];rfl
theorem kZ {x k:Rat}(hk:0<k):0<x*k↔0<x:=by
 rw [eK];exact Rat.mul_pos_iff_of_pos_left hk
theorem E6 {l m:Li}(hl:l.ok) (h:gW l m≠0) (s:Spn) (t:Rat):InS (jL l m s) t↔InS s t∧0<af m (atL l t):=by
 rw [ud hl h];unfold jL;rw [Ii];generalize fp l (dY l m)=u;have hk:slp l m≠0:=fun e=>h (by rw [rZ,e];rfl)
 generalize slp l m=k at *;clear h;by_cases h0:0<k.num.sign
 ·rw [if_pos h0,kZ (eR.1 h0)];split
  ·rename_i h1;rw [eR]at h1;unfold InS;simp only;constructor
   ·rintro ⟨a,b⟩;have a:=a.resolve_left (by decide);refine⟨⟨?_,b⟩,by grind⟩;rcases h1 with h1|h1
    ·exact .inl h1
    ·right;grind
   ·rintro ⟨⟨a,b⟩,c⟩;exact⟨.inr (by grind),b⟩
  ·rename_i h1;rw [not_or,eR]at h1;constructor
   ·intro h;refine⟨h,?_⟩;have:=h.1.resolve_left h1.1;grind
   ·exact And.left
 ·rw [if_neg h0];rw [eR]at h0;have hk':0 < -k:=by grind
  have e:(t-u)*k=(u-t) * -k:=by grind
  rw [e,kZ hk'];split
  ·rename_i h1;rw [jk]at h1;unfold InS;simp only;constructor
   ·rintro ⟨a,b⟩;have b:=b.resolve_left (by decide);refine⟨⟨a,?_⟩,by grind⟩;rcases h1 with h1|h1
    ·exact .inl h1
    ·right;grind
   ·rintro ⟨⟨a,b⟩,c⟩;exact⟨a, .inr (by grind)⟩
  ·rename_i h1;rw [not_or,jk]at h1;constructor
   ·intro h;refine⟨h,?_⟩;have:=h.2.resolve_left h1.1;grind
   ·exact And.left
theorem Nv {l m:Li}(h:gW l m=0) (t:Rat):af m (atL l t)=af m (bX l):=by
 have:slp l m=0:=by rw [rZ]at h;grind
 rw [fM,this];grind
theorem pI {l:Li}(hl:l.ok) (i:Nat):∀(c:List Li) (k:Nat) (s:Spn),(∃t,InS s t)→c[i-k]? = some l∨i<k→
  ((jX l i k c s).2=true→(∀t,InS (jX l i k c s).1 t↔InS s t∧∀m∈c,m≠l→0<af m (atL l t))∧∃t,InS (jX l i k c s).1 t)∧
  ((jX l i k c s).2=false→∀t,InS s t→∃m∈c,m≠l∧af m (atL l t)≤0)
 | [],k,s,hs,_=>⟨fun _=>⟨fun t=>by simp [jX],hs⟩,fun h=>by cases h⟩
 |m::c,k,s,hs,hi=>by
  have hi':c[i-(k+1)]? = some l∨i<k+1:=by
   rcases hi with h|h
   ·by_cases e:i≤k
    ·exact .inr om
    ·left;rw [show i-k=i-(k+1)+1 by omega,gg]at h;exact h
   ·exact .inr om
  unfold jX;by_cases h0:k=i∨rF l m=0
  ·rw [if_pos h0]
   have hml:m=l:=by
    rcases h0 with h0|h0
    ·rcases hi with h|h
     ·rw [h0,iV]at h;simpa using h
     ·omega
    ·exact(lW.1 h0).symm
   obtain⟨a,b⟩:=pI hl i c (k+1) s hs hi';refine⟨fun h=>⟨fun t=>?_,(a h).2⟩,fun h t ht=>?_⟩
   ·rw [(a h).1 t];constructor
    ·rintro ⟨h1,h2⟩;refine⟨h1,fun m' hm' hne=>?_⟩;rcases ak.1 hm' with e|e
     ·exact absurd (e.trans hml) hne
     ·exact h2 m' e hne
    ·rintro ⟨h1,h2⟩;exact⟨h1,fun m' hm'=>h2 m' (Mc hm')⟩
   ·obtain⟨m',h1,h2⟩:=b h t ht;exact⟨m',Mc h1,h2⟩
  ·rw [if_neg h0];rw [not_or,lW]at h0;have hne:m≠l:=fun e=>h0.2 e.symm
   by_cases hd:gW l m=0
   ·rw [if_pos hd];have hv:=Nv hd;by_cases hsd:0<gR m (bX l)
    ·rw [if_pos hsd];have hsd':0<af m (bX l):=eR.1 hsd;obtain⟨a,b⟩:=pI hl i c (k+1) s hs hi';refine⟨fun h=>⟨fun t=>?_,(a h).2⟩,fun h t ht=>?_⟩
     ·rw [(a h).1 t];constructor
      ·rintro ⟨h1,h2⟩;refine⟨h1,fun m' hm' hne=>?_⟩;rcases ak.1 hm' with e|e
       ·rw [e,hv];exact hsd'
       ·exact h2 m' e hne
      ·rintro ⟨h1,h2⟩;exact⟨h1,fun m' hm'=>h2 m' (Mc hm')⟩
     ·obtain⟨m',h1,h2⟩:=b h t ht;exact⟨m',Mc h1,h2⟩
    ·rw [if_neg hsd];refine⟨fun h=>(by cases h),fun _ t _=>⟨m,Ms,hne,?_⟩⟩;rw [hv];exact ig.1 fun k=>hsd (eR.2 k)
   ·rw [if_neg hd];have hst:=E6 hl hd s;cases hb:j9 (jL l m s)with
    |true =>
     rw [if_pos rfl];refine⟨fun h=>(by cases h),fun _ t ht=>⟨m,Ms,hne,ig.1 fun k=>?_⟩⟩;rw [pd ((hst t).2 ⟨ht,k⟩)]at hb;cases hb
    |false =>
     rw [if_neg (by decide)];obtain⟨a,b⟩:=pI hl i c (k+1) (jL l m s) ⟨_,lN hb⟩ hi';refine⟨fun h=>⟨fun t=>?_,(a h).2⟩,fun h t ht=>?_⟩
     ·rw [(a h).1 t,hst];constructor
      ·rintro ⟨⟨h1,h3⟩,h2⟩;refine⟨h1,fun m' hm' hne=>?_⟩;rcases ak.1 hm' with e|e
       ·rw [e];exact h3
       ·exact h2 m' e hne
      ·rintro ⟨h1,h2⟩;exact⟨⟨h1,h2 m cL hne⟩,fun m' hm'=>h2 m' (Mc hm')⟩
     ·by_cases hm:0<af m (atL l t)
      ·obtain⟨m',h1,h2⟩:=b h t ((hst t).2 ⟨ht,hm⟩);exact⟨m',Mc h1,h2⟩
      ·exact⟨m,Ms,hne,ig.1 hm⟩
theorem HH {c:List Li}{i:Nat}{l:Li}(hl:l.ok) (hi:c[i]? = some l) (h:(eU c i).2=true):(∀t,InS (eU c i).1 t↔∀m∈c,m≠l→0<af m (atL l t))∧∃t,InS (eU c i).1 t:=by
 have e:c.getD i ⟨0,0,0⟩=l:=by rw [cR,hi];rfl
 unfold eU at h⊢;rw [e]at h⊢;obtain⟨a,b⟩:=(pI hl i c 0 Spn.full ⟨0, .inl rfl, .inl rfl⟩ (.inl (by rw [Nat.sub_zero];exact hi))).1 h;exact⟨fun t=>(a t).trans ⟨fun h=>h.2,fun h=>⟨⟨.inl rfl, .inl rfl⟩,h⟩⟩,b⟩
theorem wc {c:List Li}{i:Nat}{l:Li}(hl:l.ok) (hi:c[i]? = some l):(eU c i).2=true↔Edg c l:=by
 constructor
 ·intro h;obtain⟨a,t,b⟩:=HH hl hi h;exact⟨atL l t,sN hl t,(a t).1 b⟩
 ·rintro ⟨r,h1,h2⟩;cases h:(eU c i).2 with
  |true=>rfl
  |false =>
   have e:c.getD i ⟨0,0,0⟩=l:=by rw [cR,hi];rfl
   unfold eU at h;rw [e]at h;obtain⟨m,hm,hne,hv⟩:=(pI hl i c 0 Spn.full ⟨0, .inl rfl, .inl rfl⟩ (.inl (by rw [Nat.sub_zero];exact hi))).2 h (fp l r) ⟨.inl rfl, .inl rfl⟩;rw [zx hl h1]at hv;exact absurd (h2 m hm hne) (ig.2 hv)
theorem AL (v:Pq):qQ v=if v.1.num.sign=0∧v.2.num.sign=0 then 0 else if 0<v.2.num.sign∨v.2.num.sign=0∧0<v.1.num.sign then 1 else 2:=by
 unfold qQ;simp only [e7,eR]
section
variable {P:Program}{C:Ctx}{n:Nat}{F F' F0 Fe:Fr}{H:LH}{ops:Array Oper}{Q:Exit→Fr→LH→Prop}{rs:List Nat}{Hc:LH}{E:Nat→LH}
def vj (ops:Array Oper) (k t:Nat):Bool:=(List.range k).any fun j=>et ops j==some t
def kf (ops:Array Oper) (listed:Array Bool) (t:Nat):Bool:=(List.range ops.size).any fun j=>listed.getD j false&&et ops j==some t
def pz (B:Nat→Bool) (Fe F0:Fr):Fr:=fun t=>bif B t then Fe t else F0 t
def Ay (ops:Array Oper) (rs:List Nat):Bool :=
 ((List.range ops.size).all fun i=>lY ops i) &&
 ((List.range ops.size).all fun i=>(List.range i).all fun j=>(et ops j).isNone || !(et ops i==et ops j)) &&
 ((List.range ops.size).all fun i=>(List.range ops.size).all fun j=>match et ops j with
  |some d => !dJ ops i d||(bif Nat.blt j i then da ops i j else(Nat.beq i j||da ops j i))
  |none=>true) &&
 ((List.range rs.length).all fun t=>Nat.blt (rs.getD t 0) ops.size&&(List.range t).all fun u=>da ops (rs.getD t 0) (rs.getD u 0)&&Nat.blt (rs.getD u 0) (rs.getD t 0))
inductive Mx (P:Program) (C:Ctx) (n:Nat) (ops:Array Oper) (rs:List Nat) (Hc:LH) (E:Nat→LH):Nat→Nat→List Oper→Fr→Fr→Prop
 |nil {i s:Nat}(F:Fr):Mx P C n ops rs Hc E i s [] F F
 |free {i s d:Nat}{o:Oper}{sv:SV}{r:List Oper}{F F':Fr}(hr:rs.contains i=false) (hd:o.dst=some d) (hdn:Nat.blt d n=true) (hds:DS P ops n Hc o F sv) (h:Mx P C n ops rs Hc E (i+1) s r (upd F d sv) F'):Mx P C n ops rs Hc E i s (o::r) F F'
 |row {i s:Nat}{o:Oper}{sv:SV}{r:List Oper}{F F':Fr}(hr:rs[s]? = some i) (hts:TS P C n ops i o F (E s++Hc) sv (E (s+1)++Hc)) (h:Mx P C n ops rs Hc E (i+1) (s+1) r (ib o F sv) F'):Mx P C n ops rs Hc E i s (o::r) F F'
def Vld (P:Program) (C:Ctx) (n:Nat) (ops:Array Oper) (rs:List Nat) (Hc:LH) (E:Nat→LH) (F0 Fe:Fr) (k:Nat):Prop:=∃o,ops[k]? = some o∧∃Fk:Fr,(∀t,Fk t=pz (vj ops k) Fe F0 t)∧
  ((rs.contains k=false∧∃d,o.dst=some d∧Nat.blt d n=true∧DS P ops n Hc o Fk (Fe d))∨
   ∃s sv,rs[s]? = some k∧(∀d,o.dst=some d→sv=Fe d)∧TS P C n ops k o Fk (E s++Hc) sv (E (s+1)++Hc))
theorem Mx.keep {i s:Nat}{l:List Oper}(h:Mx P C n ops rs Hc E i s l F F'):∀t,(∀o∈l,o.dst≠some t)→F' t=F t:=by
 induction h with
 |nil=>intro t _;rfl
 |free _ hd _ _ _ ih =>
  intro t ht;rw [ih t fun o ho=>ht o (by simp [ho])];exact bz fun e=>ht _ cL (by rw [hd,e])
 | @row i s o sv r F F' _ _ _ ih =>
  intro t ht;rw [ih t fun o ho=>ht o (by simp [ho])];unfold ib;cases hd:o.dst with
  |none=>rfl
  |some d=>exact bz fun e=>ht o (by simp) (by rw [hd,e])
theorem B7 (k t:Nat):vj ops (k+1) t=(vj ops k t||et ops k==some t):=by
 unfold vj;rw [iU,pS];simp
theorem tL (h:Ay ops rs=true):(∀i,i<ops.size→lY ops i=true)∧(∀i j d,i<ops.size→j<i→et ops j=some d→et ops i≠some d)∧
  (∀i j d,i<ops.size→j<ops.size→et ops j=some d→dJ ops i d=true→(j<i→da ops i j=true)∧(i<j→da ops j i=true))∧
  ∀(t k:Nat),rs[t]? = some k→k<ops.size∧∀(u:Nat) (k':Nat),u<t→rs[u]? = some k'→da ops k k'=true∧k'<k:=by
 simp only [Ay,bG,fQ,dE,bO,ay]at h;obtain⟨⟨⟨h1,h2⟩,h3⟩,h4⟩:=h;refine⟨h1,fun i j d hi hj hd he=>?_,fun i j d hi hj hd hl=>?_,fun t k hk=>?_⟩
 ·rcases h2 i hi j hj with h|h
  ·rw [hd]at h;cases h
  ·rw [hd,he]at h;simp at h
 ·have:=h3 i hi j hj;rw [hd]at this;simp only [hl,kU,aW]at this;refine⟨fun hji=>?_,fun hij=>?_⟩
  ·rw [show Nat.blt j i=true from by simpa using hji]at this;exact this
  ·rw [show Nat.blt j i=false from by
    cases hb:Nat.blt j i with
    |false=>rfl
    |true=>have:=ay.mp hb;omega]at this
   simp only [kK,bO]at this;rcases this with h|h
   ·have:=bA h;omega
   ·exact h
 ·have ht:=(bI.1 hk).1;have gk:rs.getD t 0=k:=by simp [List.getD,hk]
  obtain⟨g1,g2⟩:=h4 t ht;rw [gk]at g1 g2;refine⟨g1,fun u k' hu hk'=>?_⟩;have gk':rs.getD u 0=k':=by simp [List.getD,hk']
  have:=g2 u hu;rw [gk']at this;exact this
theorem dq {i:Nat}{o:Oper}(h:ops[i]? = some o):et ops i=o.dst:=by unfold et;rw [h]
theorem Mx.vld (hchk:Ay ops rs=true){i s:Nat}{l:List Oper}(h:Mx P C n ops rs Hc E i s l F Fe):l=ops.toList.drop i→(∀t,F t=pz (vj ops i) Fe F0 t)→∀k,i≤k→k<ops.size→Vld P C n ops rs Hc E F0 Fe k:=by
 obtain⟨_,hdis,_,_⟩:=tL hchk;induction h with
 |nil =>
  intro hl _ k hik hk;have:=congrArg List.length hl;simp at this;omega
 | @free i s d o sv r F F' hr hd hdn hds h ih =>
  intro hl hF k hik hk
  have ho:ops[i]? = some o:=by
   have:=congrArg (·[0]?) hl;simpa using this.symm
  have hr':r=ops.toList.drop (i+1):=by
   have:=congrArg List.tail hl;simpa using this
  have hsv:F' d=sv:=by
   rw [h.keep d fun o' ho'=>?_]
   ·exact bS
   ·rw [hr']at ho';obtain⟨j,hj,rfl⟩:=kB.1 ho';simp only [cO,aN]at hj;simp only [sY,Array.getElem_toList];have:=hdis (i+1+j) i d om om (by rw [dq ho,hd]);rwa [dq (o:=ops[i+1+j]) (by simp)]at this
  rcases aJ i k with hlt|hge
  ·refine ih hr' (fun t=>?_) k om hk;unfold pz;rw [B7,dq ho,hd];by_cases ht:t=d
   ·subst ht;rw [bS,hsv];simp
   ·rw [bz ht,hF t];unfold pz;have:(some d==some t)=false:=by simpa using fun e=>ht e.symm
    rw [this,aQ]
  ·obtain rfl:k=i:=by omega
   exact⟨o,ho,F,hF, .inl ⟨hr,d,hd,hdn,hsv▸hds⟩⟩
 | @row i s o sv r F F' hr hts h ih =>
  intro hl hF k hik hk
  have ho:ops[i]? = some o:=by
   have:=congrArg (·[0]?) hl;simpa using this.symm
  have hr':r=ops.toList.drop (i+1):=by
   have:=congrArg List.tail hl;simpa using this
  have hsv:∀d,o.dst=some d→F' d=sv:=fun d hd=>by
   rw [h.keep d fun o' ho'=>?_]
   ·unfold ib;rw [hd];exact bS
   ·rw [hr']at ho';obtain⟨j,hj,rfl⟩:=kB.1 ho';simp only [cO,aN]at hj;simp only [sY,Array.getElem_toList];have:=hdis (i+1+j) i d om om (by rw [dq ho,hd]);rwa [dq (o:=ops[i+1+j]) (by simp)]at this
  rcases aJ i k with hlt|hge
  ·refine ih hr' (fun t=>?_) k om hk;unfold pz ib;rw [B7,dq ho];cases hd:o.dst with
   |none =>
    simp only;rw [hF t];unfold pz;simp
   |some d =>
    by_cases ht:t=d
    ·subst ht;simp only [bS];rw [hsv _ hd];simp
    ·simp only [bz ht];rw [hF t];unfold pz;have:(some d==some t)=false:=by simpa using fun e=>ht e.symm
     rw [this,aQ]
  ·obtain rfl:k=i:=by omega
   exact⟨o,ho,F,hF, .inr ⟨s,sv,hr,fun d hd=>(hsv d hd).symm,hts⟩⟩
theorem pC {listed:Array Bool}{i t:Nat}{o:Oper}(hs:listed.size=ops.size) (ho:ops[i]? = some o):kf ops (listed.setIfInBounds i true) t=(kf ops listed t||o.dst==some t):=by
 have hio:=(dt.1 ho).1
 have key:∀j,j<ops.size→((listed.setIfInBounds i true).getD j false=(listed.getD j false||Nat.beq j i)):=fun j hj=>by
  by_cases hji:i=j
  ·subst hji;simp [hs,hio]
  ·rw [getD_set_ne false hji]
   have:Nat.beq j i=false:=by
    cases hb:Nat.beq j i with
    |false=>rfl
    |true=>exact absurd (bA hb).symm hji
   rw [this,aQ]
 rw [kA];unfold kf;simp only [lz,dE,bG,bO];constructor
 ·rintro ⟨j,hj,h1,h2⟩;rw [key j hj,bO]at h1;rcases h1 with h1|h1
  ·exact .inl ⟨j,hj,h1,h2⟩
  ·have:=bA h1;subst this;rw [dq ho]at h2;exact .inr h2
 ·rintro (⟨j,hj,h1,h2⟩|h2)
  ·exact⟨j,hj,by rw [key j hj,h1];rfl,h2⟩
  ·exact⟨i,hio,by rw [key i hio,cY];simp,by rw [dq ho];exact h2⟩
theorem yZ {i j:Nat}{listed:Array Bool}(hcl:jZ ops listed) (hi:listed.getD i false=true) (he:da ops i j=true):listed.getD j false=true:=by
 have on:∀(k S:Nat),(∀j,S.testBit j=true→listed.getD j false=true)→∀j,(JC ops k S).testBit j=true→listed.getD j false=true:=by
  intro k;induction k with
  |zero=>intro S hS j h;exact hS j h
  |succ k ih =>
   intro S hS j h;unfold JC at h;refine ih _ (fun j h=>?_) j h;cases hb:S.testBit k with
   |false=>rw [hb]at h;exact hS j h
   |true =>
    rw [hb]at h;simp only [iB,tv,bO]at h;rcases h with h|h
    ·exact hS j h
    ·exact hcl k j (hS k hb) (qK h)
 exact on i _ (fun j h=>hcl i j hi (qK h)) j he
theorem Rp {Q':Exit→Act→World→Prop}(hchk:Ay ops rs=true) (hv:∀k,k<ops.size→Vld P C n ops rs Hc E F0 Fe k) (hF0:∀t,vj ops ops.size t=false→Fe t=F0 t)
  (fin:∀a w,St C n Fe (E rs.length++Hc) a w→Q' .normal a w) :
  ∀(fuel s:Nat) (listed:Array Bool) (a:Act) (w:World),s≤rs.length→(left ops ops.size listed).length≤fuel→listed.size=ops.size→jZ ops listed→
   (∀(u:Nat) (k:Nat),rs[u]? = some k→(listed.getD k true=true↔u<s))→St C n (pz (kf ops listed) Fe F0) (E s++Hc) a w→wpAny P .any ops Q' fuel listed a w:=by
 obtain⟨hback,hdis,hlook,hrow⟩:=tL hchk
 have done:∀(s:Nat) (listed:Array Bool) (a:Act) (w:World),s≤rs.length→left ops ops.size listed=[]→listed.size=ops.size→
   (∀(u:Nat) (k:Nat),rs[u]? = some k→(listed.getD k true=true↔u<s))→St C n (pz (kf ops listed) Fe F0) (E s++Hc) a w→Q' .normal a w:=by
  intro s listed a w hsr hnil hs hr hst
  have all:∀j,j<ops.size→listed.getD j true=true:=fun j hj=>by
   cases hb:listed.getD j true with
   |true=>rfl
   |false =>
    have:(j,ops[j])∈left ops ops.size listed:=cq.2 ⟨hj,by simp,hb⟩;rw [hnil]at this;cases this
  have hs':s=rs.length:=by
   rcases aJ s rs.length with h|h
   ·exfalso;have h1:rs[s]? = some rs[s]:=by simp [h]
    have h2:=(hrow s _ h1).1;have:=(hr s _ h1).1 (all _ h2);omega
   ·omega
  subst hs';refine fin a w (hst.le fun t=>Le.of_eq ?_);unfold pz
  have hb:kf ops listed t=vj ops ops.size t:=by
   rw [kA];unfold kf vj;simp only [lz,dE,bG];constructor
   ·rintro ⟨j,h1,_,h3⟩;exact⟨j,h1,h3⟩
   ·rintro ⟨j,h1,h3⟩;refine⟨j,h1,?_,h3⟩;have:=all j h1;have hsz:j<listed.size:=by omega
    simp [hsz]at this⊢;exact this
  rw [hb];cases h:vj ops ops.size t with
  |true=>rfl
  |false=>exact(hF0 t h).symm
 have noready:∀(listed:Array Bool),listed.size=ops.size→Region.ready .any ops listed=[]→left ops ops.size listed=[]:=fun listed hs hr=>by
  cases hl:left ops ops.size listed with
  |nil=>rfl
  |cons x l' =>
   exfalso;obtain⟨i,o⟩:=x;have hmem:(i,o)∈left ops ops.size listed:=by rw [hl];simp
   obtain⟨h1,h2,h3⟩:=cq.1 hmem;simp only at h1 h2 h3
   have hready:i∈Region.ready .any ops listed:=by
    rw [mem_ready];refine⟨h3,o,h2,fun e he hb=>?_⟩;have hlt:=jT (hback i h1) h2 e he hb;cases hle:listed.getD e.on false with
    |true=>rfl
    |false =>
     have hsz:e.on<listed.size:=by omega
     have h4:listed.getD e.on true=false:=by simp [hsz]at hle⊢;exact hle
     have hm2:(e.on,ops[e.on]' om)∈left ops ops.size listed:=cq.2 ⟨by simp only;omega,by simp,h4⟩;have hsort:=fO (ops:=ops) ops.size listed;rw [hl]at hsort hm2;rcases ak.1 hm2 with h|h
     ·simp only [cP]at h;omega
     ·have:=(eC.1 hsort).1 _ h;simp at this;omega
   rw [hr]at hready;cases hready
 intro fuel;induction fuel with
 |zero =>
  intro s listed a w hsr hfu hs hcl hr hst;have hnil:=cT (Nat.le_zero.1 hfu);refine⟨?_,done s listed a w hsr hnil hs hr hst⟩;cases hrd:Region.ready .any ops listed with
  |nil=>rfl
  |cons i l =>
   exfalso;have hi:i∈Region.ready .any ops listed:=by rw [hrd];simp
   obtain⟨hun,o,ho,_⟩:=mem_ready.1 hi;have:(i,o)∈left ops ops.size listed:=cq.2 ⟨(dt.1 ho).1,ho,hun⟩;rw [hnil]at this;cases this
 |succ fuel ih =>
  intro s listed a w hsr hfu hs hcl hr hst;refine⟨fun hrd=>done s listed a w hsr (noready listed hs hrd) hs hr hst,fun i hi=>?_⟩;obtain⟨hun,o,ho,_⟩:=mem_ready.1 hi;have hio:=(dt.1 ho).1;have hmem:(i,o)∈left ops ops.size listed:=cq.2 ⟨hio,ho,hun⟩;obtain⟨l1,l2,hl12⟩:=dA hmem;have hset:=pD hs hio hl12;have hlen:(l1++l2).length+1=(left ops ops.size listed).length:=by rw [hl12];simp;omega
  obtain⟨o',ho',Fk,hFk,hcase⟩:=hv i hio;rw [ho]at ho';obtain rfl:=bZ ho'
  have hlooks:∀t∈o.looksAt ops,Fk t=pz (kf ops listed) Fe F0 t:=fun t ht=>by
   rw [hFk t];unfold pz;have hlk:dJ ops i t=true:=by unfold dJ;rw [ho];simpa using ht
   have:vj ops i t=kf ops listed t:=by
    rw [kA];unfold kf vj;simp only [lz,dE,bG];constructor
    ·rintro ⟨j,h1,h2⟩;have h2':et ops j=some t:=by simpa using h2
     exact⟨j,om,bV hcl hi ((hlook i j t hio om h2' hlk).1 h1),h2⟩
    ·rintro ⟨j,h1,h2,h3⟩;have h3':et ops j=some t:=by simpa using h3
     refine⟨j,?_,h3⟩;rcases gQ j i with h|h|h
     ·exact h
     ·exfalso;subst h;rw [ee hs h1 h2]at hun;cases hun
     ·exfalso;have he:=(hlook i j t hio h1 h3' hlk).2 h;have:=ee hs hio (yZ hcl h2 he);rw [this]at hun;cases hun
   rw [this]
  have hmix:∀d,o.dst=some d→upd (pz (kf ops listed) Fe F0) d (Fe d)=pz (kf ops (listed.setIfInBounds i true)) Fe F0:=fun d hd=>by
   funext t
   unfold pz;rw [pC hs ho,hd];by_cases ht:t=d
   ·subst ht;rw [bS];simp
   ·rw [bz ht];have:(some d==some t)=false:=by simpa using fun e=>ht e.symm
    rw [this,aQ]
  have hmix0:o.dst=none→pz (kf ops listed) Fe F0=pz (kf ops (listed.setIfInBounds i true)) Fe F0:=fun hd=>by
   funext t
   unfold pz;rw [pC hs ho,hd];simp
  rcases hcase with⟨hnr,d,hd,hdn,hds⟩|⟨u,sv,hu,hsv,hts⟩
  ·have hds':=hds.frame hlooks;obtain⟨hdef,hn,m,h1,h2,h3,h4,h5⟩:=hst;refine hds'.wp ho hd hn h1 h2.tail h5 fun v m' w' hv' hm' hH' r=>?_
   refine ih s _ _ _ hsr (by rw [hset];omega) (by simpa using hs) (hcl.step hi) (fun u k hk=>?_) ?_
   ·have hki:i≠k:=fun e=>by
     have:rs.contains i=true:=by rw [e];exact fv.2 (bn hk)
     rw [hnr]at this;cases this
    rw [getD_set_ne true hki];exact hr u k hk
   ·rw [←hmix d hd];exact St.put (ay.mp hdn) hdef hn h2 h3 h4 h5 hv' hm' (h2.beside hH' r) (r.mono fun b hb=>by unfold keys at *;rw [aH];exact cN _ hb)
  ·have hus:u=s:=by
    rcases gQ u s with h|h|h
    ·exfalso;have:=(hr u i hu).2 h;rw [hun]at this;cases this
    ·exact h
    ·exfalso;have hul:=(bI.1 hu).1;have h1:rs[s]? = some (rs[s]' om):=by simp
     have h2:=((hrow u i hu).2 s _ h h1).1;have h3:=ee hs (hrow s _ h1).1 (bV hcl hi h2);have:=(hr s _ h1).1 h3;omega
   subst hus;have hul:=(bI.1 hu).1;refine hts _ hlooks a w hst Q' _ fun a' w' hst'=>?_
   refine ih (u+1) _ _ _ hul (by rw [hset];omega) (by simpa using hs) (hcl.step hi) (fun x k hk=>?_) ?_
   ·by_cases hki:i=k
    ·subst hki
     have hx:x=u:=by
      rcases gQ x u with h|h|h
      ·have:=((hrow u i hu).2 x _ h hk).2;omega
      ·exact h
      ·have:=((hrow x i hk).2 u _ h hu).2;omega
     subst hx;simp [hs,hio]
    ·rw [getD_set_ne true hki,hr x k hk];constructor
     ·intro h;omega
     ·intro h;rcases aJ x u with h'|h'
      ·exact h'
      ·exfalso;have:x=u:=by omega
       subst this;rw [hu]at hk;exact hki (bZ hk)
   ·unfold ib at hst';cases hd:o.dst with
    |none=>rw [hd]at hst';rw [←hmix0 hd];exact hst'
    |some d =>
     rw [hd]at hst';simp only at hst';rw [hsv d hd]at hst';rw [←hmix d hd];exact hst'
attribute [local semireducible] WP WPL Dk PuH
def Mk (P:Program) (C:Ctx) (n:Nat) (ops:Array Oper) (rs:List Nat) (Hc:LH) (E:Nat→LH) (i s:Nat) (l:List Oper) (K:Fr→Prop) (F:Fr):Prop:=∃Fe,Mx P C n ops rs Hc E i s l F Fe∧K Fe
theorem WdM {id:Nat}{l:List Oper}(rs:List Nat) (Hc:LH) (E:Nat→LH) (h:Mk P C n l.toArray rs Hc E 0 0 l (fun Fe=>Q .normal Fe (E rs.length++Hc)) F) (h0:E 0++Hc=H:=by exact rfl) (hm:P.follows .mixedOrders=true:=by kernel_rfl) (hchk:Ay l.toArray rs=true:=by decide +kernel) :
  WP P C n (.region id l.toArray true) Q F H:=by
 obtain⟨Fe,hx,hQ⟩:=h;intro a w hs;subst h0;refine wp_region_any hm ?_;refine Rp (C:=C) (n:=n) (F0:=F) (Fe:=Fe) (rs:=rs) (Hc:=Hc) (E:=E) hchk (fun k hk=>hx.vld hchk (by simp) (fun t=>by simp [pz,vj]) k (an _) hk) (fun t ht=>hx.keep t fun o ho e=>?_) (fun a' w' hst => .mk hst hQ) l.toArray.size 0 _ a _ (an _) ?_ (by simp) (fun m j hm=>by by_cases hlt:m<l.length <;> simp [hlt]at hm) (fun u k hk=>?_) ?_
 ·obtain⟨j,hj,rfl⟩:=kB.1 ho
  have:vj l.toArray l.toArray.size t=true:=by
   unfold vj;rw [lz];exact⟨j,by simpa using hj,by rw [dq (o:=l[j]) (by simp [hj]),e];simp⟩
  rw [ht]at this;cases this
 ·unfold left;refine aU (lK _ _) ?_;simp
 ·have hkl:=((tL hchk).2.2.2 u k hk).1;have hkl':k<l.length:=by simpa using hkl
  simp [hkl']
 ·obtain⟨hdef,hn,m,h1,h2,h3,h4,h5⟩:=hs;refine⟨hdef,hn,m,⟨h1.at',h1.base⟩,⟨h2.1,h2.2⟩,h3.drw,h4,fun t=>?_⟩
  have:kf l.toArray (Array.replicate l.toArray.size false) t=false:=by
   unfold kf;rw [List.any_eq_false];intro j hj;have hj':j<l.length:=by simpa using hj
   simp [hj']
  unfold pz;rw [this];exact h5 t
section
variable {l:List Oper}{K:Fr→Prop}{i s:Nat}
theorem MkN (h:K F):Mk P C n ops rs Hc E i s [] K F:=⟨F, .nil F,h⟩
def Hw (rs:List Nat) (i k:Nat):Bool:=(List.range k).all fun j => !rs.contains (i+j)
def mkD (P:Program) (C:Ctx) (n:Nat) (ops:Array Oper) (rs:List Nat) (Hc:LH) (E:Nat→LH) (i s:Nat) (l:List Oper) (K:Fr→Prop):List NW→Fr→Prop:=fun N F=>N=[]∧Mk P C n ops rs Hc E i s l K F
theorem zL (h:Mk P C n ops rs Hc E i s l K F):mkD P C n ops rs Hc E i s l K [] F:=⟨rfl,h⟩
theorem Dr.mx {s:Nat}{Fe:Fr}:∀(k:Nat) (l:List Oper) (i:Nat) (F F':Fr),Hw rs i k=true→k≤l.length→Dr P ops n Hc (qU i k l) [] F F'→Mx P C n ops rs Hc E (i+k) s (l.drop k) F' Fe→Mx P C n ops rs Hc E i s l F Fe
 |0,l,i,F,F',_,_,h,hx=>by
  cases h;simpa using hx
 |k+1,[],i,F,F',_,hk,_,_=>by simp at hk
 |k+1,o::l,i,F,F',hf,hk,h,hx=>by
  have hfi:rs.contains i=false∧Hw rs (i+1) k=true:=by
   unfold Hw at hf⊢;simp only [fQ,dE,fw]at hf⊢;refine⟨by simpa using hf 0 om,fun j hj=>?_⟩;have:=hf (j+1) om;rwa [show i+(j+1)=i+1+j from by omega]at this
  unfold qU at h;cases h with
  |val hd hds hdn h =>
   exact .free hfi.1 hd hdn hds (Dr.mx k l (i+1) _ _ hfi.2 (by simpa using hk) h (by rw [show i+1+k=i+(k+1)from by omega];simpa using hx))
theorem MkD (k:Nat) (h:Dk P ops n Hc (qU i k l) (mkD P C n ops rs Hc E (i+k) s (l.drop k) K) F) (hf:Hw rs i k=true:=by exact rfl) (hk:Nat.ble k l.length=true:=by exact rfl):Mk P C n ops rs Hc E i s l K F:=by
 obtain⟨N,F',h1,rfl,Fe,hx,hK⟩:=h;exact⟨Fe,Dr.mx k l i F F' hf (gY hk) h1 hx,hK⟩
theorem MkR {o:Oper}{sv:SV}(hts:TS P C n ops i o F (E s++Hc) sv (E (s+1)++Hc)) (h:Mk P C n ops rs Hc E (i+1) (s+1) l K (ib o F sv)) (hr:rs[s]? = some i:=by exact rfl):Mk P C n ops rs Hc E i s (o::l) K F:=by
 obtain⟨Fe,hx,hK⟩:=h;exact⟨Fe, .row hr hts hx,hK⟩
theorem Co {o:Oper}{a:Act}{w:World}{K':Act→World→Prop}{Q1 Q2:Exit→Act→World→Prop}(h:o.wp P a w K' Q1) (hp:∀ch a w,Q1 (.panic ch) a w→Q2 (.panic ch) a w) (ho:∀a w,Q1 .outgrown a w→Q2 .outgrown a w):o.wp P a w K' Q2:=by
 unfold Oper.wp at *;generalize(execOp a.eval o).run P w=r at *;unfold Oper.upon at *;split at h
 ·exact h
 ·exact h
 ·exact h
 ·refine Calls.mono h ?_;intro e w'' he;cases e with
  |returned v=>exact he
  |panicked ch=>exact hp _ _ _ he
  |outgrown=>obtain⟨a0,w0,h0⟩:=he;exact⟨a0,w0,ho _ _ h0⟩
 ·exact h
 ·exact hp _ _ _ h
 ·exact h.elim
end
end
@[irreducible] def xsl (cs:List SV) (k:Nat):SV:=⟨fun m v=>∃a,v = .slice a k k∧k≤maxLen∧(a=none→k=0)∧(cs=[]∨∃b off,a=some ⟨b,off,none⟩∧ie m b off cs),
 fun h ⟨a,e,x,y,k⟩=>⟨a,e,x,y,k.imp id fun⟨b,off,e,k⟩=>⟨b,off,e,k.mono h⟩⟩⟩
section
variable {P:Program}{C:Ctx}{n:Nat}{F:Fr}{H:LH}{ty:TypeId}
theorem GF {m:Mem}{w w':World}{arr:Array Value}{e:TypeId}(h1:dD m w) (hw:w'=w.alloc (.cells arr e)∨w'=w.drew.alloc (.cells arr e)) :
  ∃m',dD m' w'∧Rel [] m w m' w'∧m' w.heap.size=some (.cells arr e (0,0)):=by
 have hnone:m w.heap.size=none:=by
  cases hmm:m w.heap.size with
  |none=>rfl
  |some o=>have:=h1 _ _ hmm;rw [n6 (au _)]at this;cases this
 have hsize:w'.heap.size=w.heap.size+1:=by rcases hw with rfl|rfl <;> exact World.size_alloc ..
 have hold:∀b,b<w.heap.size→w'.heap[b]? = w.heap[b]?:=by
  rcases hw with rfl|rfl
  ·exact fun b hb=>@heap_alloc_old w _ b hb
  ·exact fun b hb=>@heap_alloc_old w.drew _ b hb
 have hnew:w'.heap[w.heap.size]? = some (.cells arr e (0,0)):=by
  rcases hw with rfl|rfl
  ·exact heap_alloc_new w _
  ·exact heap_alloc_new w.drew _
 have hos:w'.os=w.os∧w'.tape=w.tape∧w'.output=w.output∧w.drawn≤w'.drawn:=by
  rcases hw with rfl|rfl
  ·exact⟨rfl,rfl,rfl,au _⟩
  ·exact⟨rfl,rfl,rfl,np _⟩
 have hle:m.le fun b=>if b=w.heap.size then some (.cells arr e (0,0))else m b:=fun b o hb=>by
  have:b≠w.heap.size:=fun e=>by rw [e,hnone]at hb;cases hb
  simp only [if_neg this];exact hb
 refine⟨fun b=>if b=w.heap.size then some (.cells arr e (0,0))else m b,⟨fun b o hb=>?_,Mem.le_trans h1.base hle⟩,⟨hle,fun b hb _=>?_,hos.1,hos.2.1,hos.2.2,om,fun b hb _=>hold b hb⟩,by simp⟩
 ·by_cases hbe:b=w.heap.size
  ·subst hbe;simp only [aV]at hb;obtain rfl:=bZ hb;exact hnew
  ·simp only [if_neg hbe]at hb;have:=h1 b o hb;rw [hold b (dt.1 this).1];exact this
 ·simp only [if_neg (Nat.ne_of_lt hb)]
theorem OpV.pubN {op:Op}{T:TypeId}{z:List SV}{mk:Nat→Value}{sv:SV}(hn:rM P op F T z mk) (hsv:∀(m:Mem) (b:Nat) (arr:Array Value),m b=some (.cells arr T (0,0))→bk m z arr.toList→sv.p m (mk b)):OpV P op ty F H sv:=by
 refine OpV.of0 ?_;intro m w o a ho hty h1 h2 h3 K Q hK;obtain⟨arr,hrun,hall⟩:=hn w o a ho ⟨m,h3⟩;obtain⟨m',g1,g2,g3⟩:=GF (w':=w.alloc (.cells arr T)) h1 (.inl rfl);unfold Oper.wp;rw [hrun];exact hK _ m' _ (hsv m' _ arr g3 ((hall m h3).mono g2.le)) g1 g2
theorem Ko {m:Mem}{b k:Nat}{arr:Array Value}{T:TypeId}{cs:List SV}(hb:m b=some (.cells arr T (0,0))) (h:bk m cs arr.toList) (hk:k≤maxLen):(sl cs k).p m (.slice (some ⟨b,0,none⟩) k k) :=
 jq (au _) hk (.inr ⟨b,0,rfl,arr,T,(0,0),hb,by rw [bD,←h.length,aP];exact h⟩)
theorem ni {P:Program}{w:World}{v:Value}(l u:Nat){ki:IntKind}(code:BoundsCode) (hy:v = .int ki l) (hle:l≤u):(Instr.sliceBound v u code).run P w = .ok l w:=by
 have h1:(l:Int)≤(u:Int):=by omega
 subst hy;simp [Instr.sliceBound,asIntOf,h1]
theorem i5:Le (lit (.slice none 0 0)) (sl [] 0):=fun m v h=>by
 rw [ap]at h;subst h;exact jq (au _) (an _) (.inl rfl)
end
end Go.Ab
