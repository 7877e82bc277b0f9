/- Texts laid one behind the other: Set, CvxI, CvxR. -/
import Derived.Test.YtjopjomoejfehaaGreatDoorB20
set_option linter.all false
namespace Go.Ab
open Go.Proofs
variable [Base]
def oV (l:List Spn) (t:Rat):Prop:=∃s∈l,InS s t
def Bef (a b:Spn):Prop:=a.nh=false∧b.nl=false∧a.hi<b.lo
structure SpG (s:Spn):Prop where
 lo:s.nl=true→s.lo=0
 hi:s.nh=true→s.hi=0
 lt:s.nl=false→s.nh=false→s.lo<s.hi
structure mH (l:List Spn):Prop where
 g:∀s∈l,SpG s
 p:l.Pairwise Bef
theorem Ht (E:List Rat):∀{x y:Rat},x<y→∃t,x<t∧t<y∧t∉E:=by
 induction E with
 |nil=>exact fun {x y} h=>⟨mO x y,(qq h).1,(qq h).2,by simp⟩
 |cons e E ih =>
  intro x y h;by_cases he:x<e∧e<y
  ·obtain⟨t,h1,h2,h3⟩:=ih he.1;exact⟨t,h1,by grind,by simp only [an,not_or];exact⟨by grind,h3⟩⟩
  ·obtain⟨t,h1,h2,h3⟩:=ih h;exact⟨t,h1,h2,by simp only [an,not_or];exact⟨fun k=>he (k▸⟨h1,h2⟩),h3⟩⟩
theorem SpG.some {s:Spn}(h:SpG s):∃x y,x<y∧∀t,x<t→t<y→InS s t:=by
 obtain⟨lo,hi,nl,nh⟩:=s;have h3:=h.lt;unfold InS;simp only at *;cases nl <;> cases nh <;> simp only [bJ,kD,jy,gL,gN,and_self]at *
 ·exact⟨lo,hi,by simpa using h3,fun t a b=>⟨a,b⟩⟩
 ·exact⟨lo,lo+1,by grind,fun t a b=>a⟩
 ·exact⟨hi-1,hi,by grind,fun t a b=>b⟩
 ·exact⟨0,1,by decide,fun _ _ _=>trivial⟩
theorem GN {s:Spn}{l:List Spn}(h:mH (s::l)){t:Rat}(ht:oV (s::l) t):s.nl=true∨s.lo<t:=by
 obtain⟨u,hu,h1⟩:=ht;rcases an.1 hu with rfl|hu
 ·exact h1.1
 ·have hb:=(eC.1 h.p).1 u hu;cases hn:s.nl with
  |true=>exact .inl rfl
  |false =>
   right;have h2:=(h.g s Ms).lt hn hb.1;have h3:=h1.1.resolve_left (by rw [hb.2.1];decide);have h4:=hb.2.2;grind
theorem GM {s:Spn}{l:List Spn}(h:mH (s::l)){t:Rat}(ht:oV l t):s.nh=false∧s.hi<t:=by
 obtain⟨u,hu,h1⟩:=ht;have hb:=(eC.1 h.p).1 u hu;have h3:=h1.1.resolve_left (by rw [hb.2.1];decide);have h4:=hb.2.2;exact⟨hb.1,by grind⟩
theorem Dh {E:List Rat}{s s':Spn}{l l':List Spn}(h:mH (s::l)) (h':mH (s'::l')) (he:∀t,t∉E→oV (s::l) t→oV (s'::l') t):s'.nl=true∨(s.nl=false∧s'.lo≤s.lo):=by
 cases hn':s'.nl with
 |true=>exact .inl rfl
 |false =>
  right;have hg:=h.g s Ms
  have key:∀x,(s.nl=true∨s.lo≤x)→x<s'.lo→(s.nh=true∨x<s.hi)→False:=fun x h1 h2 h3=>by
   have:∃y,x<y∧y≤s'.lo∧(s.nh=true∨y≤s.hi):=by
    rcases h3 with h3|h3
    ·exact⟨s'.lo,h2,bR, .inl h3⟩
    ·rcases g9 (a:=s.hi) (b:=s'.lo)with k|k
     ·exact⟨s.hi,h3,k, .inr bR⟩
     ·exact⟨s'.lo,h2,bR, .inr k⟩
   obtain⟨y,y1,y2,y3⟩:=this;obtain⟨t,t1,t2,t3⟩:=Ht E y1;have:=he t t3 ⟨s,Ms,h1.imp id (fun k=>by grind),y3.imp id (fun k=>by grind)⟩;have:=(GN h' this).resolve_left (by rw [hn'];decide);grind
  cases hn:s.nl with
  |true =>
   exfalso;cases hh:s.nh with
   |true=>exact key (s'.lo-1) (.inl hn) (by grind) (.inl hh)
   |false =>
    rcases g9 (a:=s.hi) (b:=s'.lo)with k|k
    ·exact key (s.hi-1) (.inl hn) (by grind) (.inr (by grind))
    ·exact key (s'.lo-1) (.inl hn) (by grind) (.inr (by grind))
  |false =>
   refine⟨rfl,ig.1 fun k=>key s.lo (.inr bR) k ?_⟩;cases hh:s.nh with
   |true=>exact .inl rfl
   |false=>exact .inr (hg.lt hn hh)
theorem Dg {E:List Rat}{s s':Spn}{l l':List Spn}(h:mH (s::l)) (hb:s'.nl=true∨(s.nl=false∧s'.lo≤s.lo)) (he:∀t,t∉E→oV (s'::l') t→oV (s::l) t):s.nh=true∨(s'.nh=false∧s'.hi≤s.hi):=by
 cases hn:s.nh with
 |true=>exact .inl rfl
 |false =>
  right;have hg:=h.g s Ms
  have hlo:∀t,s.hi≤t→s'.nl=true∨s'.lo<t:=fun t ht=>by
   rcases hb with hb|⟨h1,h2⟩
   ·exact .inl hb
   ·right;have:=hg.lt h1 hn;grind
  have key:∀y,s.hi<y→(s'.nh=true∨y≤s'.hi)→False:=fun y h1 h2=>by
   have:∃z,s.hi<z∧z≤y∧∀t,s.hi<t→t<z→¬oV (s::l) t:=by
    cases l with
    |nil =>
     refine⟨y,h1,bR,fun t k _=>?_⟩;rintro ⟨u,hu,⟨_,b⟩⟩;rw [au.1 hu,hn]at b;have:=b.resolve_left (by decide);grind
    |cons u l =>
     have hbu:=(eC.1 h.p).1 u Ms;have hnu:mH (u::l):=⟨fun x hx=>h.g x (Mc hx),(eC.1 h.p).2⟩
     have hz:∃z,s.hi<z∧z≤y∧z≤u.lo:=by
      rcases g9 (a:=y) (b:=u.lo)with k|k
      ·exact⟨y,h1,bR,k⟩
      ·exact⟨u.lo,hbu.2.2,k,bR⟩
     obtain⟨z,z1,z2,z3⟩:=hz;refine⟨z,z1,z2,fun t k1 k2=>?_⟩;rintro ⟨v,hv,hi⟩;rcases an.1 hv with rfl|hv
     ·have:=hi.2.resolve_left (by rw [hn];decide);grind
     ·have:=(GN hnu ⟨v,hv,hi⟩).resolve_left (by rw [hbu.2.1];decide);grind
   obtain⟨z,z1,z2,z3⟩:=this;obtain⟨t,t1,t2,t3⟩:=Ht E z1;exact z3 t t1 t2 (he t t3 ⟨s',Ms,hlo t (by grind),h2.imp id (fun k=>by grind)⟩)
  cases hn':s'.nh with
  |true=>exact(key (s.hi+1) (by grind) (.inl hn')).elim
  |false=>exact⟨rfl,ig.1 fun k=>key s'.hi k (.inr bR)⟩
theorem ur {E:List Rat}:∀{l l':List Spn},mH l→mH l'→(∀t,t∉E→(oV l t↔oV l' t))→l=l'
 | [],[],_,_,_=>rfl
 | [],s::l,_,h',he=>by
  obtain⟨x,y,hxy,hs⟩:=(h'.g s Ms).some;obtain⟨t,t1,t2,t3⟩:=Ht E hxy;obtain⟨u,hu,_⟩:=(he t t3).2 ⟨s,Ms,hs t t1 t2⟩;cases hu
 |s::l,[],h,_,he=>by
  obtain⟨x,y,hxy,hs⟩:=(h.g s Ms).some;obtain⟨t,t1,t2,t3⟩:=Ht E hxy;obtain⟨u,hu,_⟩:=(he t t3).1 ⟨s,Ms,hs t t1 t2⟩;cases hu
 |s::l,s'::l',h,h',he=>by
  have b1:=Dh h h' fun t ht k=>(he t ht).1 k
  have b2:=Dh h' h fun t ht k=>(he t ht).2 k
  have e1:=Dg h b1 fun t ht k=>(he t ht).2 k
  have e2:=Dg h' b2 fun t ht k=>(he t ht).1 k
  have g:=h.g s Ms;have g':=h'.g s' Ms
  have es:s=s':=by
   have nl:s.nl=s'.nl:=by
    rcases b1 with b1|⟨b1,_⟩ <;> rcases b2 with b2|⟨b2,_⟩ <;> simp_all
   have nh:s.nh=s'.nh:=by
    rcases e1 with e1|⟨e1,_⟩ <;> rcases e2 with e2|⟨e2,_⟩ <;> simp_all
   have lo:s.lo=s'.lo:=by
    rcases b1 with b1|⟨b1,k1⟩
    ·rw [g'.lo b1,g.lo (nl.trans b1)]
    ·rcases b2 with b2|⟨b2,k2⟩
     ·rw [b1]at b2;cases b2
     ·grind
   have hi:s.hi=s'.hi:=by
    rcases e1 with e1|⟨e1,k1⟩
    ·rw [g.hi e1,g'.hi (nh.symm.trans e1)]
    ·rcases e2 with e2|⟨e2,k2⟩
     ·rw [e1]at e2;cases e2
     ·grind
   obtain⟨a,b,c,d⟩:=s;obtain⟨a',b',c',d'⟩:=s';simp only at *;rw [nl,nh,lo,hi]
  subst es;have hl:mH l:=⟨fun x hx=>h.g x (Mc hx),(eC.1 h.p).2⟩
  have hl':mH l':=⟨fun x hx=>h'.g x (Mc hx),(eC.1 h'.p).2⟩
  refine congrArg (s :: ·) (ur (E:=E) hl hl' fun t ht=>⟨fun k=>?_,fun k=>?_⟩)
  ·obtain⟨a,b⟩:=GM h k;obtain⟨u,hu,hi⟩:=(he t ht).1 (k.imp fun u hu=>⟨Mc hu.1,hu.2⟩);rcases an.1 hu with rfl|hu
   ·have:=hi.2.resolve_left (by rw [a];decide);grind
   ·exact⟨u,hu,hi⟩
  ·obtain⟨a,b⟩:=GM h' k;obtain⟨u,hu,hi⟩:=(he t ht).2 (k.imp fun u hu=>⟨Mc hu.1,hu.2⟩);rcases an.1 hu with rfl|hu
   ·have:=hi.2.resolve_left (by rw [a];decide);grind
   ·exact⟨u,hu,hi⟩
def Gap (cuts:List Rat) (i:Nat) (t:Rat):Prop:=(i=0∨cuts.getD (i-1) 0<t)∧(i=cuts.length∨t<cuts.getD i 0)
def Jn (cuts:List Rat):Prop:=∀i j,i<j→j<cuts.length→cuts.getD i 0<cuts.getD j 0
theorem Co {cuts:List Rat}{i:Nat}(hi:i≤cuts.length) (t:Rat):InS (oL cuts i) t↔Gap cuts i t:=by
 unfold InS oL Gap;simp only [df];by_cases h0:i=0
 ·by_cases h1:i=cuts.length
  ·have e0:cuts.length=0:=by omega
   simp [h0,e0]
  ·rw [if_pos (show i<cuts.length by omega)];simp [h0]
 ·rw [if_pos (show 0<i by omega)];by_cases h1:i=cuts.length
  ·simp [h0,h1]
  ·rw [if_pos (show i<cuts.length by omega)]
theorem JV {cuts:List Rat}(ha:Jn cuts){i:Nat}(hi:i≤cuts.length):SpG (oL cuts i):=by
 unfold oL;refine⟨fun h=>?_,fun h=>?_,fun h1 h2=>?_⟩
 ·simp only [df]at h⊢;rw [if_neg om]
 ·simp only [df]at h⊢;rw [if_neg om]
 ·simp only [vd]at h1 h2⊢;rw [if_pos om,if_pos om];exact ha _ _ om om
structure HI (cuts:List Rat) (marks:List Bool) (k:Nat) (out:List Spn):Prop where
 norm:mH out
 mem:∀t,t∉cuts→(oV out t↔∃i,i<k∧marks.getD i false=true∧Gap cuts i t)
 last:0<k→marks.getD (k-1) false=true→∃init s,out=init++[s]∧s.nh=decide (k-1=cuts.length)∧s.hi=(if k-1<cuts.length then cuts.getD (k-1) 0 else 0)∧(s.nl=true∨s.lo<cuts.getD (k-1) 0∨k-1=cuts.length)
 idle:(k=0∨marks.getD (k-1) false=false)→∀s∈out,s.nh=false∧2≤k∧s.hi≤cuts.getD (k-2) 0
theorem Fx (cuts:List Rat) (marks:List Bool):HI cuts marks 0 [] :=
 ⟨⟨fun s h=>(by cases h),List.Pairwise.nil⟩,fun t _=>⟨fun⟨s,h,_⟩=>(by cases h),fun⟨i,h,_⟩=>om⟩,fun h=>om,fun _ s h=>(by cases h)⟩
theorem zf {cuts:List Rat}(ha:Jn cuts){i j:Nat}(h:i≤j) (hj:j<cuts.length):cuts.getD i 0≤cuts.getD j 0:=by
 by_cases e:i=j
 ·rw [e];exact bR
 ·exact f6 (ha i j om hj)
theorem Fy {cuts:List Rat}{marks:List Bool}(ha:Jn cuts){k:Nat}(hk:k≤cuts.length){out:List Spn}(h:HI cuts marks k out):HI cuts marks (k+1) (gW cuts marks out k):=by
 have hg:∀t,(∃i,i<k+1∧marks.getD i false=true∧Gap cuts i t)↔(∃i,i<k∧marks.getD i false=true∧Gap cuts i t)∨(marks.getD k false=true∧Gap cuts k t):=fun t=>by
  constructor
  ·rintro ⟨i,h1,h2,h3⟩;by_cases e:i=k
   ·rw [e]at h2 h3;exact .inr ⟨h2,h3⟩
   ·exact .inl ⟨i,om,h2,h3⟩
  ·rintro (⟨i,h1,h2,h3⟩|⟨h2,h3⟩)
   ·exact⟨i,om,h2,h3⟩
   ·exact⟨k,om,h2,h3⟩
 unfold gW;cases hm:marks.getD k false with
 |false =>
  rw [if_pos rfl];refine⟨h.norm,fun t ht=>?_,fun _ hh=>?_,fun _ s hs=>?_⟩
  ·rw [hg,hm,h.mem t ht];simp
  ·rw [dY,hm]at hh;cases hh
  ·by_cases hp:k=0∨marks.getD (k-1) false=false
   ·obtain⟨a,b,c⟩:=h.idle hp s hs;refine⟨a,om,?_⟩;have:=zf ha (show k-2≤k+1-2 by omega) om;grind
   ·rw [not_or]at hp;obtain⟨init,l,e,l1,l2,l3⟩:=h.last om (by simpa using hp.2);rw [if_pos om]at l2;rw [show k+1-2=k-1 by omega];rw [e]at hs;have hn:=h.norm;rw [e]at hn;rcases az.1 hs with hs|hs
    ·obtain⟨b1,b2,b3⟩:=(jP.1 hn.p).2.2 s hs l (by simp);refine⟨b1,om,?_⟩;rcases l3 with l3|l3|l3
     ·rw [b2]at l3;cases l3
     ·grind
     ·omega
    ·rw [au]at hs;rw [hs];exact⟨by rw [l1];exact ab om,om,by rw [l2];exact bR⟩
 |true =>
  rw [if_neg (by decide)];by_cases hp:k=0∨marks.getD (k-1) false=false
  ·rw [if_neg (by rintro ⟨a,b,_⟩;rcases hp with hp|hp;omega;rw [hp]at b;cases b)];refine⟨⟨fun s hs=>?_,?_⟩,fun t ht=>?_,fun _ _=>?_,fun hh=>?_⟩
   ·rcases az.1 hs with hs|hs
    ·exact h.norm.g s hs
    ·rw [au.1 hs];exact JV ha hk
   ·refine jP.2 ⟨h.norm.p,sJ _ _,fun s hs u hu=>?_⟩;rw [au.1 hu];obtain⟨a,b,c⟩:=h.idle hp s hs;refine⟨a,ab om,?_⟩;show s.hi<if 0<k then cuts.getD (k-1) 0 else 0
    rw [if_pos om];have:=ha (k-2) (k-1) om om;grind
   ·rw [hg,←h.mem t ht,hm];simp only [gL];rw [←Co hk];unfold oV;constructor
    ·rintro ⟨s,hs,hi⟩;rcases az.1 hs with hs|hs
     ·exact .inl ⟨s,hs,hi⟩
     ·rw [au.1 hs]at hi;exact .inr hi
    ·rintro (⟨s,hs,hi⟩|hi)
     ·exact⟨s,bV _ hs,hi⟩
     ·exact⟨_,cO _ Ms,hi⟩
   ·rw [dY];refine⟨out,oL cuts k,rfl,rfl,rfl,?_⟩;by_cases e:k=cuts.length
    ·exact .inr (.inr e)
    ·by_cases e0:k=0
     ·left;exact a9 e0
     ·right;left;show(if 0<k then cuts.getD (k-1) 0 else 0)<_
      rw [if_pos om];exact ha _ _ om om
   ·rw [dY,hm]at hh;rcases hh with hh|hh <;> cases hh
  ·rw [not_or]at hp;have hp1:marks.getD (k-1) false=true:=by simpa using hp.2
   obtain⟨init,l,e,l1,l2,l3⟩:=h.last om hp1;rw [if_pos om]at l2;have hl1:l.nh=false:=by rw [l1];exact ab om
   rw [if_pos ⟨om,hp1,by rw [e];simp⟩]
   have hset:out.set (out.length-1) ⟨(out.getD (out.length-1) Spn.full).lo,(oL cuts k).hi,(out.getD (out.length-1) Spn.full).nl,(oL cuts k).nh⟩=init++[⟨l.lo,(oL cuts k).hi,l.nl,(oL cuts k).nh⟩]:=by
    have hlen:out.length-1=init.length:=by rw [e];simp
    have hgd:out.getD (out.length-1) Spn.full=l:=by rw [hlen,e,cL,gh (ar _),ga];rfl
    rw [hgd,hlen,e,ly _ _ (ar _),ga];rfl
   rw [hset];have hn:=h.norm;rw [e]at hn;obtain⟨p1,p2,p3⟩:=jP.1 hn.p;have gl:=hn.g l (by simp)
   have hlast:l.nl=true∨l.lo<cuts.getD (k-1) 0:=by
    rcases l3 with l3|l3|l3
    ·exact .inl l3
    ·exact .inr l3
    ·omega
   refine⟨⟨fun s hs=>?_,?_⟩,fun t ht=>?_,fun _ _=>?_,fun hh=>?_⟩
   ·rcases az.1 hs with hs|hs
    ·exact hn.g s (bV _ hs)
    ·rw [au.1 hs];refine⟨gl.lo,(JV ha hk).hi,fun h1 h2=>?_⟩;have hlo:=hlast.resolve_left (by rw [h1];decide);have h2':¬k=cuts.length:=lI h2;show l.lo<if k<cuts.length then cuts.getD k 0 else 0
     rw [if_pos om];have:=ha (k-1) k om om;grind
   ·refine jP.2 ⟨p1,sJ _ _,fun s hs u hu=>?_⟩;rw [au.1 hu];exact p3 s hs l (by simp)
   ·rw [hg,←h.mem t ht,hm];simp only [gL]
    have hne:t≠cuts.getD (k-1) 0:=fun e=>ht (by
     rw [e,cL,ax (show k-1<cuts.length by omega)];exact fC _)
    have key:InS ⟨l.lo,(oL cuts k).hi,l.nl,(oL cuts k).nh⟩ t↔InS l t∨Gap cuts k t:=by
     rw [←Co hk];have e1:(oL cuts k).nl=false:=ab om;have e2:(oL cuts k).lo=cuts.getD (k-1) 0:=if_pos om
     have e3:(oL cuts k).nh=true∨cuts.getD (k-1) 0<(oL cuts k).hi:=by
      by_cases e:k=cuts.length
      ·left;exact a9 e
      ·right;show _<if k<cuts.length then cuts.getD k 0 else 0
       rw [if_pos om];exact ha _ _ om om
     unfold InS;simp only;rw [e1,e2,hl1,l2];generalize(oL cuts k).nh=nh at *;generalize(oL cuts k).hi=hi at *;generalize cuts.getD (k-1) 0=c at *;simp only [bJ,jy];constructor
     ·rintro ⟨a,b⟩;by_cases htc:t<c
      ·exact .inl ⟨a,htc⟩
      ·exact .inr ⟨by grind,b⟩
     ·rintro (⟨a,b⟩|⟨a,b⟩)
      ·exact⟨a,e3.imp id (fun k=>by grind)⟩
      ·exact⟨hlast.imp id (fun k=>by grind),b⟩
    unfold oV;rw [e];constructor
    ·rintro ⟨s,hs,hi⟩;rcases az.1 hs with hs|hs
     ·exact .inl ⟨s,bV _ hs,hi⟩
     ·rw [au.1 hs,key]at hi;exact hi.imp (fun k=>⟨l,by simp,k⟩) id
    ·rintro (⟨s,hs,hi⟩|hi)
     ·rcases az.1 hs with hs|hs
      ·exact⟨s,bV _ hs,hi⟩
      ·rw [au.1 hs]at hi;exact⟨_,cO _ Ms,key.2 (.inl hi)⟩
     ·exact⟨_,cO _ Ms,key.2 (.inr hi)⟩
   ·rw [dY];refine⟨init,_,rfl,rfl,rfl,?_⟩;by_cases e:k=cuts.length
    ·exact .inr (.inr e)
    ·rcases hlast with h1|h1
     ·exact .inl h1
     ·right;left;have:=ha (k-1) k om om;show l.lo<_
      grind
   ·rw [dY,hm]at hh;rcases hh with hh|hh <;> cases hh
theorem Az {cuts:List Rat}{marks:List Bool}(ha:Jn cuts):∀k,k≤cuts.length+1→HI cuts marks k ((List.range k).foldl (gW cuts marks) [])
 |0,_=>Fx cuts marks
 |k+1,h=>by
  rw [iQ,jB];exact Fy ha om (Az ha k om)
theorem LR {cuts:List Rat}{marks:List Bool}(ha:Jn cuts) (hl:marks.length=cuts.length+1):mH (yB cuts marks)∧∀t,t∉cuts→(oV (yB cuts marks) t↔∃i,marks.getD i false=true∧Gap cuts i t):=by
 have h:=Az (marks:=marks) ha (cuts.length+1) (ar _);rw [←hl]at h;refine⟨h.norm,fun t ht=>(h.mem t ht).trans ⟨fun⟨i,_,b⟩=>⟨i,b⟩,fun⟨i,a,b⟩=>⟨i,?_,a,b⟩⟩⟩;rcases aN i marks.length with k|k
 ·exact k
 ·rw [cL,cM k]at a;cases a
theorem C6 {cuts:List Rat}(h:cuts.Pairwise (· < ·)):Jn cuts:=fun i j hij hj=>by
 rw [cL,cL,ax (show i<cuts.length by omega),ax hj];exact oW.1 h i j om hj hij
theorem Gh {x y:Rat}:rlt x y=true↔x<y:=by
 rw [df,jj];grind
theorem Cg {α:Type}{f:α→Bool}:∀(l:List α),∀x∈l.take (l.takeWhile f).length,f x=true
 | [],x,h=>by simp at h
 |a::l,x,h=>by
  rw [sN]at h;split at h
  ·rename_i hf;rw [aE,gP]at h;rcases an.1 h with e|e
   ·rw [e];exact hf
   ·exact Cg l x e
  ·simp at h
theorem uD {out:List Rat}{x:Rat}(h:out.Pairwise (· < ·)):(lU rlt out x).Pairwise (· < ·):=by
 unfold lU;split
 ·exact h
 ·rename_i hne;unfold DD;have h1:∀o∈out.take (lQ rlt out x),o<x:=fun o ho=>Gh.1 (Cg out o ho)
  have h2:∀o∈out.drop (lQ rlt out x),x<o:=fun o ho=>by
   have hfirst:∀o0,out[lQ rlt out x]? = some o0→x<o0:=fun o0 e=>by
    have hn:rlt o0 x=false:=wE (f:=fun o=>rlt o x) e;have:¬o0<x:=fun k=>by rw [Gh.2 k]at hn;cases hn
    have:o0≠x:=fun k=>hne (by rw [e,k])
    grind
   obtain⟨k,hk,e⟩:=kC.1 ho;rw [cP]at hk;rw [sK]at e;have e0:=hfirst _ (ax (show lQ rlt out x<out.length by omega));by_cases hk0:k=0
   ·subst hk0;rw [←e];exact e0
   ·have:=oW.1 h (lQ rlt out x) (lQ rlt out x+k) om om om;rw [e]at this;grind
  refine jP.2 ⟨h.sublist (rA _ _),eC.2 ⟨h2,h.sublist (List.drop_sublist _ _)⟩,fun a ha b hb=>?_⟩;rcases an.1 hb with e|e
  ·rw [e];exact h1 a ha
  ·have:=h1 a ha;have:=h2 b e;grind
theorem J6 {out:List Rat}{s:Spn}(h:out.Pairwise (· < ·)):(mF out s).Pairwise (· < ·):=by
 unfold mF;simp only;split
 ·split
  ·exact h
  ·exact uD h
 ·split
  ·exact uD h
  ·exact uD (uD h)
theorem AK:∀(l:List Spn){out:List Rat},out.Pairwise (· < ·)→(l.foldl mF out).Pairwise (· < ·)
 | [],_,h=>h
 |s::l,_,h=>by rw [fQ];exact AK l (J6 h)
theorem yI (l:List Spn):(fW l).Pairwise (· < ·):=AK l List.Pairwise.nil
theorem J5 {out:List Rat}{s:Spn}{y:Rat}:y∈mF out s↔y∈out∨(s.nl=false∧y=s.lo)∨(s.nh=false∧y=s.hi):=by
 unfold mF;simp only;cases s.nl <;> cases s.nh <;> simp [pz] <;> grind
theorem AJ:∀(l:List Spn){out:List Rat}{y:Rat},y∈l.foldl mF out↔y∈out∨∃s∈l,(s.nl=false∧y=s.lo)∨(s.nh=false∧y=s.hi)
 | [],_,_=>by simp
 |s::l,out,y=>by
  rw [fQ,AJ l,J5];simp only [an,exists_eq_or_imp];exact or_assoc
theorem i9 {l:List Spn}{y:Rat}:y∈fW l↔∃s∈l,(s.nl=false∧y=s.lo)∨(s.nh=false∧y=s.hi):=by
 unfold fW;rw [AJ];simp
theorem A5 {cuts:List Rat}(ha:cuts.Pairwise (· < ·)){i:Nat}(hi:i≤cuts.length):Gap cuts i ((iI cuts).getD i 0):=by
 cases cuts with
 |nil =>
  have:i=0:=by simpa using hi
  subst this;exact⟨.inl rfl, .inl rfl⟩
 |cons c cs =>
  have hz:(List.zipWith mO (c::cs) cs).length=cs.length:=by simp
  have has:=C6 ha;unfold iI;cases i with
  |zero =>
   refine⟨.inl rfl, .inr ?_⟩;show c-1<c
   grind
  |succ i =>
   rw [aE]at hi;rw [List.getD_cons_succ];by_cases e:i=cs.length
   ·refine⟨.inr ?_, .inl (by rw [e];rfl)⟩;rw [dY,cL (l:=List.zipWith mO (c::cs) cs++_),gh om,hz,e,ga]
    have:(c::cs).getD cs.length 0=(c::cs).getLast (by simp):=by
     rw [cL,xf];simp
    rw [this];show _<(c::cs).getLast _+1
    grind
   ·have hlt:i<cs.length:=by omega
    have e1:(List.zipWith mO (c::cs) cs++[(c::cs).getLast (by simp)+1]).getD i 0=mO ((c::cs).getD i 0) ((c::cs).getD (i+1) 0):=by
     rw [cL,dO om,ax om,List.getElem_zipWith,cL,cL,ax (show i<(c::cs).length by simp;omega),gj,ax hlt];rfl
    rw [e1];obtain⟨m1,m2⟩:=qq (has i (i+1) om (by simp;omega));exact⟨.inr (by rw [dY];exact m1), .inr m2⟩
theorem uJ {cuts:List Rat}(ha:cuts.Pairwise (· < ·)){i:Nat}(hi:i≤cuts.length){t u:Rat}(ht:Gap cuts i t) (hu:Gap cuts i u){y:Rat}(hy:y∈cuts):(y<t↔y<u)∧(t<y↔u<y):=by
 have has:=C6 ha;obtain⟨j,hj,e⟩:=kC.1 hy;have ey:cuts.getD j 0=y:=by rw [cL,ax hj,←e];rfl
 by_cases hji:j<i
 ·have h1:y<t∧y<u:=by
   have hle:=zf has (show j≤i-1 by omega) om;rw [ey]at hle;obtain⟨a,_⟩:=ht;obtain⟨b,_⟩:=hu;have a:=a.resolve_left om;have b:=b.resolve_left om;grind
  grind
 ·have h1:t<y∧u<y:=by
   have hle:=zf has (show i≤j by omega) om;rw [ey]at hle;obtain⟨_,a⟩:=ht;obtain⟨_,b⟩:=hu;have a:=a.resolve_left om;have b:=b.resolve_left om;grind
  grind
theorem LP {cuts:List Rat}(ha:cuts.Pairwise (· < ·)){i:Nat}(hi:i≤cuts.length){t:Rat}(ht:Gap cuts i t):t∉cuts:=fun hm=>by
 obtain⟨j,hj,e⟩:=kC.1 hm;have has:=C6 ha;have ey:cuts.getD j 0=t:=by rw [cL,ax hj,←e];rfl
 by_cases hji:j<i
 ·have hle:=zf has (show j≤i-1 by omega) om;have:=ht.1.resolve_left om;grind
 ·have hle:=zf has (show i≤j by omega) om;have:=ht.2.resolve_left om;grind
theorem QW {cuts:List Rat}{t:Rat}(ht:t∉cuts):∃i,i≤cuts.length∧Gap cuts i t:=by
 have key:∀k,k≤cuts.length→(∃i,i<k∧Gap cuts i t)∨(k=0∨cuts.getD (k-1) 0<t):=fun k=>by
  induction k with
  |zero=>exact fun _ => .inr (.inl rfl)
  |succ k ih =>
   intro hk;rcases ih om with⟨i,h1,h2⟩|h
   ·exact .inl ⟨i,om,h2⟩
   ·have hne:t≠cuts.getD k 0:=fun e=>ht (by
     rw [e,cL,ax (show k<cuts.length by omega)];exact fC _)
    by_cases h1:t<cuts.getD k 0
    ·exact .inl ⟨k,om,h, .inr h1⟩
    ·right;right;rw [dY];grind
 rcases key cuts.length (ar _)with⟨i,h1,h2⟩|h
 ·exact⟨i,om,h2⟩
 ·exact⟨cuts.length,ar _,h, .inl rfl⟩
theorem wV {l:List Spn}{t:Rat}(ht:t∉fW l):inL l t=true↔oV l t:=by
 rw [df]
 have key:∀l':List Spn,(∀s∈l',s∈l)→(vX l' t=2↔oV l' t):=fun l'=>by
  induction l' with
  |nil=>exact fun _=>⟨fun h=>(by cases h),fun⟨s,h,_⟩=>(by cases h)⟩
  |cons s l' ih =>
   intro hs;have hsl:=hs s Ms
   have h1:s.nl=true∨t≠s.lo:=by
    cases h:s.nl with
    |true=>exact .inl rfl
    |false=>exact .inr fun e=>ht (i9.2 ⟨s,hsl, .inl ⟨h,e⟩⟩)
   have h2:s.nh=true∨t≠s.hi:=by
    cases h:s.nh with
    |true=>exact .inl rfl
    |false=>exact .inr fun e=>ht (i9.2 ⟨s,hsl, .inr ⟨h,e⟩⟩)
   have hc:Jd s t=2∧InS s t∨Jd s t=0∧¬InS s t:=by
    unfold Jd InS;simp only;have s1:(t-s.lo).num.sign=0↔t=s.lo:=by rw [e7];grind
    have s2:(t-s.hi).num.sign=0↔t=s.hi:=by rw [e7];grind
    have s3:0<(t-s.lo).num.sign↔s.lo<t:=by rw [eQ];grind
    have s4:(t-s.hi).num.sign<0↔t<s.hi:=by rw [jj];grind
    generalize(t-s.lo).num.sign=a at *;generalize(t-s.hi).num.sign=b at *;cases hn:s.nl <;> cases hh:s.nh <;> rw [hn]at h1 <;> rw [hh]at h2 <;> simp only [aV,bJ,aQ,jy,kD,gL,gN]at h1 h2⊢
    ·have:a≠0:=fun e=>h1 (s1.1 e)
     have:b≠0:=fun e=>h2 (s2.1 e)
     by_cases k:0<a∧b<0
     ·rw [if_pos k];exact .inl ⟨rfl,s3.1 k.1,s4.1 k.2⟩
     ·rw [if_neg k,if_neg om];exact .inr ⟨rfl,fun h=>k ⟨s3.2 h.1,s4.2 h.2⟩⟩
    ·have:a≠0:=fun e=>h1 (s1.1 e)
     by_cases k:0<a
     ·rw [if_pos ⟨k,by decide⟩];exact .inl ⟨rfl,s3.1 k⟩
     ·rw [if_neg om,if_neg om];exact .inr ⟨rfl,fun h=>k (s3.2 h)⟩
    ·have:b≠0:=fun e=>h2 (s2.1 e)
     by_cases k:b<0
     ·rw [if_pos ⟨by decide,k⟩];exact .inl ⟨rfl,s4.1 k⟩
     ·rw [if_neg om,if_neg om];exact .inr ⟨rfl,fun h=>k (s4.2 h)⟩
    ·rw [if_pos ⟨by decide,by decide⟩];exact .inl rfl
   have ihh:=ih fun x hx=>hs x (Mc hx)
   unfold vX;rcases hc with⟨c1,c2⟩|⟨c1,c2⟩
   ·rw [c1,if_neg (by decide)];exact⟨fun _=>⟨s,Ms,c2⟩,fun _=>rfl⟩
   ·rw [c1,if_pos rfl,ihh];constructor
    ·rintro ⟨u,hu,hi⟩;exact⟨u,Mc hu,hi⟩
    ·rintro ⟨u,hu,hi⟩;rcases an.1 hu with rfl|hu
     ·exact absurd hi c2
     ·exact⟨u,hu,hi⟩
 exact key l fun _ h=>h
theorem H0 {l:List Spn}{cuts:List Rat}(ha:cuts.Pairwise (· < ·)) (hc:∀y∈fW l,y∈cuts){i:Nat}(hi:i≤cuts.length){t u:Rat}(ht:Gap cuts i t) (hu:Gap cuts i u):inL l t=inL l u:=by
 have h1:=wV (l:=l) (t:=t) fun k=>LP ha hi ht (hc t k)
 have h2:=wV (l:=l) (t:=u) fun k=>LP ha hi hu (hc u k)
 have:oV l t↔oV l u:=by
  have hs:∀s∈l,(InS s t↔InS s u):=fun s hs=>by
   unfold InS;cases hn:s.nl <;> cases hh:s.nh <;> simp only [bJ,jy,kD,gL,gN]
   ·have g1:=uJ ha hi ht hu (hc s.lo (i9.2 ⟨s,hs, .inl ⟨hn,rfl⟩⟩));have g2:=uJ ha hi ht hu (hc s.hi (i9.2 ⟨s,hs, .inr ⟨hh,rfl⟩⟩));rw [g1.1,g2.2]
   ·exact(uJ ha hi ht hu (hc s.lo (i9.2 ⟨s,hs, .inl ⟨hn,rfl⟩⟩))).1
   ·exact(uJ ha hi ht hu (hc s.hi (i9.2 ⟨s,hs, .inr ⟨hh,rfl⟩⟩))).2
  exact⟨fun⟨s,a,b⟩=>⟨s,a,(hs s a).1 b⟩,fun⟨s,a,b⟩=>⟨s,a,(hs s a).2 b⟩⟩
 rw [kB,h1,h2,this]
theorem DM {cuts:List Rat}(ha:cuts.Pairwise (· < ·)) (f:Rat→Bool) (hf:∀i t u,i≤cuts.length→Gap cuts i t→Gap cuts i u→f t=f u) :
  mH (yB cuts ((iI cuts).map f))∧∀t,t∉cuts→(oV (yB cuts ((iI cuts).map f)) t↔f t=true):=by
 obtain⟨h1,h2⟩:=LR (marks:=(iI cuts).map f) (C6 ha) (by rw [cq,qn])
 have hm:∀i,i≤cuts.length→((iI cuts).map f).getD i false=f ((iI cuts).getD i 0):=fun i hi=>by
  have hl:i<(iI cuts).length:=by rw [qn];omega
  rw [cL,gG,cL,ax hl];rfl
 refine⟨h1,fun t ht=>(h2 t ht).trans ⟨?_,fun h=>?_⟩⟩
 ·rintro ⟨i,hi,g⟩
  have hle:i≤cuts.length:=by
   rcases aN cuts.length i with k|k
   ·rw [cL,cM (by rw [cq,qn];omega)]at hi;cases hi
   ·exact k
  rw [hm i hle]at hi;rw [hf i t _ hle g (A5 ha hle)];exact hi
 ·obtain⟨i,hi,g⟩:=QW ht;exact⟨i,by rw [hm i hi,←hf i t _ hi g (A5 ha hi)];exact h,g⟩
theorem E4 (op:Int) (a b:List Spn):mH (qN op a b)∧∀t,t∉fW (a++b)→(oV (qN op a b) t↔opB op (inL a t) (inL b t)=true):=by
 have ha:∀y∈fW a,y∈fW (a++b):=fun y hy=>by
  obtain⟨s,h1,h2⟩:=i9.1 hy;exact i9.2 ⟨s,bV _ h1,h2⟩
 have hb:∀y∈fW b,y∈fW (a++b):=fun y hy=>by
  obtain⟨s,h1,h2⟩:=i9.1 hy;exact i9.2 ⟨s,cO _ h1,h2⟩
 exact DM (yI _) (fun t=>opB op (inL a t) (inL b t)) fun i t u hi ht hu=>by
  rw [H0 (yI _) ha hi ht hu,H0 (yI _) hb hi ht hu]
theorem Pm (a:Li) (p v:Pq) (t:Rat):af a (iL p t v)=af a p+t*(af a (iL p 1 v)-af a p):=by unfold af iL;simp only;grind
theorem Jy (a l:Li) (p:Pq):af a (iL p 1 (-(cK l).2,(cK l).1))-af a p=(a.a:Rat)*l.a+a.b*l.b:=by unfold af iL cK;simp only;grind
theorem Iy {V K:Rat}(hV:0<V) (hK:K<0):0 < -(V/K)∧∀s,0<s→s≤-(V/K)/2→0<V+s*K:=by
 obtain⟨u,hu⟩:∃u,u = -(V/K):=⟨_,rfl⟩
 have e:u * -K=V:=by rw [hu,Rat.neg_mul,Rat.mul_neg,Rat.neg_neg];exact g8 (by grind)
 rw [←hu];clear hu
 have h0:0<u:=by
  rcases g9 (a:=u) (b:=0)with k|k
  ·have:=dh (show 0≤-u by grind) (show 0≤-K by grind);grind
  ·by_cases e':u=0
   ·rw [e']at e;grind
   ·grind
 refine⟨h0,fun s hs h=>?_⟩;have:=dh (show 0≤u/2-s by grind) (show 0≤-K by grind);have e2:u/2 * -K=V/2:=by grind
 grind
theorem Di (p v:Pq) (s:Rat) (a:Li) (hs:0<s):0<gT p v s a∧gT p v s a≤s∧(af a p≠0→af a (iL p 1 v)-af a p≠0→0 < -(af a p/(af a (iL p 1 v)-af a p))→gT p v s a≤-(af a p/(af a (iL p 1 v)-af a p))/2):=by
 unfold gT gS;generalize -(af a p/(af a (iL p 1 v)-af a p))=u;generalize af a (iL p 1 v)-af a p=k;split
 ·rename_i h;rw [e7,e7]at h;exact⟨hs,bR,fun a b _=>(h.elim b a).elim⟩
 ·split
  ·rename_i h;rw [eQ,jj]at h;exact⟨by grind,by grind,fun _ _ _=>bR⟩
  ·rename_i h;rw [eQ,jj]at h;exact⟨hs,bR,fun _ _ h'=>by grind⟩
theorem Dj (p v:Pq):∀(c:List Li) (s:Rat),0<s→0<c.foldl (gT p v) s∧c.foldl (gT p v) s≤s∧∀a∈c,af a p≠0→af a (iL p 1 v)-af a p≠0→0 < -(af a p/(af a (iL p 1 v)-af a p))→c.foldl (gT p v) s≤-(af a p/(af a (iL p 1 v)-af a p))/2
 | [],s,hs=>⟨hs,bR,fun a h=>by cases h⟩
 |m::c,s,hs=>by
  obtain⟨a1,a2,a3⟩:=Di p v s m hs;obtain⟨b1,b2,b3⟩:=Dj p v c _ a1;rw [fQ];refine⟨b1,Rat.le_trans b2 a2,fun a ha h1 h2 h3=>?_⟩;rcases an.1 ha with e|e
  ·rw [e]at h1 h2 h3⊢;exact Rat.le_trans b2 (a3 h1 h2 h3)
  ·exact b3 a e h1 h2 h3
theorem DG {c:List Li}{i:Nat}{l:Li}(hl:l.ok) (hi:c[i]? = some l) (h:(eS c i).2=true):Inn c (uE c i l):=fun m hm=>by
 obtain⟨a,t,b⟩:=Hn hl hi h;have hs:=lO (p7 b);unfold uE Ag;obtain⟨p,hp⟩:∃p,p=atL l (dq (eS c i).1):=⟨_,rfl⟩
 have hz:af l p=0:=by rw [hp];exact sC hl _
 have hv:=(a _).1 hs;rw [←hp]at hv⊢;obtain⟨n1,_,n3⟩:=Dj p (-(cK l).2,(cK l).1) c 1 (by decide);rw [Pm];by_cases hml:m=l
 ·rw [hml,Jy,hz,nA];exact et n1 (jt hl)
 ·have h1:=hv m hm hml;have h3:=n3 m hm (fun e=>by rw [e]at h1;exact absurd h1 (by decide));generalize List.foldl (gT p (-(cK l).2,(cK l).1)) 1 c=s at *;generalize af m (iL p 1 (-(cK l).2,(cK l).1))-af m p=k at *;by_cases hk:k<0
  ·obtain⟨g1,g2⟩:=Iy h1 hk;exact g2 s n1 (h3 (by grind) g1)
  ·have:=dh (f6 n1) (ig.1 hk);grind
theorem tw {c:List Li}(hc:∀l∈c,l.ok):∀(d:List Li) (i:Nat),(∀k l,d[k]? = some l→c[i+k]? = some l)→
  (∀p,kv c i d=some p→Inn c p)∧(kv c i d=none→∀l∈d,¬Edg c l)
 | [],_,_=>⟨fun p h=>(by cases h),fun _ l h=>(by cases h)⟩
 |l::d,i,hd=>by
  have hi:c[i]? = some l:=by have:=hd 0 l rfl;simpa using this
  have hl:l.ok:=hc l (bo hi);unfold kv;cases h:(eS c i).2 with
  |true =>
   rw [if_pos rfl];exact⟨fun p e=>(bk e)▸DG hl hi h,fun e=>(by cases e)⟩
  |false =>
   rw [if_neg (by decide)];obtain⟨a,b⟩:=tw hc d (i+1) (fun k l h=>by rw [show i+1+k=i+(k+1) by omega];exact hd (k+1) l (by rw [gj];exact h));refine⟨a,fun e l' hl'=>?_⟩;rcases an.1 hl' with e'|e'
   ·rw [e',←vR hl hi,h];decide
   ·exact b e l' e'
theorem Fl {c:List Li}(hc:∀l∈c,l.ok){p:Pq}(h:fF c=some p):Inn c p:=by
 unfold fF at h;split at h
 ·rename_i e;rw [e];intro l hl;cases hl
 ·exact(tw hc c 0 (fun k l h=>by rw [aD];exact h)).1 p h
theorem DF {c:List Li}(hc:∀l∈c,l.ok):(fF c).isSome=true↔∃q,Inn c q:=by
 constructor
 ·intro h;obtain⟨p,hp⟩:=sI.1 h;exact⟨p,Fl hc hp⟩
 ·rintro ⟨q,hq⟩;by_cases e:c=[]
  ·unfold fF;rw [if_pos e];rfl
  ·cases h:fF c with
   |some p=>rfl
   |none =>
    unfold fF at h;rw [if_neg e]at h;obtain⟨m,hm,hE⟩:=Inn.edge hc hq e;exact absurd hE ((tw hc c 0 (fun k l h=>by rw [aD];exact h)).2 h m hm)
theorem tF (c:List Li):∀(l:List Nat) (out:List Li) (y:Li),y∈l.foldl (fY c) out↔(∃i∈l,(eS c i).2=true∧y=c.getD i ⟨0,0,0⟩)∨y∈out
 | [],out,y=>by simp
 |i::l,out,y=>by
  rw [fQ,tF c l];unfold fY;cases h:(eS c i).2 with
  |true =>
   rw [if_pos rfl,pz];constructor
   ·rintro (⟨j,hj,h1,h2⟩|h1|h1)
    ·exact .inl ⟨j,Mc hj,h1,h2⟩
    ·exact .inl ⟨i,Ms,h,h1⟩
    ·exact .inr h1
   ·rintro (⟨j,hj,h1,h2⟩|h1)
    ·rcases an.1 hj with e|e
     ·rw [e]at h2;exact .inr (.inl h2)
     ·exact .inl ⟨j,e,h1,h2⟩
    ·exact .inr (.inr h1)
  |false =>
   rw [if_neg (by decide)];constructor
   ·rintro (⟨j,hj,h1,h2⟩|h1)
    ·exact .inl ⟨j,Mc hj,h1,h2⟩
    ·exact .inr h1
   ·rintro (⟨j,hj,h1,h2⟩|h1)
    ·rcases an.1 hj with e|e
     ·rw [e,h]at h1;cases h1
     ·exact .inl ⟨j,e,h1,h2⟩
    ·exact .inr h1
theorem tH {c:List Li}(hc:∀l∈c,l.ok){y:Li}:y∈qI c↔y∈c∧Edg c y:=by
 unfold qI;rw [tF];constructor
 ·rintro (⟨i,hi,h1,h2⟩|h)
  ·have hi:=dG.1 hi;have e:=ax hi;have e2:c.getD i ⟨0,0,0⟩=c[i]:=by rw [cL,e];rfl
   have hm:c[i]∈c:=fC hi;rw [h2,e2];exact⟨hm,(vR (hc _ hm) e).1 h1⟩
  ·cases h
 ·rintro ⟨h1,h2⟩;obtain⟨i,hi,e⟩:=kC.1 h1;have e1:c[i]? = some y:=by rw [ax hi,e]
  exact .inl ⟨i,dG.2 hi,(vR (hc y h1) e1).2 h2,by rw [cL,e1];rfl⟩
theorem FN {c:List Li}(hc:∀l∈c,l.ok) (hn:∃q,Inn c q) (p:Pq):Inn (qI c) p↔Inn c p:=by
 obtain⟨q,hq⟩:=hn;exact⟨fun h=>Inn.kept hc hq (fun m hm he=>(tH hc).2 ⟨hm,he⟩) h,fun h l hl=>h l ((tH hc).1 hl).1⟩
theorem mN (l:Li) (p:Pq):af l.neg p = - af l p:=by
 unfold af Li.neg;simp only [gJ];grind
theorem Li.ok.neg {l:Li}(h:l.ok):l.neg.ok:=by
 refine⟨?_,?_⟩
 ·show Nat.gcd (Nat.gcd (-l.a).natAbs (-l.b).natAbs) (-l.c).natAbs=1
  rw [jF,jF,jF];exact h.1
 ·rcases h.2 with k|k
  ·left;show -l.a≠0;omega
  ·right;show -l.b≠0;omega
def Lft (I:Pq→Prop) (l:Li):Prop:=∃q,I q∧0<af l q
def Rgt (I:Pq→Prop) (l:Li):Prop:=∃q,I q∧af l q<0
theorem nR {c:List Li}{l:Li}{q:Pq}:Inn (c++[l]) q↔Inn c q∧0<af l q:=by
 unfold Inn;constructor
 ·intro h;exact⟨fun m hm=>h m (bV _ hm),h l (cO _ Ms)⟩
 ·rintro ⟨h1,h2⟩ m hm;rcases az.1 hm with hm|hm
  ·exact h1 m hm
  ·rw [au]at hm;rw [hm];exact h2
theorem tU {c:List Li}{l:Li}(hc:∀l∈c,l.ok) (hl:l.ok):∀m∈c++[l],m.ok:=fun m hm=>by
 rcases az.1 hm with hm|hm
 ·exact hc m hm
 ·rw [au]at hm;rw [hm];exact hl
theorem yt {c:List Li}{l:Li}(hc:∀l∈c,l.ok) (hl:l.ok):(fF (c++[l])).isSome=true↔Lft (Inn c) l:=by
 rw [DF (tU hc hl)];exact⟨fun⟨q,h⟩=>⟨q,nR.1 h⟩,fun⟨q,h⟩=>⟨q,nR.2 h⟩⟩
theorem DE {c:List Li}{l:Li}(hc:∀l∈c,l.ok) (hl:l.ok):(fF (c++[l.neg])).isSome=true↔Rgt (Inn c) l:=by
 rw [yt hc hl.neg];unfold Lft Rgt;have:∀q,0<af l.neg q↔af l q<0:=fun q=>by rw [mN];grind
 simp only [this]
theorem Inn.side {c:List Li}{l:Li}(hl:l.ok){q:Pq}(hq:Inn c q):Lft (Inn c) l∨Rgt (Inn c) l:=by
 by_cases h:af l q<0
 ·exact .inr ⟨q,hq,h⟩
 ·obtain⟨e,he,hs⟩:=oM (fun j=>af j q) (fun j=>(j.a:Rat)*l.a+j.b*l.b) c hq;refine .inl ⟨(q.1+e*l.a,q.2+e*l.b),fun j hj=>by rw [fS];exact hs j hj e he bR,?_⟩;rw [fS];have:=et he (jt hl);grind
theorem wi {c:List Li}{l:Li}(hc:∀l∈c,l.ok) (hl:l.ok) :
  (mB c l=0↔Lft (Inn c) l∧Rgt (Inn c) l)∧(mB c l=1↔Lft (Inn c) l∧¬Rgt (Inn c) l)∧(mB c l = -1↔¬Lft (Inn c) l):=by
 have h1:=yt hc hl;have h2:=DE hc hl;unfold mB;cases e1:(fF (c++[l])).isSome with
 |true =>
  cases e2:(fF (c++[l.neg])).isSome with
  |true =>
   have a:=h1.1 e1;have b:=h2.1 e2;simp [a,b]
  |false =>
   have a:=h1.1 e1;have b:¬Rgt (Inn c) l:=fun h=>by have:=h2.2 h;rw [e2]at this;cases this
   simp [a,b]
 |false =>
  have a:¬Lft (Inn c) l:=fun h=>by have:=h1.2 h;rw [e1]at this;cases this
  simp [a]
def Tr.lok:Tr→Prop
 | .leaf _=>True
 | .node l a b=>l.ok∧a.lok∧b.lok
open Classical in
noncomputable def kO:Tr→(Pq→Prop)→Tr
 | .leaf i,_ => .leaf i
 | .node l a b,I=>if¬Rgt I l then kO a I else if¬Lft I l then kO b I else mu l (kO a fun q=>I q∧0<af l q) (kO b fun q=>I q∧af l q<0)
noncomputable def uW (op:Int) (i:Bool) (b:Tr) (I:Pq→Prop):Tr :=
 if op=1∧i=true then .leaf true else if(op=2∨op=3)∧i=false then .leaf false else if(op=3∨op=4)∧i=true then lS (kO b I)else kO b I
open Classical in
noncomputable def jM (op:Int):Tr→Tr→(Pq→Prop)→Tr
 | .leaf i,b,I=>uW op i b I
 | .node l x y,b,I=>if¬Rgt I l then jM op x b I else if¬Lft I l then jM op y b I else mu l (jM op x b fun q=>I q∧0<af l q) (jM op y b fun q=>I q∧af l q<0)
theorem Bv (l:Li) (q:Pq):0<af l.neg q↔af l q<0:=by rw [mN];grind
theorem p5 {c:List Li}{l:Li}(hc:∀l∈c,l.ok) (hl:l.ok) (h:Lft (Inn c) l):Inn (fK c l)=fun q=>Inn c q∧0<af l q:=by
 funext q
 refine propext ?_;unfold fK;rw [FN (tU hc hl) (h.imp fun q hq=>nR.2 hq),nR]
theorem qe {c:List Li}{l:Li}(hc:∀l∈c,l.ok) (hl:l.ok) (h:Rgt (Inn c) l):Inn (fK c l.neg)=fun q=>Inn c q∧af l q<0:=by
 rw [p5 hc hl.neg (h.imp fun q hq=>⟨hq.1,(Bv l q).2 hq.2⟩)];funext q
 rw [Bv]
theorem tO {c:List Li}{l:Li}(hc:∀l∈c,l.ok) (hl:l.ok):∀m∈fK c l,m.ok:=fun m hm=>tU hc hl m ((tH (tU hc hl)).1 hm).1
theorem nV:∀{t:Tr}{c:List Li},t.lok→(∀l∈c,l.ok)→(∃q,Inn c q)→dt t c=kO t (Inn c)
 | .leaf i,c,_,_,_=>rfl
 | .node l a b,c,⟨hl,ha,hb⟩,hc,hn=>by
  obtain⟨q,hq⟩:=hn;obtain⟨p0,p1,p2⟩:=wi hc hl;unfold dt kO;by_cases h1:Rgt (Inn c) l
  ·rw [if_neg (fun e=>(p1.1 e).2 h1)];rw [if_neg (show¬¬Rgt (Inn c) l from fun h=>h h1)];by_cases h2:Lft (Inn c) l
   ·rw [if_neg (fun e=>p2.1 e h2),if_neg (show¬¬Lft (Inn c) l from fun h=>h h2)];rw [nV ha (tO hc hl) (by rw [p5 hc hl h2];exact h2),nV hb (tO hc hl.neg) (by rw [qe hc hl h1];exact h1),p5 hc hl h2,qe hc hl h1]
   ·rw [if_pos (p2.2 h2),if_pos h2];exact nV hb hc ⟨q,hq⟩
  ·have h2:=(hq.side hl).resolve_right h1;rw [if_pos (p1.2 ⟨h2,h1⟩),if_pos h1];exact nV ha hc ⟨q,hq⟩
theorem pl {op:Int}:∀{t b:Tr}{c:List Li},t.lok→b.lok→(∀l∈c,l.ok)→(∃q,Inn c q)→eA op t b c=jM op t b (Inn c)
 | .leaf i,b,c,_,hb,hc,hn=>by
  unfold eA jM qH uW;rw [nV hb hc hn]
 | .node l x y,b,c,⟨hl,hx,hy⟩,hb,hc,hn=>by
  obtain⟨q,hq⟩:=hn;obtain⟨p0,p1,p2⟩:=wi hc hl;unfold eA jM;by_cases h1:Rgt (Inn c) l
  ·rw [if_neg (fun e=>(p1.1 e).2 h1)];rw [if_neg (show¬¬Rgt (Inn c) l from fun h=>h h1)];by_cases h2:Lft (Inn c) l
   ·rw [if_neg (fun e=>p2.1 e h2),if_neg (show¬¬Lft (Inn c) l from fun h=>h h2)];rw [pl hx hb (tO hc hl) (by rw [p5 hc hl h2];exact h2),pl hy hb (tO hc hl.neg) (by rw [qe hc hl h1];exact h1),p5 hc hl h2,qe hc hl h1]
   ·rw [if_pos (p2.2 h2),if_pos h2];exact pl hy hb hc ⟨q,hq⟩
  ·have h2:=(hq.side hl).resolve_right h1;rw [if_pos (p1.2 ⟨h2,h1⟩),if_pos h1];exact pl hx hb hc ⟨q,hq⟩
end Go.Ab
