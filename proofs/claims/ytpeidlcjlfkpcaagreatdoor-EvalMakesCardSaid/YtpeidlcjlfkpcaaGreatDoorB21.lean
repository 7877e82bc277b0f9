/- Texts laid one behind the other: Set, CvxI, CvxR. -/
import Derived.Test.YtpeidlcjlfkpcaaGreatDoorB20
set_option linter.all false
namespace Go.Ab
open Go.Proofs
variable [Base]
def oZ (l:List Spn) (t:Rat):Prop:=∃s∈l,InS s t
def Bef (a b:Spn):Prop:=a.nh=false∧b.nl=false∧a.hi<b.lo
structure SpG (s:Spn):Prop where
 lo:s.nl=true→s.lo=0
 hi:s.nh=true→s.hi=0
 lt:s.nl=false→s.nh=false→s.lo<s.hi
structure mF (l:List Spn):Prop where
 g:∀s∈l,SpG s
 p:l.Pairwise Bef
theorem HM (E:List Rat):∀{x y:Rat},x<y→∃t,x<t∧t<y∧t∉E:=by
 induction E with
 |nil=>exact fun {x y} h=>⟨mQ x y,(qy h).1,(qy h).2,by simp⟩
 |cons e E ih =>
  intro x y h;by_cases he:x<e∧e<y
  ·obtain⟨t,h1,h2,h3⟩:=ih he.1;exact⟨t,h1,by grind,by simp only [ak,not_or];exact⟨by grind,h3⟩⟩
  ·obtain⟨t,h1,h2,h3⟩:=ih h;exact⟨t,h1,h2,by simp only [ak,not_or];exact⟨fun k=>he (k▸⟨h1,h2⟩),h3⟩⟩
theorem SpG.some {s:Spn}(h:SpG s):∃x y,x<y∧∀t,x<t→t<y→InS s t:=by
 obtain⟨lo,hi,nl,nh⟩:=s;have h3:=h.lt;unfold InS;simp only at *;cases nl <;> cases nh <;> simp only [bE,kC,jw,gH,gJ,and_self]at *
 ·exact⟨lo,hi,by simpa using h3,fun t a b=>⟨a,b⟩⟩
 ·exact⟨lo,lo+1,by grind,fun t a b=>a⟩
 ·exact⟨hi-1,hi,by grind,fun t a b=>b⟩
 ·exact⟨0,1,by decide,fun _ _ _=>trivial⟩
theorem H7 {s:Spn}{l:List Spn}(h:mF (s::l)){t:Rat}(ht:oZ (s::l) t):s.nl=true∨s.lo<t:=by
 obtain⟨u,hu,h1⟩:=ht;rcases ak.1 hu with rfl|hu
 ·exact h1.1
 ·have hb:=(eC.1 h.p).1 u hu;cases hn:s.nl with
  |true=>exact .inl rfl
  |false =>
   right;have h2:=(h.g s Ms).lt hn hb.1;have h3:=h1.1.resolve_left (by rw [hb.2.1];decide);have h4:=hb.2.2;grind
theorem H6 {s:Spn}{l:List Spn}(h:mF (s::l)){t:Rat}(ht:oZ l t):s.nh=false∧s.hi<t:=by
 obtain⟨u,hu,h1⟩:=ht;have hb:=(eC.1 h.p).1 u hu;have h3:=h1.1.resolve_left (by rw [hb.2.1];decide);have h4:=hb.2.2;exact⟨hb.1,by grind⟩
theorem Dx {E:List Rat}{s s':Spn}{l l':List Spn}(h:mF (s::l)) (h':mF (s'::l')) (he:∀t,t∉E→oZ (s::l) t→oZ (s'::l') t):s'.nl=true∨(s.nl=false∧s'.lo≤s.lo):=by
 cases hn':s'.nl with
 |true=>exact .inl rfl
 |false =>
  right;have hg:=h.g s Ms
  have key:∀x,(s.nl=true∨s.lo≤x)→x<s'.lo→(s.nh=true∨x<s.hi)→False:=fun x h1 h2 h3=>by
   have:∃y,x<y∧y≤s'.lo∧(s.nh=true∨y≤s.hi):=by
    rcases h3 with h3|h3
    ·exact⟨s'.lo,h2,bP, .inl h3⟩
    ·rcases g9 (a:=s.hi) (b:=s'.lo)with k|k
     ·exact⟨s.hi,h3,k, .inr bP⟩
     ·exact⟨s'.lo,h2,bP, .inr k⟩
   obtain⟨y,y1,y2,y3⟩:=this;obtain⟨t,t1,t2,t3⟩:=HM E y1;have:=he t t3 ⟨s,Ms,h1.imp id (fun k=>by grind),y3.imp id (fun k=>by grind)⟩;have:=(H7 h' this).resolve_left (by rw [hn'];decide);grind
  cases hn:s.nl with
  |true =>
   exfalso;cases hh:s.nh with
   |true=>exact key (s'.lo-1) (.inl hn) (by grind) (.inl hh)
   |false =>
    rcases g9 (a:=s.hi) (b:=s'.lo)with k|k
    ·exact key (s.hi-1) (.inl hn) (by grind) (.inr (by grind))
    ·exact key (s'.lo-1) (.inl hn) (by grind) (.inr (by grind))
  |false =>
   refine⟨rfl,ig.1 fun k=>key s.lo (.inr bP) k ?_⟩;cases hh:s.nh with
   |true=>exact .inl rfl
   |false=>exact .inr (hg.lt hn hh)
theorem Dw {E:List Rat}{s s':Spn}{l l':List Spn}(h:mF (s::l)) (hb:s'.nl=true∨(s.nl=false∧s'.lo≤s.lo)) (he:∀t,t∉E→oZ (s'::l') t→oZ (s::l) t):s.nh=true∨(s'.nh=false∧s'.hi≤s.hi):=by
 cases hn:s.nh with
 |true=>exact .inl rfl
 |false =>
  right;have hg:=h.g s Ms
  have hlo:∀t,s.hi≤t→s'.nl=true∨s'.lo<t:=fun t ht=>by
   rcases hb with hb|⟨h1,h2⟩
   ·exact .inl hb
   ·right;have:=hg.lt h1 hn;grind
  have key:∀y,s.hi<y→(s'.nh=true∨y≤s'.hi)→False:=fun y h1 h2=>by
   have:∃z,s.hi<z∧z≤y∧∀t,s.hi<t→t<z→¬oZ (s::l) t:=by
    cases l with
    |nil =>
     refine⟨y,h1,bP,fun t k _=>?_⟩;rintro ⟨u,hu,⟨_,b⟩⟩;rw [ar.1 hu,hn]at b;have:=b.resolve_left (by decide);grind
    |cons u l =>
     have hbu:=(eC.1 h.p).1 u Ms;have hnu:mF (u::l):=⟨fun x hx=>h.g x (Mc hx),(eC.1 h.p).2⟩
     have hz:∃z,s.hi<z∧z≤y∧z≤u.lo:=by
      rcases g9 (a:=y) (b:=u.lo)with k|k
      ·exact⟨y,h1,bP,k⟩
      ·exact⟨u.lo,hbu.2.2,k,bP⟩
     obtain⟨z,z1,z2,z3⟩:=hz;refine⟨z,z1,z2,fun t k1 k2=>?_⟩;rintro ⟨v,hv,hi⟩;rcases ak.1 hv with rfl|hv
     ·have:=hi.2.resolve_left (by rw [hn];decide);grind
     ·have:=(H7 hnu ⟨v,hv,hi⟩).resolve_left (by rw [hbu.2.1];decide);grind
   obtain⟨z,z1,z2,z3⟩:=this;obtain⟨t,t1,t2,t3⟩:=HM E z1;exact z3 t t1 t2 (he t t3 ⟨s',Ms,hlo t (by grind),h2.imp id (fun k=>by grind)⟩)
  cases hn':s'.nh with
  |true=>exact(key (s.hi+1) (by grind) (.inl hn')).elim
  |false=>exact⟨rfl,ig.1 fun k=>key s'.hi k (.inr bP)⟩
theorem uG {E:List Rat}:∀{l l':List Spn},mF l→mF l'→(∀t,t∉E→(oZ l t↔oZ l' t))→l=l'
 | [],[],_,_,_=>rfl
 | [],s::l,_,h',he=>by
  obtain⟨x,y,hxy,hs⟩:=(h'.g s Ms).some;obtain⟨t,t1,t2,t3⟩:=HM E hxy;obtain⟨u,hu,_⟩:=(he t t3).2 ⟨s,Ms,hs t t1 t2⟩;cases hu
 |s::l,[],h,_,he=>by
  obtain⟨x,y,hxy,hs⟩:=(h.g s Ms).some;obtain⟨t,t1,t2,t3⟩:=HM E hxy;obtain⟨u,hu,_⟩:=(he t t3).1 ⟨s,Ms,hs t t1 t2⟩;cases hu
 |s::l,s'::l',h,h',he=>by
  have b1:=Dx h h' fun t ht k=>(he t ht).1 k
  have b2:=Dx h' h fun t ht k=>(he t ht).2 k
  have e1:=Dw h b1 fun t ht k=>(he t ht).2 k
  have e2:=Dw h' b2 fun t ht k=>(he t ht).1 k
  have g:=h.g s Ms;have g':=h'.g s' Ms
  have es:s=s':=by
   have nl:s.nl=s'.nl:=by
    rcases b1 with b1|⟨b1,_⟩ <;> rcases b2 with b2|⟨b2,_⟩ <;> simp_all
   have nh:s.nh=s'.nh:=by
    rcases e1 with e1|⟨e1,_⟩ <;> rcases e2 with e2|⟨e2,_⟩ <;> simp_all
   have lo:s.lo=s'.lo:=by
    rcases b1 with b1|⟨b1,k1⟩
    ·rw [g'.lo b1,g.lo (nl.trans b1)]
    ·rcases b2 with b2|⟨b2,k2⟩
     ·rw [b1]at b2;cases b2
     ·grind
   have hi:s.hi=s'.hi:=by
    rcases e1 with e1|⟨e1,k1⟩
    ·rw [g.hi e1,g'.hi (nh.symm.trans e1)]
    ·rcases e2 with e2|⟨e2,k2⟩
     ·rw [e1]at e2;cases e2
     ·grind
   obtain⟨a,b,c,d⟩:=s;obtain⟨a',b',c',d'⟩:=s';simp only at *;rw [nl,nh,lo,hi]
  subst es;have hl:mF l:=⟨fun x hx=>h.g x (Mc hx),(eC.1 h.p).2⟩
  have hl':mF l':=⟨fun x hx=>h'.g x (Mc hx),(eC.1 h'.p).2⟩
  refine congrArg (s :: ·) (uG (E:=E) hl hl' fun t ht=>⟨fun k=>?_,fun k=>?_⟩)
  ·obtain⟨a,b⟩:=H6 h k;obtain⟨u,hu,hi⟩:=(he t ht).1 (k.imp fun u hu=>⟨Mc hu.1,hu.2⟩);rcases ak.1 hu with rfl|hu
   ·have:=hi.2.resolve_left (by rw [a];decide);grind
   ·exact⟨u,hu,hi⟩
  ·obtain⟨a,b⟩:=H6 h' k;obtain⟨u,hu,hi⟩:=(he t ht).2 (k.imp fun u hu=>⟨Mc hu.1,hu.2⟩);rcases ak.1 hu with rfl|hu
   ·have:=hi.2.resolve_left (by rw [a];decide);grind
   ·exact⟨u,hu,hi⟩
def Gap (cuts:List Rat) (i:Nat) (t:Rat):Prop:=(i=0∨cuts.getD (i-1) 0<t)∧(i=cuts.length∨t<cuts.getD i 0)
def JJ (cuts:List Rat):Prop:=∀i j,i<j→j<cuts.length→cuts.getD i 0<cuts.getD j 0
theorem CC {cuts:List Rat}{i:Nat}(hi:i≤cuts.length) (t:Rat):InS (oN cuts i) t↔Gap cuts i t:=by
 unfold InS oN Gap;simp only [cC];by_cases h0:i=0
 ·by_cases h1:i=cuts.length
  ·have e0:cuts.length=0:=by omega
   simp [h0,e0]
  ·rw [if_pos (show i<cuts.length by omega)];simp [h0]
 ·rw [if_pos (show 0<i by omega)];by_cases h1:i=cuts.length
  ·simp [h0,h1]
  ·rw [if_pos (show i<cuts.length by omega)]
theorem Kn {cuts:List Rat}(ha:JJ cuts){i:Nat}(hi:i≤cuts.length):SpG (oN cuts i):=by
 unfold oN;refine⟨fun h=>?_,fun h=>?_,fun h1 h2=>?_⟩
 ·simp only [cC]at h⊢;rw [if_neg om]
 ·simp only [cC]at h⊢;rw [if_neg om]
 ·simp only [vz]at h1 h2⊢;rw [if_pos om,if_pos om];exact ha _ _ om om
structure I2 (cuts:List Rat) (marks:List Bool) (k:Nat) (out:List Spn):Prop where
 norm:mF out
 mem:∀t,t∉cuts→(oZ out t↔∃i,i<k∧marks.getD i false=true∧Gap cuts i t)
 last:0<k→marks.getD (k-1) false=true→∃init s,out=init++[s]∧s.nh=decide (k-1=cuts.length)∧s.hi=(if k-1<cuts.length then cuts.getD (k-1) 0 else 0)∧(s.nl=true∨s.lo<cuts.getD (k-1) 0∨k-1=cuts.length)
 idle:(k=0∨marks.getD (k-1) false=false)→∀s∈out,s.nh=false∧2≤k∧s.hi≤cuts.getD (k-2) 0
theorem FI (cuts:List Rat) (marks:List Bool):I2 cuts marks 0 [] :=
 ⟨⟨fun s h=>(by cases h),List.Pairwise.nil⟩,fun t _=>⟨fun⟨s,h,_⟩=>(by cases h),fun⟨i,h,_⟩=>om⟩,fun h=>om,fun _ s h=>(by cases h)⟩
theorem zy {cuts:List Rat}(ha:JJ cuts){i j:Nat}(h:i≤j) (hj:j<cuts.length):cuts.getD i 0≤cuts.getD j 0:=by
 by_cases e:i=j
 ·rw [e];exact bP
 ·exact f8 (ha i j om hj)
theorem FJ {cuts:List Rat}{marks:List Bool}(ha:JJ cuts){k:Nat}(hk:k≤cuts.length){out:List Spn}(h:I2 cuts marks k out):I2 cuts marks (k+1) (gU cuts marks out k):=by
 have hg:∀t,(∃i,i<k+1∧marks.getD i false=true∧Gap cuts i t)↔(∃i,i<k∧marks.getD i false=true∧Gap cuts i t)∨(marks.getD k false=true∧Gap cuts k t):=fun t=>by
  constructor
  ·rintro ⟨i,h1,h2,h3⟩;by_cases e:i=k
   ·rw [e]at h2 h3;exact .inr ⟨h2,h3⟩
   ·exact .inl ⟨i,om,h2,h3⟩
  ·rintro (⟨i,h1,h2,h3⟩|⟨h2,h3⟩)
   ·exact⟨i,om,h2,h3⟩
   ·exact⟨k,om,h2,h3⟩
 unfold gU;cases hm:marks.getD k false with
 |false =>
  rw [if_pos rfl];refine⟨h.norm,fun t ht=>?_,fun _ hh=>?_,fun _ s hs=>?_⟩
  ·rw [hg,hm,h.mem t ht];simp
  ·rw [dZ,hm]at hh;cases hh
  ·by_cases hp:k=0∨marks.getD (k-1) false=false
   ·obtain⟨a,b,c⟩:=h.idle hp s hs;refine⟨a,om,?_⟩;have:=zy ha (show k-2≤k+1-2 by omega) om;grind
   ·rw [not_or]at hp;obtain⟨init,l,e,l1,l2,l3⟩:=h.last om (by simpa using hp.2);rw [if_pos om]at l2;rw [show k+1-2=k-1 by omega];rw [e]at hs;have hn:=h.norm;rw [e]at hn;rcases az.1 hs with hs|hs
    ·obtain⟨b1,b2,b3⟩:=(jM.1 hn.p).2.2 s hs l (by simp);refine⟨b1,om,?_⟩;rcases l3 with l3|l3|l3
     ·rw [b2]at l3;cases l3
     ·grind
     ·omega
    ·rw [ar]at hs;rw [hs];exact⟨by rw [l1];exact aa om,om,by rw [l2];exact bP⟩
 |true =>
  rw [if_neg (by decide)];by_cases hp:k=0∨marks.getD (k-1) false=false
  ·rw [if_neg (by rintro ⟨a,b,_⟩;rcases hp with hp|hp;omega;rw [hp]at b;cases b)];refine⟨⟨fun s hs=>?_,?_⟩,fun t ht=>?_,fun _ _=>?_,fun hh=>?_⟩
   ·rcases az.1 hs with hs|hs
    ·exact h.norm.g s hs
    ·rw [ar.1 hs];exact Kn ha hk
   ·refine jM.2 ⟨h.norm.p,sX _ _,fun s hs u hu=>?_⟩;rw [ar.1 hu];obtain⟨a,b,c⟩:=h.idle hp s hs;refine⟨a,aa om,?_⟩;show s.hi<if 0<k then cuts.getD (k-1) 0 else 0
    rw [if_pos om];have:=ha (k-2) (k-1) om om;grind
   ·rw [hg,←h.mem t ht,hm];simp only [gH];rw [←CC hk];unfold oZ;constructor
    ·rintro ⟨s,hs,hi⟩;rcases az.1 hs with hs|hs
     ·exact .inl ⟨s,hs,hi⟩
     ·rw [ar.1 hs]at hi;exact .inr hi
    ·rintro (⟨s,hs,hi⟩|hi)
     ·exact⟨s,cG _ hs,hi⟩
     ·exact⟨_,cN _ Ms,hi⟩
   ·rw [dZ];refine⟨out,oN cuts k,rfl,rfl,rfl,?_⟩;by_cases e:k=cuts.length
    ·exact .inr (.inr e)
    ·by_cases e0:k=0
     ·left;exact a9 e0
     ·right;left;show(if 0<k then cuts.getD (k-1) 0 else 0)<_
      rw [if_pos om];exact ha _ _ om om
   ·rw [dZ,hm]at hh;rcases hh with hh|hh <;> cases hh
  ·rw [not_or]at hp;have hp1:marks.getD (k-1) false=true:=by simpa using hp.2
   obtain⟨init,l,e,l1,l2,l3⟩:=h.last om hp1;rw [if_pos om]at l2;have hl1:l.nh=false:=by rw [l1];exact aa om
   rw [if_pos ⟨om,hp1,by rw [e];simp⟩]
   have hset:out.set (out.length-1) ⟨(out.getD (out.length-1) Spn.full).lo,(oN cuts k).hi,(out.getD (out.length-1) Spn.full).nl,(oN cuts k).nh⟩=init++[⟨l.lo,(oN cuts k).hi,l.nl,(oN cuts k).nh⟩]:=by
    have hlen:out.length-1=init.length:=by rw [e];simp
    have hgd:out.getD (out.length-1) Spn.full=l:=by rw [hlen,e,cR,lI (au _),iV];rfl
    rw [hgd,hlen,e,kD _ _ (au _),iV];rfl
   rw [hset];have hn:=h.norm;rw [e]at hn;obtain⟨p1,p2,p3⟩:=jM.1 hn.p;have gl:=hn.g l (by simp)
   have hlast:l.nl=true∨l.lo<cuts.getD (k-1) 0:=by
    rcases l3 with l3|l3|l3
    ·exact .inl l3
    ·exact .inr l3
    ·omega
   refine⟨⟨fun s hs=>?_,?_⟩,fun t ht=>?_,fun _ _=>?_,fun hh=>?_⟩
   ·rcases az.1 hs with hs|hs
    ·exact hn.g s (cG _ hs)
    ·rw [ar.1 hs];refine⟨gl.lo,(Kn ha hk).hi,fun h1 h2=>?_⟩;have hlo:=hlast.resolve_left (by rw [h1];decide);have h2':¬k=cuts.length:=kX h2;show l.lo<if k<cuts.length then cuts.getD k 0 else 0
     rw [if_pos om];have:=ha (k-1) k om om;grind
   ·refine jM.2 ⟨p1,sX _ _,fun s hs u hu=>?_⟩;rw [ar.1 hu];exact p3 s hs l (by simp)
   ·rw [hg,←h.mem t ht,hm];simp only [gH]
    have hne:t≠cuts.getD (k-1) 0:=fun e=>ht (by
     rw [e,cR,aA (show k-1<cuts.length by omega)];exact fg _)
    have key:InS ⟨l.lo,(oN cuts k).hi,l.nl,(oN cuts k).nh⟩ t↔InS l t∨Gap cuts k t:=by
     rw [←CC hk];have e1:(oN cuts k).nl=false:=aa om;have e2:(oN cuts k).lo=cuts.getD (k-1) 0:=if_pos om
     have e3:(oN cuts k).nh=true∨cuts.getD (k-1) 0<(oN cuts k).hi:=by
      by_cases e:k=cuts.length
      ·left;exact a9 e
      ·right;show _<if k<cuts.length then cuts.getD k 0 else 0
       rw [if_pos om];exact ha _ _ om om
     unfold InS;simp only;rw [e1,e2,hl1,l2];generalize(oN cuts k).nh=nh at *;generalize(oN cuts k).hi=hi at *;generalize cuts.getD (k-1) 0=c at *;simp only [bE,jw];constructor
     ·rintro ⟨a,b⟩;by_cases htc:t<c
      ·exact .inl ⟨a,htc⟩
      ·exact .inr ⟨by grind,b⟩
     ·rintro (⟨a,b⟩|⟨a,b⟩)
      ·exact⟨a,e3.imp id (fun k=>by grind)⟩
      ·exact⟨hlast.imp id (fun k=>by grind),b⟩
    unfold oZ;rw [e];constructor
    ·rintro ⟨s,hs,hi⟩;rcases az.1 hs with hs|hs
     ·exact .inl ⟨s,cG _ hs,hi⟩
     ·rw [ar.1 hs,key]at hi;exact hi.imp (fun k=>⟨l,by simp,k⟩) id
    ·rintro (⟨s,hs,hi⟩|hi)
     ·rcases az.1 hs with hs|hs
      ·exact⟨s,cG _ hs,hi⟩
      ·rw [ar.1 hs]at hi;exact⟨_,cN _ Ms,key.2 (.inl hi)⟩
     ·exact⟨_,cN _ Ms,key.2 (.inr hi)⟩
   ·rw [dZ];refine⟨init,_,rfl,rfl,rfl,?_⟩;by_cases e:k=cuts.length
    ·exact .inr (.inr e)
    ·rcases hlast with h1|h1
     ·exact .inl h1
     ·right;left;have:=ha (k-1) k om om;show l.lo<_
      grind
   ·rw [dZ,hm]at hh;rcases hh with hh|hh <;> cases hh
theorem AN {cuts:List Rat}{marks:List Bool}(ha:JJ cuts):∀k,k≤cuts.length+1→I2 cuts marks k ((List.range k).foldl (gU cuts marks) [])
 |0,_=>FI cuts marks
 |k+1,h=>by
  rw [iU,kE];exact FJ ha om (AN ha k om)
theorem MB {cuts:List Rat}{marks:List Bool}(ha:JJ cuts) (hl:marks.length=cuts.length+1):mF (yP cuts marks)∧∀t,t∉cuts→(oZ (yP cuts marks) t↔∃i,marks.getD i false=true∧Gap cuts i t):=by
 have h:=AN (marks:=marks) ha (cuts.length+1) (au _);rw [←hl]at h;refine⟨h.norm,fun t ht=>(h.mem t ht).trans ⟨fun⟨i,_,b⟩=>⟨i,b⟩,fun⟨i,a,b⟩=>⟨i,?_,a,b⟩⟩⟩;rcases aJ i marks.length with k|k
 ·exact k
 ·rw [cR,df k]at a;cases a
theorem Ck {cuts:List Rat}(h:cuts.Pairwise (· < ·)):JJ cuts:=fun i j hij hj=>by
 rw [cR,cR,aA (show i<cuts.length by omega),aA hj];exact p5.1 h i j om hj hij
theorem Gy {x y:Rat}:rlt x y=true↔x<y:=by
 rw [cC,jk];grind
theorem Cu {α:Type}{f:α→Bool}:∀(l:List α),∀x∈l.take (l.takeWhile f).length,f x=true
 | [],x,h=>by simp at h
 |a::l,x,h=>by
  rw [t9]at h;split at h
  ·rename_i hf;rw [aF,gL]at h;rcases ak.1 h with e|e
   ·rw [e];exact hf
   ·exact Cu l x e
  ·simp at h
theorem uQ {out:List Rat}{x:Rat}(h:out.Pairwise (· < ·)):(lS rlt out x).Pairwise (· < ·):=by
 unfold lS;split
 ·exact h
 ·rename_i hne;unfold DQ;have h1:∀o∈out.take (lQ rlt out x),o<x:=fun o ho=>Gy.1 (Cu out o ho)
  have h2:∀o∈out.drop (lQ rlt out x),x<o:=fun o ho=>by
   have hfirst:∀o0,out[lQ rlt out x]? = some o0→x<o0:=fun o0 e=>by
    have hn:rlt o0 x=false:=wT (f:=fun o=>rlt o x) e;have:¬o0<x:=fun k=>by rw [Gy.2 k]at hn;cases hn
    have:o0≠x:=fun k=>hne (by rw [e,k])
    grind
   obtain⟨k,hk,e⟩:=kB.1 ho;rw [cO]at hk;rw [sY]at e;have e0:=hfirst _ (aA (show lQ rlt out x<out.length by omega));by_cases hk0:k=0
   ·subst hk0;rw [←e];exact e0
   ·have:=p5.1 h (lQ rlt out x) (lQ rlt out x+k) om om om;rw [e]at this;grind
  refine jM.2 ⟨h.sublist (rO _ _),eC.2 ⟨h2,h.sublist (List.drop_sublist _ _)⟩,fun a ha b hb=>?_⟩;rcases ak.1 hb with e|e
  ·rw [e];exact h1 a ha
  ·have:=h1 a ha;have:=h2 b e;grind
theorem Ju {out:List Rat}{s:Spn}(h:out.Pairwise (· < ·)):(mD out s).Pairwise (· < ·):=by
 unfold mD;simp only;split
 ·split
  ·exact h
  ·exact uQ h
 ·split
  ·exact uQ h
  ·exact uQ (uQ h)
theorem B0:∀(l:List Spn){out:List Rat},out.Pairwise (· < ·)→(l.foldl mD out).Pairwise (· < ·)
 | [],_,h=>h
 |s::l,_,h=>by rw [gX];exact B0 l (Ju h)
theorem yW (l:List Spn):(fW l).Pairwise (· < ·):=B0 l List.Pairwise.nil
theorem Jt {out:List Rat}{s:Spn}{y:Rat}:y∈mD out s↔y∈out∨(s.nl=false∧y=s.lo)∨(s.nh=false∧y=s.hi):=by
 unfold mD;simp only;cases s.nl <;> cases s.nh <;> simp [pG] <;> grind
theorem AZ:∀(l:List Spn){out:List Rat}{y:Rat},y∈l.foldl mD out↔y∈out∨∃s∈l,(s.nl=false∧y=s.lo)∨(s.nh=false∧y=s.hi)
 | [],_,_=>by simp
 |s::l,out,y=>by
  rw [gX,AZ l,Jt];simp only [ak,exists_eq_or_imp];exact or_assoc
theorem i9 {l:List Spn}{y:Rat}:y∈fW l↔∃s∈l,(s.nl=false∧y=s.lo)∨(s.nh=false∧y=s.hi):=by
 unfold fW;rw [AZ];simp
theorem Af {cuts:List Rat}(ha:cuts.Pairwise (· < ·)){i:Nat}(hi:i≤cuts.length):Gap cuts i ((iN cuts).getD i 0):=by
 cases cuts with
 |nil =>
  have:i=0:=by simpa using hi
  subst this;exact⟨.inl rfl, .inl rfl⟩
 |cons c cs =>
  have hz:(List.zipWith mQ (c::cs) cs).length=cs.length:=by simp
  have has:=Ck ha;unfold iN;cases i with
  |zero =>
   refine⟨.inl rfl, .inr ?_⟩;show c-1<c
   grind
  |succ i =>
   rw [aF]at hi;rw [List.getD_cons_succ];by_cases e:i=cs.length
   ·refine⟨.inr ?_, .inl (by rw [e];rfl)⟩;rw [dZ,cR (l:=List.zipWith mQ (c::cs) cs++_),lI om,hz,e,iV]
    have:(c::cs).getD cs.length 0=(c::cs).getLast (by simp):=by
     rw [cR,xy];simp
    rw [this];show _<(c::cs).getLast _+1
    grind
   ·have hlt:i<cs.length:=by omega
    have e1:(List.zipWith mQ (c::cs) cs++[(c::cs).getLast (by simp)+1]).getD i 0=mQ ((c::cs).getD i 0) ((c::cs).getD (i+1) 0):=by
     rw [cR,fD om,aA om,List.getElem_zipWith,cR,cR,aA (show i<(c::cs).length by simp;omega),gg,aA hlt];rfl
    rw [e1];obtain⟨m1,m2⟩:=qy (has i (i+1) om (by simp;omega));exact⟨.inr (by rw [dZ];exact m1), .inr m2⟩
theorem uV {cuts:List Rat}(ha:cuts.Pairwise (· < ·)){i:Nat}(hi:i≤cuts.length){t u:Rat}(ht:Gap cuts i t) (hu:Gap cuts i u){y:Rat}(hy:y∈cuts):(y<t↔y<u)∧(t<y↔u<y):=by
 have has:=Ck ha;obtain⟨j,hj,e⟩:=kB.1 hy;have ey:cuts.getD j 0=y:=by rw [cR,aA hj,←e];rfl
 by_cases hji:j<i
 ·have h1:y<t∧y<u:=by
   have hle:=zy has (show j≤i-1 by omega) om;rw [ey]at hle;obtain⟨a,_⟩:=ht;obtain⟨b,_⟩:=hu;have a:=a.resolve_left om;have b:=b.resolve_left om;grind
  grind
 ·have h1:t<y∧u<y:=by
   have hle:=zy has (show i≤j by omega) om;rw [ey]at hle;obtain⟨_,a⟩:=ht;obtain⟨_,b⟩:=hu;have a:=a.resolve_left om;have b:=b.resolve_left om;grind
  grind
theorem Mw {cuts:List Rat}(ha:cuts.Pairwise (· < ·)){i:Nat}(hi:i≤cuts.length){t:Rat}(ht:Gap cuts i t):t∉cuts:=fun hm=>by
 obtain⟨j,hj,e⟩:=kB.1 hm;have has:=Ck ha;have ey:cuts.getD j 0=t:=by rw [cR,aA hj,←e];rfl
 by_cases hji:j<i
 ·have hle:=zy has (show j≤i-1 by omega) om;have:=ht.1.resolve_left om;grind
 ·have hle:=zy has (show i≤j by omega) om;have:=ht.2.resolve_left om;grind
theorem RK {cuts:List Rat}{t:Rat}(ht:t∉cuts):∃i,i≤cuts.length∧Gap cuts i t:=by
 have key:∀k,k≤cuts.length→(∃i,i<k∧Gap cuts i t)∨(k=0∨cuts.getD (k-1) 0<t):=fun k=>by
  induction k with
  |zero=>exact fun _ => .inr (.inl rfl)
  |succ k ih =>
   intro hk;rcases ih om with⟨i,h1,h2⟩|h
   ·exact .inl ⟨i,om,h2⟩
   ·have hne:t≠cuts.getD k 0:=fun e=>ht (by
     rw [e,cR,aA (show k<cuts.length by omega)];exact fg _)
    by_cases h1:t<cuts.getD k 0
    ·exact .inl ⟨k,om,h, .inr h1⟩
    ·right;right;rw [dZ];grind
 rcases key cuts.length (au _)with⟨i,h1,h2⟩|h
 ·exact⟨i,om,h2⟩
 ·exact⟨cuts.length,au _,h, .inl rfl⟩
theorem xi {l:List Spn}{t:Rat}(ht:t∉fW l):inL l t=true↔oZ l t:=by
 rw [cC]
 have key:∀l':List Spn,(∀s∈l',s∈l)→(wm l' t=2↔oZ l' t):=fun l'=>by
  induction l' with
  |nil=>exact fun _=>⟨fun h=>(by cases h),fun⟨s,h,_⟩=>(by cases h)⟩
  |cons s l' ih =>
   intro hs;have hsl:=hs s Ms
   have h1:s.nl=true∨t≠s.lo:=by
    cases h:s.nl with
    |true=>exact .inl rfl
    |false=>exact .inr fun e=>ht (i9.2 ⟨s,hsl, .inl ⟨h,e⟩⟩)
   have h2:s.nh=true∨t≠s.hi:=by
    cases h:s.nh with
    |true=>exact .inl rfl
    |false=>exact .inr fun e=>ht (i9.2 ⟨s,hsl, .inr ⟨h,e⟩⟩)
   have hc:JB s t=2∧InS s t∨JB s t=0∧¬InS s t:=by
    unfold JB InS;simp only;have s1:(t-s.lo).num.sign=0↔t=s.lo:=by rw [e7];grind
    have s2:(t-s.hi).num.sign=0↔t=s.hi:=by rw [e7];grind
    have s3:0<(t-s.lo).num.sign↔s.lo<t:=by rw [eR];grind
    have s4:(t-s.hi).num.sign<0↔t<s.hi:=by rw [jk];grind
    generalize(t-s.lo).num.sign=a at *;generalize(t-s.hi).num.sign=b at *;cases hn:s.nl <;> cases hh:s.nh <;> rw [hn]at h1 <;> rw [hh]at h2 <;> simp only [aV,bE,aO,jw,kC,gH,gJ]at h1 h2⊢
    ·have:a≠0:=fun e=>h1 (s1.1 e)
     have:b≠0:=fun e=>h2 (s2.1 e)
     by_cases k:0<a∧b<0
     ·rw [if_pos k];exact .inl ⟨rfl,s3.1 k.1,s4.1 k.2⟩
     ·rw [if_neg k,if_neg om];exact .inr ⟨rfl,fun h=>k ⟨s3.2 h.1,s4.2 h.2⟩⟩
    ·have:a≠0:=fun e=>h1 (s1.1 e)
     by_cases k:0<a
     ·rw [if_pos ⟨k,by decide⟩];exact .inl ⟨rfl,s3.1 k⟩
     ·rw [if_neg om,if_neg om];exact .inr ⟨rfl,fun h=>k (s3.2 h)⟩
    ·have:b≠0:=fun e=>h2 (s2.1 e)
     by_cases k:b<0
     ·rw [if_pos ⟨by decide,k⟩];exact .inl ⟨rfl,s4.1 k⟩
     ·rw [if_neg om,if_neg om];exact .inr ⟨rfl,fun h=>k (s4.2 h)⟩
    ·rw [if_pos ⟨by decide,by decide⟩];exact .inl rfl
   have ihh:=ih fun x hx=>hs x (Mc hx)
   unfold wm;rcases hc with⟨c1,c2⟩|⟨c1,c2⟩
   ·rw [c1,if_neg (by decide)];exact⟨fun _=>⟨s,Ms,c2⟩,fun _=>rfl⟩
   ·rw [c1,if_pos rfl,ihh];constructor
    ·rintro ⟨u,hu,hi⟩;exact⟨u,Mc hu,hi⟩
    ·rintro ⟨u,hu,hi⟩;rcases ak.1 hu with rfl|hu
     ·exact absurd hi c2
     ·exact⟨u,hu,hi⟩
 exact key l fun _ h=>h
theorem Hp {l:List Spn}{cuts:List Rat}(ha:cuts.Pairwise (· < ·)) (hc:∀y∈fW l,y∈cuts){i:Nat}(hi:i≤cuts.length){t u:Rat}(ht:Gap cuts i t) (hu:Gap cuts i u):inL l t=inL l u:=by
 have h1:=xi (l:=l) (t:=t) fun k=>Mw ha hi ht (hc t k)
 have h2:=xi (l:=l) (t:=u) fun k=>Mw ha hi hu (hc u k)
 have:oZ l t↔oZ l u:=by
  have hs:∀s∈l,(InS s t↔InS s u):=fun s hs=>by
   unfold InS;cases hn:s.nl <;> cases hh:s.nh <;> simp only [bE,jw,kC,gH,gJ]
   ·have g1:=uV ha hi ht hu (hc s.lo (i9.2 ⟨s,hs, .inl ⟨hn,rfl⟩⟩));have g2:=uV ha hi ht hu (hc s.hi (i9.2 ⟨s,hs, .inr ⟨hh,rfl⟩⟩));rw [g1.1,g2.2]
   ·exact(uV ha hi ht hu (hc s.lo (i9.2 ⟨s,hs, .inl ⟨hn,rfl⟩⟩))).1
   ·exact(uV ha hi ht hu (hc s.hi (i9.2 ⟨s,hs, .inr ⟨hh,rfl⟩⟩))).2
  exact⟨fun⟨s,a,b⟩=>⟨s,a,(hs s a).1 b⟩,fun⟨s,a,b⟩=>⟨s,a,(hs s a).2 b⟩⟩
 rw [kA,h1,h2,this]
theorem DX {cuts:List Rat}(ha:cuts.Pairwise (· < ·)) (f:Rat→Bool) (hf:∀i t u,i≤cuts.length→Gap cuts i t→Gap cuts i u→f t=f u) :
  mF (yP cuts ((iN cuts).map f))∧∀t,t∉cuts→(oZ (yP cuts ((iN cuts).map f)) t↔f t=true):=by
 obtain⟨h1,h2⟩:=MB (marks:=(iN cuts).map f) (Ck ha) (by rw [cK,qt])
 have hm:∀i,i≤cuts.length→((iN cuts).map f).getD i false=f ((iN cuts).getD i 0):=fun i hi=>by
  have hl:i<(iN cuts).length:=by rw [qt];omega
  rw [cR,jg,cR,aA hl];rfl
 refine⟨h1,fun t ht=>(h2 t ht).trans ⟨?_,fun h=>?_⟩⟩
 ·rintro ⟨i,hi,g⟩
  have hle:i≤cuts.length:=by
   rcases aJ cuts.length i with k|k
   ·rw [cR,df (by rw [cK,qt];omega)]at hi;cases hi
   ·exact k
  rw [hm i hle]at hi;rw [hf i t _ hle g (Af ha hle)];exact hi
 ·obtain⟨i,hi,g⟩:=RK ht;exact⟨i,by rw [hm i hi,←hf i t _ hi g (Af ha hi)];exact h,g⟩
theorem Ee (op:Int) (a b:List Spn):mF (qR op a b)∧∀t,t∉fW (a++b)→(oZ (qR op a b) t↔opB op (inL a t) (inL b t)=true):=by
 have ha:∀y∈fW a,y∈fW (a++b):=fun y hy=>by
  obtain⟨s,h1,h2⟩:=i9.1 hy;exact i9.2 ⟨s,cG _ h1,h2⟩
 have hb:∀y∈fW b,y∈fW (a++b):=fun y hy=>by
  obtain⟨s,h1,h2⟩:=i9.1 hy;exact i9.2 ⟨s,cN _ h1,h2⟩
 exact DX (yW _) (fun t=>opB op (inL a t) (inL b t)) fun i t u hi ht hu=>by
  rw [Hp (yW _) ha hi ht hu,Hp (yW _) hb hi ht hu]
theorem Q9 (a:Li) (p v:Pq) (t:Rat):af a (iQ p t v)=af a p+t*(af a (iQ p 1 v)-af a p):=by unfold af iQ;simp only;grind
theorem JU (a l:Li) (p:Pq):af a (iQ p 1 (-(cM l).2,(cM l).1))-af a p=(a.a:Rat)*l.a+a.b*l.b:=by unfold af iQ cM;simp only;grind
theorem IX {V K:Rat}(hV:0<V) (hK:K<0):0 < -(V/K)∧∀s,0<s→s≤-(V/K)/2→0<V+s*K:=by
 obtain⟨u,hu⟩:∃u,u = -(V/K):=⟨_,rfl⟩
 have e:u * -K=V:=by rw [hu,Rat.neg_mul,Rat.mul_neg,Rat.neg_neg];exact g8 (by grind)
 rw [←hu];clear hu
 have h0:0<u:=by
  rcases g9 (a:=u) (b:=0)with k|k
  ·have:=dk (show 0≤-u by grind) (show 0≤-K by grind);grind
  ·by_cases e':u=0
   ·rw [e']at e;grind
   ·grind
 refine⟨h0,fun s hs h=>?_⟩;have:=dk (show 0≤u/2-s by grind) (show 0≤-K by grind);have e2:u/2 * -K=V/2:=by grind
 grind
theorem Dy (p v:Pq) (s:Rat) (a:Li) (hs:0<s):0<gS p v s a∧gS p v s a≤s∧(af a p≠0→af a (iQ p 1 v)-af a p≠0→0 < -(af a p/(af a (iQ p 1 v)-af a p))→gS p v s a≤-(af a p/(af a (iQ p 1 v)-af a p))/2):=by
 unfold gS gR;generalize -(af a p/(af a (iQ p 1 v)-af a p))=u;generalize af a (iQ p 1 v)-af a p=k;split
 ·rename_i h;rw [e7,e7]at h;exact⟨hs,bP,fun a b _=>(h.elim b a).elim⟩
 ·split
  ·rename_i h;rw [eR,jk]at h;exact⟨by grind,by grind,fun _ _ _=>bP⟩
  ·rename_i h;rw [eR,jk]at h;exact⟨hs,bP,fun _ _ h'=>by grind⟩
theorem Dz (p v:Pq):∀(c:List Li) (s:Rat),0<s→0<c.foldl (gS p v) s∧c.foldl (gS p v) s≤s∧∀a∈c,af a p≠0→af a (iQ p 1 v)-af a p≠0→0 < -(af a p/(af a (iQ p 1 v)-af a p))→c.foldl (gS p v) s≤-(af a p/(af a (iQ p 1 v)-af a p))/2
 | [],s,hs=>⟨hs,bP,fun a h=>by cases h⟩
 |m::c,s,hs=>by
  obtain⟨a1,a2,a3⟩:=Dy p v s m hs;obtain⟨b1,b2,b3⟩:=Dz p v c _ a1;rw [gX];refine⟨b1,Rat.le_trans b2 a2,fun a ha h1 h2 h3=>?_⟩;rcases ak.1 ha with e|e
  ·rw [e]at h1 h2 h3⊢;exact Rat.le_trans b2 (a3 h1 h2 h3)
  ·exact b3 a e h1 h2 h3
theorem DU {c:List Li}{i:Nat}{l:Li}(hl:l.ok) (hi:c[i]? = some l) (h:(eU c i).2=true):Inn c (uR c i l):=fun m hm=>by
 obtain⟨a,t,b⟩:=HH hl hi h;have hs:=lN (pd b);unfold uR Aw;obtain⟨p,hp⟩:∃p,p=atL l (dp (eU c i).1):=⟨_,rfl⟩
 have hz:af l p=0:=by rw [hp];exact sN hl _
 have hv:=(a _).1 hs;rw [←hp]at hv⊢;obtain⟨n1,_,n3⟩:=Dz p (-(cM l).2,(cM l).1) c 1 (by decide);rw [Q9];by_cases hml:m=l
 ·rw [hml,JU,hz,nA];exact ez n1 (jr hl)
 ·have h1:=hv m hm hml;have h3:=n3 m hm (fun e=>by rw [e]at h1;exact absurd h1 (by decide));generalize List.foldl (gS p (-(cM l).2,(cM l).1)) 1 c=s at *;generalize af m (iQ p 1 (-(cM l).2,(cM l).1))-af m p=k at *;by_cases hk:k<0
  ·obtain⟨g1,g2⟩:=IX h1 hk;exact g2 s n1 (h3 (by grind) g1)
  ·have:=dk (f8 n1) (ig.1 hk);grind
theorem tQ {c:List Li}(hc:∀l∈c,l.ok):∀(d:List Li) (i:Nat),(∀k l,d[k]? = some l→c[i+k]? = some l)→
  (∀p,ku c i d=some p→Inn c p)∧(ku c i d=none→∀l∈d,¬Edg c l)
 | [],_,_=>⟨fun p h=>(by cases h),fun _ l h=>(by cases h)⟩
 |l::d,i,hd=>by
  have hi:c[i]? = some l:=by have:=hd 0 l rfl;simpa using this
  have hl:l.ok:=hc l (bn hi);unfold ku;cases h:(eU c i).2 with
  |true =>
   rw [if_pos rfl];exact⟨fun p e=>(bZ e)▸DU hl hi h,fun e=>(by cases e)⟩
  |false =>
   rw [if_neg (by decide)];obtain⟨a,b⟩:=tQ hc d (i+1) (fun k l h=>by rw [show i+1+k=i+(k+1) by omega];exact hd (k+1) l (by rw [gg];exact h));refine⟨a,fun e l' hl'=>?_⟩;rcases ak.1 hl' with e'|e'
   ·rw [e',←wc hl hi,h];decide
   ·exact b e l' e'
theorem FA {c:List Li}(hc:∀l∈c,l.ok){p:Pq}(h:fH c=some p):Inn c p:=by
 unfold fH at h;split at h
 ·rename_i e;rw [e];intro l hl;cases hl
 ·exact(tQ hc c 0 (fun k l h=>by rw [aB];exact h)).1 p h
theorem DT {c:List Li}(hc:∀l∈c,l.ok):(fH c).isSome=true↔∃q,Inn c q:=by
 constructor
 ·intro h;obtain⟨p,hp⟩:=sW.1 h;exact⟨p,FA hc hp⟩
 ·rintro ⟨q,hq⟩;by_cases e:c=[]
  ·unfold fH;rw [if_pos e];rfl
  ·cases h:fH c with
   |some p=>rfl
   |none =>
    unfold fH at h;rw [if_neg e]at h;obtain⟨m,hm,hE⟩:=Inn.edge hc hq e;exact absurd hE ((tQ hc c 0 (fun k l h=>by rw [aB];exact h)).2 h m hm)
theorem tW (c:List Li):∀(l:List Nat) (out:List Li) (y:Li),y∈l.foldl (fY c) out↔(∃i∈l,(eU c i).2=true∧y=c.getD i ⟨0,0,0⟩)∨y∈out
 | [],out,y=>by simp
 |i::l,out,y=>by
  rw [gX,tW c l];unfold fY;cases h:(eU c i).2 with
  |true =>
   rw [if_pos rfl,pG];constructor
   ·rintro (⟨j,hj,h1,h2⟩|h1|h1)
    ·exact .inl ⟨j,Mc hj,h1,h2⟩
    ·exact .inl ⟨i,Ms,h,h1⟩
    ·exact .inr h1
   ·rintro (⟨j,hj,h1,h2⟩|h1)
    ·rcases ak.1 hj with e|e
     ·rw [e]at h2;exact .inr (.inl h2)
     ·exact .inl ⟨j,e,h1,h2⟩
    ·exact .inr (.inr h1)
  |false =>
   rw [if_neg (by decide)];constructor
   ·rintro (⟨j,hj,h1,h2⟩|h1)
    ·exact .inl ⟨j,Mc hj,h1,h2⟩
    ·exact .inr h1
   ·rintro (⟨j,hj,h1,h2⟩|h1)
    ·rcases ak.1 hj with e|e
     ·rw [e,h]at h1;cases h1
     ·exact .inl ⟨j,e,h1,h2⟩
    ·exact .inr h1
theorem tY {c:List Li}(hc:∀l∈c,l.ok){y:Li}:y∈qN c↔y∈c∧Edg c y:=by
 unfold qN;rw [tW];constructor
 ·rintro (⟨i,hi,h1,h2⟩|h)
  ·have hi:=dE.1 hi;have e:=aA hi;have e2:c.getD i ⟨0,0,0⟩=c[i]:=by rw [cR,e];rfl
   have hm:c[i]∈c:=fg hi;rw [h2,e2];exact⟨hm,(wc (hc _ hm) e).1 h1⟩
  ·cases h
 ·rintro ⟨h1,h2⟩;obtain⟨i,hi,e⟩:=kB.1 h1;have e1:c[i]? = some y:=by rw [aA hi,e]
  exact .inl ⟨i,dE.2 hi,(wc (hc y h1) e1).2 h2,by rw [cR,e1];rfl⟩
theorem FY {c:List Li}(hc:∀l∈c,l.ok) (hn:∃q,Inn c q) (p:Pq):Inn (qN c) p↔Inn c p:=by
 obtain⟨q,hq⟩:=hn;exact⟨fun h=>Inn.kept hc hq (fun m hm he=>(tY hc).2 ⟨hm,he⟩) h,fun h l hl=>h l ((tY hc).1 hl).1⟩
theorem mP (l:Li) (p:Pq):af l.neg p = - af l p:=by
 unfold af Li.neg;simp only [gF];grind
theorem Li.ok.neg {l:Li}(h:l.ok):l.neg.ok:=by
 refine⟨?_,?_⟩
 ·show Nat.gcd (Nat.gcd (-l.a).natAbs (-l.b).natAbs) (-l.c).natAbs=1
  rw [jC,jC,jC];exact h.1
 ·rcases h.2 with k|k
  ·left;show -l.a≠0;omega
  ·right;show -l.b≠0;omega
def Lft (I:Pq→Prop) (l:Li):Prop:=∃q,I q∧0<af l q
def Rgt (I:Pq→Prop) (l:Li):Prop:=∃q,I q∧af l q<0
theorem nR {c:List Li}{l:Li}{q:Pq}:Inn (c++[l]) q↔Inn c q∧0<af l q:=by
 unfold Inn;constructor
 ·intro h;exact⟨fun m hm=>h m (cG _ hm),h l (cN _ Ms)⟩
 ·rintro ⟨h1,h2⟩ m hm;rcases az.1 hm with hm|hm
  ·exact h1 m hm
  ·rw [ar]at hm;rw [hm];exact h2
theorem uf {c:List Li}{l:Li}(hc:∀l∈c,l.ok) (hl:l.ok):∀m∈c++[l],m.ok:=fun m hm=>by
 rcases az.1 hm with hm|hm
 ·exact hc m hm
 ·rw [ar]at hm;rw [hm];exact hl
theorem yI {c:List Li}{l:Li}(hc:∀l∈c,l.ok) (hl:l.ok):(fH (c++[l])).isSome=true↔Lft (Inn c) l:=by
 rw [DT (uf hc hl)];exact⟨fun⟨q,h⟩=>⟨q,nR.1 h⟩,fun⟨q,h⟩=>⟨q,nR.2 h⟩⟩
theorem DR {c:List Li}{l:Li}(hc:∀l∈c,l.ok) (hl:l.ok):(fH (c++[l.neg])).isSome=true↔Rgt (Inn c) l:=by
 rw [yI hc hl.neg];unfold Lft Rgt;have:∀q,0<af l.neg q↔af l q<0:=fun q=>by rw [mP];grind
 simp only [this]
theorem Inn.side {c:List Li}{l:Li}(hl:l.ok){q:Pq}(hq:Inn c q):Lft (Inn c) l∨Rgt (Inn c) l:=by
 by_cases h:af l q<0
 ·exact .inr ⟨q,hq,h⟩
 ·obtain⟨e,he,hs⟩:=oO (fun j=>af j q) (fun j=>(j.a:Rat)*l.a+j.b*l.b) c hq;refine .inl ⟨(q.1+e*l.a,q.2+e*l.b),fun j hj=>by rw [fU];exact hs j hj e he bP,?_⟩;rw [fU];have:=ez he (jr hl);grind
theorem wz {c:List Li}{l:Li}(hc:∀l∈c,l.ok) (hl:l.ok) :
  (mv c l=0↔Lft (Inn c) l∧Rgt (Inn c) l)∧(mv c l=1↔Lft (Inn c) l∧¬Rgt (Inn c) l)∧(mv c l = -1↔¬Lft (Inn c) l):=by
 have h1:=yI hc hl;have h2:=DR hc hl;unfold mv;cases e1:(fH (c++[l])).isSome with
 |true =>
  cases e2:(fH (c++[l.neg])).isSome with
  |true =>
   have a:=h1.1 e1;have b:=h2.1 e2;simp [a,b]
  |false =>
   have a:=h1.1 e1;have b:¬Rgt (Inn c) l:=fun h=>by have:=h2.2 h;rw [e2]at this;cases this
   simp [a,b]
 |false =>
  have a:¬Lft (Inn c) l:=fun h=>by have:=h1.2 h;rw [e1]at this;cases this
  simp [a]
def Tr.lok:Tr→Prop
 | .leaf _=>True
 | .node l a b=>l.ok∧a.lok∧b.lok
open Classical in
noncomputable def kQ:Tr→(Pq→Prop)→Tr
 | .leaf i,_ => .leaf i
 | .node l a b,I=>if¬Rgt I l then kQ a I else if¬Lft I l then kQ b I else o9 l (kQ a fun q=>I q∧0<af l q) (kQ b fun q=>I q∧af l q<0)
noncomputable def vf (op:Int) (i:Bool) (b:Tr) (I:Pq→Prop):Tr :=
 if op=1∧i=true then .leaf true else if(op=2∨op=3)∧i=false then .leaf false else if(op=3∨op=4)∧i=true then ml (kQ b I)else kQ b I
open Classical in
noncomputable def jI (op:Int):Tr→Tr→(Pq→Prop)→Tr
 | .leaf i,b,I=>vf op i b I
 | .node l x y,b,I=>if¬Rgt I l then jI op x b I else if¬Lft I l then jI op y b I else o9 l (jI op x b fun q=>I q∧0<af l q) (jI op y b fun q=>I q∧af l q<0)
theorem BN (l:Li) (q:Pq):0<af l.neg q↔af l q<0:=by rw [mP];grind
theorem pb {c:List Li}{l:Li}(hc:∀l∈c,l.ok) (hl:l.ok) (h:Lft (Inn c) l):Inn (iL c l)=fun q=>Inn c q∧0<af l q:=by
 funext q
 refine propext ?_;unfold iL;rw [FY (uf hc hl) (h.imp fun q hq=>nR.2 hq),nR]
theorem qj {c:List Li}{l:Li}(hc:∀l∈c,l.ok) (hl:l.ok) (h:Rgt (Inn c) l):Inn (iL c l.neg)=fun q=>Inn c q∧af l q<0:=by
 rw [pb hc hl.neg (h.imp fun q hq=>⟨hq.1,(BN l q).2 hq.2⟩)];funext q
 rw [BN]
theorem ua {c:List Li}{l:Li}(hc:∀l∈c,l.ok) (hl:l.ok):∀m∈iL c l,m.ok:=fun m hm=>uf hc hl m ((tY (uf hc hl)).1 hm).1
theorem nV:∀{t:Tr}{c:List Li},t.lok→(∀l∈c,l.ok)→(∃q,Inn c q)→dI t c=kQ t (Inn c)
 | .leaf i,c,_,_,_=>rfl
 | .node l a b,c,⟨hl,ha,hb⟩,hc,hn=>by
  obtain⟨q,hq⟩:=hn;obtain⟨p0,p1,p2⟩:=wz hc hl;unfold dI kQ;by_cases h1:Rgt (Inn c) l
  ·rw [if_neg (fun e=>(p1.1 e).2 h1)];rw [if_neg (show¬¬Rgt (Inn c) l from fun h=>h h1)];by_cases h2:Lft (Inn c) l
   ·rw [if_neg (fun e=>p2.1 e h2),if_neg (show¬¬Lft (Inn c) l from fun h=>h h2)];rw [nV ha (ua hc hl) (by rw [pb hc hl h2];exact h2),nV hb (ua hc hl.neg) (by rw [qj hc hl h1];exact h1),pb hc hl h2,qj hc hl h1]
   ·rw [if_pos (p2.2 h2),if_pos h2];exact nV hb hc ⟨q,hq⟩
  ·have h2:=(hq.side hl).resolve_right h1;rw [if_pos (p1.2 ⟨h2,h1⟩),if_pos h1];exact nV ha hc ⟨q,hq⟩
theorem pA {op:Int}:∀{t b:Tr}{c:List Li},t.lok→b.lok→(∀l∈c,l.ok)→(∃q,Inn c q)→fk op t b c=jI op t b (Inn c)
 | .leaf i,b,c,_,hb,hc,hn=>by
  unfold fk jI xq vf;rw [nV hb hc hn]
 | .node l x y,b,c,⟨hl,hx,hy⟩,hb,hc,hn=>by
  obtain⟨q,hq⟩:=hn;obtain⟨p0,p1,p2⟩:=wz hc hl;unfold fk jI;by_cases h1:Rgt (Inn c) l
  ·rw [if_neg (fun e=>(p1.1 e).2 h1)];rw [if_neg (show¬¬Rgt (Inn c) l from fun h=>h h1)];by_cases h2:Lft (Inn c) l
   ·rw [if_neg (fun e=>p2.1 e h2),if_neg (show¬¬Lft (Inn c) l from fun h=>h h2)];rw [pA hx hb (ua hc hl) (by rw [pb hc hl h2];exact h2),pA hy hb (ua hc hl.neg) (by rw [qj hc hl h1];exact h1),pb hc hl h2,qj hc hl h1]
   ·rw [if_pos (p2.2 h2),if_pos h2];exact pA hy hb hc ⟨q,hq⟩
  ·have h2:=(hq.side hl).resolve_right h1;rw [if_pos (p1.2 ⟨h2,h1⟩),if_pos h1];exact pA hx hb hc ⟨q,hq⟩
end Go.Ab
