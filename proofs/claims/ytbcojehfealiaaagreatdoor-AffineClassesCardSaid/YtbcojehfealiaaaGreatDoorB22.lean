/- Texts laid one behind the other: Set, Spl, Raw. -/
import Derived.Test.YtbcojehfealiaaaGreatDoorB21
set_option linter.all false
namespace Go.Ab
open Go.Proofs
variable [Base]
def iG (l:List Spn) (t:Rat):Prop:=∃s∈l,InS s t
def Bef (a b:Spn):Prop:=a.nh=false∧b.nl=false∧a.hi<b.lo
structure SpG (s:Spn):Prop where
 lo:s.nl=true→s.lo=0
 hi:s.nh=true→s.hi=0
 lt:s.nl=false→s.nh=false→s.lo<s.hi
structure gu (l:List Spn):Prop where
 g:∀s∈l,SpG s
 p:l.Pairwise Bef
theorem zZ (E:List Rat):∀{x y:Rat},x<y→∃t,x<t∧t<y∧t∉E:=by
 induction E with
 |nil=>exact fun {x y} h=>⟨gP x y,(jr h).1,(jr h).2,by simp⟩
 |cons e E ih =>
  intro x y h;by_cases he:x<e∧e<y
  ·obtain⟨t,h1,h2,h3⟩:=ih he.1;exact⟨t,h1,by grind,by simp only [List.mem_cons,not_or];exact⟨by grind,h3⟩⟩
  ·obtain⟨t,h1,h2,h3⟩:=ih h;exact⟨t,h1,h2,by simp only [List.mem_cons,not_or];exact⟨fun k=>he (k▸⟨h1,h2⟩),h3⟩⟩
theorem SpG.some {s:Spn}(h:SpG s):∃x y,x<y∧∀t,x<t→t<y→InS s t:=by
 obtain⟨lo,hi,nl,nh⟩:=s;have h3:=h.lt;unfold InS;simp only at *;cases nl <;> cases nh <;> simp only [Bool.false_eq_true,true_or,false_or,true_and,and_true,and_self]at *
 ·exact⟨lo,hi,by simpa using h3,fun t a b=>⟨a,b⟩⟩
 ·exact⟨lo,lo+1,by grind,fun t a b=>a⟩
 ·exact⟨hi-1,hi,by grind,fun t a b=>b⟩
 ·exact⟨0,1,by decide,fun _ _ _=>trivial⟩
theorem zv {s:Spn}{l:List Spn}(h:gu (s::l)){t:Rat}(ht:iG (s::l) t):s.nl=true∨s.lo<t:=by
 obtain⟨u,hu,h1⟩:=ht;rcases List.mem_cons.1 hu with rfl|hu
 ·exact h1.1
 ·have hb:=(List.pairwise_cons.1 h.p).1 u hu;cases hn:s.nl with
  |true=>exact .inl rfl
  |false =>
   right;have h2:=(h.g s Ms).lt hn hb.1;have h3:=h1.1.resolve_left (by rw [hb.2.1];decide);have h4:=hb.2.2;grind
theorem zu {s:Spn}{l:List Spn}(h:gu (s::l)){t:Rat}(ht:iG l t):s.nh=false∧s.hi<t:=by
 obtain⟨u,hu,h1⟩:=ht;have hb:=(List.pairwise_cons.1 h.p).1 u hu;have h3:=h1.1.resolve_left (by rw [hb.2.1];decide);have h4:=hb.2.2;exact⟨hb.1,by grind⟩
theorem wd {E:List Rat}{s s':Spn}{l l':List Spn}(h:gu (s::l)) (h':gu (s'::l')) (he:∀t,t∉E→iG (s::l) t→iG (s'::l') t):s'.nl=true∨(s.nl=false∧s'.lo≤s.lo):=by
 cases hn':s'.nl with
 |true=>exact .inl rfl
 |false =>
  right;have hg:=h.g s Ms
  have key:∀x,(s.nl=true∨s.lo≤x)→x<s'.lo→(s.nh=true∨x<s.hi)→False:=fun x h1 h2 h3=>by
   have:∃y,x<y∧y≤s'.lo∧(s.nh=true∨y≤s.hi):=by
    rcases h3 with h3|h3
    ·exact⟨s'.lo,h2,Rat.le_refl, .inl h3⟩
    ·rcases Rat.le_total (a:=s.hi) (b:=s'.lo)with k|k
     ·exact⟨s.hi,h3,k, .inr Rat.le_refl⟩
     ·exact⟨s'.lo,h2,Rat.le_refl, .inr k⟩
   obtain⟨y,y1,y2,y3⟩:=this;obtain⟨t,t1,t2,t3⟩:=zZ E y1;have:=he t t3 ⟨s,Ms,h1.imp id (fun k=>by grind),y3.imp id (fun k=>by grind)⟩;have:=(zv h' this).resolve_left (by rw [hn'];decide);grind
  cases hn:s.nl with
  |true =>
   exfalso;cases hh:s.nh with
   |true=>exact key (s'.lo-1) (.inl hn) (by grind) (.inl hh)
   |false =>
    rcases Rat.le_total (a:=s.hi) (b:=s'.lo)with k|k
    ·exact key (s.hi-1) (.inl hn) (by grind) (.inr (by grind))
    ·exact key (s'.lo-1) (.inl hn) (by grind) (.inr (by grind))
  |false =>
   refine⟨rfl,Rat.not_lt.1 fun k=>key s.lo (.inr Rat.le_refl) k ?_⟩;cases hh:s.nh with
   |true=>exact .inl rfl
   |false=>exact .inr (hg.lt hn hh)
theorem wc {E:List Rat}{s s':Spn}{l l':List Spn}(h:gu (s::l)) (hb:s'.nl=true∨(s.nl=false∧s'.lo≤s.lo)) (he:∀t,t∉E→iG (s'::l') t→iG (s::l) t):s.nh=true∨(s'.nh=false∧s'.hi≤s.hi):=by
 cases hn:s.nh with
 |true=>exact .inl rfl
 |false =>
  right;have hg:=h.g s Ms
  have hlo:∀t,s.hi≤t→s'.nl=true∨s'.lo<t:=fun t ht=>by
   rcases hb with hb|⟨h1,h2⟩
   ·exact .inl hb
   ·right;have:=hg.lt h1 hn;grind
  have key:∀y,s.hi<y→(s'.nh=true∨y≤s'.hi)→False:=fun y h1 h2=>by
   have:∃z,s.hi<z∧z≤y∧∀t,s.hi<t→t<z→¬iG (s::l) t:=by
    cases l with
    |nil =>
     refine⟨y,h1,Rat.le_refl,fun t k _=>?_⟩;rintro ⟨u,hu,⟨_,b⟩⟩;rw [List.mem_singleton.1 hu,hn]at b;have:=b.resolve_left (by decide);grind
    |cons u l =>
     have hbu:=(List.pairwise_cons.1 h.p).1 u Ms;have hnu:gu (u::l):=⟨fun x hx=>h.g x (Mc hx),(List.pairwise_cons.1 h.p).2⟩
     have hz:∃z,s.hi<z∧z≤y∧z≤u.lo:=by
      rcases Rat.le_total (a:=y) (b:=u.lo)with k|k
      ·exact⟨y,h1,Rat.le_refl,k⟩
      ·exact⟨u.lo,hbu.2.2,k,Rat.le_refl⟩
     obtain⟨z,z1,z2,z3⟩:=hz;refine⟨z,z1,z2,fun t k1 k2=>?_⟩;rintro ⟨v,hv,hi⟩;rcases List.mem_cons.1 hv with rfl|hv
     ·have:=hi.2.resolve_left (by rw [hn];decide);grind
     ·have:=(zv hnu ⟨v,hv,hi⟩).resolve_left (by rw [hbu.2.1];decide);grind
   obtain⟨z,z1,z2,z3⟩:=this;obtain⟨t,t1,t2,t3⟩:=zZ E z1;exact z3 t t1 t2 (he t t3 ⟨s',Ms,hlo t (by grind),h2.imp id (fun k=>by grind)⟩)
  cases hn':s'.nh with
  |true=>exact(key (s.hi+1) (by grind) (.inl hn')).elim
  |false=>exact⟨rfl,Rat.not_lt.1 fun k=>key s'.hi k (.inr Rat.le_refl)⟩
theorem mU {E:List Rat}:∀{l l':List Spn},gu l→gu l'→(∀t,t∉E→(iG l t↔iG l' t))→l=l'
 | [],[],_,_,_=>rfl
 | [],s::l,_,h',he=>by
  obtain⟨x,y,hxy,hs⟩:=(h'.g s Ms).some;obtain⟨t,t1,t2,t3⟩:=zZ E hxy;obtain⟨u,hu,_⟩:=(he t t3).2 ⟨s,Ms,hs t t1 t2⟩;cases hu
 |s::l,[],h,_,he=>by
  obtain⟨x,y,hxy,hs⟩:=(h.g s Ms).some;obtain⟨t,t1,t2,t3⟩:=zZ E hxy;obtain⟨u,hu,_⟩:=(he t t3).1 ⟨s,Ms,hs t t1 t2⟩;cases hu
 |s::l,s'::l',h,h',he=>by
  have b1:=wd h h' fun t ht k=>(he t ht).1 k
  have b2:=wd h' h fun t ht k=>(he t ht).2 k
  have e1:=wc h b1 fun t ht k=>(he t ht).2 k
  have e2:=wc h' b2 fun t ht k=>(he t ht).1 k
  have g:=h.g s Ms;have g':=h'.g s' Ms
  have es:s=s':=by
   have nl:s.nl=s'.nl:=by
    rcases b1 with b1|⟨b1,_⟩ <;> rcases b2 with b2|⟨b2,_⟩ <;> simp_all
   have nh:s.nh=s'.nh:=by
    rcases e1 with e1|⟨e1,_⟩ <;> rcases e2 with e2|⟨e2,_⟩ <;> simp_all
   have lo:s.lo=s'.lo:=by
    rcases b1 with b1|⟨b1,k1⟩
    ·rw [g'.lo b1,g.lo (nl.trans b1)]
    ·rcases b2 with b2|⟨b2,k2⟩
     ·rw [b1]at b2;cases b2
     ·grind
   have hi:s.hi=s'.hi:=by
    rcases e1 with e1|⟨e1,k1⟩
    ·rw [g.hi e1,g'.hi (nh.symm.trans e1)]
    ·rcases e2 with e2|⟨e2,k2⟩
     ·rw [e1]at e2;cases e2
     ·grind
   obtain⟨a,b,c,d⟩:=s;obtain⟨a',b',c',d'⟩:=s';simp only at *;rw [nl,nh,lo,hi]
  subst es;have hl:gu l:=⟨fun x hx=>h.g x (Mc hx),(List.pairwise_cons.1 h.p).2⟩
  have hl':gu l':=⟨fun x hx=>h'.g x (Mc hx),(List.pairwise_cons.1 h'.p).2⟩
  refine congrArg (s :: ·) (mU (E:=E) hl hl' fun t ht=>⟨fun k=>?_,fun k=>?_⟩)
  ·obtain⟨a,b⟩:=zu h k;obtain⟨u,hu,hi⟩:=(he t ht).1 (k.imp fun u hu=>⟨Mc hu.1,hu.2⟩);rcases List.mem_cons.1 hu with rfl|hu
   ·have:=hi.2.resolve_left (by rw [a];decide);grind
   ·exact⟨u,hu,hi⟩
  ·obtain⟨a,b⟩:=zu h' k;obtain⟨u,hu,hi⟩:=(he t ht).2 (k.imp fun u hu=>⟨Mc hu.1,hu.2⟩);rcases List.mem_cons.1 hu with rfl|hu
   ·have:=hi.2.resolve_left (by rw [a];decide);grind
   ·exact⟨u,hu,hi⟩
def Gap (cuts:List Rat) (i:Nat) (t:Rat):Prop:=(i=0∨cuts.getD (i-1) 0<t)∧(i=cuts.length∨t<cuts.getD i 0)
def BB (cuts:List Rat):Prop:=∀i j,i<j→j<cuts.length→cuts.getD i 0<cuts.getD j 0
theorem vv {cuts:List Rat}{i:Nat}(hi:i≤cuts.length) (t:Rat):InS (iC cuts i) t↔Gap cuts i t:=by
 unfold InS iC Gap;simp only [decide_eq_true_eq];by_cases h0:i=0
 ·by_cases h1:i=cuts.length
  ·have e0:cuts.length=0:=by omega
   simp [h0,e0]
  ·rw [if_pos (show i<cuts.length by omega)];simp [h0]
 ·rw [if_pos (show 0<i by omega)];by_cases h1:i=cuts.length
  ·simp [h0,h1]
  ·rw [if_pos (show i<cuts.length by omega)]
theorem C8 {cuts:List Rat}(ha:BB cuts){i:Nat}(hi:i≤cuts.length):SpG (iC cuts i):=by
 unfold iC;refine⟨fun h=>?_,fun h=>?_,fun h1 h2=>?_⟩
 ·simp only [decide_eq_true_eq]at h⊢;rw [if_neg om]
 ·simp only [decide_eq_true_eq]at h⊢;rw [if_neg om]
 ·simp only [decide_eq_false_iff_not]at h1 h2⊢;rw [if_pos om,if_pos om];exact ha _ _ om om
structure A9 (cuts:List Rat) (marks:List Bool) (k:Nat) (out:List Spn):Prop where
 norm:gu out
 mem:∀t,t∉cuts→(iG out t↔∃i,i<k∧marks.getD i false=true∧Gap cuts i t)
 last:0<k→marks.getD (k-1) false=true→∃init s,out=init++[s]∧s.nh=decide (k-1=cuts.length)∧s.hi=(if k-1<cuts.length then cuts.getD (k-1) 0 else 0)∧(s.nl=true∨s.lo<cuts.getD (k-1) 0∨k-1=cuts.length)
 idle:(k=0∨marks.getD (k-1) false=false)→∀s∈out,s.nh=false∧2≤k∧s.hi≤cuts.getD (k-2) 0
theorem yh (cuts:List Rat) (marks:List Bool):A9 cuts marks 0 [] :=
 ⟨⟨fun s h=>(by cases h),List.Pairwise.nil⟩,fun t _=>⟨fun⟨s,h,_⟩=>(by cases h),fun⟨i,h,_⟩=>om⟩,fun h=>om,fun _ s h=>(by cases h)⟩
theorem rF {cuts:List Rat}(ha:BB cuts){i j:Nat}(h:i≤j) (hj:j<cuts.length):cuts.getD i 0≤cuts.getD j 0:=by
 by_cases e:i=j
 ·rw [e];exact Rat.le_refl
 ·exact Rat.le_of_lt (ha i j om hj)
theorem yi {cuts:List Rat}{marks:List Bool}(ha:BB cuts){k:Nat}(hk:k≤cuts.length){out:List Spn}(h:A9 cuts marks k out):A9 cuts marks (k+1) (cK cuts marks out k):=by
 have hg:∀t,(∃i,i<k+1∧marks.getD i false=true∧Gap cuts i t)↔(∃i,i<k∧marks.getD i false=true∧Gap cuts i t)∨(marks.getD k false=true∧Gap cuts k t):=fun t=>by
  constructor
  ·rintro ⟨i,h1,h2,h3⟩;by_cases e:i=k
   ·rw [e]at h2 h3;exact .inr ⟨h2,h3⟩
   ·exact .inl ⟨i,om,h2,h3⟩
  ·rintro (⟨i,h1,h2,h3⟩|⟨h2,h3⟩)
   ·exact⟨i,om,h2,h3⟩
   ·exact⟨k,om,h2,h3⟩
 unfold cK;cases hm:marks.getD k false with
 |false =>
  rw [if_pos rfl];refine⟨h.norm,fun t ht=>?_,fun _ hh=>?_,fun _ s hs=>?_⟩
  ·rw [hg,hm,h.mem t ht];simp
  ·rw [Nat.add_sub_cancel,hm]at hh;cases hh
  ·by_cases hp:k=0∨marks.getD (k-1) false=false
   ·obtain⟨a,b,c⟩:=h.idle hp s hs;refine⟨a,om,?_⟩;have:=rF ha (show k-2≤k+1-2 by omega) om;grind
   ·rw [not_or]at hp;obtain⟨init,l,e,l1,l2,l3⟩:=h.last om (by simpa using hp.2);rw [if_pos om]at l2;rw [show k+1-2=k-1 by omega];rw [e]at hs;have hn:=h.norm;rw [e]at hn;rcases List.mem_append.1 hs with hs|hs
    ·obtain⟨b1,b2,b3⟩:=(List.pairwise_append.1 hn.p).2.2 s hs l (by simp);refine⟨b1,om,?_⟩;rcases l3 with l3|l3|l3
     ·rw [b2]at l3;cases l3
     ·grind
     ·omega
    ·rw [List.mem_singleton]at hs;rw [hs];exact⟨by rw [l1];exact decide_eq_false om,om,by rw [l2];exact Rat.le_refl⟩
 |true =>
  rw [if_neg (by decide)];by_cases hp:k=0∨marks.getD (k-1) false=false
  ·rw [if_neg (by rintro ⟨a,b,_⟩;rcases hp with hp|hp;omega;rw [hp]at b;cases b)];refine⟨⟨fun s hs=>?_,?_⟩,fun t ht=>?_,fun _ _=>?_,fun hh=>?_⟩
   ·rcases List.mem_append.1 hs with hs|hs
    ·exact h.norm.g s hs
    ·rw [List.mem_singleton.1 hs];exact C8 ha hk
   ·refine List.pairwise_append.2 ⟨h.norm.p,List.pairwise_singleton _ _,fun s hs u hu=>?_⟩;rw [List.mem_singleton.1 hu];obtain⟨a,b,c⟩:=h.idle hp s hs;refine⟨a,decide_eq_false om,?_⟩;show s.hi<if 0<k then cuts.getD (k-1) 0 else 0
    rw [if_pos om];have:=ha (k-2) (k-1) om om;grind
   ·rw [hg,←h.mem t ht,hm];simp only [true_and];rw [←vv hk];unfold iG;constructor
    ·rintro ⟨s,hs,hi⟩;rcases List.mem_append.1 hs with hs|hs
     ·exact .inl ⟨s,hs,hi⟩
     ·rw [List.mem_singleton.1 hs]at hi;exact .inr hi
    ·rintro (⟨s,hs,hi⟩|hi)
     ·exact⟨s,List.mem_append_left _ hs,hi⟩
     ·exact⟨_,List.mem_append_right _ Ms,hi⟩
   ·rw [Nat.add_sub_cancel];refine⟨out,iC cuts k,rfl,rfl,rfl,?_⟩;by_cases e:k=cuts.length
    ·exact .inr (.inr e)
    ·by_cases e0:k=0
     ·left;exact decide_eq_true e0
     ·right;left;show(if 0<k then cuts.getD (k-1) 0 else 0)<_
      rw [if_pos om];exact ha _ _ om om
   ·rw [Nat.add_sub_cancel,hm]at hh;rcases hh with hh|hh <;> cases hh
  ·rw [not_or]at hp;have hp1:marks.getD (k-1) false=true:=by simpa using hp.2
   obtain⟨init,l,e,l1,l2,l3⟩:=h.last om hp1;rw [if_pos om]at l2;have hl1:l.nh=false:=by rw [l1];exact decide_eq_false om
   rw [if_pos ⟨om,hp1,by rw [e];simp⟩]
   have hset:out.set (out.length-1) ⟨(out.getD (out.length-1) Spn.full).lo,(iC cuts k).hi,(out.getD (out.length-1) Spn.full).nl,(iC cuts k).nh⟩=init++[⟨l.lo,(iC cuts k).hi,l.nl,(iC cuts k).nh⟩]:=by
    have hlen:out.length-1=init.length:=by rw [e];simp
    have hgd:out.getD (out.length-1) Spn.full=l:=by rw [hlen,e,List.getD_eq_getElem?_getD,List.getElem?_append_right (Nat.le_refl _),Nat.sub_self];rfl
    rw [hgd,hlen,e,List.set_append_right _ _ (Nat.le_refl _),Nat.sub_self];rfl
   rw [hset];have hn:=h.norm;rw [e]at hn;obtain⟨p1,p2,p3⟩:=List.pairwise_append.1 hn.p;have gl:=hn.g l (by simp)
   have hlast:l.nl=true∨l.lo<cuts.getD (k-1) 0:=by
    rcases l3 with l3|l3|l3
    ·exact .inl l3
    ·exact .inr l3
    ·omega
   refine⟨⟨fun s hs=>?_,?_⟩,fun t ht=>?_,fun _ _=>?_,fun hh=>?_⟩
   ·rcases List.mem_append.1 hs with hs|hs
    ·exact hn.g s (List.mem_append_left _ hs)
    ·rw [List.mem_singleton.1 hs];refine⟨gl.lo,(C8 ha hk).hi,fun h1 h2=>?_⟩;have hlo:=hlast.resolve_left (by rw [h1];decide);have h2':¬k=cuts.length:=of_decide_eq_false h2;show l.lo<if k<cuts.length then cuts.getD k 0 else 0
     rw [if_pos om];have:=ha (k-1) k om om;grind
   ·refine List.pairwise_append.2 ⟨p1,List.pairwise_singleton _ _,fun s hs u hu=>?_⟩;rw [List.mem_singleton.1 hu];exact p3 s hs l (by simp)
   ·rw [hg,←h.mem t ht,hm];simp only [true_and]
    have hne:t≠cuts.getD (k-1) 0:=fun e=>ht (by
     rw [e,List.getD_eq_getElem?_getD,List.getElem?_eq_getElem (show k-1<cuts.length by omega)];exact List.getElem_mem _)
    have key:InS ⟨l.lo,(iC cuts k).hi,l.nl,(iC cuts k).nh⟩ t↔InS l t∨Gap cuts k t:=by
     rw [←vv hk];have e1:(iC cuts k).nl=false:=decide_eq_false om;have e2:(iC cuts k).lo=cuts.getD (k-1) 0:=if_pos om
     have e3:(iC cuts k).nh=true∨cuts.getD (k-1) 0<(iC cuts k).hi:=by
      by_cases e:k=cuts.length
      ·left;exact decide_eq_true e
      ·right;show _<if k<cuts.length then cuts.getD k 0 else 0
       rw [if_pos om];exact ha _ _ om om
     unfold InS;simp only;rw [e1,e2,hl1,l2];generalize(iC cuts k).nh=nh at *;generalize(iC cuts k).hi=hi at *;generalize cuts.getD (k-1) 0=c at *;simp only [Bool.false_eq_true,false_or];constructor
     ·rintro ⟨a,b⟩;by_cases htc:t<c
      ·exact .inl ⟨a,htc⟩
      ·exact .inr ⟨by grind,b⟩
     ·rintro (⟨a,b⟩|⟨a,b⟩)
      ·exact⟨a,e3.imp id (fun k=>by grind)⟩
      ·exact⟨hlast.imp id (fun k=>by grind),b⟩
    unfold iG;rw [e];constructor
    ·rintro ⟨s,hs,hi⟩;rcases List.mem_append.1 hs with hs|hs
     ·exact .inl ⟨s,List.mem_append_left _ hs,hi⟩
     ·rw [List.mem_singleton.1 hs,key]at hi;exact hi.imp (fun k=>⟨l,by simp,k⟩) id
    ·rintro (⟨s,hs,hi⟩|hi)
     ·rcases List.mem_append.1 hs with hs|hs
      ·exact⟨s,List.mem_append_left _ hs,hi⟩
      ·rw [List.mem_singleton.1 hs]at hi;exact⟨_,List.mem_append_right _ Ms,key.2 (.inl hi)⟩
     ·exact⟨_,List.mem_append_right _ Ms,key.2 (.inr hi)⟩
   ·rw [Nat.add_sub_cancel];refine⟨init,_,rfl,rfl,rfl,?_⟩;by_cases e:k=cuts.length
    ·exact .inr (.inr e)
    ·rcases hlast with h1|h1
     ·exact .inl h1
     ·right;left;have:=ha (k-1) k om om;show l.lo<_
      grind
   ·rw [Nat.add_sub_cancel,hm]at hh;rcases hh with hh|hh <;> cases hh
theorem ta {cuts:List Rat}{marks:List Bool}(ha:BB cuts):∀k,k≤cuts.length+1→A9 cuts marks k ((List.range k).foldl (cK cuts marks) [])
 |0,_=>yh cuts marks
 |k+1,h=>by
  rw [List.range_succ,List.foldl_append];exact yi ha om (ta ha k om)
theorem DJ {cuts:List Rat}{marks:List Bool}(ha:BB cuts) (hl:marks.length=cuts.length+1):gu (qY cuts marks)∧∀t,t∉cuts→(iG (qY cuts marks) t↔∃i,marks.getD i false=true∧Gap cuts i t):=by
 have h:=ta (marks:=marks) ha (cuts.length+1) (Nat.le_refl _);rw [←hl]at h;refine⟨h.norm,fun t ht=>(h.mem t ht).trans ⟨fun⟨i,_,b⟩=>⟨i,b⟩,fun⟨i,a,b⟩=>⟨i,?_,a,b⟩⟩⟩;rcases Nat.lt_or_ge i marks.length with k|k
 ·exact k
 ·rw [List.getD_eq_getElem?_getD,List.getElem?_eq_none k]at a;cases a
theorem uY {cuts:List Rat}(h:cuts.Pairwise (· < ·)):BB cuts:=fun i j hij hj=>by
 rw [List.getD_eq_getElem?_getD,List.getD_eq_getElem?_getD,List.getElem?_eq_getElem (show i<cuts.length by omega),List.getElem?_eq_getElem hj];exact List.pairwise_iff_getElem.1 h i j om hj hij
theorem yP {x y:Rat}:rlt x y=true↔x<y:=by
 rw [decide_eq_true_eq,cH];grind
theorem vi {α:Type}{f:α→Bool}:∀(l:List α),∀x∈l.take (l.takeWhile f).length,f x=true
 | [],x,h=>by simp at h
 |a::l,x,h=>by
  rw [List.takeWhile_cons]at h;split at h
  ·rename_i hf;rw [List.length_cons,List.take_succ_cons]at h;rcases List.mem_cons.1 h with e|e
   ·rw [e];exact hf
   ·exact vi l x e
  ·simp at h
theorem ni {out:List Rat}{x:Rat}(h:out.Pairwise (· < ·)):(fP rlt out x).Pairwise (· < ·):=by
 unfold fP;split
 ·exact h
 ·rename_i hne;unfold ws;have h1:∀o∈out.take (fN rlt out x),o<x:=fun o ho=>yP.1 (vi out o ho)
  have h2:∀o∈out.drop (fN rlt out x),x<o:=fun o ho=>by
   have hfirst:∀o0,out[fN rlt out x]? = some o0→x<o0:=fun o0 e=>by
    have hn:rlt o0 x=false:=pe (f:=fun o=>rlt o x) e;have:¬o0<x:=fun k=>by rw [yP.2 k]at hn;cases hn
    have:o0≠x:=fun k=>hne (by rw [e,k])
    grind
   obtain⟨k,hk,e⟩:=List.mem_iff_getElem.1 ho;rw [List.length_drop]at hk;rw [List.getElem_drop]at e;have e0:=hfirst _ (List.getElem?_eq_getElem (show fN rlt out x<out.length by omega));by_cases hk0:k=0
   ·subst hk0;rw [←e];exact e0
   ·have:=List.pairwise_iff_getElem.1 h (fN rlt out x) (fN rlt out x+k) om om om;rw [e]at this;grind
  refine List.pairwise_append.2 ⟨h.sublist (List.take_sublist _ _),List.pairwise_cons.2 ⟨h2,h.sublist (List.drop_sublist _ _)⟩,fun a ha b hb=>?_⟩;rcases List.mem_cons.1 hb with e|e
  ·rw [e];exact h1 a ha
  ·have:=h1 a ha;have:=h2 b e;grind
theorem Bj {out:List Rat}{s:Spn}(h:out.Pairwise (· < ·)):(gt out s).Pairwise (· < ·):=by
 unfold gt;simp only;split
 ·split
  ·exact h
  ·exact ni h
 ·split
  ·exact ni h
  ·exact ni (ni h)
theorem tm:∀(l:List Spn){out:List Rat},out.Pairwise (· < ·)→(l.foldl gt out).Pairwise (· < ·)
 | [],_,h=>h
 |s::l,_,h=>by rw [List.foldl_cons];exact tm l (Bj h)
theorem r7 (l:List Spn):(cq l).Pairwise (· < ·):=tm l List.Pairwise.nil
theorem Bi {out:List Rat}{s:Spn}{y:Rat}:y∈gt out s↔y∈out∨(s.nl=false∧y=s.lo)∨(s.nh=false∧y=s.hi):=by
 unfold gt;simp only;cases s.nl <;> cases s.nh <;> simp [iY] <;> grind
theorem tj:∀(l:List Spn){out:List Rat}{y:Rat},y∈l.foldl gt out↔y∈out∨∃s∈l,(s.nl=false∧y=s.lo)∨(s.nh=false∧y=s.hi)
 | [],_,_=>by simp
 |s::l,out,y=>by
  rw [List.foldl_cons,tj l,Bi];simp only [List.mem_cons,exists_eq_or_imp];exact or_assoc
theorem cY {l:List Spn}{y:Rat}:y∈cq l↔∃s∈l,(s.nl=false∧y=s.lo)∨(s.nh=false∧y=s.hi):=by
 unfold cq;rw [tj];simp
theorem sB {cuts:List Rat}(ha:cuts.Pairwise (· < ·)){i:Nat}(hi:i≤cuts.length):Gap cuts i ((dC cuts).getD i 0):=by
 cases cuts with
 |nil =>
  have:i=0:=by simpa using hi
  subst this;exact⟨.inl rfl, .inl rfl⟩
 |cons c cs =>
  have hz:(List.zipWith gP (c::cs) cs).length=cs.length:=by simp
  have has:=uY ha;unfold dC;cases i with
  |zero =>
   refine⟨.inl rfl, .inr ?_⟩;show c-1<c
   grind
  |succ i =>
   rw [List.length_cons]at hi;rw [List.getD_cons_succ];by_cases e:i=cs.length
   ·refine⟨.inr ?_, .inl (by rw [e];rfl)⟩;rw [Nat.add_sub_cancel,List.getD_eq_getElem?_getD (l:=List.zipWith gP (c::cs) cs++_),List.getElem?_append_right om,hz,e,Nat.sub_self]
    have:(c::cs).getD cs.length 0=(c::cs).getLast (by simp):=by
     rw [List.getD_eq_getElem?_getD,List.getLast_eq_getElem];simp
    rw [this];show _<(c::cs).getLast _+1
    grind
   ·have hlt:i<cs.length:=by omega
    have e1:(List.zipWith gP (c::cs) cs++[(c::cs).getLast (by simp)+1]).getD i 0=gP ((c::cs).getD i 0) ((c::cs).getD (i+1) 0):=by
     rw [List.getD_eq_getElem?_getD,List.getElem?_append_left om,List.getElem?_eq_getElem om,List.getElem_zipWith,List.getD_eq_getElem?_getD,List.getD_eq_getElem?_getD,List.getElem?_eq_getElem (show i<(c::cs).length by simp;omega),List.getElem?_cons_succ,List.getElem?_eq_getElem hlt];rfl
    rw [e1];obtain⟨m1,m2⟩:=jr (has i (i+1) om (by simp;omega));exact⟨.inr (by rw [Nat.add_sub_cancel];exact m1), .inr m2⟩
theorem nq {cuts:List Rat}(ha:cuts.Pairwise (· < ·)){i:Nat}(hi:i≤cuts.length){t u:Rat}(ht:Gap cuts i t) (hu:Gap cuts i u){y:Rat}(hy:y∈cuts):(y<t↔y<u)∧(t<y↔u<y):=by
 have has:=uY ha;obtain⟨j,hj,e⟩:=List.mem_iff_getElem.1 hy;have ey:cuts.getD j 0=y:=by rw [List.getD_eq_getElem?_getD,List.getElem?_eq_getElem hj,←e];rfl
 by_cases hji:j<i
 ·have h1:y<t∧y<u:=by
   have hle:=rF has (show j≤i-1 by omega) om;rw [ey]at hle;obtain⟨a,_⟩:=ht;obtain⟨b,_⟩:=hu;have a:=a.resolve_left om;have b:=b.resolve_left om;grind
  grind
 ·have h1:t<y∧u<y:=by
   have hle:=rF has (show i≤j by omega) om;rw [ey]at hle;obtain⟨_,a⟩:=ht;obtain⟨_,b⟩:=hu;have a:=a.resolve_left om;have b:=b.resolve_left om;grind
  grind
theorem DH {cuts:List Rat}(ha:cuts.Pairwise (· < ·)){i:Nat}(hi:i≤cuts.length){t:Rat}(ht:Gap cuts i t):t∉cuts:=fun hm=>by
 obtain⟨j,hj,e⟩:=List.mem_iff_getElem.1 hm;have has:=uY ha;have ey:cuts.getD j 0=t:=by rw [List.getD_eq_getElem?_getD,List.getElem?_eq_getElem hj,←e];rfl
 by_cases hji:j<i
 ·have hle:=rF has (show j≤i-1 by omega) om;have:=ht.1.resolve_left om;grind
 ·have hle:=rF has (show i≤j by omega) om;have:=ht.2.resolve_left om;grind
theorem I9 {cuts:List Rat}{t:Rat}(ht:t∉cuts):∃i,i≤cuts.length∧Gap cuts i t:=by
 have key:∀k,k≤cuts.length→(∃i,i<k∧Gap cuts i t)∨(k=0∨cuts.getD (k-1) 0<t):=fun k=>by
  induction k with
  |zero=>exact fun _ => .inr (.inl rfl)
  |succ k ih =>
   intro hk;rcases ih om with⟨i,h1,h2⟩|h
   ·exact .inl ⟨i,om,h2⟩
   ·have hne:t≠cuts.getD k 0:=fun e=>ht (by
     rw [e,List.getD_eq_getElem?_getD,List.getElem?_eq_getElem (show k<cuts.length by omega)];exact List.getElem_mem _)
    by_cases h1:t<cuts.getD k 0
    ·exact .inl ⟨k,om,h, .inr h1⟩
    ·right;right;rw [Nat.add_sub_cancel];grind
 rcases key cuts.length (Nat.le_refl _)with⟨i,h1,h2⟩|h
 ·exact⟨i,om,h2⟩
 ·exact⟨cuts.length,Nat.le_refl _,h, .inl rfl⟩
theorem pE {l:List Spn}{t:Rat}(ht:t∉cq l):inL l t=true↔iG l t:=by
 rw [decide_eq_true_eq]
 have key:∀l':List Spn,(∀s∈l',s∈l)→(oJ l' t=2↔iG l' t):=fun l'=>by
  induction l' with
  |nil=>exact fun _=>⟨fun h=>(by cases h),fun⟨s,h,_⟩=>(by cases h)⟩
  |cons s l' ih =>
   intro hs;have hsl:=hs s Ms
   have h1:s.nl=true∨t≠s.lo:=by
    cases h:s.nl with
    |true=>exact .inl rfl
    |false=>exact .inr fun e=>ht (cY.2 ⟨s,hsl, .inl ⟨h,e⟩⟩)
   have h2:s.nh=true∨t≠s.hi:=by
    cases h:s.nh with
    |true=>exact .inl rfl
    |false=>exact .inr fun e=>ht (cY.2 ⟨s,hsl, .inr ⟨h,e⟩⟩)
   have hc:Br s t=2∧InS s t∨Br s t=0∧¬InS s t:=by
    unfold Br InS;simp only;have s1:(t-s.lo).num.sign=0↔t=s.lo:=by rw [bh];grind
    have s2:(t-s.hi).num.sign=0↔t=s.hi:=by rw [bh];grind
    have s3:0<(t-s.lo).num.sign↔s.lo<t:=by rw [bd];grind
    have s4:(t-s.hi).num.sign<0↔t<s.hi:=by rw [cH];grind
    generalize(t-s.lo).num.sign=a at *;generalize(t-s.hi).num.sign=b at *;cases hn:s.nl <;> cases hh:s.nh <;> rw [hn]at h1 <;> rw [hh]at h2 <;> simp only [if_true,Bool.false_eq_true,if_false,false_or,true_or,true_and,and_true]at h1 h2⊢
    ·have:a≠0:=fun e=>h1 (s1.1 e)
     have:b≠0:=fun e=>h2 (s2.1 e)
     by_cases k:0<a∧b<0
     ·rw [if_pos k];exact .inl ⟨rfl,s3.1 k.1,s4.1 k.2⟩
     ·rw [if_neg k,if_neg om];exact .inr ⟨rfl,fun h=>k ⟨s3.2 h.1,s4.2 h.2⟩⟩
    ·have:a≠0:=fun e=>h1 (s1.1 e)
     by_cases k:0<a
     ·rw [if_pos ⟨k,by decide⟩];exact .inl ⟨rfl,s3.1 k⟩
     ·rw [if_neg om,if_neg om];exact .inr ⟨rfl,fun h=>k (s3.2 h)⟩
    ·have:b≠0:=fun e=>h2 (s2.1 e)
     by_cases k:b<0
     ·rw [if_pos ⟨by decide,k⟩];exact .inl ⟨rfl,s4.1 k⟩
     ·rw [if_neg om,if_neg om];exact .inr ⟨rfl,fun h=>k (s4.2 h)⟩
    ·rw [if_pos ⟨by decide,by decide⟩];exact .inl rfl
   have ihh:=ih fun x hx=>hs x (Mc hx)
   unfold oJ;rcases hc with⟨c1,c2⟩|⟨c1,c2⟩
   ·rw [c1,if_neg (by decide)];exact⟨fun _=>⟨s,Ms,c2⟩,fun _=>rfl⟩
   ·rw [c1,if_pos rfl,ihh];constructor
    ·rintro ⟨u,hu,hi⟩;exact⟨u,Mc hu,hi⟩
    ·rintro ⟨u,hu,hi⟩;rcases List.mem_cons.1 hu with rfl|hu
     ·exact absurd hi c2
     ·exact⟨u,hu,hi⟩
 exact key l fun _ h=>h
theorem zK {l:List Spn}{cuts:List Rat}(ha:cuts.Pairwise (· < ·)) (hc:∀y∈cq l,y∈cuts){i:Nat}(hi:i≤cuts.length){t u:Rat}(ht:Gap cuts i t) (hu:Gap cuts i u):inL l t=inL l u:=by
 have h1:=pE (l:=l) (t:=t) fun k=>DH ha hi ht (hc t k)
 have h2:=pE (l:=l) (t:=u) fun k=>DH ha hi hu (hc u k)
 have:iG l t↔iG l u:=by
  have hs:∀s∈l,(InS s t↔InS s u):=fun s hs=>by
   unfold InS;cases hn:s.nl <;> cases hh:s.nh <;> simp only [Bool.false_eq_true,false_or,true_or,true_and,and_true]
   ·have g1:=nq ha hi ht hu (hc s.lo (cY.2 ⟨s,hs, .inl ⟨hn,rfl⟩⟩));have g2:=nq ha hi ht hu (hc s.hi (cY.2 ⟨s,hs, .inr ⟨hh,rfl⟩⟩));rw [g1.1,g2.2]
   ·exact(nq ha hi ht hu (hc s.lo (cY.2 ⟨s,hs, .inl ⟨hn,rfl⟩⟩))).1
   ·exact(nq ha hi ht hu (hc s.hi (cY.2 ⟨s,hs, .inr ⟨hh,rfl⟩⟩))).2
  exact⟨fun⟨s,a,b⟩=>⟨s,a,(hs s a).1 b⟩,fun⟨s,a,b⟩=>⟨s,a,(hs s a).2 b⟩⟩
 rw [Bool.eq_iff_iff,h1,h2,this]
theorem wA {cuts:List Rat}(ha:cuts.Pairwise (· < ·)) (f:Rat→Bool) (hf:∀i t u,i≤cuts.length→Gap cuts i t→Gap cuts i u→f t=f u) :
  gu (qY cuts ((dC cuts).map f))∧∀t,t∉cuts→(iG (qY cuts ((dC cuts).map f)) t↔f t=true):=by
 obtain⟨h1,h2⟩:=DJ (marks:=(dC cuts).map f) (uY ha) (by rw [List.length_map,jl])
 have hm:∀i,i≤cuts.length→((dC cuts).map f).getD i false=f ((dC cuts).getD i 0):=fun i hi=>by
  have hl:i<(dC cuts).length:=by rw [jl];omega
  rw [List.getD_eq_getElem?_getD,List.getElem?_map,List.getD_eq_getElem?_getD,List.getElem?_eq_getElem hl];rfl
 refine⟨h1,fun t ht=>(h2 t ht).trans ⟨?_,fun h=>?_⟩⟩
 ·rintro ⟨i,hi,g⟩
  have hle:i≤cuts.length:=by
   rcases Nat.lt_or_ge cuts.length i with k|k
   ·rw [List.getD_eq_getElem?_getD,List.getElem?_eq_none (by rw [List.length_map,jl];omega)]at hi;cases hi
   ·exact k
  rw [hm i hle]at hi;rw [hf i t _ hle g (sB ha hle)];exact hi
 ·obtain⟨i,hi,g⟩:=I9 ht;exact⟨i,by rw [hm i hi,←hf i t _ hi g (sB ha hi)];exact h,g⟩
theorem wO (op:Int) (a b:List Spn):gu (jK op a b)∧∀t,t∉cq (a++b)→(iG (jK op a b) t↔opB op (inL a t) (inL b t)=true):=by
 have ha:∀y∈cq a,y∈cq (a++b):=fun y hy=>by
  obtain⟨s,h1,h2⟩:=cY.1 hy;exact cY.2 ⟨s,List.mem_append_left _ h1,h2⟩
 have hb:∀y∈cq b,y∈cq (a++b):=fun y hy=>by
  obtain⟨s,h1,h2⟩:=cY.1 hy;exact cY.2 ⟨s,List.mem_append_right _ h1,h2⟩
 exact wA (r7 _) (fun t=>opB op (inL a t) (inL b t)) fun i t u hi ht hu=>by
  rw [zK (r7 _) ha hi ht hu,zK (r7 _) hb hi ht hu]
theorem D4 {s:Spn}(h:SpG s):gu [s]:=⟨fun x hx=>by rw [List.mem_singleton.1 hx];exact h,List.pairwise_singleton _ _⟩
theorem w9:gu []:=⟨fun s h=>(by cases h),List.Pairwise.nil⟩
theorem C7 {s:Spn}(h:fG s=false) (h1:s.nl=false) (h2:s.nh=false):s.lo<s.hi:=by
 obtain⟨a,b⟩:=fL h;have a:=a.resolve_left (by rw [h1];decide);have b:=b.resolve_left (by rw [h2];decide);grind
theorem zA {v w:Spn}(hv:SpG v) (hw:SpG w) (h:fG (gq v w)=false):SpG (gq v w):=by
 refine⟨fun k=>?_,fun k=>?_,C7 h⟩
 ·have k:(v.nl&&w.nl)=true:=k;rw [Bool.and_eq_true]at k;show(if v.nl then w.lo else _)=0
  rw [if_pos k.1];exact hw.lo k.2
 ·have k:(v.nh&&w.nh)=true:=k;rw [Bool.and_eq_true]at k;show(if v.nh then w.hi else _)=0
  rw [if_pos k.1];exact hw.hi k.2
theorem rJ {s:Spn}{t:Rat}:iG [s] t↔InS s t:=⟨fun⟨u,hu,h⟩=>List.mem_singleton.1 hu▸h,fun h=>⟨s,List.mem_singleton.2 rfl,h⟩⟩
theorem zt (x y:Bool):opB 2 x y=(x&&y):=rfl
theorem DO {a b:List Spn}{t:Rat}(h:t∉cq (a++b)):t∉cq a∧t∉cq b :=
 ⟨fun k=>h (by obtain⟨s,h1,h2⟩:=cY.1 k;exact cY.2 ⟨s,List.mem_append_left _ h1,h2⟩),fun k=>h (by obtain⟨s,h1,h2⟩:=cY.1 k;exact cY.2 ⟨s,List.mem_append_right _ h1,h2⟩)⟩
theorem oI {s h:Spn}(hs:SpG s) (hh:SpG h):jK 2 [s] [h]=if fG (gq s h)then []else [gq s h]:=by
 obtain⟨h1,h2⟩:=wO 2 [s] [h]
 have hm:∀t,t∉cq ([s]++[h])→(iG (jK 2 [s] [h]) t↔InS (gq s h) t):=fun t ht=>by
  obtain⟨k1,k2⟩:=DO ht;rw [h2 t ht,zt,Bool.and_eq_true,pE k1,pE k2,rJ,rJ,qP]
 cases hb:fG (gq s h)with
 |true =>
  rw [if_pos rfl];refine mU (E:=cq ([s]++[h])) h1 w9 fun t ht=>(hm t ht).trans ⟨fun k=>?_,fun⟨u,hu,_⟩=>(by cases hu)⟩
  rw [iK k]at hb;cases hb
 |false =>
  rw [if_neg (by decide)];exact mU (E:=cq ([s]++[h])) h1 (D4 (zA hs hh hb)) fun t ht=>(hm t ht).trans rJ.symm
theorem ry {s:Spn}:jK 2 [s] []=[]:=by
 obtain⟨h1,h2⟩:=wO 2 [s] [];refine mU (E:=cq ([s]++[])) h1 w9 fun t ht=>(h2 t ht).trans ⟨fun k=>?_,fun⟨u,hu,_⟩=>(by cases hu)⟩
 rw [zt,Bool.and_eq_true]at k;have:=of_decide_eq_true k.2;cases this
theorem Ia:SpG Spn.full:=⟨fun _=>rfl,fun _=>rfl,fun h=>by cases h⟩
theorem DA (k u:Rat):SpG (hlf k u):=by
 unfold hlf;split
 ·exact⟨fun h=>(by cases h),fun _=>rfl,fun _ h=>(by cases h)⟩
 ·exact⟨fun _=>rfl,fun h=>(by cases h),fun h=>(by cases h)⟩
theorem wk {s:Spn}(h:SpG s):gq s Spn.full=s:=by
 obtain⟨a,b,c,d⟩:=s;have h1:=h.lo;have h2:=h.hi;unfold gq;cases c <;> cases d <;> simp at h1 h2⊢<;> simp [h1,h2]
theorem sZ {l m:Li}(hl:l.ok) (h:cO l m≠0) (side:Int) (hs:side=1∨side = -1):eD l m side=([hlf (side*slp l m) (-(a6 m (aV l)/slp l m))],false):=by
 have hk:slp l m≠0:=fun e=>h (by rw [kw,e];rfl)
 have hu:bO l (be l m) = -(a6 m (aV l)/slp l m):=by
  have h1:=rl hk (bO l (be l m));have h2:=mg hl h (bO l (be l m));have:(bO l (be l m) - -(a6 m (aV l)/slp l m))*slp l m=0:=by rw [←h1,h2];grind
  rcases Rat.mul_eq_zero.1 this with e|e
  ·grind
  ·exact absurd e hk
 unfold eD;rw [if_neg h];have hv:a6 m (atL l (bO l (be l m)+1))=slp l m:=by rw [mg hl h];grind
 have hsd:cM m (atL l (bO l (be l m)+1))=(slp l m).num.sign:=by unfold cM;rw [hv]
 rw [hsd,hu]
 have h3:(slp l m).num.sign=1∨(slp l m).num.sign = -1:=by
  have:=Int.sign_trichotomy (slp l m).num;have:(slp l m).num.sign≠0:=fun e=>hk (bh.1 e)
  omega
 have h4:(((-1:Int):Rat)*slp l m).num.sign = - (slp l m).num.sign:=by
  have:((-1:Int):Rat)*slp l m = - slp l m:=by
   have e:((-1:Int):Rat) = -1:=rfl;rw [e];grind
  rw [this,Rat.neg_num,Int.sign_neg]
 have h5:(((1:Int):Rat)*slp l m).num.sign=(slp l m).num.sign:=by
  have:((1:Int):Rat)*slp l m=slp l m:=by
   have e:((1:Int):Rat)=1:=rfl;rw [e];grind
  rw [this]
 unfold hlf;rcases hs with rfl|rfl
 ·rw [h5];rcases h3 with h3|h3 <;> rw [h3] <;> simp
 ·rw [h4];rcases h3 with h3|h3 <;> rw [h3] <;> simp
theorem Ie (x y:Rat) : -x / -y=x/y:=by
 by_cases h:y=0
 ·rw [h];simp [Rat.div_def]
 ·refine jk (n := -y) (by grind) ?_;rw [Rat.mul_comm,Rat.div_mul_cancel (by grind)];have:x/y*y=x:=Rat.div_mul_cancel h;grind
theorem A2 {l m:Li}{v:Spn}:eN l v m.neg=if(slp l m).num.sign=0 then(if(a6 m (aV l)).num.sign<0 then some v else none)
  else if fG (gq v (hlf (-slp l m) (-(a6 m (aV l)/slp l m))))then none else some (gq v (hlf (-slp l m) (-(a6 m (aV l)/slp l m)))):=by
 have e1:slp l m.neg = - slp l m:=by unfold slp Li.neg;simp only [Rat.intCast_neg];grind
 have e2:a6 m.neg (aV l) / - slp l m=a6 m (aV l)/slp l m:=by rw [fU];exact Ie _ _
 unfold eN;rw [e1,e2,fU,Rat.neg_num,Rat.neg_num,Int.sign_neg,Int.sign_neg];generalize(slp l m).num.sign=a;generalize(a6 m (aV l)).num.sign=b;by_cases h:a=0
 ·rw [if_pos om,if_pos h];by_cases k:b<0
  ·rw [if_pos om,if_pos k]
  ·rw [if_neg om,if_neg k]
 ·rw [if_neg om,if_neg h]
theorem iJ {f:Fg}{m:Li}(hf:SpG f.2) (hb:fG f.2=false) (hl:f.1.ok):bM f m=(((eN f.1 f.2 m).toList).map fun s=>(f.1,s),((eN f.1 f.2 m.neg).toList).map fun s=>(f.1,s)):=by
 obtain⟨l,s⟩:=f;simp only at *;unfold bM;simp only;rw [A2];by_cases hd:cO l m=0
 ·have hk:slp l m=0:=by rw [kw]at hd;grind
  have hk0:(slp l m).num.sign=0:=bh.2 hk;unfold eN eD;rw [if_pos hd,if_pos hd,if_pos hk0,if_pos hk0];have hsd:cM m (aV l)=(a6 m (aV l)).num.sign:=rfl;rw [←hsd];have e2:jK 2 [s] [Spn.full]=[s]:=by rw [oI hf Ia,wk hf,hb];rfl
  rcases si m (aV l)with h|h|h
  ·rw [h];simp [e2,ry]
  ·rw [h];simp
  ·rw [h];simp [e2,ry]
 ·have hk:slp l m≠0:=fun e=>hd (by rw [kw,e];rfl)
  have hk0:¬(slp l m).num.sign=0:=fun e=>hk (bh.1 e)
  rw [sZ hl hd 1 (.inl rfl),sZ hl hd (-1) (.inr rfl)];unfold eN;rw [if_neg hk0,if_neg hk0]
  have e1:((1:Int):Rat)*slp l m=slp l m:=by
   have e:((1:Int):Rat)=1:=rfl;rw [e];grind
  have e2:((-1:Int):Rat)*slp l m = - slp l m:=by
   have e:((-1:Int):Rat) = -1:=rfl;rw [e];grind
  rw [e1,e2];simp only [Bool.false_eq_true,if_false];rw [oI hf (DA _ _),oI hf (DA _ _)];split <;> split <;> rfl
def cU:Tr→Nat
 | .leaf _=>0
 | .node _ a b=>1+cU a+cU b
def eM:Tr→Nat
 | .leaf _=>0
 | .node _ a b=>1+max (eM a) (eM b)
def Crs (f:Fg) (m:Li):Prop:=∃t,InS f.2 t∧a6 m (atL f.1 t)=0∧slp f.1 m≠0
open Classical in
noncomputable def rz (L:List Li) (f:Fg):Nat:=L.countP fun m=>decide (Crs f m)
noncomputable def ft (L:List Li) (l:List Fg):Nat:=(l.map fun f=>1+rz L f).sum
theorem vT (L:List Li) (a b:List Fg):ft L (a++b)=ft L a+ft L b:=by unfold ft;rw [List.map_append,List.sum_append]
theorem o5 (L:List Li) (f:Fg) (l:List Fg):ft L (f::l)=1+rz L f+ft L l:=by unfold ft;rw [List.map_cons,List.sum_cons]
open Classical in
theorem wP {L:List Li}{f g:Fg}(h:∀m∈L,Crs g m→Crs f m):rz L g≤rz L f:=by
 unfold rz;induction L with
 |nil=>simp
 |cons a L ih =>
  have ih:=ih fun m hm=>h m (Mc hm)
  rw [List.countP_cons,List.countP_cons];by_cases k:Crs g a
  ·rw [if_pos (decide_eq_true k),if_pos (decide_eq_true (h a List.mem_cons_self k))];omega
  ·rw [if_neg (by simpa using k)];omega
open Classical in
theorem GC {L:List Li}{f g k:Fg}(h1:∀m∈L,Crs g m→Crs f m) (h2:∀m∈L,Crs k m→Crs f m) (h3:∀m∈L,Crs g m→Crs k m→False){x:Li}(hx:x∈L) (x1:Crs f x) (x2:¬Crs g x) (x3:¬Crs k x) :
  rz L g+rz L k+1≤rz L f:=by
 unfold rz;induction L with
 |nil=>cases hx
 |cons a L ih =>
  have g1:∀m∈L,Crs g m→Crs f m:=fun m hm=>h1 m (Mc hm)
  have g2:∀m∈L,Crs k m→Crs f m:=fun m hm=>h2 m (Mc hm)
  have g3:∀m∈L,Crs g m→Crs k m→False:=fun m hm=>h3 m (Mc hm)
  rw [List.countP_cons,List.countP_cons,List.countP_cons]
  have base:L.countP (fun m=>decide (Crs g m))+L.countP (fun m=>decide (Crs k m))≤L.countP (fun m=>decide (Crs f m)):=by
   clear ih hx;induction L with
   |nil=>simp
   |cons b L ih' =>
    have ih':=ih' (fun m hm=>by rcases List.mem_cons.1 hm with e|e;exact h1 m (e▸Ms);exact h1 m (Mc (Mc e)))
     (fun m hm=>by rcases List.mem_cons.1 hm with e|e;exact h2 m (e▸Ms);exact h2 m (Mc (Mc e)))
     (fun m hm=>by rcases List.mem_cons.1 hm with e|e;exact h3 m (e▸Ms);exact h3 m (Mc (Mc e)))
     (fun m hm=>g1 m (Mc hm)) (fun m hm=>g2 m (Mc hm)) (fun m hm=>g3 m (Mc hm))
    rw [List.countP_cons,List.countP_cons,List.countP_cons];have b1:=g1 b Ms;have b2:=g2 b Ms;have b3:=g3 b Ms;by_cases p:Crs g b <;> by_cases q:Crs k b <;> by_cases r:Crs f b <;> simp only [p,q,r,decide_true,decide_false,if_true,Bool.false_eq_true,if_false] <;> first|omega|exact absurd (b1 p) r|exact absurd (b2 q) r|exact(b3 p q).elim
  have a1:=h1 a Ms;have a2:=h2 a Ms;have a3:=h3 a Ms;rcases List.mem_cons.1 hx with e|e
  ·subst e;simp only [x1,x2,x3,decide_true,decide_false,if_true,Bool.false_eq_true,if_false];omega
  ·have ih:=ih g1 g2 g3 e;by_cases p:Crs g a <;> by_cases q:Crs k a <;> by_cases r:Crs f a <;> simp only [p,q,r,decide_true,decide_false,if_true,Bool.false_eq_true,if_false] <;> first|omega|exact absurd (a1 p) r|exact absurd (a2 q) r|exact(a3 p q).elim
structure FgG (L:List Li) (f:Fg):Prop where
 ok:f.1.ok
 mem:f.1∈L
 g:SpG f.2
 b:fG f.2=false
theorem FgG.some {L:List Li}{f:Fg}(h:FgG L f):∃t,InS f.2 t:=⟨_,fL h.b⟩
theorem If {l m:Li}{v w:Spn}(hv:SpG v) (hb:fG v=false) (h:eN l v m=some w):SpG w∧fG w=false:=by
 obtain⟨t,ht⟩:=j8 ⟨_,fL hb⟩ h;refine⟨?_,iK ht⟩;unfold eN at h;split at h
 ·split at h
  ·cases h;exact hv
  ·cases h
 ·split at h
  ·cases h
  ·rename_i h2;cases h;exact zA hv (DA _ _) (by simpa using h2)
theorem pL {f:Fg}{m:Li}{w:Spn}(h:eN f.1 f.2 m=some w){x:Li}(k:Crs (f.1,w) x):Crs f x:=by
 obtain⟨t,h1,h2,h3⟩:=k;exact⟨t,((dV h t).1 h1).1,h2,h3⟩
theorem InS.mid {s:Spn}{t u:Rat}(ht:InS s t) (hu:InS s u){v:Rat}(h1:t≤v) (h2:v≤u):InS s v:=by
 obtain⟨a,_⟩:=ht;obtain⟨_,b⟩:=hu;exact⟨a.imp id (fun k=>by grind),b.imp id (fun k=>by grind)⟩
theorem DX {f:Fg}{m:Li}{w w':Spn}(hw:∃t,InS f.2 t) (h:eN f.1 f.2 m=some w) (h':eN f.1 f.2 m.neg=some w') :
  Crs f m∧¬Crs (f.1,w) m∧¬Crs (f.1,w') m∧∀x,Crs (f.1,w) x→Crs (f.1,w') x→False:=by
 obtain⟨t,ht⟩:=j8 hw h;obtain⟨u,hu⟩:=j8 hw h';obtain⟨t1,t2⟩:=(dV h t).1 ht;obtain⟨u1,u2⟩:=(dV h' u).1 hu;rw [fU]at u2
 have hk:slp f.1 m≠0:=fun e=>by
  rw [aR,e]at t2 u2;grind
 refine⟨?_,?_,?_,?_⟩
 ·have e:∀v,a6 m (atL f.1 v)=(v - -(a6 m (aV f.1)/slp f.1 m))*slp f.1 m:=rl hk;have e0:=e (-(a6 m (aV f.1)/slp f.1 m));rw [e]at t2 u2;generalize -(a6 m (aV f.1)/slp f.1 m)=z at *;refine⟨z,?_,by rw [e0];grind,hk⟩;by_cases hp:0<slp f.1 m
  ·have a:=(fh hp).1 t2;have b:=(fh (x:=z-u) hp).1 (by grind);exact InS.mid u1 t1 (by grind) (by grind)
  ·have hn:0 < - slp f.1 m:=by grind
   have a:=(fh (x:=z-t) hn).1 (by grind);have b:=(fh (x:=u-z) hn).1 (by grind);exact InS.mid t1 u1 (by grind) (by grind)
 ·rintro ⟨v,v1,v2,_⟩;have:=((dV h v).1 v1).2;simp only at v2;rw [v2]at this;exact absurd this (by decide)
 ·rintro ⟨v,v1,v2,_⟩;have:=((dV h' v).1 v1).2;simp only at v2;rw [fU,v2]at this;exact absurd this (by decide)
 ·rintro x ⟨v,v1,v2,v3⟩ ⟨v',w1,w2,w3⟩;simp only at v2 v3 w2
  have hvv:v=v':=by
   rw [aR]at v2 w2;have:(v-v')*slp f.1 x=0:=by grind
   rcases Rat.mul_eq_zero.1 this with e|e
   ·grind
   ·exact absurd e v3
  subst hvv;have a:=((dV h v).1 v1).2;have b:=((dV h' v).1 w1).2;rw [fU]at b;grind
theorem tH {L:List Li}{f:Fg}{m:Li}(hf:FgG L f):(∀g∈(bM f m).1,FgG L g∧g.1=f.1)∧∀g∈(bM f m).2,FgG L g∧g.1=f.1:=by
 rw [iJ hf.g hf.b hf.ok]
 have key:∀x:Li,∀g∈((eN f.1 f.2 x).toList).map (fun s=>(f.1,s)),FgG L g∧g.1=f.1:=fun x g hg=>by
  obtain⟨w,hw,rfl⟩:=List.mem_map.1 hg;rw [Option.mem_toList]at hw;obtain⟨a,b⟩:=If hf.g hf.b hw;exact⟨⟨hf.ok,hf.mem,a,b⟩,rfl⟩
 exact⟨key m,key m.neg⟩
theorem nR {L:List Li}{f:Fg}{m:Li}(hf:FgG L f):(bM f m).1.length≤1∧(bM f m).2.length≤1:=by
 rw [iJ hf.g hf.b hf.ok];simp only [List.length_map];constructor
 ·cases eN f.1 f.2 m <;> simp
 ·cases eN f.1 f.2 m.neg <;> simp
theorem Am {L:List Li}{f:Fg}{m:Li}(hf:FgG L f) (hm:m∈L):ft L (bM f m).1+ft L (bM f m).2≤1+rz L f:=by
 rw [iJ hf.g hf.b hf.ok];cases h:eN f.1 f.2 m with
 |none =>
  cases h':eN f.1 f.2 m.neg with
  |none=>simp [ft]
  |some w' =>
   have:=wP (L:=L) (f:=f) (g:=(f.1,w')) fun x _ k=>pL h' k
   simp [ft];omega
 |some w =>
  have h1:=wP (L:=L) (f:=f) (g:=(f.1,w)) fun x _ k=>pL h k
  cases h':eN f.1 f.2 m.neg with
  |none=>simp [ft];omega
  |some w' =>
   obtain⟨a,b,c,d⟩:=DX hf.some h h';have:=GC (L:=L) (f:=f) (g:=(f.1,w)) (k:=(f.1,w')) (fun x _ k=>pL h k) (fun x _ k=>pL h' k) (fun x _=>d x) hm a b c;simp [ft];omega
theorem xj {L:List Li}{f:Fg}(hf:FgG L f):bM f f.1=([],[]):=by
 have hk:slp f.1 f.1=0:=by unfold slp;grind
 have hb:a6 f.1 (aV f.1)=0:=by have:=fH hf.ok 0;rw [aR,hk]at this;grind
 rw [iJ hf.g hf.b hf.ok,A2];unfold eN;rw [hk,hb];simp
theorem C4 {L:List Li}{l:List Fg}{m:Li}(hl:∀f∈l,FgG L f):(∀g∈(aJ l m).1,FgG L g)∧∀g∈(aJ l m).2,FgG L g:=by
 unfold aJ;constructor
 ·intro g hg;obtain⟨x,hx,hgx⟩:=List.mem_flatten.1 hg;obtain⟨f,hf,rfl⟩:=List.mem_map.1 hx;exact((tH (hl f hf)).1 g hgx).1
 ·intro g hg;obtain⟨x,hx,hgx⟩:=List.mem_flatten.1 hg;obtain⟨f,hf,rfl⟩:=List.mem_map.1 hx;exact((tH (hl f hf)).2 g hgx).1
theorem qd {L:List Li}{m:Li}(hm:m∈L):∀{l:List Fg},(∀f∈l,FgG L f)→ft L (aJ l m).1+ft L (aJ l m).2≤ft L l
 | [],_=>by simp [aJ,ft]
 |f::l,hl=>by
  have ih:=qd hm (l:=l) fun x hx=>hl x (Mc hx)
  have h1:=Am (hl f Ms) hm;unfold aJ at *;simp only [List.map_cons,List.flatten_cons]at *;rw [vT,vT,o5];omega
theorem oM {L:List Li}{f:Fg}{l:List Fg}(hl:∀g∈f::l,FgG L g):ft L (aJ (f::l) f.1).1+ft L (aJ (f::l) f.1).2+1≤ft L (f::l):=by
 have hf:=hl f Ms;have ih:=qd hf.mem (l:=l) fun x hx=>hl x (Mc hx)
 unfold aJ at *;simp only [List.map_cons,List.flatten_cons,xj hf,List.nil_append]at *;rw [o5];omega
def Tr.lin (L:List Li):Tr→Prop
 | .leaf _=>True
 | .node l a b=>l∈L∧a.lin L∧b.lin L
theorem kD {L:List Li}(inn:Pq→Bool):∀(n:Nat) (l:List Fg) (c:List Li),(∀f∈l,FgG L f)→ft L l<n→cU (jN inn n l c)≤ft L l∧eM (jN inn n l c)≤ft L l∧(jN inn n l c).lin L
 |0,_,_,_,h=>by omega
 |n+1,[],c,_,_=>⟨Nat.zero_le _,Nat.zero_le _,trivial⟩
 |n+1,f::l,c,hl,h=>by
  have hs:=oM hl;obtain⟨g1,g2⟩:=C4 (m:=f.1) hl;obtain⟨a1,a2,a3⟩:=kD inn n (aJ (f::l) f.1).1 (c++[f.1]) g1 om;obtain⟨b1,b2,b3⟩:=kD inn n (aJ (f::l) f.1).2 (c++[f.1.neg]) g2 om;unfold jN;refine⟨?_,?_,(hl f Ms).mem,a3,b3⟩
  ·simp only [cU];omega
  ·simp only [eM];omega
theorem GD (L:List Li) (f:Fg):rz L f≤L.length:=List.countP_le_length
theorem u4 (L:List Li):∀l:List Fg,ft L l≤l.length*(1+L.length)
 | []=>by simp [ft]
 |f::l=>by
  have:=u4 L l;have:=GD L f;rw [o5,List.length_cons,Nat.add_mul];omega
end Go.Ab
