/- Texts laid one behind the other: Set, Spl, Raw, PRes. -/
import Derived.Test.YtbcojehfealiaaaGreatDoorB22
set_option linter.all false
namespace Go.Ab
open Go.Proofs
variable [Base]
def js (l:List Spn) (t:Rat):Prop:=∃s∈l,InS s t
def Bef (a b:Spn):Prop:=a.nh=false∧b.nl=false∧a.hi<b.lo
structure SpG (s:Spn):Prop where
 lo:s.nl=true→s.lo=0
 hi:s.nh=true→s.hi=0
 lt:s.nl=false→s.nh=false→s.lo<s.hi
structure gV (l:List Spn):Prop where
 g:∀s∈l,SpG s
 p:l.Pairwise Bef
theorem Bl (E:List Rat):∀{x y:Rat},x<y→∃t,x<t∧t<y∧t∉E:=by
 induction E with
 |nil=>exact fun {x y} h=>⟨i8 x y,(kb h).1,(kb h).2,by simp⟩
 |cons e E ih =>
  intro x y h;by_cases he:x<e∧e<y
  ·obtain⟨t,h1,h2,h3⟩:=ih he.1;exact⟨t,h1,by grind,by simp only [List.mem_cons,not_or];exact⟨by grind,h3⟩⟩
  ·obtain⟨t,h1,h2,h3⟩:=ih h;exact⟨t,h1,h2,by simp only [List.mem_cons,not_or];exact⟨fun k=>he (k▸⟨h1,h2⟩),h3⟩⟩
theorem SpG.some {s:Spn}(h:SpG s):∃x y,x<y∧∀t,x<t→t<y→InS s t:=by
 obtain⟨lo,hi,nl,nh⟩:=s;have h3:=h.lt;unfold InS;simp only at *;cases nl <;> cases nh <;> simp only [Bool.false_eq_true,true_or,false_or,true_and,and_true,and_self]at *
 ·exact⟨lo,hi,by simpa using h3,fun t a b=>⟨a,b⟩⟩
 ·exact⟨lo,lo+1,by grind,fun t a b=>a⟩
 ·exact⟨hi-1,hi,by grind,fun t a b=>b⟩
 ·exact⟨0,1,by decide,fun _ _ _=>trivial⟩
theorem AK {s:Spn}{l:List Spn}(h:gV (s::l)){t:Rat}(ht:js (s::l) t):s.nl=true∨s.lo<t:=by
 obtain⟨u,hu,h1⟩:=ht;rcases List.mem_cons.1 hu with rfl|hu
 ·exact h1.1
 ·have hb:=(List.pairwise_cons.1 h.p).1 u hu;cases hn:s.nl with
  |true=>exact .inl rfl
  |false =>
   right;have h2:=(h.g s Ms).lt hn hb.1;have h3:=h1.1.resolve_left (by rw [hb.2.1];decide);have h4:=hb.2.2;grind
theorem AJ {s:Spn}{l:List Spn}(h:gV (s::l)){t:Rat}(ht:js l t):s.nh=false∧s.hi<t:=by
 obtain⟨u,hu,h1⟩:=ht;have hb:=(List.pairwise_cons.1 h.p).1 u hu;have h3:=h1.1.resolve_left (by rw [hb.2.1];decide);have h4:=hb.2.2;exact⟨hb.1,by grind⟩
theorem xn {E:List Rat}{s s':Spn}{l l':List Spn}(h:gV (s::l)) (h':gV (s'::l')) (he:∀t,t∉E→js (s::l) t→js (s'::l') t):s'.nl=true∨(s.nl=false∧s'.lo≤s.lo):=by
 cases hn':s'.nl with
 |true=>exact .inl rfl
 |false =>
  right;have hg:=h.g s Ms
  have key:∀x,(s.nl=true∨s.lo≤x)→x<s'.lo→(s.nh=true∨x<s.hi)→False:=fun x h1 h2 h3=>by
   have:∃y,x<y∧y≤s'.lo∧(s.nh=true∨y≤s.hi):=by
    rcases h3 with h3|h3
    ·exact⟨s'.lo,h2,Rat.le_refl, .inl h3⟩
    ·rcases Rat.le_total (a:=s.hi) (b:=s'.lo)with k|k
     ·exact⟨s.hi,h3,k, .inr Rat.le_refl⟩
     ·exact⟨s'.lo,h2,Rat.le_refl, .inr k⟩
   obtain⟨y,y1,y2,y3⟩:=this;obtain⟨t,t1,t2,t3⟩:=Bl E y1;have:=he t t3 ⟨s,Ms,h1.imp id (fun k=>by grind),y3.imp id (fun k=>by grind)⟩;have:=(AK h' this).resolve_left (by rw [hn'];decide);grind
  cases hn:s.nl with
  |true =>
   exfalso;cases hh:s.nh with
   |true=>exact key (s'.lo-1) (.inl hn) (by grind) (.inl hh)
   |false =>
    rcases Rat.le_total (a:=s.hi) (b:=s'.lo)with k|k
    ·exact key (s.hi-1) (.inl hn) (by grind) (.inr (by grind))
    ·exact key (s'.lo-1) (.inl hn) (by grind) (.inr (by grind))
  |false =>
   refine⟨rfl,Rat.not_lt.1 fun k=>key s.lo (.inr Rat.le_refl) k ?_⟩;cases hh:s.nh with
   |true=>exact .inl rfl
   |false=>exact .inr (hg.lt hn hh)
theorem xl {E:List Rat}{s s':Spn}{l l':List Spn}(h:gV (s::l)) (hb:s'.nl=true∨(s.nl=false∧s'.lo≤s.lo)) (he:∀t,t∉E→js (s'::l') t→js (s::l) t):s.nh=true∨(s'.nh=false∧s'.hi≤s.hi):=by
 cases hn:s.nh with
 |true=>exact .inl rfl
 |false =>
  right;have hg:=h.g s Ms
  have hlo:∀t,s.hi≤t→s'.nl=true∨s'.lo<t:=fun t ht=>by
   rcases hb with hb|⟨h1,h2⟩
   ·exact .inl hb
   ·right;have:=hg.lt h1 hn;grind
  have key:∀y,s.hi<y→(s'.nh=true∨y≤s'.hi)→False:=fun y h1 h2=>by
   have:∃z,s.hi<z∧z≤y∧∀t,s.hi<t→t<z→¬js (s::l) t:=by
    cases l with
    |nil =>
     refine⟨y,h1,Rat.le_refl,fun t k _=>?_⟩;rintro ⟨u,hu,⟨_,b⟩⟩;rw [List.mem_singleton.1 hu,hn]at b;have:=b.resolve_left (by decide);grind
    |cons u l =>
     have hbu:=(List.pairwise_cons.1 h.p).1 u Ms;have hnu:gV (u::l):=⟨fun x hx=>h.g x (Mc hx),(List.pairwise_cons.1 h.p).2⟩
     have hz:∃z,s.hi<z∧z≤y∧z≤u.lo:=by
      rcases Rat.le_total (a:=y) (b:=u.lo)with k|k
      ·exact⟨y,h1,Rat.le_refl,k⟩
      ·exact⟨u.lo,hbu.2.2,k,Rat.le_refl⟩
     obtain⟨z,z1,z2,z3⟩:=hz;refine⟨z,z1,z2,fun t k1 k2=>?_⟩;rintro ⟨v,hv,hi⟩;rcases List.mem_cons.1 hv with rfl|hv
     ·have:=hi.2.resolve_left (by rw [hn];decide);grind
     ·have:=(AK hnu ⟨v,hv,hi⟩).resolve_left (by rw [hbu.2.1];decide);grind
   obtain⟨z,z1,z2,z3⟩:=this;obtain⟨t,t1,t2,t3⟩:=Bl E z1;exact z3 t t1 t2 (he t t3 ⟨s',Ms,hlo t (by grind),h2.imp id (fun k=>by grind)⟩)
  cases hn':s'.nh with
  |true=>exact(key (s.hi+1) (by grind) (.inl hn')).elim
  |false=>exact⟨rfl,Rat.not_lt.1 fun k=>key s'.hi k (.inr Rat.le_refl)⟩
theorem nZ {E:List Rat}:∀{l l':List Spn},gV l→gV l'→(∀t,t∉E→(js l t↔js l' t))→l=l'
 | [],[],_,_,_=>rfl
 | [],s::l,_,h',he=>by
  obtain⟨x,y,hxy,hs⟩:=(h'.g s Ms).some;obtain⟨t,t1,t2,t3⟩:=Bl E hxy;obtain⟨u,hu,_⟩:=(he t t3).2 ⟨s,Ms,hs t t1 t2⟩;cases hu
 |s::l,[],h,_,he=>by
  obtain⟨x,y,hxy,hs⟩:=(h.g s Ms).some;obtain⟨t,t1,t2,t3⟩:=Bl E hxy;obtain⟨u,hu,_⟩:=(he t t3).1 ⟨s,Ms,hs t t1 t2⟩;cases hu
 |s::l,s'::l',h,h',he=>by
  have b1:=xn h h' fun t ht k=>(he t ht).1 k
  have b2:=xn h' h fun t ht k=>(he t ht).2 k
  have e1:=xl h b1 fun t ht k=>(he t ht).2 k
  have e2:=xl h' b2 fun t ht k=>(he t ht).1 k
  have g:=h.g s Ms;have g':=h'.g s' Ms
  have es:s=s':=by
   have nl:s.nl=s'.nl:=by
    rcases b1 with b1|⟨b1,_⟩ <;> rcases b2 with b2|⟨b2,_⟩ <;> simp_all
   have nh:s.nh=s'.nh:=by
    rcases e1 with e1|⟨e1,_⟩ <;> rcases e2 with e2|⟨e2,_⟩ <;> simp_all
   have lo:s.lo=s'.lo:=by
    rcases b1 with b1|⟨b1,k1⟩
    ·rw [g'.lo b1,g.lo (nl.trans b1)]
    ·rcases b2 with b2|⟨b2,k2⟩
     ·rw [b1]at b2;cases b2
     ·grind
   have hi:s.hi=s'.hi:=by
    rcases e1 with e1|⟨e1,k1⟩
    ·rw [g.hi e1,g'.hi (nh.symm.trans e1)]
    ·rcases e2 with e2|⟨e2,k2⟩
     ·rw [e1]at e2;cases e2
     ·grind
   obtain⟨a,b,c,d⟩:=s;obtain⟨a',b',c',d'⟩:=s';simp only at *;rw [nl,nh,lo,hi]
  subst es;have hl:gV l:=⟨fun x hx=>h.g x (Mc hx),(List.pairwise_cons.1 h.p).2⟩
  have hl':gV l':=⟨fun x hx=>h'.g x (Mc hx),(List.pairwise_cons.1 h'.p).2⟩
  refine congrArg (s :: ·) (nZ (E:=E) hl hl' fun t ht=>⟨fun k=>?_,fun k=>?_⟩)
  ·obtain⟨a,b⟩:=AJ h k;obtain⟨u,hu,hi⟩:=(he t ht).1 (k.imp fun u hu=>⟨Mc hu.1,hu.2⟩);rcases List.mem_cons.1 hu with rfl|hu
   ·have:=hi.2.resolve_left (by rw [a];decide);grind
   ·exact⟨u,hu,hi⟩
  ·obtain⟨a,b⟩:=AJ h' k;obtain⟨u,hu,hi⟩:=(he t ht).2 (k.imp fun u hu=>⟨Mc hu.1,hu.2⟩);rcases List.mem_cons.1 hu with rfl|hu
   ·have:=hi.2.resolve_left (by rw [a];decide);grind
   ·exact⟨u,hu,hi⟩
def Gap (cuts:List Rat) (i:Nat) (t:Rat):Prop:=(i=0∨cuts.getD (i-1) 0<t)∧(i=cuts.length∨t<cuts.getD i 0)
def Dl (cuts:List Rat):Prop:=∀i j,i<j→j<cuts.length→cuts.getD i 0<cuts.getD j 0
theorem wu {cuts:List Rat}{i:Nat}(hi:i≤cuts.length) (t:Rat):InS (ji cuts i) t↔Gap cuts i t:=by
 unfold InS ji Gap;simp only [decide_eq_true_eq];by_cases h0:i=0
 ·by_cases h1:i=cuts.length
  ·have e0:cuts.length=0:=by omega
   simp [h0,e0]
  ·rw [if_pos (show i<cuts.length by omega)];simp [h0]
 ·rw [if_pos (show 0<i by omega)];by_cases h1:i=cuts.length
  ·simp [h0,h1]
  ·rw [if_pos (show i<cuts.length by omega)]
theorem DP {cuts:List Rat}(ha:Dl cuts){i:Nat}(hi:i≤cuts.length):SpG (ji cuts i):=by
 unfold ji;refine⟨fun h=>?_,fun h=>?_,fun h1 h2=>?_⟩
 ·simp only [decide_eq_true_eq]at h⊢;rw [if_neg om]
 ·simp only [decide_eq_true_eq]at h⊢;rw [if_neg om]
 ·simp only [decide_eq_false_iff_not]at h1 h2⊢;rw [if_pos om,if_pos om];exact ha _ _ om om
structure Bx (cuts:List Rat) (marks:List Bool) (k:Nat) (out:List Spn):Prop where
 norm:gV out
 mem:∀t,t∉cuts→(js out t↔∃i,i<k∧marks.getD i false=true∧Gap cuts i t)
 last:0<k→marks.getD (k-1) false=true→∃init s,out=init++[s]∧s.nh=decide (k-1=cuts.length)∧s.hi=(if k-1<cuts.length then cuts.getD (k-1) 0 else 0)∧(s.nl=true∨s.lo<cuts.getD (k-1) 0∨k-1=cuts.length)
 idle:(k=0∨marks.getD (k-1) false=false)→∀s∈out,s.nh=false∧2≤k∧s.hi≤cuts.getD (k-2) 0
theorem zE (cuts:List Rat) (marks:List Bool):Bx cuts marks 0 [] :=
 ⟨⟨fun s h=>(by cases h),List.Pairwise.nil⟩,fun t _=>⟨fun⟨s,h,_⟩=>(by cases h),fun⟨i,h,_⟩=>om⟩,fun h=>om,fun _ s h=>(by cases h)⟩
theorem sF {cuts:List Rat}(ha:Dl cuts){i j:Nat}(h:i≤j) (hj:j<cuts.length):cuts.getD i 0≤cuts.getD j 0:=by
 by_cases e:i=j
 ·rw [e];exact Rat.le_refl
 ·exact Rat.le_of_lt (ha i j om hj)
theorem zG {cuts:List Rat}{marks:List Bool}(ha:Dl cuts){k:Nat}(hk:k≤cuts.length){out:List Spn}(h:Bx cuts marks k out):Bx cuts marks (k+1) (cY cuts marks out k):=by
 have hg:∀t,(∃i,i<k+1∧marks.getD i false=true∧Gap cuts i t)↔(∃i,i<k∧marks.getD i false=true∧Gap cuts i t)∨(marks.getD k false=true∧Gap cuts k t):=fun t=>by
  constructor
  ·rintro ⟨i,h1,h2,h3⟩;by_cases e:i=k
   ·rw [e]at h2 h3;exact .inr ⟨h2,h3⟩
   ·exact .inl ⟨i,om,h2,h3⟩
  ·rintro (⟨i,h1,h2,h3⟩|⟨h2,h3⟩)
   ·exact⟨i,om,h2,h3⟩
   ·exact⟨k,om,h2,h3⟩
 unfold cY;cases hm:marks.getD k false with
 |false =>
  rw [if_pos rfl];refine⟨h.norm,fun t ht=>?_,fun _ hh=>?_,fun _ s hs=>?_⟩
  ·rw [hg,hm,h.mem t ht];simp
  ·rw [Nat.add_sub_cancel,hm]at hh;cases hh
  ·by_cases hp:k=0∨marks.getD (k-1) false=false
   ·obtain⟨a,b,c⟩:=h.idle hp s hs;refine⟨a,om,?_⟩;have:=sF ha (show k-2≤k+1-2 by omega) om;grind
   ·rw [not_or]at hp;obtain⟨init,l,e,l1,l2,l3⟩:=h.last om (by simpa using hp.2);rw [if_pos om]at l2;rw [show k+1-2=k-1 by omega];rw [e]at hs;have hn:=h.norm;rw [e]at hn;rcases List.mem_append.1 hs with hs|hs
    ·obtain⟨b1,b2,b3⟩:=(List.pairwise_append.1 hn.p).2.2 s hs l (by simp);refine⟨b1,om,?_⟩;rcases l3 with l3|l3|l3
     ·rw [b2]at l3;cases l3
     ·grind
     ·omega
    ·rw [List.mem_singleton]at hs;rw [hs];exact⟨by rw [l1];exact decide_eq_false om,om,by rw [l2];exact Rat.le_refl⟩
 |true =>
  rw [if_neg (by decide)];by_cases hp:k=0∨marks.getD (k-1) false=false
  ·rw [if_neg (by rintro ⟨a,b,_⟩;rcases hp with hp|hp;omega;rw [hp]at b;cases b)];refine⟨⟨fun s hs=>?_,?_⟩,fun t ht=>?_,fun _ _=>?_,fun hh=>?_⟩
   ·rcases List.mem_append.1 hs with hs|hs
    ·exact h.norm.g s hs
    ·rw [List.mem_singleton.1 hs];exact DP ha hk
   ·refine List.pairwise_append.2 ⟨h.norm.p,List.pairwise_singleton _ _,fun s hs u hu=>?_⟩;rw [List.mem_singleton.1 hu];obtain⟨a,b,c⟩:=h.idle hp s hs;refine⟨a,decide_eq_false om,?_⟩;show s.hi<if 0<k then cuts.getD (k-1) 0 else 0
    rw [if_pos om];have:=ha (k-2) (k-1) om om;grind
   ·rw [hg,←h.mem t ht,hm];simp only [true_and];rw [←wu hk];unfold js;constructor
    ·rintro ⟨s,hs,hi⟩;rcases List.mem_append.1 hs with hs|hs
     ·exact .inl ⟨s,hs,hi⟩
     ·rw [List.mem_singleton.1 hs]at hi;exact .inr hi
    ·rintro (⟨s,hs,hi⟩|hi)
     ·exact⟨s,List.mem_append_left _ hs,hi⟩
     ·exact⟨_,List.mem_append_right _ Ms,hi⟩
   ·rw [Nat.add_sub_cancel];refine⟨out,ji cuts k,rfl,rfl,rfl,?_⟩;by_cases e:k=cuts.length
    ·exact .inr (.inr e)
    ·by_cases e0:k=0
     ·left;exact decide_eq_true e0
     ·right;left;show(if 0<k then cuts.getD (k-1) 0 else 0)<_
      rw [if_pos om];exact ha _ _ om om
   ·rw [Nat.add_sub_cancel,hm]at hh;rcases hh with hh|hh <;> cases hh
  ·rw [not_or]at hp;have hp1:marks.getD (k-1) false=true:=by simpa using hp.2
   obtain⟨init,l,e,l1,l2,l3⟩:=h.last om hp1;rw [if_pos om]at l2;have hl1:l.nh=false:=by rw [l1];exact decide_eq_false om
   rw [if_pos ⟨om,hp1,by rw [e];simp⟩]
   have hset:out.set (out.length-1) ⟨(out.getD (out.length-1) Spn.full).lo,(ji cuts k).hi,(out.getD (out.length-1) Spn.full).nl,(ji cuts k).nh⟩=init++[⟨l.lo,(ji cuts k).hi,l.nl,(ji cuts k).nh⟩]:=by
    have hlen:out.length-1=init.length:=by rw [e];simp
    have hgd:out.getD (out.length-1) Spn.full=l:=by rw [hlen,e,List.getD_eq_getElem?_getD,List.getElem?_append_right (Nat.le_refl _),Nat.sub_self];rfl
    rw [hgd,hlen,e,List.set_append_right _ _ (Nat.le_refl _),Nat.sub_self];rfl
   rw [hset];have hn:=h.norm;rw [e]at hn;obtain⟨p1,p2,p3⟩:=List.pairwise_append.1 hn.p;have gl:=hn.g l (by simp)
   have hlast:l.nl=true∨l.lo<cuts.getD (k-1) 0:=by
    rcases l3 with l3|l3|l3
    ·exact .inl l3
    ·exact .inr l3
    ·omega
   refine⟨⟨fun s hs=>?_,?_⟩,fun t ht=>?_,fun _ _=>?_,fun hh=>?_⟩
   ·rcases List.mem_append.1 hs with hs|hs
    ·exact hn.g s (List.mem_append_left _ hs)
    ·rw [List.mem_singleton.1 hs];refine⟨gl.lo,(DP ha hk).hi,fun h1 h2=>?_⟩;have hlo:=hlast.resolve_left (by rw [h1];decide);have h2':¬k=cuts.length:=of_decide_eq_false h2;show l.lo<if k<cuts.length then cuts.getD k 0 else 0
     rw [if_pos om];have:=ha (k-1) k om om;grind
   ·refine List.pairwise_append.2 ⟨p1,List.pairwise_singleton _ _,fun s hs u hu=>?_⟩;rw [List.mem_singleton.1 hu];exact p3 s hs l (by simp)
   ·rw [hg,←h.mem t ht,hm];simp only [true_and]
    have hne:t≠cuts.getD (k-1) 0:=fun e=>ht (by
     rw [e,List.getD_eq_getElem?_getD,List.getElem?_eq_getElem (show k-1<cuts.length by omega)];exact List.getElem_mem _)
    have key:InS ⟨l.lo,(ji cuts k).hi,l.nl,(ji cuts k).nh⟩ t↔InS l t∨Gap cuts k t:=by
     rw [←wu hk];have e1:(ji cuts k).nl=false:=decide_eq_false om;have e2:(ji cuts k).lo=cuts.getD (k-1) 0:=if_pos om
     have e3:(ji cuts k).nh=true∨cuts.getD (k-1) 0<(ji cuts k).hi:=by
      by_cases e:k=cuts.length
      ·left;exact decide_eq_true e
      ·right;show _<if k<cuts.length then cuts.getD k 0 else 0
       rw [if_pos om];exact ha _ _ om om
     unfold InS;simp only;rw [e1,e2,hl1,l2];generalize(ji cuts k).nh=nh at *;generalize(ji cuts k).hi=hi at *;generalize cuts.getD (k-1) 0=c at *;simp only [Bool.false_eq_true,false_or];constructor
     ·rintro ⟨a,b⟩;by_cases htc:t<c
      ·exact .inl ⟨a,htc⟩
      ·exact .inr ⟨by grind,b⟩
     ·rintro (⟨a,b⟩|⟨a,b⟩)
      ·exact⟨a,e3.imp id (fun k=>by grind)⟩
      ·exact⟨hlast.imp id (fun k=>by grind),b⟩
    unfold js;rw [e];constructor
    ·rintro ⟨s,hs,hi⟩;rcases List.mem_append.1 hs with hs|hs
     ·exact .inl ⟨s,List.mem_append_left _ hs,hi⟩
     ·rw [List.mem_singleton.1 hs,key]at hi;exact hi.imp (fun k=>⟨l,by simp,k⟩) id
    ·rintro (⟨s,hs,hi⟩|hi)
     ·rcases List.mem_append.1 hs with hs|hs
      ·exact⟨s,List.mem_append_left _ hs,hi⟩
      ·rw [List.mem_singleton.1 hs]at hi;exact⟨_,List.mem_append_right _ Ms,key.2 (.inl hi)⟩
     ·exact⟨_,List.mem_append_right _ Ms,key.2 (.inr hi)⟩
   ·rw [Nat.add_sub_cancel];refine⟨init,_,rfl,rfl,rfl,?_⟩;by_cases e:k=cuts.length
    ·exact .inr (.inr e)
    ·rcases hlast with h1|h1
     ·exact .inl h1
     ·right;left;have:=ha (k-1) k om om;show l.lo<_
      grind
   ·rw [Nat.add_sub_cancel,hm]at hh;rcases hh with hh|hh <;> cases hh
theorem tW {cuts:List Rat}{marks:List Bool}(ha:Dl cuts):∀k,k≤cuts.length+1→Bx cuts marks k ((List.range k).foldl (cY cuts marks) [])
 |0,_=>zE cuts marks
 |k+1,h=>by
  rw [List.range_succ,List.foldl_append];exact zG ha om (tW ha k om)
theorem FG {cuts:List Rat}{marks:List Bool}(ha:Dl cuts) (hl:marks.length=cuts.length+1):gV (s5 cuts marks)∧∀t,t∉cuts→(js (s5 cuts marks) t↔∃i,marks.getD i false=true∧Gap cuts i t):=by
 have h:=tW (marks:=marks) ha (cuts.length+1) (Nat.le_refl _);rw [←hl]at h;refine⟨h.norm,fun t ht=>(h.mem t ht).trans ⟨fun⟨i,_,b⟩=>⟨i,b⟩,fun⟨i,a,b⟩=>⟨i,?_,a,b⟩⟩⟩;rcases Nat.lt_or_ge i marks.length with k|k
 ·exact k
 ·rw [List.getD_eq_getElem?_getD,List.getElem?_eq_none k]at a;cases a
theorem w7 {cuts:List Rat}(h:cuts.Pairwise (· < ·)):Dl cuts:=fun i j hij hj=>by
 rw [List.getD_eq_getElem?_getD,List.getD_eq_getElem?_getD,List.getElem?_eq_getElem (show i<cuts.length by omega),List.getElem?_eq_getElem hj];exact List.pairwise_iff_getElem.1 h i j om hj hij
theorem Ak {x y:Rat}:rlt x y=true↔x<y:=by
 rw [decide_eq_true_eq,dO];grind
theorem wm {α:Type}{f:α→Bool}:∀(l:List α),∀x∈l.take (l.takeWhile f).length,f x=true
 | [],x,h=>by simp at h
 |a::l,x,h=>by
  rw [List.takeWhile_cons]at h;split at h
  ·rename_i hf;rw [List.length_cons,List.take_succ_cons]at h;rcases List.mem_cons.1 h with e|e
   ·rw [e];exact hf
   ·exact wm l x e
  ·simp at h
theorem oc {out:List Rat}{x:Rat}(h:out.Pairwise (· < ·)):(gq rlt out x).Pairwise (· < ·):=by
 unfold gq;split
 ·exact h
 ·rename_i hne;unfold xB;have h1:∀o∈out.take (gh rlt out x),o<x:=fun o ho=>Ak.1 (wm out o ho)
  have h2:∀o∈out.drop (gh rlt out x),x<o:=fun o ho=>by
   have hfirst:∀o0,out[gh rlt out x]? = some o0→x<o0:=fun o0 e=>by
    have hn:rlt o0 x=false:=qa (f:=fun o=>rlt o x) e;have:¬o0<x:=fun k=>by rw [Ak.2 k]at hn;cases hn
    have:o0≠x:=fun k=>hne (by rw [e,k])
    grind
   obtain⟨k,hk,e⟩:=List.mem_iff_getElem.1 ho;rw [List.length_drop]at hk;rw [List.getElem_drop]at e;have e0:=hfirst _ (List.getElem?_eq_getElem (show gh rlt out x<out.length by omega));by_cases hk0:k=0
   ·subst hk0;rw [←e];exact e0
   ·have:=List.pairwise_iff_getElem.1 h (gh rlt out x) (gh rlt out x+k) om om om;rw [e]at this;grind
  refine List.pairwise_append.2 ⟨h.sublist (List.take_sublist _ _),List.pairwise_cons.2 ⟨h2,h.sublist (List.drop_sublist _ _)⟩,fun a ha b hb=>?_⟩;rcases List.mem_cons.1 hb with e|e
  ·rw [e];exact h1 a ha
  ·have:=h1 a ha;have:=h2 b e;grind
theorem CQ {out:List Rat}{s:Spn}(h:out.Pairwise (· < ·)):(gU out s).Pairwise (· < ·):=by
 unfold gU;simp only;split
 ·split
  ·exact h
  ·exact oc h
 ·split
  ·exact oc h
  ·exact oc (oc h)
theorem ug:∀(l:List Spn){out:List Rat},out.Pairwise (· < ·)→(l.foldl gU out).Pairwise (· < ·)
 | [],_,h=>h
 |s::l,_,h=>by rw [List.foldl_cons];exact ug l (CQ h)
theorem s9 (l:List Spn):(cL l).Pairwise (· < ·):=ug l List.Pairwise.nil
theorem CP {out:List Rat}{s:Spn}{y:Rat}:y∈gU out s↔y∈out∨(s.nl=false∧y=s.lo)∨(s.nh=false∧y=s.hi):=by
 unfold gU;simp only;cases s.nl <;> cases s.nh <;> simp [jL] <;> grind
theorem uf:∀(l:List Spn){out:List Rat}{y:Rat},y∈l.foldl gU out↔y∈out∨∃s∈l,(s.nl=false∧y=s.lo)∨(s.nh=false∧y=s.hi)
 | [],_,_=>by simp
 |s::l,out,y=>by
  rw [List.foldl_cons,uf l,CP];simp only [List.mem_cons,exists_eq_or_imp];exact or_assoc
theorem dA {l:List Spn}{y:Rat}:y∈cL l↔∃s∈l,(s.nl=false∧y=s.lo)∨(s.nh=false∧y=s.hi):=by
 unfold cL;rw [uf];simp
theorem ts {cuts:List Rat}(ha:cuts.Pairwise (· < ·)){i:Nat}(hi:i≤cuts.length):Gap cuts i ((dP cuts).getD i 0):=by
 cases cuts with
 |nil =>
  have:i=0:=by simpa using hi
  subst this;exact⟨.inl rfl, .inl rfl⟩
 |cons c cs =>
  have hz:(List.zipWith i8 (c::cs) cs).length=cs.length:=by simp
  have has:=w7 ha;unfold dP;cases i with
  |zero =>
   refine⟨.inl rfl, .inr ?_⟩;show c-1<c
   grind
  |succ i =>
   rw [List.length_cons]at hi;rw [List.getD_cons_succ];by_cases e:i=cs.length
   ·refine⟨.inr ?_, .inl (by rw [e];rfl)⟩;rw [Nat.add_sub_cancel,List.getD_eq_getElem?_getD (l:=List.zipWith i8 (c::cs) cs++_),List.getElem?_append_right om,hz,e,Nat.sub_self]
    have:(c::cs).getD cs.length 0=(c::cs).getLast (by simp):=by
     rw [List.getD_eq_getElem?_getD,List.getLast_eq_getElem];simp
    rw [this];show _<(c::cs).getLast _+1
    grind
   ·have hlt:i<cs.length:=by omega
    have e1:(List.zipWith i8 (c::cs) cs++[(c::cs).getLast (by simp)+1]).getD i 0=i8 ((c::cs).getD i 0) ((c::cs).getD (i+1) 0):=by
     rw [List.getD_eq_getElem?_getD,List.getElem?_append_left om,List.getElem?_eq_getElem om,List.getElem_zipWith,List.getD_eq_getElem?_getD,List.getD_eq_getElem?_getD,List.getElem?_eq_getElem (show i<(c::cs).length by simp;omega),List.getElem?_cons_succ,List.getElem?_eq_getElem hlt];rfl
    rw [e1];obtain⟨m1,m2⟩:=kb (has i (i+1) om (by simp;omega));exact⟨.inr (by rw [Nat.add_sub_cancel];exact m1), .inr m2⟩
theorem oo {cuts:List Rat}(ha:cuts.Pairwise (· < ·)){i:Nat}(hi:i≤cuts.length){t u:Rat}(ht:Gap cuts i t) (hu:Gap cuts i u){y:Rat}(hy:y∈cuts):(y<t↔y<u)∧(t<y↔u<y):=by
 have has:=w7 ha;obtain⟨j,hj,e⟩:=List.mem_iff_getElem.1 hy;have ey:cuts.getD j 0=y:=by rw [List.getD_eq_getElem?_getD,List.getElem?_eq_getElem hj,←e];rfl
 by_cases hji:j<i
 ·have h1:y<t∧y<u:=by
   have hle:=sF has (show j≤i-1 by omega) om;rw [ey]at hle;obtain⟨a,_⟩:=ht;obtain⟨b,_⟩:=hu;have a:=a.resolve_left om;have b:=b.resolve_left om;grind
  grind
 ·have h1:t<y∧u<y:=by
   have hle:=sF has (show i≤j by omega) om;rw [ey]at hle;obtain⟨_,a⟩:=ht;obtain⟨_,b⟩:=hu;have a:=a.resolve_left om;have b:=b.resolve_left om;grind
  grind
theorem FE {cuts:List Rat}(ha:cuts.Pairwise (· < ·)){i:Nat}(hi:i≤cuts.length){t:Rat}(ht:Gap cuts i t):t∉cuts:=fun hm=>by
 obtain⟨j,hj,e⟩:=List.mem_iff_getElem.1 hm;have has:=w7 ha;have ey:cuts.getD j 0=t:=by rw [List.getD_eq_getElem?_getD,List.getElem?_eq_getElem hj,←e];rfl
 by_cases hji:j<i
 ·have hle:=sF has (show j≤i-1 by omega) om;have:=ht.1.resolve_left om;grind
 ·have hle:=sF has (show i≤j by omega) om;have:=ht.2.resolve_left om;grind
theorem Kv {cuts:List Rat}{t:Rat}(ht:t∉cuts):∃i,i≤cuts.length∧Gap cuts i t:=by
 have key:∀k,k≤cuts.length→(∃i,i<k∧Gap cuts i t)∨(k=0∨cuts.getD (k-1) 0<t):=fun k=>by
  induction k with
  |zero=>exact fun _ => .inr (.inl rfl)
  |succ k ih =>
   intro hk;rcases ih om with⟨i,h1,h2⟩|h
   ·exact .inl ⟨i,om,h2⟩
   ·have hne:t≠cuts.getD k 0:=fun e=>ht (by
     rw [e,List.getD_eq_getElem?_getD,List.getElem?_eq_getElem (show k<cuts.length by omega)];exact List.getElem_mem _)
    by_cases h1:t<cuts.getD k 0
    ·exact .inl ⟨k,om,h, .inr h1⟩
    ·right;right;rw [Nat.add_sub_cancel];grind
 rcases key cuts.length (Nat.le_refl _)with⟨i,h1,h2⟩|h
 ·exact⟨i,om,h2⟩
 ·exact⟨cuts.length,Nat.le_refl _,h, .inl rfl⟩
theorem qn {l:List Spn}{t:Rat}(ht:t∉cL l):inL l t=true↔js l t:=by
 rw [decide_eq_true_eq]
 have key:∀l':List Spn,(∀s∈l',s∈l)→(pD l' t=2↔js l' t):=fun l'=>by
  induction l' with
  |nil=>exact fun _=>⟨fun h=>(by cases h),fun⟨s,h,_⟩=>(by cases h)⟩
  |cons s l' ih =>
   intro hs;have hsl:=hs s Ms
   have h1:s.nl=true∨t≠s.lo:=by
    cases h:s.nl with
    |true=>exact .inl rfl
    |false=>exact .inr fun e=>ht (dA.2 ⟨s,hsl, .inl ⟨h,e⟩⟩)
   have h2:s.nh=true∨t≠s.hi:=by
    cases h:s.nh with
    |true=>exact .inl rfl
    |false=>exact .inr fun e=>ht (dA.2 ⟨s,hsl, .inr ⟨h,e⟩⟩)
   have hc:D6 s t=2∧InS s t∨D6 s t=0∧¬InS s t:=by
    unfold D6 InS;simp only;have s1:(t-s.lo).num.sign=0↔t=s.lo:=by rw [bB];grind
    have s2:(t-s.hi).num.sign=0↔t=s.hi:=by rw [bB];grind
    have s3:0<(t-s.lo).num.sign↔s.lo<t:=by rw [bp];grind
    have s4:(t-s.hi).num.sign<0↔t<s.hi:=by rw [dO];grind
    generalize(t-s.lo).num.sign=a at *;generalize(t-s.hi).num.sign=b at *;cases hn:s.nl <;> cases hh:s.nh <;> rw [hn]at h1 <;> rw [hh]at h2 <;> simp only [if_true,Bool.false_eq_true,if_false,false_or,true_or,true_and,and_true]at h1 h2⊢
    ·have:a≠0:=fun e=>h1 (s1.1 e)
     have:b≠0:=fun e=>h2 (s2.1 e)
     by_cases k:0<a∧b<0
     ·rw [if_pos k];exact .inl ⟨rfl,s3.1 k.1,s4.1 k.2⟩
     ·rw [if_neg k,if_neg om];exact .inr ⟨rfl,fun h=>k ⟨s3.2 h.1,s4.2 h.2⟩⟩
    ·have:a≠0:=fun e=>h1 (s1.1 e)
     by_cases k:0<a
     ·rw [if_pos ⟨k,by decide⟩];exact .inl ⟨rfl,s3.1 k⟩
     ·rw [if_neg om,if_neg om];exact .inr ⟨rfl,fun h=>k (s3.2 h)⟩
    ·have:b≠0:=fun e=>h2 (s2.1 e)
     by_cases k:b<0
     ·rw [if_pos ⟨by decide,k⟩];exact .inl ⟨rfl,s4.1 k⟩
     ·rw [if_neg om,if_neg om];exact .inr ⟨rfl,fun h=>k (s4.2 h)⟩
    ·rw [if_pos ⟨by decide,by decide⟩];exact .inl rfl
   have ihh:=ih fun x hx=>hs x (Mc hx)
   unfold pD;rcases hc with⟨c1,c2⟩|⟨c1,c2⟩
   ·rw [c1,if_neg (by decide)];exact⟨fun _=>⟨s,Ms,c2⟩,fun _=>rfl⟩
   ·rw [c1,if_pos rfl,ihh];constructor
    ·rintro ⟨u,hu,hi⟩;exact⟨u,Mc hu,hi⟩
    ·rintro ⟨u,hu,hi⟩;rcases List.mem_cons.1 hu with rfl|hu
     ·exact absurd hi c2
     ·exact⟨u,hu,hi⟩
 exact key l fun _ h=>h
theorem B2 {l:List Spn}{cuts:List Rat}(ha:cuts.Pairwise (· < ·)) (hc:∀y∈cL l,y∈cuts){i:Nat}(hi:i≤cuts.length){t u:Rat}(ht:Gap cuts i t) (hu:Gap cuts i u):inL l t=inL l u:=by
 have h1:=qn (l:=l) (t:=t) fun k=>FE ha hi ht (hc t k)
 have h2:=qn (l:=l) (t:=u) fun k=>FE ha hi hu (hc u k)
 have:js l t↔js l u:=by
  have hs:∀s∈l,(InS s t↔InS s u):=fun s hs=>by
   unfold InS;cases hn:s.nl <;> cases hh:s.nh <;> simp only [Bool.false_eq_true,false_or,true_or,true_and,and_true]
   ·have g1:=oo ha hi ht hu (hc s.lo (dA.2 ⟨s,hs, .inl ⟨hn,rfl⟩⟩));have g2:=oo ha hi ht hu (hc s.hi (dA.2 ⟨s,hs, .inr ⟨hh,rfl⟩⟩));rw [g1.1,g2.2]
   ·exact(oo ha hi ht hu (hc s.lo (dA.2 ⟨s,hs, .inl ⟨hn,rfl⟩⟩))).1
   ·exact(oo ha hi ht hu (hc s.hi (dA.2 ⟨s,hs, .inr ⟨hh,rfl⟩⟩))).2
  exact⟨fun⟨s,a,b⟩=>⟨s,a,(hs s a).1 b⟩,fun⟨s,a,b⟩=>⟨s,a,(hs s a).2 b⟩⟩
 rw [Bool.eq_iff_iff,h1,h2,this]
theorem xI {cuts:List Rat}(ha:cuts.Pairwise (· < ·)) (f:Rat→Bool) (hf:∀i t u,i≤cuts.length→Gap cuts i t→Gap cuts i u→f t=f u) :
  gV (s5 cuts ((dP cuts).map f))∧∀t,t∉cuts→(js (s5 cuts ((dP cuts).map f)) t↔f t=true):=by
 obtain⟨h1,h2⟩:=FG (marks:=(dP cuts).map f) (w7 ha) (by rw [List.length_map,jX])
 have hm:∀i,i≤cuts.length→((dP cuts).map f).getD i false=f ((dP cuts).getD i 0):=fun i hi=>by
  have hl:i<(dP cuts).length:=by rw [jX];omega
  rw [List.getD_eq_getElem?_getD,List.getElem?_map,List.getD_eq_getElem?_getD,List.getElem?_eq_getElem hl];rfl
 refine⟨h1,fun t ht=>(h2 t ht).trans ⟨?_,fun h=>?_⟩⟩
 ·rintro ⟨i,hi,g⟩
  have hle:i≤cuts.length:=by
   rcases Nat.lt_or_ge cuts.length i with k|k
   ·rw [List.getD_eq_getElem?_getD,List.getElem?_eq_none (by rw [List.length_map,jX];omega)]at hi;cases hi
   ·exact k
  rw [hm i hle]at hi;rw [hf i t _ hle g (ts ha hle)];exact hi
 ·obtain⟨i,hi,g⟩:=Kv ht;exact⟨i,by rw [hm i hi,←hf i t _ hi g (ts ha hi)];exact h,g⟩
theorem xY (op:Int) (a b:List Spn):gV (kF op a b)∧∀t,t∉cL (a++b)→(js (kF op a b) t↔opB op (inL a t) (inL b t)=true):=by
 have ha:∀y∈cL a,y∈cL (a++b):=fun y hy=>by
  obtain⟨s,h1,h2⟩:=dA.1 hy;exact dA.2 ⟨s,List.mem_append_left _ h1,h2⟩
 have hb:∀y∈cL b,y∈cL (a++b):=fun y hy=>by
  obtain⟨s,h1,h2⟩:=dA.1 hy;exact dA.2 ⟨s,List.mem_append_right _ h1,h2⟩
 exact xI (s9 _) (fun t=>opB op (inL a t) (inL b t)) fun i t u hi ht hu=>by
  rw [B2 (s9 _) ha hi ht hu,B2 (s9 _) hb hi ht hu]
theorem EQ {s:Spn}(h:SpG s):gV [s]:=⟨fun x hx=>by rw [List.mem_singleton.1 hx];exact h,List.pairwise_singleton _ _⟩
theorem xk:gV []:=⟨fun s h=>(by cases h),List.Pairwise.nil⟩
theorem DO {s:Spn}(h:ef s=false) (h1:s.nl=false) (h2:s.nh=false):s.lo<s.hi:=by
 obtain⟨a,b⟩:=gc h;have a:=a.resolve_left (by rw [h1];decide);have b:=b.resolve_left (by rw [h2];decide);grind
theorem AR {v w:Spn}(hv:SpG v) (hw:SpG w) (h:ef (dG v w)=false):SpG (dG v w):=by
 refine⟨fun k=>?_,fun k=>?_,DO h⟩
 ·have k:(v.nl&&w.nl)=true:=k;rw [Bool.and_eq_true]at k;show(if v.nl then w.lo else _)=0
  rw [if_pos k.1];exact hw.lo k.2
 ·have k:(v.nh&&w.nh)=true:=k;rw [Bool.and_eq_true]at k;show(if v.nh then w.hi else _)=0
  rw [if_pos k.1];exact hw.hi k.2
theorem sI {s:Spn}{t:Rat}:js [s] t↔InS s t:=⟨fun⟨u,hu,h⟩=>List.mem_singleton.1 hu▸h,fun h=>⟨s,List.mem_singleton.2 rfl,h⟩⟩
theorem AH (x y:Bool):opB 2 x y=(x&&y):=rfl
theorem FO {a b:List Spn}{t:Rat}(h:t∉cL (a++b)):t∉cL a∧t∉cL b :=
 ⟨fun k=>h (by obtain⟨s,h1,h2⟩:=dA.1 k;exact dA.2 ⟨s,List.mem_append_left _ h1,h2⟩),fun k=>h (by obtain⟨s,h1,h2⟩:=dA.1 k;exact dA.2 ⟨s,List.mem_append_right _ h1,h2⟩)⟩
theorem pC {s h:Spn}(hs:SpG s) (hh:SpG h):kF 2 [s] [h]=if ef (dG s h)then []else [dG s h]:=by
 obtain⟨h1,h2⟩:=xY 2 [s] [h]
 have hm:∀t,t∉cL ([s]++[h])→(js (kF 2 [s] [h]) t↔InS (dG s h) t):=fun t ht=>by
  obtain⟨k1,k2⟩:=FO ht;rw [h2 t ht,AH,Bool.and_eq_true,qn k1,qn k2,sI,sI,rJ]
 cases hb:ef (dG s h)with
 |true =>
  rw [if_pos rfl];refine nZ (E:=cL ([s]++[h])) h1 xk fun t ht=>(hm t ht).trans ⟨fun k=>?_,fun⟨u,hu,_⟩=>(by cases hu)⟩
  rw [jw k]at hb;cases hb
 |false =>
  rw [if_neg (by decide)];exact nZ (E:=cL ([s]++[h])) h1 (EQ (AR hs hh hb)) fun t ht=>(hm t ht).trans sI.symm
theorem sA {s:Spn}:kF 2 [s] []=[]:=by
 obtain⟨h1,h2⟩:=xY 2 [s] [];refine nZ (E:=cL ([s]++[])) h1 xk fun t ht=>(h2 t ht).trans ⟨fun k=>?_,fun⟨u,hu,_⟩=>(by cases hu)⟩
 rw [AH,Bool.and_eq_true]at k;have:=of_decide_eq_true k.2;cases this
theorem Kw:SpG Spn.full:=⟨fun _=>rfl,fun _=>rfl,fun h=>by cases h⟩
theorem FA (k u:Rat):SpG (hlf k u):=by
 unfold hlf;split
 ·exact⟨fun h=>(by cases h),fun _=>rfl,fun _ h=>(by cases h)⟩
 ·exact⟨fun _=>rfl,fun h=>(by cases h),fun h=>(by cases h)⟩
theorem xu {s:Spn}(h:SpG s):dG s Spn.full=s:=by
 obtain⟨a,b,c,d⟩:=s;have h1:=h.lo;have h2:=h.hi;unfold dG;cases c <;> cases d <;> simp at h1 h2⊢<;> simp [h1,h2]
theorem tT {l m:Li}(hl:l.ok) (h:bH l m≠0) (side:Int) (hs:side=1∨side = -1):f5 l m side=([hlf (side*slp l m) (-(a8 m (aD l)/slp l m))],false):=by
 have hk:slp l m≠0:=fun e=>h (by rw [lm,e];rfl)
 have hu:bo l (aY l m) = -(a8 m (aD l)/slp l m):=by
  have h1:=su hk (bo l (aY l m));have h2:=nC hl h (bo l (aY l m));have:(bo l (aY l m) - -(a8 m (aD l)/slp l m))*slp l m=0:=by rw [←h1,h2];grind
  rcases Rat.mul_eq_zero.1 this with e|e
  ·grind
  ·exact absurd e hk
 unfold f5;rw [if_neg h];have hv:a8 m (atL l (bo l (aY l m)+1))=slp l m:=by rw [nC hl h];grind
 have hsd:cW m (atL l (bo l (aY l m)+1))=(slp l m).num.sign:=by unfold cW;rw [hv]
 rw [hsd,hu]
 have h3:(slp l m).num.sign=1∨(slp l m).num.sign = -1:=by
  have:=Int.sign_trichotomy (slp l m).num;have:(slp l m).num.sign≠0:=fun e=>hk (bB.1 e)
  omega
 have h4:(((-1:Int):Rat)*slp l m).num.sign = - (slp l m).num.sign:=by
  have:((-1:Int):Rat)*slp l m = - slp l m:=by
   have e:((-1:Int):Rat) = -1:=rfl;rw [e];grind
  rw [this,Rat.neg_num,Int.sign_neg]
 have h5:(((1:Int):Rat)*slp l m).num.sign=(slp l m).num.sign:=by
  have:((1:Int):Rat)*slp l m=slp l m:=by
   have e:((1:Int):Rat)=1:=rfl;rw [e];grind
  rw [this]
 unfold hlf;rcases hs with rfl|rfl
 ·rw [h5];rcases h3 with h3|h3 <;> rw [h3] <;> simp
 ·rw [h4];rcases h3 with h3|h3 <;> rw [h3] <;> simp
theorem Ky (x y:Rat) : -x / -y=x/y:=by
 by_cases h:y=0
 ·rw [h];simp [Rat.div_def]
 ·refine jk (n := -y) (by grind) ?_;rw [Rat.mul_comm,Rat.div_mul_cancel (by grind)];have:x/y*y=x:=Rat.div_mul_cancel h;grind
theorem Bn {l m:Li}{v:Spn}:dZ l v m.neg=if(slp l m).num.sign=0 then(if(a8 m (aD l)).num.sign<0 then some v else none)
  else if ef (dG v (hlf (-slp l m) (-(a8 m (aD l)/slp l m))))then none else some (dG v (hlf (-slp l m) (-(a8 m (aD l)/slp l m)))):=by
 have e1:slp l m.neg = - slp l m:=by unfold slp Li.neg;simp only [Rat.intCast_neg];grind
 have e2:a8 m.neg (aD l) / - slp l m=a8 m (aD l)/slp l m:=by rw [gC];exact Ky _ _
 unfold dZ;rw [e1,e2,gC,Rat.neg_num,Rat.neg_num,Int.sign_neg,Int.sign_neg];generalize(slp l m).num.sign=a;generalize(a8 m (aD l)).num.sign=b;by_cases h:a=0
 ·rw [if_pos om,if_pos h];by_cases k:b<0
  ·rw [if_pos om,if_pos k]
  ·rw [if_neg om,if_neg k]
 ·rw [if_neg om,if_neg h]
theorem ie {f:Fg}{m:Li}(hf:SpG f.2) (hb:ef f.2=false) (hl:f.1.ok):bM f m=(((dZ f.1 f.2 m).toList).map fun s=>(f.1,s),((dZ f.1 f.2 m.neg).toList).map fun s=>(f.1,s)):=by
 obtain⟨l,s⟩:=f;simp only at *;unfold bM;simp only;rw [Bn];by_cases hd:bH l m=0
 ·have hk:slp l m=0:=by rw [lm]at hd;grind
  have hk0:(slp l m).num.sign=0:=bB.2 hk;unfold dZ f5;rw [if_pos hd,if_pos hd,if_pos hk0,if_pos hk0];have hsd:cW m (aD l)=(a8 m (aD l)).num.sign:=rfl;rw [←hsd];have e2:kF 2 [s] [Spn.full]=[s]:=by rw [pC hf Kw,xu hf,hb];rfl
  rcases tf m (aD l)with h|h|h
  ·rw [h];simp [e2,sA]
  ·rw [h];simp
  ·rw [h];simp [e2,sA]
 ·have hk:slp l m≠0:=fun e=>hd (by rw [lm,e];rfl)
  have hk0:¬(slp l m).num.sign=0:=fun e=>hk (bB.1 e)
  rw [tT hl hd 1 (.inl rfl),tT hl hd (-1) (.inr rfl)];unfold dZ;rw [if_neg hk0,if_neg hk0]
  have e1:((1:Int):Rat)*slp l m=slp l m:=by
   have e:((1:Int):Rat)=1:=rfl;rw [e];grind
  have e2:((-1:Int):Rat)*slp l m = - slp l m:=by
   have e:((-1:Int):Rat) = -1:=rfl;rw [e];grind
  rw [e1,e2];simp only [Bool.false_eq_true,if_false];rw [pC hf (FA _ _),pC hf (FA _ _)];split <;> split <;> rfl
def iO:Tr→Nat
 | .leaf _=>0
 | .node _ a b=>1+iO a+iO b
def fj:Tr→Nat
 | .leaf _=>0
 | .node _ a b=>1+max (fj a) (fj b)
def Crs (f:Fg) (m:Li):Prop:=∃t,InS f.2 t∧a8 m (atL f.1 t)=0∧slp f.1 m≠0
open Classical in
noncomputable def sB (L:List Li) (f:Fg):Nat:=L.countP fun m=>decide (Crs f m)
noncomputable def fM (L:List Li) (l:List Fg):Nat:=(l.map fun f=>1+sB L f).sum
theorem wW (L:List Li) (a b:List Fg):fM L (a++b)=fM L a+fM L b:=by unfold fM;rw [List.map_append,List.sum_append]
theorem p7 (L:List Li) (f:Fg) (l:List Fg):fM L (f::l)=1+sB L f+fM L l:=by unfold fM;rw [List.map_cons,List.sum_cons]
open Classical in
theorem xZ {L:List Li}{f g:Fg}(h:∀m∈L,Crs g m→Crs f m):sB L g≤sB L f:=by
 unfold sB;induction L with
 |nil=>simp
 |cons a L ih =>
  have ih:=ih fun m hm=>h m (Mc hm)
  rw [List.countP_cons,List.countP_cons];by_cases k:Crs g a
  ·rw [if_pos (decide_eq_true k),if_pos (decide_eq_true (h a List.mem_cons_self k))];omega
  ·rw [if_neg (by simpa using k)];omega
open Classical in
theorem IM {L:List Li}{f g k:Fg}(h1:∀m∈L,Crs g m→Crs f m) (h2:∀m∈L,Crs k m→Crs f m) (h3:∀m∈L,Crs g m→Crs k m→False){x:Li}(hx:x∈L) (x1:Crs f x) (x2:¬Crs g x) (x3:¬Crs k x) :
  sB L g+sB L k+1≤sB L f:=by
 unfold sB;induction L with
 |nil=>cases hx
 |cons a L ih =>
  have g1:∀m∈L,Crs g m→Crs f m:=fun m hm=>h1 m (Mc hm)
  have g2:∀m∈L,Crs k m→Crs f m:=fun m hm=>h2 m (Mc hm)
  have g3:∀m∈L,Crs g m→Crs k m→False:=fun m hm=>h3 m (Mc hm)
  rw [List.countP_cons,List.countP_cons,List.countP_cons]
  have base:L.countP (fun m=>decide (Crs g m))+L.countP (fun m=>decide (Crs k m))≤L.countP (fun m=>decide (Crs f m)):=by
   clear ih hx;induction L with
   |nil=>simp
   |cons b L ih' =>
    have ih':=ih' (fun m hm=>by rcases List.mem_cons.1 hm with e|e;exact h1 m (e▸Ms);exact h1 m (Mc (Mc e)))
     (fun m hm=>by rcases List.mem_cons.1 hm with e|e;exact h2 m (e▸Ms);exact h2 m (Mc (Mc e)))
     (fun m hm=>by rcases List.mem_cons.1 hm with e|e;exact h3 m (e▸Ms);exact h3 m (Mc (Mc e)))
     (fun m hm=>g1 m (Mc hm)) (fun m hm=>g2 m (Mc hm)) (fun m hm=>g3 m (Mc hm))
    rw [List.countP_cons,List.countP_cons,List.countP_cons];have b1:=g1 b Ms;have b2:=g2 b Ms;have b3:=g3 b Ms;by_cases p:Crs g b <;> by_cases q:Crs k b <;> by_cases r:Crs f b <;> simp only [p,q,r,decide_true,decide_false,if_true,Bool.false_eq_true,if_false] <;> first|omega|exact absurd (b1 p) r|exact absurd (b2 q) r|exact(b3 p q).elim
  have a1:=h1 a Ms;have a2:=h2 a Ms;have a3:=h3 a Ms;rcases List.mem_cons.1 hx with e|e
  ·subst e;simp only [x1,x2,x3,decide_true,decide_false,if_true,Bool.false_eq_true,if_false];omega
  ·have ih:=ih g1 g2 g3 e;by_cases p:Crs g a <;> by_cases q:Crs k a <;> by_cases r:Crs f a <;> simp only [p,q,r,decide_true,decide_false,if_true,Bool.false_eq_true,if_false] <;> first|omega|exact absurd (a1 p) r|exact absurd (a2 q) r|exact(a3 p q).elim
structure FgG (L:List Li) (f:Fg):Prop where
 ok:f.1.ok
 mem:f.1∈L
 g:SpG f.2
 b:ef f.2=false
theorem FgG.some {L:List Li}{f:Fg}(h:FgG L f):∃t,InS f.2 t:=⟨_,gc h.b⟩
theorem Kz {l m:Li}{v w:Spn}(hv:SpG v) (hb:ef v=false) (h:dZ l v m=some w):SpG w∧ef w=false:=by
 obtain⟨t,ht⟩:=jQ ⟨_,gc hb⟩ h;refine⟨?_,jw ht⟩;unfold dZ at h;split at h
 ·split at h
  ·cases h;exact hv
  ·cases h
 ·split at h
  ·cases h
  ·rename_i h2;cases h;exact AR hv (FA _ _) (by simpa using h2)
theorem qw {f:Fg}{m:Li}{w:Spn}(h:dZ f.1 f.2 m=some w){x:Li}(k:Crs (f.1,w) x):Crs f x:=by
 obtain⟨t,h1,h2,h3⟩:=k;exact⟨t,((dR h t).1 h1).1,h2,h3⟩
theorem InS.mid {s:Spn}{t u:Rat}(ht:InS s t) (hu:InS s u){v:Rat}(h1:t≤v) (h2:v≤u):InS s v:=by
 obtain⟨a,_⟩:=ht;obtain⟨_,b⟩:=hu;exact⟨a.imp id (fun k=>by grind),b.imp id (fun k=>by grind)⟩
theorem FW {f:Fg}{m:Li}{w w':Spn}(hw:∃t,InS f.2 t) (h:dZ f.1 f.2 m=some w) (h':dZ f.1 f.2 m.neg=some w') :
  Crs f m∧¬Crs (f.1,w) m∧¬Crs (f.1,w') m∧∀x,Crs (f.1,w) x→Crs (f.1,w') x→False:=by
 obtain⟨t,ht⟩:=jQ hw h;obtain⟨u,hu⟩:=jQ hw h';obtain⟨t1,t2⟩:=(dR h t).1 ht;obtain⟨u1,u2⟩:=(dR h' u).1 hu;rw [gC]at u2
 have hk:slp f.1 m≠0:=fun e=>by
  rw [aV,e]at t2 u2;grind
 refine⟨?_,?_,?_,?_⟩
 ·have e:∀v,a8 m (atL f.1 v)=(v - -(a8 m (aD f.1)/slp f.1 m))*slp f.1 m:=su hk;have e0:=e (-(a8 m (aD f.1)/slp f.1 m));rw [e]at t2 u2;generalize -(a8 m (aD f.1)/slp f.1 m)=z at *;refine⟨z,?_,by rw [e0];grind,hk⟩;by_cases hp:0<slp f.1 m
  ·have a:=(eT hp).1 t2;have b:=(eT (x:=z-u) hp).1 (by grind);exact InS.mid u1 t1 (by grind) (by grind)
  ·have hn:0 < - slp f.1 m:=by grind
   have a:=(eT (x:=z-t) hn).1 (by grind);have b:=(eT (x:=u-z) hn).1 (by grind);exact InS.mid t1 u1 (by grind) (by grind)
 ·rintro ⟨v,v1,v2,_⟩;have:=((dR h v).1 v1).2;simp only at v2;rw [v2]at this;exact absurd this (by decide)
 ·rintro ⟨v,v1,v2,_⟩;have:=((dR h' v).1 v1).2;simp only at v2;rw [gC,v2]at this;exact absurd this (by decide)
 ·rintro x ⟨v,v1,v2,v3⟩ ⟨v',w1,w2,w3⟩;simp only at v2 v3 w2
  have hvv:v=v':=by
   rw [aV]at v2 w2;have:(v-v')*slp f.1 x=0:=by grind
   rcases Rat.mul_eq_zero.1 this with e|e
   ·grind
   ·exact absurd e v3
  subst hvv;have a:=((dR h v).1 v1).2;have b:=((dR h' v).1 w1).2;rw [gC]at b;grind
theorem uH {L:List Li}{f:Fg}{m:Li}(hf:FgG L f):(∀g∈(bM f m).1,FgG L g∧g.1=f.1)∧∀g∈(bM f m).2,FgG L g∧g.1=f.1:=by
 rw [ie hf.g hf.b hf.ok]
 have key:∀x:Li,∀g∈((dZ f.1 f.2 x).toList).map (fun s=>(f.1,s)),FgG L g∧g.1=f.1:=fun x g hg=>by
  obtain⟨w,hw,rfl⟩:=List.mem_map.1 hg;rw [Option.mem_toList]at hw;obtain⟨a,b⟩:=Kz hf.g hf.b hw;exact⟨⟨hf.ok,hf.mem,a,b⟩,rfl⟩
 exact⟨key m,key m.neg⟩
theorem oS {L:List Li}{f:Fg}{m:Li}(hf:FgG L f):(bM f m).1.length≤1∧(bM f m).2.length≤1:=by
 rw [ie hf.g hf.b hf.ok];simp only [List.length_map];constructor
 ·cases dZ f.1 f.2 m <;> simp
 ·cases dZ f.1 f.2 m.neg <;> simp
theorem BI {L:List Li}{f:Fg}{m:Li}(hf:FgG L f) (hm:m∈L):fM L (bM f m).1+fM L (bM f m).2≤1+sB L f:=by
 rw [ie hf.g hf.b hf.ok];cases h:dZ f.1 f.2 m with
 |none =>
  cases h':dZ f.1 f.2 m.neg with
  |none=>simp [fM]
  |some w' =>
   have:=xZ (L:=L) (f:=f) (g:=(f.1,w')) fun x _ k=>qw h' k
   simp [fM];omega
 |some w =>
  have h1:=xZ (L:=L) (f:=f) (g:=(f.1,w)) fun x _ k=>qw h k
  cases h':dZ f.1 f.2 m.neg with
  |none=>simp [fM];omega
  |some w' =>
   obtain⟨a,b,c,d⟩:=FW hf.some h h';have:=IM (L:=L) (f:=f) (g:=(f.1,w)) (k:=(f.1,w')) (fun x _ k=>qw h k) (fun x _ k=>qw h' k) (fun x _=>d x) hm a b c;simp [fM];omega
theorem yq {L:List Li}{f:Fg}(hf:FgG L f):bM f f.1=([],[]):=by
 have hk:slp f.1 f.1=0:=by unfold slp;grind
 have hb:a8 f.1 (aD f.1)=0:=by have:=fk hf.ok 0;rw [aV,hk]at this;grind
 rw [ie hf.g hf.b hf.ok,Bn];unfold dZ;rw [hk,hb];simp
theorem qO {L:List Li}{l:List Fg}{m:Li}(hl:∀f∈l,FgG L f):(∀g∈(aK l m).1,FgG L g)∧∀g∈(aK l m).2,FgG L g:=by
 unfold aK;constructor
 ·intro g hg;obtain⟨x,hx,hgx⟩:=List.mem_flatten.1 hg;obtain⟨f,hf,rfl⟩:=List.mem_map.1 hx;exact((uH (hl f hf)).1 g hgx).1
 ·intro g hg;obtain⟨x,hx,hgx⟩:=List.mem_flatten.1 hg;obtain⟨f,hf,rfl⟩:=List.mem_map.1 hx;exact((uH (hl f hf)).2 g hgx).1
theorem qN {L:List Li}{m:Li}(hm:m∈L):∀{l:List Fg},(∀f∈l,FgG L f)→fM L (aK l m).1+fM L (aK l m).2≤fM L l
 | [],_=>by simp [aK,fM]
 |f::l,hl=>by
  have ih:=qN hm (l:=l) fun x hx=>hl x (Mc hx)
  have h1:=BI (hl f Ms) hm;unfold aK at *;simp only [List.map_cons,List.flatten_cons]at *;rw [wW,wW,p7];omega
theorem pK {L:List Li}{f:Fg}{l:List Fg}(hl:∀g∈f::l,FgG L g):fM L (aK (f::l) f.1).1+fM L (aK (f::l) f.1).2+1≤fM L (f::l):=by
 have hf:=hl f Ms;have ih:=qN hf.mem (l:=l) fun x hx=>hl x (Mc hx)
 unfold aK at *;simp only [List.map_cons,List.flatten_cons,yq hf,List.nil_append]at *;rw [p7];omega
def Tr.lin (L:List Li):Tr→Prop
 | .leaf _=>True
 | .node l a b=>l∈L∧a.lin L∧b.lin L
theorem lG {L:List Li}(inn:Pq→Bool):∀(n:Nat) (l:List Fg) (c:List Li),(∀f∈l,FgG L f)→fM L l<n→iO (gg inn n l c)≤fM L l∧fj (gg inn n l c)≤fM L l∧(gg inn n l c).lin L
 |0,_,_,_,h=>by omega
 |n+1,[],c,_,_=>⟨Nat.zero_le _,Nat.zero_le _,trivial⟩
 |n+1,f::l,c,hl,h=>by
  have hs:=pK hl;obtain⟨g1,g2⟩:=qO (m:=f.1) hl;obtain⟨a1,a2,a3⟩:=lG inn n (aK (f::l) f.1).1 (c++[f.1]) g1 om;obtain⟨b1,b2,b3⟩:=lG inn n (aK (f::l) f.1).2 (c++[f.1.neg]) g2 om;unfold gg;refine⟨?_,?_,(hl f Ms).mem,a3,b3⟩
  ·simp only [iO];omega
  ·simp only [fj];omega
theorem IN (L:List Li) (f:Fg):sB L f≤L.length:=List.countP_le_length
theorem uX (L:List Li):∀l:List Fg,fM L l≤l.length*(1+L.length)
 | []=>by simp [fM]
 |f::l=>by
  have:=uX L l;have:=IN L f;rw [p7,List.length_cons,Nat.add_mul];omega
end Go.Ab
namespace Go.Ab
open Go.Proofs
variable [Base]
theorem LT {P:Program}{F:Fr}{H:LH}{r1 r2 r3 r4:ResultVar}{s1 s2 s3 s4 res:SV}(h1:RV P F H r1 s1) (h2:RV P F H r2 s2) (h3:RV P F H r3 s3) (h4:RV P F H r4 s4) (hl:Le (tup [s1,s2,s3,s4]) res):jt P [r1,r2,r3,r4] res F H:=⟨[s1,s2,s3,s4],⟨h1,h2,h3,h4,trivial⟩,hl⟩
def yh (L:Nat) (s:Fg):Prop:=s.1.le L∧s.2.le (50*L)
theorem tz {l:Li}{L:Nat}(hl:l.le L) (h1:1≤L):∀{c:PC}{v w:Spn},(∀s∈c,s.1.le L)→v.le (50*L)→gi l v c=some w→w.le (50*L)
 | [],v,w,_,hv,h=>by cases h;exact hv
 |s::c,v,w,hc,hv,h=>by
  rw [pP]at h;split at h
  ·exact tz hl h1 (fun x hx=>hc x (Mc hx)) (vV hl (hc s Ms) h1 hv) h
  ·cases h
theorem oF {pos:PC→Nat}{c:PC}{l:Li}{L:Nat}(hc:∀s∈c,yh L s) (hl:l.le L) (h1:1≤L):∀s∈(bs pos c l).1,yh L s:=fun s hs=>by
 unfold bs at hs;cases hp:gH c l with
 |none=>rw [hp]at hs;exact hc s hs
 |some v =>
  rw [hp]at hs;simp only at hs;rw [(iH (bd c l) (l,v) _).mem_iff,List.mem_cons]at hs;rcases hs with e|e
  ·rw [e];exact⟨hl,tz hl h1 (fun x hx=>(hc x hx).1) (B8 om) hp⟩
  ·obtain⟨s0,h2,h3,h4⟩:=jJ.1 e;obtain⟨k1,k2⟩:=hc s0 h2;have hv:=vV k1 hl h1 k2;rw [zQ]at h4;split at h4
   ·have e:=Option.some.inj h4;rw [yh,←h3,←e];exact⟨k1,hv⟩
   ·cases h4
theorem lW (pos:PC→Nat) (c:PC) (l:Li):(bs pos c l).1.length≤c.length+1:=by
 unfold bs;cases hp:gH c l with
 |none=>exact Nat.le_succ _
 |some v =>
  have:=rP c l;simp only [List.length_append,List.length_cons,List.length_take,List.length_drop];omega
theorem CZ {c:PC}{l:Li}{L:Nat}(hc:∀s∈c,yh L s) (hl:l.le L) (h1:1≤L) (hU:L≤500) (hn:c.length≤100000) :
  Pu Tryz.prog 263 [pcs c,lfl l] (Ab.tup [pcs (bs (aP l) c l).1,pcs (bs (aP l.neg) c l.neg).1,lit (.bool (bs (aP l) c l).2),lit (.bool (bs (aP l.neg) c l.neg).2)]):=by
 have c1:=Br hc hl h1 hU hn;have hln:l.neg.le L:=⟨by show il (-l.a)≤L;rw [cH];exact hl.a,by show il (-l.b)≤L;rw [cH];exact hl.b,by show il (-l.c)≤L;rw [cH];exact hl.c⟩
 have c2:=Br hc hln h1 hU hn;have c3:=Il l (hl.gr om);clear hc hl hln;refine Pi Tryz.func263 fun C=>?_
 repeat(first|(refine A1 ⟨?_⟩;intros)|refine W4 c1 ⟨?_⟩|refine W4 c2 ⟨?_⟩|refine W4 c3 ⟨?_⟩)
 exact aS (LT (RV.tmp rfl) (RV.tmp rfl) (RV.tmp rfl) (RV.tmp rfl) Lr)
end Go.Ab
