/- Texts laid one behind the other: Set, CvxI, CvxR. -/
import Derived.Test.YtgiifnbebppbgaaGreatDoorB17
import Derived.Test.YtgiifnbebppbgaaGreatDoorB20
set_option linter.unusedSectionVars false
set_option linter.unusedVariables false
set_option linter.unusedSimpArgs false
namespace Go.Ab
open Go.Proofs
variable [Base]
def MemS (l:List Spn) (t:Rat):Prop:=∃s∈l,InS s t
def Bef (a b:Spn):Prop:=a.nh=false∧b.nl=false∧a.hi<b.lo
structure SpG (s:Spn):Prop where
 lo:s.nl=true→s.lo=0
 hi:s.nh=true→s.hi=0
 lt:s.nl=false→s.nh=false→s.lo<s.hi
structure NormS (l:List Spn):Prop where
 g:∀s∈l,SpG s
 p:l.Pairwise Bef
theorem dense (E:List Rat):∀{x y:Rat},x<y→∃t,x<t∧t<y∧t∉E:=by
 induction E with
 |nil=>exact fun {x y} h=>⟨midR x y,(midR_in h).1,(midR_in h).2,by simp⟩
 |cons e E ih =>
  intro x y h
  by_cases he:x<e∧e<y
  ·obtain⟨t,h1,h2,h3⟩:=ih he.1
   exact⟨t,h1,by grind,by simp only [List.mem_cons,not_or];exact⟨by grind,h3⟩⟩
  ·obtain⟨t,h1,h2,h3⟩:=ih h
   exact⟨t,h1,h2,by simp only [List.mem_cons,not_or];exact⟨fun k=>he (k▸⟨h1,h2⟩),h3⟩⟩
theorem SpG.some {s:Spn}(h:SpG s):∃x y,x<y∧∀t,x<t→t<y→InS s t:=by
 obtain⟨lo,hi,nl,nh⟩:=s
 have h3:=h.lt
 unfold InS
 simp only at *
 cases nl <;> cases nh <;> simp only [Bool.false_eq_true,true_or,false_or,true_and,and_true,and_self]at *
 ·exact⟨lo,hi,by simpa using h3,fun t a b=>⟨a,b⟩⟩
 ·exact⟨lo,lo+1,by grind,fun t a b=>a⟩
 ·exact⟨hi-1,hi,by grind,fun t a b=>b⟩
 ·exact⟨0,1,by decide,fun _ _ _=>trivial⟩
theorem norm_lo {s:Spn}{l:List Spn}(h:NormS (s::l)){t:Rat}(ht:MemS (s::l) t):s.nl=true∨s.lo<t:=by
 obtain⟨u,hu,h1⟩:=ht
 rcases List.mem_cons.1 hu with rfl|hu
 ·exact h1.1
 ·have hb:=(List.pairwise_cons.1 h.p).1 u hu
  cases hn:s.nl with
  |true=>exact .inl rfl
  |false =>
   right
   have h2:=(h.g s List.mem_cons_self).lt hn hb.1
   have h3:=h1.1.resolve_left (by rw [hb.2.1];decide)
   have h4:=hb.2.2
   grind
theorem norm_tl {s:Spn}{l:List Spn}(h:NormS (s::l)){t:Rat}(ht:MemS l t):s.nh=false∧s.hi<t:=by
 obtain⟨u,hu,h1⟩:=ht
 have hb:=(List.pairwise_cons.1 h.p).1 u hu
 have h3:=h1.1.resolve_left (by rw [hb.2.1];decide)
 have h4:=hb.2.2
 exact⟨hb.1,by grind⟩
theorem norm_beg {E:List Rat}{s s':Spn}{l l':List Spn}(h:NormS (s::l)) (h':NormS (s'::l')) (he:∀t,t∉E→MemS (s::l) t→MemS (s'::l') t):s'.nl=true∨(s.nl=false∧s'.lo≤s.lo):=by
 cases hn':s'.nl with
 |true=>exact .inl rfl
 |false =>
  right
  have hg:=h.g s List.mem_cons_self
  have key:∀x,(s.nl=true∨s.lo≤x)→x<s'.lo→(s.nh=true∨x<s.hi)→False:=fun x h1 h2 h3=>by
   have:∃y,x<y∧y≤s'.lo∧(s.nh=true∨y≤s.hi):=by
    rcases h3 with h3|h3
    ·exact⟨s'.lo,h2,Rat.le_refl, .inl h3⟩
    ·rcases Rat.le_total (a:=s.hi) (b:=s'.lo)with k|k
     ·exact⟨s.hi,h3,k, .inr Rat.le_refl⟩
     ·exact⟨s'.lo,h2,Rat.le_refl, .inr k⟩
   obtain⟨y,y1,y2,y3⟩:=this
   obtain⟨t,t1,t2,t3⟩:=dense E y1
   have:=he t t3 ⟨s,List.mem_cons_self,h1.imp id (fun k=>by grind),y3.imp id (fun k=>by grind)⟩
   have:=(norm_lo h' this).resolve_left (by rw [hn'];decide)
   grind
  cases hn:s.nl with
  |true =>
   exfalso
   cases hh:s.nh with
   |true=>exact key (s'.lo-1) (.inl hn) (by grind) (.inl hh)
   |false =>
    rcases Rat.le_total (a:=s.hi) (b:=s'.lo)with k|k
    ·exact key (s.hi-1) (.inl hn) (by grind) (.inr (by grind))
    ·exact key (s'.lo-1) (.inl hn) (by grind) (.inr (by grind))
  |false =>
   refine⟨rfl,Rat.not_lt.1 fun k=>key s.lo (.inr Rat.le_refl) k ?_⟩
   cases hh:s.nh with
   |true=>exact .inl rfl
   |false=>exact .inr (hg.lt hn hh)
theorem norm_end {E:List Rat}{s s':Spn}{l l':List Spn}(h:NormS (s::l)) (hb:s'.nl=true∨(s.nl=false∧s'.lo≤s.lo)) (he:∀t,t∉E→MemS (s'::l') t→MemS (s::l) t):s.nh=true∨(s'.nh=false∧s'.hi≤s.hi):=by
 cases hn:s.nh with
 |true=>exact .inl rfl
 |false =>
  right
  have hg:=h.g s List.mem_cons_self
  have hlo:∀t,s.hi≤t→s'.nl=true∨s'.lo<t:=fun t ht=>by
   rcases hb with hb|⟨h1,h2⟩
   ·exact .inl hb
   ·right;have:=hg.lt h1 hn;grind
  have key:∀y,s.hi<y→(s'.nh=true∨y≤s'.hi)→False:=fun y h1 h2=>by
   have:∃z,s.hi<z∧z≤y∧∀t,s.hi<t→t<z→¬MemS (s::l) t:=by
    cases l with
    |nil =>
     refine⟨y,h1,Rat.le_refl,fun t k _=>?_⟩
     rintro ⟨u,hu,⟨_,b⟩⟩
     rw [List.mem_singleton.1 hu,hn]at b
     have:=b.resolve_left (by decide)
     grind
    |cons u l =>
     have hbu:=(List.pairwise_cons.1 h.p).1 u List.mem_cons_self
     have hnu:NormS (u::l):=⟨fun x hx=>h.g x (List.mem_cons_of_mem _ hx),(List.pairwise_cons.1 h.p).2⟩
     have hz:∃z,s.hi<z∧z≤y∧z≤u.lo:=by
      rcases Rat.le_total (a:=y) (b:=u.lo)with k|k
      ·exact⟨y,h1,Rat.le_refl,k⟩
      ·exact⟨u.lo,hbu.2.2,k,Rat.le_refl⟩
     obtain⟨z,z1,z2,z3⟩:=hz
     refine⟨z,z1,z2,fun t k1 k2=>?_⟩
     rintro ⟨v,hv,hi⟩
     rcases List.mem_cons.1 hv with rfl|hv
     ·have:=hi.2.resolve_left (by rw [hn];decide)
      grind
     ·have:=(norm_lo hnu ⟨v,hv,hi⟩).resolve_left (by rw [hbu.2.1];decide)
      grind
   obtain⟨z,z1,z2,z3⟩:=this
   obtain⟨t,t1,t2,t3⟩:=dense E z1
   exact z3 t t1 t2 (he t t3 ⟨s',List.mem_cons_self,hlo t (by grind),h2.imp id (fun k=>by grind)⟩)
  cases hn':s'.nh with
  |true=>exact(key (s.hi+1) (by grind) (.inl hn')).elim
  |false=>exact⟨rfl,Rat.not_lt.1 fun k=>key s'.hi k (.inr Rat.le_refl)⟩
theorem norm_ext {E:List Rat}:∀{l l':List Spn},NormS l→NormS l'→(∀t,t∉E→(MemS l t↔MemS l' t))→l=l'
 | [],[],_,_,_=>rfl
 | [],s::l,_,h',he=>by
  obtain⟨x,y,hxy,hs⟩:=(h'.g s List.mem_cons_self).some
  obtain⟨t,t1,t2,t3⟩:=dense E hxy
  obtain⟨u,hu,_⟩:=(he t t3).2 ⟨s,List.mem_cons_self,hs t t1 t2⟩
  cases hu
 |s::l,[],h,_,he=>by
  obtain⟨x,y,hxy,hs⟩:=(h.g s List.mem_cons_self).some
  obtain⟨t,t1,t2,t3⟩:=dense E hxy
  obtain⟨u,hu,_⟩:=(he t t3).1 ⟨s,List.mem_cons_self,hs t t1 t2⟩
  cases hu
 |s::l,s'::l',h,h',he=>by
  have b1:=norm_beg h h' fun t ht k=>(he t ht).1 k
  have b2:=norm_beg h' h fun t ht k=>(he t ht).2 k
  have e1:=norm_end h b1 fun t ht k=>(he t ht).2 k
  have e2:=norm_end h' b2 fun t ht k=>(he t ht).1 k
  have g:=h.g s List.mem_cons_self
  have g':=h'.g s' List.mem_cons_self
  have es:s=s':=by
   have nl:s.nl=s'.nl:=by
    rcases b1 with b1|⟨b1,_⟩ <;> rcases b2 with b2|⟨b2,_⟩ <;> simp_all
   have nh:s.nh=s'.nh:=by
    rcases e1 with e1|⟨e1,_⟩ <;> rcases e2 with e2|⟨e2,_⟩ <;> simp_all
   have lo:s.lo=s'.lo:=by
    rcases b1 with b1|⟨b1,k1⟩
    ·rw [g'.lo b1,g.lo (nl.trans b1)]
    ·rcases b2 with b2|⟨b2,k2⟩
     ·rw [b1]at b2;cases b2
     ·grind
   have hi:s.hi=s'.hi:=by
    rcases e1 with e1|⟨e1,k1⟩
    ·rw [g.hi e1,g'.hi (nh.symm.trans e1)]
    ·rcases e2 with e2|⟨e2,k2⟩
     ·rw [e1]at e2;cases e2
     ·grind
   obtain⟨a,b,c,d⟩:=s
   obtain⟨a',b',c',d'⟩:=s'
   simp only at *
   rw [nl,nh,lo,hi]
  subst es
  have hl:NormS l:=⟨fun x hx=>h.g x (List.mem_cons_of_mem _ hx),(List.pairwise_cons.1 h.p).2⟩
  have hl':NormS l':=⟨fun x hx=>h'.g x (List.mem_cons_of_mem _ hx),(List.pairwise_cons.1 h'.p).2⟩
  refine congrArg (s :: ·) (norm_ext (E:=E) hl hl' fun t ht=>⟨fun k=>?_,fun k=>?_⟩)
  ·obtain⟨a,b⟩:=norm_tl h k
   obtain⟨u,hu,hi⟩:=(he t ht).1 (k.imp fun u hu=>⟨List.mem_cons_of_mem _ hu.1,hu.2⟩)
   rcases List.mem_cons.1 hu with rfl|hu
   ·have:=hi.2.resolve_left (by rw [a];decide);grind
   ·exact⟨u,hu,hi⟩
  ·obtain⟨a,b⟩:=norm_tl h' k
   obtain⟨u,hu,hi⟩:=(he t ht).2 (k.imp fun u hu=>⟨List.mem_cons_of_mem _ hu.1,hu.2⟩)
   rcases List.mem_cons.1 hu with rfl|hu
   ·have:=hi.2.resolve_left (by rw [a];decide);grind
   ·exact⟨u,hu,hi⟩
def Gap (cuts:List Rat) (i:Nat) (t:Rat):Prop:=(i=0∨cuts.getD (i-1) 0<t)∧(i=cuts.length∨t<cuts.getD i 0)
def AscR (cuts:List Rat):Prop:=∀i j,i<j→j<cuts.length→cuts.getD i 0<cuts.getD j 0
theorem spAt_in' {cuts:List Rat}{i:Nat}(hi:i≤cuts.length) (t:Rat):InS (spAt cuts i) t↔Gap cuts i t:=by
 unfold InS spAt Gap
 simp only [decide_eq_true_eq]
 by_cases h0:i=0
 ·by_cases h1:i=cuts.length
  ·have e0:cuts.length=0:=by omega
   simp [h0,e0]
  ·rw [if_pos (show i<cuts.length by omega)];simp [h0]
 ·rw [if_pos (show 0<i by omega)]
  by_cases h1:i=cuts.length
  ·simp [h0,h1]
  ·rw [if_pos (show i<cuts.length by omega)]
theorem spAt_g {cuts:List Rat}(ha:AscR cuts){i:Nat}(hi:i≤cuts.length):SpG (spAt cuts i):=by
 unfold spAt
 refine⟨fun h=>?_,fun h=>?_,fun h1 h2=>?_⟩
 ·simp only [decide_eq_true_eq]at h⊢;rw [if_neg (by omega)]
 ·simp only [decide_eq_true_eq]at h⊢;rw [if_neg (by omega)]
 ·simp only [decide_eq_false_iff_not]at h1 h2⊢
  rw [if_pos (by omega),if_pos (by omega)]
  exact ha _ _ (by omega) (by omega)
structure FromJ (cuts:List Rat) (marks:List Bool) (k:Nat) (out:List Spn):Prop where
 norm:NormS out
 mem:∀t,t∉cuts→(MemS out t↔∃i,i<k∧marks.getD i false=true∧Gap cuts i t)
 last:0<k→marks.getD (k-1) false=true→∃init s,out=init++[s]∧s.nh=decide (k-1=cuts.length)∧s.hi=(if k-1<cuts.length then cuts.getD (k-1) 0 else 0)∧(s.nl=true∨s.lo<cuts.getD (k-1) 0∨k-1=cuts.length)
 idle:(k=0∨marks.getD (k-1) false=false)→∀s∈out,s.nh=false∧2≤k∧s.hi≤cuts.getD (k-2) 0
theorem fromJ_zero (cuts:List Rat) (marks:List Bool):FromJ cuts marks 0 [] :=
 ⟨⟨fun s h=>(by cases h),List.Pairwise.nil⟩,fun t _=>⟨fun⟨s,h,_⟩=>(by cases h),fun⟨i,h,_⟩=>(by omega)⟩,fun h=>(by omega),fun _ s h=>(by cases h)⟩
theorem asc_le {cuts:List Rat}(ha:AscR cuts){i j:Nat}(h:i≤j) (hj:j<cuts.length):cuts.getD i 0≤cuts.getD j 0:=by
 by_cases e:i=j
 ·rw [e];exact Rat.le_refl
 ·exact Rat.le_of_lt (ha i j (by omega) hj)
theorem fromJ_step {cuts:List Rat}{marks:List Bool}(ha:AscR cuts){k:Nat}(hk:k≤cuts.length){out:List Spn}(h:FromJ cuts marks k out):FromJ cuts marks (k+1) (fromStep cuts marks out k):=by
 have hg:∀t,(∃i,i<k+1∧marks.getD i false=true∧Gap cuts i t)↔(∃i,i<k∧marks.getD i false=true∧Gap cuts i t)∨(marks.getD k false=true∧Gap cuts k t):=fun t=>by
  constructor
  ·rintro ⟨i,h1,h2,h3⟩
   by_cases e:i=k
   ·rw [e]at h2 h3;exact .inr ⟨h2,h3⟩
   ·exact .inl ⟨i,by omega,h2,h3⟩
  ·rintro (⟨i,h1,h2,h3⟩|⟨h2,h3⟩)
   ·exact⟨i,by omega,h2,h3⟩
   ·exact⟨k,by omega,h2,h3⟩
 unfold fromStep
 cases hm:marks.getD k false with
 |false =>
  rw [if_pos rfl]
  refine⟨h.norm,fun t ht=>?_,fun _ hh=>?_,fun _ s hs=>?_⟩
  ·rw [hg,hm,h.mem t ht];simp
  ·rw [Nat.add_sub_cancel,hm]at hh;cases hh
  ·by_cases hp:k=0∨marks.getD (k-1) false=false
   ·obtain⟨a,b,c⟩:=h.idle hp s hs
    refine⟨a,by omega,?_⟩
    have:=asc_le ha (show k-2≤k+1-2 by omega) (by omega)
    grind
   ·rw [not_or]at hp
    obtain⟨init,l,e,l1,l2,l3⟩:=h.last (by omega) (by simpa using hp.2)
    rw [if_pos (by omega)]at l2
    rw [show k+1-2=k-1 by omega]
    rw [e]at hs
    have hn:=h.norm
    rw [e]at hn
    rcases List.mem_append.1 hs with hs|hs
    ·obtain⟨b1,b2,b3⟩:=(List.pairwise_append.1 hn.p).2.2 s hs l (by simp)
     refine⟨b1,by omega,?_⟩
     rcases l3 with l3|l3|l3
     ·rw [b2]at l3;cases l3
     ·grind
     ·omega
    ·rw [List.mem_singleton]at hs
     rw [hs]
     exact⟨by rw [l1];exact decide_eq_false (by omega),by omega,by rw [l2];exact Rat.le_refl⟩
 |true =>
  rw [if_neg (by decide)]
  by_cases hp:k=0∨marks.getD (k-1) false=false
  ·rw [if_neg (by rintro ⟨a,b,_⟩;rcases hp with hp|hp;omega;rw [hp]at b;cases b)]
   refine⟨⟨fun s hs=>?_,?_⟩,fun t ht=>?_,fun _ _=>?_,fun hh=>?_⟩
   ·rcases List.mem_append.1 hs with hs|hs
    ·exact h.norm.g s hs
    ·rw [List.mem_singleton.1 hs];exact spAt_g ha hk
   ·refine List.pairwise_append.2 ⟨h.norm.p,List.pairwise_singleton _ _,fun s hs u hu=>?_⟩
    rw [List.mem_singleton.1 hu]
    obtain⟨a,b,c⟩:=h.idle hp s hs
    refine⟨a,decide_eq_false (by omega),?_⟩
    show s.hi<if 0<k then cuts.getD (k-1) 0 else 0
    rw [if_pos (by omega)]
    have:=ha (k-2) (k-1) (by omega) (by omega)
    grind
   ·rw [hg,←h.mem t ht,hm]
    simp only [true_and]
    rw [←spAt_in' hk]
    unfold MemS
    constructor
    ·rintro ⟨s,hs,hi⟩
     rcases List.mem_append.1 hs with hs|hs
     ·exact .inl ⟨s,hs,hi⟩
     ·rw [List.mem_singleton.1 hs]at hi;exact .inr hi
    ·rintro (⟨s,hs,hi⟩|hi)
     ·exact⟨s,List.mem_append_left _ hs,hi⟩
     ·exact⟨_,List.mem_append_right _ List.mem_cons_self,hi⟩
   ·rw [Nat.add_sub_cancel]
    refine⟨out,spAt cuts k,rfl,rfl,rfl,?_⟩
    by_cases e:k=cuts.length
    ·exact .inr (.inr e)
    ·by_cases e0:k=0
     ·left;exact decide_eq_true e0
     ·right;left
      show(if 0<k then cuts.getD (k-1) 0 else 0)<_
      rw [if_pos (by omega)]
      exact ha _ _ (by omega) (by omega)
   ·rw [Nat.add_sub_cancel,hm]at hh;rcases hh with hh|hh <;> cases hh
  ·rw [not_or]at hp
   have hp1:marks.getD (k-1) false=true:=by simpa using hp.2
   obtain⟨init,l,e,l1,l2,l3⟩:=h.last (by omega) hp1
   rw [if_pos (by omega)]at l2
   have hl1:l.nh=false:=by rw [l1];exact decide_eq_false (by omega)
   rw [if_pos ⟨by omega,hp1,by rw [e];simp⟩]
   have hset:out.set (out.length-1) ⟨(out.getD (out.length-1) Spn.full).lo,(spAt cuts k).hi,(out.getD (out.length-1) Spn.full).nl,(spAt cuts k).nh⟩=init++[⟨l.lo,(spAt cuts k).hi,l.nl,(spAt cuts k).nh⟩]:=by
    have hlen:out.length-1=init.length:=by rw [e];simp
    have hgd:out.getD (out.length-1) Spn.full=l:=by rw [hlen,e,List.getD_eq_getElem?_getD,List.getElem?_append_right (Nat.le_refl _),Nat.sub_self];rfl
    rw [hgd,hlen,e,List.set_append_right _ _ (Nat.le_refl _),Nat.sub_self];rfl
   rw [hset]
   have hn:=h.norm
   rw [e]at hn
   obtain⟨p1,p2,p3⟩:=List.pairwise_append.1 hn.p
   have gl:=hn.g l (by simp)
   have hlast:l.nl=true∨l.lo<cuts.getD (k-1) 0:=by
    rcases l3 with l3|l3|l3
    ·exact .inl l3
    ·exact .inr l3
    ·omega
   refine⟨⟨fun s hs=>?_,?_⟩,fun t ht=>?_,fun _ _=>?_,fun hh=>?_⟩
   ·rcases List.mem_append.1 hs with hs|hs
    ·exact hn.g s (List.mem_append_left _ hs)
    ·rw [List.mem_singleton.1 hs]
     refine⟨gl.lo,(spAt_g ha hk).hi,fun h1 h2=>?_⟩
     have hlo:=hlast.resolve_left (by rw [h1];decide)
     have h2':¬k=cuts.length:=of_decide_eq_false h2
     show l.lo<if k<cuts.length then cuts.getD k 0 else 0
     rw [if_pos (by omega)]
     have:=ha (k-1) k (by omega) (by omega)
     grind
   ·refine List.pairwise_append.2 ⟨p1,List.pairwise_singleton _ _,fun s hs u hu=>?_⟩
    rw [List.mem_singleton.1 hu]
    exact p3 s hs l (by simp)
   ·rw [hg,←h.mem t ht,hm]
    simp only [true_and]
    have hne:t≠cuts.getD (k-1) 0:=fun e=>ht (by
     rw [e,List.getD_eq_getElem?_getD,List.getElem?_eq_getElem (show k-1<cuts.length by omega)];exact List.getElem_mem _)
    have key:InS ⟨l.lo,(spAt cuts k).hi,l.nl,(spAt cuts k).nh⟩ t↔InS l t∨Gap cuts k t:=by
     rw [←spAt_in' hk]
     have e1:(spAt cuts k).nl=false:=decide_eq_false (by omega)
     have e2:(spAt cuts k).lo=cuts.getD (k-1) 0:=if_pos (by omega)
     have e3:(spAt cuts k).nh=true∨cuts.getD (k-1) 0<(spAt cuts k).hi:=by
      by_cases e:k=cuts.length
      ·left;exact decide_eq_true e
      ·right
       show _<if k<cuts.length then cuts.getD k 0 else 0
       rw [if_pos (by omega)]
       exact ha _ _ (by omega) (by omega)
     unfold InS
     simp only
     rw [e1,e2,hl1,l2]
     generalize(spAt cuts k).nh=nh at *
     generalize(spAt cuts k).hi=hi at *
     generalize cuts.getD (k-1) 0=c at *
     simp only [Bool.false_eq_true,false_or]
     constructor
     ·rintro ⟨a,b⟩
      by_cases htc:t<c
      ·exact .inl ⟨a,htc⟩
      ·exact .inr ⟨by grind,b⟩
     ·rintro (⟨a,b⟩|⟨a,b⟩)
      ·exact⟨a,e3.imp id (fun k=>by grind)⟩
      ·exact⟨hlast.imp id (fun k=>by grind),b⟩
    unfold MemS
    rw [e]
    constructor
    ·rintro ⟨s,hs,hi⟩
     rcases List.mem_append.1 hs with hs|hs
     ·exact .inl ⟨s,List.mem_append_left _ hs,hi⟩
     ·rw [List.mem_singleton.1 hs,key]at hi
      exact hi.imp (fun k=>⟨l,by simp,k⟩) id
    ·rintro (⟨s,hs,hi⟩|hi)
     ·rcases List.mem_append.1 hs with hs|hs
      ·exact⟨s,List.mem_append_left _ hs,hi⟩
      ·rw [List.mem_singleton.1 hs]at hi
       exact⟨_,List.mem_append_right _ List.mem_cons_self,key.2 (.inl hi)⟩
     ·exact⟨_,List.mem_append_right _ List.mem_cons_self,key.2 (.inr hi)⟩
   ·rw [Nat.add_sub_cancel]
    refine⟨init,_,rfl,rfl,rfl,?_⟩
    by_cases e:k=cuts.length
    ·exact .inr (.inr e)
    ·rcases hlast with h1|h1
     ·exact .inl h1
     ·right;left
      have:=ha (k-1) k (by omega) (by omega)
      show l.lo<_
      grind
   ·rw [Nat.add_sub_cancel,hm]at hh;rcases hh with hh|hh <;> cases hh
theorem fromJ_all {cuts:List Rat}{marks:List Bool}(ha:AscR cuts):∀k,k≤cuts.length+1→FromJ cuts marks k ((List.range k).foldl (fromStep cuts marks) [])
 |0,_=>fromJ_zero cuts marks
 |k+1,h=>by
  rw [List.range_succ,List.foldl_append]
  exact fromJ_step ha (by omega) (fromJ_all ha k (by omega))
theorem fromS_ok {cuts:List Rat}{marks:List Bool}(ha:AscR cuts) (hl:marks.length=cuts.length+1):NormS (fromS cuts marks)∧∀t,t∉cuts→(MemS (fromS cuts marks) t↔∃i,marks.getD i false=true∧Gap cuts i t):=by
 have h:=fromJ_all (marks:=marks) ha (cuts.length+1) (Nat.le_refl _)
 rw [←hl]at h
 refine⟨h.norm,fun t ht=>(h.mem t ht).trans ⟨fun⟨i,_,b⟩=>⟨i,b⟩,fun⟨i,a,b⟩=>⟨i,?_,a,b⟩⟩⟩
 rcases Nat.lt_or_ge i marks.length with k|k
 ·exact k
 ·rw [List.getD_eq_getElem?_getD,List.getElem?_eq_none k]at a;cases a
theorem asc_pw {cuts:List Rat}(h:cuts.Pairwise (· < ·)):AscR cuts:=fun i j hij hj=>by
 rw [List.getD_eq_getElem?_getD,List.getD_eq_getElem?_getD,List.getElem?_eq_getElem (show i<cuts.length by omega),List.getElem?_eq_getElem hj]
 exact List.pairwise_iff_getElem.1 h i j (by omega) hj hij
theorem rlt_iff {x y:Rat}:rlt x y=true↔x<y:=by
 rw [decide_eq_true_eq,rsign_neg];grind
theorem tw_takeT {α:Type}{f:α→Bool}:∀(l:List α),∀x∈l.take (l.takeWhile f).length,f x=true
 | [],x,h=>by simp at h
 |a::l,x,h=>by
  rw [List.takeWhile_cons]at h
  split at h
  ·rename_i hf
   rw [List.length_cons,List.take_succ_cons]at h
   rcases List.mem_cons.1 h with e|e
   ·rw [e];exact hf
   ·exact tw_takeT l x e
  ·simp at h
theorem insB_asc {out:List Rat}{x:Rat}(h:out.Pairwise (· < ·)):(insB rlt out x).Pairwise (· < ·):=by
 unfold insB
 split
 ·exact h
 ·rename_i hne
  unfold insA
  have h1:∀o∈out.take (posI rlt out x),o<x:=fun o ho=>rlt_iff.1 (tw_takeT out o ho)
  have h2:∀o∈out.drop (posI rlt out x),x<o:=fun o ho=>by
   have hfirst:∀o0,out[posI rlt out x]? = some o0→x<o0:=fun o0 e=>by
    have hn:rlt o0 x=false:=tw_next (f:=fun o=>rlt o x) e
    have:¬o0<x:=fun k=>by rw [rlt_iff.2 k]at hn;cases hn
    have:o0≠x:=fun k=>hne (by rw [e,k])
    grind
   obtain⟨k,hk,e⟩:=List.mem_iff_getElem.1 ho
   rw [List.length_drop]at hk
   rw [List.getElem_drop]at e
   have e0:=hfirst _ (List.getElem?_eq_getElem (show posI rlt out x<out.length by omega))
   by_cases hk0:k=0
   ·subst hk0;rw [←e];exact e0
   ·have:=List.pairwise_iff_getElem.1 h (posI rlt out x) (posI rlt out x+k) (by omega) (by omega) (by omega)
    rw [e]at this
    grind
  refine List.pairwise_append.2 ⟨h.sublist (List.take_sublist _ _),List.pairwise_cons.2 ⟨h2,h.sublist (List.drop_sublist _ _)⟩,fun a ha b hb=>?_⟩
  rcases List.mem_cons.1 hb with e|e
  ·rw [e];exact h1 a ha
  ·have:=h1 a ha
   have:=h2 b e
   grind
theorem endsO_asc {out:List Rat}{s:Spn}(h:out.Pairwise (· < ·)):(endsO out s).Pairwise (· < ·):=by
 unfold endsO
 simp only
 split
 ·split
  ·exact h
  ·exact insB_asc h
 ·split
  ·exact insB_asc h
  ·exact insB_asc (insB_asc h)
theorem ends_asc':∀(l:List Spn){out:List Rat},out.Pairwise (· < ·)→(l.foldl endsO out).Pairwise (· < ·)
 | [],_,h=>h
 |s::l,_,h=>by rw [List.foldl_cons];exact ends_asc' l (endsO_asc h)
theorem ends_asc (l:List Spn):(endsS l).Pairwise (· < ·):=ends_asc' l List.Pairwise.nil
theorem endsO_has {out:List Rat}{s:Spn}{y:Rat}:y∈endsO out s↔y∈out∨(s.nl=false∧y=s.lo)∨(s.nh=false∧y=s.hi):=by
 unfold endsO
 simp only
 cases s.nl <;> cases s.nh <;> simp [insB_mem] <;> grind
theorem ends_has':∀(l:List Spn){out:List Rat}{y:Rat},y∈l.foldl endsO out↔y∈out∨∃s∈l,(s.nl=false∧y=s.lo)∨(s.nh=false∧y=s.hi)
 | [],_,_=>by simp
 |s::l,out,y=>by
  rw [List.foldl_cons,ends_has' l,endsO_has]
  simp only [List.mem_cons,exists_eq_or_imp]
  exact or_assoc
theorem ends_has {l:List Spn}{y:Rat}:y∈endsS l↔∃s∈l,(s.nl=false∧y=s.lo)∨(s.nh=false∧y=s.hi):=by
 unfold endsS
 rw [ends_has']
 simp
theorem probe_gap {cuts:List Rat}(ha:cuts.Pairwise (· < ·)){i:Nat}(hi:i≤cuts.length):Gap cuts i ((probes cuts).getD i 0):=by
 cases cuts with
 |nil =>
  have:i=0:=by simpa using hi
  subst this
  exact⟨.inl rfl, .inl rfl⟩
 |cons c cs =>
  have hz:(List.zipWith midR (c::cs) cs).length=cs.length:=by simp
  have has:=asc_pw ha
  unfold probes
  cases i with
  |zero =>
   refine⟨.inl rfl, .inr ?_⟩
   show c-1<c
   grind
  |succ i =>
   rw [List.length_cons]at hi
   rw [List.getD_cons_succ]
   by_cases e:i=cs.length
   ·refine⟨.inr ?_, .inl (by rw [e];rfl)⟩
    rw [Nat.add_sub_cancel,List.getD_eq_getElem?_getD (l:=List.zipWith midR (c::cs) cs++_),List.getElem?_append_right (by omega),hz,e,Nat.sub_self]
    have:(c::cs).getD cs.length 0=(c::cs).getLast (by simp):=by
     rw [List.getD_eq_getElem?_getD,List.getLast_eq_getElem]
     simp
    rw [this]
    show _<(c::cs).getLast _+1
    grind
   ·have hlt:i<cs.length:=by omega
    have e1:(List.zipWith midR (c::cs) cs++[(c::cs).getLast (by simp)+1]).getD i 0=midR ((c::cs).getD i 0) ((c::cs).getD (i+1) 0):=by
     rw [List.getD_eq_getElem?_getD,List.getElem?_append_left (by omega),List.getElem?_eq_getElem (by omega),List.getElem_zipWith,List.getD_eq_getElem?_getD,List.getD_eq_getElem?_getD,List.getElem?_eq_getElem (show i<(c::cs).length by simp;omega),List.getElem?_cons_succ,List.getElem?_eq_getElem hlt]
     rfl
    rw [e1]
    obtain⟨m1,m2⟩:=midR_in (has i (i+1) (by omega) (by simp;omega))
    exact⟨.inr (by rw [Nat.add_sub_cancel];exact m1), .inr m2⟩
theorem gap_same {cuts:List Rat}(ha:cuts.Pairwise (· < ·)){i:Nat}(hi:i≤cuts.length){t u:Rat}(ht:Gap cuts i t) (hu:Gap cuts i u){y:Rat}(hy:y∈cuts):(y<t↔y<u)∧(t<y↔u<y):=by
 have has:=asc_pw ha
 obtain⟨j,hj,e⟩:=List.mem_iff_getElem.1 hy
 have ey:cuts.getD j 0=y:=by rw [List.getD_eq_getElem?_getD,List.getElem?_eq_getElem hj,←e];rfl
 by_cases hji:j<i
 ·have h1:y<t∧y<u:=by
   have hle:=asc_le has (show j≤i-1 by omega) (by omega)
   rw [ey]at hle
   obtain⟨a,_⟩:=ht
   obtain⟨b,_⟩:=hu
   have a:=a.resolve_left (by omega)
   have b:=b.resolve_left (by omega)
   grind
  grind
 ·have h1:t<y∧u<y:=by
   have hle:=asc_le has (show i≤j by omega) (by omega)
   rw [ey]at hle
   obtain⟨_,a⟩:=ht
   obtain⟨_,b⟩:=hu
   have a:=a.resolve_left (by omega)
   have b:=b.resolve_left (by omega)
   grind
  grind
theorem gap_ne {cuts:List Rat}(ha:cuts.Pairwise (· < ·)){i:Nat}(hi:i≤cuts.length){t:Rat}(ht:Gap cuts i t):t∉cuts:=fun hm=>by
 obtain⟨j,hj,e⟩:=List.mem_iff_getElem.1 hm
 have has:=asc_pw ha
 have ey:cuts.getD j 0=t:=by rw [List.getD_eq_getElem?_getD,List.getElem?_eq_getElem hj,←e];rfl
 by_cases hji:j<i
 ·have hle:=asc_le has (show j≤i-1 by omega) (by omega)
  have:=ht.1.resolve_left (by omega)
  grind
 ·have hle:=asc_le has (show i≤j by omega) (by omega)
  have:=ht.2.resolve_left (by omega)
  grind
theorem gap_ex {cuts:List Rat}{t:Rat}(ht:t∉cuts):∃i,i≤cuts.length∧Gap cuts i t:=by
 have key:∀k,k≤cuts.length→(∃i,i<k∧Gap cuts i t)∨(k=0∨cuts.getD (k-1) 0<t):=fun k=>by
  induction k with
  |zero=>exact fun _ => .inr (.inl rfl)
  |succ k ih =>
   intro hk
   rcases ih (by omega)with⟨i,h1,h2⟩|h
   ·exact .inl ⟨i,by omega,h2⟩
   ·have hne:t≠cuts.getD k 0:=fun e=>ht (by
     rw [e,List.getD_eq_getElem?_getD,List.getElem?_eq_getElem (show k<cuts.length by omega)];exact List.getElem_mem _)
    by_cases h1:t<cuts.getD k 0
    ·exact .inl ⟨k,by omega,h, .inr h1⟩
    ·right;right
     rw [Nat.add_sub_cancel]
     grind
 rcases key cuts.length (Nat.le_refl _)with⟨i,h1,h2⟩|h
 ·exact⟨i,by omega,h2⟩
 ·exact⟨cuts.length,Nat.le_refl _,h, .inl rfl⟩
theorem inL_mem {l:List Spn}{t:Rat}(ht:t∉endsS l):inL l t=true↔MemS l t:=by
 rw [decide_eq_true_eq]
 have key:∀l':List Spn,(∀s∈l',s∈l)→(clsL l' t=2↔MemS l' t):=fun l'=>by
  induction l' with
  |nil=>exact fun _=>⟨fun h=>(by cases h),fun⟨s,h,_⟩=>(by cases h)⟩
  |cons s l' ih =>
   intro hs
   have hsl:=hs s List.mem_cons_self
   have h1:s.nl=true∨t≠s.lo:=by
    cases h:s.nl with
    |true=>exact .inl rfl
    |false=>exact .inr fun e=>ht (ends_has.2 ⟨s,hsl, .inl ⟨h,e⟩⟩)
   have h2:s.nh=true∨t≠s.hi:=by
    cases h:s.nh with
    |true=>exact .inl rfl
    |false=>exact .inr fun e=>ht (ends_has.2 ⟨s,hsl, .inr ⟨h,e⟩⟩)
   have hc:clsS s t=2∧InS s t∨clsS s t=0∧¬InS s t:=by
    unfold clsS InS
    simp only
    have s1:(t-s.lo).num.sign=0↔t=s.lo:=by rw [rsign_zero];grind
    have s2:(t-s.hi).num.sign=0↔t=s.hi:=by rw [rsign_zero];grind
    have s3:0<(t-s.lo).num.sign↔s.lo<t:=by rw [rsign_pos];grind
    have s4:(t-s.hi).num.sign<0↔t<s.hi:=by rw [rsign_neg];grind
    generalize(t-s.lo).num.sign=a at *
    generalize(t-s.hi).num.sign=b at *
    cases hn:s.nl <;> cases hh:s.nh <;> rw [hn]at h1 <;> rw [hh]at h2 <;> simp only [if_true,Bool.false_eq_true,if_false,false_or,true_or,true_and,and_true]at h1 h2⊢
    ·have:a≠0:=fun e=>h1 (s1.1 e)
     have:b≠0:=fun e=>h2 (s2.1 e)
     by_cases k:0<a∧b<0
     ·rw [if_pos k];exact .inl ⟨rfl,s3.1 k.1,s4.1 k.2⟩
     ·rw [if_neg k,if_neg (by omega)];exact .inr ⟨rfl,fun h=>k ⟨s3.2 h.1,s4.2 h.2⟩⟩
    ·have:a≠0:=fun e=>h1 (s1.1 e)
     by_cases k:0<a
     ·rw [if_pos ⟨k,by decide⟩];exact .inl ⟨rfl,s3.1 k⟩
     ·rw [if_neg (by omega),if_neg (by omega)];exact .inr ⟨rfl,fun h=>k (s3.2 h)⟩
    ·have:b≠0:=fun e=>h2 (s2.1 e)
     by_cases k:b<0
     ·rw [if_pos ⟨by decide,k⟩];exact .inl ⟨rfl,s4.1 k⟩
     ·rw [if_neg (by omega),if_neg (by omega)];exact .inr ⟨rfl,fun h=>k (s4.2 h)⟩
    ·rw [if_pos ⟨by decide,by decide⟩];exact .inl rfl
   have ihh:=ih fun x hx=>hs x (List.mem_cons_of_mem _ hx)
   unfold clsL
   rcases hc with⟨c1,c2⟩|⟨c1,c2⟩
   ·rw [c1,if_neg (by decide)]
    exact⟨fun _=>⟨s,List.mem_cons_self,c2⟩,fun _=>rfl⟩
   ·rw [c1,if_pos rfl,ihh]
    constructor
    ·rintro ⟨u,hu,hi⟩
     exact⟨u,List.mem_cons_of_mem _ hu,hi⟩
    ·rintro ⟨u,hu,hi⟩
     rcases List.mem_cons.1 hu with rfl|hu
     ·exact absurd hi c2
     ·exact⟨u,hu,hi⟩
 exact key l fun _ h=>h
theorem inL_gap {l:List Spn}{cuts:List Rat}(ha:cuts.Pairwise (· < ·)) (hc:∀y∈endsS l,y∈cuts){i:Nat}(hi:i≤cuts.length){t u:Rat}(ht:Gap cuts i t) (hu:Gap cuts i u):inL l t=inL l u:=by
 have h1:=inL_mem (l:=l) (t:=t) fun k=>gap_ne ha hi ht (hc t k)
 have h2:=inL_mem (l:=l) (t:=u) fun k=>gap_ne ha hi hu (hc u k)
 have:MemS l t↔MemS l u:=by
  have hs:∀s∈l,(InS s t↔InS s u):=fun s hs=>by
   unfold InS
   cases hn:s.nl <;> cases hh:s.nh <;> simp only [Bool.false_eq_true,false_or,true_or,true_and,and_true]
   ·have g1:=gap_same ha hi ht hu (hc s.lo (ends_has.2 ⟨s,hs, .inl ⟨hn,rfl⟩⟩))
    have g2:=gap_same ha hi ht hu (hc s.hi (ends_has.2 ⟨s,hs, .inr ⟨hh,rfl⟩⟩))
    rw [g1.1,g2.2]
   ·exact(gap_same ha hi ht hu (hc s.lo (ends_has.2 ⟨s,hs, .inl ⟨hn,rfl⟩⟩))).1
   ·exact(gap_same ha hi ht hu (hc s.hi (ends_has.2 ⟨s,hs, .inr ⟨hh,rfl⟩⟩))).2
  exact⟨fun⟨s,a,b⟩=>⟨s,a,(hs s a).1 b⟩,fun⟨s,a,b⟩=>⟨s,a,(hs s a).2 b⟩⟩
 rw [Bool.eq_iff_iff,h1,h2,this]
theorem from_probes {cuts:List Rat}(ha:cuts.Pairwise (· < ·)) (f:Rat→Bool) (hf:∀i t u,i≤cuts.length→Gap cuts i t→Gap cuts i u→f t=f u) :
  NormS (fromS cuts ((probes cuts).map f))∧∀t,t∉cuts→(MemS (fromS cuts ((probes cuts).map f)) t↔f t=true):=by
 obtain⟨h1,h2⟩:=fromS_ok (marks:=(probes cuts).map f) (asc_pw ha) (by rw [List.length_map,probes_len])
 have hm:∀i,i≤cuts.length→((probes cuts).map f).getD i false=f ((probes cuts).getD i 0):=fun i hi=>by
  have hl:i<(probes cuts).length:=by rw [probes_len];omega
  rw [List.getD_eq_getElem?_getD,List.getElem?_map,List.getD_eq_getElem?_getD,List.getElem?_eq_getElem hl];rfl
 refine⟨h1,fun t ht=>(h2 t ht).trans ⟨?_,fun h=>?_⟩⟩
 ·rintro ⟨i,hi,g⟩
  have hle:i≤cuts.length:=by
   rcases Nat.lt_or_ge cuts.length i with k|k
   ·rw [List.getD_eq_getElem?_getD,List.getElem?_eq_none (by rw [List.length_map,probes_len];omega)]at hi;cases hi
   ·exact k
  rw [hm i hle]at hi
  rw [hf i t _ hle g (probe_gap ha hle)];exact hi
 ·obtain⟨i,hi,g⟩:=gap_ex ht
  exact⟨i,by rw [hm i hi,←hf i t _ hi g (probe_gap ha hi)];exact h,g⟩
theorem combS_ok (op:Int) (a b:List Spn):NormS (combS op a b)∧∀t,t∉endsS (a++b)→(MemS (combS op a b) t↔opB op (inL a t) (inL b t)=true):=by
 have ha:∀y∈endsS a,y∈endsS (a++b):=fun y hy=>by
  obtain⟨s,h1,h2⟩:=ends_has.1 hy
  exact ends_has.2 ⟨s,List.mem_append_left _ h1,h2⟩
 have hb:∀y∈endsS b,y∈endsS (a++b):=fun y hy=>by
  obtain⟨s,h1,h2⟩:=ends_has.1 hy
  exact ends_has.2 ⟨s,List.mem_append_right _ h1,h2⟩
 exact from_probes (ends_asc _) (fun t=>opB op (inL a t) (inL b t)) fun i t u hi ht hu=>by
  rw [inL_gap (ends_asc _) ha hi ht hu,inL_gap (ends_asc _) hb hi ht hu]
theorem add_lin (a:Li) (p v:Pq) (t:Rat):valL a (addP p t v)=valL a p+t*(valL a (addP p 1 v)-valL a p):=by unfold valL addP;simp only;grind
theorem val_norm (a l:Li) (p:Pq):valL a (addP p 1 (-(dirL l).2,(dirL l).1))-valL a p=(a.a:Rat)*l.a+a.b*l.b:=by unfold valL addP dirL;simp only;grind
theorem near_half {V K:Rat}(hV:0<V) (hK:K<0):0 < -(V/K)∧∀s,0<s→s≤-(V/K)/2→0<V+s*K:=by
 obtain⟨u,hu⟩:∃u,u = -(V/K):=⟨_,rfl⟩
 have e:u * -K=V:=by rw [hu,Rat.neg_mul,Rat.mul_neg,Rat.neg_neg];exact Rat.div_mul_cancel (by grind)
 rw [←hu]
 clear hu
 have h0:0<u:=by
  rcases Rat.le_total (a:=u) (b:=0)with k|k
  ·have:=Rat.mul_nonneg (show 0≤-u by grind) (show 0≤-K by grind)
   grind
  ·by_cases e':u=0
   ·rw [e']at e;grind
   ·grind
 refine⟨h0,fun s hs h=>?_⟩
 have:=Rat.mul_nonneg (show 0≤u/2-s by grind) (show 0≤-K by grind)
 have e2:u/2 * -K=V/2:=by grind
 grind
theorem nearStep_le (p v:Pq) (s:Rat) (a:Li) (hs:0<s):0<nearStep p v s a∧nearStep p v s a≤s∧(valL a p≠0→valL a (addP p 1 v)-valL a p≠0→0 < -(valL a p/(valL a (addP p 1 v)-valL a p))→nearStep p v s a≤-(valL a p/(valL a (addP p 1 v)-valL a p))/2):=by
 unfold nearStep sideL
 generalize -(valL a p/(valL a (addP p 1 v)-valL a p))=u
 generalize valL a (addP p 1 v)-valL a p=k
 split
 ·rename_i h
  rw [rsign_zero,rsign_zero]at h
  exact⟨hs,Rat.le_refl,fun a b _=>(h.elim b a).elim⟩
 ·split
  ·rename_i h
   rw [rsign_pos,rsign_neg]at h
   exact⟨by grind,by grind,fun _ _ _=>Rat.le_refl⟩
  ·rename_i h
   rw [rsign_pos,rsign_neg]at h
   exact⟨hs,Rat.le_refl,fun _ _ h'=>by grind⟩
theorem nearFold (p v:Pq):∀(c:List Li) (s:Rat),0<s→0<c.foldl (nearStep p v) s∧c.foldl (nearStep p v) s≤s∧∀a∈c,valL a p≠0→valL a (addP p 1 v)-valL a p≠0→0 < -(valL a p/(valL a (addP p 1 v)-valL a p))→c.foldl (nearStep p v) s≤-(valL a p/(valL a (addP p 1 v)-valL a p))/2
 | [],s,hs=>⟨hs,Rat.le_refl,fun a h=>by cases h⟩
 |m::c,s,hs=>by
  obtain⟨a1,a2,a3⟩:=nearStep_le p v s m hs
  obtain⟨b1,b2,b3⟩:=nearFold p v c _ a1
  rw [List.foldl_cons]
  refine⟨b1,Rat.le_trans b2 a2,fun a ha h1 h2 h3=>?_⟩
  rcases List.mem_cons.1 ha with e|e
  ·rw [e]at h1 h2 h3⊢
   exact Rat.le_trans b2 (a3 h1 h2 h3)
  ·exact b3 a e h1 h2 h3
theorem innerAt_inn {c:List Li}{i:Nat}{l:Li}(hl:l.ok) (hi:c[i]? = some l) (h:(edgeC c i).2=true):Inn c (innerAt c i l):=fun m hm=>by
 obtain⟨a,t,b⟩:=edgeC_t hl hi h
 have hs:=sample_in (spBad_in b)
 unfold innerAt nearP
 obtain⟨p,hp⟩:∃p,p=atL l (sampleS (edgeC c i).1):=⟨_,rfl⟩
 have hz:valL l p=0:=by rw [hp];exact at_on hl _
 have hv:=(a _).1 hs
 rw [←hp]at hv⊢
 obtain⟨n1,_,n3⟩:=nearFold p (-(dirL l).2,(dirL l).1) c 1 (by decide)
 rw [add_lin]
 by_cases hml:m=l
 ·rw [hml,val_norm,hz,Rat.zero_add]
  exact Rat.mul_pos n1 (nrm_pos hl)
 ·have h1:=hv m hm hml
  have h3:=n3 m hm (fun e=>by rw [e]at h1;exact absurd h1 (by decide))
  generalize List.foldl (nearStep p (-(dirL l).2,(dirL l).1)) 1 c=s at *
  generalize valL m (addP p 1 (-(dirL l).2,(dirL l).1))-valL m p=k at *
  by_cases hk:k<0
  ·obtain⟨g1,g2⟩:=near_half h1 hk
   exact g2 s n1 (h3 (by grind) g1)
  ·have:=Rat.mul_nonneg (Rat.le_of_lt n1) (Rat.not_lt.1 hk)
   grind
theorem innerGo_ok {c:List Li}(hc:∀l∈c,l.ok):∀(d:List Li) (i:Nat),(∀k l,d[k]? = some l→c[i+k]? = some l)→
  (∀p,innerGo c i d=some p→Inn c p)∧(innerGo c i d=none→∀l∈d,¬Edg c l)
 | [],_,_=>⟨fun p h=>(by cases h),fun _ l h=>(by cases h)⟩
 |l::d,i,hd=>by
  have hi:c[i]? = some l:=by have:=hd 0 l rfl;simpa using this
  have hl:l.ok:=hc l (List.mem_of_getElem? hi)
  unfold innerGo
  cases h:(edgeC c i).2 with
  |true =>
   rw [if_pos rfl]
   exact⟨fun p e=>(Option.some.inj e)▸innerAt_inn hl hi h,fun e=>(by cases e)⟩
  |false =>
   rw [if_neg (by decide)]
   obtain⟨a,b⟩:=innerGo_ok hc d (i+1) (fun k l h=>by rw [show i+1+k=i+(k+1) by omega];exact hd (k+1) l (by rw [List.getElem?_cons_succ];exact h))
   refine⟨a,fun e l' hl'=>?_⟩
   rcases List.mem_cons.1 hl' with e'|e'
   ·rw [e',←edgeC_edg hl hi,h];decide
   ·exact b e l' e'
theorem innerC_inn {c:List Li}(hc:∀l∈c,l.ok){p:Pq}(h:innerC c=some p):Inn c p:=by
 unfold innerC at h
 split at h
 ·rename_i e
  rw [e];intro l hl;cases hl
 ·exact(innerGo_ok hc c 0 (fun k l h=>by rw [Nat.zero_add];exact h)).1 p h
theorem innerC_some {c:List Li}(hc:∀l∈c,l.ok):(innerC c).isSome=true↔∃q,Inn c q:=by
 constructor
 ·intro h
  obtain⟨p,hp⟩:=Option.isSome_iff_exists.1 h
  exact⟨p,innerC_inn hc hp⟩
 ·rintro ⟨q,hq⟩
  by_cases e:c=[]
  ·unfold innerC;rw [if_pos e];rfl
  ·cases h:innerC c with
   |some p=>rfl
   |none =>
    unfold innerC at h
    rw [if_neg e]at h
    obtain⟨m,hm,hE⟩:=Inn.edge hc hq e
    exact absurd hE ((innerGo_ok hc c 0 (fun k l h=>by rw [Nat.zero_add];exact h)).2 h m hm)
theorem canon_fold (c:List Li):∀(l:List Nat) (out:List Li) (y:Li),y∈l.foldl (canonStep c) out↔(∃i∈l,(edgeC c i).2=true∧y=c.getD i ⟨0,0,0⟩)∨y∈out
 | [],out,y=>by simp
 |i::l,out,y=>by
  rw [List.foldl_cons,canon_fold c l]
  unfold canonStep
  cases h:(edgeC c i).2 with
  |true =>
   rw [if_pos rfl,insB_mem]
   constructor
   ·rintro (⟨j,hj,h1,h2⟩|h1|h1)
    ·exact .inl ⟨j,List.mem_cons_of_mem _ hj,h1,h2⟩
    ·exact .inl ⟨i,List.mem_cons_self,h,h1⟩
    ·exact .inr h1
   ·rintro (⟨j,hj,h1,h2⟩|h1)
    ·rcases List.mem_cons.1 hj with e|e
     ·rw [e]at h2;exact .inr (.inl h2)
     ·exact .inl ⟨j,e,h1,h2⟩
    ·exact .inr (.inr h1)
  |false =>
   rw [if_neg (by decide)]
   constructor
   ·rintro (⟨j,hj,h1,h2⟩|h1)
    ·exact .inl ⟨j,List.mem_cons_of_mem _ hj,h1,h2⟩
    ·exact .inr h1
   ·rintro (⟨j,hj,h1,h2⟩|h1)
    ·rcases List.mem_cons.1 hj with e|e
     ·rw [e,h]at h1;cases h1
     ·exact .inl ⟨j,e,h1,h2⟩
    ·exact .inr h1
theorem canonC_mem {c:List Li}(hc:∀l∈c,l.ok){y:Li}:y∈canonC c↔y∈c∧Edg c y:=by
 unfold canonC
 rw [canon_fold]
 constructor
 ·rintro (⟨i,hi,h1,h2⟩|h)
  ·have hi:=List.mem_range.1 hi
   have e:=List.getElem?_eq_getElem hi
   have e2:c.getD i ⟨0,0,0⟩=c[i]:=by rw [List.getD_eq_getElem?_getD,e];rfl
   have hm:c[i]∈c:=List.getElem_mem hi
   rw [h2,e2]
   exact⟨hm,(edgeC_edg (hc _ hm) e).1 h1⟩
  ·cases h
 ·rintro ⟨h1,h2⟩
  obtain⟨i,hi,e⟩:=List.mem_iff_getElem.1 h1
  have e1:c[i]? = some y:=by rw [List.getElem?_eq_getElem hi,e]
  exact .inl ⟨i,List.mem_range.2 hi,(edgeC_edg (hc y h1) e1).2 h2,by rw [List.getD_eq_getElem?_getD,e1];rfl⟩
theorem canonC_inn {c:List Li}(hc:∀l∈c,l.ok) (hn:∃q,Inn c q) (p:Pq):Inn (canonC c) p↔Inn c p:=by
 obtain⟨q,hq⟩:=hn
 exact⟨fun h=>Inn.kept hc hq (fun m hm he=>(canonC_mem hc).2 ⟨hm,he⟩) h,fun h l hl=>h l ((canonC_mem hc).1 hl).1⟩
theorem neg_val (l:Li) (p:Pq):valL l.neg p = - valL l p:=by
 unfold valL Li.neg;simp only [Rat.intCast_neg];grind
theorem Li.ok.neg {l:Li}(h:l.ok):l.neg.ok:=by
 refine⟨?_,?_⟩
 ·show Nat.gcd (Nat.gcd (-l.a).natAbs (-l.b).natAbs) (-l.c).natAbs=1
  rw [Int.natAbs_neg,Int.natAbs_neg,Int.natAbs_neg];exact h.1
 ·rcases h.2 with k|k
  ·left;show -l.a≠0;omega
  ·right;show -l.b≠0;omega
def Lft (I:Pq→Prop) (l:Li):Prop:=∃q,I q∧0<valL l q
def Rgt (I:Pq→Prop) (l:Li):Prop:=∃q,I q∧valL l q<0
theorem snoc_inn {c:List Li}{l:Li}{q:Pq}:Inn (c++[l]) q↔Inn c q∧0<valL l q:=by
 unfold Inn
 constructor
 ·intro h
  exact⟨fun m hm=>h m (List.mem_append_left _ hm),h l (List.mem_append_right _ List.mem_cons_self)⟩
 ·rintro ⟨h1,h2⟩ m hm
  rcases List.mem_append.1 hm with hm|hm
  ·exact h1 m hm
  ·rw [List.mem_singleton]at hm;rw [hm];exact h2
theorem snoc_ok {c:List Li}{l:Li}(hc:∀l∈c,l.ok) (hl:l.ok):∀m∈c++[l],m.ok:=fun m hm=>by
 rcases List.mem_append.1 hm with hm|hm
 ·exact hc m hm
 ·rw [List.mem_singleton]at hm;rw [hm];exact hl
theorem inner_left {c:List Li}{l:Li}(hc:∀l∈c,l.ok) (hl:l.ok):(innerC (c++[l])).isSome=true↔Lft (Inn c) l:=by
 rw [innerC_some (snoc_ok hc hl)]
 exact⟨fun⟨q,h⟩=>⟨q,snoc_inn.1 h⟩,fun⟨q,h⟩=>⟨q,snoc_inn.2 h⟩⟩
theorem inner_right {c:List Li}{l:Li}(hc:∀l∈c,l.ok) (hl:l.ok):(innerC (c++[l.neg])).isSome=true↔Rgt (Inn c) l:=by
 rw [inner_left hc hl.neg]
 unfold Lft Rgt
 have:∀q,0<valL l.neg q↔valL l q<0:=fun q=>by rw [neg_val];grind
 simp only [this]
theorem Inn.side {c:List Li}{l:Li}(hl:l.ok){q:Pq}(hq:Inn c q):Lft (Inn c) l∨Rgt (Inn c) l:=by
 by_cases h:valL l q<0
 ·exact .inr ⟨q,hq,h⟩
 ·obtain⟨e,he,hs⟩:=smallE (fun j=>valL j q) (fun j=>(j.a:Rat)*l.a+j.b*l.b) c hq
  refine .inl ⟨(q.1+e*l.a,q.2+e*l.b),fun j hj=>by rw [val_nudge];exact hs j hj e he Rat.le_refl,?_⟩
  rw [val_nudge]
  have:=Rat.mul_pos he (nrm_pos hl)
  grind
theorem placeC_spec {c:List Li}{l:Li}(hc:∀l∈c,l.ok) (hl:l.ok) :
  (placeC c l=0↔Lft (Inn c) l∧Rgt (Inn c) l)∧(placeC c l=1↔Lft (Inn c) l∧¬Rgt (Inn c) l)∧(placeC c l = -1↔¬Lft (Inn c) l):=by
 have h1:=inner_left hc hl
 have h2:=inner_right hc hl
 unfold placeC
 cases e1:(innerC (c++[l])).isSome with
 |true =>
  cases e2:(innerC (c++[l.neg])).isSome with
  |true =>
   have a:=h1.1 e1
   have b:=h2.1 e2
   simp [a,b]
  |false =>
   have a:=h1.1 e1
   have b:¬Rgt (Inn c) l:=fun h=>by have:=h2.2 h;rw [e2]at this;cases this
   simp [a,b]
 |false =>
  have a:¬Lft (Inn c) l:=fun h=>by have:=h1.2 h;rw [e1]at this;cases this
  simp [a]
def Tr.lok:Tr→Prop
 | .leaf _=>True
 | .node l a b=>l.ok∧a.lok∧b.lok
open Classical in
noncomputable def restrI:Tr→(Pq→Prop)→Tr
 | .leaf i,_ => .leaf i
 | .node l a b,I=>if¬Rgt I l then restrI a I else if¬Lft I l then restrI b I else joinT l (restrI a fun q=>I q∧0<valL l q) (restrI b fun q=>I q∧valL l q<0)
noncomputable def chooseI (op:Int) (i:Bool) (b:Tr) (I:Pq→Prop):Tr :=
 if op=1∧i=true then .leaf true else if(op=2∨op=3)∧i=false then .leaf false else if(op=3∨op=4)∧i=true then notT (restrI b I)else restrI b I
open Classical in
noncomputable def mergeI (op:Int):Tr→Tr→(Pq→Prop)→Tr
 | .leaf i,b,I=>chooseI op i b I
 | .node l x y,b,I=>if¬Rgt I l then mergeI op x b I else if¬Lft I l then mergeI op y b I else joinT l (mergeI op x b fun q=>I q∧0<valL l q) (mergeI op y b fun q=>I q∧valL l q<0)
theorem neg_lt (l:Li) (q:Pq):0<valL l.neg q↔valL l q<0:=by rw [neg_val];grind
theorem withC_inn {c:List Li}{l:Li}(hc:∀l∈c,l.ok) (hl:l.ok) (h:Lft (Inn c) l):Inn (withC c l)=fun q=>Inn c q∧0<valL l q:=by
 funext q
 refine propext ?_
 unfold withC
 rw [canonC_inn (snoc_ok hc hl) (h.imp fun q hq=>snoc_inn.2 hq),snoc_inn]
theorem withC_inn' {c:List Li}{l:Li}(hc:∀l∈c,l.ok) (hl:l.ok) (h:Rgt (Inn c) l):Inn (withC c l.neg)=fun q=>Inn c q∧valL l q<0:=by
 rw [withC_inn hc hl.neg (h.imp fun q hq=>⟨hq.1,(neg_lt l q).2 hq.2⟩)]
 funext q
 rw [neg_lt]
theorem withC_ok {c:List Li}{l:Li}(hc:∀l∈c,l.ok) (hl:l.ok):∀m∈withC c l,m.ok:=fun m hm=>snoc_ok hc hl m ((canonC_mem (snoc_ok hc hl)).1 hm).1
theorem restrT_I:∀{t:Tr}{c:List Li},t.lok→(∀l∈c,l.ok)→(∃q,Inn c q)→restrT t c=restrI t (Inn c)
 | .leaf i,c,_,_,_=>rfl
 | .node l a b,c,⟨hl,ha,hb⟩,hc,hn=>by
  obtain⟨q,hq⟩:=hn
  obtain⟨p0,p1,p2⟩:=placeC_spec hc hl
  unfold restrT restrI
  by_cases h1:Rgt (Inn c) l
  ·rw [if_neg (fun e=>(p1.1 e).2 h1)]
   rw [if_neg (show¬¬Rgt (Inn c) l from fun h=>h h1)]
   by_cases h2:Lft (Inn c) l
   ·rw [if_neg (fun e=>p2.1 e h2),if_neg (show¬¬Lft (Inn c) l from fun h=>h h2)]
    rw [restrT_I ha (withC_ok hc hl) (by rw [withC_inn hc hl h2];exact h2),restrT_I hb (withC_ok hc hl.neg) (by rw [withC_inn' hc hl h1];exact h1),withC_inn hc hl h2,withC_inn' hc hl h1]
   ·rw [if_pos (p2.2 h2),if_pos h2]
    exact restrT_I hb hc ⟨q,hq⟩
  ·have h2:=(hq.side hl).resolve_right h1
   rw [if_pos (p1.2 ⟨h2,h1⟩),if_pos h1]
   exact restrT_I ha hc ⟨q,hq⟩
theorem mergeT_I {op:Int}:∀{t b:Tr}{c:List Li},t.lok→b.lok→(∀l∈c,l.ok)→(∃q,Inn c q)→mergeT op t b c=mergeI op t b (Inn c)
 | .leaf i,b,c,_,hb,hc,hn=>by
  unfold mergeT mergeI chooseT chooseI
  rw [restrT_I hb hc hn]
 | .node l x y,b,c,⟨hl,hx,hy⟩,hb,hc,hn=>by
  obtain⟨q,hq⟩:=hn
  obtain⟨p0,p1,p2⟩:=placeC_spec hc hl
  unfold mergeT mergeI
  by_cases h1:Rgt (Inn c) l
  ·rw [if_neg (fun e=>(p1.1 e).2 h1)]
   rw [if_neg (show¬¬Rgt (Inn c) l from fun h=>h h1)]
   by_cases h2:Lft (Inn c) l
   ·rw [if_neg (fun e=>p2.1 e h2),if_neg (show¬¬Lft (Inn c) l from fun h=>h h2)]
    rw [mergeT_I hx hb (withC_ok hc hl) (by rw [withC_inn hc hl h2];exact h2),mergeT_I hy hb (withC_ok hc hl.neg) (by rw [withC_inn' hc hl h1];exact h1),withC_inn hc hl h2,withC_inn' hc hl h1]
   ·rw [if_pos (p2.2 h2),if_pos h2]
    exact mergeT_I hy hb hc ⟨q,hq⟩
  ·have h2:=(hq.side hl).resolve_right h1
   rw [if_pos (p1.2 ⟨h2,h1⟩),if_pos h1]
   exact mergeT_I hx hb hc ⟨q,hq⟩
end Go.Ab
