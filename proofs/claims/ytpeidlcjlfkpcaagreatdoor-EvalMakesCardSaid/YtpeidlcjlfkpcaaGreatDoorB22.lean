/- Texts laid one behind the other: CvxP, CvxC, Spl. -/
import Derived.Test.YtpeidlcjlfkpcaaGreatDoorB21
set_option linter.all false
namespace Go.Ab
open Go.Proofs
variable [Base]
def yw (x y:Rat):Rat:=if(x-y).num.sign≤0 then x else y
def yA (x y:Rat):Rat:=if 0≤(x-y).num.sign then x else y
def iD (v w:Spn):Spn :=
 ⟨if v.nl then w.lo else if w.nl then v.lo else yA v.lo w.lo,if v.nh then w.hi else if w.nh then v.hi else yw v.hi w.hi,v.nl&&w.nl,v.nh&&w.nh⟩
theorem P8 {x y t:Rat}:yA x y<t↔x<t∧y<t:=by
 unfold yA;split
 ·rename_i h;rw [pf]at h;grind
 ·rename_i h;rw [pf]at h;grind
theorem P3 {x y t:Rat}:t<yw x y↔t<x∧t<y:=by
 have e:(x-y).num.sign≤0↔x≤y:=by
  rw [←pa,eR];grind
 unfold yw;split
 ·rename_i h;rw [e]at h;grind
 ·rename_i h;rw [e]at h;grind
theorem yy (v w:Spn) (t:Rat):InS (iD v w) t↔InS v t∧InS w t:=by
 obtain⟨a,b,c,d⟩:=v;obtain⟨a',b',c',d'⟩:=w;unfold InS iD;cases c <;> cases d <;> cases c' <;> cases d' <;> simp [P8,P3] <;> grind
def hlf (k u:Rat):Spn:=if k.num.sign=1 then⟨u,0,false,true⟩else⟨0,u,true,false⟩
theorem Mo {k:Rat}(hk:k≠0) (u t:Rat):InS (hlf k u) t↔0<(t-u)*k:=by
 unfold hlf;by_cases h1:k.num.sign=1
 ·rw [if_pos h1];have:0<k:=eR.1 om;rw [kZ this];unfold InS;simp only;grind
 ·rw [if_neg h1];have h0:k.num.sign≠0:=fun e=>hk (e7.1 e)
  have h3:k.num.sign<0:=by have:=kz k.num;omega
  have:0 < - k:=by have:=jk.1 h3;grind
  rw [show(t-u)*k=(u-t) * -k by grind,kZ this];unfold InS;simp only;grind
def jp (l:Li) (v:Spn) (m:Li):Option Spn :=
 if(slp l m).num.sign=0 then(if 0<(af m (bX l)).num.sign then some v else none)
 else if j9 (iD v (hlf (slp l m) (-(af m (bX l)/slp l m))))then none else some (iD v (hlf (slp l m) (-(af m (bX l)/slp l m))))
theorem zh {l m:Li}(h:slp l m≠0) (t:Rat):af m (atL l t)=(t - -(af m (bX l)/slp l m))*slp l m:=by
 rw [fM];have:af m (bX l)/slp l m*slp l m=af m (bX l):=g8 h;generalize af m (bX l)/slp l m=u at *;rw [←this];grind
theorem jn {l m:Li}{v w:Spn}(h:jp l v m=some w) (t:Rat):InS w t↔InS v t∧0<af m (atL l t):=by
 unfold jp at h;by_cases h0:(slp l m).num.sign=0
 ·rw [if_pos h0]at h;split at h
  ·rename_i h1;cases h;rw [e7]at h0;rw [fM,h0,nB,pU];exact⟨fun k=>⟨k,eR.1 h1⟩,And.left⟩
  ·cases h
 ·rw [if_neg h0]at h;have hk:slp l m≠0:=fun e=>h0 (e7.2 e)
  split at h
  ·cases h
  ·cases h;rw [yy,zh hk,Mo hk]
theorem B5 {l m:Li}{v:Spn}(h:jp l v m=none) (t:Rat):¬(InS v t∧0<af m (atL l t)):=by
 unfold jp at h;by_cases h0:(slp l m).num.sign=0
 ·rw [if_pos h0]at h;split at h
  ·cases h
  ·rename_i h1;rw [e7]at h0;rw [fM,h0,nB,pU];exact fun k=>h1 (eR.2 k.2)
 ·rw [if_neg h0]at h;have hk:slp l m≠0:=fun e=>h0 (e7.2 e)
  split at h
  ·rename_i h2;rintro ⟨k1,k2⟩;rw [zh hk,←Mo hk]at k2;rw [pd ((yy _ _ t).2 ⟨k1,k2⟩)]at h2;cases h2
  ·cases h
theorem pK {l m:Li}{v w:Spn}(hv:∃t,InS v t) (h:jp l v m=some w):∃t,InS w t:=by
 unfold jp at h;by_cases h0:(slp l m).num.sign=0
 ·rw [if_pos h0]at h;split at h
  ·cases h;exact hv
  ·cases h
 ·rw [if_neg h0]at h;split at h
  ·cases h
  ·rename_i h2;cases h;exact⟨_,lN (by simpa using h2)⟩
abbrev PC:=List Fg
def lR (l:Li):Spn→PC→Option Spn
 |v,[]=>some v
 |v,s::c=>match jp l v s.1 with
  |some w=>lR l w c
  |none=>none
def mC (c:PC) (l:Li):Option Spn:=lR l Spn.full c
theorem wA {l:Li}:∀{c:PC}{v w:Spn},(∃t,InS v t)→lR l v c=some w→(∀t,InS w t↔InS v t∧∀s∈c,0<af s.1 (atL l t))∧∃t,InS w t
 | [],v,w,hv,h=>by cases h;exact⟨fun t=>by simp,hv⟩
 |s::c,v,w,hv,h=>by
  unfold lR at h;split at h
  ·rename_i u hu;obtain⟨a,b⟩:=wA (pK hv hu) h;refine⟨fun t=>?_,b⟩;rw [a t,jn hu];simp only [ak,forall_eq_or_imp];exact and_assoc
  ·cases h
theorem wB {l:Li}:∀{c:PC}{v:Spn},lR l v c=none→∀t,InS v t→∃s∈c,¬0<af s.1 (atL l t)
 | [],v,h,_,_=>by cases h
 |s::c,v,h,t,ht=>by
  unfold lR at h;split at h
  ·rename_i u hu;by_cases k:0<af s.1 (atL l t)
   ·obtain⟨s',h1,h2⟩:=wB h t ((jn hu t).2 ⟨ht,k⟩);exact⟨s',Mc h1,h2⟩
   ·exact⟨s,Ms,k⟩
  ·rename_i hu;exact⟨s,Ms,fun k=>B5 hu t ⟨ht,k⟩⟩
theorem C3 (t:Rat):InS Spn.full t:=⟨.inl rfl, .inl rfl⟩
abbrev bF (c:PC):List Li:=c.map Prod.fst
theorem ym {c:PC}{l:Li}{w:Spn}(h:mC c l=some w):(∀t,InS w t↔Inn (bF c) (atL l t))∧∃t,InS w t:=by
 obtain⟨a,b⟩:=wA ⟨0,C3 0⟩ h;refine⟨fun t=>?_,b⟩;rw [a t];unfold Inn;simp only [aj,forall_exists_index,and_imp,forall_apply_eq_imp_iff₂];exact⟨And.right,fun k=>⟨C3 t,k⟩⟩
theorem tJ {c:PC}{l:Li}(hl:l.ok) (h:mC c l=none) (p:Pq) (hp:af l p=0):¬Inn (bF c) p:=fun k=>by
 obtain⟨s,h1,h2⟩:=wB h (fp l p) (C3 _);rw [zx hl hp]at h2;exact h2 (k s.1 (aj.2 ⟨s,h1,rfl⟩))
structure qX (c:PC):Prop where
 ok:∀s∈c,s.1.ok
 inn:∃q,Inn (bF c) q
 nd:(bF c).Nodup
 span:∀s∈c,(∀t,InS s.2 t↔∀m∈bF c,m≠s.1→0<af m (atL s.1 t))∧∃t,InS s.2 t
theorem qX.lok {c:PC}(h:qX c):∀l∈bF c,l.ok:=fun l hl=>by
 obtain⟨s,hs,rfl⟩:=aj.1 hl;exact h.ok s hs
theorem qX.nil:qX []:=⟨fun s h=>(by cases h),⟨(0,0),fun l h=>(by cases h)⟩,List.nodup_nil,fun s h=>(by cases h)⟩
def oP (l:Li):PC→Int
 | [] => -1
 |s::c=>if gR l (atL s.1 (dp s.2))≠0 then gR l (atL s.1 (dp s.2))else if s.1=l then 1 else oP l c
def oQ (c:PC) (l:Li):Int:=if(mC c l).isSome then 0 else oP l c
theorem yp {c:List Li}{l:Li}(h:∀p,af l p=0→¬Inn c p):¬(Lft (Inn c) l∧Rgt (Inn c) l):=by
 rintro ⟨⟨p,hp,hp0⟩,⟨q,hq,hq0⟩⟩;obtain⟨s,hs⟩:∃s,s*(af l p-af l q)=af l p:=⟨af l p/(af l p-af l q),g8 (by grind)⟩
 obtain⟨h0,h1⟩:=KP hs hp0 (by grind);refine h (p.1+s*(q.1-p.1),p.2+s*(q.2-p.2)) (by rw [ov];exact GC hs) fun m hm=>?_
 rw [ov];exact EU h0 h1 (hp m hm) (hq m hm)
theorem sr {c:PC}(h:qX c){l:Li}{s:Fg}(hs:s∈c){t:Rat}(ht:InS s.2 t):(0<af l (atL s.1 t)→Lft (Inn (bF c)) l)∧(af l (atL s.1 t)<0→Rgt (Inn (bF c)) l):=by
 have hv:=((h.span s hs).1 t).1 ht;have hz:=sN (h.ok s hs) t;generalize atL s.1 t=r at *
 have key:∀(k:Rat),0<k*af l r→∃q,Inn (bF c) q∧0<k*af l q:=fun k hk=>by
  obtain⟨e,he,hsm⟩:=oO (fun j:Option Li=>match j with|none=>k*af l r|some j=>af j r) (fun j=>match j with|none=>k*((l.a:Rat)*s.1.a+l.b*s.1.b)|some j=>(j.a:Rat)*s.1.a+j.b*s.1.b)
   (none::((bF c).filter fun j=>decide (j≠s.1)).map some) (fun j hj=>by
    rcases ak.1 hj with rfl|hj
    ·exact hk
    ·obtain⟨j',hj',rfl⟩:=aj.1 hj;rw [cW,cC]at hj';exact hv j' hj'.1 hj'.2)
  refine⟨(r.1+e*s.1.a,r.2+e*s.1.b),fun j hj=>?_,?_⟩
  ·rw [fU];by_cases hjs:j=s.1
   ·rw [hjs,hz,nA];exact ez he (jr (h.ok s hs))
   ·exact hsm (some j) (Mc (aj.2 ⟨j,cW.2 ⟨hj,a9 hjs⟩,rfl⟩)) e he bP
  ·rw [fU];have:=hsm none cL e he bP;simp only at this;grind
 constructor
 ·intro h0;obtain⟨q,h1,h2⟩:=key 1 (by grind);exact⟨q,h1,by grind⟩
 ·intro h0;obtain⟨q,h1,h2⟩:=key (-1) (by grind);exact⟨q,h1,by grind⟩
theorem Ik {l:Li}{p:Pq}:gR l p=1↔0<af l p:=by
 unfold gR;rw [←eR];have:=kz (af l p).num;omega
theorem Il {l:Li}{p:Pq}:gR l p = -1↔af l p<0:=by
 unfold gR;rw [←jk];have:=kz (af l p).num;omega
theorem EB {l:Li}{p:Pq}:gR l p=0↔af l p=0:=e7
theorem zY (l:Li) (p:Pq):gR l p=1∨gR l p=0∨gR l p = -1:=by
 have:=kz (af l p).num;unfold gR;omega
theorem CJ {l m:Li}(hl:l.ok) (hm:m.ok){t u:Rat}(hne:t≠u) (h1:af m (atL l t)=0) (h2:af m (atL l u)=0):m=l∨m=l.neg:=by
 rw [fM]at h1 h2
 have hk:slp l m=0:=by
  have:(t-u)*slp l m=0:=by grind
  rcases dQ.1 this with e|e
  ·exact absurd (by grind) hne
  ·exact e
 have hb:af m (bX l)=0:=by rw [hk]at h1;grind
 have hn:=jr hl
 have hz:af l (bX l)=0:=by
  have h:=sN hl 0;rw [fM]at h;grind
 obtain⟨f,hf⟩:∃f,f*((l.a:Rat)*l.a+l.b*l.b)=(m.a:Rat)*l.a+m.b*l.b:=⟨_,g8 (by grind)⟩
 have ea:(m.a:Rat)=f*l.a:=by
  refine qq (n:=(l.a:Rat)*l.a+l.b*l.b) (by grind) ?_;have:((l.a:Rat)*l.a+l.b*l.b)*(f*l.a)=(f*((l.a:Rat)*l.a+l.b*l.b))*l.a:=by grind
  rw [this,hf];unfold slp at hk;grind
 have eb:(m.b:Rat)=f*l.b:=by
  refine qq (n:=(l.a:Rat)*l.a+l.b*l.b) (by grind) ?_;have:((l.a:Rat)*l.a+l.b*l.b)*(f*l.b)=(f*((l.a:Rat)*l.a+l.b*l.b))*l.b:=by grind
  rw [this,hf];unfold slp at hk;grind
 have ec:(m.c:Rat)=f*l.c:=by
  have z1:af m (bX l)=f*(af l (bX l)-l.c)+m.c:=by unfold af;rw [ea,eb];grind
  rw [hb,hz]at z1;grind
 rcases g9 (a:=f) (b:=0)with k|k
 ·by_cases e:f=0
  ·rw [e,Rat.zero_mul]at ea eb;rcases hm.2 with h|h
   ·exact absurd (ii.1 ea) h
   ·exact absurd (ii.1 eb) h
  ·right;refine Li.prop_eqR hm hl.neg (s:=1) (t := -f) (by decide) (by grind) ?_ ?_ ?_
   ·unfold Li.neg;simp only [gF];rw [ea];grind
   ·unfold Li.neg;simp only [gF];rw [eb];grind
   ·unfold Li.neg;simp only [gF];rw [ec];grind
 ·by_cases e:f=0
  ·rw [e,Rat.zero_mul]at ea eb;rcases hm.2 with h|h
   ·exact absurd (ii.1 ea) h
   ·exact absurd (ii.1 eb) h
  ·left;refine Li.prop_eqR hm hl (s:=1) (t:=f) (by decide) (by grind) ?_ ?_ ?_
   ·rw [ea];grind
   ·rw [eb];grind
   ·rw [ec];grind
theorem QE {s:Spn}{t:Rat}(h:InS s t):∃u,u≠t∧InS s u:=by
 obtain⟨lo,hi,nl,nh⟩:=s;unfold InS at *;simp only at *;cases nl <;> cases nh <;> simp at h⊢
 ·exact⟨mQ t hi,by have:=qy h.2;grind,by have:=qy h.2;grind,by have:=qy h.2;grind⟩
 ·exact⟨t+1,by grind,by grind⟩
 ·exact⟨t-1,by grind,by grind⟩
 ·exact⟨t+1,by grind⟩
theorem zZ {c:PC}(h:qX c){l:Li}(hl:l.ok) (hm:∀p,af l p=0→¬Inn (bF c) p):∀(d:PC),(∀s∈d,s∈c)→(oP l d=1∧Lft (Inn (bF c)) l∧¬Rgt (Inn (bF c)) l)∨(oP l d = -1∧Rgt (Inn (bF c)) l∧¬Lft (Inn (bF c)) l)∨(oP l d = -1∧∀s∈d,s.1=l.neg)
 | [],_ => .inr (.inr ⟨rfl,fun s h=>by cases h⟩)
 |s::d,hd=>by
  have hs:=hd s Ms;have hsp:=h.span s hs;have hin:=lN (pd hsp.2.choose_spec);have hns:=yp hm;obtain⟨e1,e2⟩:=sr h (l:=l) hs hin;unfold oP;rcases zY l (atL s.1 (dp s.2))with k|k|k
  ·rw [k,if_pos (by decide)];have a:=e1 (Ik.1 k);exact .inl ⟨rfl,a,fun b=>hns ⟨a,b⟩⟩
  ·rw [k,if_neg (by decide)];have hz:=EB.1 k;by_cases hsl:s.1=l
   ·rw [if_pos hsl];obtain⟨q,hq⟩:=h.inn;have a:Lft (Inn (bF c)) l:=⟨q,hq,hsl▸hq s.1 (aj.2 ⟨s,hs,rfl⟩)⟩
    exact .inl ⟨rfl,a,fun b=>hns ⟨a,b⟩⟩
   ·rw [if_neg hsl]
    have hneg:s.1=l.neg:=by
     obtain⟨u,hu,hui⟩:=QE hin
     have z2:af l (atL s.1 u)=0:=by
      obtain⟨g1,g2⟩:=sr h (l:=l) hs hui;have hk:af l (atL s.1 u)=af l (atL s.1 (dp s.2))+(u-dp s.2)*slp s.1 l:=by rw [fM,fM];grind
      by_cases z:af l (atL s.1 u)=0
      ·exact z
      ·exfalso;have hslp:slp s.1 l≠0:=fun e=>by rw [e,hz]at hk;exact z (by rw [hk];grind)
       obtain⟨e,he,hsm⟩:=oO (fun j:Option (Li×Bool)=>match j with|none=>1|some j=>af j.1 (atL s.1 (dp s.2))) (fun j=>match j with|none=>0|some j=>if j.2 then slp s.1 j.1 else-slp s.1 j.1)
        ((((bF c).filter fun j=>decide (j≠s.1)).map fun j=>some (j,true))++(((bF c).filter fun j=>decide (j≠s.1)).map fun j=>some (j,false))) (fun j hj=>by
         rcases az.1 hj with hj|hj <;> (obtain⟨j',hj',rfl⟩:=aj.1 hj;rw [cW,cC]at hj';exact(hsp.1 _).1 hin j' hj'.1 hj'.2))
       have i1:InS s.2 (dp s.2+e):=(hsp.1 _).2 fun j hj hne=>by
        have:=hsm (some (j,true)) (cG _ (aj.2 ⟨j,cW.2 ⟨hj,a9 hne⟩,rfl⟩)) e he bP;simp only [aV]at this;rw [fM]at this⊢;grind
       have i2:InS s.2 (dp s.2-e):=(hsp.1 _).2 fun j hj hne=>by
        have:=hsm (some (j,false)) (cN _ (aj.2 ⟨j,cW.2 ⟨hj,a9 hne⟩,rfl⟩)) e he bP;simp only [bE,aO]at this;rw [fM]at this⊢;grind
       obtain⟨a1,a2⟩:=sr h (l:=l) hs i1;obtain⟨b1,b2⟩:=sr h (l:=l) hs i2;have v1:af l (atL s.1 (dp s.2+e))=e*slp s.1 l:=by rw [fM]at hz⊢;grind
       have v2:af l (atL s.1 (dp s.2-e)) = -(e*slp s.1 l):=by rw [fM]at hz⊢;grind
       rw [v1]at a1 a2;rw [v2]at b1 b2;have hne:e*slp s.1 l≠0:=fun k=>by rcases dQ.1 k with k|k <;> grind
       rcases g9 (a:=e*slp s.1 l) (b:=0)with k|k
       ·exact hns ⟨b1 (by grind),a2 (by grind)⟩
       ·exact hns ⟨a1 (by grind),b2 (by grind)⟩
     rcases CJ (h.ok s hs) hl (fun e=>hu e.symm) hz z2 with e|e
     ·exact absurd e.symm hsl
     ·rw [e];unfold Li.neg;simp
    rcases zZ h hl hm d (fun x hx=>hd x (Mc hx))with r|r|⟨r,rr⟩
    ·exact .inl r
    ·exact .inr (.inl r)
    ·refine .inr (.inr ⟨r,fun x hx=>?_⟩);rcases ak.1 hx with e|e
     ·rw [e,hneg]
     ·exact rr x e
  ·rw [k,if_pos (by decide)];have b:=e2 (Il.1 k);exact .inr (.inl ⟨rfl,b,fun a=>hns ⟨a,b⟩⟩)
theorem Ai {c:PC}(h:qX c){l:Li}(hl:l.ok) :
  (oQ c l=0∧Lft (Inn (bF c)) l∧Rgt (Inn (bF c)) l)∨(oQ c l=1∧Lft (Inn (bF c)) l∧¬Rgt (Inn (bF c)) l)∨(oQ c l = -1∧¬Lft (Inn (bF c)) l∧Rgt (Inn (bF c)) l):=by
 unfold oQ;cases hp:mC c l with
 |some w =>
  left;obtain⟨a,t,b⟩:=ym hp;have hin:=(a t).1 b;refine⟨rfl,?_,?_⟩
  ·obtain⟨e,he,hs⟩:=oO (fun j=>af j (atL l t)) (fun j=>(j.a:Rat)*l.a+j.b*l.b) _ hin;exact⟨((atL l t).1+e*l.a,(atL l t).2+e*l.b),fun j hj=>by rw [fU];exact hs j hj e he bP,by rw [fU,sN hl];have:=ez he (jr hl);grind⟩
  ·obtain⟨e,he,hs⟩:=oO (fun j=>af j (atL l t)) (fun j => -((j.a:Rat)*l.a+j.b*l.b)) _ hin;exact⟨((atL l t).1 + -e*l.a,(atL l t).2 + -e*l.b),fun j hj=>by rw [fU];have:=hs j hj e he bP;grind,by rw [fU,sN hl];have:=ez he (jr hl);grind⟩
 |none =>
  right;have hm:=tJ hl hp;rcases zZ h hl hm c (fun s hs=>hs)with⟨r,a,b⟩|⟨r,a,b⟩|⟨r,rr⟩
  ·exact .inl ⟨r,a,b⟩
  ·exact .inr ⟨r,b,a⟩
  ·right;have hns:=yp hm;cases c with
   |nil =>
    exfalso;unfold mC lR at hp;cases hp
   |cons s c =>
    obtain⟨q,hq⟩:=h.inn;have hsl:=rr s Ms;have hv:=hq s.1 (aj.2 ⟨s,Ms,rfl⟩);rw [hsl,mP]at hv;have b:Rgt (Inn (bF (s::c))) l:=⟨q,hq,by grind⟩
    exact⟨r,fun a=>hns ⟨a,b⟩,b⟩
def gu (c:PC) (l:Li):PC:=c.filterMap fun s=>(jp s.1 s.2 l).map fun w=>(s.1,w)
def dM (pos:PC→Nat) (c:PC) (l:Li):PC×Bool:=match mC c l with
 |some v=>((gu c l).take (pos (gu c l))++(l,v)::(gu c l).drop (pos (gu c l)),true)
 |none=>(c,decide (0<oQ c l))
theorem pF {c:PC}{l:Li}{s:Fg}:s∈gu c l↔∃s0∈c,s0.1=s.1∧jp s0.1 s0.2 l=some s.2:=by
 unfold gu;rw [vv];constructor
 ·rintro ⟨s0,h1,h2⟩;obtain⟨w,h3,h4⟩:=gC.1 h2;exact⟨s0,h1,by rw [←h4],by rw [←h4];exact h3⟩
 ·rintro ⟨s0,h1,h2,h3⟩;exact⟨s0,h1,by rw [h3];exact congrArg some (jx h2 rfl)⟩
theorem AG (c:PC) (l:Li):(bF (gu c l)).Sublist (bF c):=by
 induction c with
 |nil=>exact List.Sublist.slnil
 |cons s c ih =>
  unfold gu;rw [List.filterMap_cons];cases h:jp s.1 s.2 l with
  |none=>exact ih.cons _
  |some w=>exact ih.cons_cons _
theorem uO {α:Type}(a:List α) (x:α) (n:Nat):(a.take n++x::a.drop n).Perm (x::a):=by
 have:=(lL (a:=x) (l₁:=a.take n) (l₂:=a.drop n))
 rw [gO]at this;exact this
theorem FW {c:PC}{l:Li}{v:Spn}(pos:Nat):∀m,m∈bF ((gu c l).take pos++(l,v)::(gu c l).drop pos)↔m=l∨m∈bF (gu c l):=fun m=>by
 have:=((uO (gu c l) (l,v) pos).map Prod.fst).mem_iff (a:=m);rw [bF,this,aD,ak]
theorem MM {C d:List Li}(hok:∀l∈C,l.ok) (hq:∃q,Inn C q) (hC:∀m∈d,m∈C) (hin:∀q,Inn d q→Inn C q){m:Li}(hm:m∈C) (t:Rat) (ht:∀j∈d,j≠m→0<af j (atL m t)):∀j∈C,j≠m→0<af j (atL m t):=fun j hj hne=>by
 have hmo:=hok m hm
 have hge:∀u,(∀i∈d,i≠m→0<af i (atL m u))→0≤af j (atL m u):=fun u hu=>by
  refine ig.1 fun hn=>?_
  obtain⟨e,he,hs⟩:=oO (fun i:Option Li=>match i with|none => - af j (atL m u)|some i=>af i (atL m u)) (fun i=>match i with|none => -((j.a:Rat)*m.a+j.b*m.b)|some i=>(i.a:Rat)*m.a+i.b*m.b)
   (none::(d.filter fun i=>decide (i≠m)).map some) (fun i hi=>by
    rcases ak.1 hi with rfl|hi
    ·simp only;grind
    ·obtain⟨i',hi',rfl⟩:=aj.1 hi;rw [cW,cC]at hi';exact hu i' hi'.1 hi'.2)
  have hI:Inn d ((atL m u).1+e*m.a,(atL m u).2+e*m.b):=fun i hi=>by
   rw [fU];by_cases him:i=m
   ·rw [him,sN hmo,nA];exact ez he (jr hmo)
   ·exact hs (some i) (Mc (aj.2 ⟨i,cW.2 ⟨hi,a9 him⟩,rfl⟩)) e he bP
  have h1:=hin _ hI j hj;have h2:=hs none cL e he bP;rw [fU]at h1;simp only at h2;grind
 have h0:=hge t ht;by_cases hz:af j (atL m t)=0
 ·exfalso
  obtain⟨e,he,hs⟩:=oO (fun i:Li×Bool=>af i.1 (atL m t)) (fun i=>if i.2 then slp m i.1 else-slp m i.1)
   (((d.filter fun i=>decide (i≠m)).map fun i=>(i,true))++((d.filter fun i=>decide (i≠m)).map fun i=>(i,false))) (fun i hi=>by
    rcases az.1 hi with hi|hi <;> (obtain⟨i',hi',rfl⟩:=aj.1 hi;rw [cW,cC]at hi';exact ht i' hi'.1 hi'.2))
  have g1:=hge (t+e) fun i hi him=>by
   have:=hs (i,true) (cG _ (aj.2 ⟨i,cW.2 ⟨hi,a9 him⟩,rfl⟩)) e he bP;simp only [aV]at this;rw [fM]at this⊢;grind
  have g2:=hge (t-e) fun i hi him=>by
   have:=hs (i,false) (cN _ (aj.2 ⟨i,cW.2 ⟨hi,a9 him⟩,rfl⟩)) e he bP;simp only [bE,aO]at this;rw [fM]at this⊢;grind
  have v1:af j (atL m (t+e))=e*slp m j:=by rw [fM]at hz⊢;grind
  have v2:af j (atL m (t-e)) = -(e*slp m j):=by rw [fM]at hz⊢;grind
  rw [v1]at g1;rw [v2]at g2;have hz2:af j (atL m (t+e))=0:=by rw [v1];grind
  obtain⟨q,hq⟩:=hq;have p1:=hq j hj;have p2:=hq m hm;rcases CJ hmo (hok j hj) (show t≠t+e by grind) hz hz2 with k|k
  ·exact hne k
  ·rw [k,mP]at p1;grind
 ·grind
theorem MW {c:PC}(h:qX c){l:Li}(hl:l.ok) (pos:PC→Nat){d:PC}(hd:dM pos c l=(d,true)):qX d∧Inn (bF d)=fun q=>Inn (bF c) q∧0<af l q:=by
 unfold dM at hd;cases hp:mC c l with
 |none =>
  rw [hp]at hd;simp only [cP,cC]at hd;obtain⟨rfl,h0⟩:=hd
  have hpl:oQ c l=1∧¬Rgt (Inn (bF c)) l:=by
   rcases Ai h hl with⟨r,_,_⟩|⟨r,_,b⟩|⟨r,_,_⟩
   ·omega
   ·exact⟨r,b⟩
   ·omega
  refine⟨h,funext fun q=>propext ⟨fun hq=>⟨hq,?_⟩,And.left⟩⟩;have hm:=tJ hl hp;by_cases h1:af l q<0
  ·exact absurd ⟨q,hq,h1⟩ hpl.2
  ·by_cases h2:af l q=0
   ·exact absurd hq (hm q h2)
   ·grind
 |some v =>
  rw [hp]at hd;simp only [cP,gJ]at hd;obtain⟨hv,t,ht⟩:=ym hp;have hin:=(hv t).1 ht
  have hlc:l∉bF c:=fun hm=>by
   have:=hin l hm;rw [sN hl]at this;exact absurd this (by decide)
  have hlin:∀m,m∈bF d↔m=l∨m∈bF (gu c l):=fun m=>by rw [←hd];exact FW _ m
  have hck:∀m∈bF (gu c l),m∈bF c:=fun m hm=>(AG c l).subset hm
  have hok:∀m∈bF c++[l],m.ok:=uf h.lok hl
  have hq:∃q,Inn (bF c++[l]) q:=by
   have:Edg (bF c++[l]) l:=⟨atL l t,sN hl t,fun j hj hne=>by
    rcases az.1 hj with hj|hj
    ·exact hin j hj
    ·exact absurd (ar.1 hj) hne⟩
   obtain⟨q,hq,_⟩:=this.inn hl;exact⟨q,hq⟩
  have hkept:∀m∈bF c++[l],Edg (bF c++[l]) m→m∈bF d:=fun m hm he=>by
   rw [hlin];rcases az.1 hm with hm|hm
   ·right;obtain⟨s,hs,rfl⟩:=aj.1 hm;obtain⟨r,hr,hj⟩:=he;have hml:s.1≠l:=fun e=>hlc (e▸aj.2 ⟨s,hs,rfl⟩)
    cases hc:jp s.1 s.2 l with
    |some w=>exact aj.2 ⟨(s.1,w),pF.2 ⟨s,hs,rfl,hc⟩,rfl⟩
    |none =>
     refine absurd ⟨((h.span s hs).1 (fp s.1 r)).2 fun j hj' hne=>?_,?_⟩ (B5 hc (fp s.1 r))
     ·rw [zx (h.ok s hs) hr];exact hj j (cG _ hj') hne
     ·rw [zx (h.ok s hs) hr];exact hj l (cN _ Ms) (fun e=>hml e.symm)
   ·exact .inl (ar.1 hm)
  have hinn:Inn (bF d)=fun q=>Inn (bF c) q∧0<af l q:=by
   funext p
   refine propext ?_;rw [←nR];obtain⟨q,hq⟩:=hq;constructor
   ·intro hp;exact Inn.kept hok hq hkept hp
   ·intro hp m hm;rcases(hlin m).1 hm with e|e
    ·rw [e];exact hp l (cN _ Ms)
    ·exact hp m (cG _ (hck m e))
  have hmem:∀s,s∈d↔s=(l,v)∨s∈gu c l:=fun s=>by
   rw [←hd];rw [(uO (gu c l) (l,v) _).mem_iff,ak]
  refine⟨⟨fun s hs=>?_,?_,?_,fun s hs=>?_⟩,hinn⟩
  ·rcases(hmem s).1 hs with e|e
   ·rw [e];exact hl
   ·obtain⟨s0,h1,h2,_⟩:=pF.1 e;rw [←h2];exact h.ok s0 h1
  ·obtain⟨q,hq⟩:=hq;exact⟨q,by rw [hinn];exact nR.1 hq⟩
  ·rw [bF,←hd];rw [((uO (gu c l) (l,v) (pos (gu c l))).map Prod.fst).nodup_iff,aD,iI];exact⟨fun hm=>hlc (hck l hm),h.nd.sublist (AG c l)⟩
  ·have hC:∀m∈bF d,m∈bF c++[l]:=fun m hm=>by
    rcases(hlin m).1 hm with e|e
    ·rw [e];exact cN _ Ms
    ·exact cG _ (hck m e)
   have hinC:∀q,Inn (bF d) q→Inn (bF c++[l]) q:=fun q hq=>by rw [hinn]at hq;exact nR.2 hq
   have key:=MM hok hq hC hinC (m:=s.1) (hC _ (aj.2 ⟨s,hs,rfl⟩));have hall:∀t,(∀j∈bF c++[l],j≠s.1→0<af j (atL s.1 t))↔∀j∈bF d,j≠s.1→0<af j (atL s.1 t):=fun t=>⟨fun k j hj=>k j (hC j hj),fun k=>key t k⟩
   rcases(hmem s).1 hs with e|e
   ·refine⟨fun t=>?_,by rw [e];exact⟨t,ht⟩⟩;rw [←hall];have:=hv t;rw [e];simp only;rw [this];constructor
    ·intro k j hj hne;rcases az.1 hj with hj|hj
     ·exact k j hj
     ·exact absurd (ar.1 hj) hne
    ·intro k j hj;exact k j (cG _ hj) (fun e=>hlc (e▸hj))
   ·obtain⟨s0,h1,h2,h3⟩:=pF.1 e;obtain⟨g1,g2⟩:=h.span s0 h1;refine⟨fun t=>?_,pK g2 h3⟩;rw [←hall,←h2,jn h3,g1];have hsl:s0.1≠l:=fun e=>hlc (e▸aj.2 ⟨s0,h1,rfl⟩)
    constructor
    ·rintro ⟨k1,k2⟩ j hj hne;rcases az.1 hj with hj|hj
     ·exact k1 j hj hne
     ·rw [ar.1 hj];exact k2
    ·intro k;exact⟨fun j hj hne=>k j (cG _ hj) hne,k l (cN _ Ms) (fun e=>hsl e.symm)⟩
theorem pM {c:PC}(h:qX c){l:Li}(hl:l.ok) (pos:PC→Nat):(dM pos c l).2=true↔Lft (Inn (bF c)) l:=by
 unfold dM;have hpl:=Ai h hl;unfold oQ at *;cases hp:mC c l with
 |some v =>
  rw [hp]at hpl;rcases hpl with⟨_,a,_⟩|⟨r,_⟩|⟨r,_⟩
  ·exact⟨fun _=>a,fun _=>rfl⟩
  ·cases r
  ·cases r
 |none =>
  rw [hp]at hpl;simp only [cC];rcases hpl with⟨r,a,_⟩|⟨r,a,_⟩|⟨r,a,_⟩
  ·rw [r];have hm:=tJ hl hp;rename_i b;exact absurd ⟨a,b⟩ (yp hm)
  ·rw [r];exact⟨fun _=>a,fun _=>by decide⟩
  ·rw [r];exact⟨fun k=>absurd k (by decide),fun k=>absurd k a⟩
theorem Cm {I:Pq→Prop}{l:Li}:Lft I l.neg↔Rgt I l:=by
 unfold Lft Rgt;simp only [BN]
def iC (pos:Li→PC→Nat):Tr→PC→Tr
 | .leaf i,_ => .leaf i
 | .node l a b,c=>if(dM (pos l.neg) c l.neg).2=false then iC pos a c else if(dM (pos l) c l).2=false then iC pos b c else o9 l (iC pos a (dM (pos l) c l).1) (iC pos b (dM (pos l.neg) c l.neg).1)
def sD (pos:Li→PC→Nat) (op:Int) (i:Bool) (b:Tr) (c:PC):Tr :=
 if op=1∧i=true then .leaf true else if(op=2∨op=3)∧i=false then .leaf false else if(op=3∨op=4)∧i=true then ml (iC pos b c)else iC pos b c
def jW (pos:Li→PC→Nat) (op:Int):Tr→Tr→PC→Tr
 | .leaf i,b,c=>sD pos op i b c
 | .node l x y,b,c=>if(dM (pos l.neg) c l.neg).2=false then jW pos op x b c else if(dM (pos l) c l).2=false then jW pos op y b c else o9 l (jW pos op x b (dM (pos l) c l).1) (jW pos op y b (dM (pos l.neg) c l.neg).1)
theorem wn {c:PC}(h:qX c){l:Li}(hl:l.ok) (pos:PC→Nat) (k:Lft (Inn (bF c)) l):qX (dM pos c l).1∧Inn (bF (dM pos c l).1)=fun q=>Inn (bF c) q∧0<af l q :=
 MW h hl pos (jx rfl ((pM h hl pos).2 k))
theorem zn {c:PC}(h:qX c){l:Li}(hl:l.ok) (pos:PC→Nat) (k:Rgt (Inn (bF c)) l):qX (dM pos c l.neg).1∧Inn (bF (dM pos c l.neg).1)=fun q=>Inn (bF c) q∧af l q<0:=by
 obtain⟨a,b⟩:=wn h hl.neg pos (Cm.2 k);refine⟨a,b.trans ?_⟩;funext q
 rw [BN]
theorem pl (pos:Li→PC→Nat):∀{t:Tr}{c:PC},t.lok→qX c→iC pos t c=kQ t (Inn (bF c))
 | .leaf i,c,_,_=>rfl
 | .node l a b,c,⟨hl,ha,hb⟩,hc=>by
  have p1:=pM hc hl (pos l);have p2:=(pM hc hl.neg (pos l.neg)).trans Cm;unfold iC kQ;by_cases h1:Rgt (Inn (bF c)) l
  ·rw [p2.2 h1,if_neg (by decide),if_neg (show¬¬Rgt (Inn (bF c)) l from fun h=>h h1)];by_cases h2:Lft (Inn (bF c)) l
   ·rw [p1.2 h2,if_neg (by decide),if_neg (show¬¬Lft (Inn (bF c)) l from fun h=>h h2)];obtain⟨a1,a2⟩:=wn hc hl (pos l) h2;obtain⟨b1,b2⟩:=zn hc hl (pos l.neg) h1;rw [pl pos ha a1,pl pos hb b1,a2,b2]
   ·rw [show(dM (pos l) c l).2=false from by simpa using fun k=>h2 (p1.1 k),if_pos rfl,if_pos h2];exact pl pos hb hc
  ·rw [show(dM (pos l.neg) c l.neg).2=false from by simpa using fun k=>h1 (p2.1 k),if_pos rfl,if_pos h1];exact pl pos ha hc
theorem ru (pos:Li→PC→Nat){op:Int}:∀{t b:Tr}{c:PC},t.lok→b.lok→qX c→jW pos op t b c=jI op t b (Inn (bF c))
 | .leaf i,b,c,_,hb,hc=>by
  unfold jW jI sD vf;rw [pl pos hb hc]
 | .node l x y,b,c,⟨hl,hx,hy⟩,hb,hc=>by
  have p1:=pM hc hl (pos l);have p2:=(pM hc hl.neg (pos l.neg)).trans Cm;unfold jW jI;by_cases h1:Rgt (Inn (bF c)) l
  ·rw [p2.2 h1,if_neg (by decide),if_neg (show¬¬Rgt (Inn (bF c)) l from fun h=>h h1)];by_cases h2:Lft (Inn (bF c)) l
   ·rw [p1.2 h2,if_neg (by decide),if_neg (show¬¬Lft (Inn (bF c)) l from fun h=>h h2)];obtain⟨a1,a2⟩:=wn hc hl (pos l) h2;obtain⟨b1,b2⟩:=zn hc hl (pos l.neg) h1;rw [ru pos hx hb a1,ru pos hy hb b1,a2,b2]
   ·rw [show(dM (pos l) c l).2=false from by simpa using fun k=>h2 (p1.1 k),if_pos rfl,if_pos h2];exact ru pos hy hb hc
  ·rw [show(dM (pos l.neg) c l.neg).2=false from by simpa using fun k=>h1 (p2.1 k),if_pos rfl,if_pos h1];exact ru pos hx hb hc
theorem EQ (pos:Li→PC→Nat){t:Tr}(h:t.lok):iC pos t []=dI t []:=by
 rw [pl pos h qX.nil,nV h (fun l h=>by cases h) ⟨(0,0),fun l h=>by cases h⟩];rfl
theorem Fl (pos:Li→PC→Nat){op:Int}{t b:Tr}(h:t.lok) (hb:b.lok):jW pos op t b []=fk op t b []:=by
 rw [ru pos h hb qX.nil,pA h hb (fun l h=>by cases h) ⟨(0,0),fun l h=>by cases h⟩];rfl
theorem LF {s:Spn}(h:SpG s):mF [s]:=⟨fun x hx=>by rw [ar.1 hx];exact h,sX _ _⟩
theorem Dv:mF []:=⟨fun s h=>(by cases h),List.Pairwise.nil⟩
theorem Km {s:Spn}(h:j9 s=false) (h1:s.nl=false) (h2:s.nh=false):s.lo<s.hi:=by
 obtain⟨a,b⟩:=lN h;have a:=a.resolve_left (by rw [h1];decide);have b:=b.resolve_left (by rw [h2];decide);grind
theorem Hi {v w:Spn}(hv:SpG v) (hw:SpG w) (h:j9 (iD v w)=false):SpG (iD v w):=by
 refine⟨fun k=>?_,fun k=>?_,Km h⟩
 ·have k:(v.nl&&w.nl)=true:=k;rw [bG]at k;show(if v.nl then w.lo else _)=0
  rw [if_pos k.1];exact hw.lo k.2
 ·have k:(v.nh&&w.nh)=true:=k;rw [bG]at k;show(if v.nh then w.hi else _)=0
  rw [if_pos k.1];exact hw.hi k.2
theorem zA {s:Spn}{t:Rat}:oZ [s] t↔InS s t:=⟨fun⟨u,hu,h⟩=>ar.1 hu▸h,fun h=>⟨s,ar.2 rfl,h⟩⟩
theorem H0 (x y:Bool):opB 2 x y=(x&&y):=rfl
theorem MJ {a b:List Spn}{t:Rat}(h:t∉fW (a++b)):t∉fW a∧t∉fW b :=
 ⟨fun k=>h (by obtain⟨s,h1,h2⟩:=i9.1 k;exact i9.2 ⟨s,cG _ h1,h2⟩),fun k=>h (by obtain⟨s,h1,h2⟩:=i9.1 k;exact i9.2 ⟨s,cN _ h1,h2⟩)⟩
theorem wk {s h:Spn}(hs:SpG s) (hh:SpG h):qR 2 [s] [h]=if j9 (iD s h)then []else [iD s h]:=by
 obtain⟨h1,h2⟩:=Ee 2 [s] [h]
 have hm:∀t,t∉fW ([s]++[h])→(oZ (qR 2 [s] [h]) t↔InS (iD s h) t):=fun t ht=>by
  obtain⟨k1,k2⟩:=MJ ht;rw [h2 t ht,H0,bG,xi k1,xi k2,zA,zA,yy]
 cases hb:j9 (iD s h)with
 |true =>
  rw [if_pos rfl];refine uG (E:=fW ([s]++[h])) h1 Dv fun t ht=>(hm t ht).trans ⟨fun k=>?_,fun⟨u,hu,_⟩=>(by cases hu)⟩
  rw [pd k]at hb;cases hb
 |false =>
  rw [if_neg (by decide)];exact uG (E:=fW ([s]++[h])) h1 (LF (Hi hs hh hb)) fun t ht=>(hm t ht).trans zA.symm
theorem zk {s:Spn}:qR 2 [s] []=[]:=by
 obtain⟨h1,h2⟩:=Ee 2 [s] [];refine uG (E:=fW ([s]++[])) h1 Dv fun t ht=>(h2 t ht).trans ⟨fun k=>?_,fun⟨u,hu,_⟩=>(by cases hu)⟩
 rw [H0,bG]at k;have:=fS k.2;cases this
theorem RL:SpG Spn.full:=⟨fun _=>rfl,fun _=>rfl,fun h=>by cases h⟩
theorem Mp (k u:Rat):SpG (hlf k u):=by
 unfold hlf;split
 ·exact⟨fun h=>(by cases h),fun _=>rfl,fun _ h=>(by cases h)⟩
 ·exact⟨fun _=>rfl,fun h=>(by cases h),fun h=>(by cases h)⟩
theorem DE {s:Spn}(h:SpG s):iD s Spn.full=s:=by
 obtain⟨a,b,c,d⟩:=s;have h1:=h.lo;have h2:=h.hi;unfold iD;cases c <;> cases d <;> simp at h1 h2⊢<;> simp [h1,h2]
theorem AK {l m:Li}(hl:l.ok) (h:gW l m≠0) (side:Int) (hs:side=1∨side = -1):jU l m side=([hlf (side*slp l m) (-(af m (bX l)/slp l m))],false):=by
 have hk:slp l m≠0:=fun e=>h (by rw [rZ,e];rfl)
 have hu:fp l (dY l m) = -(af m (bX l)/slp l m):=by
  have h1:=zh hk (fp l (dY l m));have h2:=ud hl h (fp l (dY l m));have:(fp l (dY l m) - -(af m (bX l)/slp l m))*slp l m=0:=by rw [←h1,h2];grind
  rcases dQ.1 this with e|e
  ·grind
  ·exact absurd e hk
 unfold jU;rw [if_neg h];have hv:af m (atL l (fp l (dY l m)+1))=slp l m:=by rw [ud hl h];grind
 have hsd:gR m (atL l (fp l (dY l m)+1))=(slp l m).num.sign:=by unfold gR;rw [hv]
 rw [hsd,hu]
 have h3:(slp l m).num.sign=1∨(slp l m).num.sign = -1:=by
  have:=kz (slp l m).num;have:(slp l m).num.sign≠0:=fun e=>hk (e7.1 e)
  omega
 have h4:(((-1:Int):Rat)*slp l m).num.sign = - (slp l m).num.sign:=by
  have:((-1:Int):Rat)*slp l m = - slp l m:=by
   have e:((-1:Int):Rat) = -1:=rfl;rw [e];grind
  rw [this,jB,Int.sign_neg]
 have h5:(((1:Int):Rat)*slp l m).num.sign=(slp l m).num.sign:=by
  have:((1:Int):Rat)*slp l m=slp l m:=by
   have e:((1:Int):Rat)=1:=rfl;rw [e];grind
  rw [this]
 unfold hlf;rcases hs with rfl|rfl
 ·rw [h5];rcases h3 with h3|h3 <;> rw [h3] <;> simp
 ·rw [h4];rcases h3 with h3|h3 <;> rw [h3] <;> simp
theorem RW (x y:Rat) : -x / -y=x/y:=by
 by_cases h:y=0
 ·rw [h];simp [iY]
 ·refine qq (n := -y) (by grind) ?_;rw [eK,g8 (by grind)];have:x/y*y=x:=g8 h;grind
theorem HQ {l m:Li}{v:Spn}:jp l v m.neg=if(slp l m).num.sign=0 then(if(af m (bX l)).num.sign<0 then some v else none)
  else if j9 (iD v (hlf (-slp l m) (-(af m (bX l)/slp l m))))then none else some (iD v (hlf (-slp l m) (-(af m (bX l)/slp l m)))):=by
 have e1:slp l m.neg = - slp l m:=by unfold slp Li.neg;simp only [gF];grind
 have e2:af m.neg (bX l) / - slp l m=af m (bX l)/slp l m:=by rw [mP];exact RW _ _
 unfold jp;rw [e1,e2,mP,jB,jB,Int.sign_neg,Int.sign_neg];generalize(slp l m).num.sign=a;generalize(af m (bX l)).num.sign=b;by_cases h:a=0
 ·rw [if_pos om,if_pos h];by_cases k:b<0
  ·rw [if_pos om,if_pos k]
  ·rw [if_neg om,if_neg k]
 ·rw [if_neg om,if_neg h]
theorem pc {f:Fg}{m:Li}(hf:SpG f.2) (hb:j9 f.2=false) (hl:f.1.ok):f4 f m=(((jp f.1 f.2 m).toList).map fun s=>(f.1,s),((jp f.1 f.2 m.neg).toList).map fun s=>(f.1,s)):=by
 obtain⟨l,s⟩:=f;simp only at *;unfold f4;simp only;rw [HQ];by_cases hd:gW l m=0
 ·have hk:slp l m=0:=by rw [rZ]at hd;grind
  have hk0:(slp l m).num.sign=0:=e7.2 hk;unfold jp jU;rw [if_pos hd,if_pos hd,if_pos hk0,if_pos hk0];have hsd:gR m (bX l)=(af m (bX l)).num.sign:=rfl;rw [←hsd];have e2:qR 2 [s] [Spn.full]=[s]:=by rw [wk hf RL,DE hf,hb];rfl
  rcases zY m (bX l)with h|h|h
  ·rw [h];simp [e2,zk]
  ·rw [h];simp
  ·rw [h];simp [e2,zk]
 ·have hk:slp l m≠0:=fun e=>hd (by rw [rZ,e];rfl)
  have hk0:¬(slp l m).num.sign=0:=fun e=>hk (e7.1 e)
  rw [AK hl hd 1 (.inl rfl),AK hl hd (-1) (.inr rfl)];unfold jp;rw [if_neg hk0,if_neg hk0]
  have e1:((1:Int):Rat)*slp l m=slp l m:=by
   have e:((1:Int):Rat)=1:=rfl;rw [e];grind
  have e2:((-1:Int):Rat)*slp l m = - slp l m:=by
   have e:((-1:Int):Rat) = -1:=rfl;rw [e];grind
  rw [e1,e2];simp only [bE,aO];rw [wk hf (Mp _ _),wk hf (Mp _ _)];split <;> split <;> rfl
end Go.Ab
