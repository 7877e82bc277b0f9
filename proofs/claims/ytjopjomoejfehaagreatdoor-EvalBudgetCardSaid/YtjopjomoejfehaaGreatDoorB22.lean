/- Texts laid one behind the other: CvxP, CvxC, Spl. -/
import Derived.Test.YtjopjomoejfehaaGreatDoorB21
set_option linter.all false
namespace Go.Ab
open Go.Proofs
variable [Base]
def yd (x y:Rat):Rat:=if(x-y).num.sign≤0 then x else y
def yh (x y:Rat):Rat:=if 0≤(x-y).num.sign then x else y
def iB (v w:Spn):Spn :=
 ⟨if v.nl then w.lo else if w.nl then v.lo else yh v.lo w.lo,if v.nh then w.hi else if w.nh then v.hi else yd v.hi w.hi,v.nl&&w.nl,v.nh&&w.nh⟩
theorem Oq {x y t:Rat}:yh x y<t↔x<t∧y<t:=by
 unfold yh;split
 ·rename_i h;rw [p9]at h;grind
 ·rename_i h;rw [p9]at h;grind
theorem Ok {x y t:Rat}:t<yd x y↔t<x∧t<y:=by
 have e:(x-y).num.sign≤0↔x≤y:=by
  rw [←oZ,eQ];grind
 unfold yd;split
 ·rename_i h;rw [e]at h;grind
 ·rename_i h;rw [e]at h;grind
theorem yf (v w:Spn) (t:Rat):InS (iB v w) t↔InS v t∧InS w t:=by
 obtain⟨a,b,c,d⟩:=v;obtain⟨a',b',c',d'⟩:=w;unfold InS iB;cases c <;> cases d <;> cases c' <;> cases d' <;> simp [Oq,Ok] <;> grind
def hlf (k u:Rat):Spn:=if k.num.sign=1 then⟨u,0,false,true⟩else⟨0,u,true,false⟩
theorem LI {k:Rat}(hk:k≠0) (u t:Rat):InS (hlf k u) t↔0<(t-u)*k:=by
 unfold hlf;by_cases h1:k.num.sign=1
 ·rw [if_pos h1];have:0<k:=eQ.1 om;rw [kW this];unfold InS;simp only;grind
 ·rw [if_neg h1];have h0:k.num.sign≠0:=fun e=>hk (e7.1 e)
  have h3:k.num.sign<0:=by have:=kA k.num;omega
  have:0 < - k:=by have:=jj.1 h3;grind
  rw [show(t-u)*k=(u-t) * -k by grind,kW this];unfold InS;simp only;grind
def jr (l:Li) (v:Spn) (m:Li):Option Spn :=
 if(slp l m).num.sign=0 then(if 0<(af m (ct l)).num.sign then some v else none)
 else if j6 (iB v (hlf (slp l m) (-(af m (ct l)/slp l m))))then none else some (iB v (hlf (slp l m) (-(af m (ct l)/slp l m))))
theorem yR {l m:Li}(h:slp l m≠0) (t:Rat):af m (atL l t)=(t - -(af m (ct l)/slp l m))*slp l m:=by
 rw [fI];have:af m (ct l)/slp l m*slp l m=af m (ct l):=g8 h;generalize af m (ct l)/slp l m=u at *;rw [←this];grind
theorem jn {l m:Li}{v w:Spn}(h:jr l v m=some w) (t:Rat):InS w t↔InS v t∧0<af m (atL l t):=by
 unfold jr at h;by_cases h0:(slp l m).num.sign=0
 ·rw [if_pos h0]at h;split at h
  ·rename_i h1;cases h;rw [e7]at h0;rw [fI,h0,nB,pO];exact⟨fun k=>⟨k,eQ.1 h1⟩,And.left⟩
  ·cases h
 ·rw [if_neg h0]at h;have hk:slp l m≠0:=fun e=>h0 (e7.2 e)
  split at h
  ·cases h
  ·cases h;rw [yf,yR hk,LI hk]
theorem AO {l m:Li}{v:Spn}(h:jr l v m=none) (t:Rat):¬(InS v t∧0<af m (atL l t)):=by
 unfold jr at h;by_cases h0:(slp l m).num.sign=0
 ·rw [if_pos h0]at h;split at h
  ·cases h
  ·rename_i h1;rw [e7]at h0;rw [fI,h0,nB,pO];exact fun k=>h1 (eQ.2 k.2)
 ·rw [if_neg h0]at h;have hk:slp l m≠0:=fun e=>h0 (e7.2 e)
  split at h
  ·rename_i h2;rintro ⟨k1,k2⟩;rw [yR hk,←LI hk]at k2;rw [p7 ((yf _ _ t).2 ⟨k1,k2⟩)]at h2;cases h2
  ·cases h
theorem pE {l m:Li}{v w:Spn}(hv:∃t,InS v t) (h:jr l v m=some w):∃t,InS w t:=by
 unfold jr at h;by_cases h0:(slp l m).num.sign=0
 ·rw [if_pos h0]at h;split at h
  ·cases h;exact hv
  ·cases h
 ·rw [if_neg h0]at h;split at h
  ·cases h
  ·rename_i h2;cases h;exact⟨_,lO (by simpa using h2)⟩
abbrev PC:=List Fg
def lR (l:Li):Spn→PC→Option Spn
 |v,[]=>some v
 |v,s::c=>match jr l v s.1 with
  |some w=>lR l w c
  |none=>none
def mE (c:PC) (l:Li):Option Spn:=lR l Spn.full c
theorem wk {l:Li}:∀{c:PC}{v w:Spn},(∃t,InS v t)→lR l v c=some w→(∀t,InS w t↔InS v t∧∀s∈c,0<af s.1 (atL l t))∧∃t,InS w t
 | [],v,w,hv,h=>by cases h;exact⟨fun t=>by simp,hv⟩
 |s::c,v,w,hv,h=>by
  unfold lR at h;split at h
  ·rename_i u hu;obtain⟨a,b⟩:=wk (pE hv hu) h;refine⟨fun t=>?_,b⟩;rw [a t,jn hu];simp only [an,forall_eq_or_imp];exact and_assoc
  ·cases h
theorem wm {l:Li}:∀{c:PC}{v:Spn},lR l v c=none→∀t,InS v t→∃s∈c,¬0<af s.1 (atL l t)
 | [],v,h,_,_=>by cases h
 |s::c,v,h,t,ht=>by
  unfold lR at h;split at h
  ·rename_i u hu;by_cases k:0<af s.1 (atL l t)
   ·obtain⟨s',h1,h2⟩:=wm h t ((jn hu t).2 ⟨ht,k⟩);exact⟨s',Mc h1,h2⟩
   ·exact⟨s,Ms,k⟩
  ·rename_i hu;exact⟨s,Ms,fun k=>AO hu t ⟨ht,k⟩⟩
theorem BM (t:Rat):InS Spn.full t:=⟨.inl rfl, .inl rfl⟩
abbrev bK (c:PC):List Li:=c.map Prod.fst
theorem y5 {c:PC}{l:Li}{w:Spn}(h:mE c l=some w):(∀t,InS w t↔Inn (bK c) (atL l t))∧∃t,InS w t:=by
 obtain⟨a,b⟩:=wk ⟨0,BM 0⟩ h;refine⟨fun t=>?_,b⟩;rw [a t];unfold Inn;simp only [aj,forall_exists_index,and_imp,forall_apply_eq_imp_iff₂];exact⟨And.right,fun k=>⟨BM t,k⟩⟩
theorem tn {c:PC}{l:Li}(hl:l.ok) (h:mE c l=none) (p:Pq) (hp:af l p=0):¬Inn (bK c) p:=fun k=>by
 obtain⟨s,h1,h2⟩:=wm h (ff l p) (BM _);rw [ze hl hp]at h2;exact h2 (k s.1 (aj.2 ⟨s,h1,rfl⟩))
structure qS (c:PC):Prop where
 ok:∀s∈c,s.1.ok
 inn:∃q,Inn (bK c) q
 nd:(bK c).Nodup
 span:∀s∈c,(∀t,InS s.2 t↔∀m∈bK c,m≠s.1→0<af m (atL s.1 t))∧∃t,InS s.2 t
theorem qS.lok {c:PC}(h:qS c):∀l∈bK c,l.ok:=fun l hl=>by
 obtain⟨s,hs,rfl⟩:=aj.1 hl;exact h.ok s hs
theorem qS.nil:qS []:=⟨fun s h=>(by cases h),⟨(0,0),fun l h=>(by cases h)⟩,List.nodup_nil,fun s h=>(by cases h)⟩
def oN (l:Li):PC→Int
 | [] => -1
 |s::c=>if gS l (atL s.1 (dq s.2))≠0 then gS l (atL s.1 (dq s.2))else if s.1=l then 1 else oN l c
def oO (c:PC) (l:Li):Int:=if(mE c l).isSome then 0 else oN l c
theorem y8 {c:List Li}{l:Li}(h:∀p,af l p=0→¬Inn c p):¬(Lft (Inn c) l∧Rgt (Inn c) l):=by
 rintro ⟨⟨p,hp,hp0⟩,⟨q,hq,hq0⟩⟩;obtain⟨s,hs⟩:∃s,s*(af l p-af l q)=af l p:=⟨af l p/(af l p-af l q),g8 (by grind)⟩
 obtain⟨h0,h1⟩:=Km hs hp0 (by grind);refine h (p.1+s*(q.1-p.1),p.2+s*(q.2-p.2)) (by rw [ot];exact Gl hs) fun m hm=>?_
 rw [ot];exact EK h0 h1 (hp m hm) (hq m hm)
theorem s7 {c:PC}(h:qS c){l:Li}{s:Fg}(hs:s∈c){t:Rat}(ht:InS s.2 t):(0<af l (atL s.1 t)→Lft (Inn (bK c)) l)∧(af l (atL s.1 t)<0→Rgt (Inn (bK c)) l):=by
 have hv:=((h.span s hs).1 t).1 ht;have hz:=sC (h.ok s hs) t;generalize atL s.1 t=r at *
 have key:∀(k:Rat),0<k*af l r→∃q,Inn (bK c) q∧0<k*af l q:=fun k hk=>by
  obtain⟨e,he,hsm⟩:=oM (fun j:Option Li=>match j with|none=>k*af l r|some j=>af j r) (fun j=>match j with|none=>k*((l.a:Rat)*s.1.a+l.b*s.1.b)|some j=>(j.a:Rat)*s.1.a+j.b*s.1.b)
   (none::((bK c).filter fun j=>decide (j≠s.1)).map some) (fun j hj=>by
    rcases an.1 hj with rfl|hj
    ·exact hk
    ·obtain⟨j',hj',rfl⟩:=aj.1 hj;rw [dp,df]at hj';exact hv j' hj'.1 hj'.2)
  refine⟨(r.1+e*s.1.a,r.2+e*s.1.b),fun j hj=>?_,?_⟩
  ·rw [fS];by_cases hjs:j=s.1
   ·rw [hjs,hz,nA];exact et he (jt (h.ok s hs))
   ·exact hsm (some j) (Mc (aj.2 ⟨j,dp.2 ⟨hj,a9 hjs⟩,rfl⟩)) e he bR
  ·rw [fS];have:=hsm none cN e he bR;simp only at this;grind
 constructor
 ·intro h0;obtain⟨q,h1,h2⟩:=key 1 (by grind);exact⟨q,h1,by grind⟩
 ·intro h0;obtain⟨q,h1,h2⟩:=key (-1) (by grind);exact⟨q,h1,by grind⟩
theorem HY {l:Li}{p:Pq}:gS l p=1↔0<af l p:=by
 unfold gS;rw [←eQ];have:=kA (af l p).num;omega
theorem HZ {l:Li}{p:Pq}:gS l p = -1↔af l p<0:=by
 unfold gS;rw [←jj];have:=kA (af l p).num;omega
theorem Es {l:Li}{p:Pq}:gS l p=0↔af l p=0:=e7
theorem zQ (l:Li) (p:Pq):gS l p=1∨gS l p=0∨gS l p = -1:=by
 have:=kA (af l p).num;unfold gS;omega
theorem Cv {l m:Li}(hl:l.ok) (hm:m.ok){t u:Rat}(hne:t≠u) (h1:af m (atL l t)=0) (h2:af m (atL l u)=0):m=l∨m=l.neg:=by
 rw [fI]at h1 h2
 have hk:slp l m=0:=by
  have:(t-u)*slp l m=0:=by grind
  rcases dN.1 this with e|e
  ·exact absurd (by grind) hne
  ·exact e
 have hb:af m (ct l)=0:=by rw [hk]at h1;grind
 have hn:=jt hl
 have hz:af l (ct l)=0:=by
  have h:=sC hl 0;rw [fI]at h;grind
 obtain⟨f,hf⟩:∃f,f*((l.a:Rat)*l.a+l.b*l.b)=(m.a:Rat)*l.a+m.b*l.b:=⟨_,g8 (by grind)⟩
 have ea:(m.a:Rat)=f*l.a:=by
  refine qm (n:=(l.a:Rat)*l.a+l.b*l.b) (by grind) ?_;have:((l.a:Rat)*l.a+l.b*l.b)*(f*l.a)=(f*((l.a:Rat)*l.a+l.b*l.b))*l.a:=by grind
  rw [this,hf];unfold slp at hk;grind
 have eb:(m.b:Rat)=f*l.b:=by
  refine qm (n:=(l.a:Rat)*l.a+l.b*l.b) (by grind) ?_;have:((l.a:Rat)*l.a+l.b*l.b)*(f*l.b)=(f*((l.a:Rat)*l.a+l.b*l.b))*l.b:=by grind
  rw [this,hf];unfold slp at hk;grind
 have ec:(m.c:Rat)=f*l.c:=by
  have z1:af m (ct l)=f*(af l (ct l)-l.c)+m.c:=by unfold af;rw [ea,eb];grind
  rw [hb,hz]at z1;grind
 rcases g9 (a:=f) (b:=0)with k|k
 ·by_cases e:f=0
  ·rw [e,Rat.zero_mul]at ea eb;rcases hm.2 with h|h
   ·exact absurd (ii.1 ea) h
   ·exact absurd (ii.1 eb) h
  ·right;refine Li.prop_eqR hm hl.neg (s:=1) (t := -f) (by decide) (by grind) ?_ ?_ ?_
   ·unfold Li.neg;simp only [gJ];rw [ea];grind
   ·unfold Li.neg;simp only [gJ];rw [eb];grind
   ·unfold Li.neg;simp only [gJ];rw [ec];grind
 ·by_cases e:f=0
  ·rw [e,Rat.zero_mul]at ea eb;rcases hm.2 with h|h
   ·exact absurd (ii.1 ea) h
   ·exact absurd (ii.1 eb) h
  ·left;refine Li.prop_eqR hm hl (s:=1) (t:=f) (by decide) (by grind) ?_ ?_ ?_
   ·rw [ea];grind
   ·rw [eb];grind
   ·rw [ec];grind
theorem PU {s:Spn}{t:Rat}(h:InS s t):∃u,u≠t∧InS s u:=by
 obtain⟨lo,hi,nl,nh⟩:=s;unfold InS at *;simp only at *;cases nl <;> cases nh <;> simp at h⊢
 ·exact⟨mO t hi,by have:=qq h.2;grind,by have:=qq h.2;grind,by have:=qq h.2;grind⟩
 ·exact⟨t+1,by grind,by grind⟩
 ·exact⟨t-1,by grind,by grind⟩
 ·exact⟨t+1,by grind⟩
theorem zR {c:PC}(h:qS c){l:Li}(hl:l.ok) (hm:∀p,af l p=0→¬Inn (bK c) p):∀(d:PC),(∀s∈d,s∈c)→(oN l d=1∧Lft (Inn (bK c)) l∧¬Rgt (Inn (bK c)) l)∨(oN l d = -1∧Rgt (Inn (bK c)) l∧¬Lft (Inn (bK c)) l)∨(oN l d = -1∧∀s∈d,s.1=l.neg)
 | [],_ => .inr (.inr ⟨rfl,fun s h=>by cases h⟩)
 |s::d,hd=>by
  have hs:=hd s Ms;have hsp:=h.span s hs;have hin:=lO (p7 hsp.2.choose_spec);have hns:=y8 hm;obtain⟨e1,e2⟩:=s7 h (l:=l) hs hin;unfold oN;rcases zQ l (atL s.1 (dq s.2))with k|k|k
  ·rw [k,if_pos (by decide)];have a:=e1 (HY.1 k);exact .inl ⟨rfl,a,fun b=>hns ⟨a,b⟩⟩
  ·rw [k,if_neg (by decide)];have hz:=Es.1 k;by_cases hsl:s.1=l
   ·rw [if_pos hsl];obtain⟨q,hq⟩:=h.inn;have a:Lft (Inn (bK c)) l:=⟨q,hq,hsl▸hq s.1 (aj.2 ⟨s,hs,rfl⟩)⟩
    exact .inl ⟨rfl,a,fun b=>hns ⟨a,b⟩⟩
   ·rw [if_neg hsl]
    have hneg:s.1=l.neg:=by
     obtain⟨u,hu,hui⟩:=PU hin
     have z2:af l (atL s.1 u)=0:=by
      obtain⟨g1,g2⟩:=s7 h (l:=l) hs hui;have hk:af l (atL s.1 u)=af l (atL s.1 (dq s.2))+(u-dq s.2)*slp s.1 l:=by rw [fI,fI];grind
      by_cases z:af l (atL s.1 u)=0
      ·exact z
      ·exfalso;have hslp:slp s.1 l≠0:=fun e=>by rw [e,hz]at hk;exact z (by rw [hk];grind)
       obtain⟨e,he,hsm⟩:=oM (fun j:Option (Li×Bool)=>match j with|none=>1|some j=>af j.1 (atL s.1 (dq s.2))) (fun j=>match j with|none=>0|some j=>if j.2 then slp s.1 j.1 else-slp s.1 j.1)
        ((((bK c).filter fun j=>decide (j≠s.1)).map fun j=>some (j,true))++(((bK c).filter fun j=>decide (j≠s.1)).map fun j=>some (j,false))) (fun j hj=>by
         rcases az.1 hj with hj|hj <;> (obtain⟨j',hj',rfl⟩:=aj.1 hj;rw [dp,df]at hj';exact(hsp.1 _).1 hin j' hj'.1 hj'.2))
       have i1:InS s.2 (dq s.2+e):=(hsp.1 _).2 fun j hj hne=>by
        have:=hsm (some (j,true)) (bV _ (aj.2 ⟨j,dp.2 ⟨hj,a9 hne⟩,rfl⟩)) e he bR;simp only [aV]at this;rw [fI]at this⊢;grind
       have i2:InS s.2 (dq s.2-e):=(hsp.1 _).2 fun j hj hne=>by
        have:=hsm (some (j,false)) (cO _ (aj.2 ⟨j,dp.2 ⟨hj,a9 hne⟩,rfl⟩)) e he bR;simp only [bJ,aQ]at this;rw [fI]at this⊢;grind
       obtain⟨a1,a2⟩:=s7 h (l:=l) hs i1;obtain⟨b1,b2⟩:=s7 h (l:=l) hs i2;have v1:af l (atL s.1 (dq s.2+e))=e*slp s.1 l:=by rw [fI]at hz⊢;grind
       have v2:af l (atL s.1 (dq s.2-e)) = -(e*slp s.1 l):=by rw [fI]at hz⊢;grind
       rw [v1]at a1 a2;rw [v2]at b1 b2;have hne:e*slp s.1 l≠0:=fun k=>by rcases dN.1 k with k|k <;> grind
       rcases g9 (a:=e*slp s.1 l) (b:=0)with k|k
       ·exact hns ⟨b1 (by grind),a2 (by grind)⟩
       ·exact hns ⟨a1 (by grind),b2 (by grind)⟩
     rcases Cv (h.ok s hs) hl (fun e=>hu e.symm) hz z2 with e|e
     ·exact absurd e.symm hsl
     ·rw [e];unfold Li.neg;simp
    rcases zR h hl hm d (fun x hx=>hd x (Mc hx))with r|r|⟨r,rr⟩
    ·exact .inl r
    ·exact .inr (.inl r)
    ·refine .inr (.inr ⟨r,fun x hx=>?_⟩);rcases an.1 hx with e|e
     ·rw [e,hneg]
     ·exact rr x e
  ·rw [k,if_pos (by decide)];have b:=e2 (HZ.1 k);exact .inr (.inl ⟨rfl,b,fun a=>hns ⟨a,b⟩⟩)
theorem A8 {c:PC}(h:qS c){l:Li}(hl:l.ok) :
  (oO c l=0∧Lft (Inn (bK c)) l∧Rgt (Inn (bK c)) l)∨(oO c l=1∧Lft (Inn (bK c)) l∧¬Rgt (Inn (bK c)) l)∨(oO c l = -1∧¬Lft (Inn (bK c)) l∧Rgt (Inn (bK c)) l):=by
 unfold oO;cases hp:mE c l with
 |some w =>
  left;obtain⟨a,t,b⟩:=y5 hp;have hin:=(a t).1 b;refine⟨rfl,?_,?_⟩
  ·obtain⟨e,he,hs⟩:=oM (fun j=>af j (atL l t)) (fun j=>(j.a:Rat)*l.a+j.b*l.b) _ hin;exact⟨((atL l t).1+e*l.a,(atL l t).2+e*l.b),fun j hj=>by rw [fS];exact hs j hj e he bR,by rw [fS,sC hl];have:=et he (jt hl);grind⟩
  ·obtain⟨e,he,hs⟩:=oM (fun j=>af j (atL l t)) (fun j => -((j.a:Rat)*l.a+j.b*l.b)) _ hin;exact⟨((atL l t).1 + -e*l.a,(atL l t).2 + -e*l.b),fun j hj=>by rw [fS];have:=hs j hj e he bR;grind,by rw [fS,sC hl];have:=et he (jt hl);grind⟩
 |none =>
  right;have hm:=tn hl hp;rcases zR h hl hm c (fun s hs=>hs)with⟨r,a,b⟩|⟨r,a,b⟩|⟨r,rr⟩
  ·exact .inl ⟨r,a,b⟩
  ·exact .inr ⟨r,b,a⟩
  ·right;have hns:=y8 hm;cases c with
   |nil =>
    exfalso;unfold mE lR at hp;cases hp
   |cons s c =>
    obtain⟨q,hq⟩:=h.inn;have hsl:=rr s Ms;have hv:=hq s.1 (aj.2 ⟨s,Ms,rfl⟩);rw [hsl,mN]at hv;have b:Rgt (Inn (bK (s::c))) l:=⟨q,hq,by grind⟩
    exact⟨r,fun a=>hns ⟨a,b⟩,b⟩
def gA (c:PC) (l:Li):PC:=c.filterMap fun s=>(jr s.1 s.2 l).map fun w=>(s.1,w)
def dF (pos:PC→Nat) (c:PC) (l:Li):PC×Bool:=match mE c l with
 |some v=>((gA c l).take (pos (gA c l))++(l,v)::(gA c l).drop (pos (gA c l)),true)
 |none=>(c,decide (0<oO c l))
theorem pw {c:PC}{l:Li}{s:Fg}:s∈gA c l↔∃s0∈c,s0.1=s.1∧jr s0.1 s0.2 l=some s.2:=by
 unfold gA;rw [vc];constructor
 ·rintro ⟨s0,h1,h2⟩;obtain⟨w,h3,h4⟩:=fp.1 h2;exact⟨s0,h1,by rw [←h4],by rw [←h4];exact h3⟩
 ·rintro ⟨s0,h1,h2,h3⟩;exact⟨s0,h1,by rw [h3];exact congrArg some (jA h2 rfl)⟩
theorem Ar (c:PC) (l:Li):(bK (gA c l)).Sublist (bK c):=by
 induction c with
 |nil=>exact List.Sublist.slnil
 |cons s c ih =>
  unfold gA;rw [List.filterMap_cons];cases h:jr s.1 s.2 l with
  |none=>exact ih.cons _
  |some w=>exact ih.cons_cons _
theorem uB {α:Type}(a:List α) (x:α) (n:Nat):(a.take n++x::a.drop n).Perm (x::a):=by
 have:=(lM (a:=x) (l₁:=a.take n) (l₂:=a.drop n))
 rw [iZ]at this;exact this
theorem FL {c:PC}{l:Li}{v:Spn}(pos:Nat):∀m,m∈bK ((gA c l).take pos++(l,v)::(gA c l).drop pos)↔m=l∨m∈bK (gA c l):=fun m=>by
 have:=((uB (gA c l) (l,v) pos).map Prod.fst).mem_iff (a:=m);rw [bK,this,aG,an]
theorem M5 {C d:List Li}(hok:∀l∈C,l.ok) (hq:∃q,Inn C q) (hC:∀m∈d,m∈C) (hin:∀q,Inn d q→Inn C q){m:Li}(hm:m∈C) (t:Rat) (ht:∀j∈d,j≠m→0<af j (atL m t)):∀j∈C,j≠m→0<af j (atL m t):=fun j hj hne=>by
 have hmo:=hok m hm
 have hge:∀u,(∀i∈d,i≠m→0<af i (atL m u))→0≤af j (atL m u):=fun u hu=>by
  refine ig.1 fun hn=>?_
  obtain⟨e,he,hs⟩:=oM (fun i:Option Li=>match i with|none => - af j (atL m u)|some i=>af i (atL m u)) (fun i=>match i with|none => -((j.a:Rat)*m.a+j.b*m.b)|some i=>(i.a:Rat)*m.a+i.b*m.b)
   (none::(d.filter fun i=>decide (i≠m)).map some) (fun i hi=>by
    rcases an.1 hi with rfl|hi
    ·simp only;grind
    ·obtain⟨i',hi',rfl⟩:=aj.1 hi;rw [dp,df]at hi';exact hu i' hi'.1 hi'.2)
  have hI:Inn d ((atL m u).1+e*m.a,(atL m u).2+e*m.b):=fun i hi=>by
   rw [fS];by_cases him:i=m
   ·rw [him,sC hmo,nA];exact et he (jt hmo)
   ·exact hs (some i) (Mc (aj.2 ⟨i,dp.2 ⟨hi,a9 him⟩,rfl⟩)) e he bR
  have h1:=hin _ hI j hj;have h2:=hs none cN e he bR;rw [fS]at h1;simp only at h2;grind
 have h0:=hge t ht;by_cases hz:af j (atL m t)=0
 ·exfalso
  obtain⟨e,he,hs⟩:=oM (fun i:Li×Bool=>af i.1 (atL m t)) (fun i=>if i.2 then slp m i.1 else-slp m i.1)
   (((d.filter fun i=>decide (i≠m)).map fun i=>(i,true))++((d.filter fun i=>decide (i≠m)).map fun i=>(i,false))) (fun i hi=>by
    rcases az.1 hi with hi|hi <;> (obtain⟨i',hi',rfl⟩:=aj.1 hi;rw [dp,df]at hi';exact ht i' hi'.1 hi'.2))
  have g1:=hge (t+e) fun i hi him=>by
   have:=hs (i,true) (bV _ (aj.2 ⟨i,dp.2 ⟨hi,a9 him⟩,rfl⟩)) e he bR;simp only [aV]at this;rw [fI]at this⊢;grind
  have g2:=hge (t-e) fun i hi him=>by
   have:=hs (i,false) (cO _ (aj.2 ⟨i,dp.2 ⟨hi,a9 him⟩,rfl⟩)) e he bR;simp only [bJ,aQ]at this;rw [fI]at this⊢;grind
  have v1:af j (atL m (t+e))=e*slp m j:=by rw [fI]at hz⊢;grind
  have v2:af j (atL m (t-e)) = -(e*slp m j):=by rw [fI]at hz⊢;grind
  rw [v1]at g1;rw [v2]at g2;have hz2:af j (atL m (t+e))=0:=by rw [v1];grind
  obtain⟨q,hq⟩:=hq;have p1:=hq j hj;have p2:=hq m hm;rcases Cv hmo (hok j hj) (show t≠t+e by grind) hz hz2 with k|k
  ·exact hne k
  ·rw [k,mN]at p1;grind
 ·grind
theorem Mg {c:PC}(h:qS c){l:Li}(hl:l.ok) (pos:PC→Nat){d:PC}(hd:dF pos c l=(d,true)):qS d∧Inn (bK d)=fun q=>Inn (bK c) q∧0<af l q:=by
 unfold dF at hd;cases hp:mE c l with
 |none =>
  rw [hp]at hd;simp only [cB,df]at hd;obtain⟨rfl,h0⟩:=hd
  have hpl:oO c l=1∧¬Rgt (Inn (bK c)) l:=by
   rcases A8 h hl with⟨r,_,_⟩|⟨r,_,b⟩|⟨r,_,_⟩
   ·omega
   ·exact⟨r,b⟩
   ·omega
  refine⟨h,funext fun q=>propext ⟨fun hq=>⟨hq,?_⟩,And.left⟩⟩;have hm:=tn hl hp;by_cases h1:af l q<0
  ·exact absurd ⟨q,hq,h1⟩ hpl.2
  ·by_cases h2:af l q=0
   ·exact absurd hq (hm q h2)
   ·grind
 |some v =>
  rw [hp]at hd;simp only [cB,gN]at hd;obtain⟨hv,t,ht⟩:=y5 hp;have hin:=(hv t).1 ht
  have hlc:l∉bK c:=fun hm=>by
   have:=hin l hm;rw [sC hl]at this;exact absurd this (by decide)
  have hlin:∀m,m∈bK d↔m=l∨m∈bK (gA c l):=fun m=>by rw [←hd];exact FL _ m
  have hck:∀m∈bK (gA c l),m∈bK c:=fun m hm=>(Ar c l).subset hm
  have hok:∀m∈bK c++[l],m.ok:=tU h.lok hl
  have hq:∃q,Inn (bK c++[l]) q:=by
   have:Edg (bK c++[l]) l:=⟨atL l t,sC hl t,fun j hj hne=>by
    rcases az.1 hj with hj|hj
    ·exact hin j hj
    ·exact absurd (au.1 hj) hne⟩
   obtain⟨q,hq,_⟩:=this.inn hl;exact⟨q,hq⟩
  have hkept:∀m∈bK c++[l],Edg (bK c++[l]) m→m∈bK d:=fun m hm he=>by
   rw [hlin];rcases az.1 hm with hm|hm
   ·right;obtain⟨s,hs,rfl⟩:=aj.1 hm;obtain⟨r,hr,hj⟩:=he;have hml:s.1≠l:=fun e=>hlc (e▸aj.2 ⟨s,hs,rfl⟩)
    cases hc:jr s.1 s.2 l with
    |some w=>exact aj.2 ⟨(s.1,w),pw.2 ⟨s,hs,rfl,hc⟩,rfl⟩
    |none =>
     refine absurd ⟨((h.span s hs).1 (ff s.1 r)).2 fun j hj' hne=>?_,?_⟩ (AO hc (ff s.1 r))
     ·rw [ze (h.ok s hs) hr];exact hj j (bV _ hj') hne
     ·rw [ze (h.ok s hs) hr];exact hj l (cO _ Ms) (fun e=>hml e.symm)
   ·exact .inl (au.1 hm)
  have hinn:Inn (bK d)=fun q=>Inn (bK c) q∧0<af l q:=by
   funext p
   refine propext ?_;rw [←nR];obtain⟨q,hq⟩:=hq;constructor
   ·intro hp;exact Inn.kept hok hq hkept hp
   ·intro hp m hm;rcases(hlin m).1 hm with e|e
    ·rw [e];exact hp l (cO _ Ms)
    ·exact hp m (bV _ (hck m e))
  have hmem:∀s,s∈d↔s=(l,v)∨s∈gA c l:=fun s=>by
   rw [←hd];rw [(uB (gA c l) (l,v) _).mem_iff,an]
  refine⟨⟨fun s hs=>?_,?_,?_,fun s hs=>?_⟩,hinn⟩
  ·rcases(hmem s).1 hs with e|e
   ·rw [e];exact hl
   ·obtain⟨s0,h1,h2,_⟩:=pw.1 e;rw [←h2];exact h.ok s0 h1
  ·obtain⟨q,hq⟩:=hq;exact⟨q,by rw [hinn];exact nR.1 hq⟩
  ·rw [bK,←hd];rw [((uB (gA c l) (l,v) (pos (gA c l))).map Prod.fst).nodup_iff,aG,iE];exact⟨fun hm=>hlc (hck l hm),h.nd.sublist (Ar c l)⟩
  ·have hC:∀m∈bK d,m∈bK c++[l]:=fun m hm=>by
    rcases(hlin m).1 hm with e|e
    ·rw [e];exact cO _ Ms
    ·exact bV _ (hck m e)
   have hinC:∀q,Inn (bK d) q→Inn (bK c++[l]) q:=fun q hq=>by rw [hinn]at hq;exact nR.2 hq
   have key:=M5 hok hq hC hinC (m:=s.1) (hC _ (aj.2 ⟨s,hs,rfl⟩));have hall:∀t,(∀j∈bK c++[l],j≠s.1→0<af j (atL s.1 t))↔∀j∈bK d,j≠s.1→0<af j (atL s.1 t):=fun t=>⟨fun k j hj=>k j (hC j hj),fun k=>key t k⟩
   rcases(hmem s).1 hs with e|e
   ·refine⟨fun t=>?_,by rw [e];exact⟨t,ht⟩⟩;rw [←hall];have:=hv t;rw [e];simp only;rw [this];constructor
    ·intro k j hj hne;rcases az.1 hj with hj|hj
     ·exact k j hj
     ·exact absurd (au.1 hj) hne
    ·intro k j hj;exact k j (bV _ hj) (fun e=>hlc (e▸hj))
   ·obtain⟨s0,h1,h2,h3⟩:=pw.1 e;obtain⟨g1,g2⟩:=h.span s0 h1;refine⟨fun t=>?_,pE g2 h3⟩;rw [←hall,←h2,jn h3,g1];have hsl:s0.1≠l:=fun e=>hlc (e▸aj.2 ⟨s0,h1,rfl⟩)
    constructor
    ·rintro ⟨k1,k2⟩ j hj hne;rcases az.1 hj with hj|hj
     ·exact k1 j hj hne
     ·rw [au.1 hj];exact k2
    ·intro k;exact⟨fun j hj hne=>k j (bV _ hj) hne,k l (cO _ Ms) (fun e=>hsl e.symm)⟩
theorem pG {c:PC}(h:qS c){l:Li}(hl:l.ok) (pos:PC→Nat):(dF pos c l).2=true↔Lft (Inn (bK c)) l:=by
 unfold dF;have hpl:=A8 h hl;unfold oO at *;cases hp:mE c l with
 |some v =>
  rw [hp]at hpl;rcases hpl with⟨_,a,_⟩|⟨r,_⟩|⟨r,_⟩
  ·exact⟨fun _=>a,fun _=>rfl⟩
  ·cases r
  ·cases r
 |none =>
  rw [hp]at hpl;simp only [df];rcases hpl with⟨r,a,_⟩|⟨r,a,_⟩|⟨r,a,_⟩
  ·rw [r];have hm:=tn hl hp;rename_i b;exact absurd ⟨a,b⟩ (y8 hm)
  ·rw [r];exact⟨fun _=>a,fun _=>by decide⟩
  ·rw [r];exact⟨fun k=>absurd k (by decide),fun k=>absurd k a⟩
theorem C8 {I:Pq→Prop}{l:Li}:Lft I l.neg↔Rgt I l:=by
 unfold Lft Rgt;simp only [Bv]
def iA (pos:Li→PC→Nat):Tr→PC→Tr
 | .leaf i,_ => .leaf i
 | .node l a b,c=>if(dF (pos l.neg) c l.neg).2=false then iA pos a c else if(dF (pos l) c l).2=false then iA pos b c else mu l (iA pos a (dF (pos l) c l).1) (iA pos b (dF (pos l.neg) c l.neg).1)
def se (pos:Li→PC→Nat) (op:Int) (i:Bool) (b:Tr) (c:PC):Tr :=
 if op=1∧i=true then .leaf true else if(op=2∨op=3)∧i=false then .leaf false else if(op=3∨op=4)∧i=true then lS (iA pos b c)else iA pos b c
def jZ (pos:Li→PC→Nat) (op:Int):Tr→Tr→PC→Tr
 | .leaf i,b,c=>se pos op i b c
 | .node l x y,b,c=>if(dF (pos l.neg) c l.neg).2=false then jZ pos op x b c else if(dF (pos l) c l).2=false then jZ pos op y b c else mu l (jZ pos op x b (dF (pos l) c l).1) (jZ pos op y b (dF (pos l.neg) c l.neg).1)
theorem vY {c:PC}(h:qS c){l:Li}(hl:l.ok) (pos:PC→Nat) (k:Lft (Inn (bK c)) l):qS (dF pos c l).1∧Inn (bK (dF pos c l).1)=fun q=>Inn (bK c) q∧0<af l q :=
 Mg h hl pos (jA rfl ((pG h hl pos).2 k))
theorem yX {c:PC}(h:qS c){l:Li}(hl:l.ok) (pos:PC→Nat) (k:Rgt (Inn (bK c)) l):qS (dF pos c l.neg).1∧Inn (bK (dF pos c l.neg).1)=fun q=>Inn (bK c) q∧af l q<0:=by
 obtain⟨a,b⟩:=vY h hl.neg pos (C8.2 k);refine⟨a,b.trans ?_⟩;funext q
 rw [Bv]
theorem pc (pos:Li→PC→Nat):∀{t:Tr}{c:PC},t.lok→qS c→iA pos t c=kO t (Inn (bK c))
 | .leaf i,c,_,_=>rfl
 | .node l a b,c,⟨hl,ha,hb⟩,hc=>by
  have p1:=pG hc hl (pos l);have p2:=(pG hc hl.neg (pos l.neg)).trans C8;unfold iA kO;by_cases h1:Rgt (Inn (bK c)) l
  ·rw [p2.2 h1,if_neg (by decide),if_neg (show¬¬Rgt (Inn (bK c)) l from fun h=>h h1)];by_cases h2:Lft (Inn (bK c)) l
   ·rw [p1.2 h2,if_neg (by decide),if_neg (show¬¬Lft (Inn (bK c)) l from fun h=>h h2)];obtain⟨a1,a2⟩:=vY hc hl (pos l) h2;obtain⟨b1,b2⟩:=yX hc hl (pos l.neg) h1;rw [pc pos ha a1,pc pos hb b1,a2,b2]
   ·rw [show(dF (pos l) c l).2=false from by simpa using fun k=>h2 (p1.1 k),if_pos rfl,if_pos h2];exact pc pos hb hc
  ·rw [show(dF (pos l.neg) c l.neg).2=false from by simpa using fun k=>h1 (p2.1 k),if_pos rfl,if_pos h1];exact pc pos ha hc
theorem r8 (pos:Li→PC→Nat){op:Int}:∀{t b:Tr}{c:PC},t.lok→b.lok→qS c→jZ pos op t b c=jM op t b (Inn (bK c))
 | .leaf i,b,c,_,hb,hc=>by
  unfold jZ jM se uW;rw [pc pos hb hc]
 | .node l x y,b,c,⟨hl,hx,hy⟩,hb,hc=>by
  have p1:=pG hc hl (pos l);have p2:=(pG hc hl.neg (pos l.neg)).trans C8;unfold jZ jM;by_cases h1:Rgt (Inn (bK c)) l
  ·rw [p2.2 h1,if_neg (by decide),if_neg (show¬¬Rgt (Inn (bK c)) l from fun h=>h h1)];by_cases h2:Lft (Inn (bK c)) l
   ·rw [p1.2 h2,if_neg (by decide),if_neg (show¬¬Lft (Inn (bK c)) l from fun h=>h h2)];obtain⟨a1,a2⟩:=vY hc hl (pos l) h2;obtain⟨b1,b2⟩:=yX hc hl (pos l.neg) h1;rw [r8 pos hx hb a1,r8 pos hy hb b1,a2,b2]
   ·rw [show(dF (pos l) c l).2=false from by simpa using fun k=>h2 (p1.1 k),if_pos rfl,if_pos h2];exact r8 pos hy hb hc
  ·rw [show(dF (pos l.neg) c l.neg).2=false from by simpa using fun k=>h1 (p2.1 k),if_pos rfl,if_pos h1];exact r8 pos hx hb hc
theorem EG (pos:Li→PC→Nat){t:Tr}(h:t.lok):iA pos t []=dt t []:=by
 rw [pc pos h qS.nil,nV h (fun l h=>by cases h) ⟨(0,0),fun l h=>by cases h⟩];rfl
theorem EZ (pos:Li→PC→Nat){op:Int}{t b:Tr}(h:t.lok) (hb:b.lok):jZ pos op t b []=eA op t b []:=by
 rw [r8 pos h hb qS.nil,pl h hb (fun l h=>by cases h) ⟨(0,0),fun l h=>by cases h⟩];rfl
theorem L2 {s:Spn}(h:SpG s):mH [s]:=⟨fun x hx=>by rw [au.1 hx];exact h,sJ _ _⟩
theorem Df:mH []:=⟨fun s h=>(by cases h),List.Pairwise.nil⟩
theorem JU {s:Spn}(h:j6 s=false) (h1:s.nl=false) (h2:s.nh=false):s.lo<s.hi:=by
 obtain⟨a,b⟩:=lO h;have a:=a.resolve_left (by rw [h1];decide);have b:=b.resolve_left (by rw [h2];decide);grind
theorem GS {v w:Spn}(hv:SpG v) (hw:SpG w) (h:j6 (iB v w)=false):SpG (iB v w):=by
 refine⟨fun k=>?_,fun k=>?_,JU h⟩
 ·have k:(v.nl&&w.nl)=true:=k;rw [bX]at k;show(if v.nl then w.lo else _)=0
  rw [if_pos k.1];exact hw.lo k.2
 ·have k:(v.nh&&w.nh)=true:=k;rw [bX]at k;show(if v.nh then w.hi else _)=0
  rw [if_pos k.1];exact hw.hi k.2
theorem zj {s:Spn}{t:Rat}:oV [s] t↔InS s t:=⟨fun⟨u,hu,h⟩=>au.1 hu▸h,fun h=>⟨s,au.2 rfl,h⟩⟩
theorem GK (x y:Bool):opB 2 x y=(x&&y):=rfl
theorem M3 {a b:List Spn}{t:Rat}(h:t∉fW (a++b)):t∉fW a∧t∉fW b :=
 ⟨fun k=>h (by obtain⟨s,h1,h2⟩:=i9.1 k;exact i9.2 ⟨s,bV _ h1,h2⟩),fun k=>h (by obtain⟨s,h1,h2⟩:=i9.1 k;exact i9.2 ⟨s,cO _ h1,h2⟩)⟩
theorem vW {s h:Spn}(hs:SpG s) (hh:SpG h):qN 2 [s] [h]=if j6 (iB s h)then []else [iB s h]:=by
 obtain⟨h1,h2⟩:=E4 2 [s] [h]
 have hm:∀t,t∉fW ([s]++[h])→(oV (qN 2 [s] [h]) t↔InS (iB s h) t):=fun t ht=>by
  obtain⟨k1,k2⟩:=M3 ht;rw [h2 t ht,GK,bX,wV k1,wV k2,zj,zj,yf]
 cases hb:j6 (iB s h)with
 |true =>
  rw [if_pos rfl];refine ur (E:=fW ([s]++[h])) h1 Df fun t ht=>(hm t ht).trans ⟨fun k=>?_,fun⟨u,hu,_⟩=>(by cases hu)⟩
  rw [p7 k]at hb;cases hb
 |false =>
  rw [if_neg (by decide)];exact ur (E:=fW ([s]++[h])) h1 (L2 (GS hs hh hb)) fun t ht=>(hm t ht).trans zj.symm
theorem yU {s:Spn}:qN 2 [s] []=[]:=by
 obtain⟨h1,h2⟩:=E4 2 [s] [];refine ur (E:=fW ([s]++[])) h1 Df fun t ht=>(h2 t ht).trans ⟨fun k=>?_,fun⟨u,hu,_⟩=>(by cases hu)⟩
 rw [GK,bX]at k;have:=gH k.2;cases this
theorem QX:SpG Spn.full:=⟨fun _=>rfl,fun _=>rfl,fun h=>by cases h⟩
theorem LJ (k u:Rat):SpG (hlf k u):=by
 unfold hlf;split
 ·exact⟨fun h=>(by cases h),fun _=>rfl,fun _ h=>(by cases h)⟩
 ·exact⟨fun _=>rfl,fun h=>(by cases h),fun h=>(by cases h)⟩
theorem Dq {s:Spn}(h:SpG s):iB s Spn.full=s:=by
 obtain⟨a,b,c,d⟩:=s;have h1:=h.lo;have h2:=h.hi;unfold iB;cases c <;> cases d <;> simp at h1 h2⊢<;> simp [h1,h2]
theorem Aw {l m:Li}(hl:l.ok) (h:gZ l m≠0) (side:Int) (hs:side=1∨side = -1):jY l m side=([hlf (side*slp l m) (-(af m (ct l)/slp l m))],false):=by
 have hk:slp l m≠0:=fun e=>h (by rw [rL,e];rfl)
 have hu:ff l (dX l m) = -(af m (ct l)/slp l m):=by
  have h1:=yR hk (ff l (dX l m));have h2:=tQ hl h (ff l (dX l m));have:(ff l (dX l m) - -(af m (ct l)/slp l m))*slp l m=0:=by rw [←h1,h2];grind
  rcases dN.1 this with e|e
  ·grind
  ·exact absurd e hk
 unfold jY;rw [if_neg h];have hv:af m (atL l (ff l (dX l m)+1))=slp l m:=by rw [tQ hl h];grind
 have hsd:gS m (atL l (ff l (dX l m)+1))=(slp l m).num.sign:=by unfold gS;rw [hv]
 rw [hsd,hu]
 have h3:(slp l m).num.sign=1∨(slp l m).num.sign = -1:=by
  have:=kA (slp l m).num;have:(slp l m).num.sign≠0:=fun e=>hk (e7.1 e)
  omega
 have h4:(((-1:Int):Rat)*slp l m).num.sign = - (slp l m).num.sign:=by
  have:((-1:Int):Rat)*slp l m = - slp l m:=by
   have e:((-1:Int):Rat) = -1:=rfl;rw [e];grind
  rw [this,jE,Int.sign_neg]
 have h5:(((1:Int):Rat)*slp l m).num.sign=(slp l m).num.sign:=by
  have:((1:Int):Rat)*slp l m=slp l m:=by
   have e:((1:Int):Rat)=1:=rfl;rw [e];grind
  rw [this]
 unfold hlf;rcases hs with rfl|rfl
 ·rw [h5];rcases h3 with h3|h3 <;> rw [h3] <;> simp
 ·rw [h4];rcases h3 with h3|h3 <;> rw [h3] <;> simp
theorem R4 (x y:Rat) : -x / -y=x/y:=by
 by_cases h:y=0
 ·rw [h];simp [iU]
 ·refine qm (n := -y) (by grind) ?_;rw [eK,g8 (by grind)];have:x/y*y=x:=g8 h;grind
theorem Hw {l m:Li}{v:Spn}:jr l v m.neg=if(slp l m).num.sign=0 then(if(af m (ct l)).num.sign<0 then some v else none)
  else if j6 (iB v (hlf (-slp l m) (-(af m (ct l)/slp l m))))then none else some (iB v (hlf (-slp l m) (-(af m (ct l)/slp l m)))):=by
 have e1:slp l m.neg = - slp l m:=by unfold slp Li.neg;simp only [gJ];grind
 have e2:af m.neg (ct l) / - slp l m=af m (ct l)/slp l m:=by rw [mN];exact R4 _ _
 unfold jr;rw [e1,e2,mN,jE,jE,Int.sign_neg,Int.sign_neg];generalize(slp l m).num.sign=a;generalize(af m (ct l)).num.sign=b;by_cases h:a=0
 ·rw [if_pos om,if_pos h];by_cases k:b<0
  ·rw [if_pos om,if_pos k]
  ·rw [if_neg om,if_neg k]
 ·rw [if_neg om,if_neg h]
theorem p6 {f:Fg}{m:Li}(hf:SpG f.2) (hb:j6 f.2=false) (hl:f.1.ok):f0 f m=(((jr f.1 f.2 m).toList).map fun s=>(f.1,s),((jr f.1 f.2 m.neg).toList).map fun s=>(f.1,s)):=by
 obtain⟨l,s⟩:=f;simp only at *;unfold f0;simp only;rw [Hw];by_cases hd:gZ l m=0
 ·have hk:slp l m=0:=by rw [rL]at hd;grind
  have hk0:(slp l m).num.sign=0:=e7.2 hk;unfold jr jY;rw [if_pos hd,if_pos hd,if_pos hk0,if_pos hk0];have hsd:gS m (ct l)=(af m (ct l)).num.sign:=rfl;rw [←hsd];have e2:qN 2 [s] [Spn.full]=[s]:=by rw [vW hf QX,Dq hf,hb];rfl
  rcases zQ m (ct l)with h|h|h
  ·rw [h];simp [e2,yU]
  ·rw [h];simp
  ·rw [h];simp [e2,yU]
 ·have hk:slp l m≠0:=fun e=>hd (by rw [rL,e];rfl)
  have hk0:¬(slp l m).num.sign=0:=fun e=>hk (e7.1 e)
  rw [Aw hl hd 1 (.inl rfl),Aw hl hd (-1) (.inr rfl)];unfold jr;rw [if_neg hk0,if_neg hk0]
  have e1:((1:Int):Rat)*slp l m=slp l m:=by
   have e:((1:Int):Rat)=1:=rfl;rw [e];grind
  have e2:((-1:Int):Rat)*slp l m = - slp l m:=by
   have e:((-1:Int):Rat) = -1:=rfl;rw [e];grind
  rw [e1,e2];simp only [bJ,aQ];rw [vW hf (LJ _ _),vW hf (LJ _ _)];split <;> split <;> rfl
end Go.Ab
