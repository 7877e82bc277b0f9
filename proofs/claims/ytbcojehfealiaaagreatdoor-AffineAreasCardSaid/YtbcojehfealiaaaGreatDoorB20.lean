/- Texts laid one behind the other: CvxP, CvxC, PLn, WdS. -/
import Derived.Test.YtbcojehfealiaaaGreatDoorB19
set_option linter.all false
namespace Go.Ab
open Go.Proofs
variable [Base]
def rI (x y:Rat):Rat:=if(x-y).num.sign≤0 then x else y
def rL (x y:Rat):Rat:=if 0≤(x-y).num.sign then x else y
def dG (v w:Spn):Spn :=
 ⟨if v.nl then w.lo else if w.nl then v.lo else rL v.lo w.lo,if v.nh then w.hi else if w.nh then v.hi else rI v.hi w.hi,v.nl&&w.nl,v.nh&&w.nh⟩
theorem Ij {x y t:Rat}:rL x y<t↔x<t∧y<t:=by
 unfold rL;split
 ·rename_i h;rw [jx]at h;grind
 ·rename_i h;rw [jx]at h;grind
theorem Id {x y t:Rat}:t<rI x y↔t<x∧t<y:=by
 have e:(x-y).num.sign≤0↔x≤y:=by
  rw [←Int.not_lt,bp];grind
 unfold rI;split
 ·rename_i h;rw [e]at h;grind
 ·rename_i h;rw [e]at h;grind
theorem rJ (v w:Spn) (t:Rat):InS (dG v w) t↔InS v t∧InS w t:=by
 obtain⟨a,b,c,d⟩:=v;obtain⟨a',b',c',d'⟩:=w;unfold InS dG;cases c <;> cases d <;> cases c' <;> cases d' <;> simp [Ij,Id] <;> grind
def hlf (k u:Rat):Spn:=if k.num.sign=1 then⟨u,0,false,true⟩else⟨0,u,true,false⟩
theorem Fz {k:Rat}(hk:k≠0) (u t:Rat):InS (hlf k u) t↔0<(t-u)*k:=by
 unfold hlf;by_cases h1:k.num.sign=1
 ·rw [if_pos h1];have:0<k:=bp.1 om;rw [eT this];unfold InS;simp only;grind
 ·rw [if_neg h1];have h0:k.num.sign≠0:=fun e=>hk (bB.1 e)
  have h3:k.num.sign<0:=by have:=Int.sign_trichotomy k.num;omega
  have:0 < - k:=by have:=dO.1 h3;grind
  rw [show(t-u)*k=(u-t) * -k by grind,eT this];unfold InS;simp only;grind
def dZ (l:Li) (v:Spn) (m:Li):Option Spn :=
 if(slp l m).num.sign=0 then(if 0<(a8 m (aD l)).num.sign then some v else none)
 else if ef (dG v (hlf (slp l m) (-(a8 m (aD l)/slp l m))))then none else some (dG v (hlf (slp l m) (-(a8 m (aD l)/slp l m))))
theorem su {l m:Li}(h:slp l m≠0) (t:Rat):a8 m (atL l t)=(t - -(a8 m (aD l)/slp l m))*slp l m:=by
 rw [aV];have:a8 m (aD l)/slp l m*slp l m=a8 m (aD l):=Rat.div_mul_cancel h;generalize a8 m (aD l)/slp l m=u at *;rw [←this];grind
theorem dR {l m:Li}{v w:Spn}(h:dZ l v m=some w) (t:Rat):InS w t↔InS v t∧0<a8 m (atL l t):=by
 unfold dZ at h;by_cases h0:(slp l m).num.sign=0
 ·rw [if_pos h0]at h;split at h
  ·rename_i h1;cases h;rw [bB]at h0;rw [aV,h0,Rat.mul_zero,Rat.add_zero];exact⟨fun k=>⟨k,bp.1 h1⟩,And.left⟩
  ·cases h
 ·rw [if_neg h0]at h;have hk:slp l m≠0:=fun e=>h0 (bB.2 e)
  split at h
  ·cases h
  ·cases h;rw [rJ,su hk,Fz hk]
theorem pA {l m:Li}{v:Spn}(h:dZ l v m=none) (t:Rat):¬(InS v t∧0<a8 m (atL l t)):=by
 unfold dZ at h;by_cases h0:(slp l m).num.sign=0
 ·rw [if_pos h0]at h;split at h
  ·cases h
  ·rename_i h1;rw [bB]at h0;rw [aV,h0,Rat.mul_zero,Rat.add_zero];exact fun k=>h1 (bp.2 k.2)
 ·rw [if_neg h0]at h;have hk:slp l m≠0:=fun e=>h0 (bB.2 e)
  split at h
  ·rename_i h2;rintro ⟨k1,k2⟩;rw [su hk,←Fz hk]at k2;rw [jw ((rJ _ _ t).2 ⟨k1,k2⟩)]at h2;cases h2
  ·cases h
theorem jQ {l m:Li}{v w:Spn}(hv:∃t,InS v t) (h:dZ l v m=some w):∃t,InS w t:=by
 unfold dZ at h;by_cases h0:(slp l m).num.sign=0
 ·rw [if_pos h0]at h;split at h
  ·cases h;exact hv
  ·cases h
 ·rw [if_neg h0]at h;split at h
  ·cases h
  ·rename_i h2;cases h;exact⟨_,gc (by simpa using h2)⟩
abbrev PC:=List Fg
def gi (l:Li):Spn→PC→Option Spn
 |v,[]=>some v
 |v,s::c=>match dZ l v s.1 with
  |some w=>gi l w c
  |none=>none
def gH (c:PC) (l:Li):Option Spn:=gi l Spn.full c
theorem pN {l:Li}:∀{c:PC}{v w:Spn},(∃t,InS v t)→gi l v c=some w→(∀t,InS w t↔InS v t∧∀s∈c,0<a8 s.1 (atL l t))∧∃t,InS w t
 | [],v,w,hv,h=>by cases h;exact⟨fun t=>by simp,hv⟩
 |s::c,v,w,hv,h=>by
  unfold gi at h;split at h
  ·rename_i u hu;obtain⟨a,b⟩:=pN (jQ hv hu) h;refine⟨fun t=>?_,b⟩;rw [a t,dR hu];simp only [List.mem_cons,forall_eq_or_imp];exact and_assoc
  ·cases h
theorem pO {l:Li}:∀{c:PC}{v:Spn},gi l v c=none→∀t,InS v t→∃s∈c,¬0<a8 s.1 (atL l t)
 | [],v,h,_,_=>by cases h
 |s::c,v,h,t,ht=>by
  unfold gi at h;split at h
  ·rename_i u hu;by_cases k:0<a8 s.1 (atL l t)
   ·obtain⟨s',h1,h2⟩:=pO h t ((dR hu t).2 ⟨ht,k⟩);exact⟨s',Mc h1,h2⟩
   ·exact⟨s,Ms,k⟩
  ·rename_i hu;exact⟨s,Ms,fun k=>pA hu t ⟨ht,k⟩⟩
theorem vL (t:Rat):InS Spn.full t:=⟨.inl rfl, .inl rfl⟩
abbrev ac (c:PC):List Li:=c.map Prod.fst
theorem rn {c:PC}{l:Li}{w:Spn}(h:gH c l=some w):(∀t,InS w t↔Inn (ac c) (atL l t))∧∃t,InS w t:=by
 obtain⟨a,b⟩:=pN ⟨0,vL 0⟩ h;refine⟨fun t=>?_,b⟩;rw [a t];unfold Inn;simp only [List.mem_map,forall_exists_index,and_imp,forall_apply_eq_imp_iff₂];exact⟨And.right,fun k=>⟨vL t,k⟩⟩
theorem mK {c:PC}{l:Li}(hl:l.ok) (h:gH c l=none) (p:Pq) (hp:a8 l p=0):¬Inn (ac c) p:=fun k=>by
 obtain⟨s,h1,h2⟩:=pO h (bo l p) (vL _);rw [kB hl hp]at h2;exact h2 (k s.1 (List.mem_map.2 ⟨s,h1,rfl⟩))
structure bZ (c:PC):Prop where
 ok:∀s∈c,s.1.ok
 inn:∃q,Inn (ac c) q
 nd:(ac c).Nodup
 span:∀s∈c,(∀t,InS s.2 t↔∀m∈ac c,m≠s.1→0<a8 m (atL s.1 t))∧∃t,InS s.2 t
theorem bZ.lok {c:PC}(h:bZ c):∀l∈ac c,l.ok:=fun l hl=>by
 obtain⟨s,hs,rfl⟩:=List.mem_map.1 hl;exact h.ok s hs
theorem bZ.nil:bZ []:=⟨fun s h=>(by cases h),⟨(0,0),fun l h=>(by cases h)⟩,List.nodup_nil,fun s h=>(by cases h)⟩
def jj (l:Li):PC→Int
 | [] => -1
 |s::c=>if cW l (atL s.1 (aW s.2))≠0 then cW l (atL s.1 (aW s.2))else if s.1=l then 1 else jj l c
def jl (c:PC) (l:Li):Int:=if(gH c l).isSome then 0 else jj l c
theorem rB {c:List Li}{l:Li}(h:∀p,a8 l p=0→¬Inn c p):¬(Lft (Inn c) l∧Rgt (Inn c) l):=by
 rintro ⟨⟨p,hp,hp0⟩,⟨q,hq,hq0⟩⟩;obtain⟨s,hs⟩:∃s,s*(a8 l p-a8 l q)=a8 l p:=⟨a8 l p/(a8 l p-a8 l q),Rat.div_mul_cancel (by grind)⟩
 obtain⟨h0,h1⟩:=Eb hs hp0 (by grind);refine h (p.1+s*(q.1-p.1),p.2+s*(q.2-p.2)) (by rw [gX];exact Ap hs) fun m hm=>?_
 rw [gX];exact yO h0 h1 (hp m hm) (hq m hm)
theorem lR {c:PC}(h:bZ c){l:Li}{s:Fg}(hs:s∈c){t:Rat}(ht:InS s.2 t):(0<a8 l (atL s.1 t)→Lft (Inn (ac c)) l)∧(a8 l (atL s.1 t)<0→Rgt (Inn (ac c)) l):=by
 have hv:=((h.span s hs).1 t).1 ht;have hz:=fk (h.ok s hs) t;generalize atL s.1 t=r at *
 have key:∀(k:Rat),0<k*a8 l r→∃q,Inn (ac c) q∧0<k*a8 l q:=fun k hk=>by
  obtain⟨e,he,hsm⟩:=fy (fun j:Option Li=>match j with|none=>k*a8 l r|some j=>a8 j r) (fun j=>match j with|none=>k*((l.a:Rat)*s.1.a+l.b*s.1.b)|some j=>(j.a:Rat)*s.1.a+j.b*s.1.b)
   (none::((ac c).filter fun j=>decide (j≠s.1)).map some) (fun j hj=>by
    rcases List.mem_cons.1 hj with rfl|hj
    ·exact hk
    ·obtain⟨j',hj',rfl⟩:=List.mem_map.1 hj;rw [List.mem_filter,decide_eq_true_eq]at hj';exact hv j' hj'.1 hj'.2)
  refine⟨(r.1+e*s.1.a,r.2+e*s.1.b),fun j hj=>?_,?_⟩
  ·rw [cl];by_cases hjs:j=s.1
   ·rw [hjs,hz,Rat.zero_add];exact Rat.mul_pos he (cC (h.ok s hs))
   ·exact hsm (some j) (Mc (List.mem_map.2 ⟨j,List.mem_filter.2 ⟨hj,decide_eq_true hjs⟩,rfl⟩)) e he Rat.le_refl
  ·rw [cl];have:=hsm none List.mem_cons_self e he Rat.le_refl;simp only at this;grind
 constructor
 ·intro h0;obtain⟨q,h1,h2⟩:=key 1 (by grind);exact⟨q,h1,by grind⟩
 ·intro h0;obtain⟨q,h1,h2⟩:=key (-1) (by grind);exact⟨q,h1,by grind⟩
theorem BM {l:Li}{p:Pq}:cW l p=1↔0<a8 l p:=by
 unfold cW;rw [←bp];have:=Int.sign_trichotomy (a8 l p).num;omega
theorem BN {l:Li}{p:Pq}:cW l p = -1↔a8 l p<0:=by
 unfold cW;rw [←dO];have:=Int.sign_trichotomy (a8 l p).num;omega
theorem yv {l:Li}{p:Pq}:cW l p=0↔a8 l p=0:=bB
theorem tf (l:Li) (p:Pq):cW l p=1∨cW l p=0∨cW l p = -1:=by
 have:=Int.sign_trichotomy (a8 l p).num;unfold cW;omega
theorem qX {l m:Li}(hl:l.ok) (hm:m.ok){t u:Rat}(hne:t≠u) (h1:a8 m (atL l t)=0) (h2:a8 m (atL l u)=0):m=l∨m=l.neg:=by
 rw [aV]at h1 h2
 have hk:slp l m=0:=by
  have:(t-u)*slp l m=0:=by grind
  rcases Rat.mul_eq_zero.1 this with e|e
  ·exact absurd (by grind) hne
  ·exact e
 have hb:a8 m (aD l)=0:=by rw [hk]at h1;grind
 have hn:=cC hl
 have hz:a8 l (aD l)=0:=by
  have h:=fk hl 0;rw [aV]at h;grind
 obtain⟨f,hf⟩:∃f,f*((l.a:Rat)*l.a+l.b*l.b)=(m.a:Rat)*l.a+m.b*l.b:=⟨_,Rat.div_mul_cancel (by grind)⟩
 have ea:(m.a:Rat)=f*l.a:=by
  refine jk (n:=(l.a:Rat)*l.a+l.b*l.b) (by grind) ?_;have:((l.a:Rat)*l.a+l.b*l.b)*(f*l.a)=(f*((l.a:Rat)*l.a+l.b*l.b))*l.a:=by grind
  rw [this,hf];unfold slp at hk;grind
 have eb:(m.b:Rat)=f*l.b:=by
  refine jk (n:=(l.a:Rat)*l.a+l.b*l.b) (by grind) ?_;have:((l.a:Rat)*l.a+l.b*l.b)*(f*l.b)=(f*((l.a:Rat)*l.a+l.b*l.b))*l.b:=by grind
  rw [this,hf];unfold slp at hk;grind
 have ec:(m.c:Rat)=f*l.c:=by
  have z1:a8 m (aD l)=f*(a8 l (aD l)-l.c)+m.c:=by unfold a8;rw [ea,eb];grind
  rw [hb,hz]at z1;grind
 rcases Rat.le_total (a:=f) (b:=0)with k|k
 ·by_cases e:f=0
  ·rw [e,Rat.zero_mul]at ea eb;rcases hm.2 with h|h
   ·exact absurd (Rat.intCast_eq_zero_iff.1 ea) h
   ·exact absurd (Rat.intCast_eq_zero_iff.1 eb) h
  ·right;refine Li.prop_eqR hm hl.neg (s:=1) (t := -f) (by decide) (by grind) ?_ ?_ ?_
   ·unfold Li.neg;simp only [Rat.intCast_neg];rw [ea];grind
   ·unfold Li.neg;simp only [Rat.intCast_neg];rw [eb];grind
   ·unfold Li.neg;simp only [Rat.intCast_neg];rw [ec];grind
 ·by_cases e:f=0
  ·rw [e,Rat.zero_mul]at ea eb;rcases hm.2 with h|h
   ·exact absurd (Rat.intCast_eq_zero_iff.1 ea) h
   ·exact absurd (Rat.intCast_eq_zero_iff.1 eb) h
  ·left;refine Li.prop_eqR hm hl (s:=1) (t:=f) (by decide) (by grind) ?_ ?_ ?_
   ·rw [ea];grind
   ·rw [eb];grind
   ·rw [ec];grind
theorem JA {s:Spn}{t:Rat}(h:InS s t):∃u,u≠t∧InS s u:=by
 obtain⟨lo,hi,nl,nh⟩:=s;unfold InS at *;simp only at *;cases nl <;> cases nh <;> simp at h⊢
 ·exact⟨i8 t hi,by have:=kb h.2;grind,by have:=kb h.2;grind,by have:=kb h.2;grind⟩
 ·exact⟨t+1,by grind,by grind⟩
 ·exact⟨t-1,by grind,by grind⟩
 ·exact⟨t+1,by grind⟩
theorem tg {c:PC}(h:bZ c){l:Li}(hl:l.ok) (hm:∀p,a8 l p=0→¬Inn (ac c) p):∀(d:PC),(∀s∈d,s∈c)→(jj l d=1∧Lft (Inn (ac c)) l∧¬Rgt (Inn (ac c)) l)∨(jj l d = -1∧Rgt (Inn (ac c)) l∧¬Lft (Inn (ac c)) l)∨(jj l d = -1∧∀s∈d,s.1=l.neg)
 | [],_ => .inr (.inr ⟨rfl,fun s h=>by cases h⟩)
 |s::d,hd=>by
  have hs:=hd s Ms;have hsp:=h.span s hs;have hin:=gc (jw hsp.2.choose_spec);have hns:=rB hm;obtain⟨e1,e2⟩:=lR h (l:=l) hs hin;unfold jj;rcases tf l (atL s.1 (aW s.2))with k|k|k
  ·rw [k,if_pos (by decide)];have a:=e1 (BM.1 k);exact .inl ⟨rfl,a,fun b=>hns ⟨a,b⟩⟩
  ·rw [k,if_neg (by decide)];have hz:=yv.1 k;by_cases hsl:s.1=l
   ·rw [if_pos hsl];obtain⟨q,hq⟩:=h.inn;have a:Lft (Inn (ac c)) l:=⟨q,hq,hsl▸hq s.1 (List.mem_map.2 ⟨s,hs,rfl⟩)⟩
    exact .inl ⟨rfl,a,fun b=>hns ⟨a,b⟩⟩
   ·rw [if_neg hsl]
    have hneg:s.1=l.neg:=by
     obtain⟨u,hu,hui⟩:=JA hin
     have z2:a8 l (atL s.1 u)=0:=by
      obtain⟨g1,g2⟩:=lR h (l:=l) hs hui;have hk:a8 l (atL s.1 u)=a8 l (atL s.1 (aW s.2))+(u-aW s.2)*slp s.1 l:=by rw [aV,aV];grind
      by_cases z:a8 l (atL s.1 u)=0
      ·exact z
      ·exfalso;have hslp:slp s.1 l≠0:=fun e=>by rw [e,hz]at hk;exact z (by rw [hk];grind)
       obtain⟨e,he,hsm⟩:=fy (fun j:Option (Li×Bool)=>match j with|none=>1|some j=>a8 j.1 (atL s.1 (aW s.2))) (fun j=>match j with|none=>0|some j=>if j.2 then slp s.1 j.1 else-slp s.1 j.1)
        ((((ac c).filter fun j=>decide (j≠s.1)).map fun j=>some (j,true))++(((ac c).filter fun j=>decide (j≠s.1)).map fun j=>some (j,false))) (fun j hj=>by
         rcases List.mem_append.1 hj with hj|hj <;> (obtain⟨j',hj',rfl⟩:=List.mem_map.1 hj;rw [List.mem_filter,decide_eq_true_eq]at hj';exact(hsp.1 _).1 hin j' hj'.1 hj'.2))
       have i1:InS s.2 (aW s.2+e):=(hsp.1 _).2 fun j hj hne=>by
        have:=hsm (some (j,true)) (List.mem_append_left _ (List.mem_map.2 ⟨j,List.mem_filter.2 ⟨hj,decide_eq_true hne⟩,rfl⟩)) e he Rat.le_refl;simp only [if_true]at this;rw [aV]at this⊢;grind
       have i2:InS s.2 (aW s.2-e):=(hsp.1 _).2 fun j hj hne=>by
        have:=hsm (some (j,false)) (List.mem_append_right _ (List.mem_map.2 ⟨j,List.mem_filter.2 ⟨hj,decide_eq_true hne⟩,rfl⟩)) e he Rat.le_refl;simp only [Bool.false_eq_true,if_false]at this;rw [aV]at this⊢;grind
       obtain⟨a1,a2⟩:=lR h (l:=l) hs i1;obtain⟨b1,b2⟩:=lR h (l:=l) hs i2;have v1:a8 l (atL s.1 (aW s.2+e))=e*slp s.1 l:=by rw [aV]at hz⊢;grind
       have v2:a8 l (atL s.1 (aW s.2-e)) = -(e*slp s.1 l):=by rw [aV]at hz⊢;grind
       rw [v1]at a1 a2;rw [v2]at b1 b2;have hne:e*slp s.1 l≠0:=fun k=>by rcases Rat.mul_eq_zero.1 k with k|k <;> grind
       rcases Rat.le_total (a:=e*slp s.1 l) (b:=0)with k|k
       ·exact hns ⟨b1 (by grind),a2 (by grind)⟩
       ·exact hns ⟨a1 (by grind),b2 (by grind)⟩
     rcases qX (h.ok s hs) hl (fun e=>hu e.symm) hz z2 with e|e
     ·exact absurd e.symm hsl
     ·rw [e];unfold Li.neg;simp
    rcases tg h hl hm d (fun x hx=>hd x (Mc hx))with r|r|⟨r,rr⟩
    ·exact .inl r
    ·exact .inr (.inl r)
    ·refine .inr (.inr ⟨r,fun x hx=>?_⟩);rcases List.mem_cons.1 hx with e|e
     ·rw [e,hneg]
     ·exact rr x e
  ·rw [k,if_pos (by decide)];have b:=e2 (BN.1 k);exact .inr (.inl ⟨rfl,b,fun a=>hns ⟨a,b⟩⟩)
theorem tv {c:PC}(h:bZ c){l:Li}(hl:l.ok) :
  (jl c l=0∧Lft (Inn (ac c)) l∧Rgt (Inn (ac c)) l)∨(jl c l=1∧Lft (Inn (ac c)) l∧¬Rgt (Inn (ac c)) l)∨(jl c l = -1∧¬Lft (Inn (ac c)) l∧Rgt (Inn (ac c)) l):=by
 unfold jl;cases hp:gH c l with
 |some w =>
  left;obtain⟨a,t,b⟩:=rn hp;have hin:=(a t).1 b;refine⟨rfl,?_,?_⟩
  ·obtain⟨e,he,hs⟩:=fy (fun j=>a8 j (atL l t)) (fun j=>(j.a:Rat)*l.a+j.b*l.b) _ hin;exact⟨((atL l t).1+e*l.a,(atL l t).2+e*l.b),fun j hj=>by rw [cl];exact hs j hj e he Rat.le_refl,by rw [cl,fk hl];have:=Rat.mul_pos he (cC hl);grind⟩
  ·obtain⟨e,he,hs⟩:=fy (fun j=>a8 j (atL l t)) (fun j => -((j.a:Rat)*l.a+j.b*l.b)) _ hin;exact⟨((atL l t).1 + -e*l.a,(atL l t).2 + -e*l.b),fun j hj=>by rw [cl];have:=hs j hj e he Rat.le_refl;grind,by rw [cl,fk hl];have:=Rat.mul_pos he (cC hl);grind⟩
 |none =>
  right;have hm:=mK hl hp;rcases tg h hl hm c (fun s hs=>hs)with⟨r,a,b⟩|⟨r,a,b⟩|⟨r,rr⟩
  ·exact .inl ⟨r,a,b⟩
  ·exact .inr ⟨r,b,a⟩
  ·right;have hns:=rB hm;cases c with
   |nil =>
    exfalso;unfold gH gi at hp;cases hp
   |cons s c =>
    obtain⟨q,hq⟩:=h.inn;have hsl:=rr s Ms;have hv:=hq s.1 (List.mem_map.2 ⟨s,Ms,rfl⟩);rw [hsl,gC]at hv;have b:Rgt (Inn (ac (s::c))) l:=⟨q,hq,by grind⟩
    exact⟨r,fun a=>hns ⟨a,b⟩,b⟩
def bd (c:PC) (l:Li):PC:=c.filterMap fun s=>(dZ s.1 s.2 l).map fun w=>(s.1,w)
def bs (pos:PC→Nat) (c:PC) (l:Li):PC×Bool:=match gH c l with
 |some v=>((bd c l).take (pos (bd c l))++(l,v)::(bd c l).drop (pos (bd c l)),true)
 |none=>(c,decide (0<jl c l))
theorem jJ {c:PC}{l:Li}{s:Fg}:s∈bd c l↔∃s0∈c,s0.1=s.1∧dZ s0.1 s0.2 l=some s.2:=by
 unfold bd;rw [List.mem_filterMap];constructor
 ·rintro ⟨s0,h1,h2⟩;obtain⟨w,h3,h4⟩:=Option.map_eq_some_iff.1 h2;exact⟨s0,h1,by rw [←h4],by rw [←h4];exact h3⟩
 ·rintro ⟨s0,h1,h2,h3⟩;exact⟨s0,h1,by rw [h3];exact congrArg some (Prod.ext h2 rfl)⟩
theorem pf (c:PC) (l:Li):(ac (bd c l)).Sublist (ac c):=by
 induction c with
 |nil=>exact List.Sublist.slnil
 |cons s c ih =>
  unfold bd;rw [List.filterMap_cons];cases h:dZ s.1 s.2 l with
  |none=>exact ih.cons _
  |some w=>exact ih.cons_cons _
theorem iH {α:Type}(a:List α) (x:α) (n:Nat):(a.take n++x::a.drop n).Perm (x::a):=by
 have:=(List.perm_middle (a:=x) (l₁:=a.take n) (l₂:=a.drop n))
 rw [List.take_append_drop]at this;exact this
theorem zS {c:PC}{l:Li}{v:Spn}(pos:Nat):∀m,m∈ac ((bd c l).take pos++(l,v)::(bd c l).drop pos)↔m=l∨m∈ac (bd c l):=fun m=>by
 have:=((iH (bd c l) (l,v) pos).map Prod.fst).mem_iff (a:=m);rw [ac,this,List.map_cons,List.mem_cons]
theorem FP {C d:List Li}(hok:∀l∈C,l.ok) (hq:∃q,Inn C q) (hC:∀m∈d,m∈C) (hin:∀q,Inn d q→Inn C q){m:Li}(hm:m∈C) (t:Rat) (ht:∀j∈d,j≠m→0<a8 j (atL m t)):∀j∈C,j≠m→0<a8 j (atL m t):=fun j hj hne=>by
 have hmo:=hok m hm
 have hge:∀u,(∀i∈d,i≠m→0<a8 i (atL m u))→0≤a8 j (atL m u):=fun u hu=>by
  refine Rat.not_lt.1 fun hn=>?_
  obtain⟨e,he,hs⟩:=fy (fun i:Option Li=>match i with|none => - a8 j (atL m u)|some i=>a8 i (atL m u)) (fun i=>match i with|none => -((j.a:Rat)*m.a+j.b*m.b)|some i=>(i.a:Rat)*m.a+i.b*m.b)
   (none::(d.filter fun i=>decide (i≠m)).map some) (fun i hi=>by
    rcases List.mem_cons.1 hi with rfl|hi
    ·simp only;grind
    ·obtain⟨i',hi',rfl⟩:=List.mem_map.1 hi;rw [List.mem_filter,decide_eq_true_eq]at hi';exact hu i' hi'.1 hi'.2)
  have hI:Inn d ((atL m u).1+e*m.a,(atL m u).2+e*m.b):=fun i hi=>by
   rw [cl];by_cases him:i=m
   ·rw [him,fk hmo,Rat.zero_add];exact Rat.mul_pos he (cC hmo)
   ·exact hs (some i) (Mc (List.mem_map.2 ⟨i,List.mem_filter.2 ⟨hi,decide_eq_true him⟩,rfl⟩)) e he Rat.le_refl
  have h1:=hin _ hI j hj;have h2:=hs none List.mem_cons_self e he Rat.le_refl;rw [cl]at h1;simp only at h2;grind
 have h0:=hge t ht;by_cases hz:a8 j (atL m t)=0
 ·exfalso
  obtain⟨e,he,hs⟩:=fy (fun i:Li×Bool=>a8 i.1 (atL m t)) (fun i=>if i.2 then slp m i.1 else-slp m i.1)
   (((d.filter fun i=>decide (i≠m)).map fun i=>(i,true))++((d.filter fun i=>decide (i≠m)).map fun i=>(i,false))) (fun i hi=>by
    rcases List.mem_append.1 hi with hi|hi <;> (obtain⟨i',hi',rfl⟩:=List.mem_map.1 hi;rw [List.mem_filter,decide_eq_true_eq]at hi';exact ht i' hi'.1 hi'.2))
  have g1:=hge (t+e) fun i hi him=>by
   have:=hs (i,true) (List.mem_append_left _ (List.mem_map.2 ⟨i,List.mem_filter.2 ⟨hi,decide_eq_true him⟩,rfl⟩)) e he Rat.le_refl;simp only [if_true]at this;rw [aV]at this⊢;grind
  have g2:=hge (t-e) fun i hi him=>by
   have:=hs (i,false) (List.mem_append_right _ (List.mem_map.2 ⟨i,List.mem_filter.2 ⟨hi,decide_eq_true him⟩,rfl⟩)) e he Rat.le_refl;simp only [Bool.false_eq_true,if_false]at this;rw [aV]at this⊢;grind
  have v1:a8 j (atL m (t+e))=e*slp m j:=by rw [aV]at hz⊢;grind
  have v2:a8 j (atL m (t-e)) = -(e*slp m j):=by rw [aV]at hz⊢;grind
  rw [v1]at g1;rw [v2]at g2;have hz2:a8 j (atL m (t+e))=0:=by rw [v1];grind
  obtain⟨q,hq⟩:=hq;have p1:=hq j hj;have p2:=hq m hm;rcases qX hmo (hok j hj) (show t≠t+e by grind) hz hz2 with k|k
  ·exact hne k
  ·rw [k,gC]at p1;grind
 ·grind
theorem gP {c:PC}(h:bZ c){l:Li}(hl:l.ok) (pos:PC→Nat){d:PC}(hd:bs pos c l=(d,true)):bZ d∧Inn (ac d)=fun q=>Inn (ac c) q∧0<a8 l q:=by
 unfold bs at hd;cases hp:gH c l with
 |none =>
  rw [hp]at hd;simp only [Prod.mk.injEq,decide_eq_true_eq]at hd;obtain⟨rfl,h0⟩:=hd
  have hpl:jl c l=1∧¬Rgt (Inn (ac c)) l:=by
   rcases tv h hl with⟨r,_,_⟩|⟨r,_,b⟩|⟨r,_,_⟩
   ·omega
   ·exact⟨r,b⟩
   ·omega
  refine⟨h,funext fun q=>propext ⟨fun hq=>⟨hq,?_⟩,And.left⟩⟩;have hm:=mK hl hp;by_cases h1:a8 l q<0
  ·exact absurd ⟨q,hq,h1⟩ hpl.2
  ·by_cases h2:a8 l q=0
   ·exact absurd hq (hm q h2)
   ·grind
 |some v =>
  rw [hp]at hd;simp only [Prod.mk.injEq,and_true]at hd;obtain⟨hv,t,ht⟩:=rn hp;have hin:=(hv t).1 ht
  have hlc:l∉ac c:=fun hm=>by
   have:=hin l hm;rw [fk hl]at this;exact absurd this (by decide)
  have hlin:∀m,m∈ac d↔m=l∨m∈ac (bd c l):=fun m=>by rw [←hd];exact zS _ m
  have hck:∀m∈ac (bd c l),m∈ac c:=fun m hm=>(pf c l).subset hm
  have hok:∀m∈ac c++[l],m.ok:=gY h.lok hl
  have hq:∃q,Inn (ac c++[l]) q:=by
   have:Edg (ac c++[l]) l:=⟨atL l t,fk hl t,fun j hj hne=>by
    rcases List.mem_append.1 hj with hj|hj
    ·exact hin j hj
    ·exact absurd (List.mem_singleton.1 hj) hne⟩
   obtain⟨q,hq,_⟩:=this.inn hl;exact⟨q,hq⟩
  have hkept:∀m∈ac c++[l],Edg (ac c++[l]) m→m∈ac d:=fun m hm he=>by
   rw [hlin];rcases List.mem_append.1 hm with hm|hm
   ·right;obtain⟨s,hs,rfl⟩:=List.mem_map.1 hm;obtain⟨r,hr,hj⟩:=he;have hml:s.1≠l:=fun e=>hlc (e▸List.mem_map.2 ⟨s,hs,rfl⟩)
    cases hc:dZ s.1 s.2 l with
    |some w=>exact List.mem_map.2 ⟨(s.1,w),jJ.2 ⟨s,hs,rfl,hc⟩,rfl⟩
    |none =>
     refine absurd ⟨((h.span s hs).1 (bo s.1 r)).2 fun j hj' hne=>?_,?_⟩ (pA hc (bo s.1 r))
     ·rw [kB (h.ok s hs) hr];exact hj j (List.mem_append_left _ hj') hne
     ·rw [kB (h.ok s hs) hr];exact hj l (List.mem_append_right _ Ms) (fun e=>hml e.symm)
   ·exact .inl (List.mem_singleton.1 hm)
  have hinn:Inn (ac d)=fun q=>Inn (ac c) q∧0<a8 l q:=by
   funext p
   refine propext ?_;rw [←dN];obtain⟨q,hq⟩:=hq;constructor
   ·intro hp;exact Inn.kept hok hq hkept hp
   ·intro hp m hm;rcases(hlin m).1 hm with e|e
    ·rw [e];exact hp l (List.mem_append_right _ Ms)
    ·exact hp m (List.mem_append_left _ (hck m e))
  have hmem:∀s,s∈d↔s=(l,v)∨s∈bd c l:=fun s=>by
   rw [←hd];rw [(iH (bd c l) (l,v) _).mem_iff,List.mem_cons]
  refine⟨⟨fun s hs=>?_,?_,?_,fun s hs=>?_⟩,hinn⟩
  ·rcases(hmem s).1 hs with e|e
   ·rw [e];exact hl
   ·obtain⟨s0,h1,h2,_⟩:=jJ.1 e;rw [←h2];exact h.ok s0 h1
  ·obtain⟨q,hq⟩:=hq;exact⟨q,by rw [hinn];exact dN.1 hq⟩
  ·rw [ac,←hd];rw [((iH (bd c l) (l,v) (pos (bd c l))).map Prod.fst).nodup_iff,List.map_cons,List.nodup_cons];exact⟨fun hm=>hlc (hck l hm),h.nd.sublist (pf c l)⟩
  ·have hC:∀m∈ac d,m∈ac c++[l]:=fun m hm=>by
    rcases(hlin m).1 hm with e|e
    ·rw [e];exact List.mem_append_right _ Ms
    ·exact List.mem_append_left _ (hck m e)
   have hinC:∀q,Inn (ac d) q→Inn (ac c++[l]) q:=fun q hq=>by rw [hinn]at hq;exact dN.2 hq
   have key:=FP hok hq hC hinC (m:=s.1) (hC _ (List.mem_map.2 ⟨s,hs,rfl⟩));have hall:∀t,(∀j∈ac c++[l],j≠s.1→0<a8 j (atL s.1 t))↔∀j∈ac d,j≠s.1→0<a8 j (atL s.1 t):=fun t=>⟨fun k j hj=>k j (hC j hj),fun k=>key t k⟩
   rcases(hmem s).1 hs with e|e
   ·refine⟨fun t=>?_,by rw [e];exact⟨t,ht⟩⟩;rw [←hall];have:=hv t;rw [e];simp only;rw [this];constructor
    ·intro k j hj hne;rcases List.mem_append.1 hj with hj|hj
     ·exact k j hj
     ·exact absurd (List.mem_singleton.1 hj) hne
    ·intro k j hj;exact k j (List.mem_append_left _ hj) (fun e=>hlc (e▸hj))
   ·obtain⟨s0,h1,h2,h3⟩:=jJ.1 e;obtain⟨g1,g2⟩:=h.span s0 h1;refine⟨fun t=>?_,jQ g2 h3⟩;rw [←hall,←h2,dR h3,g1];have hsl:s0.1≠l:=fun e=>hlc (e▸List.mem_map.2 ⟨s0,h1,rfl⟩)
    constructor
    ·rintro ⟨k1,k2⟩ j hj hne;rcases List.mem_append.1 hj with hj|hj
     ·exact k1 j hj hne
     ·rw [List.mem_singleton.1 hj];exact k2
    ·intro k;exact⟨fun j hj hne=>k j (List.mem_append_left _ hj) hne,k l (List.mem_append_right _ Ms) (fun e=>hsl e.symm)⟩
theorem ij {c:PC}(h:bZ c){l:Li}(hl:l.ok) (pos:PC→Nat):(bs pos c l).2=true↔Lft (Inn (ac c)) l:=by
 unfold bs;have hpl:=tv h hl;unfold jl at *;cases hp:gH c l with
 |some v =>
  rw [hp]at hpl;rcases hpl with⟨_,a,_⟩|⟨r,_⟩|⟨r,_⟩
  ·exact⟨fun _=>a,fun _=>rfl⟩
  ·cases r
  ·cases r
 |none =>
  rw [hp]at hpl;simp only [decide_eq_true_eq];rcases hpl with⟨r,a,_⟩|⟨r,a,_⟩|⟨r,a,_⟩
  ·rw [r];have hm:=mK hl hp;rename_i b;exact absurd ⟨a,b⟩ (rB hm)
  ·rw [r];exact⟨fun _=>a,fun _=>by decide⟩
  ·rw [r];exact⟨fun k=>absurd k (by decide),fun k=>absurd k a⟩
abbrev lfl (l:Li):SV:=lf l.a l.b l.c
abbrev ppq (p:Pq):SV:=pp p.1 p.2
theorem Li.le.hts {l:Li}{L:Nat}(h:l.le L) (hL:1≤L):ht (l.a:Rat)≤L∧ht (l.b:Rat)≤L∧ht (l.c:Rat)≤L:=by
 have ha:=dI l.a h.a;have hb:=dI l.b h.b;have hc:=dI l.c h.c;omega
theorem ov (x y:Rat) (hx:ht x≤1000000) (hy:ht y≤1000000):Pu Tryz.prog 168 [fr x,fr y] (fr (x/y)):=by
 have h1:=kh y;have c1:=vE y om;have c2:=dY x y⁻¹ om om;rw [←Rat.div_def]at c2;refine Pi Tryz.func168 fun C=>?_
 exact X2 c1 c2
theorem xN (x:Rat) (hx:ht x≤1000000):Pu Tryz.prog 99 [fr x] (fr (x/2)):=by
 have h2:ht ((1:Rat)/2)≤10:=by have h1:=iJ 1 2;have h2:=fD;have h3:ht (2:Rat)≤1:=eM 2 om;clear hx;omega
 have c2:=dY x (1/2) om om;rw [show x*(1/2)=x/2 by grind]at c2;have e0:r0 ((1:Rat)/2)=1:=by decide +kernel
 have e1:r1 ((1:Rat)/2)=1:=by decide +kernel
 have e2:r2 ((1:Rat)/2)=lit (.pointer none):=if_pos (by decide +kernel);rw [show fr ((1:Rat)/2)=ag [lit (.int .i64 1),lit (.int .i64 1),lit (.pointer none)] by unfold fr;rw [e0,e1,e2]]at c2;clear h2 e0 e1 e2;refine Pi Tryz.func99 fun C=>?_
 exact X1 c2
theorem ID (x y:Rat) (hx:ht x≤1000000) (hy:ht y≤1000000):Pu Tryz.prog 288 [fr x,fr y] (fr (rL x y)):=by
 have c1:=ko y x om om;have e:(0≤(x-y).num.sign)↔¬0<(y-x).num.sign:=by rw [jx,bp];grind
 unfold rL;by_cases h:0<(y-x).num.sign
 ·rw [if_neg (fun k=>e.1 k h)];clear e;generalize(y-x).num.sign=z at *;refine Pi Tryz.func288 fun C=>?_
  exact X1 c1
 ·rw [if_pos (e.2 h)];clear e;generalize(y-x).num.sign=z at *;refine Pi Tryz.func288 fun C=>?_
  exact X1 c1
theorem IC (x y:Rat) (hx:ht x≤1000000) (hy:ht y≤1000000):Pu Tryz.prog 289 [fr x,fr y] (fr (rI x y)):=by
 have c1:=ko y x om om;have e:((x-y).num.sign≤0)↔¬(y-x).num.sign<0:=by rw [←Int.not_lt,bp,dO];grind
 unfold rI;by_cases h:(y-x).num.sign<0
 ·rw [if_neg (fun k=>e.1 k h)];clear e;generalize(y-x).num.sign=z at *;refine Pi Tryz.func289 fun C=>?_
  exact X1 c1
 ·rw [if_pos (e.2 h)];clear e;generalize(y-x).num.sign=z at *;refine Pi Tryz.func289 fun C=>?_
  exact X1 c1
theorem Il (l:Li) (h:l.le 1000000):Pu Tryz.prog 271 [lfl l] (lfl l.neg):=by
 have ha:=dI l.a h.a;have hb:=dI l.b h.b;have hc:=dI l.c h.c;have c1:=fK (l.a:Rat) om;have c2:=fK (l.b:Rat) om;have c3:=fK (l.c:Rat) om;rw [←Rat.intCast_neg]at c1 c2 c3;refine Pi Tryz.func271 fun C=>?_
 repeat(first|(refine A1 ⟨?_⟩;intros)|refine W4 c1 ⟨?_⟩|refine W4 c2 ⟨?_⟩|refine W4 c3 ⟨?_⟩)
 exact G1
theorem lN (l:Li) (h:l.le 1000000):Pu Tryz.prog 187 [lfl l] (ppq (dirL l)):=by
 have ha:=dI l.a h.a;have c1:=fK (l.a:Rat) om;refine Pi Tryz.func187 fun C=>?_
 exact X1 c1
theorem Li.bf_htL {l:Li}{L:Nat}(h:l.le L) (hL:1≤L):ht l.bf≤10*L:=by
 obtain⟨ha,hb,hc⟩:=h.hts hL;unfold Li.bf;have h1:=ae (l.b:Rat) l.b;have h2:=ae (-(l.a:Rat)) (-(l.a:Rat));have h3:=aI ((l.b:Rat)*l.b) (-(l.a:Rat) * -(l.a:Rat));have h4:=kh ((l.b:Rat)*l.b + -(l.a:Rat) * -(l.a:Rat));have h5:=ae (l.c:Rat) ((l.b:Rat)*l.b + -(l.a:Rat) * -(l.a:Rat))⁻¹;rw [ck]at h2⊢;rw [Rat.div_def];omega
theorem mh {l:Li}{L:Nat}(h:l.le L) (hL:1≤L):hp (aD l) (12*L):=by
 obtain⟨ha,hb,hc⟩:=h.hts hL;have:=Li.bf_htL h hL;have:=ae l.bf (l.a:Rat);have:=ae l.bf (l.b:Rat);unfold aD;constructor <;> simp only <;> omega
theorem IT {l:Li}{L:Nat}(h:l.le L) (hL:1≤L){t:Rat}{n:Nat}(k:ht t≤n):hp (atL l t) (n+15*L):=by
 obtain⟨ha,hb,hc⟩:=h.hts hL;have hd:hp (dirL l) L:=⟨hb,by show ht (-(l.a:Rat))≤L;rw [ck];exact ha⟩
 obtain⟨h1,h2⟩:=oL (mh h hL) k hd;unfold atL;exact⟨om,om⟩
theorem wk {l:Li}{L:Nat}(h:l.le L) (hL:1≤L){p:Pq}{n:Nat}(k:hp p n):ht (a8 l p)≤2*n+7*L:=by
 obtain⟨h1,h2,h3⟩:=h.hts hL;obtain⟨k1,k2⟩:=k;have:=ae (l.a:Rat) p.1;have:=ae (l.b:Rat) p.2;have:=aI ((l.a:Rat)*p.1) ((l.b:Rat)*p.2);have:=aI ((l.a:Rat)*p.1+(l.b:Rat)*p.2) (l.c:Rat);unfold a8;omega
theorem xy {l:Li}{L:Nat}(h:l.le L) (hL:1≤L) (hU:L≤10000):Pu Tryz.prog 283 [lfl l] (ppq (aD l)):=by
 obtain⟨ha,hb,hc⟩:=h.hts hL;have hf:=Li.bf_htL h hL;have h1:=ae (l.a:Rat) l.a;have h2:=ae (l.b:Rat) l.b;have h3:=aI ((l.a:Rat)*l.a) ((l.b:Rat)*l.b);have hcn:ht (-(l.c:Rat))≤L:=by rw [ck];exact hc
 have e : -(l.c:Rat)/((l.a:Rat)*l.a+l.b*l.b)=l.bf:=by
  unfold Li.bf;rw [show(l.b:Rat)*l.b + -(l.a:Rat) * -(l.a:Rat)=(l.a:Rat)*l.a+l.b*l.b by grind,Rat.div_def,Rat.div_def,Rat.neg_mul]
 have c1:=gn (l.a:Rat) l.b l.c;have c2:=fK (l.c:Rat) om;have c3:=nU (l.a:Rat) l.b l.a l.b om om om om;have c4:=ov (-(l.c:Rat)) ((l.a:Rat)*l.a+l.b*l.b) om om;rw [e]at c4;have c5:=eR (l.a:Rat) l.b l.bf om om om;rw [Rat.mul_comm (l.a:Rat) l.bf,Rat.mul_comm (l.b:Rat) l.bf]at c5;clear h1 h2 h3 hcn ha hb hc hf e;refine Pi Tryz.func283 fun C=>?_
 repeat(first|(refine A1 ⟨?_⟩;intros)|refine W4 c1 ⟨?_⟩|refine W4 c2 ⟨?_⟩|refine W4 c3 ⟨?_⟩|refine W4 c4 ⟨?_⟩|refine W4 c5 ⟨?_⟩)
 exact G1
theorem Ko {l:Li}{L:Nat}(h:l.le L) (hL:1≤L) (hU:L≤10000){t:Rat}(k:ht t≤200000):Pu Tryz.prog 280 [lfl l,fr t] (ppq (atL l t)):=by
 obtain⟨ha,hb,hc⟩:=h.hts hL;obtain⟨b1,b2⟩:=mh h hL;have d2:ht (-(l.a:Rat))≤L:=by rw [ck];exact ha
 have m1:=ae (l.b:Rat) t;have m2:=ae (-(l.a:Rat)) t;have c1:=xy h hL hU;have c2:=lN l (h.gr om);have c3:=eR (l.b:Rat) (-(l.a:Rat)) t om om om;have c4:=nV (aD l).1 (aD l).2 ((l.b:Rat)*t) (-(l.a:Rat)*t) om om om om;rw [Rat.mul_comm (l.b:Rat) t,Rat.mul_comm (-(l.a:Rat)) t]at c3 c4;clear m1 m2 b1 b2 d2 ha hb hc;refine Pi Tryz.func280 fun C=>?_
 repeat(first|(refine A1 ⟨?_⟩;intros)|refine W4 c1 ⟨?_⟩|refine W4 c2 ⟨?_⟩|refine W4 c3 ⟨?_⟩|refine W4 c4 ⟨?_⟩)
 exact G1
theorem Fa {l:Li}{L:Nat}(h:l.le L) (hL:1≤L) (hU:L≤10000){p:Pq}(k:hp p 100000):Pu Tryz.prog 186 [lfl l,ppq p] (lit (.int .i64 (cW l p))):=by
 obtain⟨ha,hb,hc⟩:=h.hts hL;have hv:=wk h hL k;have c1:=pd (l.a:Rat) l.b l.c p.1 p.2 om om om k.1 k.2;have c2:=gM (a8 l p) om;clear ha hb hc hv;refine Pi Tryz.func186 fun C=>?_
 exact Y2 c1 c2
section
variable {P:Program}{C:Ctx}{n:Nat}{F:Fr}{H:LH}{Q:Exit→Fr→LH→Prop}
theorem WdS {id:Nat}{l:List Oper}(ks:List Nat){b:Nat}{T:TypeId}{cs:List SV}(css:List (List SV)){Hc:LH}(hd:ak b T cs H Hc) (hm:P.follows .mixedOrders=true) (hchk:tK l.toArray ks=true)
  (h:Mk P C n l.toArray ks Hc (fun s=>[(b,T,(cs::css).getD s [])]) 0 0 l (fun Fe=>Q .normal Fe ((b,T,(cs::css).getD ks.length [])::Hc)) F):WP P C n (.region id l.toArray true) Q F H :=
 .perm hd.perm (WdM ks Hc (fun s=>[(b,T,(cs::css).getD s [])]) h rfl hm hchk)
theorem MkS {ops:Array Oper}{rs:List Nat}{Hc:LH}{E:Nat→LH}{i s:Nat}{l:List Oper}{K:Fr→Prop}{T T':TypeId}{sz by_:Nat}{z:List SV}{g:Bool} [hT:TY P T sz by_ z g]{x v:Operand}{b o:Nat}{sv:SV}{cs cs' ds:List SV}{ty:TypeId}{pos:String}{aft:Array Edge}
  (h:Mk P C n ops rs Hc E (i+1) (s+1) l K F) (hE:E s=[(b,T',cs)]:=by exact rfl) (hE':E (s+1)=[(b,T',cs')]:=by exact rfl) (hx:ev F x=lit (.pointer (some ⟨b,o,none⟩)):=by exact rfl)
  (hv:ev F v=sv:=by(first|exact Eq.refl (lit _)|exact Eq.refl (dg _)|exact Eq.refl (ag _)|exact Eq.refl (pt _)|exact Eq.refl (sl _ _)|exact Eq.refl (nsl _ _)|exact Eq.refl (tup _)|exact Eq.refl top|exact rfl)) (hco:CO sv ds:=by infer_instance)
  (hlen:Nat.beq ds.length sz=true:=by exact rfl) (hsp:spl cs o ds=cs':=by exact rfl) (hle:Nat.ble (o+sz) cs.length=true:=by exact rfl)
  (ho:ops[i]? = some ⟨none, .store T x v,ty,pos,aft,none⟩:=by exact rfl) (hr:rs[s]? = some i:=by exact rfl):Mk P C n ops rs Hc E i s (⟨none, .store T x v,ty,pos,aft,none⟩::l) K F :=
 MkR (sv:=top) (by rw [hE,hE'];exact TS.store ho hx hv hlen (ay.here _) hsp hle) h hr
end
end Go.Ab
