/- Texts laid one behind the other: CvxP, CvxC, Spl, Bld, Txt, TxtB, Nrm, RgW, Wr. -/
import Derived.Test.YtgiifnbebppbgaaGreatDoorB21
import Derived.Test.YtgiifnbebppbgaaGreatDoorB13
import Derived.Lib.AppendStr
import Derived.Lib.UnsafeStr
import Derived.Lib.Builder
import Derived.Laws.Externs
import Derived.Test.YtgiifnbebppbgaaGreatDoorRefL
import Derived.Test.YtgiifnbebppbgaaGreatDoorB11
import Derived.Test.YtgiifnbebppbgaaGreatDoorB03
import Derived.Laws.IdiomStrings
import Derived.Test.YtgiifnbebppbgaaGreatDoorB12
import Derived.Test.YtgiifnbebppbgaaGreatDoorB18
import Derived.Test.YtgiifnbebppbgaaGreatDoorB16
set_option linter.unusedSectionVars false
set_option linter.unusedVariables false
set_option linter.unusedSimpArgs false
namespace Go.Ab
open Go.Proofs
variable [Base]
def minR (x y:Rat):Rat:=if(x-y).num.sign≤0 then x else y
def maxR (x y:Rat):Rat:=if 0≤(x-y).num.sign then x else y
def meetS (v w:Spn):Spn :=
 ⟨if v.nl then w.lo else if w.nl then v.lo else maxR v.lo w.lo,if v.nh then w.hi else if w.nh then v.hi else minR v.hi w.hi,v.nl&&w.nl,v.nh&&w.nh⟩
theorem maxR_lt {x y t:Rat}:maxR x y<t↔x<t∧y<t:=by
 unfold maxR
 split
 ·rename_i h;rw [rsign_nn]at h;grind
 ·rename_i h;rw [rsign_nn]at h;grind
theorem minR_gt {x y t:Rat}:t<minR x y↔t<x∧t<y:=by
 have e:(x-y).num.sign≤0↔x≤y:=by
  rw [←Int.not_lt,rsign_pos];grind
 unfold minR
 split
 ·rename_i h;rw [e]at h;grind
 ·rename_i h;rw [e]at h;grind
theorem meetS_in (v w:Spn) (t:Rat):InS (meetS v w) t↔InS v t∧InS w t:=by
 obtain⟨a,b,c,d⟩:=v
 obtain⟨a',b',c',d'⟩:=w
 unfold InS meetS
 cases c <;> cases d <;> cases c' <;> cases d' <;> simp [maxR_lt,minR_gt] <;> grind
def hlf (k u:Rat):Spn:=if k.num.sign=1 then⟨u,0,false,true⟩else⟨0,u,true,false⟩
theorem hlf_in {k:Rat}(hk:k≠0) (u t:Rat):InS (hlf k u) t↔0<(t-u)*k:=by
 unfold hlf
 by_cases h1:k.num.sign=1
 ·rw [if_pos h1]
  have:0<k:=rsign_pos.1 (by omega)
  rw [mul_pos_r this]
  unfold InS;simp only
  grind
 ·rw [if_neg h1]
  have h0:k.num.sign≠0:=fun e=>hk (rsign_zero.1 e)
  have h3:k.num.sign<0:=by have:=Int.sign_trichotomy k.num;omega
  have:0 < - k:=by have:=rsign_neg.1 h3;grind
  rw [show(t-u)*k=(u-t) * -k by grind,mul_pos_r this]
  unfold InS;simp only
  grind
def cutL (l:Li) (v:Spn) (m:Li):Option Spn :=
 if(slp l m).num.sign=0 then(if 0<(valL m (baseL l)).num.sign then some v else none)
 else if spBad (meetS v (hlf (slp l m) (-(valL m (baseL l)/slp l m))))then none else some (meetS v (hlf (slp l m) (-(valL m (baseL l)/slp l m))))
theorem cut_t0 {l m:Li}(h:slp l m≠0) (t:Rat):valL m (atL l t)=(t - -(valL m (baseL l)/slp l m))*slp l m:=by
 rw [valL_at]
 have:valL m (baseL l)/slp l m*slp l m=valL m (baseL l):=Rat.div_mul_cancel h
 generalize valL m (baseL l)/slp l m=u at *
 rw [←this];grind
theorem cutL_some {l m:Li}{v w:Spn}(h:cutL l v m=some w) (t:Rat):InS w t↔InS v t∧0<valL m (atL l t):=by
 unfold cutL at h
 by_cases h0:(slp l m).num.sign=0
 ·rw [if_pos h0]at h
  split at h
  ·rename_i h1
   cases h
   rw [rsign_zero]at h0
   rw [valL_at,h0,Rat.mul_zero,Rat.add_zero]
   exact⟨fun k=>⟨k,rsign_pos.1 h1⟩,And.left⟩
  ·cases h
 ·rw [if_neg h0]at h
  have hk:slp l m≠0:=fun e=>h0 (rsign_zero.2 e)
  split at h
  ·cases h
  ·cases h
   rw [meetS_in,cut_t0 hk,hlf_in hk]
theorem cutL_none {l m:Li}{v:Spn}(h:cutL l v m=none) (t:Rat):¬(InS v t∧0<valL m (atL l t)):=by
 unfold cutL at h
 by_cases h0:(slp l m).num.sign=0
 ·rw [if_pos h0]at h
  split at h
  ·cases h
  ·rename_i h1
   rw [rsign_zero]at h0
   rw [valL_at,h0,Rat.mul_zero,Rat.add_zero]
   exact fun k=>h1 (rsign_pos.2 k.2)
 ·rw [if_neg h0]at h
  have hk:slp l m≠0:=fun e=>h0 (rsign_zero.2 e)
  split at h
  ·rename_i h2
   rintro ⟨k1,k2⟩
   rw [cut_t0 hk,←hlf_in hk]at k2
   rw [spBad_in ((meetS_in _ _ t).2 ⟨k1,k2⟩)]at h2;cases h2
  ·cases h
theorem cutL_good {l m:Li}{v w:Spn}(hv:∃t,InS v t) (h:cutL l v m=some w):∃t,InS w t:=by
 unfold cutL at h
 by_cases h0:(slp l m).num.sign=0
 ·rw [if_pos h0]at h
  split at h
  ·cases h;exact hv
  ·cases h
 ·rw [if_neg h0]at h
  split at h
  ·cases h
  ·rename_i h2
   cases h
   exact⟨_,sample_in (by simpa using h2)⟩
abbrev PC:=List Fg
def partGo (l:Li):Spn→PC→Option Spn
 |v,[]=>some v
 |v,s::c=>match cutL l v s.1 with
  |some w=>partGo l w c
  |none=>none
def partP (c:PC) (l:Li):Option Spn:=partGo l Spn.full c
theorem partGo_some {l:Li}:∀{c:PC}{v w:Spn},(∃t,InS v t)→partGo l v c=some w→(∀t,InS w t↔InS v t∧∀s∈c,0<valL s.1 (atL l t))∧∃t,InS w t
 | [],v,w,hv,h=>by cases h;exact⟨fun t=>by simp,hv⟩
 |s::c,v,w,hv,h=>by
  unfold partGo at h
  split at h
  ·rename_i u hu
   obtain⟨a,b⟩:=partGo_some (cutL_good hv hu) h
   refine⟨fun t=>?_,b⟩
   rw [a t,cutL_some hu]
   simp only [List.mem_cons,forall_eq_or_imp]
   exact and_assoc
  ·cases h
theorem partGo_none {l:Li}:∀{c:PC}{v:Spn},partGo l v c=none→∀t,InS v t→∃s∈c,¬0<valL s.1 (atL l t)
 | [],v,h,_,_=>by cases h
 |s::c,v,h,t,ht=>by
  unfold partGo at h
  split at h
  ·rename_i u hu
   by_cases k:0<valL s.1 (atL l t)
   ·obtain⟨s',h1,h2⟩:=partGo_none h t ((cutL_some hu t).2 ⟨ht,k⟩)
    exact⟨s',List.mem_cons_of_mem _ h1,h2⟩
   ·exact⟨s,List.mem_cons_self,k⟩
  ·rename_i hu
   exact⟨s,List.mem_cons_self,fun k=>cutL_none hu t ⟨ht,k⟩⟩
theorem full_in (t:Rat):InS Spn.full t:=⟨.inl rfl, .inl rfl⟩
abbrev linesP (c:PC):List Li:=c.map Prod.fst
theorem partP_some {c:PC}{l:Li}{w:Spn}(h:partP c l=some w):(∀t,InS w t↔Inn (linesP c) (atL l t))∧∃t,InS w t:=by
 obtain⟨a,b⟩:=partGo_some ⟨0,full_in 0⟩ h
 refine⟨fun t=>?_,b⟩
 rw [a t]
 unfold Inn
 simp only [List.mem_map,forall_exists_index,and_imp,forall_apply_eq_imp_iff₂]
 exact⟨And.right,fun k=>⟨full_in t,k⟩⟩
theorem partP_none {c:PC}{l:Li}(hl:l.ok) (h:partP c l=none) (p:Pq) (hp:valL l p=0):¬Inn (linesP c) p:=fun k=>by
 obtain⟨s,h1,h2⟩:=partGo_none h (parL l p) (full_in _)
 rw [at_par hl hp]at h2
 exact h2 (k s.1 (List.mem_map.2 ⟨s,h1,rfl⟩))
structure PCok (c:PC):Prop where
 ok:∀s∈c,s.1.ok
 inn:∃q,Inn (linesP c) q
 nd:(linesP c).Nodup
 span:∀s∈c,(∀t,InS s.2 t↔∀m∈linesP c,m≠s.1→0<valL m (atL s.1 t))∧∃t,InS s.2 t
theorem PCok.lok {c:PC}(h:PCok c):∀l∈linesP c,l.ok:=fun l hl=>by
 obtain⟨s,hs,rfl⟩:=List.mem_map.1 hl
 exact h.ok s hs
theorem PCok.nil:PCok []:=⟨fun s h=>(by cases h),⟨(0,0),fun l h=>(by cases h)⟩,List.nodup_nil,fun s h=>(by cases h)⟩
def sideGo (l:Li):PC→Int
 | [] => -1
 |s::c=>if sideL l (atL s.1 (sampleS s.2))≠0 then sideL l (atL s.1 (sampleS s.2))else if s.1=l then 1 else sideGo l c
def placeP (c:PC) (l:Li):Int:=if(partP c l).isSome then 0 else sideGo l c
theorem one_side {c:List Li}{l:Li}(h:∀p,valL l p=0→¬Inn c p):¬(Lft (Inn c) l∧Rgt (Inn c) l):=by
 rintro ⟨⟨p,hp,hp0⟩,⟨q,hq,hq0⟩⟩
 obtain⟨s,hs⟩:∃s,s*(valL l p-valL l q)=valL l p:=⟨valL l p/(valL l p-valL l q),Rat.div_mul_cancel (by grind)⟩
 obtain⟨h0,h1⟩:=ra_le1 hs hp0 (by grind)
 refine h (p.1+s*(q.1-p.1),p.2+s*(q.2-p.2)) (by rw [val_lin];exact ra_zero hs) fun m hm=>?_
 rw [val_lin]
 exact ra_pos h0 h1 (hp m hm) (hq m hm)
theorem edge_side {c:PC}(h:PCok c){l:Li}{s:Fg}(hs:s∈c){t:Rat}(ht:InS s.2 t):(0<valL l (atL s.1 t)→Lft (Inn (linesP c)) l)∧(valL l (atL s.1 t)<0→Rgt (Inn (linesP c)) l):=by
 have hv:=((h.span s hs).1 t).1 ht
 have hz:=at_on (h.ok s hs) t
 generalize atL s.1 t=r at *
 have key:∀(k:Rat),0<k*valL l r→∃q,Inn (linesP c) q∧0<k*valL l q:=fun k hk=>by
  obtain⟨e,he,hsm⟩:=smallE (fun j:Option Li=>match j with|none=>k*valL l r|some j=>valL j r) (fun j=>match j with|none=>k*((l.a:Rat)*s.1.a+l.b*s.1.b)|some j=>(j.a:Rat)*s.1.a+j.b*s.1.b)
   (none::((linesP c).filter fun j=>decide (j≠s.1)).map some) (fun j hj=>by
    rcases List.mem_cons.1 hj with rfl|hj
    ·exact hk
    ·obtain⟨j',hj',rfl⟩:=List.mem_map.1 hj
     rw [List.mem_filter,decide_eq_true_eq]at hj'
     exact hv j' hj'.1 hj'.2)
  refine⟨(r.1+e*s.1.a,r.2+e*s.1.b),fun j hj=>?_,?_⟩
  ·rw [val_nudge]
   by_cases hjs:j=s.1
   ·rw [hjs,hz,Rat.zero_add];exact Rat.mul_pos he (nrm_pos (h.ok s hs))
   ·exact hsm (some j) (List.mem_cons_of_mem _ (List.mem_map.2 ⟨j,List.mem_filter.2 ⟨hj,decide_eq_true hjs⟩,rfl⟩)) e he Rat.le_refl
  ·rw [val_nudge]
   have:=hsm none List.mem_cons_self e he Rat.le_refl
   simp only at this
   grind
 constructor
 ·intro h0
  obtain⟨q,h1,h2⟩:=key 1 (by grind)
  exact⟨q,h1,by grind⟩
 ·intro h0
  obtain⟨q,h1,h2⟩:=key (-1) (by grind)
  exact⟨q,h1,by grind⟩
theorem sideL_pos {l:Li}{p:Pq}:sideL l p=1↔0<valL l p:=by
 unfold sideL
 rw [←rsign_pos]
 have:=Int.sign_trichotomy (valL l p).num
 omega
theorem sideL_neg {l:Li}{p:Pq}:sideL l p = -1↔valL l p<0:=by
 unfold sideL
 rw [←rsign_neg]
 have:=Int.sign_trichotomy (valL l p).num
 omega
theorem sideL_zero {l:Li}{p:Pq}:sideL l p=0↔valL l p=0:=rsign_zero
theorem sideL_tri (l:Li) (p:Pq):sideL l p=1∨sideL l p=0∨sideL l p = -1:=by
 have:=Int.sign_trichotomy (valL l p).num
 unfold sideL
 omega
theorem same_pts {l m:Li}(hl:l.ok) (hm:m.ok){t u:Rat}(hne:t≠u) (h1:valL m (atL l t)=0) (h2:valL m (atL l u)=0):m=l∨m=l.neg:=by
 rw [valL_at]at h1 h2
 have hk:slp l m=0:=by
  have:(t-u)*slp l m=0:=by grind
  rcases Rat.mul_eq_zero.1 this with e|e
  ·exact absurd (by grind) hne
  ·exact e
 have hb:valL m (baseL l)=0:=by rw [hk]at h1;grind
 have hn:=nrm_pos hl
 have hz:valL l (baseL l)=0:=by
  have h:=at_on hl 0
  rw [valL_at]at h
  grind
 obtain⟨f,hf⟩:∃f,f*((l.a:Rat)*l.a+l.b*l.b)=(m.a:Rat)*l.a+m.b*l.b:=⟨_,Rat.div_mul_cancel (by grind)⟩
 have ea:(m.a:Rat)=f*l.a:=by
  refine ra_can (n:=(l.a:Rat)*l.a+l.b*l.b) (by grind) ?_
  have:((l.a:Rat)*l.a+l.b*l.b)*(f*l.a)=(f*((l.a:Rat)*l.a+l.b*l.b))*l.a:=by grind
  rw [this,hf]
  unfold slp at hk
  grind
 have eb:(m.b:Rat)=f*l.b:=by
  refine ra_can (n:=(l.a:Rat)*l.a+l.b*l.b) (by grind) ?_
  have:((l.a:Rat)*l.a+l.b*l.b)*(f*l.b)=(f*((l.a:Rat)*l.a+l.b*l.b))*l.b:=by grind
  rw [this,hf]
  unfold slp at hk
  grind
 have ec:(m.c:Rat)=f*l.c:=by
  have z1:valL m (baseL l)=f*(valL l (baseL l)-l.c)+m.c:=by unfold valL;rw [ea,eb];grind
  rw [hb,hz]at z1;grind
 rcases Rat.le_total (a:=f) (b:=0)with k|k
 ·by_cases e:f=0
  ·rw [e,Rat.zero_mul]at ea eb
   rcases hm.2 with h|h
   ·exact absurd (Rat.intCast_eq_zero_iff.1 ea) h
   ·exact absurd (Rat.intCast_eq_zero_iff.1 eb) h
  ·right
   refine Li.prop_eqR hm hl.neg (s:=1) (t := -f) (by decide) (by grind) ?_ ?_ ?_
   ·unfold Li.neg;simp only [Rat.intCast_neg];rw [ea];grind
   ·unfold Li.neg;simp only [Rat.intCast_neg];rw [eb];grind
   ·unfold Li.neg;simp only [Rat.intCast_neg];rw [ec];grind
 ·by_cases e:f=0
  ·rw [e,Rat.zero_mul]at ea eb
   rcases hm.2 with h|h
   ·exact absurd (Rat.intCast_eq_zero_iff.1 ea) h
   ·exact absurd (Rat.intCast_eq_zero_iff.1 eb) h
  ·left
   refine Li.prop_eqR hm hl (s:=1) (t:=f) (by decide) (by grind) ?_ ?_ ?_
   ·rw [ea];grind
   ·rw [eb];grind
   ·rw [ec];grind
theorem two_in {s:Spn}{t:Rat}(h:InS s t):∃u,u≠t∧InS s u:=by
 obtain⟨lo,hi,nl,nh⟩:=s
 unfold InS at *
 simp only at *
 cases nl <;> cases nh <;> simp at h⊢
 ·exact⟨midR t hi,by have:=midR_in h.2;grind,by have:=midR_in h.2;grind,by have:=midR_in h.2;grind⟩
 ·exact⟨t+1,by grind,by grind⟩
 ·exact⟨t-1,by grind,by grind⟩
 ·exact⟨t+1,by grind⟩
theorem sideGo_ok {c:PC}(h:PCok c){l:Li}(hl:l.ok) (hm:∀p,valL l p=0→¬Inn (linesP c) p):∀(d:PC),(∀s∈d,s∈c)→(sideGo l d=1∧Lft (Inn (linesP c)) l∧¬Rgt (Inn (linesP c)) l)∨(sideGo l d = -1∧Rgt (Inn (linesP c)) l∧¬Lft (Inn (linesP c)) l)∨(sideGo l d = -1∧∀s∈d,s.1=l.neg)
 | [],_ => .inr (.inr ⟨rfl,fun s h=>by cases h⟩)
 |s::d,hd=>by
  have hs:=hd s List.mem_cons_self
  have hsp:=h.span s hs
  have hin:=sample_in (spBad_in hsp.2.choose_spec)
  have hns:=one_side hm
  obtain⟨e1,e2⟩:=edge_side h (l:=l) hs hin
  unfold sideGo
  rcases sideL_tri l (atL s.1 (sampleS s.2))with k|k|k
  ·rw [k,if_pos (by decide)]
   have a:=e1 (sideL_pos.1 k)
   exact .inl ⟨rfl,a,fun b=>hns ⟨a,b⟩⟩
  ·rw [k,if_neg (by decide)]
   have hz:=sideL_zero.1 k
   by_cases hsl:s.1=l
   ·rw [if_pos hsl]
    obtain⟨q,hq⟩:=h.inn
    have a:Lft (Inn (linesP c)) l:=⟨q,hq,hsl▸hq s.1 (List.mem_map.2 ⟨s,hs,rfl⟩)⟩
    exact .inl ⟨rfl,a,fun b=>hns ⟨a,b⟩⟩
   ·rw [if_neg hsl]
    have hneg:s.1=l.neg:=by
     obtain⟨u,hu,hui⟩:=two_in hin
     have z2:valL l (atL s.1 u)=0:=by
      obtain⟨g1,g2⟩:=edge_side h (l:=l) hs hui
      have hk:valL l (atL s.1 u)=valL l (atL s.1 (sampleS s.2))+(u-sampleS s.2)*slp s.1 l:=by rw [valL_at,valL_at];grind
      by_cases z:valL l (atL s.1 u)=0
      ·exact z
      ·exfalso
       have hslp:slp s.1 l≠0:=fun e=>by rw [e,hz]at hk;exact z (by rw [hk];grind)
       obtain⟨e,he,hsm⟩:=smallE (fun j:Option (Li×Bool)=>match j with|none=>1|some j=>valL j.1 (atL s.1 (sampleS s.2))) (fun j=>match j with|none=>0|some j=>if j.2 then slp s.1 j.1 else-slp s.1 j.1)
        ((((linesP c).filter fun j=>decide (j≠s.1)).map fun j=>some (j,true))++(((linesP c).filter fun j=>decide (j≠s.1)).map fun j=>some (j,false))) (fun j hj=>by
         rcases List.mem_append.1 hj with hj|hj <;> (obtain⟨j',hj',rfl⟩:=List.mem_map.1 hj;rw [List.mem_filter,decide_eq_true_eq]at hj';exact(hsp.1 _).1 hin j' hj'.1 hj'.2))
       have i1:InS s.2 (sampleS s.2+e):=(hsp.1 _).2 fun j hj hne=>by
        have:=hsm (some (j,true)) (List.mem_append_left _ (List.mem_map.2 ⟨j,List.mem_filter.2 ⟨hj,decide_eq_true hne⟩,rfl⟩)) e he Rat.le_refl
        simp only [if_true]at this
        rw [valL_at]at this⊢
        grind
       have i2:InS s.2 (sampleS s.2-e):=(hsp.1 _).2 fun j hj hne=>by
        have:=hsm (some (j,false)) (List.mem_append_right _ (List.mem_map.2 ⟨j,List.mem_filter.2 ⟨hj,decide_eq_true hne⟩,rfl⟩)) e he Rat.le_refl
        simp only [Bool.false_eq_true,if_false]at this
        rw [valL_at]at this⊢
        grind
       obtain⟨a1,a2⟩:=edge_side h (l:=l) hs i1
       obtain⟨b1,b2⟩:=edge_side h (l:=l) hs i2
       have v1:valL l (atL s.1 (sampleS s.2+e))=e*slp s.1 l:=by rw [valL_at]at hz⊢;grind
       have v2:valL l (atL s.1 (sampleS s.2-e)) = -(e*slp s.1 l):=by rw [valL_at]at hz⊢;grind
       rw [v1]at a1 a2
       rw [v2]at b1 b2
       have hne:e*slp s.1 l≠0:=fun k=>by rcases Rat.mul_eq_zero.1 k with k|k <;> grind
       rcases Rat.le_total (a:=e*slp s.1 l) (b:=0)with k|k
       ·exact hns ⟨b1 (by grind),a2 (by grind)⟩
       ·exact hns ⟨a1 (by grind),b2 (by grind)⟩
     rcases same_pts (h.ok s hs) hl (fun e=>hu e.symm) hz z2 with e|e
     ·exact absurd e.symm hsl
     ·rw [e];unfold Li.neg;simp
    rcases sideGo_ok h hl hm d (fun x hx=>hd x (List.mem_cons_of_mem _ hx))with r|r|⟨r,rr⟩
    ·exact .inl r
    ·exact .inr (.inl r)
    ·refine .inr (.inr ⟨r,fun x hx=>?_⟩)
     rcases List.mem_cons.1 hx with e|e
     ·rw [e,hneg]
     ·exact rr x e
  ·rw [k,if_pos (by decide)]
   have b:=e2 (sideL_neg.1 k)
   exact .inr (.inl ⟨rfl,b,fun a=>hns ⟨a,b⟩⟩)
theorem placeP_ok {c:PC}(h:PCok c){l:Li}(hl:l.ok) :
  (placeP c l=0∧Lft (Inn (linesP c)) l∧Rgt (Inn (linesP c)) l)∨(placeP c l=1∧Lft (Inn (linesP c)) l∧¬Rgt (Inn (linesP c)) l)∨(placeP c l = -1∧¬Lft (Inn (linesP c)) l∧Rgt (Inn (linesP c)) l):=by
 unfold placeP
 cases hp:partP c l with
 |some w =>
  left
  obtain⟨a,t,b⟩:=partP_some hp
  have hin:=(a t).1 b
  refine⟨rfl,?_,?_⟩
  ·obtain⟨e,he,hs⟩:=smallE (fun j=>valL j (atL l t)) (fun j=>(j.a:Rat)*l.a+j.b*l.b) _ hin
   exact⟨((atL l t).1+e*l.a,(atL l t).2+e*l.b),fun j hj=>by rw [val_nudge];exact hs j hj e he Rat.le_refl,by rw [val_nudge,at_on hl];have:=Rat.mul_pos he (nrm_pos hl);grind⟩
  ·obtain⟨e,he,hs⟩:=smallE (fun j=>valL j (atL l t)) (fun j => -((j.a:Rat)*l.a+j.b*l.b)) _ hin
   exact⟨((atL l t).1 + -e*l.a,(atL l t).2 + -e*l.b),fun j hj=>by rw [val_nudge];have:=hs j hj e he Rat.le_refl;grind,by rw [val_nudge,at_on hl];have:=Rat.mul_pos he (nrm_pos hl);grind⟩
 |none =>
  right
  have hm:=partP_none hl hp
  rcases sideGo_ok h hl hm c (fun s hs=>hs)with⟨r,a,b⟩|⟨r,a,b⟩|⟨r,rr⟩
  ·exact .inl ⟨r,a,b⟩
  ·exact .inr ⟨r,b,a⟩
  ·right
   have hns:=one_side hm
   cases c with
   |nil =>
    exfalso
    unfold partP partGo at hp;cases hp
   |cons s c =>
    obtain⟨q,hq⟩:=h.inn
    have hsl:=rr s List.mem_cons_self
    have hv:=hq s.1 (List.mem_map.2 ⟨s,List.mem_cons_self,rfl⟩)
    rw [hsl,neg_val]at hv
    have b:Rgt (Inn (linesP (s::c))) l:=⟨q,hq,by grind⟩
    exact⟨r,fun a=>hns ⟨a,b⟩,b⟩
def keptP (c:PC) (l:Li):PC:=c.filterMap fun s=>(cutL s.1 s.2 l).map fun w=>(s.1,w)
def clipP (pos:PC→Nat) (c:PC) (l:Li):PC×Bool:=match partP c l with
 |some v=>((keptP c l).take (pos (keptP c l))++(l,v)::(keptP c l).drop (pos (keptP c l)),true)
 |none=>(c,decide (0<placeP c l))
theorem keptP_mem {c:PC}{l:Li}{s:Fg}:s∈keptP c l↔∃s0∈c,s0.1=s.1∧cutL s0.1 s0.2 l=some s.2:=by
 unfold keptP
 rw [List.mem_filterMap]
 constructor
 ·rintro ⟨s0,h1,h2⟩
  obtain⟨w,h3,h4⟩:=Option.map_eq_some_iff.1 h2
  exact⟨s0,h1,by rw [←h4],by rw [←h4];exact h3⟩
 ·rintro ⟨s0,h1,h2,h3⟩
  exact⟨s0,h1,by rw [h3];exact congrArg some (Prod.ext h2 rfl)⟩
theorem keptP_sub (c:PC) (l:Li):(linesP (keptP c l)).Sublist (linesP c):=by
 induction c with
 |nil=>exact List.Sublist.slnil
 |cons s c ih =>
  unfold keptP
  rw [List.filterMap_cons]
  cases h:cutL s.1 s.2 l with
  |none=>exact ih.cons _
  |some w=>exact ih.cons_cons _
theorem ins_perm {α:Type}(a:List α) (x:α) (n:Nat):(a.take n++x::a.drop n).Perm (x::a):=by
 have:=(List.perm_middle (a:=x) (l₁:=a.take n) (l₂:=a.drop n))
 rw [List.take_append_drop]at this
 exact this
theorem clip_lines {c:PC}{l:Li}{v:Spn}(pos:Nat):∀m,m∈linesP ((keptP c l).take pos++(l,v)::(keptP c l).drop pos)↔m=l∨m∈linesP (keptP c l):=fun m=>by
 have:=((ins_perm (keptP c l) (l,v) pos).map Prod.fst).mem_iff (a:=m)
 rw [linesP,this,List.map_cons,List.mem_cons]
theorem edge_all {C d:List Li}(hok:∀l∈C,l.ok) (hq:∃q,Inn C q) (hC:∀m∈d,m∈C) (hin:∀q,Inn d q→Inn C q){m:Li}(hm:m∈C) (t:Rat) (ht:∀j∈d,j≠m→0<valL j (atL m t)):∀j∈C,j≠m→0<valL j (atL m t):=fun j hj hne=>by
 have hmo:=hok m hm
 have hge:∀u,(∀i∈d,i≠m→0<valL i (atL m u))→0≤valL j (atL m u):=fun u hu=>by
  refine Rat.not_lt.1 fun hn=>?_
  obtain⟨e,he,hs⟩:=smallE (fun i:Option Li=>match i with|none => - valL j (atL m u)|some i=>valL i (atL m u)) (fun i=>match i with|none => -((j.a:Rat)*m.a+j.b*m.b)|some i=>(i.a:Rat)*m.a+i.b*m.b)
   (none::(d.filter fun i=>decide (i≠m)).map some) (fun i hi=>by
    rcases List.mem_cons.1 hi with rfl|hi
    ·simp only;grind
    ·obtain⟨i',hi',rfl⟩:=List.mem_map.1 hi
     rw [List.mem_filter,decide_eq_true_eq]at hi'
     exact hu i' hi'.1 hi'.2)
  have hI:Inn d ((atL m u).1+e*m.a,(atL m u).2+e*m.b):=fun i hi=>by
   rw [val_nudge]
   by_cases him:i=m
   ·rw [him,at_on hmo,Rat.zero_add];exact Rat.mul_pos he (nrm_pos hmo)
   ·exact hs (some i) (List.mem_cons_of_mem _ (List.mem_map.2 ⟨i,List.mem_filter.2 ⟨hi,decide_eq_true him⟩,rfl⟩)) e he Rat.le_refl
  have h1:=hin _ hI j hj
  have h2:=hs none List.mem_cons_self e he Rat.le_refl
  rw [val_nudge]at h1
  simp only at h2
  grind
 have h0:=hge t ht
 by_cases hz:valL j (atL m t)=0
 ·exfalso
  obtain⟨e,he,hs⟩:=smallE (fun i:Li×Bool=>valL i.1 (atL m t)) (fun i=>if i.2 then slp m i.1 else-slp m i.1)
   (((d.filter fun i=>decide (i≠m)).map fun i=>(i,true))++((d.filter fun i=>decide (i≠m)).map fun i=>(i,false))) (fun i hi=>by
    rcases List.mem_append.1 hi with hi|hi <;> (obtain⟨i',hi',rfl⟩:=List.mem_map.1 hi;rw [List.mem_filter,decide_eq_true_eq]at hi';exact ht i' hi'.1 hi'.2))
  have g1:=hge (t+e) fun i hi him=>by
   have:=hs (i,true) (List.mem_append_left _ (List.mem_map.2 ⟨i,List.mem_filter.2 ⟨hi,decide_eq_true him⟩,rfl⟩)) e he Rat.le_refl
   simp only [if_true]at this
   rw [valL_at]at this⊢
   grind
  have g2:=hge (t-e) fun i hi him=>by
   have:=hs (i,false) (List.mem_append_right _ (List.mem_map.2 ⟨i,List.mem_filter.2 ⟨hi,decide_eq_true him⟩,rfl⟩)) e he Rat.le_refl
   simp only [Bool.false_eq_true,if_false]at this
   rw [valL_at]at this⊢
   grind
  have v1:valL j (atL m (t+e))=e*slp m j:=by rw [valL_at]at hz⊢;grind
  have v2:valL j (atL m (t-e)) = -(e*slp m j):=by rw [valL_at]at hz⊢;grind
  rw [v1]at g1
  rw [v2]at g2
  have hz2:valL j (atL m (t+e))=0:=by rw [v1];grind
  obtain⟨q,hq⟩:=hq
  have p1:=hq j hj
  have p2:=hq m hm
  rcases same_pts hmo (hok j hj) (show t≠t+e by grind) hz hz2 with k|k
  ·exact hne k
  ·rw [k,neg_val]at p1;grind
 ·grind
theorem clipP_ok {c:PC}(h:PCok c){l:Li}(hl:l.ok) (pos:PC→Nat){d:PC}(hd:clipP pos c l=(d,true)):PCok d∧Inn (linesP d)=fun q=>Inn (linesP c) q∧0<valL l q:=by
 unfold clipP at hd
 cases hp:partP c l with
 |none =>
  rw [hp]at hd
  simp only [Prod.mk.injEq,decide_eq_true_eq]at hd
  obtain⟨rfl,h0⟩:=hd
  have hpl:placeP c l=1∧¬Rgt (Inn (linesP c)) l:=by
   rcases placeP_ok h hl with⟨r,_,_⟩|⟨r,_,b⟩|⟨r,_,_⟩
   ·omega
   ·exact⟨r,b⟩
   ·omega
  refine⟨h,funext fun q=>propext ⟨fun hq=>⟨hq,?_⟩,And.left⟩⟩
  have hm:=partP_none hl hp
  by_cases h1:valL l q<0
  ·exact absurd ⟨q,hq,h1⟩ hpl.2
  ·by_cases h2:valL l q=0
   ·exact absurd hq (hm q h2)
   ·grind
 |some v =>
  rw [hp]at hd
  simp only [Prod.mk.injEq,and_true]at hd
  obtain⟨hv,t,ht⟩:=partP_some hp
  have hin:=(hv t).1 ht
  have hlc:l∉linesP c:=fun hm=>by
   have:=hin l hm
   rw [at_on hl]at this;exact absurd this (by decide)
  have hlin:∀m,m∈linesP d↔m=l∨m∈linesP (keptP c l):=fun m=>by rw [←hd];exact clip_lines _ m
  have hck:∀m∈linesP (keptP c l),m∈linesP c:=fun m hm=>(keptP_sub c l).subset hm
  have hok:∀m∈linesP c++[l],m.ok:=snoc_ok h.lok hl
  have hq:∃q,Inn (linesP c++[l]) q:=by
   have:Edg (linesP c++[l]) l:=⟨atL l t,at_on hl t,fun j hj hne=>by
    rcases List.mem_append.1 hj with hj|hj
    ·exact hin j hj
    ·exact absurd (List.mem_singleton.1 hj) hne⟩
   obtain⟨q,hq,_⟩:=this.inn hl
   exact⟨q,hq⟩
  have hkept:∀m∈linesP c++[l],Edg (linesP c++[l]) m→m∈linesP d:=fun m hm he=>by
   rw [hlin]
   rcases List.mem_append.1 hm with hm|hm
   ·right
    obtain⟨s,hs,rfl⟩:=List.mem_map.1 hm
    obtain⟨r,hr,hj⟩:=he
    have hml:s.1≠l:=fun e=>hlc (e▸List.mem_map.2 ⟨s,hs,rfl⟩)
    cases hc:cutL s.1 s.2 l with
    |some w=>exact List.mem_map.2 ⟨(s.1,w),keptP_mem.2 ⟨s,hs,rfl,hc⟩,rfl⟩
    |none =>
     refine absurd ⟨((h.span s hs).1 (parL s.1 r)).2 fun j hj' hne=>?_,?_⟩ (cutL_none hc (parL s.1 r))
     ·rw [at_par (h.ok s hs) hr];exact hj j (List.mem_append_left _ hj') hne
     ·rw [at_par (h.ok s hs) hr];exact hj l (List.mem_append_right _ List.mem_cons_self) (fun e=>hml e.symm)
   ·exact .inl (List.mem_singleton.1 hm)
  have hinn:Inn (linesP d)=fun q=>Inn (linesP c) q∧0<valL l q:=by
   funext p
   refine propext ?_
   rw [←snoc_inn]
   obtain⟨q,hq⟩:=hq
   constructor
   ·intro hp
    exact Inn.kept hok hq hkept hp
   ·intro hp m hm
    rcases(hlin m).1 hm with e|e
    ·rw [e];exact hp l (List.mem_append_right _ List.mem_cons_self)
    ·exact hp m (List.mem_append_left _ (hck m e))
  have hmem:∀s,s∈d↔s=(l,v)∨s∈keptP c l:=fun s=>by
   rw [←hd]
   rw [(ins_perm (keptP c l) (l,v) _).mem_iff,List.mem_cons]
  refine⟨⟨fun s hs=>?_,?_,?_,fun s hs=>?_⟩,hinn⟩
  ·rcases(hmem s).1 hs with e|e
   ·rw [e];exact hl
   ·obtain⟨s0,h1,h2,_⟩:=keptP_mem.1 e
    rw [←h2];exact h.ok s0 h1
  ·obtain⟨q,hq⟩:=hq
   exact⟨q,by rw [hinn];exact snoc_inn.1 hq⟩
  ·rw [linesP,←hd]
   rw [((ins_perm (keptP c l) (l,v) (pos (keptP c l))).map Prod.fst).nodup_iff,List.map_cons,List.nodup_cons]
   exact⟨fun hm=>hlc (hck l hm),h.nd.sublist (keptP_sub c l)⟩
  ·have hC:∀m∈linesP d,m∈linesP c++[l]:=fun m hm=>by
    rcases(hlin m).1 hm with e|e
    ·rw [e];exact List.mem_append_right _ List.mem_cons_self
    ·exact List.mem_append_left _ (hck m e)
   have hinC:∀q,Inn (linesP d) q→Inn (linesP c++[l]) q:=fun q hq=>by rw [hinn]at hq;exact snoc_inn.2 hq
   have key:=edge_all hok hq hC hinC (m:=s.1) (hC _ (List.mem_map.2 ⟨s,hs,rfl⟩))
   have hall:∀t,(∀j∈linesP c++[l],j≠s.1→0<valL j (atL s.1 t))↔∀j∈linesP d,j≠s.1→0<valL j (atL s.1 t):=fun t=>⟨fun k j hj=>k j (hC j hj),fun k=>key t k⟩
   rcases(hmem s).1 hs with e|e
   ·refine⟨fun t=>?_,by rw [e];exact⟨t,ht⟩⟩
    rw [←hall]
    have:=hv t
    rw [e]
    simp only
    rw [this]
    constructor
    ·intro k j hj hne
     rcases List.mem_append.1 hj with hj|hj
     ·exact k j hj
     ·exact absurd (List.mem_singleton.1 hj) hne
    ·intro k j hj
     exact k j (List.mem_append_left _ hj) (fun e=>hlc (e▸hj))
   ·obtain⟨s0,h1,h2,h3⟩:=keptP_mem.1 e
    obtain⟨g1,g2⟩:=h.span s0 h1
    refine⟨fun t=>?_,cutL_good g2 h3⟩
    rw [←hall,←h2,cutL_some h3,g1]
    have hsl:s0.1≠l:=fun e=>hlc (e▸List.mem_map.2 ⟨s0,h1,rfl⟩)
    constructor
    ·rintro ⟨k1,k2⟩ j hj hne
     rcases List.mem_append.1 hj with hj|hj
     ·exact k1 j hj hne
     ·rw [List.mem_singleton.1 hj];exact k2
    ·intro k
     exact⟨fun j hj hne=>k j (List.mem_append_left _ hj) hne,k l (List.mem_append_right _ List.mem_cons_self) (fun e=>hsl e.symm)⟩
theorem clipP_iff {c:PC}(h:PCok c){l:Li}(hl:l.ok) (pos:PC→Nat):(clipP pos c l).2=true↔Lft (Inn (linesP c)) l:=by
 unfold clipP
 have hpl:=placeP_ok h hl
 unfold placeP at *
 cases hp:partP c l with
 |some v =>
  rw [hp]at hpl
  rcases hpl with⟨_,a,_⟩|⟨r,_⟩|⟨r,_⟩
  ·exact⟨fun _=>a,fun _=>rfl⟩
  ·cases r
  ·cases r
 |none =>
  rw [hp]at hpl
  simp only [decide_eq_true_eq]
  rcases hpl with⟨r,a,_⟩|⟨r,a,_⟩|⟨r,a,_⟩
  ·rw [r]
   have hm:=partP_none hl hp
   rename_i b
   exact absurd ⟨a,b⟩ (one_side hm)
  ·rw [r];exact⟨fun _=>a,fun _=>by decide⟩
  ·rw [r];exact⟨fun k=>absurd k (by decide),fun k=>absurd k a⟩
theorem Rgt_neg {I:Pq→Prop}{l:Li}:Lft I l.neg↔Rgt I l:=by
 unfold Lft Rgt
 simp only [neg_lt]
def restrP (pos:Li→PC→Nat):Tr→PC→Tr
 | .leaf i,_ => .leaf i
 | .node l a b,c=>if(clipP (pos l.neg) c l.neg).2=false then restrP pos a c else if(clipP (pos l) c l).2=false then restrP pos b c else joinT l (restrP pos a (clipP (pos l) c l).1) (restrP pos b (clipP (pos l.neg) c l.neg).1)
def chooseP (pos:Li→PC→Nat) (op:Int) (i:Bool) (b:Tr) (c:PC):Tr :=
 if op=1∧i=true then .leaf true else if(op=2∨op=3)∧i=false then .leaf false else if(op=3∨op=4)∧i=true then notT (restrP pos b c)else restrP pos b c
def mergeP (pos:Li→PC→Nat) (op:Int):Tr→Tr→PC→Tr
 | .leaf i,b,c=>chooseP pos op i b c
 | .node l x y,b,c=>if(clipP (pos l.neg) c l.neg).2=false then mergeP pos op x b c else if(clipP (pos l) c l).2=false then mergeP pos op y b c else joinT l (mergeP pos op x b (clipP (pos l) c l).1) (mergeP pos op y b (clipP (pos l.neg) c l.neg).1)
theorem clip_left {c:PC}(h:PCok c){l:Li}(hl:l.ok) (pos:PC→Nat) (k:Lft (Inn (linesP c)) l):PCok (clipP pos c l).1∧Inn (linesP (clipP pos c l).1)=fun q=>Inn (linesP c) q∧0<valL l q :=
 clipP_ok h hl pos (Prod.ext rfl ((clipP_iff h hl pos).2 k))
theorem clip_right {c:PC}(h:PCok c){l:Li}(hl:l.ok) (pos:PC→Nat) (k:Rgt (Inn (linesP c)) l):PCok (clipP pos c l.neg).1∧Inn (linesP (clipP pos c l.neg).1)=fun q=>Inn (linesP c) q∧valL l q<0:=by
 obtain⟨a,b⟩:=clip_left h hl.neg pos (Rgt_neg.2 k)
 refine⟨a,b.trans ?_⟩
 funext q
 rw [neg_lt]
theorem restrP_I (pos:Li→PC→Nat):∀{t:Tr}{c:PC},t.lok→PCok c→restrP pos t c=restrI t (Inn (linesP c))
 | .leaf i,c,_,_=>rfl
 | .node l a b,c,⟨hl,ha,hb⟩,hc=>by
  have p1:=clipP_iff hc hl (pos l)
  have p2:=(clipP_iff hc hl.neg (pos l.neg)).trans Rgt_neg
  unfold restrP restrI
  by_cases h1:Rgt (Inn (linesP c)) l
  ·rw [p2.2 h1,if_neg (by decide),if_neg (show¬¬Rgt (Inn (linesP c)) l from fun h=>h h1)]
   by_cases h2:Lft (Inn (linesP c)) l
   ·rw [p1.2 h2,if_neg (by decide),if_neg (show¬¬Lft (Inn (linesP c)) l from fun h=>h h2)]
    obtain⟨a1,a2⟩:=clip_left hc hl (pos l) h2
    obtain⟨b1,b2⟩:=clip_right hc hl (pos l.neg) h1
    rw [restrP_I pos ha a1,restrP_I pos hb b1,a2,b2]
   ·rw [show(clipP (pos l) c l).2=false from by simpa using fun k=>h2 (p1.1 k),if_pos rfl,if_pos h2]
    exact restrP_I pos hb hc
  ·rw [show(clipP (pos l.neg) c l.neg).2=false from by simpa using fun k=>h1 (p2.1 k),if_pos rfl,if_pos h1]
   exact restrP_I pos ha hc
theorem mergeP_I (pos:Li→PC→Nat){op:Int}:∀{t b:Tr}{c:PC},t.lok→b.lok→PCok c→mergeP pos op t b c=mergeI op t b (Inn (linesP c))
 | .leaf i,b,c,_,hb,hc=>by
  unfold mergeP mergeI chooseP chooseI
  rw [restrP_I pos hb hc]
 | .node l x y,b,c,⟨hl,hx,hy⟩,hb,hc=>by
  have p1:=clipP_iff hc hl (pos l)
  have p2:=(clipP_iff hc hl.neg (pos l.neg)).trans Rgt_neg
  unfold mergeP mergeI
  by_cases h1:Rgt (Inn (linesP c)) l
  ·rw [p2.2 h1,if_neg (by decide),if_neg (show¬¬Rgt (Inn (linesP c)) l from fun h=>h h1)]
   by_cases h2:Lft (Inn (linesP c)) l
   ·rw [p1.2 h2,if_neg (by decide),if_neg (show¬¬Lft (Inn (linesP c)) l from fun h=>h h2)]
    obtain⟨a1,a2⟩:=clip_left hc hl (pos l) h2
    obtain⟨b1,b2⟩:=clip_right hc hl (pos l.neg) h1
    rw [mergeP_I pos hx hb a1,mergeP_I pos hy hb b1,a2,b2]
   ·rw [show(clipP (pos l) c l).2=false from by simpa using fun k=>h2 (p1.1 k),if_pos rfl,if_pos h2]
    exact mergeP_I pos hy hb hc
  ·rw [show(clipP (pos l.neg) c l.neg).2=false from by simpa using fun k=>h1 (p2.1 k),if_pos rfl,if_pos h1]
   exact mergeP_I pos hx hb hc
theorem merge_same (pos:Li→PC→Nat){op:Int}{t b:Tr}(h:t.lok) (hb:b.lok):mergeP pos op t b []=mergeT op t b []:=by
 rw [mergeP_I pos h hb PCok.nil,mergeT_I h hb (fun l h=>by cases h) ⟨(0,0),fun l h=>by cases h⟩];rfl
theorem norm_one {s:Spn}(h:SpG s):NormS [s]:=⟨fun x hx=>by rw [List.mem_singleton.1 hx];exact h,List.pairwise_singleton _ _⟩
theorem norm_nil:NormS []:=⟨fun s h=>(by cases h),List.Pairwise.nil⟩
theorem spBad_lt {s:Spn}(h:spBad s=false) (h1:s.nl=false) (h2:s.nh=false):s.lo<s.hi:=by
 obtain⟨a,b⟩:=sample_in h
 have a:=a.resolve_left (by rw [h1];decide)
 have b:=b.resolve_left (by rw [h2];decide)
 grind
theorem meetS_g {v w:Spn}(hv:SpG v) (hw:SpG w) (h:spBad (meetS v w)=false):SpG (meetS v w):=by
 refine⟨fun k=>?_,fun k=>?_,spBad_lt h⟩
 ·have k:(v.nl&&w.nl)=true:=k
  rw [Bool.and_eq_true]at k
  show(if v.nl then w.lo else _)=0
  rw [if_pos k.1];exact hw.lo k.2
 ·have k:(v.nh&&w.nh)=true:=k
  rw [Bool.and_eq_true]at k
  show(if v.nh then w.hi else _)=0
  rw [if_pos k.1];exact hw.hi k.2
theorem MemS_one {s:Spn}{t:Rat}:MemS [s] t↔InS s t:=⟨fun⟨u,hu,h⟩=>List.mem_singleton.1 hu▸h,fun h=>⟨s,List.mem_singleton.2 rfl,h⟩⟩
theorem opB_and (x y:Bool):opB 2 x y=(x&&y):=rfl
theorem ends_app {a b:List Spn}{t:Rat}(h:t∉endsS (a++b)):t∉endsS a∧t∉endsS b :=
 ⟨fun k=>h (by obtain⟨s,h1,h2⟩:=ends_has.1 k;exact ends_has.2 ⟨s,List.mem_append_left _ h1,h2⟩),fun k=>h (by obtain⟨s,h1,h2⟩:=ends_has.1 k;exact ends_has.2 ⟨s,List.mem_append_right _ h1,h2⟩)⟩
theorem combS_two {s h:Spn}(hs:SpG s) (hh:SpG h):combS 2 [s] [h]=if spBad (meetS s h)then []else [meetS s h]:=by
 obtain⟨h1,h2⟩:=combS_ok 2 [s] [h]
 have hm:∀t,t∉endsS ([s]++[h])→(MemS (combS 2 [s] [h]) t↔InS (meetS s h) t):=fun t ht=>by
  obtain⟨k1,k2⟩:=ends_app ht
  rw [h2 t ht,opB_and,Bool.and_eq_true,inL_mem k1,inL_mem k2,MemS_one,MemS_one,meetS_in]
 cases hb:spBad (meetS s h)with
 |true =>
  rw [if_pos rfl]
  refine norm_ext (E:=endsS ([s]++[h])) h1 norm_nil fun t ht=>(hm t ht).trans ⟨fun k=>?_,fun⟨u,hu,_⟩=>(by cases hu)⟩
  rw [spBad_in k]at hb;cases hb
 |false =>
  rw [if_neg (by decide)]
  exact norm_ext (E:=endsS ([s]++[h])) h1 (norm_one (meetS_g hs hh hb)) fun t ht=>(hm t ht).trans MemS_one.symm
theorem combS_none {s:Spn}:combS 2 [s] []=[]:=by
 obtain⟨h1,h2⟩:=combS_ok 2 [s] []
 refine norm_ext (E:=endsS ([s]++[])) h1 norm_nil fun t ht=>(h2 t ht).trans ⟨fun k=>?_,fun⟨u,hu,_⟩=>(by cases hu)⟩
 rw [opB_and,Bool.and_eq_true]at k
 have:=of_decide_eq_true k.2
 cases this
theorem full_g:SpG Spn.full:=⟨fun _=>rfl,fun _=>rfl,fun h=>by cases h⟩
theorem hlf_g (k u:Rat):SpG (hlf k u):=by
 unfold hlf
 split
 ·exact⟨fun h=>(by cases h),fun _=>rfl,fun _ h=>(by cases h)⟩
 ·exact⟨fun _=>rfl,fun h=>(by cases h),fun h=>(by cases h)⟩
theorem meet_full_g {s:Spn}(h:SpG s):meetS s Spn.full=s:=by
 obtain⟨a,b,c,d⟩:=s
 have h1:=h.lo
 have h2:=h.hi
 unfold meetS
 cases c <;> cases d <;> simp at h1 h2⊢<;> simp [h1,h2]
theorem half_span {l m:Li}(hl:l.ok) (h:detL l m≠0) (side:Int) (hs:side=1∨side = -1):halfS l m side=([hlf (side*slp l m) (-(valL m (baseL l)/slp l m))],false):=by
 have hk:slp l m≠0:=fun e=>h (by rw [slp_det,e];rfl)
 have hu:parL l (meetP l m) = -(valL m (baseL l)/slp l m):=by
  have h1:=cut_t0 hk (parL l (meetP l m))
  have h2:=valL_at2 hl h (parL l (meetP l m))
  have:(parL l (meetP l m) - -(valL m (baseL l)/slp l m))*slp l m=0:=by rw [←h1,h2];grind
  rcases Rat.mul_eq_zero.1 this with e|e
  ·grind
  ·exact absurd e hk
 unfold halfS
 rw [if_neg h]
 have hv:valL m (atL l (parL l (meetP l m)+1))=slp l m:=by rw [valL_at2 hl h];grind
 have hsd:sideL m (atL l (parL l (meetP l m)+1))=(slp l m).num.sign:=by unfold sideL;rw [hv]
 rw [hsd,hu]
 have h3:(slp l m).num.sign=1∨(slp l m).num.sign = -1:=by
  have:=Int.sign_trichotomy (slp l m).num
  have:(slp l m).num.sign≠0:=fun e=>hk (rsign_zero.1 e)
  omega
 have h4:(((-1:Int):Rat)*slp l m).num.sign = - (slp l m).num.sign:=by
  have:((-1:Int):Rat)*slp l m = - slp l m:=by
   have e:((-1:Int):Rat) = -1:=rfl
   rw [e];grind
  rw [this,Rat.neg_num,Int.sign_neg]
 have h5:(((1:Int):Rat)*slp l m).num.sign=(slp l m).num.sign:=by
  have:((1:Int):Rat)*slp l m=slp l m:=by
   have e:((1:Int):Rat)=1:=rfl
   rw [e];grind
  rw [this]
 unfold hlf
 rcases hs with rfl|rfl
 ·rw [h5]
  rcases h3 with h3|h3 <;> rw [h3] <;> simp
 ·rw [h4]
  rcases h3 with h3|h3 <;> rw [h3] <;> simp
theorem div_nn (x y:Rat) : -x / -y=x/y:=by
 by_cases h:y=0
 ·rw [h];simp [Rat.div_def]
 ·refine ra_can (n := -y) (by grind) ?_
  rw [Rat.mul_comm,Rat.div_mul_cancel (by grind)]
  have:x/y*y=x:=Rat.div_mul_cancel h
  grind
theorem cut_neg {l m:Li}{v:Spn}:cutL l v m.neg=if(slp l m).num.sign=0 then(if(valL m (baseL l)).num.sign<0 then some v else none)
  else if spBad (meetS v (hlf (-slp l m) (-(valL m (baseL l)/slp l m))))then none else some (meetS v (hlf (-slp l m) (-(valL m (baseL l)/slp l m)))):=by
 have e1:slp l m.neg = - slp l m:=by unfold slp Li.neg;simp only [Rat.intCast_neg];grind
 have e2:valL m.neg (baseL l) / - slp l m=valL m (baseL l)/slp l m:=by rw [neg_val];exact div_nn _ _
 unfold cutL
 rw [e1,e2,neg_val,Rat.neg_num,Rat.neg_num,Int.sign_neg,Int.sign_neg]
 generalize(slp l m).num.sign=a
 generalize(valL m (baseL l)).num.sign=b
 by_cases h:a=0
 ·rw [if_pos (by omega),if_pos h]
  by_cases k:b<0
  ·rw [if_pos (by omega),if_pos k]
  ·rw [if_neg (by omega),if_neg k]
 ·rw [if_neg (by omega),if_neg h]
theorem splitF_eq {f:Fg}{m:Li}(hf:SpG f.2) (hb:spBad f.2=false) (hl:f.1.ok):splitF f m=(((cutL f.1 f.2 m).toList).map fun s=>(f.1,s),((cutL f.1 f.2 m.neg).toList).map fun s=>(f.1,s)):=by
 obtain⟨l,s⟩:=f
 simp only at *
 unfold splitF
 simp only
 rw [cut_neg]
 by_cases hd:detL l m=0
 ·have hk:slp l m=0:=by rw [slp_det]at hd;grind
  have hk0:(slp l m).num.sign=0:=rsign_zero.2 hk
  unfold cutL halfS
  rw [if_pos hd,if_pos hd,if_pos hk0,if_pos hk0]
  have hsd:sideL m (baseL l)=(valL m (baseL l)).num.sign:=rfl
  rw [←hsd]
  have e2:combS 2 [s] [Spn.full]=[s]:=by rw [combS_two hf full_g,meet_full_g hf,hb];rfl
  rcases sideL_tri m (baseL l)with h|h|h
  ·rw [h];simp [e2,combS_none]
  ·rw [h];simp
  ·rw [h];simp [e2,combS_none]
 ·have hk:slp l m≠0:=fun e=>hd (by rw [slp_det,e];rfl)
  have hk0:¬(slp l m).num.sign=0:=fun e=>hk (rsign_zero.1 e)
  rw [half_span hl hd 1 (.inl rfl),half_span hl hd (-1) (.inr rfl)]
  unfold cutL
  rw [if_neg hk0,if_neg hk0]
  have e1:((1:Int):Rat)*slp l m=slp l m:=by
   have e:((1:Int):Rat)=1:=rfl
   rw [e];grind
  have e2:((-1:Int):Rat)*slp l m = - slp l m:=by
   have e:((-1:Int):Rat) = -1:=rfl
   rw [e];grind
  rw [e1,e2]
  simp only [Bool.false_eq_true,if_false]
  rw [combS_two hf (hlf_g _ _),combS_two hf (hlf_g _ _)]
  split <;> split <;> rfl
def bys (l:List UInt8):List SV:=l.map fun b=>lit (.int .u8 (b.toNat:Nat))
def Byt (l:List UInt8) (s:SV) (H:LH):Prop :=
 (l=[]∧s=lit (.slice none 0 0)∧H=[])∨
  l≠[]∧∃b c,l.length≤c∧c≤maxLen∧s=lit (.slice (some ⟨b,0,none⟩) l.length c)∧H=[(b,5,bys l++List.replicate (c-l.length) top)]
theorem Byt.nil:Byt [] (lit (.slice none 0 0)) [] := .inl ⟨rfl,rfl,rfl⟩
theorem Byt.co {l:List UInt8}{s:SV}{H:LH}(h:Byt l s H):CO s [s]:=by
 rcases h with⟨_,rfl,_⟩|⟨_,b,c,_,_,rfl,_⟩ <;> infer_instance
section
variable {P:Program}{C:Ctx}{n:Nat}{F:Fr}{H:LH}{ops:Array Oper}{K:Fr→LH→Prop}{rest:List Oper}{ty:TypeId}{pos:String}{aft:Array Edge}
end
section
variable {F:Fr}{H:LH}{ty:TypeId}
end
section
variable {P:Program}{C:Ctx}{n:Nat}{F:Fr}{H:LH}{ops:Array Oper}{K:Fr→LH→Prop}{rest:List Oper}{ty:TypeId}{pos:String}{aft:Array Edge}
theorem end0:Ends P [] (Ab.tup []) F H:=⟨[],trivial,Le.refl _⟩
end
section
variable {P:Program}{F:Fr}{H:LH}{ty:TypeId}
end
abbrev apx (p:Pq):List SV:=[lit (.bool (decide (p.1.num<0))),nat p.1.num.natAbs,nat p.1.den,lit (.bool (decide (p.2.num<0))),nat p.2.num.natAbs,nat p.2.den]
abbrev aps (l:List Pq):SV:=sl (l.map apx).flatten l.length
structure RwSt where
 k:Nat
 s:SV
 Hs:LH
theorem map_take_snoc {α β:Type}{f:α→List β}{l:List α}{k:Nat}{a:α}(h:l[k]? = some a):((l.take (k+1)).map f).flatten=((l.take k).map f).flatten++f a:=by
 rw [take_snoc h,List.map_append,List.flatten_append];simp
set_option maxHeartbeats 4000000 in
theorem toPs_pu (l:List Pq) (hl:l.length≤100000) (hh:∀p∈l,ht p.1≤100000000∧ht p.2≤100000000):Pu Tryz.prog 134 [rps l] (aps l):=by
 refine Pu.intro Tryz.func134 rfl (by kernel_rfl) fun C=>?_
 repeat(refine A1 ⟨?_⟩;intros)
 refine WP.loopS (ι:=RwSt) (fun y=>y.k≤l.length∧Own 60 6 y.k ((l.take y.k).map apx).flatten y.s y.Hs) (fun y=>l.length-y.k) (fun y=>fm [(3,y.s),(6,rps l),(7,lit (.int .i64 l.length)),(8,lit (.int .i64 y.k))]) (fun y=>y.Hs) ⟨0,lit (.slice none 0 0),[]⟩
  ⟨Nat.zero_le _,Own.nil _ _⟩ lfA (List.nil_sublist _) ?_
 rintro ⟨k,s,Hs⟩ ⟨hk,hown⟩ K hK
 simp only at hk hown⊢
 have hco:=hown.co
 by_cases hkl:k<l.length
 ·have hget:=List.getElem?_eq_getElem hkl
  generalize l[k]=p at hget
  obtain⟨h1,h2⟩:=hh p (List.mem_of_getElem? hget)
  have hat:=flat_at (f:=rpx) (n:=6) rpx_len hget
  have hne:(l.map rpx).flatten≠[]:=flat_ne rpx_len (by omega) (fun e=>by rw [e]at hkl;simp at hkl)
  have c:=toP_pu p.1 p.2 h1 h2
  have hgo:=fun s' Hs' h F' H'=>hK F' H' ⟨k+1,s',Hs'⟩ ⟨by simp only;omega,h⟩ (by simp only;omega)
  simp only [map_take_snoc hget]at hgo
  clear hK hh
  repeat(refine A1 ⟨?_⟩;intros)
  refine Wo (ov_idxS (cs':=rpx p) rfl rfl (by omega) (by omega) hat hne) ?_
  repeat(first|(refine A1 ⟨?_⟩;intros)|refine W4 c ⟨?_⟩)
  refine Wown hown (by omega) (fun s2 H2 hown'=>?_)
  have hco2:=hown'.co
  replace hgo:=hgo s2 H2 hown'
  simp only [List.cons_append,List.nil_append]
  clear hown hown'
  repeat(refine A1 ⟨?_⟩;intros)
  exact hgo _ _ lfA (by repeat(first|exact List.Sublist.refl _|refine List.Sublist.cons _ ?_))
 ·have hke:k=l.length:=by omega
  subst hke
  rw [List.take_length]at hown
  refine WP.rowS 3 hown rfl (by rw [List.append_nil]) ?_
  clear hK hown
  repeat(refine A1 ⟨?_⟩;intros)
  exact endR (end1 (RV.tmp rfl) (Le.refl _))
abbrev raws (ps:List (RQ×RQ)):SV:=sl (ps.map pcells).flatten ps.length
abbrev rvl (p:RQ×RQ):Pq:=(p.1.v,p.2.v)
set_option maxHeartbeats 4000000 in
theorem pts_pu (ps:List (RQ×RQ)){L:Nat}(hl:ps.length≤100000) (hh:∀p∈ps,p.1.ok L∧p.2.ok L) (hL:L≤1000000):Pu Tryz.prog 133 [raws ps] (rps (ps.map rvl)):=by
 refine Pu.intro Tryz.func133 rfl (by kernel_rfl) fun C=>?_
 repeat(refine A1 ⟨?_⟩;intros)
 refine WP.loopS (ι:=RwSt) (fun y=>y.k≤ps.length∧Own 63 6 y.k ((ps.take y.k).map fun p=>rpx (rvl p)).flatten y.s y.Hs) (fun y=>ps.length-y.k) (fun y=>fm [(3,y.s),(6,raws ps),(7,lit (.int .i64 ps.length)),(8,lit (.int .i64 y.k))]) (fun y=>y.Hs) ⟨0,lit (.slice none 0 0),[]⟩
  ⟨Nat.zero_le _,Own.nil _ _⟩ lfA (List.nil_sublist _) ?_
 rintro ⟨k,s,Hs⟩ ⟨hk,hown⟩ K hK
 simp only at hk hown⊢
 have hco:=hown.co
 by_cases hkl:k<ps.length
 ·have hget:=List.getElem?_eq_getElem hkl
  generalize ps[k]=p at hget
  obtain⟨h1,h2⟩:=hh p (List.mem_of_getElem? hget)
  have hat:=flat_at (f:=pcells) (n:=6) pcells_len hget
  have hne:(ps.map pcells).flatten≠[]:=flat_ne pcells_len (by omega) (fun e=>by rw [e]at hkl;simp at hkl)
  have c:=pt_pu h1 h2 hL
  have hgo:=fun s' Hs' h F' H'=>hK F' H' ⟨k+1,s',Hs'⟩ ⟨by simp only;omega,h⟩ (by simp only;omega)
  simp only [map_take_snoc hget]at hgo
  clear hK hh
  repeat(refine A1 ⟨?_⟩;intros)
  refine Wo (ov_idxS (cs':=pcells p) rfl rfl (by omega) (by omega) hat hne) ?_
  repeat(first|(refine A1 ⟨?_⟩;intros)|refine W4 c ⟨?_⟩)
  refine Wown hown (by omega) (fun s2 H2 hown'=>?_)
  have hco2:=hown'.co
  replace hgo:=hgo s2 H2 hown'
  simp only [List.cons_append,List.nil_append]
  clear hown hown'
  repeat(refine A1 ⟨?_⟩;intros)
  exact hgo _ _ lfA (by repeat(first|exact List.Sublist.refl _|refine List.Sublist.cons _ ?_))
 ·have hke:k=ps.length:=by omega
  subst hke
  rw [List.take_length]at hown
  have e:rps (ps.map rvl)=sl ((ps.map fun p=>rpx (rvl p)).flatten) ps.length:=by
   show sl ((ps.map rvl).map rpx).flatten (ps.map rvl).length=_
   rw [List.map_map,List.length_map];rfl
  rw [e]
  refine WP.rowS 3 hown rfl (by rw [List.append_nil]) ?_
  clear hK hown
  repeat(refine A1 ⟨?_⟩;intros)
  exact endR (end1 (RV.tmp rfl) (Le.refl _))
section
variable {P:Program}{C:Ctx}{n:Nat}{F:Fr}{H:LH}{ops:Array Oper}{K:Fr→LH→Prop}{rest:List Oper}{ty:TypeId}{pos:String}{aft:Array Edge}
end
end Go.Ab
