/- Texts laid one behind the other: Spl, Raw, PRes, Sid, TcA, Bld, Wr. -/
import Derived.Test.YtnhepimaijhhaaaGreatDoorB22
import Derived.Test.YtnhepimaijhhaaaGreatDoorB20
import Derived.Test.YtnhepimaijhhaaaGreatDoorB18
import Derived.Test.YtnhepimaijhhaaaGreatDoorB12
import Derived.Test.YtnhepimaijhhaaaGreatDoorB16
import Derived.Lib.AppendStr
import Derived.Lib.UnsafeStr
import Derived.Lib.Builder
import Derived.Laws.Externs
set_option linter.all false
set_option maxHeartbeats 16000000
namespace Go.Ab
open Go.Proofs
variable [Base]
theorem E7 {s:Spn}(h:SpG s):gV [s]:=⟨fun x hx=>by rw [List.mem_singleton.1 hx];exact h,List.pairwise_singleton _ _⟩
theorem ry:gV []:=⟨fun s h=>(by cases h),List.Pairwise.nil⟩
theorem D1 {s:Spn}(h:bX s=false) (h1:s.nl=false) (h2:s.nh=false):s.lo<s.hi:=by
 obtain⟨a,b⟩:=eE h
 have a:=a.resolve_left (by rw [h1];decide)
 have b:=b.resolve_left (by rw [h2];decide)
 grind
theorem pU {v w:Spn}(hv:SpG v) (hw:SpG w) (h:bX (bI v w)=false):SpG (bI v w):=by
 refine⟨fun k=>?_,fun k=>?_,D1 h⟩
 ·have k:(v.nl&&w.nl)=true:=k
  rw [Bool.and_eq_true]at k
  show(if v.nl then w.lo else _)=0
  rw [if_pos k.1];exact hw.lo k.2
 ·have k:(v.nh&&w.nh)=true:=k
  rw [Bool.and_eq_true]at k
  show(if v.nh then w.hi else _)=0
  rw [if_pos k.1];exact hw.hi k.2
theorem su {s:Spn}{t:Rat}:jm [s] t↔InS s t:=⟨fun⟨u,hu,h⟩=>List.mem_singleton.1 hu▸h,fun h=>⟨s,List.mem_singleton.2 rfl,h⟩⟩
theorem uW (x y:Bool):opB 2 x y=(x&&y):=rfl
theorem F9 {a b:List Spn}{t:Rat}(h:t∉cJ (a++b)):t∉cJ a∧t∉cJ b :=
 ⟨fun k=>h (by obtain⟨s,h1,h2⟩:=dr.1 k;exact dr.2 ⟨s,List.mem_append_left _ h1,h2⟩),fun k=>h (by obtain⟨s,h1,h2⟩:=dr.1 k;exact dr.2 ⟨s,List.mem_append_right _ h1,h2⟩)⟩
theorem jN {s h:Spn}(hs:SpG s) (hh:SpG h):gT 2 [s] [h]=if bX (bI s h)then []else [bI s h]:=by
 obtain⟨h1,h2⟩:=sc 2 [s] [h]
 have hm:∀t,t∉cJ ([s]++[h])→(jm (gT 2 [s] [h]) t↔InS (bI s h) t):=fun t ht=>by
  obtain⟨k1,k2⟩:=F9 ht
  rw [h2 t ht,uW,Bool.and_eq_true,qa k1,qa k2,su,su,fM]
 cases hb:bX (bI s h)with
 |true =>
  rw [if_pos rfl]
  refine kV (E:=cJ ([s]++[h])) h1 ry fun t ht=>(hm t ht).trans ⟨fun k=>?_,fun⟨u,hu,_⟩=>(by cases hu)⟩
  rw [gG k]at hb;cases hb
 |false =>
  rw [if_neg (by decide)]
  exact kV (E:=cJ ([s]++[h])) h1 (E7 (pU hs hh hb)) fun t ht=>(hm t ht).trans su.symm
theorem kw {s:Spn}:gT 2 [s] []=[]:=by
 obtain⟨h1,h2⟩:=sc 2 [s] []
 refine kV (E:=cJ ([s]++[])) h1 ry fun t ht=>(h2 t ht).trans ⟨fun k=>?_,fun⟨u,hu,_⟩=>(by cases hu)⟩
 rw [uW,Bool.and_eq_true]at k
 have:=of_decide_eq_true k.2
 cases this
theorem oP:SpG Spn.full:=⟨fun _=>rfl,fun _=>rfl,fun h=>by cases h⟩
theorem EO (k u:Rat):SpG (hlf k u):=by
 unfold hlf
 split
 ·exact⟨fun h=>(by cases h),fun _=>rfl,fun _ h=>(by cases h)⟩
 ·exact⟨fun _=>rfl,fun h=>(by cases h),fun h=>(by cases h)⟩
theorem wR {s:Spn}(h:SpG s):bI s Spn.full=s:=by
 obtain⟨a,b,c,d⟩:=s
 have h1:=h.lo
 have h2:=h.hi
 unfold bI
 cases c <;> cases d <;> simp at h1 h2⊢<;> simp [h1,h2]
theorem tQ {l m:Li}(hl:l.ok) (h:df l m≠0) (side:Int) (hs:side=1∨side = -1):eR l m side=([hlf (side*slp l m) (-(a7 m (aB l)/slp l m))],false):=by
 have hk:slp l m≠0:=fun e=>h (by rw [lz,e];rfl)
 have hu:ce l (bq l m) = -(a7 m (aB l)/slp l m):=by
  have h1:=s8 hk (ce l (bq l m))
  have h2:=mS hl h (ce l (bq l m))
  have:(ce l (bq l m) - -(a7 m (aB l)/slp l m))*slp l m=0:=by rw [←h1,h2];grind
  rcases Rat.mul_eq_zero.1 this with e|e
  ·grind
  ·exact absurd e hk
 unfold eR
 rw [if_neg h]
 have hv:a7 m (atL l (ce l (bq l m)+1))=slp l m:=by rw [mS hl h];grind
 have hsd:cX m (atL l (ce l (bq l m)+1))=(slp l m).num.sign:=by unfold cX;rw [hv]
 rw [hsd,hu]
 have h3:(slp l m).num.sign=1∨(slp l m).num.sign = -1:=by
  have:=Int.sign_trichotomy (slp l m).num
  have:(slp l m).num.sign≠0:=fun e=>hk (bA.1 e)
  omega
 have h4:(((-1:Int):Rat)*slp l m).num.sign = - (slp l m).num.sign:=by
  have:((-1:Int):Rat)*slp l m = - slp l m:=by
   have e:((-1:Int):Rat) = -1:=rfl
   rw [e];grind
  rw [this,Rat.neg_num,Int.sign_neg]
 have h5:(((1:Int):Rat)*slp l m).num.sign=(slp l m).num.sign:=by
  have:((1:Int):Rat)*slp l m=slp l m:=by
   have e:((1:Int):Rat)=1:=rfl
   rw [e];grind
  rw [this]
 unfold hlf
 rcases hs with rfl|rfl
 ·rw [h5]
  rcases h3 with h3|h3 <;> rw [h3] <;> simp
 ·rw [h4]
  rcases h3 with h3|h3 <;> rw [h3] <;> simp
theorem JH (x y:Rat) : -x / -y=x/y:=by
 by_cases h:y=0
 ·rw [h];simp [Rat.div_def]
 ·refine jX (n := -y) (by grind) ?_
  rw [Rat.mul_comm,Rat.div_mul_cancel (by grind)]
  have:x/y*y=x:=Rat.div_mul_cancel h
  grind
theorem AL {l m:Li}{v:Spn}:dO l v m.neg=if(slp l m).num.sign=0 then(if(a7 m (aB l)).num.sign<0 then some v else none)
  else if bX (bI v (hlf (-slp l m) (-(a7 m (aB l)/slp l m))))then none else some (bI v (hlf (-slp l m) (-(a7 m (aB l)/slp l m)))):=by
 have e1:slp l m.neg = - slp l m:=by unfold slp Li.neg;simp only [Rat.intCast_neg];grind
 have e2:a7 m.neg (aB l) / - slp l m=a7 m (aB l)/slp l m:=by rw [fg];exact JH _ _
 unfold dO
 rw [e1,e2,fg,Rat.neg_num,Rat.neg_num,Int.sign_neg,Int.sign_neg]
 generalize(slp l m).num.sign=a
 generalize(a7 m (aB l)).num.sign=b
 by_cases h:a=0
 ·rw [if_pos om,if_pos h]
  by_cases k:b<0
  ·rw [if_pos om,if_pos k]
  ·rw [if_neg om,if_neg k]
 ·rw [if_neg om,if_neg h]
theorem ic {f:Fg}{m:Li}(hf:SpG f.2) (hb:bX f.2=false) (hl:f.1.ok):bd f m=(((dO f.1 f.2 m).toList).map fun s=>(f.1,s),((dO f.1 f.2 m.neg).toList).map fun s=>(f.1,s)):=by
 obtain⟨l,s⟩:=f
 simp only at *
 unfold bd
 simp only
 rw [AL]
 by_cases hd:df l m=0
 ·have hk:slp l m=0:=by rw [lz]at hd;grind
  have hk0:(slp l m).num.sign=0:=bA.2 hk
  unfold dO eR
  rw [if_pos hd,if_pos hd,if_pos hk0,if_pos hk0]
  have hsd:cX m (aB l)=(a7 m (aB l)).num.sign:=rfl
  rw [←hsd]
  have e2:gT 2 [s] [Spn.full]=[s]:=by rw [jN hf oP,wR hf,hb];rfl
  rcases sU m (aB l)with h|h|h
  ·rw [h];simp [e2,kw]
  ·rw [h];simp
  ·rw [h];simp [e2,kw]
 ·have hk:slp l m≠0:=fun e=>hd (by rw [lz,e];rfl)
  have hk0:¬(slp l m).num.sign=0:=fun e=>hk (bA.1 e)
  rw [tQ hl hd 1 (.inl rfl),tQ hl hd (-1) (.inr rfl)]
  unfold dO
  rw [if_neg hk0,if_neg hk0]
  have e1:((1:Int):Rat)*slp l m=slp l m:=by
   have e:((1:Int):Rat)=1:=rfl
   rw [e];grind
  have e2:((-1:Int):Rat)*slp l m = - slp l m:=by
   have e:((-1:Int):Rat) = -1:=rfl
   rw [e];grind
  rw [e1,e2]
  simp only [Bool.false_eq_true,if_false]
  rw [jN hf (EO _ _),jN hf (EO _ _)]
  split <;> split <;> rfl
def jq:Tr→Nat
 | .leaf _=>0
 | .node _ a b=>1+jq a+jq b
def bo:Tr→Nat
 | .leaf _=>0
 | .node _ a b=>1+max (bo a) (bo b)
def Crs (f:Fg) (m:Li):Prop:=∃t,InS f.2 t∧a7 m (atL f.1 t)=0∧slp f.1 m≠0
open Classical in
noncomputable def sd (L:List Li) (f:Fg):Nat:=L.countP fun m=>decide (Crs f m)
noncomputable def fE (L:List Li) (l:List Fg):Nat:=(l.map fun f=>1+sd L f).sum
theorem ws (L:List Li) (a b:List Fg):fE L (a++b)=fE L a+fE L b:=by unfold fE;rw [List.map_append,List.sum_append]
theorem oD (L:List Li) (f:Fg) (l:List Fg):fE L (f::l)=1+sd L f+fE L l:=by unfold fE;rw [List.map_cons,List.sum_cons]
open Classical in
theorem xx {L:List Li}{f g:Fg}(h:∀m∈L,Crs g m→Crs f m):sd L g≤sd L f:=by
 unfold sd
 induction L with
 |nil=>simp
 |cons a L ih =>
  have ih:=ih fun m hm=>h m (Mc hm)
  rw [List.countP_cons,List.countP_cons]
  by_cases k:Crs g a
  ·rw [if_pos (decide_eq_true k),if_pos (decide_eq_true (h a List.mem_cons_self k))];omega
  ·rw [if_neg (by simpa using k)];omega
open Classical in
theorem If {L:List Li}{f g k:Fg}(h1:∀m∈L,Crs g m→Crs f m) (h2:∀m∈L,Crs k m→Crs f m) (h3:∀m∈L,Crs g m→Crs k m→False){x:Li}(hx:x∈L) (x1:Crs f x) (x2:¬Crs g x) (x3:¬Crs k x) :
  sd L g+sd L k+1≤sd L f:=by
 unfold sd
 induction L with
 |nil=>cases hx
 |cons a L ih =>
  have g1:∀m∈L,Crs g m→Crs f m:=fun m hm=>h1 m (Mc hm)
  have g2:∀m∈L,Crs k m→Crs f m:=fun m hm=>h2 m (Mc hm)
  have g3:∀m∈L,Crs g m→Crs k m→False:=fun m hm=>h3 m (Mc hm)
  rw [List.countP_cons,List.countP_cons,List.countP_cons]
  have base:L.countP (fun m=>decide (Crs g m))+L.countP (fun m=>decide (Crs k m))≤L.countP (fun m=>decide (Crs f m)):=by
   clear ih hx
   induction L with
   |nil=>simp
   |cons b L ih' =>
    have ih':=ih' (fun m hm=>by rcases List.mem_cons.1 hm with e|e;exact h1 m (e▸Ms);exact h1 m (Mc (Mc e)))
     (fun m hm=>by rcases List.mem_cons.1 hm with e|e;exact h2 m (e▸Ms);exact h2 m (Mc (Mc e)))
     (fun m hm=>by rcases List.mem_cons.1 hm with e|e;exact h3 m (e▸Ms);exact h3 m (Mc (Mc e)))
     (fun m hm=>g1 m (Mc hm)) (fun m hm=>g2 m (Mc hm)) (fun m hm=>g3 m (Mc hm))
    rw [List.countP_cons,List.countP_cons,List.countP_cons]
    have b1:=g1 b Ms
    have b2:=g2 b Ms
    have b3:=g3 b Ms
    by_cases p:Crs g b <;> by_cases q:Crs k b <;> by_cases r:Crs f b <;> simp only [p,q,r,decide_true,decide_false,if_true,Bool.false_eq_true,if_false] <;> first|omega|exact absurd (b1 p) r|exact absurd (b2 q) r|exact(b3 p q).elim
  have a1:=h1 a Ms
  have a2:=h2 a Ms
  have a3:=h3 a Ms
  rcases List.mem_cons.1 hx with e|e
  ·subst e
   simp only [x1,x2,x3,decide_true,decide_false,if_true,Bool.false_eq_true,if_false]
   omega
  ·have ih:=ih g1 g2 g3 e
   by_cases p:Crs g a <;> by_cases q:Crs k a <;> by_cases r:Crs f a <;> simp only [p,q,r,decide_true,decide_false,if_true,Bool.false_eq_true,if_false] <;> first|omega|exact absurd (a1 p) r|exact absurd (a2 q) r|exact(a3 p q).elim
structure FgG (L:List Li) (f:Fg):Prop where
 ok:f.1.ok
 mem:f.1∈L
 g:SpG f.2
 b:bX f.2=false
theorem FgG.some {L:List Li}{f:Fg}(h:FgG L f):∃t,InS f.2 t:=⟨_,eE h.b⟩
theorem Fp {l m:Li}{v w:Spn}(hv:SpG v) (hb:bX v=false) (h:dO l v m=some w):SpG w∧bX w=false:=by
 obtain⟨t,ht⟩:=jM ⟨_,eE hb⟩ h
 refine⟨?_,gG ht⟩
 unfold dO at h
 split at h
 ·split at h
  ·cases h;exact hv
  ·cases h
 ·split at h
  ·cases h
  ·rename_i h2
   cases h
   exact pU hv (EO _ _) (by simpa using h2)
theorem qj {f:Fg}{m:Li}{w:Spn}(h:dO f.1 f.2 m=some w){x:Li}(k:Crs (f.1,w) x):Crs f x:=by
 obtain⟨t,h1,h2,h3⟩:=k
 exact⟨t,((dN h t).1 h1).1,h2,h3⟩
theorem InS.mid {s:Spn}{t u:Rat}(ht:InS s t) (hu:InS s u){v:Rat}(h1:t≤v) (h2:v≤u):InS s v:=by
 obtain⟨a,_⟩:=ht
 obtain⟨_,b⟩:=hu
 exact⟨a.imp id (fun k=>by grind),b.imp id (fun k=>by grind)⟩
theorem Fo {f:Fg}{m:Li}{w w':Spn}(hw:∃t,InS f.2 t) (h:dO f.1 f.2 m=some w) (h':dO f.1 f.2 m.neg=some w') :
  Crs f m∧¬Crs (f.1,w) m∧¬Crs (f.1,w') m∧∀x,Crs (f.1,w) x→Crs (f.1,w') x→False:=by
 obtain⟨t,ht⟩:=jM hw h
 obtain⟨u,hu⟩:=jM hw h'
 obtain⟨t1,t2⟩:=(dN h t).1 ht
 obtain⟨u1,u2⟩:=(dN h' u).1 hu
 rw [fg]at u2
 have hk:slp f.1 m≠0:=fun e=>by
  rw [br,e]at t2 u2
  grind
 refine⟨?_,?_,?_,?_⟩
 ·have e:∀v,a7 m (atL f.1 v)=(v - -(a7 m (aB f.1)/slp f.1 m))*slp f.1 m:=s8 hk
  have e0:=e (-(a7 m (aB f.1)/slp f.1 m))
  rw [e]at t2 u2
  generalize -(a7 m (aB f.1)/slp f.1 m)=z at *
  refine⟨z,?_,by rw [e0];grind,hk⟩
  by_cases hp:0<slp f.1 m
  ·have a:=(fB hp).1 t2
   have b:=(fB (x:=z-u) hp).1 (by grind)
   exact InS.mid u1 t1 (by grind) (by grind)
  ·have hn:0 < - slp f.1 m:=by grind
   have a:=(fB (x:=z-t) hn).1 (by grind)
   have b:=(fB (x:=u-z) hn).1 (by grind)
   exact InS.mid t1 u1 (by grind) (by grind)
 ·rintro ⟨v,v1,v2,_⟩
  have:=((dN h v).1 v1).2
  simp only at v2
  rw [v2]at this;exact absurd this (by decide)
 ·rintro ⟨v,v1,v2,_⟩
  have:=((dN h' v).1 v1).2
  simp only at v2
  rw [fg,v2]at this;exact absurd this (by decide)
 ·rintro x ⟨v,v1,v2,v3⟩ ⟨v',w1,w2,w3⟩
  simp only at v2 v3 w2
  have hvv:v=v':=by
   rw [br]at v2 w2
   have:(v-v')*slp f.1 x=0:=by grind
   rcases Rat.mul_eq_zero.1 this with e|e
   ·grind
   ·exact absurd e v3
  subst hvv
  have a:=((dN h v).1 v1).2
  have b:=((dN h' v).1 w1).2
  rw [fg]at b
  grind
theorem mW {L:List Li}{f:Fg}{m:Li}(hf:FgG L f):(∀g∈(bd f m).1,FgG L g∧g.1=f.1)∧∀g∈(bd f m).2,FgG L g∧g.1=f.1:=by
 rw [ic hf.g hf.b hf.ok]
 have key:∀x:Li,∀g∈((dO f.1 f.2 x).toList).map (fun s=>(f.1,s)),FgG L g∧g.1=f.1:=fun x g hg=>by
  obtain⟨w,hw,rfl⟩:=List.mem_map.1 hg
  rw [Option.mem_toList]at hw
  obtain⟨a,b⟩:=Fp hf.g hf.b hw
  exact⟨⟨hf.ok,hf.mem,a,b⟩,rfl⟩
 exact⟨key m,key m.neg⟩
theorem ou {L:List Li}{f:Fg}{m:Li}(hf:FgG L f):(bd f m).1.length≤1∧(bd f m).2.length≤1:=by
 rw [ic hf.g hf.b hf.ok]
 simp only [List.length_map]
 constructor
 ·cases dO f.1 f.2 m <;> simp
 ·cases dO f.1 f.2 m.neg <;> simp
theorem Ba {L:List Li}{f:Fg}{m:Li}(hf:FgG L f) (hm:m∈L):fE L (bd f m).1+fE L (bd f m).2≤1+sd L f:=by
 rw [ic hf.g hf.b hf.ok]
 cases h:dO f.1 f.2 m with
 |none =>
  cases h':dO f.1 f.2 m.neg with
  |none=>simp [fE]
  |some w' =>
   have:=xx (L:=L) (f:=f) (g:=(f.1,w')) fun x _ k=>qj h' k
   simp [fE];omega
 |some w =>
  have h1:=xx (L:=L) (f:=f) (g:=(f.1,w)) fun x _ k=>qj h k
  cases h':dO f.1 f.2 m.neg with
  |none=>simp [fE];omega
  |some w' =>
   obtain⟨a,b,c,d⟩:=Fo hf.some h h'
   have:=If (L:=L) (f:=f) (g:=(f.1,w)) (k:=(f.1,w')) (fun x _ k=>qj h k) (fun x _ k=>qj h' k) (fun x _=>d x) hm a b c
   simp [fE];omega
theorem xT {L:List Li}{f:Fg}(hf:FgG L f):bd f f.1=([],[]):=by
 have hk:slp f.1 f.1=0:=by unfold slp;grind
 have hb:a7 f.1 (aB f.1)=0:=by have:=j6 hf.ok 0;rw [br,hk]at this;grind
 rw [ic hf.g hf.b hf.ok,AL]
 unfold dO
 rw [hk,hb]
 simp
theorem CZ {L:List Li}{l:List Fg}{m:Li}(hl:∀f∈l,FgG L f):(∀g∈(aN l m).1,FgG L g)∧∀g∈(aN l m).2,FgG L g:=by
 unfold aN
 constructor
 ·intro g hg
  obtain⟨x,hx,hgx⟩:=List.mem_flatten.1 hg
  obtain⟨f,hf,rfl⟩:=List.mem_map.1 hx
  exact((mW (hl f hf)).1 g hgx).1
 ·intro g hg
  obtain⟨x,hx,hgx⟩:=List.mem_flatten.1 hg
  obtain⟨f,hf,rfl⟩:=List.mem_map.1 hx
  exact((mW (hl f hf)).2 g hgx).1
theorem qy {L:List Li}{m:Li}(hm:m∈L):∀{l:List Fg},(∀f∈l,FgG L f)→fE L (aN l m).1+fE L (aN l m).2≤fE L l
 | [],_=>by simp [aN,fE]
 |f::l,hl=>by
  have ih:=qy hm (l:=l) fun x hx=>hl x (Mc hx)
  have h1:=Ba (hl f Ms) hm
  unfold aN at *
  simp only [List.map_cons,List.flatten_cons]at *
  rw [ws,ws,oD]
  omega
theorem p7 {L:List Li}{f:Fg}{l:List Fg}(hl:∀g∈f::l,FgG L g):fE L (aN (f::l) f.1).1+fE L (aN (f::l) f.1).2+1≤fE L (f::l):=by
 have hf:=hl f Ms
 have ih:=qy hf.mem (l:=l) fun x hx=>hl x (Mc hx)
 unfold aN at *
 simp only [List.map_cons,List.flatten_cons,xT hf,List.nil_append]at *
 rw [oD]
 omega
def Tr.lin (L:List Li):Tr→Prop
 | .leaf _=>True
 | .node l a b=>l∈L∧a.lin L∧b.lin L
theorem jw {L:List Li}(inn:Pq→Bool):∀(n:Nat) (l:List Fg) (c:List Li),(∀f∈l,FgG L f)→fE L l<n→jq (jx inn n l c)≤fE L l∧bo (jx inn n l c)≤fE L l∧(jx inn n l c).lin L
 |0,_,_,_,h=>by omega
 |n+1,[],c,_,_=>⟨Nat.zero_le _,Nat.zero_le _,trivial⟩
 |n+1,f::l,c,hl,h=>by
  have hs:=p7 hl
  obtain⟨g1,g2⟩:=CZ (m:=f.1) hl
  obtain⟨a1,a2,a3⟩:=jw inn n (aN (f::l) f.1).1 (c++[f.1]) g1 om
  obtain⟨b1,b2,b3⟩:=jw inn n (aN (f::l) f.1).2 (c++[f.1.neg]) g2 om
  unfold jx
  refine⟨?_,?_,(hl f Ms).mem,a3,b3⟩
  ·simp only [jq];omega
  ·simp only [bo];omega
theorem Ig (L:List Li) (f:Fg):sd L f≤L.length:=List.countP_le_length
theorem pM (L:List Li):∀l:List Fg,fE L l≤l.length*(1+L.length)
 | []=>by simp [fE]
 |f::l=>by
  have:=pM L l
  have:=Ig L f
  rw [oD,List.length_cons,Nat.add_mul]
  omega
end Go.Ab
namespace Go.Ab
open Go.Proofs
variable [Base]
theorem KT {P:Program}{F:Fr}{H:LH}{r1 r2 r3 r4:ResultVar}{s1 s2 s3 s4 res:SV}(h1:RV P F H r1 s1) (h2:RV P F H r2 s2) (h3:RV P F H r3 s3) (h4:RV P F H r4 s4) (hl:Le (tup [s1,s2,s3,s4]) res):kC P [r1,r2,r3,r4] res F H:=⟨[s1,s2,s3,s4],⟨h1,h2,h3,h4,trivial⟩,hl⟩
def o9 (L:Nat) (s:Fg):Prop:=s.1.le L∧s.2.le (50*L)
theorem tv {l:Li}{L:Nat}(hl:l.le L) (h1:1≤L):∀{c:PC}{v w:Spn},(∀s∈c,s.1.le L)→v.le (50*L)→gb l v c=some w→w.le (50*L)
 | [],v,w,_,hv,h=>by cases h;exact hv
 |s::c,v,w,hc,hv,h=>by
  rw [pc]at h
  split at h
  ·exact tv hl h1 (fun x hx=>hc x (Mc hx)) (vC hl (hc s Ms) h1 hv) h
  ·cases h
theorem jP {pos:PC→Nat}{c:PC}{l:Li}{L:Nat}(hc:∀s∈c,o9 L s) (hl:l.le L) (h1:1≤L):∀s∈(aK pos c l).1,o9 L s:=fun s hs=>by
 unfold aK at hs
 cases hp:gR c l with
 |none=>rw [hp]at hs;exact hc s hs
 |some v =>
  rw [hp]at hs
  simp only at hs
  rw [(nH (cR c l) (l,v) _).mem_iff,List.mem_cons]at hs
  rcases hs with e|e
  ·rw [e];exact⟨hl,tv hl h1 (fun x hx=>(hc x hx).1) (Aw om) hp⟩
  ·obtain⟨s0,h2,h3,h4⟩:=jF.1 e
   obtain⟨k1,k2⟩:=hc s0 h2
   have hv:=vC k1 hl h1 k2
   rw [zf]at h4
   split at h4
   ·have e:=Option.some.inj h4
    rw [o9,←h3,←e];exact⟨k1,hv⟩
   ·cases h4
theorem ik (pos:PC→Nat) (c:PC) (l:Li):(aK pos c l).1.length≤c.length+1:=by
 unfold aK
 cases hp:gR c l with
 |none=>exact Nat.le_succ _
 |some v =>
  have:=rH c l
  simp only [List.length_append,List.length_cons,List.length_take,List.length_drop]
  omega
theorem ud {c:PC}{l:Li}{L:Nat}(hc:∀s∈c,o9 L s) (hl:l.le L) (h1:1≤L) (hU:L≤500) (hn:c.length≤100000) :
  Pu Tryz.prog 143 [pcs c,lfl l] (Ab.tup [pcs (aK (aF l) c l).1,pcs (aK (aF l.neg) c l.neg).1,lit (.bool (aK (aF l) c l).2),lit (.bool (aK (aF l.neg) c l.neg).2)]):=by
 have c1:=AR hc hl h1 hU hn
 have hln:l.neg.le L:=⟨by show il (-l.a)≤L;rw [cG];exact hl.a,by show il (-l.b)≤L;rw [cG];exact hl.b,by show il (-l.c)≤L;rw [cG];exact hl.c⟩
 have c2:=AR hc hln h1 hU hn
 have c3:=Ae l (hl.gr om)
 clear hc hl hln
 refine Pi Tryz.func143 fun C=>?_
 repeat(first|(refine A1 ⟨?_⟩;intros)|refine W4 c1 ⟨?_⟩|refine W4 c2 ⟨?_⟩|refine W4 c3 ⟨?_⟩)
 exact aQ (KT (RV.tmp rfl) (RV.tmp rfl) (RV.tmp rfl) (RV.tmp rfl) Lr)
theorem FH (l:Li) (a b:Tr):Pu Tryz.prog 144 [lfl l,bt a,bt b] (bt (eQ l a b)):=by
 have c1:=qm l a b
 cases a with
 |leaf i =>
  have d1:=dq i
  cases b with
  |leaf j =>
   have d2:=dq j
   show Pu _ _ _ (bt (if i=j then .leaf i else .node l (.leaf i) (.leaf j)))
   cases i <;> cases j
   all_goals
    first|rw [if_pos rfl]|rw [if_neg (by decide)]
    simp only [bt,fo]at *
    refine Pi Tryz.func144 fun C=>?_
    exact Y3 d1 d2 c1
  |node m x y =>
   have d2:=dR m x y
   show Pu _ _ _ (bt (.node l (.leaf i) (.node m x y)))
   refine Pi Tryz.func144 fun C=>?_
   exact Y3 d1 d2 c1
 |node m x y =>
  have d1:=dR m x y
  show Pu _ _ _ (bt (.node l (.node m x y) b))
  refine Pi Tryz.func144 fun C=>?_
  exact Y2 d1 c1
theorem kP {L:Nat}(h1:1≤L) (hU:L≤500):∀(t:Tr) (c:PC),(t.all fun l=>l.le L)→(∀s∈c,o9 L s)→c.length+bo t≤100000→Pu Tryz.prog 99 [bt t,pcs c] (bt (eS aF t c))
 | .leaf i,c,_,_,_=>by
  have d1:=dq i
  show Pu _ _ _ (bt (.leaf i))
  refine Pi Tryz.func99 fun C=>?_
  exact Y1 d1
 | .node l a b,c,hall,hc,hd=>by
  have hd':c.length+(1+max (bo a) (bo b))≤100000:=hd
  have d1:=dR l a b
  have d2:=ud hc hall.1 h1 hU om
  have hln:l.neg.le L:=⟨by show il (-l.a)≤L;rw [cG];exact hall.1.a,by show il (-l.b)≤L;rw [cG];exact hall.1.b,by show il (-l.c)≤L;rw [cG];exact hall.1.c⟩
  have d3:=kP h1 hU a c hall.2.1 hc om
  have d4:=kP h1 hU b c hall.2.2 hc om
  have n1:=ik (aF l) c l
  have n2:=ik (aF l.neg) c l.neg
  have d5:=kP h1 hU a (aK (aF l) c l).1 hall.2.1 (jP hc hall.1 h1) om
  have d6:=kP h1 hU b (aK (aF l.neg) c l.neg).1 hall.2.2 (jP hc hln h1) om
  have d7:=FH l (eS aF a (aK (aF l) c l).1) (eS aF b (aK (aF l.neg) c l.neg).1)
  unfold eS
  clear hd hd' n1 n2 hc hall hln
  generalize eS aF a c=ra at *
  generalize eS aF b c=rb at *
  generalize eS aF a (aK (aF l) c l).1=ra' at *
  generalize eS aF b (aK (aF l.neg) c l.neg).1=rb' at *
  generalize eQ l ra' rb'=rj at *
  generalize(aK (aF l) c l).1=c1 at *
  generalize(aK (aF l.neg) c l.neg).1=c2 at *
  have en:bt (.node l a b)=pt (bc (.node l a b)):=rfl
  generalize hb1:(aK (aF l) c l).2=b1 at *
  generalize hb2:(aK (aF l.neg) c l.neg).2=b2 at *
  clear hb1 hb2
  simp only [bt,j5]at d1 d2⊢
  cases b2
  ·rw [if_pos rfl]
   refine Pi Tryz.func99 fun C=>?_
   exact Y3 d1 d2 d3
  ·rw [if_neg (by decide)]
   cases b1
   ·rw [if_pos rfl]
    refine Pi Tryz.func99 fun C=>?_
    exact Y3 d1 d2 d4
   ·rw [if_neg (by decide)]
    refine Pi Tryz.func99 fun C=>?_
    repeat(first|(refine A1 ⟨?_⟩;intros)|refine W4 d1 ⟨?_⟩|refine W4 d2 ⟨?_⟩|refine W4 d5 ⟨?_⟩|refine W4 d6 ⟨?_⟩|refine W4 d7 ⟨?_⟩)
    exact E1
theorem zC {C D:List Li}(hC:∀l∈C,l.ok) (hD:∀l∈D,l.ok) (hq:∃q,Inn C q) (he:∀q,Inn C q↔Inn D q){m:Li}(hm:m∈C) (hE:Edg C m):m∈D:=by
 have hmo:=hC m hm
 obtain⟨r,hr,hv⟩:=hE
 obtain⟨t,rfl⟩:∃t,r=atL m t:=⟨ce m r,(oZ hmo hr).symm⟩
 have hnear:∀u,(∀j∈C,j≠m→0<a7 j (atL m u))→∃k:Rat,0<k∧∀e,0<e→e≤k→Inn D ((atL m u).1+e*m.a,(atL m u).2+e*m.b):=fun u hu=>by
  obtain⟨k,hk,hs⟩:=fF (fun i=>a7 i (atL m u)) (fun i=>(i.a:Rat)*m.a+i.b*m.b) (C.filter fun i=>decide (i≠m)) (fun i hi=>by
   rw [List.mem_filter,decide_eq_true_eq]at hi;exact hu i hi.1 hi.2)
  refine⟨k,hk,fun e he0 hle=>(he _).1 fun i hi=>?_⟩
  rw [bP]
  by_cases him:i=m
  ·rw [him,j6 hmo,Rat.zero_add];exact Rat.mul_pos he0 (dB hmo)
  ·exact hs i (List.mem_filter.2 ⟨hi,decide_eq_true him⟩) e he0 hle
 have hge:∀u,(∀j∈C,j≠m→0<a7 j (atL m u))→∀j∈D,0≤a7 j (atL m u):=fun u hu j hj=>by
  obtain⟨k,hk,hs⟩:=hnear u hu
  refine Rat.not_lt.1 fun hn=>?_
  obtain⟨e,he0,hse⟩:=fF (fun _:Unit => - a7 j (atL m u)) (fun _ => -((j.a:Rat)*m.a+j.b*m.b)) [()] (fun _ _=>by grind)
  have h2:∃e',0<e'∧e'≤e∧e'≤k:=by
   rcases Rat.le_total (a:=e) (b:=k)with h|h
   ·exact⟨e,he0,Rat.le_refl,h⟩
   ·exact⟨k,hk,h,Rat.le_refl⟩
  obtain⟨e',p1,p2,p3⟩:=h2
  have h3:=hs e' p1 p3 j hj
  have h4:=hse () List.mem_cons_self e' p1 p2
  rw [bP]at h3
  grind
 obtain⟨j,hj,hz⟩:∃j∈D,a7 j (atL m t)=0:=by
  refine Classical.byContradiction fun hno=>?_
  have:Inn D (atL m t):=fun j hj=>by
   have h0:=hge t hv j hj
   by_cases h:a7 j (atL m t)=0
   ·exact absurd ⟨j,hj,h⟩ hno
   ·grind
  have:=(he _).2 this m hm
  rw [j6 hmo]at this;exact absurd this (by decide)
 obtain⟨e,he0,hs⟩:=fF (fun i:Li×Bool=>a7 i.1 (atL m t)) (fun i=>if i.2 then slp m i.1 else-slp m i.1)
  (((C.filter fun i=>decide (i≠m)).map fun i=>(i,true))++((C.filter fun i=>decide (i≠m)).map fun i=>(i,false))) (fun i hi=>by
   rcases List.mem_append.1 hi with hi|hi <;> (obtain⟨i',hi',rfl⟩:=List.mem_map.1 hi;rw [List.mem_filter,decide_eq_true_eq]at hi';exact hv i' hi'.1 hi'.2))
 have g1:=hge (t+e) (fun i hi him=>by
  have:=hs (i,true) (List.mem_append_left _ (List.mem_map.2 ⟨i,List.mem_filter.2 ⟨hi,decide_eq_true him⟩,rfl⟩)) e he0 Rat.le_refl
  simp only [if_true]at this
  rw [br]at this⊢
  grind) j hj
 have g2:=hge (t-e) (fun i hi him=>by
  have:=hs (i,false) (List.mem_append_right _ (List.mem_map.2 ⟨i,List.mem_filter.2 ⟨hi,decide_eq_true him⟩,rfl⟩)) e he0 Rat.le_refl
  simp only [Bool.false_eq_true,if_false]at this
  rw [br]at this⊢
  grind) j hj
 have v1:a7 j (atL m (t+e))=e*slp m j:=by rw [br]at hz⊢;grind
 have v2:a7 j (atL m (t-e)) = -(e*slp m j):=by rw [br]at hz⊢;grind
 rw [v1]at g1
 rw [v2]at g2
 have hz2:a7 j (atL m (t+e))=0:=by rw [v1];grind
 rcases qK hmo (hD j hj) (show t≠t+e by grind) hz hz2 with k|k
 ·rw [←k];exact hj
 ·exfalso
  obtain⟨q,hq⟩:=hq
  have p1:=(he q).1 hq j hj
  have p2:=hq m hm
  rw [k,fg]at p1;grind
theorem da.edg {c:PC}(h:da c){m:Li}(hm:m∈a8 c):Edg (a8 c) m:=by
 obtain⟨s,hs,rfl⟩:=List.mem_map.1 hm
 obtain⟨h1,t,ht⟩:=h.span s hs
 exact⟨atL s.1 t,j6 (h.ok s hs) t,(h1 t).1 ht⟩
theorem xV {c:PC}(h:da c){C:List Li}(hC:∀l∈C,l.ok) (hE:∀l∈C,Edg C l) (he:∀q,Inn (a8 c) q↔Inn C q) (m:Li):m∈a8 c↔m∈C :=
 ⟨fun hm=>zC h.lok hC h.inn he hm (h.edg hm),fun hm=>zC hC h.lok (h.inn.imp fun q hq=>(he q).1 hq) (fun q=>(he q).symm) hm (hE m hm)⟩
theorem Edg.mono {C D:List Li}{m:Li}(h:∀j∈D,j∈C) (hE:Edg C m):Edg D m:=by
 obtain⟨r,h1,h2⟩:=hE
 exact⟨r,h1,fun j hj=>h2 j (h j hj)⟩
theorem zk {c:List Li}(hc:∀l∈c,l.ok){l:Li}(h:l∈aZ c):Edg (aZ c) l :=
 ((fx hc).1 h).2.mono fun j hj=>((fx hc).1 hj).1
def pB (s:Spn):Spn:=⟨if s.nh then 0 else -s.hi,if s.nl then 0 else -s.lo,s.nh,s.nl⟩
theorem A8 (s:Spn) (t:Rat):InS (pB s) t↔InS s (-t):=by
 obtain⟨a,b,c,d⟩:=s
 unfold InS pB
 cases c <;> cases d <;> simp <;> grind
def sE (s u:Fg):Option Spn :=
 if u.1=s.1 then(if bX (bI s.2 u.2)then none else some (bI s.2 u.2))
 else if u.1=s.1.neg then(if bX (bI s.2 (pB u.2))then none else some (bI s.2 (pB u.2)))
 else none
def ej (c d:PC):Bool:=c.any fun s=>d.any fun u=>(sE s u).isSome
def Shr (a b:List Li):Prop:=∃l∈a,l.neg∈b∧∃t,∀m,m∈a∨m∈b→m≠l→m≠l.neg→0<a7 m (atL l t)
theorem Ec (l:Li):aB l.neg=aB l:=by
 have e:l.neg.bf = - l.bf:=by
  unfold Li.bf Li.neg
  simp only [Rat.intCast_neg]
  rw [show(-(l.b:Rat)) * -l.b + - -(l.a:Rat) * - -l.a=(l.b:Rat)*l.b + -(l.a:Rat) * -l.a by grind,Rat.div_def,Rat.div_def]
  grind
 unfold aB
 rw [e]
 unfold Li.neg
 simp only [Rat.intCast_neg]
 refine Prod.ext ?_ ?_ <;> simp only <;> grind
theorem yB (l:Li) (t:Rat):atL l.neg (-t)=atL l t:=by
 unfold atL
 rw [Ec]
 unfold cT aI Li.neg
 simp only [Rat.intCast_neg]
 refine Prod.ext ?_ ?_ <;> simp only <;> grind
theorem Au {s:Spn}:bX s=false↔∃t,InS s t:=⟨fun h=>⟨_,eE h⟩,fun⟨_,h⟩=>gG h⟩
theorem ww (s u:Fg):(sE s u).isSome=true↔(u.1=s.1∧∃t,InS s.2 t∧InS u.2 t)∨(u.1=s.1.neg∧u.1≠s.1∧∃t,InS s.2 t∧InS u.2 (-t)):=by
 unfold sE
 by_cases h1:u.1=s.1
 ·rw [if_pos h1]
  have e:(∃t,InS s.2 t∧InS u.2 t)↔bX (bI s.2 u.2)=false:=by
   rw [Au]
   exact⟨fun⟨t,h⟩=>⟨t,(fM _ _ t).2 h⟩,fun⟨t,h⟩=>⟨t,(fM _ _ t).1 h⟩⟩
  rw [e]
  cases bX (bI s.2 u.2) <;> simp [h1]
 ·rw [if_neg h1]
  by_cases h2:u.1=s.1.neg
  ·rw [if_pos h2]
   have e:(∃t,InS s.2 t∧InS u.2 (-t))↔bX (bI s.2 (pB u.2))=false:=by
    rw [Au]
    exact⟨fun⟨t,h⟩=>⟨t,(fM _ _ t).2 ⟨h.1,(A8 _ t).2 h.2⟩⟩,fun⟨t,h⟩=>by have:=(fM _ _ t).1 h;exact⟨t,this.1,(A8 _ t).1 this.2⟩⟩
   rw [e]
   have h1':s.1.neg≠s.1:=fun e=>h1 (h2.trans e)
   cases bX (bI s.2 (pB u.2)) <;> simp [h2,h1']
  ·rw [if_neg h2]
   simp [h1,h2]
theorem E9 {C:List Li}{q:Pq}(h:Inn C q){l:Li}(hl:l∈C):l.neg∉C:=fun hn=>by
 have h1:=h l hl
 have h2:=h l.neg hn
 rw [fg]at h2
 grind
theorem iB (l:Li):l.neg.neg=l:=by unfold Li.neg;simp
theorem B5 {c d:PC}(hc:da c) (hd:da d) (hdis:∀q,Inn (a8 c) q→¬Inn (a8 d) q):ej c d=true↔Shr (a8 c) (a8 d):=by
 obtain⟨qc,hqc⟩:=hc.inn
 obtain⟨qd,hqd⟩:=hd.inn
 unfold ej
 rw [List.any_eq_true]
 constructor
 ·rintro ⟨s,hs,h⟩
  rw [List.any_eq_true]at h
  obtain⟨u,hu,h⟩:=h
  have hsl:s.1∈a8 c:=List.mem_map.2 ⟨s,hs,rfl⟩
  have hul:u.1∈a8 d:=List.mem_map.2 ⟨u,hu,rfl⟩
  rcases(ww s u).1 h with⟨e,t,h1,h2⟩|⟨e,_,t,h1,h2⟩
  ·exfalso
   have v1:=((hc.span s hs).1 t).1 h1
   have v2:=((hd.span u hu).1 t).1 h2
   rw [e]at v2
   obtain⟨k,hk,hsm⟩:=fF (fun i=>a7 i (atL s.1 t)) (fun i=>(i.a:Rat)*s.1.a+i.b*s.1.b) (((a8 c)++(a8 d)).filter fun i=>decide (i≠s.1)) (fun i hi=>by
    rw [List.mem_filter,decide_eq_true_eq]at hi
    rcases List.mem_append.1 hi.1 with h|h
    ·exact v1 i h hi.2
    ·exact v2 i h hi.2)
   have key:∀i,i∈a8 c++a8 d→0<a7 i ((atL s.1 t).1+k*s.1.a,(atL s.1 t).2+k*s.1.b):=fun i hi=>by
    rw [bP]
    by_cases him:i=s.1
    ·rw [him,j6 (hc.ok s hs),Rat.zero_add];exact Rat.mul_pos hk (dB (hc.ok s hs))
    ·exact hsm i (List.mem_filter.2 ⟨hi,decide_eq_true him⟩) k hk Rat.le_refl
   exact hdis _ (fun i hi=>key i (List.mem_append_left _ hi)) (fun i hi=>key i (List.mem_append_right _ hi))
  ·refine⟨s.1,hsl,e▸hul,t,fun m hm n1 n2=>?_⟩
   rcases hm with hm|hm
   ·exact((hc.span s hs).1 t).1 h1 m hm n1
   ·have:=((hd.span u hu).1 (-t)).1 h2 m hm (by rw [e];exact n2)
    rw [e,yB]at this;exact this
 ·rintro ⟨l,hl,hn,t,ht⟩
  obtain⟨s,hs,rfl⟩:=List.mem_map.1 hl
  obtain⟨u,hu,e⟩:=List.mem_map.1 hn
  refine⟨s,hs,List.any_eq_true.2 ⟨u,hu,(ww s u).2 (.inr ⟨e,?_,t,?_,?_⟩)⟩⟩
  ·rw [e]
   intro h
   have h1:=hqc s.1 hl
   have h2:=fg s.1 qc
   rw [h]at h2
   grind
  ·refine((hc.span s hs).1 t).2 fun m hm n1=>ht m (.inl hm) n1 fun h=>?_
   rw [h]at hm
   exact E9 hqc hl hm
  ·refine((hd.span u hu).1 (-t)).2 fun m hm n1=>?_
   rw [e,yB]
   refine ht m (.inr hm) (fun h=>?_) (by rw [←e];exact n1)
   rw [h]at hm
   exact E9 hqd hn (by rw [iB];exact hm)
theorem e0r:r0 (0:Rat)=0:=by decide +kernel
theorem e1r:r1 (0:Rat)=0:=by decide +kernel
theorem e2r:r2 (0:Rat)=lit (.pointer none):=if_pos (by decide +kernel)
theorem e3r:(((0:Int)):Rat)=0:=rfl
theorem EC (s:Spn) (h:s.le 1000000):Pu Tryz.prog 184 [iv s] (iv (pB s)):=by
 obtain⟨lo,hi,nl,nh⟩:=s
 obtain⟨h1,h2⟩:=h
 simp only at h1 h2
 have c1:=hZ hi om
 have c2:=hZ lo om
 cases nl <;> cases nh
 all_goals
  simp only [pB,Bool.false_eq_true,if_false,if_true]
  unfold iv ivx
  simp only [e0r,e1r,e2r]
  clear h1 h2
  generalize -hi=a at *
  generalize -lo=b at *
  refine Pi Tryz.func184 fun C=>?_
  exact X2 c1 c2
theorem HC {s:Spn}{n:Nat}(h:s.le n) (h1:1≤n):(pB s).le n:=by
 have h0:=gJ
 obtain⟨a,b⟩:=h
 unfold pB
 constructor
 ·show ht (if s.nh then 0 else -s.hi)≤n
  split
  ·omega
  ·rw [ci];exact b
 ·show ht (if s.nl then 0 else -s.lo)≤n
  split
  ·omega
  ·rw [ci];exact a
def kF (u:Fg) (l:Li):Spn×Bool:=if u.1=l then(u.2,true)else if u.1=l.neg then(pB u.2,true)else(⟨0,0,false,false⟩,false)
theorem Hq {u:Fg}{l:Li}{L:Nat}(h1:1≤L) (hU:L≤500) (hu:o9 L u) (hl:l.le L):Pu Tryz.prog 145 [ag (fgx u),lfl l] (Ab.tup [iv (kF u l).1,lit (.bool (kF u l).2)]):=by
 obtain⟨m,s⟩:=u
 obtain⟨hm,hs⟩:=hu
 simp only at hm hs
 have hn:l.neg.le L:=⟨by show il (-l.a)≤L;rw [cG];exact hl.a,by show il (-l.b)≤L;rw [cG];exact hl.b,by show il (-l.c)≤L;rw [cG];exact hl.c⟩
 have c1:=oJ hm hl h1 om
 have c2:=oJ hm hn h1 om
 have c3:=Ae l (hl.gr om)
 have c4:=EC s ⟨by have:=hs.1;omega,by have:=hs.2;omega⟩
 unfold kF
 simp only
 clear hm hs hl hn
 by_cases k1:m=l
 ·rw [if_pos k1]
  rw [decide_eq_true k1]at c1
  refine Pi Tryz.func145 fun C=>?_
  repeat(first|(refine A1 ⟨?_⟩;intros)|refine W4 c1 ⟨?_⟩)
  exact G3
 ·rw [if_neg k1]
  rw [decide_eq_false k1]at c1
  by_cases k2:m=l.neg
  ·rw [if_pos k2]
   rw [decide_eq_true k2]at c2
   clear k1 k2
   generalize l.neg=l' at *
   generalize pB s=s' at *
   refine Pi Tryz.func145 fun C=>?_
   repeat(first|(refine A1 ⟨?_⟩;intros)|refine W4 c1 ⟨?_⟩|refine W4 c2 ⟨?_⟩|refine W4 c3 ⟨?_⟩|refine W4 c4 ⟨?_⟩)
   exact G3
  ·rw [if_neg k2]
   rw [decide_eq_false k2]at c2
   clear k1 k2
   generalize l.neg=l' at *
   unfold iv ivx
   simp only [e0r,e1r,e2r]
   refine Pi Tryz.func145 fun C=>?_
   repeat(first|(refine A1 ⟨?_⟩;intros)|refine W4 c1 ⟨?_⟩|refine W4 c2 ⟨?_⟩|refine W4 c3 ⟨?_⟩)
   exact G3
def zFg:Fg:=(⟨0,0,0⟩,⟨0,0,false,false⟩)
def By (s u:Fg):Fg×Bool :=
 if(kF u s.1).2=true then(if bX (bI s.2 (kF u s.1).1)=true then(zFg,false)else((s.1,bI s.2 (kF u s.1).1),true))else(zFg,false)
theorem GM (s u:Fg):(By s u).2=(sE s u).isSome:=by
 unfold By sE kF
 by_cases h1:u.1=s.1
 ·rw [if_pos h1,if_pos h1,if_pos rfl]
  simp only
  split <;> rfl
 ·rw [if_neg h1,if_neg h1]
  by_cases h2:u.1=s.1.neg
  ·rw [if_pos h2,if_pos h2,if_pos rfl]
   simp only
   split <;> rfl
  ·rw [if_neg h2,if_neg h2]
   rfl
theorem yw {s u:Fg}{L:Nat}(h1:1≤L) (hU:L≤500) (hs:o9 L s) (hu:o9 L u):Pu Tryz.prog 101 [ag (fgx s),ag (fgx u)] (Ab.tup [ag (fgx (By s u).1),lit (.bool (By s u).2)]):=by
 have c1:=Hq h1 hU hu hs.1
 have hle:(kF u s.1).1.le (50*L):=by
  have h0:=gJ
  unfold kF
  split
  ·exact hu.2
  ·split
   ·exact HC hu.2 om
   ·exact⟨by show ht 0≤_;omega,by show ht 0≤_;omega⟩
 have c2:=tO s.2 (kF u s.1).1 ⟨by have:=hs.2.1;omega,by have:=hs.2.2;omega⟩ ⟨by have:=hle.1;omega,by have:=hle.2;omega⟩
 unfold By
 clear hs hu hle
 obtain⟨l,v⟩:=s
 simp only at *
 generalize(kF u l).2=ok at *
 generalize(kF u l).1=w at *
 generalize bI v w=x at *
 generalize bX x=bad at *
 cases ok
 ·rw [if_neg (by decide)]
  unfold zFg fgx
  simp only [e3r,e0r,e1r,e2r]
  refine Pi Tryz.func101 fun C=>?_
  repeat(first|(refine A1 ⟨?_⟩;intros)|refine W4 c1 ⟨?_⟩)
  exact G3
 ·rw [if_pos rfl]
  cases bad
  ·rw [if_neg (by decide)]
   simp only [Bool.not_false]at c2
   refine Pi Tryz.func101 fun C=>?_
   repeat(first|(refine A1 ⟨?_⟩;intros)|refine W4 c1 ⟨?_⟩|refine W4 c2 ⟨?_⟩)
   exact G3
  ·rw [if_pos rfl]
   simp only [Bool.not_true]at c2
   unfold zFg fgx
   simp only [e3r,e0r,e1r,e2r]
   refine Pi Tryz.func101 fun C=>?_
   repeat(first|(refine A1 ⟨?_⟩;intros)|refine W4 c1 ⟨?_⟩|refine W4 c2 ⟨?_⟩)
   exact G3
theorem xR {c d:PC}{L:Nat}(h1:1≤L) (hU:L≤500) (hc:∀s∈c,o9 L s) (hd:∀s∈d,o9 L s) (hlc:c.length≤100000) (hld:d.length≤100000):Pu Tryz.prog 58 [pcs c,pcs d] (lit (.bool (ej c d))):=by
 refine Pi Tryz.func58 fun C=>?_
 repeat(refine A1 ⟨?_⟩;intros)
 refine WP.loopS (ι:=Nat) (fun k=>k≤c.length∧ej (c.drop k) d=ej c d) (fun k=>c.length-k)
  (fun k=>fm [(1,pcs d),(11,pcs c),(12,lit (.int .i64 c.length)),(13,lit (.int .i64 k))]) (fun _=>[]) 0 ⟨Nat.zero_le _,rfl⟩ lfA (List.nil_sublist _) ?_
 rintro k ⟨hk,hR⟩ K hK
 by_cases hkl:k<c.length
 ·obtain⟨s,hget,hmm,hat,hne⟩:=elt eJ om hkl
  have hs:=hc s hmm
  have hgo:=fun(h:ej (c.drop (k+1)) d=ej c d) F' H'=>hK F' H' (k+1) ⟨om,h⟩ om
  rw [eK hget]at hR
  have e:ej (s::c.drop (k+1)) d=(d.any (fun u=>(sE s u).isSome)||ej (c.drop (k+1)) d):=by unfold ej;rw [List.any_cons]
  rw [e]at hR
  clear hK hc hget hmm e
  generalize ej (c.drop (k+1)) d=R1 at *
  generalize ej c d=R at *
  repeat(refine A1 ⟨?_⟩;intros)
  refine Wo (a6 (cs':=fgx s) rfl rfl om om hat hne) ?_
  repeat(refine A1 ⟨?_⟩;intros)
  rename_i b6
  refine WP.loopS (ι:=Nat) (fun j=>j≤d.length∧((d.drop j).any (fun u=>(sE s u).isSome)||R1)=R) (fun j=>d.length-j)
   (fun j=>fm [(1,pcs d),(6,lit (.pointer (some ⟨b6,0,none⟩))),(11,pcs c),(12,lit (.int .i64 c.length)),(13,lit (.int .i64 k)),(17,pcs d),(18,lit (.int .i64 d.length)),(19,lit (.int .i64 j))]) (fun _=>[(b6,frT,fgx s)]) 0 ⟨Nat.zero_le _,hR⟩ lfA Sr ?_
  clear hR
  rintro j ⟨hj,hR⟩ K2 hK2
  by_cases hjl:j<d.length
  ·obtain⟨u,hget2,hmm2,hat2,hne2⟩:=elt eJ om hjl
   have cv:=yw h1 hU hs (hd u hmm2)
   rw [eK hget2,List.any_cons]at hR
   have hgo2:=fun(h:((d.drop (j+1)).any (fun u=>(sE s u).isSome)||R1)=R) F' H'=>hK2 F' H' (j+1) ⟨om,h⟩ om
   rw [GM]at cv
   generalize(d.drop (j+1)).any (fun u=>(sE s u).isSome)=R2 at *
   generalize(By s u).1=vv at *
   clear hK2 hget2 hmm2 hd hs hgo
   cases ho:(sE s u).isSome with
   |true =>
    rw [ho]at hR cv
    rw [Bool.true_or,Bool.true_or]at hR
    subst hR
    clear hgo2
    repeat(refine A1 ⟨?_⟩;intros)
    refine Wo (a6 (cs':=fgx u) rfl rfl om om hat2 hne2) ?_
    exact Y1 cv
   |false =>
    rw [ho]at hR cv
    rw [Bool.false_or]at hR
    replace hgo2:=hgo2 hR
    clear hR
    repeat(refine A1 ⟨?_⟩;intros)
    refine Wo (a6 (cs':=fgx u) rfl rfl om om hat2 hne2) ?_
    repeat(first|(refine A1 ⟨?_⟩;intros)|refine W4 cv ⟨?_⟩)
    exact hgo2 _ _ lfA (by repeat(first|exact Sr|refine Sc ?_))
  ·have hje:j=d.length:=by omega
   subst hje
   rw [List.drop_length,List.any_nil,Bool.false_or]at hR
   replace hgo:=hgo hR
   clear hK2 hd hs
   repeat(refine A1 ⟨?_⟩;intros)
   exact hgo _ _ lfA (List.nil_sublist _)
 ·have hke:k=c.length:=by omega
  subst hke
  rw [List.drop_length]at hR
  rw [←hR]
  clear hK hc hd
  exact Z1
def mL (c:PC):Bool:=c.all (fun s => !s.2.nl && !s.2.nh)&&decide (0<c.length)
theorem xB (c:PC) (hl:c.length≤100000):Pu Tryz.prog 59 [pcs c] (lit (.bool (mL c))):=by
 have hR0:((c.drop 0).all (fun s => !s.2.nl && !s.2.nh)&&decide (0<c.length))=mL c:=rfl
 generalize mL c=R at *
 refine Pi Tryz.func59 fun C=>?_
 repeat(refine A1 ⟨?_⟩;intros)
 refine WP.loopS (ι:=Nat) (fun k=>k≤c.length∧((c.drop k).all (fun s => !s.2.nl && !s.2.nh)&&decide (0<c.length))=R) (fun k=>c.length-k)
  (fun k=>fm [(0,pcs c),(5,pcs c),(6,lit (.int .i64 c.length)),(7,lit (.int .i64 k))]) (fun _=>[]) 0 ⟨Nat.zero_le _,hR0⟩ lfA (List.nil_sublist _) ?_
 clear hR0
 rintro k ⟨hk,hR⟩ K hK
 by_cases hkl:k<c.length
 ·obtain⟨s,hget,hmm,hat,hne⟩:=elt eJ om hkl
  have hgo:=fun(h:((c.drop (k+1)).all (fun s => !s.2.nl && !s.2.nh)&&decide (0<c.length))=R) F' H'=>hK F' H' (k+1) ⟨om,h⟩ om
  rw [eK hget,List.all_cons]at hR
  obtain⟨m,lo,hi,nl,nh⟩:=s
  simp only at hR
  clear hK hget hmm
  cases nl <;> cases nh
  ·simp only [Bool.not_false,Bool.true_and,Bool.and_self]at hR
   replace hgo:=hgo hR
   clear hR
   repeat(refine A1 ⟨?_⟩;intros)
   refine Wo (a6 (cs':=fgx (m,⟨lo,hi,false,false⟩)) rfl rfl om om hat hne) ?_
   repeat(refine A1 ⟨?_⟩;intros)
   exact hgo _ _ lfA (List.nil_sublist _)
  all_goals
   simp only [Bool.not_false,Bool.not_true,Bool.false_and,Bool.and_false,Bool.and_self,Bool.true_and]at hR
   subst hR
   clear hgo
   repeat(refine A1 ⟨?_⟩;intros)
   refine Wo (a6 (cs':=fgx (m,⟨lo,hi,_,_⟩)) rfl rfl om om hat hne) ?_
   exact Z1
 ·have hke:k=c.length:=by omega
  subst hke
  rw [List.drop_length,List.all_nil,Bool.true_and]at hR
  rw [←hR]
  clear hK hR
  by_cases h0:0<c.length
  ·rw [decide_eq_true h0]
   exact Z1
  ·rw [decide_eq_false h0]
   exact Z1
def bys (l:List UInt8):List SV:=l.map fun b=>lit (.int .u8 (b.toNat:Nat))
def Byt (l:List UInt8) (s:SV) (H:LH):Prop :=
 (l=[]∧s=lit (.slice none 0 0)∧H=[])∨
  l≠[]∧∃b c,l.length≤c∧c≤maxLen∧s=lit (.slice (some ⟨b,0,none⟩) l.length c)∧H=[(b,5,bys l++List.replicate (c-l.length) top)]
theorem Byt.nil:Byt [] (lit (.slice none 0 0)) [] := .inl ⟨rfl,rfl,rfl⟩
theorem Byt.co {l:List UInt8}{s:SV}{H:LH}(h:Byt l s H):CO s [s]:=by
 rcases h with⟨_,rfl,_⟩|⟨_,b,c,_,_,rfl,_⟩ <;> infer_instance
section
variable {P:Program}{C:Ctx}{n:Nat}{F:Fr}{H:LH}{ops:Array Oper}{K:Fr→LH→Prop}{rest:List Oper}{ty:TypeId}{pos:String}{aft:Array Edge}
end
section
variable {F:Fr}{H:LH}{ty:TypeId}
end
abbrev K7 (w:Nat):SV:=lit (.pointer (some ⟨w,0,none⟩))
section
variable {P:Program}{C:Ctx}{n:Nat}{F:Fr}{H:LH}{ops:Array Oper}{K:Fr→LH→Prop}{rest:List Oper}{ty:TypeId}{pos:String}{aft:Array Edge}
end
section
variable {P:Program}{C:Ctx}{n:Nat}{F:Fr}{H:LH}{ops:Array Oper}{K:Fr→LH→Prop}{rest:List Oper}{ty:TypeId}{pos:String}{aft:Array Edge}
end
end Go.Ab
