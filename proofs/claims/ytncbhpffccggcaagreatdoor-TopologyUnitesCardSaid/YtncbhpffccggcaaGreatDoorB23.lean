/- Texts laid one behind the other: Spl, Raw, PRes, Bld, Wr. -/
import Derived.Test.YtncbhpffccggcaaGreatDoorB22
import Derived.Lib.AppendStr
import Derived.Lib.UnsafeStr
import Derived.Lib.Builder
set_option linter.all false
namespace Go.Ab
open Go.Proofs
variable [Base]
theorem Es {s:Spn}(h:SpG s):gU [s]:=⟨fun x hx=>by rw [List.mem_singleton.1 hx];exact h,List.pairwise_singleton _ _⟩
theorem wY:gU []:=⟨fun s h=>(by cases h),List.Pairwise.nil⟩
theorem Dt {s:Spn}(h:cH s=false) (h1:s.nl=false) (h2:s.nh=false):s.lo<s.hi:=by
 obtain⟨a,b⟩:=fx h;have a:=a.resolve_left (by rw [h1];decide);have b:=b.resolve_left (by rw [h2];decide);grind
theorem AD {v w:Spn}(hv:SpG v) (hw:SpG w) (h:cH (cg v w)=false):SpG (cg v w):=by
 refine⟨fun k=>?_,fun k=>?_,Dt h⟩
 ·have k:(v.nl&&w.nl)=true:=k;rw [Bool.and_eq_true]at k;show(if v.nl then w.lo else _)=0
  rw [if_pos k.1];exact hw.lo k.2
 ·have k:(v.nh&&w.nh)=true:=k;rw [Bool.and_eq_true]at k;show(if v.nh then w.hi else _)=0
  rw [if_pos k.1];exact hw.hi k.2
theorem sA {s:Spn}{t:Rat}:jc [s] t↔InS s t:=⟨fun⟨u,hu,h⟩=>List.mem_singleton.1 hu▸h,fun h=>⟨s,List.mem_singleton.2 rfl,h⟩⟩
theorem Au (x y:Bool):opB 2 x y=(x&&y):=rfl
theorem Fp {a b:List Spn}{t:Rat}(h:t∉cK (a++b)):t∉cK a∧t∉cK b :=
 ⟨fun k=>h (by obtain⟨s,h1,h2⟩:=dz.1 k;exact dz.2 ⟨s,List.mem_append_left _ h1,h2⟩),fun k=>h (by obtain⟨s,h1,h2⟩:=dz.1 k;exact dz.2 ⟨s,List.mem_append_right _ h1,h2⟩)⟩
theorem oU {s h:Spn}(hs:SpG s) (hh:SpG h):kF 2 [s] [h]=if cH (cg s h)then []else [cg s h]:=by
 obtain⟨h1,h2⟩:=xT 2 [s] [h]
 have hm:∀t,t∉cK ([s]++[h])→(jc (kF 2 [s] [h]) t↔InS (cg s h) t):=fun t ht=>by
  obtain⟨k1,k2⟩:=Fp ht;rw [h2 t ht,Au,Bool.and_eq_true,qf k1,qf k2,sA,sA,iA]
 cases hb:cH (cg s h)with
 |true =>
  rw [if_pos rfl];refine nC (E:=cK ([s]++[h])) h1 wY fun t ht=>(hm t ht).trans ⟨fun k=>?_,fun⟨u,hu,_⟩=>(by cases hu)⟩
  rw [ig k]at hb;cases hb
 |false =>
  rw [if_neg (by decide)];exact nC (E:=cK ([s]++[h])) h1 (Es (AD hs hh hb)) fun t ht=>(hm t ht).trans sA.symm
theorem s9 {s:Spn}:kF 2 [s] []=[]:=by
 obtain⟨h1,h2⟩:=xT 2 [s] [];refine nC (E:=cK ([s]++[])) h1 wY fun t ht=>(h2 t ht).trans ⟨fun k=>?_,fun⟨u,hu,_⟩=>(by cases hu)⟩
 rw [Au,Bool.and_eq_true]at k;have:=of_decide_eq_true k.2;cases this
theorem Jx:SpG Spn.full:=⟨fun _=>rfl,fun _=>rfl,fun h=>by cases h⟩
theorem EY (k u:Rat):SpG (hlf k u):=by
 unfold hlf;split
 ·exact⟨fun h=>(by cases h),fun _=>rfl,fun _ h=>(by cases h)⟩
 ·exact⟨fun _=>rfl,fun h=>(by cases h),fun h=>(by cases h)⟩
theorem xg {s:Spn}(h:SpG s):cg s Spn.full=s:=by
 obtain⟨a,b,c,d⟩:=s;have h1:=h.lo;have h2:=h.hi;unfold cg;cases c <;> cases d <;> simp at h1 h2⊢<;> simp [h1,h2]
theorem tM {l m:Li}(hl:l.ok) (h:dt l m≠0) (side:Int) (hs:side=1∨side = -1):eT l m side=([hlf (side*slp l m) (-(a6 m (ay l)/slp l m))],false):=by
 have hk:slp l m≠0:=fun e=>h (by rw [ln,e];rfl)
 have hu:bZ l (bh l m) = -(a6 m (ay l)/slp l m):=by
  have h1:=s7 hk (bZ l (bh l m));have h2:=mL hl h (bZ l (bh l m));have:(bZ l (bh l m) - -(a6 m (ay l)/slp l m))*slp l m=0:=by rw [←h1,h2];grind
  rcases Rat.mul_eq_zero.1 this with e|e
  ·grind
  ·exact absurd e hk
 unfold eT;rw [if_neg h];have hv:a6 m (atL l (bZ l (bh l m)+1))=slp l m:=by rw [mL hl h];grind
 have hsd:cX m (atL l (bZ l (bh l m)+1))=(slp l m).num.sign:=by unfold cX;rw [hv]
 rw [hsd,hu]
 have h3:(slp l m).num.sign=1∨(slp l m).num.sign = -1:=by
  have:=Int.sign_trichotomy (slp l m).num;have:(slp l m).num.sign≠0:=fun e=>hk (bq.1 e)
  omega
 have h4:(((-1:Int):Rat)*slp l m).num.sign = - (slp l m).num.sign:=by
  have:((-1:Int):Rat)*slp l m = - slp l m:=by
   have e:((-1:Int):Rat) = -1:=rfl;rw [e];grind
  rw [this,Rat.neg_num,Int.sign_neg]
 have h5:(((1:Int):Rat)*slp l m).num.sign=(slp l m).num.sign:=by
  have:((1:Int):Rat)*slp l m=slp l m:=by
   have e:((1:Int):Rat)=1:=rfl;rw [e];grind
  rw [this]
 unfold hlf;rcases hs with rfl|rfl
 ·rw [h5];rcases h3 with h3|h3 <;> rw [h3] <;> simp
 ·rw [h4];rcases h3 with h3|h3 <;> rw [h3] <;> simp
theorem Jz (x y:Rat) : -x / -y=x/y:=by
 by_cases h:y=0
 ·rw [h];simp [Rat.div_def]
 ·refine jV (n := -y) (by grind) ?_;rw [Rat.mul_comm,Rat.div_mul_cancel (by grind)];have:x/y*y=x:=Rat.div_mul_cancel h;grind
theorem B8 {l m:Li}{v:Spn}:er l v m.neg=if(slp l m).num.sign=0 then(if(a6 m (ay l)).num.sign<0 then some v else none)
  else if cH (cg v (hlf (-slp l m) (-(a6 m (ay l)/slp l m))))then none else some (cg v (hlf (-slp l m) (-(a6 m (ay l)/slp l m)))):=by
 have e1:slp l m.neg = - slp l m:=by unfold slp Li.neg;simp only [Rat.intCast_neg];grind
 have e2:a6 m.neg (ay l) / - slp l m=a6 m (ay l)/slp l m:=by rw [fg];exact Jz _ _
 unfold er;rw [e1,e2,fg,Rat.neg_num,Rat.neg_num,Int.sign_neg,Int.sign_neg];generalize(slp l m).num.sign=a;generalize(a6 m (ay l)).num.sign=b;by_cases h:a=0
 ·rw [if_pos om,if_pos h];by_cases k:b<0
  ·rw [if_pos om,if_pos k]
  ·rw [if_neg om,if_neg k]
 ·rw [if_neg om,if_neg h]
theorem jh {f:Fg}{m:Li}(hf:SpG f.2) (hb:cH f.2=false) (hl:f.1.ok):bX f m=(((er f.1 f.2 m).toList).map fun s=>(f.1,s),((er f.1 f.2 m.neg).toList).map fun s=>(f.1,s)):=by
 obtain⟨l,s⟩:=f;simp only at *;unfold bX;simp only;rw [B8];by_cases hd:dt l m=0
 ·have hk:slp l m=0:=by rw [ln]at hd;grind
  have hk0:(slp l m).num.sign=0:=bq.2 hk;unfold er eT;rw [if_pos hd,if_pos hd,if_pos hk0,if_pos hk0];have hsd:cX m (ay l)=(a6 m (ay l)).num.sign:=rfl;rw [←hsd];have e2:kF 2 [s] [Spn.full]=[s]:=by rw [oU hf Jx,xg hf,hb];rfl
  rcases sV m (ay l)with h|h|h
  ·rw [h];simp [e2,s9]
  ·rw [h];simp
  ·rw [h];simp [e2,s9]
 ·have hk:slp l m≠0:=fun e=>hd (by rw [ln,e];rfl)
  have hk0:¬(slp l m).num.sign=0:=fun e=>hk (bq.1 e)
  rw [tM hl hd 1 (.inl rfl),tM hl hd (-1) (.inr rfl)];unfold er;rw [if_neg hk0,if_neg hk0]
  have e1:((1:Int):Rat)*slp l m=slp l m:=by
   have e:((1:Int):Rat)=1:=rfl;rw [e];grind
  have e2:((-1:Int):Rat)*slp l m = - slp l m:=by
   have e:((-1:Int):Rat) = -1:=rfl;rw [e];grind
  rw [e1,e2];simp only [Bool.false_eq_true,if_false];rw [oU hf (EY _ _),oU hf (EY _ _)];split <;> split <;> rfl
def bw:Tr→Nat
 | .leaf _=>0
 | .node _ a b=>1+bw a+bw b
def br:Tr→Nat
 | .leaf _=>0
 | .node _ a b=>1+max (br a) (br b)
def Crs (f:Fg) (m:Li):Prop:=∃t,InS f.2 t∧a6 m (atL f.1 t)=0∧slp f.1 m≠0
open Classical in
noncomputable def sc (L:List Li) (f:Fg):Nat:=L.countP fun m=>decide (Crs f m)
noncomputable def fC (L:List Li) (l:List Fg):Nat:=(l.map fun f=>1+sc L f).sum
theorem wJ (L:List Li) (a b:List Fg):fC L (a++b)=fC L a+fC L b:=by unfold fC;rw [List.map_append,List.sum_append]
theorem oB (L:List Li) (f:Fg) (l:List Fg):fC L (f::l)=1+sc L f+fC L l:=by unfold fC;rw [List.map_cons,List.sum_cons]
open Classical in
theorem xU {L:List Li}{f g:Fg}(h:∀m∈L,Crs g m→Crs f m):sc L g≤sc L f:=by
 unfold sc;induction L with
 |nil=>simp
 |cons a L ih =>
  have ih:=ih fun m hm=>h m (Mc hm)
  rw [List.countP_cons,List.countP_cons];by_cases k:Crs g a
  ·rw [if_pos (decide_eq_true k),if_pos (decide_eq_true (h a List.mem_cons_self k))];omega
  ·rw [if_neg (by simpa using k)];omega
open Classical in
theorem Id {L:List Li}{f g k:Fg}(h1:∀m∈L,Crs g m→Crs f m) (h2:∀m∈L,Crs k m→Crs f m) (h3:∀m∈L,Crs g m→Crs k m→False){x:Li}(hx:x∈L) (x1:Crs f x) (x2:¬Crs g x) (x3:¬Crs k x) :
  sc L g+sc L k+1≤sc L f:=by
 unfold sc;induction L with
 |nil=>cases hx
 |cons a L ih =>
  have g1:∀m∈L,Crs g m→Crs f m:=fun m hm=>h1 m (Mc hm)
  have g2:∀m∈L,Crs k m→Crs f m:=fun m hm=>h2 m (Mc hm)
  have g3:∀m∈L,Crs g m→Crs k m→False:=fun m hm=>h3 m (Mc hm)
  rw [List.countP_cons,List.countP_cons,List.countP_cons]
  have base:L.countP (fun m=>decide (Crs g m))+L.countP (fun m=>decide (Crs k m))≤L.countP (fun m=>decide (Crs f m)):=by
   clear ih hx;induction L with
   |nil=>simp
   |cons b L ih' =>
    have ih':=ih' (fun m hm=>by rcases List.mem_cons.1 hm with e|e;exact h1 m (e▸Ms);exact h1 m (Mc (Mc e)))
     (fun m hm=>by rcases List.mem_cons.1 hm with e|e;exact h2 m (e▸Ms);exact h2 m (Mc (Mc e)))
     (fun m hm=>by rcases List.mem_cons.1 hm with e|e;exact h3 m (e▸Ms);exact h3 m (Mc (Mc e)))
     (fun m hm=>g1 m (Mc hm)) (fun m hm=>g2 m (Mc hm)) (fun m hm=>g3 m (Mc hm))
    rw [List.countP_cons,List.countP_cons,List.countP_cons];have b1:=g1 b Ms;have b2:=g2 b Ms;have b3:=g3 b Ms;by_cases p:Crs g b <;> by_cases q:Crs k b <;> by_cases r:Crs f b <;> simp only [p,q,r,decide_true,decide_false,if_true,Bool.false_eq_true,if_false] <;> first|omega|exact absurd (b1 p) r|exact absurd (b2 q) r|exact(b3 p q).elim
  have a1:=h1 a Ms;have a2:=h2 a Ms;have a3:=h3 a Ms;rcases List.mem_cons.1 hx with e|e
  ·subst e;simp only [x1,x2,x3,decide_true,decide_false,if_true,Bool.false_eq_true,if_false];omega
  ·have ih:=ih g1 g2 g3 e;by_cases p:Crs g a <;> by_cases q:Crs k a <;> by_cases r:Crs f a <;> simp only [p,q,r,decide_true,decide_false,if_true,Bool.false_eq_true,if_false] <;> first|omega|exact absurd (a1 p) r|exact absurd (a2 q) r|exact(a3 p q).elim
structure FgG (L:List Li) (f:Fg):Prop where
 ok:f.1.ok
 mem:f.1∈L
 g:SpG f.2
 b:cH f.2=false
theorem FgG.some {L:List Li}{f:Fg}(h:FgG L f):∃t,InS f.2 t:=⟨_,fx h.b⟩
theorem JA {l m:Li}{v w:Spn}(hv:SpG v) (hb:cH v=false) (h:er l v m=some w):SpG w∧cH w=false:=by
 obtain⟨t,ht⟩:=jJ ⟨_,fx hb⟩ h;refine⟨?_,ig ht⟩;unfold er at h;split at h
 ·split at h
  ·cases h;exact hv
  ·cases h
 ·split at h
  ·cases h
  ·rename_i h2;cases h;exact AD hv (EY _ _) (by simpa using h2)
theorem qm {f:Fg}{m:Li}{w:Spn}(h:er f.1 f.2 m=some w){x:Li}(k:Crs (f.1,w) x):Crs f x:=by
 obtain⟨t,h1,h2,h3⟩:=k;exact⟨t,((eh h t).1 h1).1,h2,h3⟩
theorem InS.mid {s:Spn}{t u:Rat}(ht:InS s t) (hu:InS s u){v:Rat}(h1:t≤v) (h2:v≤u):InS s v:=by
 obtain⟨a,_⟩:=ht;obtain⟨_,b⟩:=hu;exact⟨a.imp id (fun k=>by grind),b.imp id (fun k=>by grind)⟩
theorem Fy {f:Fg}{m:Li}{w w':Spn}(hw:∃t,InS f.2 t) (h:er f.1 f.2 m=some w) (h':er f.1 f.2 m.neg=some w') :
  Crs f m∧¬Crs (f.1,w) m∧¬Crs (f.1,w') m∧∀x,Crs (f.1,w) x→Crs (f.1,w') x→False:=by
 obtain⟨t,ht⟩:=jJ hw h;obtain⟨u,hu⟩:=jJ hw h';obtain⟨t1,t2⟩:=(eh h t).1 ht;obtain⟨u1,u2⟩:=(eh h' u).1 hu;rw [fg]at u2
 have hk:slp f.1 m≠0:=fun e=>by
  rw [aZ,e]at t2 u2;grind
 refine⟨?_,?_,?_,?_⟩
 ·have e:∀v,a6 m (atL f.1 v)=(v - -(a6 m (ay f.1)/slp f.1 m))*slp f.1 m:=s7 hk;have e0:=e (-(a6 m (ay f.1)/slp f.1 m));rw [e]at t2 u2;generalize -(a6 m (ay f.1)/slp f.1 m)=z at *;refine⟨z,?_,by rw [e0];grind,hk⟩;by_cases hp:0<slp f.1 m
  ·have a:=(fA hp).1 t2;have b:=(fA (x:=z-u) hp).1 (by grind);exact InS.mid u1 t1 (by grind) (by grind)
  ·have hn:0 < - slp f.1 m:=by grind
   have a:=(fA (x:=z-t) hn).1 (by grind);have b:=(fA (x:=u-z) hn).1 (by grind);exact InS.mid t1 u1 (by grind) (by grind)
 ·rintro ⟨v,v1,v2,_⟩;have:=((eh h v).1 v1).2;simp only at v2;rw [v2]at this;exact absurd this (by decide)
 ·rintro ⟨v,v1,v2,_⟩;have:=((eh h' v).1 v1).2;simp only at v2;rw [fg,v2]at this;exact absurd this (by decide)
 ·rintro x ⟨v,v1,v2,v3⟩ ⟨v',w1,w2,w3⟩;simp only at v2 v3 w2
  have hvv:v=v':=by
   rw [aZ]at v2 w2;have:(v-v')*slp f.1 x=0:=by grind
   rcases Rat.mul_eq_zero.1 this with e|e
   ·grind
   ·exact absurd e v3
  subst hvv;have a:=((eh h v).1 v1).2;have b:=((eh h' v).1 w1).2;rw [fg]at b;grind
theorem uv {L:List Li}{f:Fg}{m:Li}(hf:FgG L f):(∀g∈(bX f m).1,FgG L g∧g.1=f.1)∧∀g∈(bX f m).2,FgG L g∧g.1=f.1:=by
 rw [jh hf.g hf.b hf.ok]
 have key:∀x:Li,∀g∈((er f.1 f.2 x).toList).map (fun s=>(f.1,s)),FgG L g∧g.1=f.1:=fun x g hg=>by
  obtain⟨w,hw,rfl⟩:=List.mem_map.1 hg;rw [Option.mem_toList]at hw;obtain⟨a,b⟩:=JA hf.g hf.b hw;exact⟨⟨hf.ok,hf.mem,a,b⟩,rfl⟩
 exact⟨key m,key m.neg⟩
theorem ol {L:List Li}{f:Fg}{m:Li}(hf:FgG L f):(bX f m).1.length≤1∧(bX f m).2.length≤1:=by
 rw [jh hf.g hf.b hf.ok];simp only [List.length_map];constructor
 ·cases er f.1 f.2 m <;> simp
 ·cases er f.1 f.2 m.neg <;> simp
theorem Bs {L:List Li}{f:Fg}{m:Li}(hf:FgG L f) (hm:m∈L):fC L (bX f m).1+fC L (bX f m).2≤1+sc L f:=by
 rw [jh hf.g hf.b hf.ok];cases h:er f.1 f.2 m with
 |none =>
  cases h':er f.1 f.2 m.neg with
  |none=>simp [fC]
  |some w' =>
   have:=xU (L:=L) (f:=f) (g:=(f.1,w')) fun x _ k=>qm h' k
   simp [fC];omega
 |some w =>
  have h1:=xU (L:=L) (f:=f) (g:=(f.1,w)) fun x _ k=>qm h k
  cases h':er f.1 f.2 m.neg with
  |none=>simp [fC];omega
  |some w' =>
   obtain⟨a,b,c,d⟩:=Fy hf.some h h';have:=Id (L:=L) (f:=f) (g:=(f.1,w)) (k:=(f.1,w')) (fun x _ k=>qm h k) (fun x _ k=>qm h' k) (fun x _=>d x) hm a b c;simp [fC];omega
theorem yo {L:List Li}{f:Fg}(hf:FgG L f):bX f f.1=([],[]):=by
 have hk:slp f.1 f.1=0:=by unfold slp;grind
 have hb:a6 f.1 (ay f.1)=0:=by have:=gS hf.ok 0;rw [aZ,hk]at this;grind
 rw [jh hf.g hf.b hf.ok,B8];unfold er;rw [hk,hb];simp
theorem Dq {L:List Li}{l:List Fg}{m:Li}(hl:∀f∈l,FgG L f):(∀g∈(aK l m).1,FgG L g)∧∀g∈(aK l m).2,FgG L g:=by
 unfold aK;constructor
 ·intro g hg;obtain⟨x,hx,hgx⟩:=List.mem_flatten.1 hg;obtain⟨f,hf,rfl⟩:=List.mem_map.1 hx;exact((uv (hl f hf)).1 g hgx).1
 ·intro g hg;obtain⟨x,hx,hgx⟩:=List.mem_flatten.1 hg;obtain⟨f,hf,rfl⟩:=List.mem_map.1 hx;exact((uv (hl f hf)).2 g hgx).1
theorem qC {L:List Li}{m:Li}(hm:m∈L):∀{l:List Fg},(∀f∈l,FgG L f)→fC L (aK l m).1+fC L (aK l m).2≤fC L l
 | [],_=>by simp [aK,fC]
 |f::l,hl=>by
  have ih:=qC hm (l:=l) fun x hx=>hl x (Mc hx)
  have h1:=Bs (hl f Ms) hm;unfold aK at *;simp only [List.map_cons,List.flatten_cons]at *;rw [wJ,wJ,oB];omega
theorem p7 {L:List Li}{f:Fg}{l:List Fg}(hl:∀g∈f::l,FgG L g):fC L (aK (f::l) f.1).1+fC L (aK (f::l) f.1).2+1≤fC L (f::l):=by
 have hf:=hl f Ms;have ih:=qC hf.mem (l:=l) fun x hx=>hl x (Mc hx)
 unfold aK at *;simp only [List.map_cons,List.flatten_cons,yo hf,List.nil_append]at *;rw [oB];omega
def Tr.lin (L:List Li):Tr→Prop
 | .leaf _=>True
 | .node l a b=>l∈L∧a.lin L∧b.lin L
theorem jn {L:List Li}(inn:Pq→Bool):∀(n:Nat) (l:List Fg) (c:List Li),(∀f∈l,FgG L f)→fC L l<n→bw (jo inn n l c)≤fC L l∧br (jo inn n l c)≤fC L l∧(jo inn n l c).lin L
 |0,_,_,_,h=>by omega
 |n+1,[],c,_,_=>⟨Nat.zero_le _,Nat.zero_le _,trivial⟩
 |n+1,f::l,c,hl,h=>by
  have hs:=p7 hl;obtain⟨g1,g2⟩:=Dq (m:=f.1) hl;obtain⟨a1,a2,a3⟩:=jn inn n (aK (f::l) f.1).1 (c++[f.1]) g1 om;obtain⟨b1,b2,b3⟩:=jn inn n (aK (f::l) f.1).2 (c++[f.1.neg]) g2 om;unfold jo;refine⟨?_,?_,(hl f Ms).mem,a3,b3⟩
  ·simp only [bw];omega
  ·simp only [br];omega
theorem Ie (L:List Li) (f:Fg):sc L f≤L.length:=List.countP_le_length
theorem pQ (L:List Li):∀l:List Fg,fC L l≤l.length*(1+L.length)
 | []=>by simp [fC]
 |f::l=>by
  have:=pQ L l;have:=Ie L f;rw [oB,List.length_cons,Nat.add_mul];omega
end Go.Ab
namespace Go.Ab
open Go.Proofs
variable [Base]
theorem KK {P:Program}{F:Fr}{H:LH}{r1 r2 r3 r4:ResultVar}{s1 s2 s3 s4 res:SV}(h1:RV P F H r1 s1) (h2:RV P F H r2 s2) (h3:RV P F H r3 s3) (h4:RV P F H r4 s4) (hl:Le (tup [s1,s2,s3,s4]) res):jd P [r1,r2,r3,r4] res F H:=⟨[s1,s2,s3,s4],⟨h1,h2,h3,h4,trivial⟩,hl⟩
def lS (L:Nat) (s:Fg):Prop:=s.1.le L∧s.2.le (50*L)
theorem tt {l:Li}{L:Nat}(hl:l.le L) (h1:1≤L):∀{c:PC}{v w:Spn},(∀s∈c,s.1.le L)→v.le (50*L)→fZ l v c=some w→w.le (50*L)
 | [],v,w,_,hv,h=>by cases h;exact hv
 |s::c,v,w,hc,hv,h=>by
  rw [pe]at h;split at h
  ·exact tt hl h1 (fun x hx=>hc x (Mc hx)) (vM hl (hc s Ms) h1 hv) h
  ·cases h
theorem gK {pos:PC→Nat}{c:PC}{l:Li}{L:Nat}(hc:∀s∈c,lS L s) (hl:l.le L) (h1:1≤L):∀s∈(aA pos c l).1,lS L s:=fun s hs=>by
 unfold aA at hs;cases hp:gQ c l with
 |none=>rw [hp]at hs;exact hc s hs
 |some v =>
  rw [hp]at hs;simp only at hs;rw [(nH (cT c l) (l,v) _).mem_iff,List.mem_cons]at hs;rcases hs with e|e
  ·rw [e];exact⟨hl,tt hl h1 (fun x hx=>(hc x hx).1) (AR om) hp⟩
  ·obtain⟨s0,h2,h3,h4⟩:=jB.1 e;obtain⟨k1,k2⟩:=hc s0 h2;have hv:=vM k1 hl h1 k2;rw [zC]at h4;split at h4
   ·have e:=Option.some.inj h4;rw [lS,←h3,←e];exact⟨k1,hv⟩
   ·cases h4
theorem fB (pos:PC→Nat) (c:PC) (l:Li):(aA pos c l).1.length≤c.length+1:=by
 unfold aA;cases hp:gQ c l with
 |none=>exact Nat.le_succ _
 |some v =>
  have:=rI c l;simp only [List.length_append,List.length_cons,List.length_take,List.length_drop];omega
theorem oR {c:PC}{l:Li}{L:Nat}(hc:∀s∈c,lS L s) (hl:l.le L) (h1:1≤L) (hU:L≤500) (hn:c.length≤100000) :
  Pu Tryz.prog 125 [pcs c,lfl l] (Ab.tup [pcs (aA (aj l) c l).1,pcs (aA (aj l.neg) c l.neg).1,lit (.bool (aA (aj l) c l).2),lit (.bool (aA (aj l.neg) c l.neg).2)]):=by
 have c1:=Bd hc hl h1 hU hn;have hln:l.neg.le L:=⟨by show il (-l.a)≤L;rw [cj];exact hl.a,by show il (-l.b)≤L;rw [cj];exact hl.b,by show il (-l.c)≤L;rw [cj];exact hl.c⟩
 have c2:=Bd hc hln h1 hU hn;have c3:=AF l (hl.gr om);clear hc hl hln;refine Pi Tryz.func125 fun C=>?_
 repeat(first|(refine A1 ⟨?_⟩;intros)|refine W4 c1 ⟨?_⟩|refine W4 c2 ⟨?_⟩|refine W4 c3 ⟨?_⟩)
 exact aS (KK (RV.tmp rfl) (RV.tmp rfl) (RV.tmp rfl) (RV.tmp rfl) Lr)
theorem y9 (l:Li) (a b:Tr):Pu Tryz.prog 126 [lfl l,bt a,bt b] (bt (fQ l a b)):=by
 have c1:=qp l a b;cases a with
 |leaf i =>
  have d1:=bP i;cases b with
  |leaf j =>
   have d2:=bP j;show Pu _ _ _ (bt (if i=j then .leaf i else .node l (.leaf i) (.leaf j)))
   cases i <;> cases j
   all_goals
    first|rw [if_pos rfl]|rw [if_neg (by decide)]
    simp only [bt,eB]at *;refine Pi Tryz.func126 fun C=>?_
    exact Y3 d1 d2 c1
  |node m x y =>
   have d2:=cE m x y;show Pu _ _ _ (bt (.node l (.leaf i) (.node m x y)))
   refine Pi Tryz.func126 fun C=>?_
   exact Y3 d1 d2 c1
 |node m x y =>
  have d1:=cE m x y;show Pu _ _ _ (bt (.node l (.node m x y) b))
  refine Pi Tryz.func126 fun C=>?_
  exact Y2 d1 c1
theorem jk {L:Nat}(h1:1≤L) (hU:L≤500):∀(t:Tr) (c:PC),(t.all fun l=>l.le L)→(∀s∈c,lS L s)→c.length+br t≤100000→Pu Tryz.prog 85 [bt t,pcs c] (bt (dF aj t c))
 | .leaf i,c,_,_,_=>by
  have d1:=bP i;show Pu _ _ _ (bt (.leaf i))
  refine Pi Tryz.func85 fun C=>?_
  exact Y1 d1
 | .node l a b,c,hall,hc,hd=>by
  have hd':c.length+(1+max (br a) (br b))≤100000:=hd;have d1:=cE l a b;have d2:=oR hc hall.1 h1 hU om;have hln:l.neg.le L:=⟨by show il (-l.a)≤L;rw [cj];exact hall.1.a,by show il (-l.b)≤L;rw [cj];exact hall.1.b,by show il (-l.c)≤L;rw [cj];exact hall.1.c⟩
  have d3:=jk h1 hU a c hall.2.1 hc om;have d4:=jk h1 hU b c hall.2.2 hc om;have n1:=fB (aj l) c l;have n2:=fB (aj l.neg) c l.neg;have d5:=jk h1 hU a (aA (aj l) c l).1 hall.2.1 (gK hc hall.1 h1) om;have d6:=jk h1 hU b (aA (aj l.neg) c l.neg).1 hall.2.2 (gK hc hln h1) om;have d7:=y9 l (dF aj a (aA (aj l) c l).1) (dF aj b (aA (aj l.neg) c l.neg).1);unfold dF;clear hd hd' n1 n2 hc hall hln;generalize dF aj a c=ra at *;generalize dF aj b c=rb at *;generalize dF aj a (aA (aj l) c l).1=ra' at *;generalize dF aj b (aA (aj l.neg) c l.neg).1=rb' at *;generalize fQ l ra' rb'=rj at *;generalize(aA (aj l) c l).1=c1 at *;generalize(aA (aj l.neg) c l.neg).1=c2 at *;have en:bt (.node l a b)=pt (bc (.node l a b)):=rfl;generalize hb1:(aA (aj l) c l).2=b1 at *;generalize hb2:(aA (aj l.neg) c l.neg).2=b2 at *;clear hb1 hb2;simp only [bt,gA]at d1 d2⊢;cases b2
  ·rw [if_pos rfl];refine Pi Tryz.func85 fun C=>?_
   exact Y3 d1 d2 d3
  ·rw [if_neg (by decide)];cases b1
   ·rw [if_pos rfl];refine Pi Tryz.func85 fun C=>?_
    exact Y3 d1 d2 d4
   ·rw [if_neg (by decide)];refine Pi Tryz.func85 fun C=>?_
    repeat(first|(refine A1 ⟨?_⟩;intros)|refine W4 d1 ⟨?_⟩|refine W4 d2 ⟨?_⟩|refine W4 d5 ⟨?_⟩|refine W4 d6 ⟨?_⟩|refine W4 d7 ⟨?_⟩)
    exact E1
def bys (l:List UInt8):List SV:=l.map fun b=>lit (.int .u8 (b.toNat:Nat))
def Byt (l:List UInt8) (s:SV) (H:LH):Prop :=
 (l=[]∧s=lit (.slice none 0 0)∧H=[])∨
  l≠[]∧∃b c,l.length≤c∧c≤maxLen∧s=lit (.slice (some ⟨b,0,none⟩) l.length c)∧H=[(b,5,bys l++List.replicate (c-l.length) top)]
theorem Byt.nil:Byt [] (lit (.slice none 0 0)) [] := .inl ⟨rfl,rfl,rfl⟩
theorem Byt.co {l:List UInt8}{s:SV}{H:LH}(h:Byt l s H):CO s [s]:=by
 rcases h with⟨_,rfl,_⟩|⟨_,b,c,_,_,rfl,_⟩ <;> infer_instance
section
variable {P:Program}{C:Ctx}{n:Nat}{F:Fr}{H:LH}{ops:Array Oper}{K:Fr→LH→Prop}{rest:List Oper}{ty:TypeId}{pos:String}{aft:Array Edge}
end
section
variable {F:Fr}{H:LH}{ty:TypeId}
end
abbrev Bz (w:Nat):SV:=lit (.pointer (some ⟨w,0,none⟩))
section
variable {P:Program}{C:Ctx}{n:Nat}{F:Fr}{H:LH}{ops:Array Oper}{K:Fr→LH→Prop}{rest:List Oper}{ty:TypeId}{pos:String}{aft:Array Edge}
theorem Jy:jd P [] (Ab.tup []) F H:=⟨[],trivial,Le.refl _⟩
end
section
variable {P:Program}{C:Ctx}{n:Nat}{F:Fr}{H:LH}{ops:Array Oper}{K:Fr→LH→Prop}{rest:List Oper}{ty:TypeId}{pos:String}{aft:Array Edge}
end
end Go.Ab
