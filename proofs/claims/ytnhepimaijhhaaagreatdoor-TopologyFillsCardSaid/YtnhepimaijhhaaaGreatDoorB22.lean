/- Texts laid one behind the other: Spl, Raw, PRes, Sid, TcA, Bld, Wr. -/
import Derived.Test.YtnhepimaijhhaaaGreatDoorB21
import Derived.Lib.AppendStr
import Derived.Lib.UnsafeStr
import Derived.Lib.Builder
set_option linter.all false
set_option maxHeartbeats 16000000
namespace Go.Ab
open Go.Proofs
variable [Base]
theorem FK {s:Spn}(h:SpG s):iH [s]:=⟨fun x hx=>by rw [List.mem_singleton.1 hx];exact h,List.pairwise_singleton _ _⟩
theorem sS:iH []:=⟨fun s h=>(by cases h),List.Pairwise.nil⟩
theorem Ew {s:Spn}(h:cj s=false) (h1:s.nl=false) (h2:s.nh=false):s.lo<s.hi:=by
 obtain⟨a,b⟩:=f6 h;have a:=a.resolve_left (by rw [h1];decide);have b:=b.resolve_left (by rw [h2];decide);grind
theorem qX {v w:Spn}(hv:SpG v) (hw:SpG w) (h:cj (bN v w)=false):SpG (bN v w):=by
 refine⟨fun k=>?_,fun k=>?_,Ew h⟩
 ·have k:(v.nl&&w.nl)=true:=k;rw [Bool.and_eq_true]at k;show(if v.nl then w.lo else _)=0
  rw [if_pos k.1];exact hw.lo k.2
 ·have k:(v.nh&&w.nh)=true:=k;rw [Bool.and_eq_true]at k;show(if v.nh then w.hi else _)=0
  rw [if_pos k.1];exact hw.hi k.2
theorem tV {s:Spn}{t:Rat}:jJ [s] t↔InS s t:=⟨fun⟨u,hu,h⟩=>List.mem_singleton.1 hu▸h,fun h=>⟨s,List.mem_singleton.2 rfl,h⟩⟩
theorem wu (x y:Bool):opB 2 x y=(x&&y):=rfl
theorem GS {a b:List Spn}{t:Rat}(h:t∉cU (a++b)):t∉cU a∧t∉cU b :=
 ⟨fun k=>h (by obtain⟨s,h1,h2⟩:=dM.1 k;exact dM.2 ⟨s,List.mem_append_left _ h1,h2⟩),fun k=>h (by obtain⟨s,h1,h2⟩:=dM.1 k;exact dM.2 ⟨s,List.mem_append_right _ h1,h2⟩)⟩
theorem kw {s h:Spn}(hs:SpG s) (hh:SpG h):iE 2 [s] [h]=if cj (bN s h)then []else [bN s h]:=by
 obtain⟨h1,h2⟩:=tJ 2 [s] [h]
 have hm:∀t,t∉cU ([s]++[h])→(jJ (iE 2 [s] [h]) t↔InS (bN s h) t):=fun t ht=>by
  obtain⟨k1,k2⟩:=GS ht;rw [h2 t ht,wu,Bool.and_eq_true,ri k1,ri k2,tV,tV,gj]
 cases hb:cj (bN s h)with
 |true =>
  rw [if_pos rfl];refine lD (E:=cU ([s]++[h])) h1 sS fun t ht=>(hm t ht).trans ⟨fun k=>?_,fun⟨u,hu,_⟩=>(by cases hu)⟩
  rw [i8 k]at hb;cases hb
 |false =>
  rw [if_neg (by decide)];exact lD (E:=cU ([s]++[h])) h1 (FK (qX hs hh hb)) fun t ht=>(hm t ht).trans tV.symm
theorem kX {s:Spn}:iE 2 [s] []=[]:=by
 obtain⟨h1,h2⟩:=tJ 2 [s] [];refine lD (E:=cU ([s]++[])) h1 sS fun t ht=>(h2 t ht).trans ⟨fun k=>?_,fun⟨u,hu,_⟩=>(by cases hu)⟩
 rw [wu,Bool.and_eq_true]at k;have:=of_decide_eq_true k.2;cases this
theorem pS:SpG Spn.full:=⟨fun _=>rfl,fun _=>rfl,fun h=>by cases h⟩
theorem Gw (k u:Rat):SpG (hlf k u):=by
 unfold hlf;split
 ·exact⟨fun h=>(by cases h),fun _=>rfl,fun _ h=>(by cases h)⟩
 ·exact⟨fun _=>rfl,fun h=>(by cases h),fun h=>(by cases h)⟩
theorem yv {s:Spn}(h:SpG s):bN s Spn.full=s:=by
 obtain⟨a,b,c,d⟩:=s;have h1:=h.lo;have h2:=h.hi;unfold bN;cases c <;> cases d <;> simp at h1 h2⊢<;> simp [h1,h2]
theorem vg {l m:Li}(hl:l.ok) (h:dF l m≠0) (side:Int) (hs:side=1∨side = -1):fk l m side=([hlf (side*slp l m) (-(a6 m (aD l)/slp l m))],false):=by
 have hk:slp l m≠0:=fun e=>h (by rw [md,e];rfl)
 have hu:cl l (bz l m) = -(a6 m (aD l)/slp l m):=by
  have h1:=tH hk (cl l (bz l m));have h2:=nW hl h (cl l (bz l m));have:(cl l (bz l m) - -(a6 m (aD l)/slp l m))*slp l m=0:=by rw [←h1,h2];grind
  rcases Rat.mul_eq_zero.1 this with e|e
  ·grind
  ·exact absurd e hk
 unfold fk;rw [if_neg h];have hv:a6 m (atL l (cl l (bz l m)+1))=slp l m:=by rw [nW hl h];grind
 have hsd:dt m (atL l (cl l (bz l m)+1))=(slp l m).num.sign:=by unfold dt;rw [hv]
 rw [hsd,hu]
 have h3:(slp l m).num.sign=1∨(slp l m).num.sign = -1:=by
  have:=Int.sign_trichotomy (slp l m).num;have:(slp l m).num.sign≠0:=fun e=>hk (bC.1 e)
  omega
 have h4:(((-1:Int):Rat)*slp l m).num.sign = - (slp l m).num.sign:=by
  have:((-1:Int):Rat)*slp l m = - slp l m:=by
   have e:((-1:Int):Rat) = -1:=rfl;rw [e];grind
  rw [this,Rat.neg_num,Int.sign_neg]
 have h5:(((1:Int):Rat)*slp l m).num.sign=(slp l m).num.sign:=by
  have:((1:Int):Rat)*slp l m=slp l m:=by
   have e:((1:Int):Rat)=1:=rfl;rw [e];grind
  rw [this]
 unfold hlf;rcases hs with rfl|rfl
 ·rw [h5];rcases h3 with h3|h3 <;> rw [h3] <;> simp
 ·rw [h4];rcases h3 with h3|h3 <;> rw [h3] <;> simp
theorem Lh (x y:Rat) : -x / -y=x/y:=by
 by_cases h:y=0
 ·rw [h];simp [Rat.div_def]
 ·refine kG (n := -y) (by grind) ?_;rw [Rat.mul_comm,Rat.div_mul_cancel (by grind)];have:x/y*y=x:=Rat.div_mul_cancel h;grind
theorem Cf {l m:Li}{v:Spn}:ej l v m.neg=if(slp l m).num.sign=0 then(if(a6 m (aD l)).num.sign<0 then some v else none)
  else if cj (bN v (hlf (-slp l m) (-(a6 m (aD l)/slp l m))))then none else some (bN v (hlf (-slp l m) (-(a6 m (aD l)/slp l m)))):=by
 have e1:slp l m.neg = - slp l m:=by unfold slp Li.neg;simp only [Rat.intCast_neg];grind
 have e2:a6 m.neg (aD l) / - slp l m=a6 m (aD l)/slp l m:=by rw [fF];exact Lh _ _
 unfold ej;rw [e1,e2,fF,Rat.neg_num,Rat.neg_num,Int.sign_neg,Int.sign_neg];generalize(slp l m).num.sign=a;generalize(a6 m (aD l)).num.sign=b;by_cases h:a=0
 ·rw [if_pos om,if_pos h];by_cases k:b<0
  ·rw [if_pos om,if_pos k]
  ·rw [if_neg om,if_neg k]
 ·rw [if_neg om,if_neg h]
theorem iS {f:Fg}{m:Li}(hf:SpG f.2) (hb:cj f.2=false) (hl:f.1.ok):bh f m=(((ej f.1 f.2 m).toList).map fun s=>(f.1,s),((ej f.1 f.2 m.neg).toList).map fun s=>(f.1,s)):=by
 obtain⟨l,s⟩:=f;simp only at *;unfold bh;simp only;rw [Cf];by_cases hd:dF l m=0
 ·have hk:slp l m=0:=by rw [md]at hd;grind
  have hk0:(slp l m).num.sign=0:=bC.2 hk;unfold ej fk;rw [if_pos hd,if_pos hd,if_pos hk0,if_pos hk0];have hsd:dt m (aD l)=(a6 m (aD l)).num.sign:=rfl;rw [←hsd];have e2:iE 2 [s] [Spn.full]=[s]:=by rw [kw hf pS,yv hf,hb];rfl
  rcases uo m (aD l)with h|h|h
  ·rw [h];simp [e2,kX]
  ·rw [h];simp
  ·rw [h];simp [e2,kX]
 ·have hk:slp l m≠0:=fun e=>hd (by rw [md,e];rfl)
  have hk0:¬(slp l m).num.sign=0:=fun e=>hk (bC.1 e)
  rw [vg hl hd 1 (.inl rfl),vg hl hd (-1) (.inr rfl)];unfold ej;rw [if_neg hk0,if_neg hk0]
  have e1:((1:Int):Rat)*slp l m=slp l m:=by
   have e:((1:Int):Rat)=1:=rfl;rw [e];grind
  have e2:((-1:Int):Rat)*slp l m = - slp l m:=by
   have e:((-1:Int):Rat) = -1:=rfl;rw [e];grind
  rw [e1,e2];simp only [Bool.false_eq_true,if_false];rw [kw hf (Gw _ _),kw hf (Gw _ _)];split <;> split <;> rfl
def cK:Tr→Nat
 | .leaf _=>0
 | .node _ a b=>1+cK a+cK b
def aU:Tr→Nat
 | .leaf _=>0
 | .node _ a b=>1+max (aU a) (aU b)
def Crs (f:Fg) (m:Li):Prop:=∃t,InS f.2 t∧a6 m (atL f.1 t)=0∧slp f.1 m≠0
open Classical in
noncomputable def tK (L:List Li) (f:Fg):Nat:=L.countP fun m=>decide (Crs f m)
noncomputable def ga (L:List Li) (l:List Fg):Nat:=(l.map fun f=>1+tK L f).sum
theorem xW (L:List Li) (a b:List Fg):ga L (a++b)=ga L a+ga L b:=by unfold ga;rw [List.map_append,List.sum_append]
theorem pG (L:List Li) (f:Fg) (l:List Fg):ga L (f::l)=1+tK L f+ga L l:=by unfold ga;rw [List.map_cons,List.sum_cons]
open Classical in
theorem zf {L:List Li}{f g:Fg}(h:∀m∈L,Crs g m→Crs f m):tK L g≤tK L f:=by
 unfold tK;induction L with
 |nil=>simp
 |cons a L ih =>
  have ih:=ih fun m hm=>h m (Mc hm)
  rw [List.countP_cons,List.countP_cons];by_cases k:Crs g a
  ·rw [if_pos (decide_eq_true k),if_pos (decide_eq_true (h a List.mem_cons_self k))];omega
  ·rw [if_neg (by simpa using k)];omega
open Classical in
theorem JN {L:List Li}{f g k:Fg}(h1:∀m∈L,Crs g m→Crs f m) (h2:∀m∈L,Crs k m→Crs f m) (h3:∀m∈L,Crs g m→Crs k m→False){x:Li}(hx:x∈L) (x1:Crs f x) (x2:¬Crs g x) (x3:¬Crs k x) :
  tK L g+tK L k+1≤tK L f:=by
 unfold tK;induction L with
 |nil=>cases hx
 |cons a L ih =>
  have g1:∀m∈L,Crs g m→Crs f m:=fun m hm=>h1 m (Mc hm)
  have g2:∀m∈L,Crs k m→Crs f m:=fun m hm=>h2 m (Mc hm)
  have g3:∀m∈L,Crs g m→Crs k m→False:=fun m hm=>h3 m (Mc hm)
  rw [List.countP_cons,List.countP_cons,List.countP_cons]
  have base:L.countP (fun m=>decide (Crs g m))+L.countP (fun m=>decide (Crs k m))≤L.countP (fun m=>decide (Crs f m)):=by
   clear ih hx;induction L with
   |nil=>simp
   |cons b L ih' =>
    have ih':=ih' (fun m hm=>by rcases List.mem_cons.1 hm with e|e;exact h1 m (e▸Ms);exact h1 m (Mc (Mc e)))
     (fun m hm=>by rcases List.mem_cons.1 hm with e|e;exact h2 m (e▸Ms);exact h2 m (Mc (Mc e)))
     (fun m hm=>by rcases List.mem_cons.1 hm with e|e;exact h3 m (e▸Ms);exact h3 m (Mc (Mc e)))
     (fun m hm=>g1 m (Mc hm)) (fun m hm=>g2 m (Mc hm)) (fun m hm=>g3 m (Mc hm))
    rw [List.countP_cons,List.countP_cons,List.countP_cons];have b1:=g1 b Ms;have b2:=g2 b Ms;have b3:=g3 b Ms;by_cases p:Crs g b <;> by_cases q:Crs k b <;> by_cases r:Crs f b <;> simp only [p,q,r,decide_true,decide_false,if_true,Bool.false_eq_true,if_false] <;> first|omega|exact absurd (b1 p) r|exact absurd (b2 q) r|exact(b3 p q).elim
  have a1:=h1 a Ms;have a2:=h2 a Ms;have a3:=h3 a Ms;rcases List.mem_cons.1 hx with e|e
  ·subst e;simp only [x1,x2,x3,decide_true,decide_false,if_true,Bool.false_eq_true,if_false];omega
  ·have ih:=ih g1 g2 g3 e;by_cases p:Crs g a <;> by_cases q:Crs k a <;> by_cases r:Crs f a <;> simp only [p,q,r,decide_true,decide_false,if_true,Bool.false_eq_true,if_false] <;> first|omega|exact absurd (a1 p) r|exact absurd (a2 q) r|exact(a3 p q).elim
structure FgG (L:List Li) (f:Fg):Prop where
 ok:f.1.ok
 mem:f.1∈L
 g:SpG f.2
 b:cj f.2=false
theorem FgG.some {L:List Li}{f:Fg}(h:FgG L f):∃t,InS f.2 t:=⟨_,f6 h.b⟩
theorem H7 {l m:Li}{v w:Spn}(hv:SpG v) (hb:cj v=false) (h:ej l v m=some w):SpG w∧cj w=false:=by
 obtain⟨t,ht⟩:=kv ⟨_,f6 hb⟩ h;refine⟨?_,i8 ht⟩;unfold ej at h;split at h
 ·split at h
  ·cases h;exact hv
  ·cases h
 ·split at h
  ·cases h
  ·rename_i h2;cases h;exact qX hv (Gw _ _) (by simpa using h2)
theorem rx {f:Fg}{m:Li}{w:Spn}(h:ej f.1 f.2 m=some w){x:Li}(k:Crs (f.1,w) x):Crs f x:=by
 obtain⟨t,h1,h2,h3⟩:=k;exact⟨t,((eh h t).1 h1).1,h2,h3⟩
theorem InS.mid {s:Spn}{t u:Rat}(ht:InS s t) (hu:InS s u){v:Rat}(h1:t≤v) (h2:v≤u):InS s v:=by
 obtain⟨a,_⟩:=ht;obtain⟨_,b⟩:=hu;exact⟨a.imp id (fun k=>by grind),b.imp id (fun k=>by grind)⟩
theorem H6 {f:Fg}{m:Li}{w w':Spn}(hw:∃t,InS f.2 t) (h:ej f.1 f.2 m=some w) (h':ej f.1 f.2 m.neg=some w') :
  Crs f m∧¬Crs (f.1,w) m∧¬Crs (f.1,w') m∧∀x,Crs (f.1,w) x→Crs (f.1,w') x→False:=by
 obtain⟨t,ht⟩:=kv hw h;obtain⟨u,hu⟩:=kv hw h';obtain⟨t1,t2⟩:=(eh h t).1 ht;obtain⟨u1,u2⟩:=(eh h' u).1 hu;rw [fF]at u2
 have hk:slp f.1 m≠0:=fun e=>by
  rw [bq,e]at t2 u2;grind
 refine⟨?_,?_,?_,?_⟩
 ·have e:∀v,a6 m (atL f.1 v)=(v - -(a6 m (aD f.1)/slp f.1 m))*slp f.1 m:=tH hk;have e0:=e (-(a6 m (aD f.1)/slp f.1 m));rw [e]at t2 u2;generalize -(a6 m (aD f.1)/slp f.1 m)=z at *;refine⟨z,?_,by rw [e0];grind,hk⟩;by_cases hp:0<slp f.1 m
  ·have a:=(fY hp).1 t2;have b:=(fY (x:=z-u) hp).1 (by grind);exact InS.mid u1 t1 (by grind) (by grind)
  ·have hn:0 < - slp f.1 m:=by grind
   have a:=(fY (x:=z-t) hn).1 (by grind);have b:=(fY (x:=u-z) hn).1 (by grind);exact InS.mid t1 u1 (by grind) (by grind)
 ·rintro ⟨v,v1,v2,_⟩;have:=((eh h v).1 v1).2;simp only at v2;rw [v2]at this;exact absurd this (by decide)
 ·rintro ⟨v,v1,v2,_⟩;have:=((eh h' v).1 v1).2;simp only at v2;rw [fF,v2]at this;exact absurd this (by decide)
 ·rintro x ⟨v,v1,v2,v3⟩ ⟨v',w1,w2,w3⟩;simp only at v2 v3 w2
  have hvv:v=v':=by
   rw [bq]at v2 w2;have:(v-v')*slp f.1 x=0:=by grind
   rcases Rat.mul_eq_zero.1 this with e|e
   ·grind
   ·exact absurd e v3
  subst hvv;have a:=((eh h v).1 v1).2;have b:=((eh h' v).1 w1).2;rw [fF]at b;grind
theorem o5 {L:List Li}{f:Fg}{m:Li}(hf:FgG L f):(∀g∈(bh f m).1,FgG L g∧g.1=f.1)∧∀g∈(bh f m).2,FgG L g∧g.1=f.1:=by
 rw [iS hf.g hf.b hf.ok]
 have key:∀x:Li,∀g∈((ej f.1 f.2 x).toList).map (fun s=>(f.1,s)),FgG L g∧g.1=f.1:=fun x g hg=>by
  obtain⟨w,hw,rfl⟩:=List.mem_map.1 hg;rw [Option.mem_toList]at hw;obtain⟨a,b⟩:=H7 hf.g hf.b hw;exact⟨⟨hf.ok,hf.mem,a,b⟩,rfl⟩
 exact⟨key m,key m.neg⟩
theorem pz {L:List Li}{f:Fg}{m:Li}(hf:FgG L f):(bh f m).1.length≤1∧(bh f m).2.length≤1:=by
 rw [iS hf.g hf.b hf.ok];simp only [List.length_map];constructor
 ·cases ej f.1 f.2 m <;> simp
 ·cases ej f.1 f.2 m.neg <;> simp
theorem Cx {L:List Li}{f:Fg}{m:Li}(hf:FgG L f) (hm:m∈L):ga L (bh f m).1+ga L (bh f m).2≤1+tK L f:=by
 rw [iS hf.g hf.b hf.ok];cases h:ej f.1 f.2 m with
 |none =>
  cases h':ej f.1 f.2 m.neg with
  |none=>simp [ga]
  |some w' =>
   have:=zf (L:=L) (f:=f) (g:=(f.1,w')) fun x _ k=>rx h' k
   simp [ga];omega
 |some w =>
  have h1:=zf (L:=L) (f:=f) (g:=(f.1,w)) fun x _ k=>rx h k
  cases h':ej f.1 f.2 m.neg with
  |none=>simp [ga];omega
  |some w' =>
   obtain⟨a,b,c,d⟩:=H6 hf.some h h';have:=JN (L:=L) (f:=f) (g:=(f.1,w)) (k:=(f.1,w')) (fun x _ k=>rx h k) (fun x _ k=>rx h' k) (fun x _=>d x) hm a b c;simp [ga];omega
theorem zG {L:List Li}{f:Fg}(hf:FgG L f):bh f f.1=([],[]):=by
 have hk:slp f.1 f.1=0:=by unfold slp;grind
 have hb:a6 f.1 (aD f.1)=0:=by have:=iF hf.ok 0;rw [bq,hk]at this;grind
 rw [iS hf.g hf.b hf.ok,Cf];unfold ej;rw [hk,hb];simp
theorem Eu {L:List Li}{l:List Fg}{m:Li}(hl:∀f∈l,FgG L f):(∀g∈(aP l m).1,FgG L g)∧∀g∈(aP l m).2,FgG L g:=by
 unfold aP;constructor
 ·intro g hg;obtain⟨x,hx,hgx⟩:=List.mem_flatten.1 hg;obtain⟨f,hf,rfl⟩:=List.mem_map.1 hx;exact((o5 (hl f hf)).1 g hgx).1
 ·intro g hg;obtain⟨x,hx,hgx⟩:=List.mem_flatten.1 hg;obtain⟨f,hf,rfl⟩:=List.mem_map.1 hx;exact((o5 (hl f hf)).2 g hgx).1
theorem rN {L:List Li}{m:Li}(hm:m∈L):∀{l:List Fg},(∀f∈l,FgG L f)→ga L (aP l m).1+ga L (aP l m).2≤ga L l
 | [],_=>by simp [aP,ga]
 |f::l,hl=>by
  have ih:=rN hm (l:=l) fun x hx=>hl x (Mc hx)
  have h1:=Cx (hl f Ms) hm;unfold aP at *;simp only [List.map_cons,List.flatten_cons]at *;rw [xW,xW,pG];omega
theorem qk {L:List Li}{f:Fg}{l:List Fg}(hl:∀g∈f::l,FgG L g):ga L (aP (f::l) f.1).1+ga L (aP (f::l) f.1).2+1≤ga L (f::l):=by
 have hf:=hl f Ms;have ih:=rN hf.mem (l:=l) fun x hx=>hl x (Mc hx)
 unfold aP at *;simp only [List.map_cons,List.flatten_cons,zG hf,List.nil_append]at *;rw [pG];omega
def Tr.lin (L:List Li):Tr→Prop
 | .leaf _=>True
 | .node l a b=>l∈L∧a.lin L∧b.lin L
theorem jW {L:List Li}(inn:Pq→Bool):∀(n:Nat) (l:List Fg) (c:List Li),(∀f∈l,FgG L f)→ga L l<n→cK (jX inn n l c)≤ga L l∧aU (jX inn n l c)≤ga L l∧(jX inn n l c).lin L
 |0,_,_,_,h=>by omega
 |n+1,[],c,_,_=>⟨Nat.zero_le _,Nat.zero_le _,trivial⟩
 |n+1,f::l,c,hl,h=>by
  have hs:=qk hl;obtain⟨g1,g2⟩:=Eu (m:=f.1) hl;obtain⟨a1,a2,a3⟩:=jW inn n (aP (f::l) f.1).1 (c++[f.1]) g1 om;obtain⟨b1,b2,b3⟩:=jW inn n (aP (f::l) f.1).2 (c++[f.1.neg]) g2 om;unfold jX;refine⟨?_,?_,(hl f Ms).mem,a3,b3⟩
  ·simp only [cK];omega
  ·simp only [aU];omega
theorem JO (L:List Li) (f:Fg):tK L f≤L.length:=List.countP_le_length
theorem qQ (L:List Li):∀l:List Fg,ga L l≤l.length*(1+L.length)
 | []=>by simp [ga]
 |f::l=>by
  have:=qQ L l;have:=JO L f;rw [pG,List.length_cons,Nat.add_mul];omega
end Go.Ab
namespace Go.Ab
open Go.Proofs
variable [Base]
theorem MB {P:Program}{F:Fr}{H:LH}{r1 r2 r3 r4:ResultVar}{s1 s2 s3 s4 res:SV}(h1:RV P F H r1 s1) (h2:RV P F H r2 s2) (h3:RV P F H r3 s3) (h4:RV P F H r4 s4) (hl:Le (tup [s1,s2,s3,s4]) res):jK P [r1,r2,r3,r4] res F H:=⟨[s1,s2,s3,s4],⟨h1,h2,h3,h4,trivial⟩,hl⟩
def mO (L:Nat) (s:Fg):Prop:=s.1.le L∧s.2.le (50*L)
theorem uQ {l:Li}{L:Nat}(hl:l.le L) (h1:1≤L):∀{c:PC}{v w:Spn},(∀s∈c,s.1.le L)→v.le (50*L)→gJ l v c=some w→w.le (50*L)
 | [],v,w,_,hv,h=>by cases h;exact hv
 |s::c,v,w,hc,hv,h=>by
  rw [qp]at h;split at h
  ·exact uQ hl h1 (fun x hx=>hc x (Mc hx)) (wX hl (hc s Ms) h1 hv) h
  ·cases h
theorem io {pos:PC→Nat}{c:PC}{l:Li}{L:Nat}(hc:∀s∈c,mO L s) (hl:l.le L) (h1:1≤L):∀s∈(aG pos c l).1,mO L s:=fun s hs=>by
 unfold aG at hs;cases hp:iC c l with
 |none=>rw [hp]at hs;exact hc s hs
 |some v =>
  rw [hp]at hs;simp only at hs;rw [(oM (dk c l) (l,v) _).mem_iff,List.mem_cons]at hs;rcases hs with e|e
  ·rw [e];exact⟨hl,uQ hl h1 (fun x hx=>(hc x hx).1) (BZ om) hp⟩
  ·obtain⟨s0,h2,h3,h4⟩:=kf.1 e;obtain⟨k1,k2⟩:=hc s0 h2;have hv:=wX k1 hl h1 k2;rw [AL]at h4;split at h4
   ·have e:=Option.some.inj h4;rw [mO,←h3,←e];exact⟨k1,hv⟩
   ·cases h4
theorem fZ (pos:PC→Nat) (c:PC) (l:Li):(aG pos c l).1.length≤c.length+1:=by
 unfold aG;cases hp:iC c l with
 |none=>exact Nat.le_succ _
 |some v =>
  have:=td c l;simp only [List.length_append,List.length_cons,List.length_take,List.length_drop];omega
theorem pY {c:PC}{l:Li}{L:Nat}(hc:∀s∈c,mO L s) (hl:l.le L) (h1:1≤L) (hU:L≤500) (hn:c.length≤100000) :
  Pu Tryz.prog 143 [pcs c,lfl l] (Ab.tup [pcs (aG (ak l) c l).1,pcs (aG (ak l.neg) c l.neg).1,lit (.bool (aG (ak l) c l).2),lit (.bool (aG (ak l.neg) c l.neg).2)]):=by
 have c1:=Ck hc hl h1 hU hn;have hln:l.neg.le L:=⟨by show il (-l.a)≤L;rw [cw];exact hl.a,by show il (-l.b)≤L;rw [cw];exact hl.b,by show il (-l.c)≤L;rw [cw];exact hl.c⟩
 have c2:=Ck hc hln h1 hU hn;have c3:=BI l (hl.gr om);clear hc hl hln;refine Pi Tryz.func143 fun C=>?_
 repeat(first|(refine A1 ⟨?_⟩;intros)|refine W4 c1 ⟨?_⟩|refine W4 c2 ⟨?_⟩|refine W4 c3 ⟨?_⟩)
 exact aS (MB (RV.tmp rfl) (RV.tmp rfl) (RV.tmp rfl) (RV.tmp rfl) Lr)
theorem zt (l:Li) (a b:Tr):Pu Tryz.prog 144 [lfl l,bt a,bt b] (bt (ez l a b)):=by
 have c1:=rz l a b;cases a with
 |leaf i =>
  have d1:=cC i;cases b with
  |leaf j =>
   have d2:=cC j;show Pu _ _ _ (bt (if i=j then .leaf i else .node l (.leaf i) (.leaf j)))
   cases i <;> cases j
   all_goals
    first|rw [if_pos rfl]|rw [if_neg (by decide)]
    simp only [bt,fg]at *;refine Pi Tryz.func144 fun C=>?_
    exact Y3 d1 d2 c1
  |node m x y =>
   have d2:=cR m x y;show Pu _ _ _ (bt (.node l (.leaf i) (.node m x y)))
   refine Pi Tryz.func144 fun C=>?_
   exact Y3 d1 d2 c1
 |node m x y =>
  have d1:=cR m x y;show Pu _ _ _ (bt (.node l (.node m x y) b))
  refine Pi Tryz.func144 fun C=>?_
  exact Y2 d1 c1
theorem jR {L:Nat}(h1:1≤L) (hU:L≤500):∀(t:Tr) (c:PC),(t.all fun l=>l.le L)→(∀s∈c,mO L s)→c.length+aU t≤100000→Pu Tryz.prog 99 [bt t,pcs c] (bt (dR ak t c))
 | .leaf i,c,_,_,_=>by
  have d1:=cC i;show Pu _ _ _ (bt (.leaf i))
  refine Pi Tryz.func99 fun C=>?_
  exact Y1 d1
 | .node l a b,c,hall,hc,hd=>by
  have hd':c.length+(1+max (aU a) (aU b))≤100000:=hd;have d1:=cR l a b;have d2:=pY hc hall.1 h1 hU om;have hln:l.neg.le L:=⟨by show il (-l.a)≤L;rw [cw];exact hall.1.a,by show il (-l.b)≤L;rw [cw];exact hall.1.b,by show il (-l.c)≤L;rw [cw];exact hall.1.c⟩
  have d3:=jR h1 hU a c hall.2.1 hc om;have d4:=jR h1 hU b c hall.2.2 hc om;have n1:=fZ (ak l) c l;have n2:=fZ (ak l.neg) c l.neg;have d5:=jR h1 hU a (aG (ak l) c l).1 hall.2.1 (io hc hall.1 h1) om;have d6:=jR h1 hU b (aG (ak l.neg) c l.neg).1 hall.2.2 (io hc hln h1) om;have d7:=zt l (dR ak a (aG (ak l) c l).1) (dR ak b (aG (ak l.neg) c l.neg).1);unfold dR;clear hd hd' n1 n2 hc hall hln;generalize dR ak a c=ra at *;generalize dR ak b c=rb at *;generalize dR ak a (aG (ak l) c l).1=ra' at *;generalize dR ak b (aG (ak l.neg) c l.neg).1=rb' at *;generalize ez l ra' rb'=rj at *;generalize(aG (ak l) c l).1=c1 at *;generalize(aG (ak l.neg) c l.neg).1=c2 at *;have en:bt (.node l a b)=pt (bc (.node l a b)):=rfl;generalize hb1:(aG (ak l) c l).2=b1 at *;generalize hb2:(aG (ak l.neg) c l.neg).2=b2 at *;clear hb1 hb2;simp only [bt,i5]at d1 d2⊢;cases b2
  ·rw [if_pos rfl];refine Pi Tryz.func99 fun C=>?_
   exact Y3 d1 d2 d3
  ·rw [if_neg (by decide)];cases b1
   ·rw [if_pos rfl];refine Pi Tryz.func99 fun C=>?_
    exact Y3 d1 d2 d4
   ·rw [if_neg (by decide)];refine Pi Tryz.func99 fun C=>?_
    repeat(first|(refine A1 ⟨?_⟩;intros)|refine W4 d1 ⟨?_⟩|refine W4 d2 ⟨?_⟩|refine W4 d5 ⟨?_⟩|refine W4 d6 ⟨?_⟩|refine W4 d7 ⟨?_⟩)
    exact E1
theorem B7 {C D:List Li}(hC:∀l∈C,l.ok) (hD:∀l∈D,l.ok) (hq:∃q,Inn C q) (he:∀q,Inn C q↔Inn D q){m:Li}(hm:m∈C) (hE:Edg C m):m∈D:=by
 have hmo:=hC m hm;obtain⟨r,hr,hv⟩:=hE;obtain⟨t,rfl⟩:∃t,r=atL m t:=⟨cl m r,(nP hmo hr).symm⟩
 have hnear:∀u,(∀j∈C,j≠m→0<a6 j (atL m u))→∃k:Rat,0<k∧∀e,0<e→e≤k→Inn D ((atL m u).1+e*m.a,(atL m u).2+e*m.b):=fun u hu=>by
  obtain⟨k,hk,hs⟩:=fJ (fun i=>a6 i (atL m u)) (fun i=>(i.a:Rat)*m.a+i.b*m.b) (C.filter fun i=>decide (i≠m)) (fun i hi=>by
   rw [List.mem_filter,decide_eq_true_eq]at hi;exact hu i hi.1 hi.2)
  refine⟨k,hk,fun e he0 hle=>(he _).1 fun i hi=>?_⟩;rw [bU];by_cases him:i=m
  ·rw [him,iF hmo,Rat.zero_add];exact Rat.mul_pos he0 (dA hmo)
  ·exact hs i (List.mem_filter.2 ⟨hi,decide_eq_true him⟩) e he0 hle
 have hge:∀u,(∀j∈C,j≠m→0<a6 j (atL m u))→∀j∈D,0≤a6 j (atL m u):=fun u hu j hj=>by
  obtain⟨k,hk,hs⟩:=hnear u hu;refine Rat.not_lt.1 fun hn=>?_
  obtain⟨e,he0,hse⟩:=fJ (fun _:Unit => - a6 j (atL m u)) (fun _ => -((j.a:Rat)*m.a+j.b*m.b)) [()] (fun _ _=>by grind)
  have h2:∃e',0<e'∧e'≤e∧e'≤k:=by
   rcases Rat.le_total (a:=e) (b:=k)with h|h
   ·exact⟨e,he0,Rat.le_refl,h⟩
   ·exact⟨k,hk,h,Rat.le_refl⟩
  obtain⟨e',p1,p2,p3⟩:=h2;have h3:=hs e' p1 p3 j hj;have h4:=hse () List.mem_cons_self e' p1 p2;rw [bU]at h3;grind
 obtain⟨j,hj,hz⟩:∃j∈D,a6 j (atL m t)=0:=by
  refine Classical.byContradiction fun hno=>?_
  have:Inn D (atL m t):=fun j hj=>by
   have h0:=hge t hv j hj;by_cases h:a6 j (atL m t)=0
   ·exact absurd ⟨j,hj,h⟩ hno
   ·grind
  have:=(he _).2 this m hm;rw [iF hmo]at this;exact absurd this (by decide)
 obtain⟨e,he0,hs⟩:=fJ (fun i:Li×Bool=>a6 i.1 (atL m t)) (fun i=>if i.2 then slp m i.1 else-slp m i.1)
  (((C.filter fun i=>decide (i≠m)).map fun i=>(i,true))++((C.filter fun i=>decide (i≠m)).map fun i=>(i,false))) (fun i hi=>by
   rcases List.mem_append.1 hi with hi|hi <;> (obtain⟨i',hi',rfl⟩:=List.mem_map.1 hi;rw [List.mem_filter,decide_eq_true_eq]at hi';exact hv i' hi'.1 hi'.2))
 have g1:=hge (t+e) (fun i hi him=>by
  have:=hs (i,true) (List.mem_append_left _ (List.mem_map.2 ⟨i,List.mem_filter.2 ⟨hi,decide_eq_true him⟩,rfl⟩)) e he0 Rat.le_refl;simp only [if_true]at this;rw [bq]at this⊢;grind) j hj
 have g2:=hge (t-e) (fun i hi him=>by
  have:=hs (i,false) (List.mem_append_right _ (List.mem_map.2 ⟨i,List.mem_filter.2 ⟨hi,decide_eq_true him⟩,rfl⟩)) e he0 Rat.le_refl;simp only [Bool.false_eq_true,if_false]at this;rw [bq]at this⊢;grind) j hj
 have v1:a6 j (atL m (t+e))=e*slp m j:=by rw [bq]at hz⊢;grind
 have v2:a6 j (atL m (t-e)) = -(e*slp m j):=by rw [bq]at hz⊢;grind
 rw [v1]at g1;rw [v2]at g2;have hz2:a6 j (atL m (t+e))=0:=by rw [v1];grind
 rcases s6 hmo (hD j hj) (show t≠t+e by grind) hz hz2 with k|k
 ·rw [←k];exact hj
 ·exfalso;obtain⟨q,hq⟩:=hq;have p1:=(he q).1 hq j hj;have p2:=hq m hm;rw [k,fF]at p1;grind
theorem cW.edg {c:PC}(h:cW c){m:Li}(hm:m∈aa c):Edg (aa c) m:=by
 obtain⟨s,hs,rfl⟩:=List.mem_map.1 hm;obtain⟨h1,t,ht⟩:=h.span s hs;exact⟨atL s.1 t,iF (h.ok s hs) t,(h1 t).1 ht⟩
theorem zH {c:PC}(h:cW c){C:List Li}(hC:∀l∈C,l.ok) (hE:∀l∈C,Edg C l) (he:∀q,Inn (aa c) q↔Inn C q) (m:Li):m∈aa c↔m∈C :=
 ⟨fun hm=>B7 h.lok hC h.inn he hm (h.edg hm),fun hm=>B7 hC h.lok (h.inn.imp fun q hq=>(he q).1 hq) (fun q=>(he q).symm) hm (hE m hm)⟩
theorem Edg.mono {C D:List Li}{m:Li}(h:∀j∈D,j∈C) (hE:Edg C m):Edg D m:=by
 obtain⟨r,h1,h2⟩:=hE;exact⟨r,h1,fun j hj=>h2 j (h j hj)⟩
theorem AQ {c:List Li}(hc:∀l∈c,l.ok){l:Li}(h:l∈aZ c):Edg (aZ c) l :=
 ((dV hc).1 h).2.mono fun j hj=>((dV hc).1 hj).1
def qF (s:Spn):Spn:=⟨if s.nh then 0 else -s.hi,if s.nl then 0 else -s.lo,s.nh,s.nl⟩
theorem BA (s:Spn) (t:Rat):InS (qF s) t↔InS s (-t):=by
 obtain⟨a,b,c,d⟩:=s;unfold InS qF;cases c <;> cases d <;> simp <;> grind
def u0 (s u:Fg):Option Spn :=
 if u.1=s.1 then(if cj (bN s.2 u.2)then none else some (bN s.2 u.2))
 else if u.1=s.1.neg then(if cj (bN s.2 (qF u.2))then none else some (bN s.2 (qF u.2)))
 else none
def dD (c d:PC):Bool:=c.any fun s=>d.any fun u=>(u0 s u).isSome
def Shr (a b:List Li):Prop:=∃l∈a,l.neg∈b∧∃t,∀m,m∈a∨m∈b→m≠l→m≠l.neg→0<a6 m (atL l t)
theorem FP (l:Li):aD l.neg=aD l:=by
 have e:l.neg.bf = - l.bf:=by
  unfold Li.bf Li.neg;simp only [Rat.intCast_neg];rw [show(-(l.b:Rat)) * -l.b + - -(l.a:Rat) * - -l.a=(l.b:Rat)*l.b + -(l.a:Rat) * -l.a by grind,Rat.div_def,Rat.div_def];grind
 unfold aD;rw [e];unfold Li.neg;simp only [Rat.intCast_neg];refine Prod.ext ?_ ?_ <;> simp only <;> grind
theorem Ai (l:Li) (t:Rat):atL l.neg (-t)=atL l t:=by
 unfold atL;rw [FP];unfold cA aK Li.neg;simp only [Rat.intCast_neg];refine Prod.ext ?_ ?_ <;> simp only <;> grind
theorem BX {s:Spn}:cj s=false↔∃t,InS s t:=⟨fun h=>⟨_,f6 h⟩,fun⟨_,h⟩=>i8 h⟩
theorem y5 (s u:Fg):(u0 s u).isSome=true↔(u.1=s.1∧∃t,InS s.2 t∧InS u.2 t)∨(u.1=s.1.neg∧u.1≠s.1∧∃t,InS s.2 t∧InS u.2 (-t)):=by
 unfold u0;by_cases h1:u.1=s.1
 ·rw [if_pos h1]
  have e:(∃t,InS s.2 t∧InS u.2 t)↔cj (bN s.2 u.2)=false:=by
   rw [BX];exact⟨fun⟨t,h⟩=>⟨t,(gj _ _ t).2 h⟩,fun⟨t,h⟩=>⟨t,(gj _ _ t).1 h⟩⟩
  rw [e];cases cj (bN s.2 u.2) <;> simp [h1]
 ·rw [if_neg h1];by_cases h2:u.1=s.1.neg
  ·rw [if_pos h2]
   have e:(∃t,InS s.2 t∧InS u.2 (-t))↔cj (bN s.2 (qF u.2))=false:=by
    rw [BX];exact⟨fun⟨t,h⟩=>⟨t,(gj _ _ t).2 ⟨h.1,(BA _ t).2 h.2⟩⟩,fun⟨t,h⟩=>by have:=(gj _ _ t).1 h;exact⟨t,this.1,(BA _ t).1 this.2⟩⟩
   rw [e];have h1':s.1.neg≠s.1:=fun e=>h1 (h2.trans e)
   cases cj (bN s.2 (qF u.2)) <;> simp [h2,h1']
  ·rw [if_neg h2];simp [h1,h2]
theorem wv {C:List Li}{q:Pq}(h:Inn C q){l:Li}(hl:l∈C):l.neg∉C:=fun hn=>by
 have h1:=h l hl;have h2:=h l.neg hn;rw [fF]at h2;grind
theorem du (l:Li):l.neg.neg=l:=by unfold Li.neg;simp
theorem ui {c d:PC}(hc:cW c) (hd:cW d) (hdis:∀q,Inn (aa c) q→¬Inn (aa d) q):dD c d=true↔Shr (aa c) (aa d):=by
 obtain⟨qc,hqc⟩:=hc.inn;obtain⟨qd,hqd⟩:=hd.inn;unfold dD;rw [List.any_eq_true];constructor
 ·rintro ⟨s,hs,h⟩;rw [List.any_eq_true]at h;obtain⟨u,hu,h⟩:=h;have hsl:s.1∈aa c:=List.mem_map.2 ⟨s,hs,rfl⟩;have hul:u.1∈aa d:=List.mem_map.2 ⟨u,hu,rfl⟩;rcases(y5 s u).1 h with⟨e,t,h1,h2⟩|⟨e,_,t,h1,h2⟩
  ·exfalso;have v1:=((hc.span s hs).1 t).1 h1;have v2:=((hd.span u hu).1 t).1 h2;rw [e]at v2
   obtain⟨k,hk,hsm⟩:=fJ (fun i=>a6 i (atL s.1 t)) (fun i=>(i.a:Rat)*s.1.a+i.b*s.1.b) (((aa c)++(aa d)).filter fun i=>decide (i≠s.1)) (fun i hi=>by
    rw [List.mem_filter,decide_eq_true_eq]at hi;rcases List.mem_append.1 hi.1 with h|h
    ·exact v1 i h hi.2
    ·exact v2 i h hi.2)
   have key:∀i,i∈aa c++aa d→0<a6 i ((atL s.1 t).1+k*s.1.a,(atL s.1 t).2+k*s.1.b):=fun i hi=>by
    rw [bU];by_cases him:i=s.1
    ·rw [him,iF (hc.ok s hs),Rat.zero_add];exact Rat.mul_pos hk (dA (hc.ok s hs))
    ·exact hsm i (List.mem_filter.2 ⟨hi,decide_eq_true him⟩) k hk Rat.le_refl
   exact hdis _ (fun i hi=>key i (List.mem_append_left _ hi)) (fun i hi=>key i (List.mem_append_right _ hi))
  ·refine⟨s.1,hsl,e▸hul,t,fun m hm n1 n2=>?_⟩;rcases hm with hm|hm
   ·exact((hc.span s hs).1 t).1 h1 m hm n1
   ·have:=((hd.span u hu).1 (-t)).1 h2 m hm (by rw [e];exact n2);rw [e,Ai]at this;exact this
 ·rintro ⟨l,hl,hn,t,ht⟩;obtain⟨s,hs,rfl⟩:=List.mem_map.1 hl;obtain⟨u,hu,e⟩:=List.mem_map.1 hn;refine⟨s,hs,List.any_eq_true.2 ⟨u,hu,(y5 s u).2 (.inr ⟨e,?_,t,?_,?_⟩)⟩⟩
  ·rw [e];intro h;have h1:=hqc s.1 hl;have h2:=fF s.1 qc;rw [h]at h2;grind
  ·refine((hc.span s hs).1 t).2 fun m hm n1=>ht m (.inl hm) n1 fun h=>?_
   rw [h]at hm;exact wv hqc hl hm
  ·refine((hd.span u hu).1 (-t)).2 fun m hm n1=>?_
   rw [e,Ai];refine ht m (.inr hm) (fun h=>?_) (by rw [←e];exact n1);rw [h]at hm;exact wv hqd hn (by rw [du];exact hm)
theorem e0r:r0 (0:Rat)=0:=by decide +kernel
theorem e1r:r1 (0:Rat)=0:=by decide +kernel
theorem e2r:r2 (0:Rat)=lit (.pointer none):=if_pos (by decide +kernel)
theorem e3r:(((0:Int)):Rat)=0:=rfl
theorem Gg (s:Spn) (h:s.le 1000000):Pu Tryz.prog 184 [iv s] (iv (qF s)):=by
 obtain⟨lo,hi,nl,nh⟩:=s;obtain⟨h1,h2⟩:=h;simp only at h1 h2;have c1:=iN hi om;have c2:=iN lo om;cases nl <;> cases nh
 all_goals
  simp only [qF,Bool.false_eq_true,if_false,if_true];unfold iv ivx;simp only [e0r,e1r,e2r];clear h1 h2;generalize -hi=a at *;generalize -lo=b at *;refine Pi Tryz.func184 fun C=>?_
  exact X2 c1 c2
theorem J7 {s:Spn}{n:Nat}(h:s.le n) (h1:1≤n):(qF s).le n:=by
 have h0:=ij;obtain⟨a,b⟩:=h;unfold qF;constructor
 ·show ht (if s.nh then 0 else -s.hi)≤n
  split
  ·omega
  ·rw [cz];exact b
 ·show ht (if s.nl then 0 else -s.lo)≤n
  split
  ·omega
  ·rw [cz];exact a
def l9 (u:Fg) (l:Li):Spn×Bool:=if u.1=l then(u.2,true)else if u.1=l.neg then(qF u.2,true)else(⟨0,0,false,false⟩,false)
theorem IZ {u:Fg}{l:Li}{L:Nat}(h1:1≤L) (hU:L≤500) (hu:mO L u) (hl:l.le L):Pu Tryz.prog 145 [ag (fgx u),lfl l] (Ab.tup [iv (l9 u l).1,lit (.bool (l9 u l).2)]):=by
 obtain⟨m,s⟩:=u;obtain⟨hm,hs⟩:=hu;simp only at hm hs;have hn:l.neg.le L:=⟨by show il (-l.a)≤L;rw [cw];exact hl.a,by show il (-l.b)≤L;rw [cw];exact hl.b,by show il (-l.c)≤L;rw [cw];exact hl.c⟩
 have c1:=pM hm hl h1 om;have c2:=pM hm hn h1 om;have c3:=BI l (hl.gr om);have c4:=Gg s ⟨by have:=hs.1;omega,by have:=hs.2;omega⟩;unfold l9;simp only;clear hm hs hl hn;by_cases k1:m=l
 ·rw [if_pos k1];rw [decide_eq_true k1]at c1;refine Pi Tryz.func145 fun C=>?_
  repeat(first|(refine A1 ⟨?_⟩;intros)|refine W4 c1 ⟨?_⟩)
  exact G3
 ·rw [if_neg k1];rw [decide_eq_false k1]at c1;by_cases k2:m=l.neg
  ·rw [if_pos k2];rw [decide_eq_true k2]at c2;clear k1 k2;generalize l.neg=l' at *;generalize qF s=s' at *;refine Pi Tryz.func145 fun C=>?_
   repeat(first|(refine A1 ⟨?_⟩;intros)|refine W4 c1 ⟨?_⟩|refine W4 c2 ⟨?_⟩|refine W4 c3 ⟨?_⟩|refine W4 c4 ⟨?_⟩)
   exact G3
  ·rw [if_neg k2];rw [decide_eq_false k2]at c2;clear k1 k2;generalize l.neg=l' at *;unfold iv ivx;simp only [e0r,e1r,e2r];refine Pi Tryz.func145 fun C=>?_
   repeat(first|(refine A1 ⟨?_⟩;intros)|refine W4 c1 ⟨?_⟩|refine W4 c2 ⟨?_⟩|refine W4 c3 ⟨?_⟩)
   exact G3
def zFg:Fg:=(⟨0,0,0⟩,⟨0,0,false,false⟩)
def CW (s u:Fg):Fg×Bool :=
 if(l9 u s.1).2=true then(if cj (bN s.2 (l9 u s.1).1)=true then(zFg,false)else((s.1,bN s.2 (l9 u s.1).1),true))else(zFg,false)
theorem It (s u:Fg):(CW s u).2=(u0 s u).isSome:=by
 unfold CW u0 l9;by_cases h1:u.1=s.1
 ·rw [if_pos h1,if_pos h1,if_pos rfl];simp only;split <;> rfl
 ·rw [if_neg h1,if_neg h1];by_cases h2:u.1=s.1.neg
  ·rw [if_pos h2,if_pos h2,if_pos rfl];simp only;split <;> rfl
  ·rw [if_neg h2,if_neg h2];rfl
theorem Ac {s u:Fg}{L:Nat}(h1:1≤L) (hU:L≤500) (hs:mO L s) (hu:mO L u):Pu Tryz.prog 101 [ag (fgx s),ag (fgx u)] (Ab.tup [ag (fgx (CW s u).1),lit (.bool (CW s u).2)]):=by
 have c1:=IZ h1 hU hu hs.1
 have hle:(l9 u s.1).1.le (50*L):=by
  have h0:=ij;unfold l9;split
  ·exact hu.2
  ·split
   ·exact J7 hu.2 om
   ·exact⟨by show ht 0≤_;omega,by show ht 0≤_;omega⟩
 have c2:=ve s.2 (l9 u s.1).1 ⟨by have:=hs.2.1;omega,by have:=hs.2.2;omega⟩ ⟨by have:=hle.1;omega,by have:=hle.2;omega⟩;unfold CW;clear hs hu hle;obtain⟨l,v⟩:=s;simp only at *;generalize(l9 u l).2=ok at *;generalize(l9 u l).1=w at *;generalize bN v w=x at *;generalize cj x=bad at *;cases ok
 ·rw [if_neg (by decide)];unfold zFg fgx;simp only [e3r,e0r,e1r,e2r];refine Pi Tryz.func101 fun C=>?_
  repeat(first|(refine A1 ⟨?_⟩;intros)|refine W4 c1 ⟨?_⟩)
  exact G3
 ·rw [if_pos rfl];cases bad
  ·rw [if_neg (by decide)];simp only [Bool.not_false]at c2;refine Pi Tryz.func101 fun C=>?_
   repeat(first|(refine A1 ⟨?_⟩;intros)|refine W4 c1 ⟨?_⟩|refine W4 c2 ⟨?_⟩)
   exact G3
  ·rw [if_pos rfl];simp only [Bool.not_true]at c2;unfold zFg fgx;simp only [e3r,e0r,e1r,e2r];refine Pi Tryz.func101 fun C=>?_
   repeat(first|(refine A1 ⟨?_⟩;intros)|refine W4 c1 ⟨?_⟩|refine W4 c2 ⟨?_⟩)
   exact G3
theorem zD {c d:PC}{L:Nat}(h1:1≤L) (hU:L≤500) (hc:∀s∈c,mO L s) (hd:∀s∈d,mO L s) (hlc:c.length≤100000) (hld:d.length≤100000):Pu Tryz.prog 58 [pcs c,pcs d] (lit (.bool (dD c d))):=by
 refine Pi Tryz.func58 fun C=>?_
 repeat(refine A1 ⟨?_⟩;intros)
 refine WP.loopS (ι:=Nat) (fun k=>k≤c.length∧dD (c.drop k) d=dD c d) (fun k=>c.length-k)
  (fun k=>fm [(1,pcs d),(11,pcs c),(12,lit (.int .i64 c.length)),(13,lit (.int .i64 k))]) (fun _=>[]) 0 ⟨Nat.zero_le _,rfl⟩ lfA (List.nil_sublist _) ?_
 rintro k ⟨hk,hR⟩ K hK;by_cases hkl:k<c.length
 ·obtain⟨s,hget,hmm,hat,hne⟩:=elt f8 om hkl;have hs:=hc s hmm;have hgo:=fun(h:dD (c.drop (k+1)) d=dD c d) F' H'=>hK F' H' (k+1) ⟨om,h⟩ om
  rw [f9 hget]at hR;have e:dD (s::c.drop (k+1)) d=(d.any (fun u=>(u0 s u).isSome)||dD (c.drop (k+1)) d):=by unfold dD;rw [List.any_cons]
  rw [e]at hR;clear hK hc hget hmm e;generalize dD (c.drop (k+1)) d=R1 at *;generalize dD c d=R at *;repeat(refine A1 ⟨?_⟩;intros)
  refine Wo (a7 (cs':=fgx s) rfl rfl om om hat hne) ?_;repeat(refine A1 ⟨?_⟩;intros)
  rename_i b6
  refine WP.loopS (ι:=Nat) (fun j=>j≤d.length∧((d.drop j).any (fun u=>(u0 s u).isSome)||R1)=R) (fun j=>d.length-j)
   (fun j=>fm [(1,pcs d),(6,lit (.pointer (some ⟨b6,0,none⟩))),(11,pcs c),(12,lit (.int .i64 c.length)),(13,lit (.int .i64 k)),(17,pcs d),(18,lit (.int .i64 d.length)),(19,lit (.int .i64 j))]) (fun _=>[(b6,frT,fgx s)]) 0 ⟨Nat.zero_le _,hR⟩ lfA Sr ?_
  clear hR;rintro j ⟨hj,hR⟩ K2 hK2;by_cases hjl:j<d.length
  ·obtain⟨u,hget2,hmm2,hat2,hne2⟩:=elt f8 om hjl;have cv:=Ac h1 hU hs (hd u hmm2);rw [f9 hget2,List.any_cons]at hR;have hgo2:=fun(h:((d.drop (j+1)).any (fun u=>(u0 s u).isSome)||R1)=R) F' H'=>hK2 F' H' (j+1) ⟨om,h⟩ om
   rw [It]at cv;generalize(d.drop (j+1)).any (fun u=>(u0 s u).isSome)=R2 at *;generalize(CW s u).1=vv at *;clear hK2 hget2 hmm2 hd hs hgo;cases ho:(u0 s u).isSome with
   |true =>
    rw [ho]at hR cv;rw [Bool.true_or,Bool.true_or]at hR;subst hR;clear hgo2;repeat(refine A1 ⟨?_⟩;intros)
    refine Wo (a7 (cs':=fgx u) rfl rfl om om hat2 hne2) ?_;exact Y1 cv
   |false =>
    rw [ho]at hR cv;rw [Bool.false_or]at hR;replace hgo2:=hgo2 hR;clear hR;repeat(refine A1 ⟨?_⟩;intros)
    refine Wo (a7 (cs':=fgx u) rfl rfl om om hat2 hne2) ?_;repeat(first|(refine A1 ⟨?_⟩;intros)|refine W4 cv ⟨?_⟩)
    exact hgo2 _ _ lfA (by repeat(first|exact Sr|refine Sc ?_))
  ·have hje:j=d.length:=by omega
   subst hje;rw [List.drop_length,List.any_nil,Bool.false_or]at hR;replace hgo:=hgo hR;clear hK2 hd hs;repeat(refine A1 ⟨?_⟩;intros)
   exact hgo _ _ lfA (List.nil_sublist _)
 ·have hke:k=c.length:=by omega
  subst hke;rw [List.drop_length]at hR;rw [←hR];clear hK hc hd;exact Z1
def nN (c:PC):Bool:=c.all (fun s => !s.2.nl && !s.2.nh)&&decide (0<c.length)
theorem zj (c:PC) (hl:c.length≤100000):Pu Tryz.prog 59 [pcs c] (lit (.bool (nN c))):=by
 have hR0:((c.drop 0).all (fun s => !s.2.nl && !s.2.nh)&&decide (0<c.length))=nN c:=rfl;generalize nN c=R at *;refine Pi Tryz.func59 fun C=>?_
 repeat(refine A1 ⟨?_⟩;intros)
 refine WP.loopS (ι:=Nat) (fun k=>k≤c.length∧((c.drop k).all (fun s => !s.2.nl && !s.2.nh)&&decide (0<c.length))=R) (fun k=>c.length-k)
  (fun k=>fm [(0,pcs c),(5,pcs c),(6,lit (.int .i64 c.length)),(7,lit (.int .i64 k))]) (fun _=>[]) 0 ⟨Nat.zero_le _,hR0⟩ lfA (List.nil_sublist _) ?_
 clear hR0;rintro k ⟨hk,hR⟩ K hK;by_cases hkl:k<c.length
 ·obtain⟨s,hget,hmm,hat,hne⟩:=elt f8 om hkl;have hgo:=fun(h:((c.drop (k+1)).all (fun s => !s.2.nl && !s.2.nh)&&decide (0<c.length))=R) F' H'=>hK F' H' (k+1) ⟨om,h⟩ om
  rw [f9 hget,List.all_cons]at hR;obtain⟨m,lo,hi,nl,nh⟩:=s;simp only at hR;clear hK hget hmm;cases nl <;> cases nh
  ·simp only [Bool.not_false,Bool.true_and,Bool.and_self]at hR;replace hgo:=hgo hR;clear hR;repeat(refine A1 ⟨?_⟩;intros)
   refine Wo (a7 (cs':=fgx (m,⟨lo,hi,false,false⟩)) rfl rfl om om hat hne) ?_;repeat(refine A1 ⟨?_⟩;intros)
   exact hgo _ _ lfA (List.nil_sublist _)
  all_goals
   simp only [Bool.not_false,Bool.not_true,Bool.false_and,Bool.and_false,Bool.and_self,Bool.true_and]at hR;subst hR;clear hgo;repeat(refine A1 ⟨?_⟩;intros)
   refine Wo (a7 (cs':=fgx (m,⟨lo,hi,_,_⟩)) rfl rfl om om hat hne) ?_;exact Z1
 ·have hke:k=c.length:=by omega
  subst hke;rw [List.drop_length,List.all_nil,Bool.true_and]at hR;rw [←hR];clear hK hR;by_cases h0:0<c.length
  ·rw [decide_eq_true h0];exact Z1
  ·rw [decide_eq_false h0];exact Z1
def bys (l:List UInt8):List SV:=l.map fun b=>lit (.int .u8 (b.toNat:Nat))
def Byt (l:List UInt8) (s:SV) (H:LH):Prop :=
 (l=[]∧s=lit (.slice none 0 0)∧H=[])∨
  l≠[]∧∃b c,l.length≤c∧c≤maxLen∧s=lit (.slice (some ⟨b,0,none⟩) l.length c)∧H=[(b,5,bys l++List.replicate (c-l.length) top)]
theorem Byt.nil:Byt [] (lit (.slice none 0 0)) [] := .inl ⟨rfl,rfl,rfl⟩
section
variable {P:Program}{C:Ctx}{n:Nat}{F:Fr}{H:LH}{ops:Array Oper}{K:Fr→LH→Prop}{rest:List Oper}{ty:TypeId}{pos:String}{aft:Array Edge}
end
section
variable {F:Fr}{H:LH}{ty:TypeId}
end
abbrev CE (w:Nat):SV:=lit (.pointer (some ⟨w,0,none⟩))
section
variable {P:Program}{C:Ctx}{n:Nat}{F:Fr}{H:LH}{ops:Array Oper}{K:Fr→LH→Prop}{rest:List Oper}{ty:TypeId}{pos:String}{aft:Array Edge}
theorem Lg:jK P [] (Ab.tup []) F H:=⟨[],trivial,Le.refl _⟩
end
section
variable {P:Program}{C:Ctx}{n:Nat}{F:Fr}{H:LH}{ops:Array Oper}{K:Fr→LH→Prop}{rest:List Oper}{ty:TypeId}{pos:String}{aft:Array Edge}
end
end Go.Ab
