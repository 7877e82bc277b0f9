/- Texts laid one behind the other: CvxC, PLn, WdS, PIv, PCut, Elt. -/
import Derived.Test.YtnhepimaijhhaaaGreatDoorB18
set_option linter.all false
set_option maxHeartbeats 16000000
namespace Go.Ab
open Go.Proofs
variable [Base]
def dk (c:PC) (l:Li):PC:=c.filterMap fun s=>(ej s.1 s.2 l).map fun w=>(s.1,w)
def aG (pos:PC→Nat) (c:PC) (l:Li):PC×Bool:=match iC c l with
 |some v=>((dk c l).take (pos (dk c l))++(l,v)::(dk c l).drop (pos (dk c l)),true)
 |none=>(c,decide (0<jC c l))
theorem kf {c:PC}{l:Li}{s:Fg}:s∈dk c l↔∃s0∈c,s0.1=s.1∧ej s0.1 s0.2 l=some s.2:=by
 unfold dk;rw [List.mem_filterMap];constructor
 ·rintro ⟨s0,h1,h2⟩;obtain⟨w,h3,h4⟩:=Option.map_eq_some_iff.1 h2;exact⟨s0,h1,by rw [←h4],by rw [←h4];exact h3⟩
 ·rintro ⟨s0,h1,h2,h3⟩;exact⟨s0,h1,by rw [h3];exact congrArg some (Prod.ext h2 rfl)⟩
theorem v9 (c:PC) (l:Li):(aa (dk c l)).Sublist (aa c):=by
 induction c with
 |nil=>exact List.Sublist.slnil
 |cons s c ih =>
  unfold dk;rw [List.filterMap_cons];cases h:ej s.1 s.2 l with
  |none=>exact ih.cons _
  |some w=>exact ih.cons_cons _
theorem oM {α:Type}(a:List α) (x:α) (n:Nat):(a.take n++x::a.drop n).Perm (x::a):=by
 have:=(List.perm_middle (a:=x) (l₁:=a.take n) (l₂:=a.drop n))
 rw [List.take_append_drop]at this;exact this
theorem AP {c:PC}{l:Li}{v:Spn}(pos:Nat):∀m,m∈aa ((dk c l).take pos++(l,v)::(dk c l).drop pos)↔m=l∨m∈aa (dk c l):=fun m=>by
 have:=((oM (dk c l) (l,v) pos).map Prod.fst).mem_iff (a:=m);rw [aa,this,List.map_cons,List.mem_cons]
theorem GW {C d:List Li}(hok:∀l∈C,l.ok) (hq:∃q,Inn C q) (hC:∀m∈d,m∈C) (hin:∀q,Inn d q→Inn C q){m:Li}(hm:m∈C) (t:Rat) (ht:∀j∈d,j≠m→0<a6 j (atL m t)):∀j∈C,j≠m→0<a6 j (atL m t):=fun j hj hne=>by
 have hmo:=hok m hm
 have hge:∀u,(∀i∈d,i≠m→0<a6 i (atL m u))→0≤a6 j (atL m u):=fun u hu=>by
  refine Rat.not_lt.1 fun hn=>?_
  obtain⟨e,he,hs⟩:=fJ (fun i:Option Li=>match i with|none => - a6 j (atL m u)|some i=>a6 i (atL m u)) (fun i=>match i with|none => -((j.a:Rat)*m.a+j.b*m.b)|some i=>(i.a:Rat)*m.a+i.b*m.b)
   (none::(d.filter fun i=>decide (i≠m)).map some) (fun i hi=>by
    rcases List.mem_cons.1 hi with rfl|hi
    ·simp only;grind
    ·obtain⟨i',hi',rfl⟩:=List.mem_map.1 hi;rw [List.mem_filter,decide_eq_true_eq]at hi';exact hu i' hi'.1 hi'.2)
  have hI:Inn d ((atL m u).1+e*m.a,(atL m u).2+e*m.b):=fun i hi=>by
   rw [bU];by_cases him:i=m
   ·rw [him,iF hmo,Rat.zero_add];exact Rat.mul_pos he (dA hmo)
   ·exact hs (some i) (Mc (List.mem_map.2 ⟨i,List.mem_filter.2 ⟨hi,decide_eq_true him⟩,rfl⟩)) e he Rat.le_refl
  have h1:=hin _ hI j hj;have h2:=hs none List.mem_cons_self e he Rat.le_refl;rw [bU]at h1;simp only at h2;grind
 have h0:=hge t ht;by_cases hz:a6 j (atL m t)=0
 ·exfalso
  obtain⟨e,he,hs⟩:=fJ (fun i:Li×Bool=>a6 i.1 (atL m t)) (fun i=>if i.2 then slp m i.1 else-slp m i.1)
   (((d.filter fun i=>decide (i≠m)).map fun i=>(i,true))++((d.filter fun i=>decide (i≠m)).map fun i=>(i,false))) (fun i hi=>by
    rcases List.mem_append.1 hi with hi|hi <;> (obtain⟨i',hi',rfl⟩:=List.mem_map.1 hi;rw [List.mem_filter,decide_eq_true_eq]at hi';exact ht i' hi'.1 hi'.2))
  have g1:=hge (t+e) fun i hi him=>by
   have:=hs (i,true) (List.mem_append_left _ (List.mem_map.2 ⟨i,List.mem_filter.2 ⟨hi,decide_eq_true him⟩,rfl⟩)) e he Rat.le_refl;simp only [if_true]at this;rw [bq]at this⊢;grind
  have g2:=hge (t-e) fun i hi him=>by
   have:=hs (i,false) (List.mem_append_right _ (List.mem_map.2 ⟨i,List.mem_filter.2 ⟨hi,decide_eq_true him⟩,rfl⟩)) e he Rat.le_refl;simp only [Bool.false_eq_true,if_false]at this;rw [bq]at this⊢;grind
  have v1:a6 j (atL m (t+e))=e*slp m j:=by rw [bq]at hz⊢;grind
  have v2:a6 j (atL m (t-e)) = -(e*slp m j):=by rw [bq]at hz⊢;grind
  rw [v1]at g1;rw [v2]at g2;have hz2:a6 j (atL m (t+e))=0:=by rw [v1];grind
  obtain⟨q,hq⟩:=hq;have p1:=hq j hj;have p2:=hq m hm;rcases s6 hmo (hok j hj) (show t≠t+e by grind) hz hz2 with k|k
  ·exact hne k
  ·rw [k,fF]at p1;grind
 ·grind
theorem je {c:PC}(h:cW c){l:Li}(hl:l.ok) (pos:PC→Nat){d:PC}(hd:aG pos c l=(d,true)):cW d∧Inn (aa d)=fun q=>Inn (aa c) q∧0<a6 l q:=by
 unfold aG at hd;cases hp:iC c l with
 |none =>
  rw [hp]at hd;simp only [Prod.mk.injEq,decide_eq_true_eq]at hd;obtain⟨rfl,h0⟩:=hd
  have hpl:jC c l=1∧¬Rgt (Inn (aa c)) l:=by
   rcases uN h hl with⟨r,_,_⟩|⟨r,_,b⟩|⟨r,_,_⟩
   ·omega
   ·exact⟨r,b⟩
   ·omega
  refine⟨h,funext fun q=>propext ⟨fun hq=>⟨hq,?_⟩,And.left⟩⟩;have hm:=n8 hl hp;by_cases h1:a6 l q<0
  ·exact absurd ⟨q,hq,h1⟩ hpl.2
  ·by_cases h2:a6 l q=0
   ·exact absurd hq (hm q h2)
   ·grind
 |some v =>
  rw [hp]at hd;simp only [Prod.mk.injEq,and_true]at hd;obtain⟨hv,t,ht⟩:=sJ hp;have hin:=(hv t).1 ht
  have hlc:l∉aa c:=fun hm=>by
   have:=hin l hm;rw [iF hl]at this;exact absurd this (by decide)
  have hlin:∀m,m∈aa d↔m=l∨m∈aa (dk c l):=fun m=>by rw [←hd];exact AP _ m
  have hck:∀m∈aa (dk c l),m∈aa c:=fun m hm=>(v9 c l).subset hm
  have hok:∀m∈aa c++[l],m.ok:=iJ h.lok hl
  have hq:∃q,Inn (aa c++[l]) q:=by
   have:Edg (aa c++[l]) l:=⟨atL l t,iF hl t,fun j hj hne=>by
    rcases List.mem_append.1 hj with hj|hj
    ·exact hin j hj
    ·exact absurd (List.mem_singleton.1 hj) hne⟩
   obtain⟨q,hq,_⟩:=this.inn hl;exact⟨q,hq⟩
  have hkept:∀m∈aa c++[l],Edg (aa c++[l]) m→m∈aa d:=fun m hm he=>by
   rw [hlin];rcases List.mem_append.1 hm with hm|hm
   ·right;obtain⟨s,hs,rfl⟩:=List.mem_map.1 hm;obtain⟨r,hr,hj⟩:=he;have hml:s.1≠l:=fun e=>hlc (e▸List.mem_map.2 ⟨s,hs,rfl⟩)
    cases hc:ej s.1 s.2 l with
    |some w=>exact List.mem_map.2 ⟨(s.1,w),kf.2 ⟨s,hs,rfl,hc⟩,rfl⟩
    |none =>
     refine absurd ⟨((h.span s hs).1 (cl s.1 r)).2 fun j hj' hne=>?_,?_⟩ (q8 hc (cl s.1 r))
     ·rw [nP (h.ok s hs) hr];exact hj j (List.mem_append_left _ hj') hne
     ·rw [nP (h.ok s hs) hr];exact hj l (List.mem_append_right _ Ms) (fun e=>hml e.symm)
   ·exact .inl (List.mem_singleton.1 hm)
  have hinn:Inn (aa d)=fun q=>Inn (aa c) q∧0<a6 l q:=by
   funext p
   refine propext ?_;rw [←gb];obtain⟨q,hq⟩:=hq;constructor
   ·intro hp;exact Inn.kept hok hq hkept hp
   ·intro hp m hm;rcases(hlin m).1 hm with e|e
    ·rw [e];exact hp l (List.mem_append_right _ Ms)
    ·exact hp m (List.mem_append_left _ (hck m e))
  have hmem:∀s,s∈d↔s=(l,v)∨s∈dk c l:=fun s=>by
   rw [←hd];rw [(oM (dk c l) (l,v) _).mem_iff,List.mem_cons]
  refine⟨⟨fun s hs=>?_,?_,?_,fun s hs=>?_⟩,hinn⟩
  ·rcases(hmem s).1 hs with e|e
   ·rw [e];exact hl
   ·obtain⟨s0,h1,h2,_⟩:=kf.1 e;rw [←h2];exact h.ok s0 h1
  ·obtain⟨q,hq⟩:=hq;exact⟨q,by rw [hinn];exact gb.1 hq⟩
  ·rw [aa,←hd];rw [((oM (dk c l) (l,v) (pos (dk c l))).map Prod.fst).nodup_iff,List.map_cons,List.nodup_cons];exact⟨fun hm=>hlc (hck l hm),h.nd.sublist (v9 c l)⟩
  ·have hC:∀m∈aa d,m∈aa c++[l]:=fun m hm=>by
    rcases(hlin m).1 hm with e|e
    ·rw [e];exact List.mem_append_right _ Ms
    ·exact List.mem_append_left _ (hck m e)
   have hinC:∀q,Inn (aa d) q→Inn (aa c++[l]) q:=fun q hq=>by rw [hinn]at hq;exact gb.2 hq
   have key:=GW hok hq hC hinC (m:=s.1) (hC _ (List.mem_map.2 ⟨s,hs,rfl⟩));have hall:∀t,(∀j∈aa c++[l],j≠s.1→0<a6 j (atL s.1 t))↔∀j∈aa d,j≠s.1→0<a6 j (atL s.1 t):=fun t=>⟨fun k j hj=>k j (hC j hj),fun k=>key t k⟩
   rcases(hmem s).1 hs with e|e
   ·refine⟨fun t=>?_,by rw [e];exact⟨t,ht⟩⟩;rw [←hall];have:=hv t;rw [e];simp only;rw [this];constructor
    ·intro k j hj hne;rcases List.mem_append.1 hj with hj|hj
     ·exact k j hj
     ·exact absurd (List.mem_singleton.1 hj) hne
    ·intro k j hj;exact k j (List.mem_append_left _ hj) (fun e=>hlc (e▸hj))
   ·obtain⟨s0,h1,h2,h3⟩:=kf.1 e;obtain⟨g1,g2⟩:=h.span s0 h1;refine⟨fun t=>?_,kv g2 h3⟩;rw [←hall,←h2,eh h3,g1];have hsl:s0.1≠l:=fun e=>hlc (e▸List.mem_map.2 ⟨s0,h1,rfl⟩)
    constructor
    ·rintro ⟨k1,k2⟩ j hj hne;rcases List.mem_append.1 hj with hj|hj
     ·exact k1 j hj hne
     ·rw [List.mem_singleton.1 hj];exact k2
    ·intro k;exact⟨fun j hj hne=>k j (List.mem_append_left _ hj) hne,k l (List.mem_append_right _ Ms) (fun e=>hsl e.symm)⟩
theorem et {c:PC}(h:cW c){l:Li}(hl:l.ok) (pos:PC→Nat):(aG pos c l).2=true↔Lft (Inn (aa c)) l:=by
 unfold aG;have hpl:=uN h hl;unfold jC at *;cases hp:iC c l with
 |some v =>
  rw [hp]at hpl;rcases hpl with⟨_,a,_⟩|⟨r,_⟩|⟨r,_⟩
  ·exact⟨fun _=>a,fun _=>rfl⟩
  ·cases r
  ·cases r
 |none =>
  rw [hp]at hpl;simp only [decide_eq_true_eq];rcases hpl with⟨r,a,_⟩|⟨r,a,_⟩|⟨r,a,_⟩
  ·rw [r];have hm:=n8 hl hp;rename_i b;exact absurd ⟨a,b⟩ (sO hm)
  ·rw [r];exact⟨fun _=>a,fun _=>by decide⟩
  ·rw [r];exact⟨fun k=>absurd k (by decide),fun k=>absurd k a⟩
theorem xk {I:Pq→Prop}{l:Li}:Lft I l.neg↔Rgt I l:=by
 unfold Lft Rgt;simp only [ww]
def dR (pos:Li→PC→Nat):Tr→PC→Tr
 | .leaf i,_ => .leaf i
 | .node l a b,c=>if(aG (pos l.neg) c l.neg).2=false then dR pos a c else if(aG (pos l) c l).2=false then dR pos b c else ez l (dR pos a (aG (pos l) c l).1) (dR pos b (aG (pos l.neg) c l.neg).1)
def mI (pos:Li→PC→Nat) (op:Int) (i:Bool) (b:Tr) (c:PC):Tr :=
 if op=1∧i=true then .leaf true else if(op=2∨op=3)∧i=false then .leaf false else if(op=3∨op=4)∧i=true then aN (dR pos b c)else dR pos b c
def fp (pos:Li→PC→Nat) (op:Int):Tr→Tr→PC→Tr
 | .leaf i,b,c=>mI pos op i b c
 | .node l x y,b,c=>if(aG (pos l.neg) c l.neg).2=false then fp pos op x b c else if(aG (pos l) c l).2=false then fp pos op y b c else ez l (fp pos op x b (aG (pos l) c l).1) (fp pos op y b (aG (pos l.neg) c l.neg).1)
theorem qe {c:PC}(h:cW c){l:Li}(hl:l.ok) (pos:PC→Nat) (k:Lft (Inn (aa c)) l):cW (aG pos c l).1∧Inn (aa (aG pos c l).1)=fun q=>Inn (aa c) q∧0<a6 l q :=
 je h hl pos (Prod.ext rfl ((et h hl pos).2 k))
theorem tL {c:PC}(h:cW c){l:Li}(hl:l.ok) (pos:PC→Nat) (k:Rgt (Inn (aa c)) l):cW (aG pos c l.neg).1∧Inn (aa (aG pos c l.neg).1)=fun q=>Inn (aa c) q∧a6 l q<0:=by
 obtain⟨a,b⟩:=qe h hl.neg pos (xk.2 k);refine⟨a,b.trans ?_⟩;funext q
 rw [ww]
theorem jS (pos:Li→PC→Nat):∀{t:Tr}{c:PC},t.lok→cW c→dR pos t c=bR t (Inn (aa c))
 | .leaf i,c,_,_=>rfl
 | .node l a b,c,⟨hl,ha,hb⟩,hc=>by
  have p1:=et hc hl (pos l);have p2:=(et hc hl.neg (pos l.neg)).trans xk;unfold dR bR;by_cases h1:Rgt (Inn (aa c)) l
  ·rw [p2.2 h1,if_neg (by decide),if_neg (show¬¬Rgt (Inn (aa c)) l from fun h=>h h1)];by_cases h2:Lft (Inn (aa c)) l
   ·rw [p1.2 h2,if_neg (by decide),if_neg (show¬¬Lft (Inn (aa c)) l from fun h=>h h2)];obtain⟨a1,a2⟩:=qe hc hl (pos l) h2;obtain⟨b1,b2⟩:=tL hc hl (pos l.neg) h1;rw [jS pos ha a1,jS pos hb b1,a2,b2]
   ·rw [show(aG (pos l) c l).2=false from by simpa using fun k=>h2 (p1.1 k),if_pos rfl,if_pos h2];exact jS pos hb hc
  ·rw [show(aG (pos l.neg) c l.neg).2=false from by simpa using fun k=>h1 (p2.1 k),if_pos rfl,if_pos h1];exact jS pos ha hc
theorem lI (pos:Li→PC→Nat){op:Int}:∀{t b:Tr}{c:PC},t.lok→b.lok→cW c→fp pos op t b c=eT op t b (Inn (aa c))
 | .leaf i,b,c,_,hb,hc=>by
  unfold fp eT mI p8;rw [jS pos hb hc]
 | .node l x y,b,c,⟨hl,hx,hy⟩,hb,hc=>by
  have p1:=et hc hl (pos l);have p2:=(et hc hl.neg (pos l.neg)).trans xk;unfold fp eT;by_cases h1:Rgt (Inn (aa c)) l
  ·rw [p2.2 h1,if_neg (by decide),if_neg (show¬¬Rgt (Inn (aa c)) l from fun h=>h h1)];by_cases h2:Lft (Inn (aa c)) l
   ·rw [p1.2 h2,if_neg (by decide),if_neg (show¬¬Lft (Inn (aa c)) l from fun h=>h h2)];obtain⟨a1,a2⟩:=qe hc hl (pos l) h2;obtain⟨b1,b2⟩:=tL hc hl (pos l.neg) h1;rw [lI pos hx hb a1,lI pos hy hb b1,a2,b2]
   ·rw [show(aG (pos l) c l).2=false from by simpa using fun k=>h2 (p1.1 k),if_pos rfl,if_pos h2];exact lI pos hy hb hc
  ·rw [show(aG (pos l.neg) c l.neg).2=false from by simpa using fun k=>h1 (p2.1 k),if_pos rfl,if_pos h1];exact lI pos hx hb hc
theorem mU (pos:Li→PC→Nat){t:Tr}(h:t.lok):dR pos t []=a8 t []:=by
 rw [jS pos h cW.nil,j4 h (fun l h=>by cases h) ⟨(0,0),fun l h=>by cases h⟩];rfl
theorem Al (pos:Li→PC→Nat){op:Int}{t b:Tr}(h:t.lok) (hb:b.lok):fp pos op t b []=cD op t b []:=by
 rw [lI pos h hb cW.nil,k9 h hb (fun l h=>by cases h) ⟨(0,0),fun l h=>by cases h⟩];rfl
abbrev lfl (l:Li):SV:=lf l.a l.b l.c
abbrev ppq (p:Pq):SV:=pp p.1 p.2
theorem Li.le.hts {l:Li}{L:Nat}(h:l.le L) (hL:1≤L):ht (l.a:Rat)≤L∧ht (l.b:Rat)≤L∧ht (l.c:Rat)≤L:=by
 have ha:=dY l.a h.a;have hb:=dY l.b h.b;have hc:=dY l.c h.c;omega
theorem C1 (x y:Rat) (hx:ht x≤1000000) (hy:ht y≤1000000):Pu Tryz.prog 233 [fr x,fr y] (fr (x/y)):=by
 have h1:=wO y;have c1:=La y om;have c2:=jl x y⁻¹ om om;rw [←Rat.div_def]at c2;refine Pi Tryz.func233 fun C=>?_
 exact X2 c1 c2
theorem GN (x:Rat) (hx:ht x≤1000000):Pu Tryz.prog 246 [fr x] (fr (x/2)):=by
 have h2:ht ((1:Rat)/2)≤10:=by have h1:=kQ 1 2;have h2:=gP;have h3:ht (2:Rat)≤1:=oQ 2 om;clear hx;omega
 have c2:=jl x (1/2) om om;rw [show x*(1/2)=x/2 by grind]at c2;have e0:r0 ((1:Rat)/2)=1:=by decide +kernel
 have e1:r1 ((1:Rat)/2)=1:=by decide +kernel
 have e2:r2 ((1:Rat)/2)=lit (.pointer none):=if_pos (by decide +kernel);rw [show fr ((1:Rat)/2)=ag [lit (.int .i64 1),lit (.int .i64 1),lit (.pointer none)] by unfold fr;rw [e0,e1,e2]]at c2;clear h2 e0 e1 e2;refine Pi Tryz.func246 fun C=>?_
 exact X1 c2
theorem JD (x y:Rat) (hx:ht x≤1000000) (hy:ht y≤1000000):Pu Tryz.prog 185 [fr x,fr y] (fr (t9 x y)):=by
 have c1:=kS y x om om;have e:(0≤(x-y).num.sign)↔¬0<(y-x).num.sign:=by rw [jP,bW];grind
 unfold t9;by_cases h:0<(y-x).num.sign
 ·rw [if_neg (fun k=>e.1 k h)];clear e;generalize(y-x).num.sign=z at *;refine Pi Tryz.func185 fun C=>?_
  exact X1 c1
 ·rw [if_pos (e.2 h)];clear e;generalize(y-x).num.sign=z at *;refine Pi Tryz.func185 fun C=>?_
  exact X1 c1
theorem JC (x y:Rat) (hx:ht x≤1000000) (hy:ht y≤1000000):Pu Tryz.prog 186 [fr x,fr y] (fr (sX x y)):=by
 have c1:=kS y x om om;have e:((x-y).num.sign≤0)↔¬(y-x).num.sign<0:=by rw [←Int.not_lt,bW,eG];grind
 unfold sX;by_cases h:(y-x).num.sign<0
 ·rw [if_neg (fun k=>e.1 k h)];clear e;generalize(y-x).num.sign=z at *;refine Pi Tryz.func186 fun C=>?_
  exact X1 c1
 ·rw [if_pos (e.2 h)];clear e;generalize(y-x).num.sign=z at *;refine Pi Tryz.func186 fun C=>?_
  exact X1 c1
theorem BI (l:Li) (h:l.le 1000000):Pu Tryz.prog 182 [lfl l] (lfl l.neg):=by
 have ha:=dY l.a h.a;have hb:=dY l.b h.b;have hc:=dY l.c h.c;have c1:=iN (l.a:Rat) om;have c2:=iN (l.b:Rat) om;have c3:=iN (l.c:Rat) om;rw [←Rat.intCast_neg]at c1 c2 c3;refine Pi Tryz.func182 fun C=>?_
 repeat(first|(refine A1 ⟨?_⟩;intros)|refine W4 c1 ⟨?_⟩|refine W4 c2 ⟨?_⟩|refine W4 c3 ⟨?_⟩)
 exact G1
theorem re (l:Li) (h:l.le 1000000):Pu Tryz.prog 211 [lfl l] (ppq (aK l)):=by
 have ha:=dY l.a h.a;have c1:=iN (l.a:Rat) om;refine Pi Tryz.func211 fun C=>?_
 exact X1 c1
theorem Li.bf_htL {l:Li}{L:Nat}(h:l.le L) (hL:1≤L):ht l.bf≤10*L:=by
 obtain⟨ha,hb,hc⟩:=h.hts hL;unfold Li.bf;have h1:=aA (l.b:Rat) l.b;have h2:=aA (-(l.a:Rat)) (-(l.a:Rat));have h3:=dp ((l.b:Rat)*l.b) (-(l.a:Rat) * -(l.a:Rat));have h4:=wO ((l.b:Rat)*l.b + -(l.a:Rat) * -(l.a:Rat));have h5:=aA (l.c:Rat) ((l.b:Rat)*l.b + -(l.a:Rat) * -(l.a:Rat))⁻¹;rw [cz]at h2⊢;rw [Rat.div_def];omega
theorem mL {l:Li}{L:Nat}(h:l.le L) (hL:1≤L):hp (aD l) (12*L):=by
 obtain⟨ha,hb,hc⟩:=h.hts hL;have:=Li.bf_htL h hL;have:=aA l.bf (l.a:Rat);have:=aA l.bf (l.b:Rat);unfold aD;constructor <;> simp only <;> omega
theorem JX {l:Li}{L:Nat}(h:l.le L) (hL:1≤L){t:Rat}{n:Nat}(k:ht t≤n):hp (atL l t) (n+15*L):=by
 obtain⟨ha,hb,hc⟩:=h.hts hL;have hd:hp (aK l) L:=⟨hb,by show ht (-(l.a:Rat))≤L;rw [cz];exact ha⟩
 obtain⟨h1,h2⟩:=pd (mL h hL) k hd;unfold atL;exact⟨om,om⟩
theorem xp {l:Li}{L:Nat}(h:l.le L) (hL:1≤L){p:Pq}{n:Nat}(k:hp p n):ht (a6 l p)≤2*n+7*L:=by
 obtain⟨h1,h2,h3⟩:=h.hts hL;obtain⟨k1,k2⟩:=k;have:=aA (l.a:Rat) p.1;have:=aA (l.b:Rat) p.2;have:=dp ((l.a:Rat)*p.1) ((l.b:Rat)*p.2);have:=dp ((l.a:Rat)*p.1+(l.b:Rat)*p.2) (l.c:Rat);unfold a6;omega
theorem yy {l:Li}{L:Nat}(h:l.le L) (hL:1≤L) (hU:L≤10000):Pu Tryz.prog 232 [lfl l] (ppq (aD l)):=by
 obtain⟨ha,hb,hc⟩:=h.hts hL;have hf:=Li.bf_htL h hL;have h1:=aA (l.a:Rat) l.a;have h2:=aA (l.b:Rat) l.b;have h3:=dp ((l.a:Rat)*l.a) ((l.b:Rat)*l.b);have hcn:ht (-(l.c:Rat))≤L:=by rw [cz];exact hc
 have e : -(l.c:Rat)/((l.a:Rat)*l.a+l.b*l.b)=l.bf:=by
  unfold Li.bf;rw [show(l.b:Rat)*l.b + -(l.a:Rat) * -(l.a:Rat)=(l.a:Rat)*l.a+l.b*l.b by grind,Rat.div_def,Rat.div_def,Rat.neg_mul]
 have c1:=nk (l.a:Rat) l.b l.c;have c2:=iN (l.c:Rat) om;have c3:=wh (l.a:Rat) l.b l.a l.b om om om om;have c4:=C1 (-(l.c:Rat)) ((l.a:Rat)*l.a+l.b*l.b) om om;rw [e]at c4;have c5:=uI (l.a:Rat) l.b l.bf om om om;rw [Rat.mul_comm (l.a:Rat) l.bf,Rat.mul_comm (l.b:Rat) l.bf]at c5;clear h1 h2 h3 hcn ha hb hc hf e;refine Pi Tryz.func232 fun C=>?_
 repeat(first|(refine A1 ⟨?_⟩;intros)|refine W4 c1 ⟨?_⟩|refine W4 c2 ⟨?_⟩|refine W4 c3 ⟨?_⟩|refine W4 c4 ⟨?_⟩|refine W4 c5 ⟨?_⟩)
 exact G1
theorem L9 {l:Li}{L:Nat}(h:l.le L) (hL:1≤L) (hU:L≤10000){t:Rat}(k:ht t≤200000):Pu Tryz.prog 227 [lfl l,fr t] (ppq (atL l t)):=by
 obtain⟨ha,hb,hc⟩:=h.hts hL;obtain⟨b1,b2⟩:=mL h hL;have d2:ht (-(l.a:Rat))≤L:=by rw [cz];exact ha
 have m1:=aA (l.b:Rat) t;have m2:=aA (-(l.a:Rat)) t;have c1:=yy h hL hU;have c2:=re l (h.gr om);have c3:=uI (l.b:Rat) (-(l.a:Rat)) t om om om;have c4:=Im (aD l).1 (aD l).2 ((l.b:Rat)*t) (-(l.a:Rat)*t) om om om om;rw [Rat.mul_comm (l.b:Rat) t,Rat.mul_comm (-(l.a:Rat)) t]at c3 c4;clear m1 m2 b1 b2 d2 ha hb hc;refine Pi Tryz.func227 fun C=>?_
 repeat(first|(refine A1 ⟨?_⟩;intros)|refine W4 c1 ⟨?_⟩|refine W4 c2 ⟨?_⟩|refine W4 c3 ⟨?_⟩|refine W4 c4 ⟨?_⟩)
 exact G1
theorem FZ {l:Li}{L:Nat}(h:l.le L) (hL:1≤L) (hU:L≤10000){p:Pq}(k:hp p 100000):Pu Tryz.prog 226 [lfl l,ppq p] (lit (.int .i64 (dt l p))):=by
 obtain⟨ha,hb,hc⟩:=h.hts hL;have hv:=xp h hL k;have c1:=v7 (l.a:Rat) l.b l.c p.1 p.2 om om om k.1 k.2;have c2:=jc (a6 l p) om;clear ha hb hc hv;refine Pi Tryz.func226 fun C=>?_
 exact Y2 c1 c2
section
variable {P:Program}{C:Ctx}{n:Nat}{F:Fr}{H:LH}{Q:Exit→Fr→LH→Prop}
theorem WdS {id:Nat}{l:List Oper}(ks:List Nat){b:Nat}{T:TypeId}{cs:List SV}(css:List (List SV)){Hc:LH}(hd:ac b T cs H Hc) (hm:P.follows .mixedOrders=true) (hchk:uY l.toArray ks=true)
  (h:Mk P C n l.toArray ks Hc (fun s=>[(b,T,(cs::css).getD s [])]) 0 0 l (fun Fe=>Q .normal Fe ((b,T,(cs::css).getD ks.length [])::Hc)) F):WP P C n (.region id l.toArray true) Q F H :=
 .perm hd.perm (WdM ks Hc (fun s=>[(b,T,(cs::css).getD s [])]) h rfl hm hchk)
theorem MkS {ops:Array Oper}{rs:List Nat}{Hc:LH}{E:Nat→LH}{i s:Nat}{l:List Oper}{K:Fr→Prop}{T T':TypeId}{sz by_:Nat}{z:List SV}{g:Bool} [hT:TY P T sz by_ z g]{x v:Operand}{b o:Nat}{sv:SV}{cs cs' ds:List SV}{ty:TypeId}{pos:String}{aft:Array Edge}
  (h:Mk P C n ops rs Hc E (i+1) (s+1) l K F) (hE:E s=[(b,T',cs)]:=by exact rfl) (hE':E (s+1)=[(b,T',cs')]:=by exact rfl) (hx:ev F x=lit (.pointer (some ⟨b,o,none⟩)):=by exact rfl)
  (hv:ev F v=sv:=by(first|exact Eq.refl (lit _)|exact Eq.refl (dg _)|exact Eq.refl (ag _)|exact Eq.refl (pt _)|exact Eq.refl (sl _ _)|exact Eq.refl (nsl _ _)|exact Eq.refl (tup _)|exact Eq.refl top|exact rfl)) (hco:CO sv ds:=by infer_instance)
  (hlen:Nat.beq ds.length sz=true:=by exact rfl) (hsp:spl cs o ds=cs':=by exact rfl) (hle:Nat.ble (o+sz) cs.length=true:=by exact rfl)
  (ho:ops[i]? = some ⟨none, .store T x v,ty,pos,aft,none⟩:=by exact rfl) (hr:rs[s]? = some i:=by exact rfl):Mk P C n ops rs Hc E i s (⟨none, .store T x v,ty,pos,aft,none⟩::l) K F :=
 MkR (sv:=top) (by rw [hE,hE'];exact TS.store ho hx hv hlen (au.here _) hsp hle) h hr
end
abbrev ivx (s:Spn):List SV:=[lit (.int .i64 (r0 s.lo)),lit (.int .i64 (r1 s.lo)),r2 s.lo,lit (.int .i64 (r0 s.hi)),lit (.int .i64 (r1 s.hi)),r2 s.hi,lit (.bool s.nl),lit (.bool s.nh)]
abbrev iv (s:Spn):SV:=ag (ivx s)
theorem Gh:Pu Tryz.prog 225 [] (iv Spn.full):=by
 have e0:r0 (0:Rat)=0:=by decide +kernel
 have e1:r1 (0:Rat)=0:=by decide +kernel
 have e2:r2 (0:Rat)=lit (.pointer none):=if_pos (by decide +kernel);unfold iv ivx;rw [e0,e1,e2];refine Pi Tryz.func225 fun C=>?_
 exact Z2
theorem As (s:Spn) (h:s.le 1000000):Pu Tryz.prog 187 [iv s] (lit (.bool (cj s))):=by
 have c1:=kS s.lo s.hi (by have:=h.1;omega) (by have:=h.2;omega);obtain⟨lo,hi,nl,nh⟩:=s;unfold cj;simp only at *;generalize(lo-hi).num.sign=z at *;clear h;cases nl
 ·cases nh
  ·by_cases hz:0≤z
   ·rw [decide_eq_true hz];refine Pi Tryz.func187 fun C=>?_
    exact Y1 c1
   ·rw [decide_eq_false hz];refine Pi Tryz.func187 fun C=>?_
    exact Y1 c1
  ·refine Pi Tryz.func187 fun C=>?_
   exact Y1 c1
 ·refine Pi Tryz.func187 fun C=>?_
  exact Y1 c1
theorem t7 {v w:Spn}{n:Nat}(h:v.le n) (k:w.le n):(bN v w).le n:=by
 obtain⟨h1,h2⟩:=h;obtain⟨k1,k2⟩:=k;unfold bN t9 sX;constructor
 ·simp only;split
  ·exact k1
  ·split
   ·exact h1
   ·split <;> assumption
 ·simp only;split
  ·exact k2
  ·split
   ·exact h2
   ·split <;> assumption
abbrev z8:List SV:=[lit (.int .i64 0),lit (.int .i64 0),lit (.pointer none),lit (.int .i64 0),lit (.int .i64 0),lit (.pointer none),lit (.bool false),lit (.bool false)]
theorem ve (v w:Spn) (h:v.le 1000000) (k:w.le 1000000):Pu Tryz.prog 146 [iv v,iv w] (Ab.tup [iv (bN v w),lit (.bool (!cj (bN v w)))]):=by
 have c1:=JD v.lo w.lo h.1 k.1;have c2:=JC v.hi w.hi h.2 k.2;have c3:=As (bN v w) (t7 h k);clear h k;generalize cj (bN v w)=bad at *;obtain⟨lo,hi,nl,nh⟩:=v;obtain⟨lo',hi',nl',nh'⟩:=w;unfold bN at *;simp only at *;generalize t9 lo lo'=a at *;generalize sX hi hi'=b at *;refine Pi Tryz.func146 fun C=>?_
 repeat(first|(refine AS ⟨?_⟩;intros)|(refine O1 ⟨?_⟩;intros))
 rename_i b2 b3 b4 b6
 refine WP.viaB (fun F H=>LeF F (fm [(2,lit (.pointer (some ⟨b2,0,none⟩))),(3,lit (.pointer (some ⟨b3,0,none⟩))),(4,lit (.pointer (some ⟨b4,0,none⟩))),(6,lit (.pointer (some ⟨b6,0,none⟩)))])∧
  H=[(b6,195,ivx ⟨if nl then lo' else if nl' then lo else a,hi,nl&&nl',nh⟩),(b4,195,z8),(b3,195,ivx ⟨lo',hi',nl',nh'⟩),(b2,195,ivx ⟨lo,hi,nl,nh⟩)]) ?_ ?_
 ·clear c2 c3;cases nl
  ·cases nl'
   ·repeat(first|(refine AS ⟨?_⟩;intros)|(refine O1 ⟨?_⟩;intros)|(refine Wcx (c1) ?_)|(refine eB (c1) ?_))
    exact⟨lfA,rfl⟩
   ·repeat(first|(refine AS ⟨?_⟩;intros)|(refine O1 ⟨?_⟩;intros)|(refine Wcx (c1) ?_)|(refine eB (c1) ?_))
    exact⟨lfA,rfl⟩
  ·repeat(first|(refine AS ⟨?_⟩;intros)|(refine O1 ⟨?_⟩;intros))
   apply WdS [5,7] [ivx ⟨lo',hi,true,nh⟩,ivx ⟨lo',hi,nl',nh⟩] (ac.here _) kr (by decide +kernel);refine MkD 5 ?_;(repeat(first|(refine A1 ⟨?_⟩;intros)));refine yt ?_;refine MkS ?_;refine MkD 1 ?_;(repeat(first|(refine A1 ⟨?_⟩;intros)));refine yt ?_;refine MkS ?_;refine MkN ?_;(repeat(refine A1 ⟨?_⟩;intros));repeat(refine A1 ⟨?_⟩;intros)
   exact⟨lfA,rfl⟩
 ·rintro F H ⟨hF,rfl⟩;refine WP.le hF ?_;clear c1;generalize hu:(if nl=true then lo' else if nl'=true then lo else a)=u at *;generalize hn:(nl&&nl')=n at *;repeat(first|(refine AS ⟨?_⟩;intros)|(refine O1 ⟨?_⟩;intros))
  refine WP.viaB (fun F H=>LeF F (fm [(4,lit (.pointer (some ⟨b4,0,none⟩))),(6,lit (.pointer (some ⟨b6,0,none⟩)))])∧
   H=[(b6,195,ivx ⟨u,if nh then hi' else if nh' then hi else b,n,nh&&nh'⟩),(b4,195,z8),(b3,195,ivx ⟨lo',hi',nl',nh'⟩),(b2,195,ivx ⟨lo,hi,nl,nh⟩)]) ?_ ?_
  ·clear c3;cases nh
   ·cases nh'
    ·repeat(first|(refine AS ⟨?_⟩;intros)|(refine O1 ⟨?_⟩;intros)|(refine Wcx (c2) ?_)|(refine eB (c2) ?_))
     exact⟨lfA,rfl⟩
    ·repeat(first|(refine AS ⟨?_⟩;intros)|(refine O1 ⟨?_⟩;intros)|(refine Wcx (c2) ?_)|(refine eB (c2) ?_))
     exact⟨lfA,rfl⟩
   ·repeat(first|(refine AS ⟨?_⟩;intros)|(refine O1 ⟨?_⟩;intros))
    apply WdS [5,7] [ivx ⟨u,hi',n,true⟩,ivx ⟨u,hi',n,nh'⟩] (ac.here _) kr (by decide +kernel);refine MkD 5 ?_;(repeat(first|(refine A1 ⟨?_⟩;intros)));refine yt ?_;refine MkS ?_;refine MkD 1 ?_;(repeat(first|(refine A1 ⟨?_⟩;intros)));refine yt ?_;refine MkS ?_;refine MkN ?_;(repeat(refine A1 ⟨?_⟩;intros));repeat(refine A1 ⟨?_⟩;intros)
    exact⟨lfA,rfl⟩
  ·rintro F H ⟨hF,rfl⟩;refine WP.le hF ?_;repeat(first|(refine AS ⟨?_⟩;intros)|(refine O1 ⟨?_⟩;intros))
   apply WdS [4] [ivx ⟨u,if nh then hi' else if nh' then hi else b,n,nh&&nh'⟩] (ac.there _ (ac.here _)) kr (by decide +kernel);refine MkD 4 ?_;(repeat(first|(refine A1 ⟨?_⟩;intros)|refine W4 c3 ⟨?_⟩));refine yt ?_;refine MkS ?_;refine MkD 1 ?_;(repeat(first|(refine A1 ⟨?_⟩;intros)|refine W4 c3 ⟨?_⟩));refine yt ?_;refine MkN ?_;(repeat(refine A1 ⟨?_⟩;intros));exact G3
theorem yC (s:Spn) (h:s.le 100000):Pu Tryz.prog 228 [iv s] (fr (aV s)):=by
 obtain⟨h1,h2⟩:=h;have h1':=gP;have m1:=dp s.lo s.hi;have c0:=wT 1 om om;have c1:=vY s.hi 1 om om;have c2:=kF s.lo 1 om om;have c3:=kF s.lo s.hi om om;have c4:=GN (s.lo+s.hi) om;have e0:r0 (0:Rat)=0:=by decide +kernel
 have e1:r1 (0:Rat)=0:=by decide +kernel
 have e2:r2 (0:Rat)=lit (.pointer none):=if_pos (by decide +kernel);obtain⟨lo,hi,nl,nh⟩:=s;unfold aV iQ;simp only at *;clear h1 h2 h1' m1;cases nl
 ·cases nh
  ·simp only [Bool.and_self,Bool.false_eq_true,if_false];refine Pi Tryz.func228 fun C=>?_
   repeat(first|(refine A1 ⟨?_⟩;intros)|refine W4 c0 ⟨?_⟩|refine W4 c3 ⟨?_⟩|refine W4 c4 ⟨?_⟩)
   exact G1
  ·simp only [Bool.and_true,Bool.false_eq_true,if_false,if_true];refine Pi Tryz.func228 fun C=>?_
   exact X2 c0 c2
 ·cases nh
  ·simp only [Bool.and_false,Bool.false_eq_true,if_false,if_true];refine Pi Tryz.func228 fun C=>?_
   exact X2 c0 c1
  ·simp only [Bool.and_self,if_true];unfold fr;rw [e0,e1,e2];refine Pi Tryz.func228 fun C=>?_
   exact Z2
abbrev frx (x:Rat):List SV:=[lit (.int .i64 (r0 x)),lit (.int .i64 (r1 x)),r2 x]
def lg (l:Li) (v:Spn) (m:Li):Spn×Bool :=
 if(slp l m).num.sign=0 then(v,decide (0<(a6 m (aD l)).num.sign))
 else(bN v (hlf (slp l m) (-(a6 m (aD l)/slp l m))),!cj (bN v (hlf (slp l m) (-(a6 m (aD l)/slp l m)))))
theorem AL (l:Li) (v:Spn) (m:Li):ej l v m=if(lg l v m).2 then some (lg l v m).1 else none:=by
 unfold ej lg;by_cases h:(slp l m).num.sign=0
 ·rw [if_pos h,if_pos h];by_cases k:0<(a6 m (aD l)).num.sign
  ·rw [if_pos k,decide_eq_true k];rfl
  ·rw [if_neg k,decide_eq_false k];rfl
 ·rw [if_neg h,if_neg h];cases cj (bN v (hlf (slp l m) (-(a6 m (aD l)/slp l m)))) <;> rfl
theorem ij:ht (0:Rat)≤1:=by have:=gZ;omega
theorem Cg {l m:Li}{L:Nat}(hl:l.le L) (hm:m.le L) (h1:1≤L):ht (slp l m)≤7*L∧ht (a6 m (aD l))≤31*L∧ht (-(a6 m (aD l)/slp l m))≤40*L:=by
 obtain⟨a1,a2,a3⟩:=hl.hts h1;obtain⟨b1,b2,b3⟩:=hm.hts h1;have k1:=aA (m.a:Rat) l.b;have k2:=aA (m.b:Rat) l.a;have k3:=ef ((m.a:Rat)*l.b) (m.b*l.a);have k4:=xp hm h1 (mL hl h1);have k5:=kQ (a6 m (aD l)) (slp l m);have k6:ht (slp l m)≤7*L:=by unfold slp;omega
 rw [cz];exact⟨k6,om,om⟩
theorem Gt {k u:Rat}{n:Nat}(h:ht u≤n) (h1:1≤n):(hlf k u).le n:=by
 have:=ij;unfold hlf;split
 ·exact⟨h,by simp only;omega⟩
 ·exact⟨by simp only;omega,h⟩
theorem wX {l m:Li}{v:Spn}{L:Nat}(hl:l.le L) (hm:m.le L) (h1:1≤L) (hv:v.le (50*L)):(lg l v m).1.le (50*L):=by
 obtain⟨_,_,k⟩:=Cg hl hm h1;unfold lg;split
 ·exact hv
 ·exact t7 hv (Gt om om)
theorem BM {l m:Li}{v:Spn}{L:Nat}(hl:l.le L) (hm:m.le L) (h1:1≤L) (hU:L≤1000) (hv:v.le (50*L)):Pu Tryz.prog 207 [lfl l,iv v,lfl m] (Ab.tup [iv (lg l v m).1,lit (.bool (lg l v m).2)]):=by
 obtain⟨a1,a2,a3⟩:=hl.hts h1;obtain⟨b1,b2,b3⟩:=hm.hts h1;obtain⟨k1,k2,k3⟩:=Cg hl hm h1;obtain⟨d1,d2⟩:=mL hl h1;have hz:=ij;have na:ht (-(l.a:Rat))≤L:=by rw [cz];exact a1
 have c1:=nk (m.a:Rat) m.b m.c;have c2:=re l (hl.gr om);have c3:=wh (m.a:Rat) m.b l.b (-(l.a:Rat)) om om om om;rw [show(m.a:Rat)*l.b+m.b * -(l.a:Rat)=slp l m by unfold slp;grind]at c3;have c4:=yy hl h1 om;have c5:=v7 (m.a:Rat) m.b m.c (aD l).1 (aD l).2 om om om om om;rw [show(m.a:Rat)*(aD l).1+m.b*(aD l).2+m.c=a6 m (aD l)from rfl]at c5;have c6:=jc (slp l m) om;have c7:=jc (a6 m (aD l)) om;have c8:=C1 (a6 m (aD l)) (slp l m) om om;have c9:=iN (a6 m (aD l)/slp l m) (by rw [←cz];omega);have hw:=Gt (k:=slp l m) (u := -(a6 m (aD l)/slp l m)) (n:=1000000) om om;have c10:=ve v (hlf (slp l m) (-(a6 m (aD l)/slp l m))) ⟨by have:=hv.1;omega,by have:=hv.2;omega⟩ hw;have e0:r0 (0:Rat)=0:=by decide +kernel
 have e1:r1 (0:Rat)=0:=by decide +kernel
 have e2:r2 (0:Rat)=lit (.pointer none):=if_pos (by decide +kernel);unfold lg;clear a1 a2 a3 b1 b2 b3 k1 k2 k3 d1 d2 hz na hl hm hv hw;generalize hbad:cj (bN v (hlf (slp l m) (-(a6 m (aD l)/slp l m))))=bad at *;clear hbad;generalize hmt:bN v (hlf (slp l m) (-(a6 m (aD l)/slp l m)))=mt at *;clear hmt;unfold hlf at c10;generalize -(a6 m (aD l)/slp l m)=u at *;generalize a6 m (aD l)/slp l m=u' at *;generalize a6 m (aD l)=w at *;generalize slp l m=k at *;generalize k.num.sign=z at *;generalize w.num.sign=y at *;by_cases z0:z=0
 ·rw [if_pos z0];clear c8 c9 c10;refine Pi Tryz.func207 fun C=>?_
  repeat(first|(refine AS ⟨?_⟩;intros)|(refine O1 ⟨?_⟩;intros))
  refine WdL 11 2 ?_;repeat(first|(refine A1 ⟨?_⟩;intros)|refine W4 c1 ⟨?_⟩|refine W4 c2 ⟨?_⟩|refine W4 c3 ⟨?_⟩|refine W4 c4 ⟨?_⟩|refine W4 c5 ⟨?_⟩)
  refine dL2 fun b8 b9=>?_
  refine Gs (sv:=fr k) (cs':=frx k) rfl rfl rfl (by first|exact .here _|exact .there _ (.here _)) rfl rfl ?_ ?_
  ·(repeat(first|exact LOk.nil|refine Lsk ?_|refine Lcv ?_))
  refine Gs (sv:=fr w) (cs':=frx w) rfl rfl rfl (by first|exact .here _|exact .there _ (.here _)) rfl rfl ?_ ?_
  ·(repeat(first|exact LOk.nil|refine Lsk ?_|refine Lcv ?_))
  refine Gn ?_ ?_
  ·(repeat(first|exact LOk.nil|refine Lsk ?_|refine Lcv ?_))
  repeat(first|(refine AS ⟨?_⟩;intros)|(refine O1 ⟨?_⟩;intros)|(refine Wcx (c6) ?_)|(refine eB (c6) ?_))
  apply WdS [4] [ivx v] (ac.there _ (ac.there _ (ac.here _))) kr (by decide +kernel);refine MkD 4 ?_;(repeat(first|(refine A1 ⟨?_⟩;intros)|refine W4 c7 ⟨?_⟩));refine yt ?_;refine MkS ?_;refine MkD 1 ?_;(repeat(first|(refine A1 ⟨?_⟩;intros)|refine W4 c7 ⟨?_⟩));refine yt ?_;refine MkN ?_;(repeat(refine A1 ⟨?_⟩;intros));exact G3
 ·rw [if_neg z0];by_cases z1:z=1
  ·rw [if_pos z1]at c10;unfold iv ivx at c10;rw [e0,e1,e2]at c10;refine Pi Tryz.func207 fun C=>?_
   repeat(first|(refine AS ⟨?_⟩;intros)|(refine O1 ⟨?_⟩;intros))
   refine WdL 11 2 ?_;repeat(first|(refine A1 ⟨?_⟩;intros)|refine W4 c1 ⟨?_⟩|refine W4 c2 ⟨?_⟩|refine W4 c3 ⟨?_⟩|refine W4 c4 ⟨?_⟩|refine W4 c5 ⟨?_⟩)
   refine dL2 fun b8 b9=>?_
   refine Gs (sv:=fr k) (cs':=frx k) rfl rfl rfl (by first|exact .here _|exact .there _ (.here _)) rfl rfl ?_ ?_
   ·(repeat(first|exact LOk.nil|refine Lsk ?_|refine Lcv ?_))
   refine Gs (sv:=fr w) (cs':=frx w) rfl rfl rfl (by first|exact .here _|exact .there _ (.here _)) rfl rfl ?_ ?_
   ·(repeat(first|exact LOk.nil|refine Lsk ?_|refine Lcv ?_))
   refine Gn ?_ ?_
   ·(repeat(first|exact LOk.nil|refine Lsk ?_|refine Lcv ?_))
   repeat(first|(refine AS ⟨?_⟩;intros)|(refine O1 ⟨?_⟩;intros)|(refine Wcx (c6) ?_)|(refine eB (c6) ?_))
   repeat(first|(refine A1 ⟨?_⟩;intros)|refine W4 c8 ⟨?_⟩|refine W4 c9 ⟨?_⟩|refine W4 c10 ⟨?_⟩)
   exact G3
  ·rw [if_neg z1]at c10;unfold iv ivx at c10;rw [e0,e1,e2]at c10;refine Pi Tryz.func207 fun C=>?_
   repeat(first|(refine AS ⟨?_⟩;intros)|(refine O1 ⟨?_⟩;intros))
   refine WdL 11 2 ?_;repeat(first|(refine A1 ⟨?_⟩;intros)|refine W4 c1 ⟨?_⟩|refine W4 c2 ⟨?_⟩|refine W4 c3 ⟨?_⟩|refine W4 c4 ⟨?_⟩|refine W4 c5 ⟨?_⟩)
   refine dL2 fun b8 b9=>?_
   refine Gs (sv:=fr k) (cs':=frx k) rfl rfl rfl (by first|exact .here _|exact .there _ (.here _)) rfl rfl ?_ ?_
   ·(repeat(first|exact LOk.nil|refine Lsk ?_|refine Lcv ?_))
   refine Gs (sv:=fr w) (cs':=frx w) rfl rfl rfl (by first|exact .here _|exact .there _ (.here _)) rfl rfl ?_ ?_
   ·(repeat(first|exact LOk.nil|refine Lsk ?_|refine Lcv ?_))
   refine Gn ?_ ?_
   ·(repeat(first|exact LOk.nil|refine Lsk ?_|refine Lcv ?_))
   repeat(first|(refine AS ⟨?_⟩;intros)|(refine O1 ⟨?_⟩;intros)|(refine Wcx (c6) ?_)|(refine eB (c6) ?_))
   repeat(first|(refine A1 ⟨?_⟩;intros)|refine W4 c8 ⟨?_⟩|refine W4 c9 ⟨?_⟩|refine W4 c10 ⟨?_⟩)
   exact G3
theorem elt {α:Type}{f:α→List SV}{n:Nat}(hf:∀a,(f a).length=n) (hn:0<n){l:List α}{k:Nat}(hk:k<l.length):∃a,l[k]? = some a∧a∈l∧(((l.map f).flatten).drop (k*n)).take n=f a∧(l.map f).flatten≠[] :=
 have h:=List.getElem?_eq_getElem hk
 ⟨l[k],h,List.mem_of_getElem? h,e6 hf h,dZ hf om (fun e=>by rw [e]at hk;simp at hk)⟩
theorem Jv {α:Type}{f:α→List SV}{n:Nat}(hf:∀a,(f a).length=n) (out:List α) (x:α) (j:Nat) (hj:j≤out.length):((out.map f).flatten).length=out.length*n∧(((out.map f).flatten).drop (j*n)).length=(out.length-j)*n∧(((out.map f).flatten).take (j*n)).length=j*n∧
  (f x++((out.map f).flatten).drop (j*n)).length=(1+(out.length-j))*n∧((out.map f).flatten).take (j*n)++(f x++((out.map f).flatten).drop (j*n))=((out.take j++x::out.drop j).map f).flatten∧j+(1+(out.length-j))=(out.take j++x::out.drop j).length:=by
 have hfl:=cT hf out;have hdl:(((out.map f).flatten).drop (j*n)).length=(out.length-j)*n:=by rw [List.length_drop,hfl,Nat.sub_mul]
 refine⟨hfl,hdl,?_,?_,pP hf out x j,?_⟩
 ·have:=Nat.mul_le_mul_right n hj;rw [List.length_take,hfl];omega
 ·rw [List.length_append,hdl,hf,Nat.add_mul,Nat.one_mul]
 ·rw [List.length_append,List.length_cons,List.length_take,List.length_drop];omega
section
variable {α:Type}{lt:α→α→Bool}{out:List α}{x o:α}{j:Nat}
theorem BR (hj:j=gI lt out x):yF lt out x=out.take j++x::out.drop j:=by unfold yF;rw [←hj]
theorem rf [DecidableEq α] (hj:j=gI lt out x) (ho:out[j]? = some o) (e:o=x):gO lt out x=out:=by unfold gO;rw [←hj,if_pos (by rw [ho,e])]
theorem rg [DecidableEq α] (hj:j=gI lt out x) (ho:out[j]? = some o) (e:¬o=x):gO lt out x=out.take j++x::out.drop j:=by
 unfold gO;rw [←hj,if_neg (by rw [ho];exact fun h=>e (Option.some.inj h))];exact BR hj
theorem oN [DecidableEq α] (hj:j=out.length) (h:j≤gI lt out x):gO lt out x=out.take j++x::out.drop j:=by
 have hp:=mn lt out x;have he:j=gI lt out x:=by omega
 unfold gO;rw [←he,if_neg (by rw [List.getElem?_eq_none om];intro h;cases h)];exact BR he
end
theorem f9 {α:Type}{l:List α}{k:Nat}{a:α}(h:l[k]? = some a):l.drop k=a::l.drop (k+1):=by
 obtain⟨h1,h2⟩:=List.getElem?_eq_some_iff.1 h;rw [List.drop_eq_getElem_cons h1,h2]
end Go.Ab
