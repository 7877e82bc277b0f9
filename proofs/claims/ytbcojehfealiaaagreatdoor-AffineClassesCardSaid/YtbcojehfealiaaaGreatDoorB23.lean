/- Texts laid one behind the other: Sid, Nbr, Fce, Opn, Eqv, Gd, TrA. -/
import Derived.Test.YtbcojehfealiaaaGreatDoorB22
set_option linter.all false
namespace Go.Ab
open Go.Proofs
variable [Base]
theorem yK {C D:List Li}(hC:∀l∈C,l.ok) (hD:∀l∈D,l.ok) (hq:∃q,Inn C q) (he:∀q,Inn C q↔Inn D q){m:Li}(hm:m∈C) (hE:Edg C m):m∈D:=by
 have hmo:=hC m hm;obtain⟨r,hr,hv⟩:=hE;obtain⟨t,rfl⟩:∃t,r=atL m t:=⟨bO m r,(lR hmo hr).symm⟩
 have hnear:∀u,(∀j∈C,j≠m→0<a6 j (atL m u))→∃k:Rat,0<k∧∀e,0<e→e≤k→Inn D ((atL m u).1+e*m.a,(atL m u).2+e*m.b):=fun u hu=>by
  obtain⟨k,hk,hs⟩:=fo (fun i=>a6 i (atL m u)) (fun i=>(i.a:Rat)*m.a+i.b*m.b) (C.filter fun i=>decide (i≠m)) (fun i hi=>by
   rw [List.mem_filter,decide_eq_true_eq]at hi;exact hu i hi.1 hi.2)
  refine⟨k,hk,fun e he0 hle=>(he _).1 fun i hi=>?_⟩;rw [bS];by_cases him:i=m
  ·rw [him,fH hmo,Rat.zero_add];exact Rat.mul_pos he0 (cW hmo)
  ·exact hs i (List.mem_filter.2 ⟨hi,decide_eq_true him⟩) e he0 hle
 have hge:∀u,(∀j∈C,j≠m→0<a6 j (atL m u))→∀j∈D,0≤a6 j (atL m u):=fun u hu j hj=>by
  obtain⟨k,hk,hs⟩:=hnear u hu;refine Rat.not_lt.1 fun hn=>?_
  obtain⟨e,he0,hse⟩:=fo (fun _:Unit => - a6 j (atL m u)) (fun _ => -((j.a:Rat)*m.a+j.b*m.b)) [()] (fun _ _=>by grind)
  have h2:∃e',0<e'∧e'≤e∧e'≤k:=by
   rcases Rat.le_total (a:=e) (b:=k)with h|h
   ·exact⟨e,he0,Rat.le_refl,h⟩
   ·exact⟨k,hk,h,Rat.le_refl⟩
  obtain⟨e',p1,p2,p3⟩:=h2;have h3:=hs e' p1 p3 j hj;have h4:=hse () List.mem_cons_self e' p1 p2;rw [bS]at h3;grind
 obtain⟨j,hj,hz⟩:∃j∈D,a6 j (atL m t)=0:=by
  refine Classical.byContradiction fun hno=>?_
  have:Inn D (atL m t):=fun j hj=>by
   have h0:=hge t hv j hj;by_cases h:a6 j (atL m t)=0
   ·exact absurd ⟨j,hj,h⟩ hno
   ·grind
  have:=(he _).2 this m hm;rw [fH hmo]at this;exact absurd this (by decide)
 obtain⟨e,he0,hs⟩:=fo (fun i:Li×Bool=>a6 i.1 (atL m t)) (fun i=>if i.2 then slp m i.1 else-slp m i.1)
  (((C.filter fun i=>decide (i≠m)).map fun i=>(i,true))++((C.filter fun i=>decide (i≠m)).map fun i=>(i,false))) (fun i hi=>by
   rcases List.mem_append.1 hi with hi|hi <;> (obtain⟨i',hi',rfl⟩:=List.mem_map.1 hi;rw [List.mem_filter,decide_eq_true_eq]at hi';exact hv i' hi'.1 hi'.2))
 have g1:=hge (t+e) (fun i hi him=>by
  have:=hs (i,true) (List.mem_append_left _ (List.mem_map.2 ⟨i,List.mem_filter.2 ⟨hi,decide_eq_true him⟩,rfl⟩)) e he0 Rat.le_refl;simp only [if_true]at this;rw [aR]at this⊢;grind) j hj
 have g2:=hge (t-e) (fun i hi him=>by
  have:=hs (i,false) (List.mem_append_right _ (List.mem_map.2 ⟨i,List.mem_filter.2 ⟨hi,decide_eq_true him⟩,rfl⟩)) e he0 Rat.le_refl;simp only [Bool.false_eq_true,if_false]at this;rw [aR]at this⊢;grind) j hj
 have v1:a6 j (atL m (t+e))=e*slp m j:=by rw [aR]at hz⊢;grind
 have v2:a6 j (atL m (t-e)) = -(e*slp m j):=by rw [aR]at hz⊢;grind
 rw [v1]at g1;rw [v2]at g2;have hz2:a6 j (atL m (t+e))=0:=by rw [v1];grind
 rcases ql hmo (hD j hj) (show t≠t+e by grind) hz hz2 with k|k
 ·rw [←k];exact hj
 ·exfalso;obtain⟨q,hq⟩:=hq;have p1:=(he q).1 hq j hj;have p2:=hq m hm;rw [k,fU]at p1;grind
theorem dH.edg {c:PC}(h:dH c){m:Li}(hm:m∈aa c):Edg (aa c) m:=by
 obtain⟨s,hs,rfl⟩:=List.mem_map.1 hm;obtain⟨h1,t,ht⟩:=h.span s hs;exact⟨atL s.1 t,fH (h.ok s hs) t,(h1 t).1 ht⟩
theorem qi {c:PC}(h:dH c){C:List Li}(hC:∀l∈C,l.ok) (hE:∀l∈C,Edg C l) (he:∀q,Inn (aa c) q↔Inn C q) (m:Li):m∈aa c↔m∈C :=
 ⟨fun hm=>yK h.lok hC h.inn he hm (h.edg hm),fun hm=>yK hC h.lok (h.inn.imp fun q hq=>(he q).1 hq) (fun q=>(he q).symm) hm (hE m hm)⟩
theorem Edg.mono {C D:List Li}{m:Li}(h:∀j∈D,j∈C) (hE:Edg C m):Edg D m:=by
 obtain⟨r,h1,h2⟩:=hE;exact⟨r,h1,fun j hj=>h2 j (h j hj)⟩
theorem yu {c:List Li}(hc:∀l∈c,l.ok){l:Li}(h:l∈dr c):Edg (dr c) l :=
 ((f8 hc).1 h).2.mono fun j hj=>((f8 hc).1 hj).1
def Cvx (I:Pq→Prop):Prop:=∀p q (s:Rat),I p→I q→0≤s→s≤1→I (q.1+s*(p.1-q.1),q.2+s*(p.2-q.2))
theorem Cvx.left {I:Pq→Prop}(h:Cvx I) (l:Li):Cvx fun q=>I q∧0<a6 l q:=fun p q s hp hq h0 h1=>by
 refine⟨h p q s hp.1 hq.1 h0 h1,?_⟩;rw [i7];have:=Rat.mul_nonneg h0 (Rat.le_of_lt hp.2);have:=Rat.mul_nonneg (show 0≤1-s by grind) (Rat.le_of_lt hq.2);have a:=hp.2;have b:=hq.2;by_cases e:s=0
 ·rw [e];grind
 ·have:=Rat.mul_pos (show 0<s by grind) a;grind
theorem Cvx.right {I:Pq→Prop}(h:Cvx I) (l:Li):Cvx fun q=>I q∧a6 l q<0:=fun p q s hp hq h0 h1=>by
 refine⟨h p q s hp.1 hq.1 h0 h1,?_⟩;rw [i7];have a:=hp.2;have b:=hq.2;have:=Rat.mul_nonneg (show 0≤1-s by grind) (show 0≤- a6 l q by grind);by_cases e:s=0
 ·rw [e];grind
 ·have:=Rat.mul_pos (show 0<s by grind) (show 0 < - a6 l p by grind);grind
theorem A0 (c:List Li):Cvx (Inn c):=fun p q s hp hq h0 h1 l hl=>by
 rw [i7];have a:=hp l hl;have b:=hq l hl;have:=Rat.mul_nonneg (show 0≤1-s by grind) (Rat.le_of_lt b);by_cases e:s=0
 ·rw [e];grind
 ·have:=Rat.mul_pos (show 0<s by grind) a;grind
theorem uX {I:Pq→Prop}(h:Cvx I){m:Li}{p q:Pq}(hp:I p) (hq:I q) (h1:0<a6 m p) (h2:a6 m q<0):∃r,I r∧a6 m r=0∧∀l,a6 l p=0→a6 l q=0→a6 l r=0:=by
 have hd:a6 m p-a6 m q≠0:=by grind
 have hd':0<a6 m p-a6 m q:=by grind
 have e : -a6 m q/(a6 m p-a6 m q)*(a6 m p-a6 m q) = -a6 m q:=Rat.div_mul_cancel hd
 have s0:0≤-a6 m q/(a6 m p-a6 m q):=by
  rw [Rat.div_def];exact Rat.mul_nonneg (by grind) (Rat.le_of_lt (Rat.inv_pos.2 hd'))
 have s1 : -a6 m q/(a6 m p-a6 m q)≤1:=by
  by_cases c : -a6 m q/(a6 m p-a6 m q)≤1
  ·exact c
  ·exfalso;have:=Rat.mul_pos (show 0 < -a6 m q/(a6 m p-a6 m q)-1 by grind) hd';grind
 generalize -a6 m q/(a6 m p-a6 m q)=s at *;refine⟨_,h p q s hp hq s0 s1,?_,fun l a b=>?_⟩
 ·rw [i7,e];grind
 ·rw [i7,a,b];grind
theorem Bd {l m:Li}(hl:l.ok) (hs:slp l m=0){p q:Pq}(hp:a6 l p=0) (hq:a6 l q=0):a6 m p=a6 m q:=by
 unfold a6 slp at *
 have h:(l.a:Rat)≠0∨(l.b:Rat)≠0:=by
  rcases hl.2 with r|r
  ·exact .inl fun e=>r (Rat.intCast_eq_zero_iff.1 e)
  ·exact .inr fun e=>r (Rat.intCast_eq_zero_iff.1 e)
 generalize(l.a:Rat)=a at *;generalize(l.b:Rat)=b at *;generalize(m.a:Rat)=c at *;generalize(m.b:Rat)=d at *;have e1:a*(p.1-q.1)+b*(p.2-q.2)=0:=by grind
 have:c*(p.1-q.1)+d*(p.2-q.2)=0:=by
  rcases h with h|h
  ·have:a*(c*(p.1-q.1)+d*(p.2-q.2))=0:=by grind
   rcases Rat.mul_eq_zero.1 this with e|e
   ·exact absurd e h
   ·exact e
  ·have:b*(c*(p.1-q.1)+d*(p.2-q.2))=0:=by grind
   rcases Rat.mul_eq_zero.1 this with e|e
   ·exact absurd e h
   ·exact e
 grind
def Bp (I:Pq→Prop) (l k:Li):Prop:=∃q,I q∧a6 l q=0∧a6 k q=0∧slp l k≠0
def G5 (I:Pq→Prop) (l:Li):Prop:=∃q,I q∧a6 l q=0
open Classical in
noncomputable def wQ (L:List Li) (I:Pq→Prop) (l:Li):Nat:=L.countP fun k=>decide (Bp I l k)
open Classical in
noncomputable def wI (L:List Li) (I:Pq→Prop) (l:Li):Nat:=if G5 I l then 1+wQ L I l else 0
noncomputable def mN (L M:List Li) (I:Pq→Prop):Nat:=(M.map (wI L I)).sum
theorem lM {α:Type}{p r:α→Bool}:∀{L:List α},(∀x∈L,p x=true→r x=true)→L.countP p≤L.countP r
 | [],_=>by simp
 |x::L,h=>by
  have ih:=lM (L:=L) fun y hy=>h y (Mc hy)
  have:=h x Ms;rw [List.countP_cons,List.countP_cons];cases hp:p x <;> cases hr:r x <;> simp_all <;> omega
theorem oZ {α:Type}{p q r:α→Bool}:∀{L:List α},(∀x∈L,p x=true→r x=true)→(∀x∈L,q x=true→r x=true)→(∀x∈L,p x=true→q x=true→False)→L.countP p+L.countP q≤L.countP r
 | [],_,_,_=>by simp
 |x::L,h1,h2,h3=>by
  have ih:=oZ (L:=L) (fun y hy=>h1 y (Mc hy)) (fun y hy=>h2 y (Mc hy)) (fun y hy=>h3 y (Mc hy));have a1:=h1 x Ms;have a2:=h2 x Ms;have a3:=h3 x Ms;rw [List.countP_cons,List.countP_cons,List.countP_cons];cases hp:p x <;> cases hq:q x <;> cases hr:r x <;> simp_all <;> omega
theorem tp {α:Type}{p q r:α→Bool}{x0:α}:∀{L:List α},(∀x∈L,p x=true→r x=true)→(∀x∈L,q x=true→r x=true)→(∀x∈L,p x=true→q x=true→False)→x0∈L→r x0=true→p x0=false→q x0=false→L.countP p+L.countP q+1≤L.countP r
 | [],_,_,_,h,_,_,_=>by cases h
 |x::L,h1,h2,h3,h,e1,e2,e3=>by
  have g1:=fun y hy=>h1 y (Mc hy)
  have g2:=fun y hy=>h2 y (Mc hy)
  have g3:=fun y hy=>h3 y (Mc hy)
  have a1:=h1 x Ms;have a2:=h2 x Ms;have a3:=h3 x Ms;rw [List.countP_cons,List.countP_cons,List.countP_cons];rcases List.mem_cons.1 h with rfl|hm
  ·have:=oZ g1 g2 g3;rw [e1,e2,e3];simp only [if_true,Bool.false_eq_true,if_false];omega
  ·have ih:=tp g1 g2 g3 hm e1 e2 e3;cases hp:p x <;> cases hq:q x <;> cases hr:r x <;> simp_all <;> omega
theorem rn {I J:Pq→Prop}(h:∀q,J q→I q){l k:Li}(c:Bp J l k):Bp I l k:=by
 obtain⟨q,h1,h2⟩:=c;exact⟨q,h q h1,h2⟩
open Classical in
theorem yB {I J:Pq→Prop}(L:List Li) (h:∀q,J q→I q) (l:Li):wI L J l≤wI L I l:=by
 unfold wI;split
 ·rename_i c;obtain⟨q,h1,h2⟩:=c;rw [if_pos ⟨q,h q h1,h2⟩];have:wQ L J l≤wQ L I l:=lM fun x _ hx=>decide_eq_true (rn h (of_decide_eq_true hx))
  omega
 ·omega
theorem GB {I:Pq→Prop}{l k m:Li}(hl:l.ok) (a:Bp (fun q=>I q∧0<a6 m q) l k) (b:Bp (fun q=>I q∧a6 m q<0) l k):False:=by
 obtain⟨p,⟨_,p1⟩,p2,p3,p4⟩:=a;obtain⟨q,⟨_,q1⟩,q2,q3,q4⟩:=b
 have e:p.1=q.1∧p.2=q.2:=by
  unfold a6 slp at *
  have h:(l.a:Rat)≠0∨(l.b:Rat)≠0:=by
   rcases hl.2 with r|r
   ·exact .inl fun e=>r (Rat.intCast_eq_zero_iff.1 e)
   ·exact .inr fun e=>r (Rat.intCast_eq_zero_iff.1 e)
  generalize(l.a:Rat)=a at *;generalize(l.b:Rat)=b at *;generalize(k.a:Rat)=c at *;generalize(k.b:Rat)=d at *;have e1:a*(p.1-q.1)+b*(p.2-q.2)=0:=by grind
  have e2:c*(p.1-q.1)+d*(p.2-q.2)=0:=by grind
  have f1:(c*b-d*a)*(p.1-q.1)=0:=by grind
  have f2:(c*b-d*a)*(p.2-q.2)=0:=by grind
  constructor
  ·rcases Rat.mul_eq_zero.1 f1 with e|e
   ·exact absurd e p4
   ·grind
  ·rcases Rat.mul_eq_zero.1 f2 with e|e
   ·exact absurd e p4
   ·grind
 have:p=q:=Prod.ext e.1 e.2;rw [this]at p1;grind
open Classical in
theorem vf {I:Pq→Prop}(hI:Cvx I){L:List Li}{l m:Li}(hl:l.ok) (hm:m∈L):wI L (fun q=>I q∧0<a6 m q) l+wI L (fun q=>I q∧a6 m q<0) l≤wI L I l:=by
 by_cases c1:G5 (fun q=>I q∧0<a6 m q) l
 ·by_cases c2:G5 (fun q=>I q∧a6 m q<0) l
  ·obtain⟨p,⟨p0,p1⟩,p2⟩:=id c1;obtain⟨q,⟨q0,q1⟩,q2⟩:=id c2;obtain⟨r,r1,r2,r3⟩:=uX hI p0 q0 p1 q1
   have hs:slp l m≠0:=fun e=>by
    have:=Bd hl e p2 q2;rw [this]at p1;grind
   have hx:Bp I l m:=⟨r,r1,r3 l p2 q2,r2,hs⟩
   unfold wI;rw [if_pos c1,if_pos c2,if_pos ⟨r,r1,r3 l p2 q2⟩]
   have:wQ L (fun q=>I q∧0<a6 m q) l+wQ L (fun q=>I q∧a6 m q<0) l+1≤wQ L I l:=by
    refine tp (x0:=m) (fun x _ hx=>decide_eq_true (rn (fun q h=>h.1) (of_decide_eq_true hx))) (fun x _ hx=>decide_eq_true (rn (fun q h=>h.1) (of_decide_eq_true hx))) (fun x _ ha hb=>GB hl (of_decide_eq_true ha) (of_decide_eq_true hb)) hm (decide_eq_true hx) (decide_eq_false ?_) (decide_eq_false ?_)
    ·rintro ⟨q,⟨_,h1⟩,_,h2,_⟩;rw [h2]at h1;exact absurd h1 (Rat.lt_irrefl)
    ·rintro ⟨q,⟨_,h1⟩,_,h2,_⟩;rw [h2]at h1;exact absurd h1 (Rat.lt_irrefl)
   omega
  ·have:=yB (I:=I) (J:=fun q=>I q∧0<a6 m q) L (fun q h=>h.1) l;have e:wI L (fun q=>I q∧a6 m q<0) l=0:=if_neg c2;omega
 ·have:=yB (I:=I) (J:=fun q=>I q∧a6 m q<0) L (fun q h=>h.1) l;have e:wI L (fun q=>I q∧0<a6 m q) l=0:=if_neg c1;omega
open Classical in
theorem Es {I:Pq→Prop}(hI:Cvx I){L:List Li}{m:Li}(h1:Lft I m) (h2:Rgt I m):wI L (fun q=>I q∧0<a6 m q) m+wI L (fun q=>I q∧a6 m q<0) m+1≤wI L I m:=by
 obtain⟨p,p1,p2⟩:=h1;obtain⟨q,q1,q2⟩:=h2;obtain⟨r,r1,r2,_⟩:=uX hI p1 q1 p2 q2
 have e1:wI L (fun q=>I q∧0<a6 m q) m=0:=if_neg (by
  rintro ⟨q,⟨_,h1⟩,h2⟩;rw [h2]at h1;exact absurd h1 (Rat.lt_irrefl))
 have e2:wI L (fun q=>I q∧a6 m q<0) m=0:=if_neg (by
  rintro ⟨q,⟨_,h1⟩,h2⟩;rw [h2]at h1;exact absurd h1 (Rat.lt_irrefl))
 have e3:wI L I m=1+wQ L I m:=if_pos ⟨r,r1,r2⟩;omega
theorem qB {I:Pq→Prop}(hI:Cvx I){L:List Li}{m:Li}(hm:m∈L):∀{M:List Li},(∀l∈M,l.ok)→mN L M (fun q=>I q∧0<a6 m q)+mN L M (fun q=>I q∧a6 m q<0)≤mN L M I
 | [],_=>by simp [mN]
 |l::M,hM=>by
  have ih:=qB hI hm (M:=M) fun x hx=>hM x (Mc hx)
  have:=vf hI (hM l Ms) hm;simp only [mN,List.map_cons,List.sum_cons]at *;omega
theorem sF {I:Pq→Prop}(hI:Cvx I){L:List Li}{m:Li}(hm:m∈L) (h1:Lft I m) (h2:Rgt I m):∀{M:List Li},(∀l∈M,l.ok)→m∈M→mN L M (fun q=>I q∧0<a6 m q)+mN L M (fun q=>I q∧a6 m q<0)+1≤mN L M I
 | [],_,h=>by cases h
 |l::M,hM,h=>by
  have g:=fun x hx=>hM x (Mc hx)
  rcases List.mem_cons.1 h with rfl|h
  ·have ih:=qB hI hm (M:=M) g;have:=Es (L:=L) hI h1 h2;simp only [mN,List.map_cons,List.sum_cons]at *;omega
  ·have ih:=sF hI hm h1 h2 g h;have:=vf hI (hM l Ms) hm;simp only [mN,List.map_cons,List.sum_cons]at *;omega
def Prp:Tr→(Pq→Prop)→Prop
 | .leaf _,_=>True
 | .node l a b,I=>Lft I l∧Rgt I l∧Prp a (fun q=>I q∧0<a6 l q)∧Prp b (fun q=>I q∧a6 l q<0)
theorem qg {L:List Li}(hL:∀l∈L,l.ok):∀{t:Tr}{I:Pq→Prop},Cvx I→Prp t I→t.lin L→cU t≤mN L L I
 | .leaf _,_,_,_,_=>Nat.zero_le _
 | .node l a b,I,hI,⟨h1,h2,h3,h4⟩,⟨k1,k2,k3⟩=>by
  have a1:=qg hL (hI.left l) h3 k2;have a2:=qg hL (hI.right l) h4 k3;have:=sF hI k1 h1 h2 hL k1;simp only [cU];omega
theorem Iw (L:List Li) (I:Pq→Prop) (l:Li):wI L I l≤1+L.length:=by
 have:wQ L I l≤L.length:=List.countP_le_length;unfold wI;split <;> omega
theorem zf (L:List Li) (I:Pq→Prop):∀M:List Li,mN L M I≤M.length*(1+L.length)
 | []=>by simp [mN]
 |l::M=>by
  have:=zf L I M;have:=Iw L I l;simp only [mN,List.map_cons,List.sum_cons,List.length_cons,Nat.add_mul]at *;omega
theorem xn {L:List Li}(hL:∀l∈L,l.ok){t:Tr}{I:Pq→Prop}(hI:Cvx I) (h:Prp t I) (k:t.lin L):cU t≤L.length*(1+L.length) :=
 Nat.le_trans (qg hL hI h k) (zf L I L)
theorem sV {l:Li}{a b:Tr}{I:Pq→Prop}(h1:Lft I l) (h2:Rgt I l) (ha:Prp a fun q=>I q∧0<a6 l q) (hb:Prp b fun q=>I q∧a6 l q<0):Prp (l7 l a b) I:=by
 cases a with
 |leaf i =>
  cases b with
  |leaf j =>
   show Prp (if i=j then Tr.leaf i else Tr.node l (.leaf i) (.leaf j)) I
   split
   ·trivial
   ·exact⟨h1,h2,ha,hb⟩
  |node m x y=>exact⟨h1,h2,ha,hb⟩
 |node m x y=>exact⟨h1,h2,ha,hb⟩
theorem mS:∀{t:Tr}{I:Pq→Prop},Prp t I→Prp (ol t) I
 | .leaf _,_,_=>trivial
 | .node _ _ _,_,⟨h1,h2,h3,h4⟩=>⟨h1,h2,mS h3,mS h4⟩
theorem eR:∀{t:Tr}{I:Pq→Prop},Prp (fM t I) I
 | .leaf _,_=>trivial
 | .node l a b,I=>by
  unfold fM;split
  ·exact eR
  ·rename_i h1;split
   ·exact eR
   ·rename_i h2;exact sV (Classical.not_not.1 h2) (Classical.not_not.1 h1) eR eR
theorem gQ {op:Int}:∀{t b:Tr}{I:Pq→Prop},Prp (fu op t b I) I
 | .leaf i,b,I=>by
  unfold fu pN;split
  ·trivial
  ·split
   ·trivial
   ·split
    ·exact mS eR
    ·exact eR
 | .node l x y,b,I=>by
  unfold fu;split
  ·exact gQ
  ·rename_i h1;split
   ·exact gQ
   ·rename_i h2;exact sV (Classical.not_not.1 h2) (Classical.not_not.1 h1) gQ gQ
theorem sW {L:List Li}{l:Li}(h:l∈L):∀{a b:Tr},a.lin L→b.lin L→(l7 l a b).lin L
 | .leaf i, .leaf j,ha,hb=>by
  show(if i=j then Tr.leaf i else Tr.node l (.leaf i) (.leaf j)).lin L
  split
  ·trivial
  ·exact⟨h,ha,hb⟩
 | .leaf i, .node m x y,ha,hb=>⟨h,ha,hb⟩
 | .node m x y,b,ha,hb=>by cases b <;> exact⟨h,ha,hb⟩
theorem mT {L:List Li}:∀{t:Tr},t.lin L→(ol t).lin L
 | .leaf _,_=>trivial
 | .node _ _ _,⟨h,ha,hb⟩=>⟨h,mT ha,mT hb⟩
theorem eS {L:List Li}:∀{t:Tr}{I:Pq→Prop},t.lin L→(fM t I).lin L
 | .leaf _,_,_=>trivial
 | .node l a b,I,⟨h,ha,hb⟩=>by
  unfold fM;split
  ·exact eS ha
  ·split
   ·exact eS hb
   ·exact sW h (eS ha) (eS hb)
theorem gR {op:Int}{L:List Li}:∀{t b:Tr}{I:Pq→Prop},t.lin L→b.lin L→(fu op t b I).lin L
 | .leaf i,b,I,_,hb=>by
  unfold fu pN;split
  ·trivial
  ·split
   ·trivial
   ·split
    ·exact mT (eS hb)
    ·exact eS hb
 | .node l x y,b,I,⟨h,hx,hy⟩,hb=>by
  unfold fu;split
  ·exact gR hx hb
  ·split
   ·exact gR hy hb
   ·exact sW h (gR hx hb) (gR hy hb)
end Go.Ab
namespace Go.Ab
open Go.Proofs
variable [Base]
theorem Bo {xa xb la lb ma mb p q:Rat}(hl:0<la*p+lb*q) (hx:0<xa*p+xb*q) (hm:0<ma*p+mb*q) (h1:0≤xa*lb-xb*la) (h2:0≤la*mb-lb*ma):0≤xa*mb-xb*ma:=by
 have e:(xa*mb-xb*ma)*(la*p+lb*q)=(xa*lb-xb*la)*(ma*p+mb*q)+(la*mb-lb*ma)*(xa*p+xb*q):=by grind
 have a1:=Rat.mul_nonneg h1 (Rat.le_of_lt hm);have a2:=Rat.mul_nonneg h2 (Rat.le_of_lt hx);by_cases c:xa*mb-xb*ma<0
 ·exfalso;have a3:=Rat.mul_pos (show 0 < -(xa*mb-xb*ma) by grind) hl;rw [Rat.neg_mul,e]at a3;grind
 ·exact Rat.not_lt.1 c
theorem qJ {p q:Rat}:∀(l:List (Rat×Rat)),l≠[]→(∀m∈l,0<m.1*p+m.2*q)→∃x∈l,∀m∈l,0≤x.1*m.2-x.2*m.1
 | [],h,_=>absurd rfl h
 | [x],_,_=>⟨x,List.mem_cons_self ..,fun m hm=>by
  rw [List.mem_singleton.1 hm];grind⟩
 |x::y::l,_,H=>by
  obtain⟨z,hz,k⟩:=qJ (y::l) (by simp) (fun m hm=>H m (Mc hm));have Hx:=H x (List.mem_cons_self ..);have Hz:=H z (Mc hz);by_cases c:x.1*z.2-x.2*z.1<0
  ·refine⟨z,Mc hz,fun m hm=>?_⟩;rcases List.mem_cons.1 hm with rfl|hm
   ·grind
   ·exact k m hm
  ·refine⟨x,List.mem_cons_self ..,fun m hm=>?_⟩;rcases List.mem_cons.1 hm with rfl|hm
   ·grind
   ·exact Bo Hz Hx (H m (Mc hm)) (Rat.not_lt.1 c) (k m hm)
theorem s9 {c:PC}(hc:dH c){s:Fg}(hs:s∈c){k:Rat}(hk:k≠0) (H:∀m∈aa c,0≤k*slp s.1 m):s.2.nl=true∨s.2.nh=true:=by
 obtain⟨h1,t0,h2⟩:=hc.span s hs
 have far:∀r:Rat,0≤r→InS s.2 (t0+r*k):=by
  intro r hr;refine(h1 _).2 fun m hm ne=>?_
  have q1:=(h1 t0).1 h2 m hm ne;rw [aR]at q1⊢;have q2:=Rat.mul_nonneg hr (H m hm);grind
 rcases hnl:s.2.nl with _|_
 ·rcases hnh:s.2.nh with _|_
  ·exfalso;unfold InS at h2 far;rw [hnl,hnh]at h2;have h3:s.2.lo<t0:=by rcases h2.1 with q|q;cases q;exact q
   have h4:t0<s.2.hi:=by rcases h2.2 with q|q;cases q;exact q
   by_cases kp:0<k
   ·have e:(s.2.hi-t0)/k*k=s.2.hi-t0:=Rat.div_mul_cancel hk
    have pos:0≤(s.2.hi-t0)/k:=by
     rw [Rat.div_def];exact Rat.mul_nonneg (by grind) (Rat.le_of_lt (Rat.inv_pos.2 kp))
    have f:=(far _ pos).2;rw [hnh,e]at f;rcases f with q|q
    ·cases q
    ·grind
   ·have kn:0 < -k:=by grind
    have e:(t0-s.2.lo)/(-k)*(-k)=t0-s.2.lo:=Rat.div_mul_cancel (by grind)
    have pos:0≤(t0-s.2.lo)/(-k):=by
     rw [Rat.div_def];exact Rat.mul_nonneg (by grind) (Rat.le_of_lt (Rat.inv_pos.2 kn))
    have f:=(far _ pos).1;rw [hnl]at f;rcases f with q|q
    ·cases q
    ·grind
  ·exact Or.inr rfl
 ·exact Or.inl rfl
theorem AZ {c:PC}(hc:dH c){s:Fg}(hs:s∈c) (h:s.2.nl=true∨s.2.nh=true):∃k:Rat,k≠0∧∀m∈aa c,0≤k*slp s.1 m:=by
 obtain⟨h1,t0,h2⟩:=hc.span s hs;have self:slp s.1 s.1=0:=by unfold slp;grind
 have go:∀k:Rat,(∀r:Rat,0≤r→InS s.2 (t0+r*k))→∀m∈aa c,0≤k*slp s.1 m:=by
  intro k far m hm;by_cases e:m=s.1
  ·rw [e,self];grind
  by_cases g:0≤k*slp s.1 m
  ·exact g
  exfalso;have g':0 < -(k*slp s.1 m):=by grind
  have q1:=(h1 t0).1 h2 m hm e;rw [aR]at q1
  have pos:0≤(a6 m (aV s.1)+t0*slp s.1 m)/(-(k*slp s.1 m)):=by
   rw [Rat.div_def];exact Rat.mul_nonneg (Rat.le_of_lt q1) (Rat.le_of_lt (Rat.inv_pos.2 g'))
  have eq:(a6 m (aV s.1)+t0*slp s.1 m)/(-(k*slp s.1 m))*(-(k*slp s.1 m))=a6 m (aV s.1)+t0*slp s.1 m:=Rat.div_mul_cancel (by grind);have q2:=(h1 _).1 (far _ pos) m hm e;rw [aR]at q2;grind
 unfold InS at h2;rcases h with h|h
 ·refine⟨-1,by grind,go _ fun r hr=>⟨Or.inl h,?_⟩⟩;rcases h2.2 with q|q
  ·exact Or.inl q
  ·exact Or.inr (by grind)
 ·refine⟨1,by grind,go _ fun r hr=>⟨?_,Or.inl h⟩⟩;rcases h2.1 with q|q
  ·exact Or.inl q
  ·exact Or.inr (by grind)
theorem tG {a b:Rat}(h:a≠0∨b≠0):0<a*a+b*b:=by
 have ha:0≤a*a:=by
  by_cases q:0≤a
  ·exact Rat.mul_nonneg q q
  ·have:=Rat.mul_nonneg (show 0≤-a by grind) (show 0≤-a by grind);grind
 have hb:0≤b*b:=by
  by_cases q:0≤b
  ·exact Rat.mul_nonneg q q
  ·have:=Rat.mul_nonneg (show 0≤-b by grind) (show 0≤-b by grind);grind
 by_cases e:a*a+b*b=0
 ·have e1:a*a=0:=by grind
  have e2:b*b=0:=by grind
  rcases Rat.mul_eq_zero.1 e1 with q|q <;> rcases Rat.mul_eq_zero.1 e2 with r|r <;> grind
 ·grind
theorem D2 {c:PC}(hc:dH c) (hne:c≠[]):(∃s∈c,s.2.nl=true∨s.2.nh=true)↔∃d:Pq,(d.1≠0∨d.2≠0)∧∀m∈aa c,0≤(m.a:Rat)*d.1+(m.b:Rat)*d.2:=by
 constructor
 ·rintro ⟨s,hs,h⟩;obtain⟨k,hk,H⟩:=AZ hc hs h;refine⟨(k*s.1.b,-(k*s.1.a)),?_,fun m hm=>?_⟩
  ·rcases(hc.ok s hs).2 with q|q
   ·right;have:(s.1.a:Rat)≠0:=fun e=>q (Rat.intCast_eq_zero_iff.1 e)
    intro e;have e':k*(s.1.a:Rat)=0:=by simp only at e;grind
    rcases Rat.mul_eq_zero.1 e' with r|r
    ·exact hk r
    ·exact this r
   ·left;have:(s.1.b:Rat)≠0:=fun e=>q (Rat.intCast_eq_zero_iff.1 e)
    intro e;have e':k*(s.1.b:Rat)=0:=e;rcases Rat.mul_eq_zero.1 e' with r|r
    ·exact hk r
    ·exact this r
  ·have:=H m hm;unfold slp at this;simp only;grind
 ·rintro ⟨⟨p,q⟩,hd,H⟩;simp only at hd H;by_cases h0:∃s∈c,(s.1.a:Rat)*p+(s.1.b:Rat)*q=0
  ·obtain⟨s,hs,e⟩:=h0
   have hab:(s.1.a:Rat)≠0∨(s.1.b:Rat)≠0:=by
    rcases(hc.ok s hs).2 with r|r
    ·exact Or.inl fun e=>r (Rat.intCast_eq_zero_iff.1 e)
    ·exact Or.inr fun e=>r (Rat.intCast_eq_zero_iff.1 e)
   have n1:=tG hab;have n2:=tG hd;refine⟨s,hs,s9 hc hs (k:=p*s.1.b-q*s.1.a) ?_ fun m hm=>?_⟩
   ·intro z;have:=Rat.mul_pos n1 n2;have id:((s.1.a:Rat)*s.1.a+s.1.b*s.1.b)*(p*p+q*q)=(p*s.1.b-q*s.1.a)*(p*s.1.b-q*s.1.a)+((s.1.a:Rat)*p+s.1.b*q)*((s.1.a:Rat)*p+s.1.b*q):=by grind
    rw [id,z,e]at this;grind
   ·have:=Rat.mul_nonneg (Rat.le_of_lt n1) (H m hm);have id:(p*(s.1.b:Rat)-q*s.1.a)*slp s.1 m=((s.1.a:Rat)*s.1.a+s.1.b*s.1.b)*(m.a*p+m.b*q)-((s.1.a:Rat)*p+s.1.b*q)*(m.a*s.1.a+m.b*s.1.b):=by unfold slp;grind
    rw [id,e];grind
  ·have H':∀m∈(aa c).map (fun l=>((l.a:Rat),(l.b:Rat))),0<m.1*p+m.2*q:=by
    intro m hm;obtain⟨l,hl,rfl⟩:=List.mem_map.1 hm;obtain⟨s,hs,rfl⟩:=List.mem_map.1 hl;have a1:=H _ hl;have a2:(s.1.a:Rat)*p+(s.1.b:Rat)*q≠0:=fun e=>h0 ⟨s,hs,e⟩
    simp only;grind
   obtain⟨x,hx,k⟩:=qJ _ (by simpa [aa] using hne) H';obtain⟨l,hl,rfl⟩:=List.mem_map.1 hx;obtain⟨s,hs,rfl⟩:=List.mem_map.1 hl;refine⟨s,hs,s9 hc hs (k := -1) (by grind) fun m hm=>?_⟩;have:=k _ (List.mem_map_of_mem hm);unfold slp;simp only at this;grind
theorem pd (l:Li) (q d:Pq) (t:Rat):a6 l (cP q t d)=a6 l q+t*((l.a:Rat)*d.1+(l.b:Rat)*d.2):=by
 unfold a6 cP;simp only;grind
theorem ww {q:Pq}(v:Pq):∀{ls:List Li},Inn ls q→∃t0:Rat,0<t0∧∀t,0<t→t≤t0→Inn ls (cP q t v)
 | [],_=>⟨1,by grind,fun _ _ _ l hl=>by cases hl⟩
 |l::ls,H=>by
  obtain⟨t1,h1,h2⟩:=ww v (ls:=ls) fun m hm=>H m (Mc hm)
  have hV:=H l (List.mem_cons_self ..);generalize hK:(l.a:Rat)*v.1+(l.b:Rat)*v.2=K;by_cases kp:0≤K
  ·refine⟨t1,h1,fun t p1 p2 m hm=>?_⟩;rcases List.mem_cons.1 hm with rfl|hm
   ·rw [pd,hK];have:=Rat.mul_nonneg (Rat.le_of_lt p1) kp;grind
   ·exact h2 t p1 p2 m hm
  ·obtain⟨n1,n2⟩:=sM hV (show K<0 by grind);by_cases c:t1≤-(a6 l q/K)/2
   ·refine⟨t1,h1,fun t p1 p2 m hm=>?_⟩;rcases List.mem_cons.1 hm with rfl|hm
    ·rw [pd,hK];exact n2 t p1 (Rat.le_trans p2 c)
    ·exact h2 t p1 p2 m hm
   ·refine⟨-(a6 l q/K)/2,by grind,fun t p1 p2 m hm=>?_⟩;rcases List.mem_cons.1 hm with rfl|hm
    ·rw [pd,hK];exact n2 t p1 p2
    ·exact h2 t p1 (by grind) m hm
theorem kt (m:Li) (q:Pq):a6 m.neg q = - a6 m q:=by
 unfold a6 Li.neg;simp only [Rat.intCast_neg];grind
theorem oh:∀(ms:List Li){ls:List Li}{q:Pq},(∀m∈ms,m.ok)→Inn ls q→∃r,Inn ls r∧∀m∈ms,a6 m r≠0
 | [],_,q,_,h=>⟨q,h,fun _ hm=>by cases hm⟩
 |m::ms,ls,q,hms,h=>by
  have step:∃r,Inn ls r∧a6 m r≠0:=by
   by_cases e:a6 m q=0
   ·obtain⟨t,t1,t2⟩:=ww ((m.a:Rat),(m.b:Rat)) h;refine⟨_,t2 t t1 (Rat.le_refl),?_⟩;rw [pd,e]
    have ab:(m.a:Rat)≠0∨(m.b:Rat)≠0:=by
     rcases(hms m (List.mem_cons_self ..)).2 with r|r
     ·exact Or.inl fun e=>r (Rat.intCast_eq_zero_iff.1 e)
     ·exact Or.inr fun e=>r (Rat.intCast_eq_zero_iff.1 e)
    have:=Rat.mul_pos t1 (tG ab);simp only;grind
   ·exact⟨q,h,e⟩
  obtain⟨r,r1,r2⟩:=step;by_cases p:0<a6 m r
  ·obtain⟨z,z1,z2⟩:=oh ms (ls:=m::ls) (q:=r) (fun x hx=>hms x (Mc hx)) (fun x hx=>by
    rcases List.mem_cons.1 hx with rfl|hx
    ·exact p
    ·exact r1 x hx)
   refine⟨z,fun x hx=>z1 x (Mc hx),fun x hx=>?_⟩;rcases List.mem_cons.1 hx with rfl|hx
   ·have:=z1 x (List.mem_cons_self ..);grind
   ·exact z2 x hx
  ·obtain⟨z,z1,z2⟩:=oh ms (ls:=m.neg::ls) (q:=r) (fun x hx=>hms x (Mc hx)) (fun x hx=>by
    rcases List.mem_cons.1 hx with rfl|hx
    ·rw [kt];grind
    ·exact r1 x hx)
   refine⟨z,fun x hx=>z1 x (Mc hx),fun x hx=>?_⟩;rcases List.mem_cons.1 hx with rfl|hx
   ·have:=z1 _ (List.mem_cons_self ..);rw [kt]at this;grind
   ·exact z2 x hx
def Off (L:List Li) (q:Pq):Prop:=∀l∈L,a6 l q≠0
def OpP (I:Pq→Prop):Prop:=∃c:List Li,(∀l∈c,l.ok)∧∀q,I q↔Inn c q
theorem OpP.left {I:Pq→Prop}(h:OpP I){l:Li}(hl:l.ok):OpP fun q=>I q∧0<a6 l q:=by
 obtain⟨c,h1,h2⟩:=h;exact⟨c++[l],gz h1 hl,fun q=>by show(I q∧0<a6 l q)↔_;rw [ed,h2]⟩
theorem OpP.right {I:Pq→Prop}(h:OpP I){l:Li}(hl:l.ok):OpP fun q=>I q∧a6 l q<0:=by
 obtain⟨c,h1,h2⟩:=h;exact⟨c++[l.neg],gz h1 hl.neg,fun q=>by show(I q∧a6 l q<0)↔_;rw [ed,h2,xU]⟩
theorem OpP.off {I:Pq→Prop}(h:OpP I){L:List Li}(hL:∀l∈L,l.ok){q:Pq}(hq:I q):∃r,I r∧Off L r:=by
 obtain⟨c,h1,h2⟩:=h;obtain⟨r,r1,r2⟩:=oh L hL ((h2 q).1 hq);exact⟨r,(h2 r).2 r1,r2⟩
theorem Dt:∃q,Inn [] q:=⟨(0,0),(fun l h=>by cases h)⟩
theorem zJ (q:Pq):Inn [] q:=fun l h=>by cases h
theorem D7:∀l∈([]:List Li),l.ok:=fun l h=>by cases h
theorem vL {t:Tr}(h:t.lok):bq t []=fM t (Inn []):=iN h D7 Dt
theorem wj {op:Int}{t b:Tr}(h:t.lok) (k:b.lok):dE op t b []=fu op t b (Inn []):=jV h k D7 Dt
theorem ii {L:List Li}(hL:∀l∈L,l.ok):∀{t:Tr},t.lin L→t.lok
 | .leaf _,_=>trivial
 | .node _ _ _,⟨h,a,b⟩=>⟨hL _ h,ii hL a,ii hL b⟩
theorem xD {L:List Li}(hL:∀l∈L,l.ok){t:Tr}(h:t.lin L):(bq t []).lin L:=by
 rw [vL (ii hL h)];exact eS h
theorem xX {op:Int}{L:List Li}(hL:∀l∈L,l.ok){t b:Tr}(h:t.lin L) (k:b.lin L):(dE op t b []).lin L:=by
 rw [wj (ii hL h) (ii hL k)];exact gR h k
theorem Tr.lin.mono {L M:List Li}(hs:∀l∈L,l∈M):∀{t:Tr},t.lin L→t.lin M
 | .leaf _,_=>trivial
 | .node _ _ _,⟨h,a,b⟩=>⟨hs _ h,a.mono hs,b.mono hs⟩
theorem Tr.lin.all {L:List Li}{p:Li→Prop}(hp:∀l∈L,p l):∀{t:Tr},t.lin L→t.all p
 | .leaf _,_=>trivial
 | .node _ _ _,⟨h,a,b⟩=>⟨hp _ h,a.all hp,b.all hp⟩
theorem rx {α:Type}{p q:α→Bool}{x0:α}:∀{L:List α},(∀x∈L,p x=true→q x=true)→x0∈L→q x0=true→p x0=false→L.countP p+1≤L.countP q
 | [],_,h,_,_=>by cases h
 |x::L,h1,h,e1,e2=>by
  have g1:=fun y hy=>h1 y (Mc hy)
  rw [List.countP_cons,List.countP_cons];rcases List.mem_cons.1 h with rfl|hm
  ·have:=lM g1;rw [e1,e2];simp only [if_true,Bool.false_eq_true,if_false];omega
  ·have ih:=rx g1 hm e1 e2;have:=h1 x Ms;cases hp:p x <;> cases hq:q x <;> simp_all <;> omega
open Classical in
noncomputable def G4 (L:List Li) (I:Pq→Prop):Nat:=L.countP fun l=>decide (G5 I l)
open Classical in
theorem sP {I J:Pq→Prop}(hI:Cvx I){L:List Li}{m:Li}(hm:m∈L) (h1:Lft I m) (h2:Rgt I m) (hJ:∀q,J q→I q∧a6 m q≠0):G4 L J+1≤G4 L I:=by
 refine rx (x0:=m) (fun l _ h=>?_) hm ?_ ?_
 ·obtain⟨q,q1,q2⟩:=of_decide_eq_true h;exact decide_eq_true ⟨q,(hJ q q1).1,q2⟩
 ·obtain⟨p,p1,p2⟩:=h1;obtain⟨q,q1,q2⟩:=h2;obtain⟨r,r1,r2,_⟩:=uX hI p1 q1 p2 q2;exact decide_eq_true ⟨r,r1,r2⟩
 ·refine decide_eq_false ?_;rintro ⟨q,q1,q2⟩;exact(hJ q q1).2 q2
theorem oF {L:List Li}:∀{t:Tr}{I:Pq→Prop},Cvx I→Prp t I→t.lin L→eM t≤G4 L I
 | .leaf _,_,_,_,_=>Nat.zero_le _
 | .node l a b,I,hI,⟨h1,h2,h3,h4⟩,⟨k1,k2,k3⟩=>by
  have a1:=oF (hI.left l) h3 k2;have a2:=oF (hI.right l) h4 k3;have m1:=sP (J:=fun q=>I q∧0<a6 l q) hI k1 h1 h2 fun q h=>⟨h.1,by have:=h.2;grind⟩
  have m2:=sP (J:=fun q=>I q∧a6 l q<0) hI k1 h1 h2 fun q h=>⟨h.1,by have:=h.2;grind⟩
  simp only [eM];omega
def Gd (L:List Li) (t:Tr):Prop:=t.lin L∧Prp t (Inn [])
theorem Gd.dep {L:List Li}{t:Tr}(h:Gd L t):eM t≤L.length:=by
 refine Nat.le_trans (oF (A0 []) h.2 h.1) ?_;unfold G4;exact List.countP_le_length
theorem Gd.size {L:List Li}(hL:∀l∈L,l.ok){t:Tr}(h:Gd L t):cU t≤L.length*(1+L.length):=xn hL (A0 []) h.2 h.1
theorem Gd.leaf (L:List Li) (i:Bool):Gd L (.leaf i):=⟨trivial,trivial⟩
theorem Gd.not {L:List Li}{t:Tr}(h:Gd L t):Gd L (ol t):=⟨mT h.1,mS h.2⟩
theorem Gd.restr {L:List Li}(hL:∀l∈L,l.ok){t:Tr}(h:t.lin L):Gd L (bq t []):=⟨xD hL h,by rw [vL (ii hL h)];exact eR⟩
theorem Gd.merge {op:Int}{L:List Li}(hL:∀l∈L,l.ok){t b:Tr}(h:t.lin L) (k:b.lin L):Gd L (dE op t b []):=⟨xX hL h k,by rw [wj (ii hL h) (ii hL k)];exact gQ⟩
theorem Di {l:Li}(h:l.ok):Lft (Inn []) l∧Rgt (Inn []) l:=by
 obtain⟨p,hp⟩:=tc h;have n0:=cW h;refine⟨⟨(p.1+1*l.a,p.2+1*l.b),zJ _,?_⟩,⟨(p.1 + -1*l.a,p.2 + -1*l.b),zJ _,?_⟩⟩
 ·rw [bS,hp];grind
 ·rw [bS,hp];grind
end Go.Ab
namespace Go.Ab
open Go.Proofs
variable [Base]
def sd (m:Li) (q:Pq):Bool:=decide (0<a6 m q)
structure GS (L:List Li) (P:Pq→Prop) (q r:Pq):Prop where
 oq:Off L q
 or:Off L r
 pq:P q
 pr:P r
 one:∃l:Li,∀m∈L,sd m q≠sd m r→m=l∨m=l.neg
theorem GS.symm {L:List Li}{P:Pq→Prop}{q r:Pq}(h:GS L P q r):GS L P r q:=by
 obtain⟨l,hl⟩:=h.one;exact⟨h.or,h.oq,h.pr,h.pq,l,fun m hm e=>hl m hm e.symm⟩
inductive Way (L:List Li) (P:Pq→Prop):Pq→Pq→Prop
 |refl (q:Pq):Way L P q q
 |step {q r s:Pq}(h:GS L P q r) (w:Way L P r s):Way L P q s
theorem Way.trans {L:List Li}{P:Pq→Prop}{q r s:Pq}(h:Way L P q r) (k:Way L P r s):Way L P q s:=by
 induction h with
 |refl=>exact k
 |step h _ ih=>exact .step h (ih k)
theorem Way.symm {L:List Li}{P:Pq→Prop}{q r:Pq}(h:Way L P q r):Way L P r q:=by
 induction h with
 |refl=>exact .refl _
 |step h _ ih=>exact ih.trans (.step h.symm (.refl _))
theorem tF {a b:Rat}(h:a≠0∨b≠0):0<a*a+b*b:=by
 have sq:∀x:Rat,0≤x*x:=fun x=>by
  rcases(by grind:0≤x∨0≤-x)with h|h
  ·exact Rat.mul_nonneg h h
  ·have:=Rat.mul_nonneg h h;grind
 have sp:∀x:Rat,x≠0→0<x*x:=fun x hx=>by
  rcases(by grind:0<x∨0 < -x)with h|h
  ·exact Rat.mul_pos h h
  ·have:=Rat.mul_pos h h;grind
 rcases h with h|h
 ·have:=sp a h;have:=sq b;grind
 ·have:=sp b h;have:=sq a;grind
end Go.Ab
