/- Texts laid one behind the other: Fce, Eqv, Gd, GwK. -/
import Derived.Test.YtpeidlcjlfkpcaaGreatDoorB30
import Derived.Test.YtpeidlcjlfkpcaaGreatDoorB31
set_option linter.all false
set_option maxHeartbeats 16000000
namespace Go.Ab
open Go.Proofs
variable [Base]
def Cvx (I:Pq→Prop):Prop:=∀p q (s:Rat),I p→I q→0≤s→s≤1→I (q.1+s*(p.1-q.1),q.2+s*(p.2-q.2))
theorem Cvx.left {I:Pq→Prop}(h:Cvx I) (l:Li):Cvx fun q=>I q∧0<af l q:=fun p q s hp hq h0 h1=>by
 refine⟨h p q s hp.1 hq.1 h0 h1,?_⟩;rw [ov];have:=dk h0 (f8 hp.2);have:=dk (show 0≤1-s by grind) (f8 hq.2);have a:=hp.2;have b:=hq.2;by_cases e:s=0
 ·rw [e];grind
 ·have:=ez (show 0<s by grind) a;grind
theorem Cvx.right {I:Pq→Prop}(h:Cvx I) (l:Li):Cvx fun q=>I q∧af l q<0:=fun p q s hp hq h0 h1=>by
 refine⟨h p q s hp.1 hq.1 h0 h1,?_⟩;rw [ov];have a:=hp.2;have b:=hq.2;have:=dk (show 0≤1-s by grind) (show 0≤- af l q by grind);by_cases e:s=0
 ·rw [e];grind
 ·have:=ez (show 0<s by grind) (show 0 < - af l p by grind);grind
theorem HO (c:List Li):Cvx (Inn c):=fun p q s hp hq h0 h1 l hl=>by
 rw [ov];have a:=hp l hl;have b:=hq l hl;have:=dk (show 0≤1-s by grind) (f8 b);by_cases e:s=0
 ·rw [e];grind
 ·have:=ez (show 0<s by grind) a;grind
theorem Ci {I:Pq→Prop}(h:Cvx I){m:Li}{p q:Pq}(hp:I p) (hq:I q) (h1:0<af m p) (h2:af m q<0):∃r,I r∧af m r=0∧∀l,af l p=0→af l q=0→af l r=0:=by
 have hd:af m p-af m q≠0:=by grind
 have hd':0<af m p-af m q:=by grind
 have e : -af m q/(af m p-af m q)*(af m p-af m q) = -af m q:=g8 hd
 have s0:0≤-af m q/(af m p-af m q):=by
  rw [iY];exact dk (by grind) (f8 (Rat.inv_pos.2 hd'))
 have s1 : -af m q/(af m p-af m q)≤1:=by
  by_cases c : -af m q/(af m p-af m q)≤1
  ·exact c
  ·exfalso;have:=ez (show 0 < -af m q/(af m p-af m q)-1 by grind) hd';grind
 generalize -af m q/(af m p-af m q)=s at *;refine⟨_,h p q s hp hq s0 s1,?_,fun l a b=>?_⟩
 ·rw [ov,e];grind
 ·rw [ov,a,b];grind
theorem Jk {l m:Li}(hl:l.ok) (hs:slp l m=0){p q:Pq}(hp:af l p=0) (hq:af l q=0):af m p=af m q:=by
 unfold af slp at *
 have h:(l.a:Rat)≠0∨(l.b:Rat)≠0:=by
  rcases hl.2 with r|r
  ·exact .inl fun e=>r (ii.1 e)
  ·exact .inr fun e=>r (ii.1 e)
 generalize(l.a:Rat)=a at *;generalize(l.b:Rat)=b at *;generalize(m.a:Rat)=c at *;generalize(m.b:Rat)=d at *;have e1:a*(p.1-q.1)+b*(p.2-q.2)=0:=by grind
 have:c*(p.1-q.1)+d*(p.2-q.2)=0:=by
  rcases h with h|h
  ·have:a*(c*(p.1-q.1)+d*(p.2-q.2))=0:=by grind
   rcases dQ.1 this with e|e
   ·exact absurd e h
   ·exact e
  ·have:b*(c*(p.1-q.1)+d*(p.2-q.2))=0:=by grind
   rcases dQ.1 this with e|e
   ·exact absurd e h
   ·exact e
 grind
def Jy (I:Pq→Prop) (l k:Li):Prop:=∃q,I q∧af l q=0∧af k q=0∧slp l k≠0
def P5 (I:Pq→Prop) (l:Li):Prop:=∃q,I q∧af l q=0
open Classical in
noncomputable def Eg (L:List Li) (I:Pq→Prop) (l:Li):Nat:=L.countP fun k=>decide (Jy I l k)
open Classical in
noncomputable def wI (L:List Li) (I:Pq→Prop) (l:Li):Nat:=if P5 I l then 1+Eg L I l else 0
noncomputable def uw (L M:List Li) (I:Pq→Prop):Nat:=(M.map (wI L I)).sum
theorem tV {α:Type}{p r:α→Bool}:∀{L:List α},(∀x∈L,p x=true→r x=true)→L.countP p≤L.countP r
 | [],_=>by simp
 |x::L,h=>by
  have ih:=tV (L:=L) fun y hy=>h y (Mc hy)
  have:=h x Ms;rw [dP,dP];cases hp:p x <;> cases hr:r x <;> simp_all <;> omega
theorem wL {α:Type}{p q r:α→Bool}:∀{L:List α},(∀x∈L,p x=true→r x=true)→(∀x∈L,q x=true→r x=true)→(∀x∈L,p x=true→q x=true→False)→L.countP p+L.countP q≤L.countP r
 | [],_,_,_=>by simp
 |x::L,h1,h2,h3=>by
  have ih:=wL (L:=L) (fun y hy=>h1 y (Mc hy)) (fun y hy=>h2 y (Mc hy)) (fun y hy=>h3 y (Mc hy));have a1:=h1 x Ms;have a2:=h2 x Ms;have a3:=h3 x Ms;rw [dP,dP,dP];cases hp:p x <;> cases hq:q x <;> cases hr:r x <;> simp_all <;> omega
theorem B6 {α:Type}{p q r:α→Bool}{x0:α}:∀{L:List α},(∀x∈L,p x=true→r x=true)→(∀x∈L,q x=true→r x=true)→(∀x∈L,p x=true→q x=true→False)→x0∈L→r x0=true→p x0=false→q x0=false→L.countP p+L.countP q+1≤L.countP r
 | [],_,_,_,h,_,_,_=>by cases h
 |x::L,h1,h2,h3,h,e1,e2,e3=>by
  have g1:=fun y hy=>h1 y (Mc hy)
  have g2:=fun y hy=>h2 y (Mc hy)
  have g3:=fun y hy=>h3 y (Mc hy)
  have a1:=h1 x Ms;have a2:=h2 x Ms;have a3:=h3 x Ms;rw [dP,dP,dP];rcases ak.1 h with rfl|hm
  ·have:=wL g1 g2 g3;rw [e1,e2,e3];simp only [aV,bE,aO];omega
  ·have ih:=B6 g1 g2 g3 hm e1 e2 e3;cases hp:p x <;> cases hq:q x <;> cases hr:r x <;> simp_all <;> omega
theorem zi {I J:Pq→Prop}(h:∀q,J q→I q){l k:Li}(c:Jy J l k):Jy I l k:=by
 obtain⟨q,h1,h2⟩:=c;exact⟨q,h q h1,h2⟩
open Classical in
theorem Ga {I J:Pq→Prop}(L:List Li) (h:∀q,J q→I q) (l:Li):wI L J l≤wI L I l:=by
 unfold wI;split
 ·rename_i c;obtain⟨q,h1,h2⟩:=c;rw [if_pos ⟨q,h q h1,h2⟩];have:Eg L J l≤Eg L I l:=tV fun x _ hx=>a9 (zi h (fS hx))
  omega
 ·omega
theorem PW {I:Pq→Prop}{l k m:Li}(hl:l.ok) (a:Jy (fun q=>I q∧0<af m q) l k) (b:Jy (fun q=>I q∧af m q<0) l k):False:=by
 obtain⟨p,⟨_,p1⟩,p2,p3,p4⟩:=a;obtain⟨q,⟨_,q1⟩,q2,q3,q4⟩:=b
 have e:p.1=q.1∧p.2=q.2:=by
  unfold af slp at *
  have h:(l.a:Rat)≠0∨(l.b:Rat)≠0:=by
   rcases hl.2 with r|r
   ·exact .inl fun e=>r (ii.1 e)
   ·exact .inr fun e=>r (ii.1 e)
  generalize(l.a:Rat)=a at *;generalize(l.b:Rat)=b at *;generalize(k.a:Rat)=c at *;generalize(k.b:Rat)=d at *;have e1:a*(p.1-q.1)+b*(p.2-q.2)=0:=by grind
  have e2:c*(p.1-q.1)+d*(p.2-q.2)=0:=by grind
  have f1:(c*b-d*a)*(p.1-q.1)=0:=by grind
  have f2:(c*b-d*a)*(p.2-q.2)=0:=by grind
  constructor
  ·rcases dQ.1 f1 with e|e
   ·exact absurd e p4
   ·grind
  ·rcases dQ.1 f2 with e|e
   ·exact absurd e p4
   ·grind
 have:p=q:=jx e.1 e.2;rw [this]at p1;grind
open Classical in
theorem Cq {I:Pq→Prop}(hI:Cvx I){L:List Li}{l m:Li}(hl:l.ok) (hm:m∈L):wI L (fun q=>I q∧0<af m q) l+wI L (fun q=>I q∧af m q<0) l≤wI L I l:=by
 by_cases c1:P5 (fun q=>I q∧0<af m q) l
 ·by_cases c2:P5 (fun q=>I q∧af m q<0) l
  ·obtain⟨p,⟨p0,p1⟩,p2⟩:=id c1;obtain⟨q,⟨q0,q1⟩,q2⟩:=id c2;obtain⟨r,r1,r2,r3⟩:=Ci hI p0 q0 p1 q1
   have hs:slp l m≠0:=fun e=>by
    have:=Jk hl e p2 q2;rw [this]at p1;grind
   have hx:Jy I l m:=⟨r,r1,r3 l p2 q2,r2,hs⟩
   unfold wI;rw [if_pos c1,if_pos c2,if_pos ⟨r,r1,r3 l p2 q2⟩]
   have:Eg L (fun q=>I q∧0<af m q) l+Eg L (fun q=>I q∧af m q<0) l+1≤Eg L I l:=by
    refine B6 (x0:=m) (fun x _ hx=>a9 (zi (fun q h=>h.1) (fS hx))) (fun x _ hx=>a9 (zi (fun q h=>h.1) (fS hx))) (fun x _ ha hb=>PW hl (fS ha) (fS hb)) hm (a9 hx) (aa ?_) (aa ?_)
    ·rintro ⟨q,⟨_,h1⟩,_,h2,_⟩;rw [h2]at h1;exact absurd h1 (pP)
    ·rintro ⟨q,⟨_,h1⟩,_,h2,_⟩;rw [h2]at h1;exact absurd h1 (pP)
   omega
  ·have:=Ga (I:=I) (J:=fun q=>I q∧0<af m q) L (fun q h=>h.1) l;have e:wI L (fun q=>I q∧af m q<0) l=0:=if_neg c2;omega
 ·have:=Ga (I:=I) (J:=fun q=>I q∧af m q<0) L (fun q h=>h.1) l;have e:wI L (fun q=>I q∧0<af m q) l=0:=if_neg c1;omega
open Classical in
theorem Nu {I:Pq→Prop}(hI:Cvx I){L:List Li}{m:Li}(h1:Lft I m) (h2:Rgt I m):wI L (fun q=>I q∧0<af m q) m+wI L (fun q=>I q∧af m q<0) m+1≤wI L I m:=by
 obtain⟨p,p1,p2⟩:=h1;obtain⟨q,q1,q2⟩:=h2;obtain⟨r,r1,r2,_⟩:=Ci hI p1 q1 p2 q2
 have e1:wI L (fun q=>I q∧0<af m q) m=0:=if_neg (by
  rintro ⟨q,⟨_,h1⟩,h2⟩;rw [h2]at h1;exact absurd h1 (pP))
 have e2:wI L (fun q=>I q∧af m q<0) m=0:=if_neg (by
  rintro ⟨q,⟨_,h1⟩,h2⟩;rw [h2]at h1;exact absurd h1 (pP))
 have e3:wI L I m=1+Eg L I m:=if_pos ⟨r,r1,r2⟩;omega
theorem yi {I:Pq→Prop}(hI:Cvx I){L:List Li}{m:Li}(hm:m∈L):∀{M:List Li},(∀l∈M,l.ok)→uw L M (fun q=>I q∧0<af m q)+uw L M (fun q=>I q∧af m q<0)≤uw L M I
 | [],_=>by simp [uw]
 |l::M,hM=>by
  have ih:=yi hI hm (M:=M) fun x hx=>hM x (Mc hx)
  have:=Cq hI (hM l Ms) hm;simp only [uw,aD,lx]at *;omega
theorem Aj {I:Pq→Prop}(hI:Cvx I){L:List Li}{m:Li}(hm:m∈L) (h1:Lft I m) (h2:Rgt I m):∀{M:List Li},(∀l∈M,l.ok)→m∈M→uw L M (fun q=>I q∧0<af m q)+uw L M (fun q=>I q∧af m q<0)+1≤uw L M I
 | [],_,h=>by cases h
 |l::M,hM,h=>by
  have g:=fun x hx=>hM x (Mc hx)
  rcases ak.1 h with rfl|h
  ·have ih:=yi hI hm (M:=M) g;have:=Nu (L:=L) hI h1 h2;simp only [uw,aD,lx]at *;omega
  ·have ih:=Aj hI hm h1 h2 g h;have:=Cq hI (hM l Ms) hm;simp only [uw,aD,lx]at *;omega
def Prp:Tr→(Pq→Prop)→Prop
 | .leaf _,_=>True
 | .node l a b,I=>Lft I l∧Rgt I l∧Prp a (fun q=>I q∧0<af l q)∧Prp b (fun q=>I q∧af l q<0)
theorem xZ {L:List Li}(hL:∀l∈L,l.ok):∀{t:Tr}{I:Pq→Prop},Cvx I→Prp t I→t.lin L→dG t≤uw L L I
 | .leaf _,_,_,_,_=>an _
 | .node l a b,I,hI,⟨h1,h2,h3,h4⟩,⟨k1,k2,k3⟩=>by
  have a1:=xZ hL (hI.left l) h3 k2;have a2:=xZ hL (hI.right l) h4 k3;have:=Aj hI k1 h1 h2 hL k1;simp only [dG];omega
theorem Si (L:List Li) (I:Pq→Prop) (l:Li):wI L I l≤1+L.length:=by
 have:Eg L I l≤L.length:=sR;unfold wI;split <;> omega
theorem GL (L:List Li) (I:Pq→Prop):∀M:List Li,uw L M I≤M.length*(1+L.length)
 | []=>by simp [uw]
 |l::M=>by
  have:=GL L I M;have:=Si L I l;simp only [uw,aD,lx,aF,aT]at *;omega
theorem EA {L:List Li}(hL:∀l∈L,l.ok){t:Tr}{I:Pq→Prop}(hI:Cvx I) (h:Prp t I) (k:t.lin L):dG t≤L.length*(1+L.length) :=
 aU (xZ hL hI h k) (GL L I L)
theorem AH {l:Li}{a b:Tr}{I:Pq→Prop}(h1:Lft I l) (h2:Rgt I l) (ha:Prp a fun q=>I q∧0<af l q) (hb:Prp b fun q=>I q∧af l q<0):Prp (o9 l a b) I:=by
 cases a with
 |leaf i =>
  cases b with
  |leaf j =>
   show Prp (if i=j then Tr.leaf i else Tr.node l (.leaf i) (.leaf j)) I
   split
   ·trivial
   ·exact⟨h1,h2,ha,hb⟩
  |node m x y=>exact⟨h1,h2,ha,hb⟩
 |node m x y=>exact⟨h1,h2,ha,hb⟩
theorem uE:∀{t:Tr}{I:Pq→Prop},Prp t I→Prp (ml t) I
 | .leaf _,_,_=>trivial
 | .node _ _ _,_,⟨h1,h2,h3,h4⟩=>⟨h1,h2,uE h3,uE h4⟩
theorem kO:∀{t:Tr}{I:Pq→Prop},Prp (kQ t I) I
 | .leaf _,_=>trivial
 | .node l a b,I=>by
  unfold kQ;split
  ·exact kO
  ·rename_i h1;split
   ·exact kO
   ·rename_i h2;exact AH (pO.1 h2) (pO.1 h1) kO kO
theorem nY {op:Int}:∀{t b:Tr}{I:Pq→Prop},Prp (jI op t b I) I
 | .leaf i,b,I=>by
  unfold jI vf;split
  ·trivial
  ·split
   ·trivial
   ·split
    ·exact uE kO
    ·exact kO
 | .node l x y,b,I=>by
  unfold jI;split
  ·exact nY
  ·rename_i h1;split
   ·exact nY
   ·rename_i h2;exact AH (pO.1 h2) (pO.1 h1) nY nY
theorem AI {L:List Li}{l:Li}(h:l∈L):∀{a b:Tr},a.lin L→b.lin L→(o9 l a b).lin L
 | .leaf i, .leaf j,ha,hb=>by
  show(if i=j then Tr.leaf i else Tr.node l (.leaf i) (.leaf j)).lin L
  split
  ·trivial
  ·exact⟨h,ha,hb⟩
 | .leaf i, .node m x y,ha,hb=>⟨h,ha,hb⟩
 | .node m x y,b,ha,hb=>by cases b <;> exact⟨h,ha,hb⟩
theorem uF {L:List Li}:∀{t:Tr},t.lin L→(ml t).lin L
 | .leaf _,_=>trivial
 | .node _ _ _,⟨h,ha,hb⟩=>⟨h,uF ha,uF hb⟩
theorem kP {L:List Li}:∀{t:Tr}{I:Pq→Prop},t.lin L→(kQ t I).lin L
 | .leaf _,_,_=>trivial
 | .node l a b,I,⟨h,ha,hb⟩=>by
  unfold kQ;split
  ·exact kP ha
  ·split
   ·exact kP hb
   ·exact AI h (kP ha) (kP hb)
theorem nZ {op:Int}{L:List Li}:∀{t b:Tr}{I:Pq→Prop},t.lin L→b.lin L→(jI op t b I).lin L
 | .leaf i,b,I,_,hb=>by
  unfold jI vf;split
  ·trivial
  ·split
   ·trivial
   ·split
    ·exact uF (kP hb)
    ·exact kP hb
 | .node l x y,b,I,⟨h,hx,hy⟩,hb=>by
  unfold jI;split
  ·exact nZ hx hb
  ·split
   ·exact nZ hy hb
   ·exact AI h (nZ hx hb) (nZ hy hb)
end Go.Ab
namespace Go.Ab
open Go.Proofs
variable [Base]
theorem Mi:∃q,Inn [] q:=⟨(0,0),(fun l h=>by cases h)⟩
theorem Ho (q:Pq):Inn [] q:=fun l h=>by cases h
theorem LJ:∀l∈([]:List Li),l.ok:=fun l h=>by cases h
theorem CW {t:Tr}(h:t.lok):dI t []=kQ t (Inn []):=nV h LJ Mi
theorem DD {op:Int}{t b:Tr}(h:t.lok) (k:b.lok):fk op t b []=jI op t b (Inn []):=pA h k LJ Mi
theorem li {L:List Li}(hL:∀l∈L,l.ok):∀{t:Tr},t.lin L→t.lok
 | .leaf _,_=>trivial
 | .node _ _ _,⟨h,a,b⟩=>⟨hL _ h,li hL a,li hL b⟩
theorem ER {L:List Li}(hL:∀l∈L,l.ok){t:Tr}(h:t.lin L):(dI t []).lin L:=by
 rw [CW (li hL h)];exact kP h
theorem Fm {op:Int}{L:List Li}(hL:∀l∈L,l.ok){t b:Tr}(h:t.lin L) (k:b.lin L):(fk op t b []).lin L:=by
 rw [DD (li hL h) (li hL k)];exact nZ h k
theorem Tr.lin.mono {L M:List Li}(hs:∀l∈L,l∈M):∀{t:Tr},t.lin L→t.lin M
 | .leaf _,_=>trivial
 | .node _ _ _,⟨h,a,b⟩=>⟨hs _ h,a.mono hs,b.mono hs⟩
theorem Tr.lin.all {L:List Li}{p:Li→Prop}(hp:∀l∈L,p l):∀{t:Tr},t.lin L→t.all p
 | .leaf _,_=>trivial
 | .node _ _ _,⟨h,a,b⟩=>⟨hp _ h,a.all hp,b.all hp⟩
theorem zj {α:Type}{p q:α→Bool}{x0:α}:∀{L:List α},(∀x∈L,p x=true→q x=true)→x0∈L→q x0=true→p x0=false→L.countP p+1≤L.countP q
 | [],_,h,_,_=>by cases h
 |x::L,h1,h,e1,e2=>by
  have g1:=fun y hy=>h1 y (Mc hy)
  rw [dP,dP];rcases ak.1 h with rfl|hm
  ·have:=tV g1;rw [e1,e2];simp only [aV,bE,aO];omega
  ·have ih:=zj g1 hm e1 e2;have:=h1 x Ms;cases hp:p x <;> cases hq:q x <;> simp_all <;> omega
open Classical in
noncomputable def P4 (L:List Li) (I:Pq→Prop):Nat:=L.countP fun l=>decide (P5 I l)
open Classical in
theorem Az {I J:Pq→Prop}(hI:Cvx I){L:List Li}{m:Li}(hm:m∈L) (h1:Lft I m) (h2:Rgt I m) (hJ:∀q,J q→I q∧af m q≠0):P4 L J+1≤P4 L I:=by
 refine zj (x0:=m) (fun l _ h=>?_) hm ?_ ?_
 ·obtain⟨q,q1,q2⟩:=fS h;exact a9 ⟨q,(hJ q q1).1,q2⟩
 ·obtain⟨p,p1,p2⟩:=h1;obtain⟨q,q1,q2⟩:=h2;obtain⟨r,r1,r2,_⟩:=Ci hI p1 q1 p2 q2;exact a9 ⟨r,r1,r2⟩
 ·refine aa ?_;rintro ⟨q,q1,q2⟩;exact(hJ q q1).2 q2
theorem wh {L:List Li}:∀{t:Tr}{I:Pq→Prop},Cvx I→Prp t I→t.lin L→j6 t≤P4 L I
 | .leaf _,_,_,_,_=>an _
 | .node l a b,I,hI,⟨h1,h2,h3,h4⟩,⟨k1,k2,k3⟩=>by
  have a1:=wh (hI.left l) h3 k2;have a2:=wh (hI.right l) h4 k3;have m1:=Az (J:=fun q=>I q∧0<af l q) hI k1 h1 h2 fun q h=>⟨h.1,by have:=h.2;grind⟩
  have m2:=Az (J:=fun q=>I q∧af l q<0) hI k1 h1 h2 fun q h=>⟨h.1,by have:=h.2;grind⟩
  simp only [j6];omega
def Gd (L:List Li) (t:Tr):Prop:=t.lin L∧Prp t (Inn [])
theorem Gd.dep {L:List Li}{t:Tr}(h:Gd L t):j6 t≤L.length:=by
 refine aU (wh (HO []) h.2 h.1) ?_;unfold P4;exact sR
theorem Gd.size {L:List Li}(hL:∀l∈L,l.ok){t:Tr}(h:Gd L t):dG t≤L.length*(1+L.length):=EA hL (HO []) h.2 h.1
theorem Gd.leaf (L:List Li) (i:Bool):Gd L (.leaf i):=⟨trivial,trivial⟩
theorem Gd.not {L:List Li}{t:Tr}(h:Gd L t):Gd L (ml t):=⟨uF h.1,uE h.2⟩
theorem Gd.restr {L:List Li}(hL:∀l∈L,l.ok){t:Tr}(h:t.lin L):Gd L (dI t []):=⟨ER hL h,by rw [CW (li hL h)];exact kO⟩
theorem Gd.merge {op:Int}{L:List Li}(hL:∀l∈L,l.ok){t b:Tr}(h:t.lin L) (k:b.lin L):Gd L (fk op t b []):=⟨Fm hL h k,by rw [DD (li hL h) (li hL k)];exact nY⟩
theorem DG {l:Li}(h:l.ok):Lft (Inn []) l∧Rgt (Inn []) l:=by
 obtain⟨p,hp⟩:=AQ h;have n0:=jr h;refine⟨⟨(p.1+1*l.a,p.2+1*l.b),Ho _,?_⟩,⟨(p.1 + -1*l.a,p.2 + -1*l.b),Ho _,?_⟩⟩
 ·rw [fU,hp];grind
 ·rw [fU,hp];grind
theorem Gd.half {L:List Li}{l:Li}(h:l∈L) (hl:l.ok) (i j:Bool):Gd L (.node l (.leaf i) (.leaf j)):=⟨⟨h,trivial,trivial⟩,(DG hl).1,(DG hl).2,trivial,trivial⟩
end Go.Ab
namespace Go.Ab
open Go.Proofs
variable [Base]
theorem Bu (rs:List (List Pq)) (hl:rs.length≤1000) (hh:∀r∈rs,oo r):Pu Tryz.prog 78 [zD rs] (JG rs):=by
 refine Pi Tryz.func78 fun C=>?_
 refine A2 ⟨?_⟩;intros
 refine WP.loopS (ι:=G7) (fun y=>y.k≤rs.length∧Own 234 1 y.k ((rs.take y.k).map fun r=>[aps r]).flatten y.s y.Hs) (fun y=>rs.length-y.k)
  (fun y=>fm [(3,y.s),(6,zD rs),(7,lit (.int .i64 rs.length)),(8,lit (.int .i64 y.k))]) (fun y=>y.Hs) ⟨0,lit (.slice none 0 0),[]⟩
  ⟨an _,Own.nil _ _⟩ lfA (av _) ?_
 rintro ⟨k,s,Hs⟩ ⟨hk,hown⟩ K hK;simp only at hk hown⊢;have hco:=hown.co;by_cases hkl:k<rs.length
 ·obtain⟨r,hget,hmm,hat,hne⟩:=elt (f:=fun r=>[rps r]) (n:=1) (fun _=>rfl) om hkl;have hr:=hh r hmm;have c:=NF r (by have:=hr.1;omega) (fun p hp=>by have:=hr.ht p hp;omega);have hgo:=fun s' Hs' h F' H'=>hK F' H' ⟨k+1,s',Hs'⟩ ⟨by simp only;omega,h⟩ (by simp only;omega)
  simp only [jm hget]at hgo;clear hK hh hget hmm hr;refine A2 ⟨?_⟩;intros;refine Wo (ae (cs':=[rps r]) rfl rfl om om hat hne) ?_;repeat(first|(refine Wo (oR (s:=aps r) (ds:=[aps r]) rfl inferInstance) ?_)|(refine Wdo (oR (s:=aps r) (ds:=[aps r]) rfl inferInstance) ?_)|(refine A1 ⟨?_⟩;intros)|refine W4 c ⟨?_⟩)
  refine rL (ds:=[aps r]) hown (Tk.same _) om (fun s' H1 hown'=>?_);have hco':=hown'.co;replace hgo:=hgo s' H1 hown';clear hown hown';refine A2 ⟨?_⟩;intros;exact hgo _ _ lfA Sr
 ·have hke:k=rs.length:=by omega
  subst hke;rw [aP]at hown;refine WP.rowS 3 hown rfl (by rw [bd]) ?_;clear hK hown;exact Z1
theorem Nh (l:List Pq):aps l=QQ (l.map fun p=>(RQ.of p.1,RQ.of p.2)):=by
 show sl _ _=sl ((l.map fun p=>(RQ.of p.1,RQ.of p.2)).map vU).flatten (l.map fun p=>(RQ.of p.1,RQ.of p.2)).length
 rw [p7,cK];rfl
theorem O3 {l:List Pq}(h:oo l):Pu Tryz.prog 113 [aps l] (rps l):=by
 have c:=QU (l.map fun p=>(RQ.of p.1,RQ.of p.2)) (L:=1) (by have:=h.1;rw [cK];omega) (fun q hq=>by
  obtain⟨p,hp,rfl⟩:=aj.1 hq;obtain⟨h1,h2⟩:=h.ht p hp;exact⟨RQ.of_ok h1,RQ.of_ok h2⟩) om
 rw [←Nh,p7,show(rvl∘fun p:Pq=>(RQ.of p.1,RQ.of p.2))=id from funext fun p=>by simp [rvl,RQ.of_v],List.map_id]at c;exact c
theorem x8 (x y:Nat×TypeId×List SV) (A B:LH):(x::y::(A++B)).Perm (A++(x::y::B)):=by
 have:=(aG (l₁:=[x,y]) (l₂:=A)).append_right B;simpa using this
theorem GN (x y:Nat×TypeId×List SV) (A B:LH):(x::y::(A++B)).Perm (B++(x::y::A)):=aG (l₁:=x::y::A) (l₂:=B)
structure Tg where
 k:Nat
 s1:SV
 H1:LH
 s2:SV
 H2:LH
def mn (rs:List (List Pq)):List Li:=((rs.map jo).flatten).map Prod.fst
theorem J2 {rs:List (List Pq)}{k:Nat}{r:List Pq}(h:rs[k]? = some r):mn (rs.take (k+1))=mn (rs.take k)++(jo r).map Prod.fst:=by
 unfold mn;rw [ji h,aH,cH,aH];simp
theorem o7:∀(rs:List (List Pq)),(∀r∈rs,oo r)→(mn rs).length≤6*rs.length
 | [],_=>by simp [mn]
 |r::rs,h=>by
  have h1:=o7 rs (fun r hr=>h r (Mc hr));have h2:=(h r Ms).1;have h3:=uY r;unfold mn at *;simp only [aD,bw,aH,ac,cK,aF]at *;omega
theorem BS {rs:List (List Pq)}(h:∀r∈rs,oo r):∀l∈mn rs,l.sm:=fun l hl=>by
 obtain⟨f,hf,rfl⟩:=aj.1 hl;obtain⟨e,he,hfe⟩:=ky.1 hf;obtain⟨r,hr,rfl⟩:=aj.1 he;exact(C9 (h r hr) f hfe).1
abbrev RT:TypeId:=170
abbrev psT:TypeId:=165
theorem NV {rs:List (List Pq)}(fill:Int) (h0:rs≠[]) (hl:rs.length≤1000) (hh:∀r∈rs,oo r):Pu Tryz.prog 77 [JG rs,lit (.int .i64 fill)] (rgR rs fill (wd (mn rs))):=by
 have hpos:=fE.2 h0;have hll:=o7 rs hh;have hsm:=BS hh;have cd:=Bt (mn rs) om (fun m hm=>(hsm m hm).ile);refine Pi Tryz.func77 fun C=>?_
 refine A2 ⟨?_⟩;intros;rename_i b4 b5
 refine WP.loopS (ι:=Tg) (fun y=>y.k≤rs.length∧Own psT 1 y.k ((rs.take y.k).map fun r=>[rps r]).flatten y.s1 y.H1∧Own lT 6 (mn (rs.take y.k)).length ((mn (rs.take y.k)).map lqx).flatten y.s2 y.H2) (fun y=>rs.length-y.k)
  (fun y=>fm [(4,lit (.pointer (some ⟨b4,0,none⟩))),(5,lit (.pointer (some ⟨b5,0,none⟩))),(6,y.s2),(14,JG rs),(15,lit (.int .i64 rs.length)),(16,lit (.int .i64 y.k))])
  (fun y=>(b5,RT,[y.s1,lit (.int .i64 fill),lit (.slice none 0 0)])::(b4,RT,[lit (.slice none 0 0),lit (.int .i64 0),lit (.slice none 0 0)])::(y.H1++y.H2)) ⟨0,lit (.slice none 0 0),[],lit (.slice none 0 0),[]⟩
  ⟨an _,Own.nil _ _,Own.nil _ _⟩ lfA Sr ?_
 rintro ⟨k,s1,H1,s2,H2⟩ ⟨hk,hown1,hown2⟩ K hK;simp only at hk hown1 hown2⊢;have hco1:=hown1.co;have hco2:=hown2.co;by_cases hkl:k<rs.length
 ·obtain⟨r,hget,hmm,hat,hne⟩:=elt (f:=fun r=>[aps r]) (n:=1) (fun _=>rfl) om hkl;have hr:=hh r hmm;have c1:=O3 hr;have c2:=Ac hr;have hel:=uY r;have h6:=hr.1
  have hlk:(mn (rs.take k)).length≤6000:=by
   have:=o7 (rs.take k) (fun r hr=>hh r (gP hr));rw [aC]at this;omega
  have hgo:=fun s1' H1' (h1:Own psT 1 (k+1) ((rs.take (k+1)).map fun r=>[rps r]).flatten s1' H1') s2' H2' (h2:Own lT 6 (mn (rs.take (k+1))).length ((mn (rs.take (k+1))).map lqx).flatten s2' H2') F' H'=>hK F' H' ⟨k+1,s1',H1',s2',H2'⟩ ⟨(by simp only;omega),h1,h2⟩ (by simp only;omega)
  simp only [jm hget,J2 hget]at hgo;generalize mn (rs.take k)=ls at *;generalize jo r=es at *;clear hK hh hget hmm hr cd hsm hll;refine A2 ⟨?_⟩;intros;refine Wo (ae (cs':=[aps r]) rfl rfl om om hat hne) ?_;repeat(first|(refine Wo (oR (s:=rps r) (ds:=[rps r]) rfl inferInstance) ?_)|(refine Wdo (oR (s:=rps r) (ds:=[rps r]) rfl inferInstance) ?_)|(refine A1 ⟨?_⟩;intros)|refine W4 c1 ⟨?_⟩)
  refine Nm (ds:=[rps r]) hown1 (x8 _ _ _ _) om (fun s1' H1' hown1'=>?_);have hco1':=hown1'.co;replace hgo:=hgo s1' H1' hown1';clear hown1 hown1';refine WPL.perm (x8 _ _ _ _).symm ?_;refine A2 ⟨?_⟩;intros;refine WPL.store (b:=b5) (o:=0) (sv:=s1') (cs':=[s1',lit (.int .i64 fill),lit (.slice none 0 0)]) rfl rfl rfl (.here _) rfl rfl ?_;refine D1 c2 ⟨?_⟩;intros
  refine WP.loopS (ι:=G7) (fun y=>y.k≤es.length∧Own lT 6 (ls++(es.take y.k).map Prod.fst).length ((ls++(es.take y.k).map Prod.fst).map lqx).flatten y.s y.Hs) (fun y=>es.length-y.k)
   (fun y=>fm [(4,lit (.pointer (some ⟨b4,0,none⟩))),(5,lit (.pointer (some ⟨b5,0,none⟩))),(6,y.s),(14,JG rs),(15,lit (.int .i64 rs.length)),(16,lit (.int .i64 k)),(29,fqs es),(30,lit (.int .i64 es.length)),(31,lit (.int .i64 y.k))])
   (fun y=>(b5,RT,[s1',lit (.int .i64 fill),lit (.slice none 0 0)])::(b4,RT,[lit (.slice none 0 0),lit (.int .i64 0),lit (.slice none 0 0)])::(H1'++y.Hs)) ⟨0,s2,H2⟩
   ⟨an _,by simpa using hown2⟩ lfA Sr ?_
  rintro ⟨j,s3,H3⟩ ⟨hj,hown3⟩ K2 hK2;simp only at hj hown3⊢;have hco3:=hown3.co;clear hown2;by_cases hjl:j<es.length
  ·obtain⟨e,hget2,hmm2,hat2,hne2⟩:=elt qF om hjl
   have hlen:(ls++(es.take (j+1)).map Prod.fst).length=(ls++(es.take j).map Prod.fst).length+1:=by
    rw [ji hget2];simp;omega
   have hcel:((ls++(es.take (j+1)).map Prod.fst).map lqx).flatten=((ls++(es.take j).map Prod.fst).map lqx).flatten++lqx e.1:=by
    rw [ji hget2,aH,aH,cH,aH,cH,aH,cH,ax];simp
   have hlb:(ls++(es.take j).map Prod.fst).length≤7000:=by rw [ac,cK,aC];omega
   have hgo2:=fun s' Hs' h F' H'=>hK2 F' H' ⟨j+1,s',Hs'⟩ ⟨by simp only;omega,h⟩ (by simp only;omega)
   simp only [hlen,hcel]at hgo2;clear hK2 hgo hlen hcel hget2 hmm2 c1 c2;generalize(ls++(es.take j).map Prod.fst).length=nn at *;generalize((ls++(es.take j).map Prod.fst).map lqx).flatten=cc at *;refine A2 ⟨?_⟩;intros;refine Wo (ae (cs':=fqx e) rfl rfl om om hat2 hne2) ?_;refine A2 ⟨?_⟩;intros;rename_i b11;refine WPL.store (b:=b11) (o:=0) (sv:=ag (fqx e)) (cs':=fqx e) rfl rfl rfl (.here _) rfl rfl ?_;repeat(first|(refine Wo (cJ (lqx e.1) rfl) ?_)|(refine Wdo (cJ (lqx e.1) rfl) ?_)|(refine A1 ⟨?_⟩;intros))
   refine Nm (ds:=lqx e.1) hown3 (aG (l₁:=_::_::_::H1') (l₂:=H3)) om (fun s' H1 hown'=>?_);have hco':=hown'.co;replace hgo2:=hgo2 s' H1 hown';clear hown3 hown';refine WPL.perm aG ?_;simp only [ab];refine A2 ⟨?_⟩;intros;exact hgo2 _ _ lfA (Sc Sr)
  ·have hje:j=es.length:=by omega
   subst hje;rw [aP]at hown3;replace hgo:=hgo s3 H3 hown3;clear hK2 hown3;refine A2 ⟨?_⟩;intros;exact hgo _ _ lfA Sr
 ·have hke:k=rs.length:=by omega
  subst hke;rw [aP]at hown1 hown2;obtain⟨b1,q1,hc1,hm1,rfl,rfl⟩:=hown1.blk hpos;refine WP.rowS 6 hown2 rfl (R:=(b5,RT,[lit (.slice (some ⟨b1,0,none⟩) rs.length q1),lit (.int .i64 fill),lit (.slice none 0 0)])::(b4,RT,[lit (.slice none 0 0),lit (.int .i64 0),lit (.slice none 0 0)])::[(b1,psT,(rs.map fun r=>[rps r]).flatten++List.replicate (q1*1-rs.length*1) top)]) (aG (l₁:=_::_::[_]) (l₂:=H2)) ?_;clear hK hown1 hown2 hsm hh hll;refine A2 ⟨?_⟩;intros;refine WPL.pubC (c1:=[]) (c2:=[lit (.int .i64 fill),lit (.slice none 0 0)]) (s':=zD rs) (.there _ (.there _ (.here _))) (.here _) (fun m arr hm ha=>wW hm ha hc1 hm1) ?_;simp only [a8];exact X1 cd
theorem CB {l:List Fg}{k:Nat}{f:Fg}{m:Li}(h:l[k]? = some f):(cU (l.take (k+1)) m).1=(cU (l.take k) m).1++(f4 f m).1∧(cU (l.take (k+1)) m).2=(cU (l.take k) m).2++(f4 f m).2:=by
 unfold cU;simp only;rw [ji h];simp [aH,cH]
theorem tF {L:List Li}{m:Li}:∀{l:List Fg},(∀f∈l,FgG L f)→(cU l m).1.length≤l.length∧(cU l m).2.length≤l.length
 | [],_=>⟨au _,au _⟩
 |f::l,h=>by
  obtain⟨h1,h2⟩:=tF (m:=m) fun g hg=>h g (Mc hg)
  obtain⟨h3,h4⟩:=vM (m:=m) (h f Ms);unfold cU at *;simp only [aD,bw,ac,aF]at *;omega
structure FgW (L:List Li) (f:Fg):Prop where
 g:FgG L f
 l:f.1.sm
 s:f.2.le 46
theorem Kj {L:List Li}{m:Li}(hm:m.sm){l:List Fg}(hl:∀f∈l,FgW L f):(∀g∈(cU l m).1,FgW L g)∧∀g∈(cU l m).2,FgW L g:=by
 have key:∀f∈l,(∀g∈(f4 f m).1,FgW L g)∧∀g∈(f4 f m).2,FgW L g:=fun f hf=>by
  obtain⟨h1,h2,h3⟩:=hl f hf;obtain⟨g1,g2⟩:=Bj (m:=m) h1;obtain⟨k1,k2⟩:=Ig h1 h2 hm h3;exact⟨fun g hg=>⟨(g1 g hg).1,by rw [(g1 g hg).2];exact h2,k1 g hg⟩,fun g hg=>⟨(g2 g hg).1,by rw [(g2 g hg).2];exact h2,k2 g hg⟩⟩
 unfold cU;constructor
 ·intro g hg;obtain⟨a,ha,hga⟩:=ky.1 hg;obtain⟨f,hf,rfl⟩:=aj.1 ha;exact(key f hf).1 g hga
 ·intro g hg;obtain⟨a,ha,hga⟩:=ky.1 hg;obtain⟨f,hf,rfl⟩:=aj.1 ha;exact(key f hf).2 g hga
theorem FK (a b:List Fg):((a++b).map fqx).flatten=(a.map fqx).flatten++(b.map fqx).flatten:=by rw [aH,cH]
theorem Bo {rs:List (List Pq)}{fill:Int}{ls:List Li}(hf:fill=1∨fill=2) (hrl:rs.length≤1000) (hrs:∀r∈rs,oo r){L:List Li}:∀(n:Nat) (l:List Fg) (c:List Li),(∀f∈l,FgW L f)→lc L l<n→(∀m∈c,m.sm)→c.length+n≤80000→l.length≤1000→
  Pu Tryz.prog 112 [rgR rs fill ls,fqs l,lqs c] (rt (qS (inR rs fill) n l c))
 |0,_,_,_,h,_,_,_=>by omega
 |n+1,[],c,_,_,hc,hd,_=>by
  have d1:=vS hc om;have h9:=Jf hc;have d2:=NY (ls:=ls) (p:=(fH c).getD (0,0)) hf hrl hrs ⟨by have:=h9.1;omega,by have:=h9.2;omega⟩;have d3:=eS (inR rs fill ((fH c).getD (0,0)));unfold qS;clear hc h9 hrs hf;generalize inR rs fill ((fH c).getD (0,0))=bb at *;generalize(fH c).getD (0,0)=p at *;refine Pi Tryz.func112 fun C=>?_
  exact Y3 d1 d2 d3
 |n+1,f::l,c,hl,hphi,hc,hd,hlen=>by
  have hfw:=hl f Ms;have hsm:=hfw.l;have hphi2:=wt fun g hg=>(hl g hg).g
  obtain⟨w1,w2⟩:=Kj hsm hl;obtain⟨n1,n2⟩:=tF (m:=f.1) fun g hg=>(hl g hg).g
  have i1:=Bo (ls:=ls) hf hrl hrs n (cU (f::l) f.1).1 (c++[f.1]) w1 om (rY hc hsm) (by rw [ac,bH];omega) om;have i2:=Bo (ls:=ls) hf hrl hrs n (cU (f::l) f.1).2 (c++[f.1.neg]) w2 om (rY hc hsm.neg) (by rw [ac,bH];omega) om
  have hsl:∀m:Li,lqs (c++[m])=sl ((c.map lqx).flatten++lqx m) (c.length+1):=fun m=>by
   show sl ((c++[m]).map lqx).flatten (c++[m]).length=_
   rw [vN,ac,bH]
  rw [hsl]at i1 i2;have hfl:=vX c;have d3:=uq f.1 hsm.ile;have ds:∀g∈f::l,Pu Tryz.prog 156 [ag (fqx g),lq f.1] (Ab.tup [fqs (f4 g f.1).1,fqs (f4 g f.1).2])∧(f4 g f.1).1.length≤1∧(f4 g f.1).2.length≤1:=fun g hg=>⟨Is (hl g hg).g (hl g hg).l hsm (hl g hg).s,vM (hl g hg).g⟩
  have hb1:∀k,(cU ((f::l).take k) f.1).1.length≤1000∧(cU ((f::l).take k) f.1).2.length≤1000:=fun k=>by
   obtain⟨q1,q2⟩:=tF (l:=(f::l).take k) (m:=f.1) fun g hg=>(hl g (gP hg)).g
   rw [aC]at q1 q2;omega
  show Pu _ _ _ (rt (.node f.1 (qS (inR rs fill) n (cU (f::l) f.1).1 (c++[f.1])) (qS (inR rs fill) n (cU (f::l) f.1).2 (c++[f.1.neg]))))
  generalize qS (inR rs fill) n (cU (f::l) f.1).1 (c++[f.1])=tA at *;generalize qS (inR rs fill) n (cU (f::l) f.1).2 (c++[f.1.neg])=tB at *;have hat0:=fV (f:=fqx) (n:=14) (l:=f::l) (k:=0) qF rfl;have hne0:((f::l).map fqx).flatten≠[]:=gA qF om (by simp);have hgl:f∈f::l:=Ms;have hpl:0<(f::l).length:=by simp
  clear hl hphi hphi2 w1 w2 hsl hf hrs hfw;obtain⟨m,hm⟩:∃m,m=f.1:=⟨_,rfl⟩
  rw [←hm]at i1 i2 d3 ds hb1 n1 n2⊢;have hfq:fqx f=lqx m++spx f.2:=by rw [hm]
  rw [hfq]at hat0;generalize hxs:f::l=xs at *;clear hxs hm hfq hgl;refine Pi Tryz.func112 fun C=>?_
  repeat(first|(refine Wo (cF (sv:=ag _) rfl) ?_)|(refine Wdo (cF (sv:=ag _) rfl) ?_)|(refine A1 ⟨?_⟩;intros))
  refine Wo (ae (cs':=lqx m++spx f.2) rfl rfl om om hat0 hne0) ?_;refine A2 ⟨?_⟩;intros;rename_i b9;refine WPL.store (b:=b9) (o:=0) (sv:=ag (lqx m)) (cs':=lqx m) rfl rfl rfl (.here _) rfl rfl ?_;refine A2 ⟨?_⟩;intros
  refine WP.loopS (ι:=Tg) (fun y=>y.k≤xs.length∧Own fT 14 (cU (xs.take y.k) m).1.length ((cU (xs.take y.k) m).1.map fqx).flatten y.s1 y.H1∧Own fT 14 (cU (xs.take y.k) m).2.length ((cU (xs.take y.k) m).2.map fqx).flatten y.s2 y.H2) (fun y=>xs.length-y.k)
   (fun y=>fm [(2,lqs c),(3,pt [zD rs,lit (.int .i64 fill),lqs ls]),(9,lit (.pointer (some ⟨b9,0,none⟩))),(10,y.s1),(11,y.s2),(32,fqs xs),(33,lit (.int .i64 xs.length)),(34,lit (.int .i64 y.k))])
   (fun y=>(b9,lT,lqx m)::(y.H1++y.H2)) ⟨0,lit (.slice none 0 0),[],lit (.slice none 0 0),[]⟩
   ⟨an _,Own.nil _ _,Own.nil _ _⟩ lfA Sr ?_
  rintro ⟨k,s1,H1,s2,H2⟩ ⟨hk,hown1,hown2⟩ K hK;simp only at hk hown1 hown2⊢;have hco1:=hown1.co;have hco2:=hown2.co;by_cases hkl:k<xs.length
  ·obtain⟨g,hget,hmm,hat,hne⟩:=elt qF om hkl;obtain⟨dg,g1,g2⟩:=ds g hmm;obtain⟨r1,r2⟩:=hb1 k;obtain⟨e1,e2⟩:=CB (m:=m) hget;have hgo:=fun s1' H1' (h1:Own fT 14 (cU (xs.take (k+1)) m).1.length ((cU (xs.take (k+1)) m).1.map fqx).flatten s1' H1') s2' H2' (h2:Own fT 14 (cU (xs.take (k+1)) m).2.length ((cU (xs.take (k+1)) m).2.map fqx).flatten s2' H2') F' H'=>hK F' H' ⟨k+1,s1',H1',s2',H2'⟩ ⟨(by simp only;omega),h1,h2⟩ (by simp only;omega)
   rw [e1,e2,FK,FK,ac,ac]at hgo;have f1:(((f4 g m).1.map fqx).flatten).length=(f4 g m).1.length*14:=fP qF _;have f2:(((f4 g m).2.map fqx).flatten).length=(f4 g m).2.length*14:=fP qF _;clear hK hget hmm i1 i2 d3 ds hb1 hfl hat0 hne0 e1 e2;generalize(f4 g m).1=A at *;generalize(f4 g m).2=B at *;generalize(cU (xs.take k) m).1.length=m1 at *;generalize(cU (xs.take k) m).2.length=m2 at *;generalize((cU (xs.take k) m).1.map fqx).flatten=q1 at *;generalize((cU (xs.take k) m).2.map fqx).flatten=q2 at *;refine A2 ⟨?_⟩;intros;refine Wo (ae (cs':=fqx g) rfl rfl om om hat hne) ?_;refine A2 ⟨?_⟩;intros;rename_i b13;refine WPL.store (b:=b13) (o:=0) (sv:=ag (fqx g)) (cs':=fqx g) rfl rfl rfl (.here _) rfl rfl ?_;refine D1 dg ⟨?_⟩;intros;refine G6 (k0:=A.length) (ds:=(A.map fqx).flatten) hown1 (x8 _ _ _ _) om f1 (fun s1' H1' hown1'=>?_);have hco1':=hown1'.co;replace hgo:=hgo s1' H1' hown1';clear hown1 hown1';refine WPL.perm (x8 _ _ _ _).symm ?_;refine A2 ⟨?_⟩;intros;refine G6 (k0:=B.length) (ds:=(B.map fqx).flatten) hown2 (GN _ _ _ _) om f2 (fun s2' H2' hown2'=>?_);have hco2':=hown2'.co;replace hgo:=hgo s2' H2' hown2';clear hown2 hown2';refine WPL.perm (GN _ _ _ _).symm ?_;refine A2 ⟨?_⟩;intros;exact hgo _ _ lfA (Sc Sr)
  ·have hke:k=xs.length:=by omega
   subst hke;rw [aP]at hown1 hown2;refine WP.rowS 11 hown2 rfl (R:=(b9,lT,lqx m)::H1) (aG (l₁:=_::H1) (l₂:=H2)) ?_;refine WP.rowS 10 hown1 rfl (R:=[(b9,lT,lqx m)]) (aG (l₁:=[_]) (l₂:=H1)) ?_;clear hK hown1 hown2 ds hb1 hat0 hne0;generalize(cU xs m).1=A at *;generalize(cU xs m).2=B at *;rw [show rt (.node m tA tB)=pt (rc (.node m tA tB))from rfl,ko];by_cases h0:c=[]
   ·subst h0;clear hfl hc;repeat(first|(refine AS ⟨?_⟩;intros)|(refine O1 ⟨?_⟩;intros))
    repeat(first|(refine Wo (si) ?_)|(refine Wdo (si) ?_)|(refine Wo (po rfl rfl) ?_)|(refine Wdo (po rfl rfl) ?_)|(refine Wo (e9 (r:=[(0,lqx m)]) (cs:=lqx m) (.cons (sv:=ag (lqx m)) rfl inferInstance .nil)) ?_)|(refine Wdo (e9 (r:=[(0,lqx m)]) (cs:=lqx m) (.cons (sv:=ag (lqx m)) rfl inferInstance .nil)) ?_)|(refine Wo (e9 (r:=[(0,lqx m.neg)]) (cs:=lqx m.neg) (.cons (sv:=ag (lqx m.neg)) rfl inferInstance .nil)) ?_)|(refine Wdo (e9 (r:=[(0,lqx m.neg)]) (cs:=lqx m.neg) (.cons (sv:=ag (lqx m.neg)) rfl inferInstance .nil)) ?_)|(refine Wo (bU (k:=0) (k0:=1) (ds:=lqx m) rfl rfl rfl rfl om) ?_)|(refine Wdo (bU (k:=0) (k0:=1) (ds:=lqx m) rfl rfl rfl rfl om) ?_)|(refine Wo (bU (k:=0) (k0:=1) (ds:=lqx m.neg) rfl rfl rfl rfl om) ?_)|(refine Wdo (bU (k:=0) (k0:=1) (ds:=lqx m.neg) rfl rfl rfl rfl om) ?_)|(refine Wo (cF (sv:=ag _) rfl) ?_)|(refine Wdo (cF (sv:=ag _) rfl) ?_)|(refine A1 ⟨?_⟩;intros)|refine W4 i1 ⟨?_⟩|refine W4 i2 ⟨?_⟩|refine W4 d3 ⟨?_⟩)
    exact E1
   ·have hpos:=fE.2 h0;clear hc h0;repeat(first|(refine AS ⟨?_⟩;intros)|(refine O1 ⟨?_⟩;intros))
    refine WdZ 22 [0,1,2,3,4,6,7,10,11,12,13,15,5,8,9,14,16,17,18,19,20,21] [5,8,14,18] [] [(b9,lT,lqx m)] ?_;refine ZkD 12 ?_;repeat(first|(refine Wo (oB) ?_)|(refine Wdo (oB) ?_)|(refine Wo (e9 (r:=[(0,lqx m)]) (cs:=lqx m) (.cons (sv:=ag (lqx m)) rfl inferInstance .nil)) ?_)|(refine Wdo (e9 (r:=[(0,lqx m)]) (cs:=lqx m) (.cons (sv:=ag (lqx m)) rfl inferInstance .nil)) ?_)|(refine A1 ⟨?_⟩;intros))
    refine yu ?_;refine ZkE rfl rfl hfl om om (fun s' H' hown=>?_) (hyx:=fun h=>by cases h);refine ZkP hown om ?_;refine ZkD 1 ?_;refine D1 i1 ⟨?_⟩;intros;refine yu ?_;refine ZkE rfl rfl hfl om om (fun s' H' hown=>?_) (hyx:=fun h=>by cases h);refine ZkD 2 ?_;repeat(first|(refine Wo (e9 (r:=[(0,lqx m.neg)]) (cs:=lqx m.neg) (.cons (sv:=ag (lqx m.neg)) rfl inferInstance .nil)) ?_)|(refine Wdo (e9 (r:=[(0,lqx m.neg)]) (cs:=lqx m.neg) (.cons (sv:=ag (lqx m.neg)) rfl inferInstance .nil)) ?_)|(refine A1 ⟨?_⟩;intros)|refine W4 d3 ⟨?_⟩)
    refine yu ?_;refine ZkP hown om ?_;refine ZkD 3 ?_;repeat(first|(refine Wo (cF (sv:=ag _) rfl) ?_)|(refine Wdo (cF (sv:=ag _) rfl) ?_)|(refine A1 ⟨?_⟩;intros)|refine W4 i2 ⟨?_⟩)
    refine yu ?_;refine ZkN ?_;exact Z1
theorem Ix {rs:List (List Pq)}{fill:Int}{ls:List Li}(hf:fill=1∨fill=2) (hrl:rs.length≤20) (hrs:∀r∈rs,oo r) :
  Pu Tryz.prog 76 [rgR rs fill ls] (rt (dI (qS (inR rs fill) (20000) ((rs.map jo).flatten) []) [])):=by
 have hlen:((rs.map jo).flatten).length≤120:=by have:=o7 rs hrs;unfold mn at this;rw [cK]at this;omega
 have hfw:∀f∈(rs.map jo).flatten,FgW (mn rs) f:=fun f hf=>by
  obtain⟨e,he,hfe⟩:=ky.1 hf;obtain⟨r,hr,rfl⟩:=aj.1 he;obtain⟨q1,q2,q3⟩:=C9 (hrs r hr) f hfe;exact⟨q3 _ (aj.2 ⟨f,hf,rfl⟩),q1,⟨by have:=q2.1;omega,by have:=q2.2;omega⟩⟩
 have hL:=BS hrs;have hLl:=o7 rs hrs;have hphi:lc (mn rs) (rs.map jo).flatten≤120*121:=aU (Bz _ _) (db hlen om);have ir:=Bo (ls:=ls) hf om hrs 20000 ((rs.map jo).flatten) [] hfw om (fun m h=>by cases h) (by simp) om;have ir':=ir.arg (l':=[rgR rs fill ls,fqs (rs.map jo).flatten,lit (.slice none 0 0)]) ⟨Le.refl _,Le.refl _,i5,trivial⟩;obtain⟨z1,z2,z3⟩:=sc (inR rs fill) 20000 ((rs.map jo).flatten) [] (fun f hf=>(hfw f hf).g) (show lc (mn rs) _<20000 by omega);have cr:=nS (qS (inR rs fill) 20000 (rs.map jo).flatten []) (z3.all hL) om;have de:∀r∈rs,Pu Tryz.prog 111 [rps r] (fqs (jo r))∧(jo r).length≤6:=fun r hr=>⟨Ac (hrs r hr),by rw [uY];exact(hrs r hr).1⟩
 have hb:∀k,(((rs.take k).map jo).flatten).length≤120:=fun k=>by
  have:=o7 (rs.take k) (fun r hr=>hrs r (gP hr));unfold mn at this;rw [cK,aC]at this;omega
 clear hfw hL hLl hphi ir z1 z2 z3 hlen;generalize qS (inR rs fill) 20000 (rs.map jo).flatten []=raw at *;generalize dI raw []=red at *;refine Pi Tryz.func76 fun C=>?_
 repeat(first|(refine Wo (cF (sv:=ag _) rfl) ?_)|(refine Wdo (cF (sv:=ag _) rfl) ?_)|(refine A1 ⟨?_⟩;intros))
 refine WP.loopS (ι:=G7) (fun y=>y.k≤rs.length∧Own fT 14 (((rs.take y.k).map jo).flatten).length ((((rs.take y.k).map jo).flatten).map fqx).flatten y.s y.Hs) (fun y=>rs.length-y.k)
  (fun y=>fm [(1,pt [zD rs,lit (.int .i64 fill),lqs ls]),(3,y.s),(7,zD rs),(8,lit (.int .i64 rs.length)),(9,lit (.int .i64 y.k))]) (fun y=>y.Hs) ⟨0,lit (.slice none 0 0),[]⟩
  ⟨an _,Own.nil _ _⟩ lfA (av _) ?_
 rintro ⟨k,s,Hs⟩ ⟨hk,hown⟩ K hK;simp only at hk hown⊢;have hco:=hown.co;by_cases hkl:k<rs.length
 ·obtain⟨r,hget,hmm,hat,hne⟩:=elt (f:=fun r=>[rps r]) (n:=1) (fun _=>rfl) om hkl;obtain⟨c,h6⟩:=de r hmm;have hbk:=hb k;have hgo:=fun s' Hs' h F' H'=>hK F' H' ⟨k+1,s',Hs'⟩ ⟨by simp only;omega,h⟩ (by simp only;omega)
  simp only [jm hget,FK,ac]at hgo;have f1:(((jo r).map fqx).flatten).length=(jo r).length*14:=fP qF _;clear hK hget hmm de hb ir' cr;generalize jo r=A at *;generalize(((rs.take k).map jo).flatten).length=m1 at *;generalize((((rs.take k).map jo).flatten).map fqx).flatten=q1 at *;refine A2 ⟨?_⟩;intros;refine Wo (ae (cs':=[rps r]) rfl rfl om om hat hne) ?_;refine D1 c ⟨?_⟩;intros;refine Nn (k0:=A.length) (ds:=(A.map fqx).flatten) hown (Tk.same _) om f1 (fun s' H1 hown'=>?_);have hco':=hown'.co;replace hgo:=hgo s' H1 hown';clear hown hown';refine A2 ⟨?_⟩;intros;exact hgo _ _ lfA Sr
 ·have hke:k=rs.length:=by omega
  subst hke;rw [aP]at hown;refine WP.rowS 3 hown rfl (by rw [bd]) ?_;clear hK hown de hb;exact Y2 ir' cr
end Go.Ab
