/- Texts laid one behind the other: Fce, Eqv, Gd. -/
import Derived.Test.YtgiifnbebppbgaaGreatDoorB21
import Derived.Test.YtgiifnbebppbgaaGreatDoorB27
import Derived.Test.YtgiifnbebppbgaaGreatDoorB29
set_option linter.unusedSectionVars false
set_option linter.unusedVariables false
set_option linter.unusedSimpArgs false
namespace Go.Ab
open Go.Proofs
variable [Base]
def Cvx (I:Pq→Prop):Prop:=∀p q (s:Rat),I p→I q→0≤s→s≤1→I (q.1+s*(p.1-q.1),q.2+s*(p.2-q.2))
theorem Cvx.left {I:Pq→Prop}(h:Cvx I) (l:Li):Cvx fun q=>I q∧0<valL l q:=fun p q s hp hq h0 h1=>by
 refine⟨h p q s hp.1 hq.1 h0 h1,?_⟩
 rw [val_lin]
 have:=Rat.mul_nonneg h0 (Rat.le_of_lt hp.2)
 have:=Rat.mul_nonneg (show 0≤1-s by grind) (Rat.le_of_lt hq.2)
 have a:=hp.2
 have b:=hq.2
 by_cases e:s=0
 ·rw [e];grind
 ·have:=Rat.mul_pos (show 0<s by grind) a
  grind
theorem Cvx.right {I:Pq→Prop}(h:Cvx I) (l:Li):Cvx fun q=>I q∧valL l q<0:=fun p q s hp hq h0 h1=>by
 refine⟨h p q s hp.1 hq.1 h0 h1,?_⟩
 rw [val_lin]
 have a:=hp.2
 have b:=hq.2
 have:=Rat.mul_nonneg (show 0≤1-s by grind) (show 0≤- valL l q by grind)
 by_cases e:s=0
 ·rw [e];grind
 ·have:=Rat.mul_pos (show 0<s by grind) (show 0 < - valL l p by grind)
  grind
theorem cvx_inn (c:List Li):Cvx (Inn c):=fun p q s hp hq h0 h1 l hl=>by
 rw [val_lin]
 have a:=hp l hl
 have b:=hq l hl
 have:=Rat.mul_nonneg (show 0≤1-s by grind) (Rat.le_of_lt b)
 by_cases e:s=0
 ·rw [e];grind
 ·have:=Rat.mul_pos (show 0<s by grind) a
  grind
theorem between {I:Pq→Prop}(h:Cvx I){m:Li}{p q:Pq}(hp:I p) (hq:I q) (h1:0<valL m p) (h2:valL m q<0):∃r,I r∧valL m r=0∧∀l,valL l p=0→valL l q=0→valL l r=0:=by
 have hd:valL m p-valL m q≠0:=by grind
 have hd':0<valL m p-valL m q:=by grind
 have e : -valL m q/(valL m p-valL m q)*(valL m p-valL m q) = -valL m q:=Rat.div_mul_cancel hd
 have s0:0≤-valL m q/(valL m p-valL m q):=by
  rw [Rat.div_def]
  exact Rat.mul_nonneg (by grind) (Rat.le_of_lt (Rat.inv_pos.2 hd'))
 have s1 : -valL m q/(valL m p-valL m q)≤1:=by
  by_cases c : -valL m q/(valL m p-valL m q)≤1
  ·exact c
  ·exfalso
   have:=Rat.mul_pos (show 0 < -valL m q/(valL m p-valL m q)-1 by grind) hd'
   grind
 generalize -valL m q/(valL m p-valL m q)=s at *
 refine⟨_,h p q s hp hq s0 s1,?_,fun l a b=>?_⟩
 ·rw [val_lin,e];grind
 ·rw [val_lin,a,b];grind
theorem flat_line {l m:Li}(hl:l.ok) (hs:slp l m=0){p q:Pq}(hp:valL l p=0) (hq:valL l q=0):valL m p=valL m q:=by
 unfold valL slp at *
 have h:(l.a:Rat)≠0∨(l.b:Rat)≠0:=by
  rcases hl.2 with r|r
  ·exact .inl fun e=>r (Rat.intCast_eq_zero_iff.1 e)
  ·exact .inr fun e=>r (Rat.intCast_eq_zero_iff.1 e)
 generalize(l.a:Rat)=a at *
 generalize(l.b:Rat)=b at *
 generalize(m.a:Rat)=c at *
 generalize(m.b:Rat)=d at *
 have e1:a*(p.1-q.1)+b*(p.2-q.2)=0:=by grind
 have:c*(p.1-q.1)+d*(p.2-q.2)=0:=by
  rcases h with h|h
  ·have:a*(c*(p.1-q.1)+d*(p.2-q.2))=0:=by grind
   rcases Rat.mul_eq_zero.1 this with e|e
   ·exact absurd e h
   ·exact e
  ·have:b*(c*(p.1-q.1)+d*(p.2-q.2))=0:=by grind
   rcases Rat.mul_eq_zero.1 this with e|e
   ·exact absurd e h
   ·exact e
 grind
def crsI (I:Pq→Prop) (l k:Li):Prop:=∃q,I q∧valL l q=0∧valL k q=0∧slp l k≠0
def metI (I:Pq→Prop) (l:Li):Prop:=∃q,I q∧valL l q=0
open Classical in
noncomputable def cntI (L:List Li) (I:Pq→Prop) (l:Li):Nat:=L.countP fun k=>decide (crsI I l k)
open Classical in
noncomputable def wI (L:List Li) (I:Pq→Prop) (l:Li):Nat:=if metI I l then 1+cntI L I l else 0
noncomputable def phiM (L M:List Li) (I:Pq→Prop):Nat:=(M.map (wI L I)).sum
theorem count_mono {α:Type}{p r:α→Bool}:∀{L:List α},(∀x∈L,p x=true→r x=true)→L.countP p≤L.countP r
 | [],_=>by simp
 |x::L,h=>by
  have ih:=count_mono (L:=L) fun y hy=>h y (List.mem_cons_of_mem _ hy)
  have:=h x List.mem_cons_self
  rw [List.countP_cons,List.countP_cons]
  cases hp:p x <;> cases hr:r x <;> simp_all <;> omega
theorem count_split {α:Type}{p q r:α→Bool}:∀{L:List α},(∀x∈L,p x=true→r x=true)→(∀x∈L,q x=true→r x=true)→(∀x∈L,p x=true→q x=true→False)→L.countP p+L.countP q≤L.countP r
 | [],_,_,_=>by simp
 |x::L,h1,h2,h3=>by
  have ih:=count_split (L:=L) (fun y hy=>h1 y (List.mem_cons_of_mem _ hy)) (fun y hy=>h2 y (List.mem_cons_of_mem _ hy)) (fun y hy=>h3 y (List.mem_cons_of_mem _ hy))
  have a1:=h1 x List.mem_cons_self
  have a2:=h2 x List.mem_cons_self
  have a3:=h3 x List.mem_cons_self
  rw [List.countP_cons,List.countP_cons,List.countP_cons]
  cases hp:p x <;> cases hq:q x <;> cases hr:r x <;> simp_all <;> omega
theorem count_two {α:Type}{p q r:α→Bool}{x0:α}:∀{L:List α},(∀x∈L,p x=true→r x=true)→(∀x∈L,q x=true→r x=true)→(∀x∈L,p x=true→q x=true→False)→x0∈L→r x0=true→p x0=false→q x0=false→L.countP p+L.countP q+1≤L.countP r
 | [],_,_,_,h,_,_,_=>by cases h
 |x::L,h1,h2,h3,h,e1,e2,e3=>by
  have g1:=fun y hy=>h1 y (List.mem_cons_of_mem _ hy)
  have g2:=fun y hy=>h2 y (List.mem_cons_of_mem _ hy)
  have g3:=fun y hy=>h3 y (List.mem_cons_of_mem _ hy)
  have a1:=h1 x List.mem_cons_self
  have a2:=h2 x List.mem_cons_self
  have a3:=h3 x List.mem_cons_self
  rw [List.countP_cons,List.countP_cons,List.countP_cons]
  rcases List.mem_cons.1 h with rfl|hm
  ·have:=count_split g1 g2 g3
   rw [e1,e2,e3]
   simp only [if_true,Bool.false_eq_true,if_false]
   omega
  ·have ih:=count_two g1 g2 g3 hm e1 e2 e3
   cases hp:p x <;> cases hq:q x <;> cases hr:r x <;> simp_all <;> omega
theorem crs_mono {I J:Pq→Prop}(h:∀q,J q→I q){l k:Li}(c:crsI J l k):crsI I l k:=by
 obtain⟨q,h1,h2⟩:=c
 exact⟨q,h q h1,h2⟩
open Classical in
theorem wI_mono {I J:Pq→Prop}(L:List Li) (h:∀q,J q→I q) (l:Li):wI L J l≤wI L I l:=by
 unfold wI
 split
 ·rename_i c
  obtain⟨q,h1,h2⟩:=c
  rw [if_pos ⟨q,h q h1,h2⟩]
  have:cntI L J l≤cntI L I l:=count_mono fun x _ hx=>decide_eq_true (crs_mono h (of_decide_eq_true hx))
  omega
 ·omega
theorem crs_one {I:Pq→Prop}{l k m:Li}(hl:l.ok) (a:crsI (fun q=>I q∧0<valL m q) l k) (b:crsI (fun q=>I q∧valL m q<0) l k):False:=by
 obtain⟨p,⟨_,p1⟩,p2,p3,p4⟩:=a
 obtain⟨q,⟨_,q1⟩,q2,q3,q4⟩:=b
 have e:p.1=q.1∧p.2=q.2:=by
  unfold valL slp at *
  have h:(l.a:Rat)≠0∨(l.b:Rat)≠0:=by
   rcases hl.2 with r|r
   ·exact .inl fun e=>r (Rat.intCast_eq_zero_iff.1 e)
   ·exact .inr fun e=>r (Rat.intCast_eq_zero_iff.1 e)
  generalize(l.a:Rat)=a at *
  generalize(l.b:Rat)=b at *
  generalize(k.a:Rat)=c at *
  generalize(k.b:Rat)=d at *
  have e1:a*(p.1-q.1)+b*(p.2-q.2)=0:=by grind
  have e2:c*(p.1-q.1)+d*(p.2-q.2)=0:=by grind
  have f1:(c*b-d*a)*(p.1-q.1)=0:=by grind
  have f2:(c*b-d*a)*(p.2-q.2)=0:=by grind
  constructor
  ·rcases Rat.mul_eq_zero.1 f1 with e|e
   ·exact absurd e p4
   ·grind
  ·rcases Rat.mul_eq_zero.1 f2 with e|e
   ·exact absurd e p4
   ·grind
 have:p=q:=Prod.ext e.1 e.2
 rw [this]at p1
 grind
open Classical in
theorem wI_split {I:Pq→Prop}(hI:Cvx I){L:List Li}{l m:Li}(hl:l.ok) (hm:m∈L):wI L (fun q=>I q∧0<valL m q) l+wI L (fun q=>I q∧valL m q<0) l≤wI L I l:=by
 by_cases c1:metI (fun q=>I q∧0<valL m q) l
 ·by_cases c2:metI (fun q=>I q∧valL m q<0) l
  ·obtain⟨p,⟨p0,p1⟩,p2⟩:=id c1
   obtain⟨q,⟨q0,q1⟩,q2⟩:=id c2
   obtain⟨r,r1,r2,r3⟩:=between hI p0 q0 p1 q1
   have hs:slp l m≠0:=fun e=>by
    have:=flat_line hl e p2 q2
    rw [this]at p1
    grind
   have hx:crsI I l m:=⟨r,r1,r3 l p2 q2,r2,hs⟩
   unfold wI
   rw [if_pos c1,if_pos c2,if_pos ⟨r,r1,r3 l p2 q2⟩]
   have:cntI L (fun q=>I q∧0<valL m q) l+cntI L (fun q=>I q∧valL m q<0) l+1≤cntI L I l:=by
    refine count_two (x0:=m) (fun x _ hx=>decide_eq_true (crs_mono (fun q h=>h.1) (of_decide_eq_true hx))) (fun x _ hx=>decide_eq_true (crs_mono (fun q h=>h.1) (of_decide_eq_true hx))) (fun x _ ha hb=>crs_one hl (of_decide_eq_true ha) (of_decide_eq_true hb)) hm (decide_eq_true hx) (decide_eq_false ?_) (decide_eq_false ?_)
    ·rintro ⟨q,⟨_,h1⟩,_,h2,_⟩
     rw [h2]at h1;exact absurd h1 (Rat.lt_irrefl)
    ·rintro ⟨q,⟨_,h1⟩,_,h2,_⟩
     rw [h2]at h1;exact absurd h1 (Rat.lt_irrefl)
   omega
  ·have:=wI_mono (I:=I) (J:=fun q=>I q∧0<valL m q) L (fun q h=>h.1) l
   have e:wI L (fun q=>I q∧valL m q<0) l=0:=if_neg c2
   omega
 ·have:=wI_mono (I:=I) (J:=fun q=>I q∧valL m q<0) L (fun q h=>h.1) l
  have e:wI L (fun q=>I q∧0<valL m q) l=0:=if_neg c1
  omega
open Classical in
theorem wI_self {I:Pq→Prop}(hI:Cvx I){L:List Li}{m:Li}(h1:Lft I m) (h2:Rgt I m):wI L (fun q=>I q∧0<valL m q) m+wI L (fun q=>I q∧valL m q<0) m+1≤wI L I m:=by
 obtain⟨p,p1,p2⟩:=h1
 obtain⟨q,q1,q2⟩:=h2
 obtain⟨r,r1,r2,_⟩:=between hI p1 q1 p2 q2
 have e1:wI L (fun q=>I q∧0<valL m q) m=0:=if_neg (by
  rintro ⟨q,⟨_,h1⟩,h2⟩
  rw [h2]at h1;exact absurd h1 (Rat.lt_irrefl))
 have e2:wI L (fun q=>I q∧valL m q<0) m=0:=if_neg (by
  rintro ⟨q,⟨_,h1⟩,h2⟩
  rw [h2]at h1;exact absurd h1 (Rat.lt_irrefl))
 have e3:wI L I m=1+cntI L I m:=if_pos ⟨r,r1,r2⟩
 omega
theorem phiM_split {I:Pq→Prop}(hI:Cvx I){L:List Li}{m:Li}(hm:m∈L):∀{M:List Li},(∀l∈M,l.ok)→phiM L M (fun q=>I q∧0<valL m q)+phiM L M (fun q=>I q∧valL m q<0)≤phiM L M I
 | [],_=>by simp [phiM]
 |l::M,hM=>by
  have ih:=phiM_split hI hm (M:=M) fun x hx=>hM x (List.mem_cons_of_mem _ hx)
  have:=wI_split hI (hM l List.mem_cons_self) hm
  simp only [phiM,List.map_cons,List.sum_cons]at *
  omega
theorem phiM_less {I:Pq→Prop}(hI:Cvx I){L:List Li}{m:Li}(hm:m∈L) (h1:Lft I m) (h2:Rgt I m):∀{M:List Li},(∀l∈M,l.ok)→m∈M→phiM L M (fun q=>I q∧0<valL m q)+phiM L M (fun q=>I q∧valL m q<0)+1≤phiM L M I
 | [],_,h=>by cases h
 |l::M,hM,h=>by
  have g:=fun x hx=>hM x (List.mem_cons_of_mem _ hx)
  rcases List.mem_cons.1 h with rfl|h
  ·have ih:=phiM_split hI hm (M:=M) g
   have:=wI_self (L:=L) hI h1 h2
   simp only [phiM,List.map_cons,List.sum_cons]at *
   omega
  ·have ih:=phiM_less hI hm h1 h2 g h
   have:=wI_split hI (hM l List.mem_cons_self) hm
   simp only [phiM,List.map_cons,List.sum_cons]at *
   omega
def Prp:Tr→(Pq→Prop)→Prop
 | .leaf _,_=>True
 | .node l a b,I=>Lft I l∧Rgt I l∧Prp a (fun q=>I q∧0<valL l q)∧Prp b (fun q=>I q∧valL l q<0)
theorem size_phi {L:List Li}(hL:∀l∈L,l.ok):∀{t:Tr}{I:Pq→Prop},Cvx I→Prp t I→t.lin L→sizeT t≤phiM L L I
 | .leaf _,_,_,_,_=>Nat.zero_le _
 | .node l a b,I,hI,⟨h1,h2,h3,h4⟩,⟨k1,k2,k3⟩=>by
  have a1:=size_phi hL (hI.left l) h3 k2
  have a2:=size_phi hL (hI.right l) h4 k3
  have:=phiM_less hI k1 h1 h2 hL k1
  simp only [sizeT]
  omega
theorem wI_le (L:List Li) (I:Pq→Prop) (l:Li):wI L I l≤1+L.length:=by
 have:cntI L I l≤L.length:=List.countP_le_length
 unfold wI
 split <;> omega
theorem phiM_le (L:List Li) (I:Pq→Prop):∀M:List Li,phiM L M I≤M.length*(1+L.length)
 | []=>by simp [phiM]
 |l::M=>by
  have:=phiM_le L I M
  have:=wI_le L I l
  simp only [phiM,List.map_cons,List.sum_cons,List.length_cons,Nat.add_mul]at *
  omega
theorem size_lines {L:List Li}(hL:∀l∈L,l.ok){t:Tr}{I:Pq→Prop}(hI:Cvx I) (h:Prp t I) (k:t.lin L):sizeT t≤L.length*(1+L.length) :=
 Nat.le_trans (size_phi hL hI h k) (phiM_le L I L)
theorem joinT_prp {l:Li}{a b:Tr}{I:Pq→Prop}(h1:Lft I l) (h2:Rgt I l) (ha:Prp a fun q=>I q∧0<valL l q) (hb:Prp b fun q=>I q∧valL l q<0):Prp (joinT l a b) I:=by
 cases a with
 |leaf i =>
  cases b with
  |leaf j =>
   show Prp (if i=j then Tr.leaf i else Tr.node l (.leaf i) (.leaf j)) I
   split
   ·trivial
   ·exact⟨h1,h2,ha,hb⟩
  |node m x y=>exact⟨h1,h2,ha,hb⟩
 |node m x y=>exact⟨h1,h2,ha,hb⟩
theorem notT_prp:∀{t:Tr}{I:Pq→Prop},Prp t I→Prp (notT t) I
 | .leaf _,_,_=>trivial
 | .node _ _ _,_,⟨h1,h2,h3,h4⟩=>⟨h1,h2,notT_prp h3,notT_prp h4⟩
theorem restrI_prp:∀{t:Tr}{I:Pq→Prop},Prp (restrI t I) I
 | .leaf _,_=>trivial
 | .node l a b,I=>by
  unfold restrI
  split
  ·exact restrI_prp
  ·rename_i h1
   split
   ·exact restrI_prp
   ·rename_i h2
    exact joinT_prp (Classical.not_not.1 h2) (Classical.not_not.1 h1) restrI_prp restrI_prp
theorem mergeI_prp {op:Int}:∀{t b:Tr}{I:Pq→Prop},Prp (mergeI op t b I) I
 | .leaf i,b,I=>by
  unfold mergeI chooseI
  split
  ·trivial
  ·split
   ·trivial
   ·split
    ·exact notT_prp restrI_prp
    ·exact restrI_prp
 | .node l x y,b,I=>by
  unfold mergeI
  split
  ·exact mergeI_prp
  ·rename_i h1
   split
   ·exact mergeI_prp
   ·rename_i h2
    exact joinT_prp (Classical.not_not.1 h2) (Classical.not_not.1 h1) mergeI_prp mergeI_prp
theorem joinT_lin {L:List Li}{l:Li}(h:l∈L):∀{a b:Tr},a.lin L→b.lin L→(joinT l a b).lin L
 | .leaf i, .leaf j,ha,hb=>by
  show(if i=j then Tr.leaf i else Tr.node l (.leaf i) (.leaf j)).lin L
  split
  ·trivial
  ·exact⟨h,ha,hb⟩
 | .leaf i, .node m x y,ha,hb=>⟨h,ha,hb⟩
 | .node m x y,b,ha,hb=>by cases b <;> exact⟨h,ha,hb⟩
theorem notT_lin {L:List Li}:∀{t:Tr},t.lin L→(notT t).lin L
 | .leaf _,_=>trivial
 | .node _ _ _,⟨h,ha,hb⟩=>⟨h,notT_lin ha,notT_lin hb⟩
theorem restrI_lin {L:List Li}:∀{t:Tr}{I:Pq→Prop},t.lin L→(restrI t I).lin L
 | .leaf _,_,_=>trivial
 | .node l a b,I,⟨h,ha,hb⟩=>by
  unfold restrI
  split
  ·exact restrI_lin ha
  ·split
   ·exact restrI_lin hb
   ·exact joinT_lin h (restrI_lin ha) (restrI_lin hb)
theorem mergeI_lin {op:Int}{L:List Li}:∀{t b:Tr}{I:Pq→Prop},t.lin L→b.lin L→(mergeI op t b I).lin L
 | .leaf i,b,I,_,hb=>by
  unfold mergeI chooseI
  split
  ·trivial
  ·split
   ·trivial
   ·split
    ·exact notT_lin (restrI_lin hb)
    ·exact restrI_lin hb
 | .node l x y,b,I,⟨h,hx,hy⟩,hb=>by
  unfold mergeI
  split
  ·exact mergeI_lin hx hb
  ·split
   ·exact mergeI_lin hy hb
   ·exact joinT_lin h (mergeI_lin hx hb) (mergeI_lin hy hb)
end Go.Ab
namespace Go.Ab
open Go.Proofs
variable [Base]
def atT:Tr→Pq→Bool
 | .leaf i,_=>i
 | .node l a b,q=>if 0<valL l q then atT a q else atT b q
def Off (L:List Li) (q:Pq):Prop:=∀l∈L,valL l q≠0
theorem joinT_at (l:Li) (a b:Tr) (q:Pq):atT (joinT l a b) q=if 0<valL l q then atT a q else atT b q:=by
 cases a with
 |leaf i =>
  cases b with
  |leaf j =>
   show atT (if i=j then Tr.leaf i else Tr.node l (.leaf i) (.leaf j)) q=_
   by_cases e:i=j
   ·subst e;rw [if_pos rfl];simp [atT]
   ·rw [if_neg e];rfl
  |node m x y=>rfl
 |node m x y=>rfl
theorem notT_at:∀(t:Tr) (q:Pq),atT (notT t) q = !atT t q
 | .leaf _,_=>rfl
 | .node l a b,q=>by
  unfold notT atT
  rw [notT_at a,notT_at b]
  split <;> rfl
theorem restrI_at {L:List Li}:∀{t:Tr}{I:Pq→Prop}{q:Pq},t.lin L→Off L q→I q→atT (restrI t I) q=atT t q
 | .leaf _,_,_,_,_,_=>rfl
 | .node l a b,I,q,⟨h,ha,hb⟩,ho,hq=>by
  have hv:=ho l h
  unfold restrI
  by_cases h1:Rgt I l
  ·rw [if_neg (fun k=>k h1)]
   by_cases h2:Lft I l
   ·rw [if_neg (fun k=>k h2),joinT_at,show atT (.node l a b) q=if 0<valL l q then atT a q else atT b q from rfl]
    by_cases c:0<valL l q
    ·rw [if_pos c,if_pos c];exact restrI_at ha ho ⟨hq,c⟩
    ·rw [if_neg c,if_neg c];exact restrI_at hb ho ⟨hq,by grind⟩
   ·rw [if_pos h2,restrI_at hb ho hq,show atT (.node l a b) q=if 0<valL l q then atT a q else atT b q from rfl,if_neg (fun c=>h2 ⟨q,hq,c⟩)]
  ·have c:0<valL l q:=by
    have:¬valL l q<0:=fun c=>h1 ⟨q,hq,c⟩
    grind
   rw [if_pos h1,restrI_at ha ho hq,show atT (.node l a b) q=if 0<valL l q then atT a q else atT b q from rfl,if_pos c]
theorem op_cases {op:Int}(h:1≤op∧op≤4):op=1∨op=2∨op=3∨op=4:=by omega
theorem mergeI_at {op:Int}(hop:1≤op∧op≤4){L:List Li}:∀{t b:Tr}{I:Pq→Prop}{q:Pq},t.lin L→b.lin L→Off L q→I q→atT (mergeI op t b I) q=opB op (atT t q) (atT b q)
 | .leaf i,b,I,q,_,hb,ho,hq=>by
  have e:=restrI_at hb ho hq
  unfold mergeI chooseI
  show _=opB op i (atT b q)
  generalize restrI b I=r at *
  rw [←e]
  have en:=notT_at r q
  rcases op_cases hop with rfl|rfl|rfl|rfl <;> cases i <;> simp [opB,atT,en]
 | .node l a b',b,I,q,⟨h,ha,hb'⟩,hb,ho,hq=>by
  have hv:=ho l h
  unfold mergeI
  by_cases h1:Rgt I l
  ·rw [if_neg (fun k=>k h1)]
   by_cases h2:Lft I l
   ·rw [if_neg (fun k=>k h2),joinT_at,show atT (.node l a b') q=if 0<valL l q then atT a q else atT b' q from rfl]
    by_cases c:0<valL l q
    ·rw [if_pos c,if_pos c];exact mergeI_at hop ha hb ho ⟨hq,c⟩
    ·rw [if_neg c,if_neg c];exact mergeI_at hop hb' hb ho ⟨hq,by grind⟩
   ·rw [if_pos h2,mergeI_at hop hb' hb ho hq,show atT (.node l a b') q=if 0<valL l q then atT a q else atT b' q from rfl,if_neg (fun c=>h2 ⟨q,hq,c⟩)]
  ·have c:0<valL l q:=by
    have:¬valL l q<0:=fun c=>h1 ⟨q,hq,c⟩
    grind
   rw [if_pos h1,mergeI_at hop ha hb ho hq,show atT (.node l a b') q=if 0<valL l q then atT a q else atT b' q from rfl,if_pos c]
def OpP (I:Pq→Prop):Prop:=∃c:List Li,(∀l∈c,l.ok)∧∀q,I q↔Inn c q
theorem OpP.left {I:Pq→Prop}(h:OpP I){l:Li}(hl:l.ok):OpP fun q=>I q∧0<valL l q:=by
 obtain⟨c,h1,h2⟩:=h
 exact⟨c++[l],snoc_ok h1 hl,fun q=>by show(I q∧0<valL l q)↔_;rw [snoc_inn,h2]⟩
theorem OpP.right {I:Pq→Prop}(h:OpP I){l:Li}(hl:l.ok):OpP fun q=>I q∧valL l q<0:=by
 obtain⟨c,h1,h2⟩:=h
 exact⟨c++[l.neg],snoc_ok h1 hl.neg,fun q=>by show(I q∧valL l q<0)↔_;rw [snoc_inn,h2,neg_lt]⟩
theorem OpP.off {I:Pq→Prop}(h:OpP I){L:List Li}(hL:∀l∈L,l.ok){q:Pq}(hq:I q):∃r,I r∧Off L r:=by
 obtain⟨c,h1,h2⟩:=h
 obtain⟨r,r1,r2⟩:=off_lines L hL ((h2 q).1 hq)
 exact⟨r,(h2 r).2 r1,r2⟩
theorem restrI_const {L:List Li}(hL:∀l∈L,l.ok){i:Bool}:∀{t:Tr}{I:Pq→Prop},OpP I→(∃q,I q)→t.lin L→(∀q,I q→Off L q→atT t q=i)→restrI t I = .leaf i
 | .leaf j,I,hI,⟨q,hq⟩,_,h=>by
  obtain⟨r,r1,r2⟩:=hI.off hL hq
  have:j=i:=h r r1 r2
  rw [this];rfl
 | .node l a b,I,hI,he,⟨hl,ha,hb⟩,h=>by
  have hpos:∀q,I q→Off L q→0<valL l q→atT a q=i:=fun q h1 h2 h3=>by
   rw [←h q h1 h2,show atT (.node l a b) q=if 0<valL l q then atT a q else atT b q from rfl,if_pos h3]
  have hneg:∀q,I q→Off L q→¬0<valL l q→atT b q=i:=fun q h1 h2 h3=>by
   rw [←h q h1 h2,show atT (.node l a b) q=if 0<valL l q then atT a q else atT b q from rfl,if_neg h3]
  unfold restrI
  by_cases h1:Rgt I l
  ·rw [if_neg (fun k=>k h1)]
   by_cases h2:Lft I l
   ·rw [if_neg (fun k=>k h2),restrI_const hL (hI.left (hL l hl)) h2 ha (fun q h3 h4=>hpos q h3.1 h4 h3.2),restrI_const hL (hI.right (hL l hl)) h1 hb (fun q h3 h4=>hneg q h3.1 h4 (by have:=h3.2;grind))]
    exact if_pos rfl
   ·rw [if_pos h2]
    exact restrI_const hL hI he hb fun q h3 h4=>hneg q h3 h4 fun c=>h2 ⟨q,h3,c⟩
  ·rw [if_pos h1]
   exact restrI_const hL hI he ha fun q h3 h4=>hpos q h3 h4 (by
    have:¬valL l q<0:=fun c=>h1 ⟨q,h3,c⟩
    have:=h4 l hl
    grind)
theorem mergeI_const {op:Int}(hop:1≤op∧op≤4){L:List Li}(hL:∀l∈L,l.ok){i:Bool}:∀{t b:Tr}{I:Pq→Prop},OpP I→(∃q,I q)→t.lin L→b.lin L→(∀q,I q→Off L q→opB op (atT t q) (atT b q)=i)→mergeI op t b I = .leaf i
 | .leaf j,b,I,hI,he,_,hb,h=>by
  have hz:=fun k h=>restrI_const (i:=k) hL hI he hb h
  obtain⟨q,hq⟩:=he
  obtain⟨r,r1,r2⟩:=hI.off hL hq
  have hr:=h r r1 r2
  simp only [atT]at h hr
  unfold mergeI chooseI
  rcases op_cases hop with rfl|rfl|rfl|rfl <;> cases j
  ·rw [hz i (fun q a b=>by have:=h q a b;simpa [opB] using this)];simp
  ·simp [opB]at hr;simp [hr]
  ·simp [opB]at hr;simp [hr]
  ·rw [hz i (fun q a b=>by have:=h q a b;simpa [opB] using this)];simp
  ·simp [opB]at hr;simp [hr]
  ·rw [hz (!i) (fun q a b=>by have:=h q a b;simp [opB]at this;rw [←this];first|done|simp)];simp [notT]
  ·rw [hz i (fun q a b=>by have:=h q a b;simpa [opB] using this)];simp
  ·rw [hz (!i) (fun q a b=>by have:=h q a b;simp [opB]at this;rw [←this];first|done|simp)];simp [notT]
 | .node l a b',b,I,hI,he,⟨hl,ha,hb'⟩,hb,h=>by
  have hpos:∀q,I q→Off L q→0<valL l q→opB op (atT a q) (atT b q)=i:=fun q h1 h2 h3=>by
   rw [←h q h1 h2,show atT (.node l a b') q=if 0<valL l q then atT a q else atT b' q from rfl,if_pos h3]
  have hneg:∀q,I q→Off L q→¬0<valL l q→opB op (atT b' q) (atT b q)=i:=fun q h1 h2 h3=>by
   rw [←h q h1 h2,show atT (.node l a b') q=if 0<valL l q then atT a q else atT b' q from rfl,if_neg h3]
  unfold mergeI
  by_cases h1:Rgt I l
  ·rw [if_neg (fun k=>k h1)]
   by_cases h2:Lft I l
   ·rw [if_neg (fun k=>k h2),mergeI_const hop hL (hI.left (hL l hl)) h2 ha hb (fun q h3 h4=>hpos q h3.1 h4 h3.2),mergeI_const hop hL (hI.right (hL l hl)) h1 hb' hb (fun q h3 h4=>hneg q h3.1 h4 (by have:=h3.2;grind))]
    exact if_pos rfl
   ·rw [if_pos h2]
    exact mergeI_const hop hL hI he hb' hb fun q h3 h4=>hneg q h3 h4 fun c=>h2 ⟨q,h3,c⟩
  ·rw [if_pos h1]
   exact mergeI_const hop hL hI he ha hb fun q h3 h4=>hpos q h3 h4 (by
    have:¬valL l q<0:=fun c=>h1 ⟨q,h3,c⟩
    have:=h4 l hl
    grind)
theorem opn_nil:OpP (Inn []):=⟨[],(fun l h=>by cases h),fun q=>Iff.rfl⟩
theorem inn_ex:∃q,Inn [] q:=⟨(0,0),(fun l h=>by cases h)⟩
theorem inn_all (q:Pq):Inn [] q:=fun l h=>by cases h
theorem nil_ok:∀l∈([]:List Li),l.ok:=fun l h=>by cases h
theorem restrT_i {t:Tr}(h:t.lok):restrT t []=restrI t (Inn []):=restrT_I h nil_ok inn_ex
theorem mergeT_i {op:Int}{t b:Tr}(h:t.lok) (k:b.lok):mergeT op t b []=mergeI op t b (Inn []):=mergeT_I h k nil_ok inn_ex
theorem lin_lok {L:List Li}(hL:∀l∈L,l.ok):∀{t:Tr},t.lin L→t.lok
 | .leaf _,_=>trivial
 | .node _ _ _,⟨h,a,b⟩=>⟨hL _ h,lin_lok hL a,lin_lok hL b⟩
theorem mergeT_at {op:Int}(hop:1≤op∧op≤4){L:List Li}(hL:∀l∈L,l.ok){t b:Tr}(h:t.lin L) (k:b.lin L){q:Pq}(hq:Off L q):atT (mergeT op t b []) q=opB op (atT t q) (atT b q):=by
 rw [mergeT_i (lin_lok hL h) (lin_lok hL k)];exact mergeI_at hop h k hq (inn_all q)
theorem mergeT_const {op:Int}(hop:1≤op∧op≤4){L:List Li}(hL:∀l∈L,l.ok){i:Bool}{t b:Tr}(h:t.lin L) (k:b.lin L) (H:∀q,Off L q→opB op (atT t q) (atT b q)=i):mergeT op t b [] = .leaf i:=by
 rw [mergeT_i (lin_lok hL h) (lin_lok hL k)];exact mergeI_const hop hL opn_nil inn_ex h k fun q _ hq=>H q hq
theorem restrT_lin {L:List Li}(hL:∀l∈L,l.ok){t:Tr}(h:t.lin L):(restrT t []).lin L:=by
 rw [restrT_i (lin_lok hL h)];exact restrI_lin h
theorem mergeT_lin {op:Int}{L:List Li}(hL:∀l∈L,l.ok){t b:Tr}(h:t.lin L) (k:b.lin L):(mergeT op t b []).lin L:=by
 rw [mergeT_i (lin_lok hL h) (lin_lok hL k)];exact mergeI_lin h k
theorem mergeT_lines {op:Int}{L:List Li}(hL:∀l∈L,l.ok){t b:Tr}(h:t.lin L) (k:b.lin L):sizeT (mergeT op t b [])≤L.length*(1+L.length):=by
 refine size_lines hL (cvx_inn []) ?_ (mergeT_lin hL h k)
 rw [mergeT_i (lin_lok hL h) (lin_lok hL k)];exact mergeI_prp
theorem Tr.lin.mono {L M:List Li}(hs:∀l∈L,l∈M):∀{t:Tr},t.lin L→t.lin M
 | .leaf _,_=>trivial
 | .node _ _ _,⟨h,a,b⟩=>⟨hs _ h,a.mono hs,b.mono hs⟩
theorem Tr.lin.all {L:List Li}{p:Li→Prop}(hp:∀l∈L,p l):∀{t:Tr},t.lin L→t.all p
 | .leaf _,_=>trivial
 | .node _ _ _,⟨h,a,b⟩=>⟨hp _ h,a.all hp,b.all hp⟩
theorem count_less {α:Type}{p q:α→Bool}{x0:α}:∀{L:List α},(∀x∈L,p x=true→q x=true)→x0∈L→q x0=true→p x0=false→L.countP p+1≤L.countP q
 | [],_,h,_,_=>by cases h
 |x::L,h1,h,e1,e2=>by
  have g1:=fun y hy=>h1 y (List.mem_cons_of_mem _ hy)
  rw [List.countP_cons,List.countP_cons]
  rcases List.mem_cons.1 h with rfl|hm
  ·have:=count_mono g1
   rw [e1,e2]
   simp only [if_true,Bool.false_eq_true,if_false]
   omega
  ·have ih:=count_less g1 hm e1 e2
   have:=h1 x List.mem_cons_self
   cases hp:p x <;> cases hq:q x <;> simp_all <;> omega
open Classical in
noncomputable def metN (L:List Li) (I:Pq→Prop):Nat:=L.countP fun l=>decide (metI I l)
open Classical in
theorem metN_less {I J:Pq→Prop}(hI:Cvx I){L:List Li}{m:Li}(hm:m∈L) (h1:Lft I m) (h2:Rgt I m) (hJ:∀q,J q→I q∧valL m q≠0):metN L J+1≤metN L I:=by
 refine count_less (x0:=m) (fun l _ h=>?_) hm ?_ ?_
 ·obtain⟨q,q1,q2⟩:=of_decide_eq_true h
  exact decide_eq_true ⟨q,(hJ q q1).1,q2⟩
 ·obtain⟨p,p1,p2⟩:=h1
  obtain⟨q,q1,q2⟩:=h2
  obtain⟨r,r1,r2,_⟩:=between hI p1 q1 p2 q2
  exact decide_eq_true ⟨r,r1,r2⟩
 ·refine decide_eq_false ?_
  rintro ⟨q,q1,q2⟩
  exact(hJ q q1).2 q2
theorem dep_lines {L:List Li}:∀{t:Tr}{I:Pq→Prop},Cvx I→Prp t I→t.lin L→depT t≤metN L I
 | .leaf _,_,_,_,_=>Nat.zero_le _
 | .node l a b,I,hI,⟨h1,h2,h3,h4⟩,⟨k1,k2,k3⟩=>by
  have a1:=dep_lines (hI.left l) h3 k2
  have a2:=dep_lines (hI.right l) h4 k3
  have m1:=metN_less (J:=fun q=>I q∧0<valL l q) hI k1 h1 h2 fun q h=>⟨h.1,by have:=h.2;grind⟩
  have m2:=metN_less (J:=fun q=>I q∧valL l q<0) hI k1 h1 h2 fun q h=>⟨h.1,by have:=h.2;grind⟩
  simp only [depT]
  omega
def Gd (L:List Li) (t:Tr):Prop:=t.lin L∧Prp t (Inn [])
theorem Gd.dep {L:List Li}{t:Tr}(h:Gd L t):depT t≤L.length:=by
 refine Nat.le_trans (dep_lines (cvx_inn []) h.2 h.1) ?_
 unfold metN
 exact List.countP_le_length
theorem Gd.size {L:List Li}(hL:∀l∈L,l.ok){t:Tr}(h:Gd L t):sizeT t≤L.length*(1+L.length):=size_lines hL (cvx_inn []) h.2 h.1
theorem Gd.leaf (L:List Li) (i:Bool):Gd L (.leaf i):=⟨trivial,trivial⟩
theorem Gd.not {L:List Li}{t:Tr}(h:Gd L t):Gd L (notT t):=⟨notT_lin h.1,notT_prp h.2⟩
theorem Gd.restr {L:List Li}(hL:∀l∈L,l.ok){t:Tr}(h:t.lin L):Gd L (restrT t []):=⟨restrT_lin hL h,by rw [restrT_i (lin_lok hL h)];exact restrI_prp⟩
theorem Gd.merge {op:Int}{L:List Li}(hL:∀l∈L,l.ok){t b:Tr}(h:t.lin L) (k:b.lin L):Gd L (mergeT op t b []):=⟨mergeT_lin hL h k,by rw [mergeT_i (lin_lok hL h) (lin_lok hL k)];exact mergeI_prp⟩
end Go.Ab
