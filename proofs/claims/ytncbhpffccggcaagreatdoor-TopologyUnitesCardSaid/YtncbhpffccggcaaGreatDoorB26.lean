/- Texts laid one behind the other: Eqv, Gd, PTwo, Sid, TcA, RowD. -/
import Derived.Test.YtncbhpffccggcaaGreatDoorB25
set_option linter.all false
set_option maxHeartbeats 16000000
namespace Go.Ab
open Go.Proofs
variable [Base]
def atT:Tr→Pq→Bool
 | .leaf i,_=>i
 | .node l a b,q=>if 0<a6 l q then atT a q else atT b q
def Off (L:List Li) (q:Pq):Prop:=∀l∈L,a6 l q≠0
theorem xn (l:Li) (a b:Tr) (q:Pq):atT (fQ l a b) q=if 0<a6 l q then atT a q else atT b q:=by
 cases a with
 |leaf i =>
  cases b with
  |leaf j =>
   show atT (if i=j then Tr.leaf i else Tr.node l (.leaf i) (.leaf j)) q=_
   by_cases e:i=j
   ·subst e;rw [if_pos rfl];simp [atT]
   ·rw [if_neg e];rfl
  |node m x y=>rfl
 |node m x y=>rfl
theorem k8:∀(t:Tr) (q:Pq),atT (cN t) q = !atT t q
 | .leaf _,_=>rfl
 | .node l a b,q=>by
  unfold cN atT;rw [k8 a,k8 b];split <;> rfl
theorem ic {L:List Li}:∀{t:Tr}{I:Pq→Prop}{q:Pq},t.lin L→Off L q→I q→atT (bz t I) q=atT t q
 | .leaf _,_,_,_,_,_=>rfl
 | .node l a b,I,q,⟨h,ha,hb⟩,ho,hq=>by
  have hv:=ho l h;unfold bz;by_cases h1:Rgt I l
  ·rw [if_neg (fun k=>k h1)];by_cases h2:Lft I l
   ·rw [if_neg (fun k=>k h2),xn,show atT (.node l a b) q=if 0<a6 l q then atT a q else atT b q from rfl];by_cases c:0<a6 l q
    ·rw [if_pos c,if_pos c];exact ic ha ho ⟨hq,c⟩
    ·rw [if_neg c,if_neg c];exact ic hb ho ⟨hq,by grind⟩
   ·rw [if_pos h2,ic hb ho hq,show atT (.node l a b) q=if 0<a6 l q then atT a q else atT b q from rfl,if_neg (fun c=>h2 ⟨q,hq,c⟩)]
  ·have c:0<a6 l q:=by
    have:¬a6 l q<0:=fun c=>h1 ⟨q,hq,c⟩
    grind
   rw [if_pos h1,ic ha ho hq,show atT (.node l a b) q=if 0<a6 l q then atT a q else atT b q from rfl,if_pos c]
theorem wU {op:Int}(h:1≤op∧op≤4):op=1∨op=2∨op=3∨op=4:=by omega
theorem jv {op:Int}(hop:1≤op∧op≤4){L:List Li}:∀{t b:Tr}{I:Pq→Prop}{q:Pq},t.lin L→b.lin L→Off L q→I q→atT (cZ op t b I) q=opB op (atT t q) (atT b q)
 | .leaf i,b,I,q,_,hb,ho,hq=>by
  have e:=ic hb ho hq;unfold cZ kw;show _=opB op i (atT b q)
  generalize bz b I=r at *;rw [←e];have en:=k8 r q;rcases wU hop with rfl|rfl|rfl|rfl <;> cases i <;> simp [opB,atT,en]
 | .node l a b',b,I,q,⟨h,ha,hb'⟩,hb,ho,hq=>by
  have hv:=ho l h;unfold cZ;by_cases h1:Rgt I l
  ·rw [if_neg (fun k=>k h1)];by_cases h2:Lft I l
   ·rw [if_neg (fun k=>k h2),xn,show atT (.node l a b') q=if 0<a6 l q then atT a q else atT b' q from rfl];by_cases c:0<a6 l q
    ·rw [if_pos c,if_pos c];exact jv hop ha hb ho ⟨hq,c⟩
    ·rw [if_neg c,if_neg c];exact jv hop hb' hb ho ⟨hq,by grind⟩
   ·rw [if_pos h2,jv hop hb' hb ho hq,show atT (.node l a b') q=if 0<a6 l q then atT a q else atT b' q from rfl,if_neg (fun c=>h2 ⟨q,hq,c⟩)]
  ·have c:0<a6 l q:=by
    have:¬a6 l q<0:=fun c=>h1 ⟨q,hq,c⟩
    grind
   rw [if_pos h1,jv hop ha hb ho hq,show atT (.node l a b') q=if 0<a6 l q then atT a q else atT b' q from rfl,if_pos c]
def OpP (I:Pq→Prop):Prop:=∃c:List Li,(∀l∈c,l.ok)∧∀q,I q↔Inn c q
theorem OpP.left {I:Pq→Prop}(h:OpP I){l:Li}(hl:l.ok):OpP fun q=>I q∧0<a6 l q:=by
 obtain⟨c,h1,h2⟩:=h;exact⟨c++[l],fD h1 hl,fun q=>by show(I q∧0<a6 l q)↔_;rw [eD,h2]⟩
theorem OpP.right {I:Pq→Prop}(h:OpP I){l:Li}(hl:l.ok):OpP fun q=>I q∧a6 l q<0:=by
 obtain⟨c,h1,h2⟩:=h;exact⟨c++[l.neg],fD h1 hl.neg,fun q=>by show(I q∧a6 l q<0)↔_;rw [eD,h2,rB]⟩
theorem OpP.off {I:Pq→Prop}(h:OpP I){L:List Li}(hL:∀l∈L,l.ok){q:Pq}(hq:I q):∃r,I r∧Off L r:=by
 obtain⟨c,h1,h2⟩:=h;obtain⟨r,r1,r2⟩:=jq L hL ((h2 q).1 hq);exact⟨r,(h2 r).2 r1,r2⟩
theorem fF {L:List Li}(hL:∀l∈L,l.ok){i:Bool}:∀{t:Tr}{I:Pq→Prop},OpP I→(∃q,I q)→t.lin L→(∀q,I q→Off L q→atT t q=i)→bz t I = .leaf i
 | .leaf j,I,hI,⟨q,hq⟩,_,h=>by
  obtain⟨r,r1,r2⟩:=hI.off hL hq;have:j=i:=h r r1 r2;rw [this];rfl
 | .node l a b,I,hI,he,⟨hl,ha,hb⟩,h=>by
  have hpos:∀q,I q→Off L q→0<a6 l q→atT a q=i:=fun q h1 h2 h3=>by
   rw [←h q h1 h2,show atT (.node l a b) q=if 0<a6 l q then atT a q else atT b q from rfl,if_pos h3]
  have hneg:∀q,I q→Off L q→¬0<a6 l q→atT b q=i:=fun q h1 h2 h3=>by
   rw [←h q h1 h2,show atT (.node l a b) q=if 0<a6 l q then atT a q else atT b q from rfl,if_neg h3]
  unfold bz;by_cases h1:Rgt I l
  ·rw [if_neg (fun k=>k h1)];by_cases h2:Lft I l
   ·rw [if_neg (fun k=>k h2),fF hL (hI.left (hL l hl)) h2 ha (fun q h3 h4=>hpos q h3.1 h4 h3.2),fF hL (hI.right (hL l hl)) h1 hb (fun q h3 h4=>hneg q h3.1 h4 (by have:=h3.2;grind))];exact if_pos rfl
   ·rw [if_pos h2];exact fF hL hI he hb fun q h3 h4=>hneg q h3 h4 fun c=>h2 ⟨q,h3,c⟩
  ·rw [if_pos h1]
   exact fF hL hI he ha fun q h3 h4=>hpos q h3 h4 (by
    have:¬a6 l q<0:=fun c=>h1 ⟨q,h3,c⟩
    have:=h4 l hl;grind)
theorem fI {op:Int}(hop:1≤op∧op≤4){L:List Li}(hL:∀l∈L,l.ok){i:Bool}:∀{t b:Tr}{I:Pq→Prop},OpP I→(∃q,I q)→t.lin L→b.lin L→(∀q,I q→Off L q→opB op (atT t q) (atT b q)=i)→cZ op t b I = .leaf i
 | .leaf j,b,I,hI,he,_,hb,h=>by
  have hz:=fun k h=>fF (i:=k) hL hI he hb h
  obtain⟨q,hq⟩:=he;obtain⟨r,r1,r2⟩:=hI.off hL hq;have hr:=h r r1 r2;simp only [atT]at h hr;unfold cZ kw;rcases wU hop with rfl|rfl|rfl|rfl <;> cases j
  ·rw [hz i (fun q a b=>by have:=h q a b;simpa [opB] using this)];simp
  ·simp [opB]at hr;simp [hr]
  ·simp [opB]at hr;simp [hr]
  ·rw [hz i (fun q a b=>by have:=h q a b;simpa [opB] using this)];simp
  ·simp [opB]at hr;simp [hr]
  ·rw [hz (!i) (fun q a b=>by have:=h q a b;simp [opB]at this;rw [←this];first|done|simp)];simp [cN]
  ·rw [hz i (fun q a b=>by have:=h q a b;simpa [opB] using this)];simp
  ·rw [hz (!i) (fun q a b=>by have:=h q a b;simp [opB]at this;rw [←this];first|done|simp)];simp [cN]
 | .node l a b',b,I,hI,he,⟨hl,ha,hb'⟩,hb,h=>by
  have hpos:∀q,I q→Off L q→0<a6 l q→opB op (atT a q) (atT b q)=i:=fun q h1 h2 h3=>by
   rw [←h q h1 h2,show atT (.node l a b') q=if 0<a6 l q then atT a q else atT b' q from rfl,if_pos h3]
  have hneg:∀q,I q→Off L q→¬0<a6 l q→opB op (atT b' q) (atT b q)=i:=fun q h1 h2 h3=>by
   rw [←h q h1 h2,show atT (.node l a b') q=if 0<a6 l q then atT a q else atT b' q from rfl,if_neg h3]
  unfold cZ;by_cases h1:Rgt I l
  ·rw [if_neg (fun k=>k h1)];by_cases h2:Lft I l
   ·rw [if_neg (fun k=>k h2),fI hop hL (hI.left (hL l hl)) h2 ha hb (fun q h3 h4=>hpos q h3.1 h4 h3.2),fI hop hL (hI.right (hL l hl)) h1 hb' hb (fun q h3 h4=>hneg q h3.1 h4 (by have:=h3.2;grind))];exact if_pos rfl
   ·rw [if_pos h2];exact fI hop hL hI he hb' hb fun q h3 h4=>hneg q h3 h4 fun c=>h2 ⟨q,h3,c⟩
  ·rw [if_pos h1]
   exact fI hop hL hI he ha hb fun q h3 h4=>hpos q h3 h4 (by
    have:¬a6 l q<0:=fun c=>h1 ⟨q,h3,c⟩
    have:=h4 l hl;grind)
theorem Ho:OpP (Inn []):=⟨[],(fun l h=>by cases h),fun q=>Iff.rfl⟩
theorem zn:∃q,Inn [] q:=⟨(0,0),(fun l h=>by cases h)⟩
theorem nL (q:Pq):Inn [] q:=fun l h=>by cases h
theorem Ev:∀l∈([]:List Li),l.ok:=fun l h=>by cases h
theorem kN {t:Tr}(h:t.lok):aa t []=bz t (Inn []):=iu h Ev zn
theorem kR {op:Int}{t b:Tr}(h:t.lok) (k:b.lok):aQ op t b []=cZ op t b (Inn []):=ju h k Ev zn
theorem ci {L:List Li}(hL:∀l∈L,l.ok):∀{t:Tr},t.lin L→t.lok
 | .leaf _,_=>trivial
 | .node _ _ _,⟨h,a,b⟩=>⟨hL _ h,ci hL a,ci hL b⟩
theorem jl {L:List Li}(hL:∀l∈L,l.ok){t:Tr}(h:t.lin L){q:Pq}(hq:Off L q):atT (aa t []) q=atT t q:=by
 rw [kN (ci hL h)];exact ic h hq (nL q)
theorem C9 {op:Int}(hop:1≤op∧op≤4){L:List Li}(hL:∀l∈L,l.ok){t b:Tr}(h:t.lin L) (k:b.lin L){q:Pq}(hq:Off L q):atT (aQ op t b []) q=opB op (atT t q) (atT b q):=by
 rw [kR (ci hL h) (ci hL k)];exact jv hop h k hq (nL q)
theorem i4 {op:Int}(hop:1≤op∧op≤4){L:List Li}(hL:∀l∈L,l.ok){i:Bool}{t b:Tr}(h:t.lin L) (k:b.lin L) (H:∀q,Off L q→opB op (atT t q) (atT b q)=i):aQ op t b [] = .leaf i:=by
 rw [kR (ci hL h) (ci hL k)];exact fI hop hL Ho zn h k fun q _ hq=>H q hq
theorem m7 {L:List Li}(hL:∀l∈L,l.ok){t:Tr}(h:t.lin L):(aa t []).lin L:=by
 rw [kN (ci hL h)];exact ft h
theorem ka {op:Int}{L:List Li}(hL:∀l∈L,l.ok){t b:Tr}(h:t.lin L) (k:b.lin L):(aQ op t b []).lin L:=by
 rw [kR (ci hL h) (ci hL k)];exact iz h k
theorem nD {op:Int}{L:List Li}(hL:∀l∈L,l.ok){t b:Tr}(h:t.lin L) (k:b.lin L):bw (aQ op t b [])≤L.length*(1+L.length):=by
 refine qF hL (ql []) ?_ (ka hL h k);rw [kR (ci hL h) (ci hL k)];exact g9
theorem Tr.lin.mono {L M:List Li}(hs:∀l∈L,l∈M):∀{t:Tr},t.lin L→t.lin M
 | .leaf _,_=>trivial
 | .node _ _ _,⟨h,a,b⟩=>⟨hs _ h,a.mono hs,b.mono hs⟩
theorem Tr.lin.all {L:List Li}{p:Li→Prop}(hp:∀l∈L,p l):∀{t:Tr},t.lin L→t.all p
 | .leaf _,_=>trivial
 | .node _ _ _,⟨h,a,b⟩=>⟨hp _ h,a.all hp,b.all hp⟩
theorem mw {α:Type}{p q:α→Bool}{x0:α}:∀{L:List α},(∀x∈L,p x=true→q x=true)→x0∈L→q x0=true→p x0=false→L.countP p+1≤L.countP q
 | [],_,h,_,_=>by cases h
 |x::L,h1,h,e1,e2=>by
  have g1:=fun y hy=>h1 y (Mc hy)
  rw [List.countP_cons,List.countP_cons];rcases List.mem_cons.1 h with rfl|hm
  ·have:=mv g1;rw [e1,e2];simp only [if_true,Bool.false_eq_true,if_false];omega
  ·have ih:=mw g1 hm e1 e2;have:=h1 x Ms;cases hp:p x <;> cases hq:q x <;> simp_all <;> omega
open Classical in
noncomputable def HH (L:List Li) (I:Pq→Prop):Nat:=L.countP fun l=>decide (HI I l)
open Classical in
theorem tD {I J:Pq→Prop}(hI:Cvx I){L:List Li}{m:Li}(hm:m∈L) (h1:Lft I m) (h2:Rgt I m) (hJ:∀q,J q→I q∧a6 m q≠0):HH L J+1≤HH L I:=by
 refine mw (x0:=m) (fun l _ h=>?_) hm ?_ ?_
 ·obtain⟨q,q1,q2⟩:=of_decide_eq_true h;exact decide_eq_true ⟨q,(hJ q q1).1,q2⟩
 ·obtain⟨p,p1,p2⟩:=h1;obtain⟨q,q1,q2⟩:=h2;obtain⟨r,r1,r2,_⟩:=vQ hI p1 q1 p2 q2;exact decide_eq_true ⟨r,r1,r2⟩
 ·refine decide_eq_false ?_;rintro ⟨q,q1,q2⟩;exact(hJ q q1).2 q2
theorem oS {L:List Li}:∀{t:Tr}{I:Pq→Prop},Cvx I→Prp t I→t.lin L→br t≤HH L I
 | .leaf _,_,_,_,_=>Nat.zero_le _
 | .node l a b,I,hI,⟨h1,h2,h3,h4⟩,⟨k1,k2,k3⟩=>by
  have a1:=oS (hI.left l) h3 k2;have a2:=oS (hI.right l) h4 k3;have m1:=tD (J:=fun q=>I q∧0<a6 l q) hI k1 h1 h2 fun q h=>⟨h.1,by have:=h.2;grind⟩
  have m2:=tD (J:=fun q=>I q∧a6 l q<0) hI k1 h1 h2 fun q h=>⟨h.1,by have:=h.2;grind⟩
  simp only [br];omega
def Gd (L:List Li) (t:Tr):Prop:=t.lin L∧Prp t (Inn [])
theorem Gd.dep {L:List Li}{t:Tr}(h:Gd L t):br t≤L.length:=by
 refine Nat.le_trans (oS (ql []) h.2 h.1) ?_;unfold HH;exact List.countP_le_length
theorem Gd.size {L:List Li}(hL:∀l∈L,l.ok){t:Tr}(h:Gd L t):bw t≤L.length*(1+L.length):=qF hL (ql []) h.2 h.1
theorem Gd.leaf (L:List Li) (i:Bool):Gd L (.leaf i):=⟨trivial,trivial⟩
theorem Gd.not {L:List Li}{t:Tr}(h:Gd L t):Gd L (cN t):=⟨nB h.1,nA h.2⟩
theorem Gd.restr {L:List Li}(hL:∀l∈L,l.ok){t:Tr}(h:t.lin L):Gd L (aa t []):=⟨m7 hL h,by rw [kN (ci hL h)];exact fq⟩
theorem Gd.merge {op:Int}{L:List Li}(hL:∀l∈L,l.ok){t b:Tr}(h:t.lin L) (k:b.lin L):Gd L (aQ op t b []):=⟨ka hL h k,by rw [kR (ci hL h) (ci hL k)];exact g9⟩
theorem EI {l:Li}(h:l.ok):Lft (Inn []) l∧Rgt (Inn []) l:=by
 obtain⟨p,hp⟩:=tU h;have n0:=dk h;refine⟨⟨(p.1+1*l.a,p.2+1*l.b),nL _,?_⟩,⟨(p.1 + -1*l.a,p.2 + -1*l.b),nL _,?_⟩⟩
 ·rw [bN,hp];grind
 ·rw [bN,hp];grind
end Go.Ab
namespace Go.Ab
open Go.Proofs
variable [Base]
structure LnE (L:List Li) (LL:Nat):Prop where
 ok:∀l∈L,l.ok
 le:∀l∈L,l.le LL
 l1:1≤LL
 l2:LL≤500
 len:L.length≤100
theorem LnE.all {L:List Li}{LL:Nat}(h:LnE L LL){t:Tr}(k:t.lin L):t.all fun l=>l.le LL:=Tr.lin.all h.le k
theorem LnE.sz {L:List Li}{LL:Nat}(h:LnE L LL):L.length*(1+L.length)≤100*101:=Nat.mul_le_mul h.len (by have:=h.len;omega)
theorem pg {L:List Li}{LL:Nat}(h:LnE L LL) (op:Int) (hop:1≤op∧op≤4){a b:Tr}(ha:a.lin L) (hb:b.lin L) (da:br a≤500) (db:br b≤500):Pu Tryz.prog 52 [lit (.int .i64 op),bt a,bt b] (Ab.tup [bt (aQ op a b []),lit .nilIface]):=by
 have c1:=jH a om;have c2:=jH b om;have c3:=kQ h.l1 h.l2 op hop b (h.all hb) a [] (h.all ha) (fun s hs=>by cases hs) (by simp only [List.length_nil];omega);have c3':=c3.arg (l':=[lit (.int .i64 op),bt a,bt b,lit (.slice none 0 0)]) ⟨Le.refl _,Le.refl _,Le.refl _,dM,trivial⟩;rw [zd aj (ci h.ok ha) (ci h.ok hb)]at c3';have hg:=nD (op:=op) h.ok ha hb;have hm:=h.sz;have c4:=FH (aQ op a b []) om;generalize aQ op a b []=r at *;generalize L.length*(1+L.length)=q at *;clear c3 ha hb h;refine Pi Tryz.func52 fun C=>?_
 repeat(first|(refine A1 ⟨?_⟩;intros)|refine W4 c1 ⟨?_⟩|refine W4 c2 ⟨?_⟩|refine W4 c3' ⟨?_⟩|refine W4 c4 ⟨?_⟩)
 exact G2
theorem zS {L:List Li}{LL:Nat}(h:LnE L LL) (op:Int) (hop:1≤op∧op≤4){a b:Tr}(ha:a.lin L) (hb:b.lin L) (da:br a≤500) (db:br b≤500):Pu Tryz.prog 35 [lit (.int .i64 op),bt a,bt b] (Ab.tup [bt (aQ op a b []),lit .nilIface]):=by
 have c:=pg h op hop ha hb da db;clear ha hb h;refine Pi Tryz.func35 fun C=>?_
 repeat(first|(refine A1 ⟨?_⟩;intros)|refine W4 c ⟨?_⟩)
 exact G2
theorem wT (op:Int) (hop:1≤op∧op≤4):Pu Tryz.prog 34 [lit (.int .i64 op)] (lit (.bool true)):=by
 refine Pi Tryz.func34 fun C=>?_
 exact Z1
theorem fV:∀t:Tr,t.size=bw t
 | .leaf _=>rfl
 | .node l a b=>by rw [Tr.size_node,fV a,fV b];rfl
theorem LnE.of {L:List Li}{LL:Nat}(h:LnE L LL){t:Tr}(k:t.lin L) (hs:bw t≤60000):Pu Tryz.prog 33 [tq t] (Ab.tup [bt t,lit (.bool true)]) :=
 sk t (Tr.lin.all (p:=fun l=>l.ok∧l.le 100000) (fun l hl=>⟨h.ok l hl,(h.le l hl).gr (by have:=h.l2;omega)⟩) k) (by rw [fV];exact hs)
theorem BN {L:List Li}{LL:Nat}(h:LnE L LL) (op:Int) (hop:1≤op∧op≤4){a b:Tr}(ha:a.lin L) (hb:b.lin L) (da:br a≤500) (db:br b≤500) (sa:bw a≤60000) (sb:bw b≤60000):Pu Tryz.prog 16 [lit (.int .i64 op),tq a,tq b] (Ab.tup [tq (aQ op a b []),lit .nilIface]):=by
 have c1:=h.of ha sa;have c2:=h.of hb sb;have c3:=wT op hop;have c4:=zS h op hop ha hb da db;have hg:=nD (op:=op) h.ok ha hb;have hm:=h.sz;have c5:=um (aQ op a b []) (Tr.lin.all (fun l hl=>(h.le l hl).gr (by have:=h.l2;omega)) (ka h.ok ha hb)) (by rw [fV];omega);generalize aQ op a b []=r at *;clear ha hb h hg hm;refine Pi Tryz.func16 fun C=>?_
 repeat(first|(refine A1 ⟨?_⟩;intros)|refine W4 c1 ⟨?_⟩|refine W4 c2 ⟨?_⟩|refine W4 c3 ⟨?_⟩|refine W4 c4 ⟨?_⟩|refine W4 c5 ⟨?_⟩)
 exact G3
abbrev prS (a b:Tr):SV:=ag [bt a,bt b]
theorem qP {L:List Li}{LL:Nat}(h:LnE L LL){a b:Tr}(ha:a.lin L) (hb:b.lin L) (sa:bw a≤60000) (sb:bw b≤60000):Pu Tryz.prog 28 [tq a,tq b] (Ab.tup [prS a b,lit .nilIface]):=by
 have c1:=h.of ha sa;have c2:=h.of hb sb;clear ha hb h;refine Pi Tryz.func28 fun C=>?_
 repeat(first|(refine A1 ⟨?_⟩;intros)|refine W4 c1 ⟨?_⟩|refine W4 c2 ⟨?_⟩)
 exact G3
theorem v7 {L:List Li}{LL:Nat}(h:LnE L LL) (op:Int) (hop:1≤op∧op≤4){a b:Tr}(ha:a.lin L) (hb:b.lin L) (da:br a≤500) (db:br b≤500) (he:aQ op a b [] = .leaf false):Pu Tryz.prog 57 [prS a b,lit (.int .i64 op)] (Ab.tup [lit (.bool true),lit .nilIface]):=by
 have c:=zS h op hop ha hb da db;have d1:=bP false;rw [he]at c;simp only [bt,eB]at c d1⊢;clear ha hb h;refine Pi Tryz.func57 fun C=>?_
 repeat(first|(refine A1 ⟨?_⟩;intros)|refine W4 c ⟨?_⟩|refine W4 d1 ⟨?_⟩)
 exact G2
theorem xI {L:List Li}{LL:Nat}(h:LnE L LL){a b:Tr}(ha:a.lin L) (hb:b.lin L) (da:br a≤500) (db:br b≤500) (sa:bw a≤60000) (sb:bw b≤60000) (he:aQ 4 a b [] = .leaf false):Pu Tryz.prog 10 [tq a,tq b] (Ab.tup [lit (.bool true),lit .nilIface]):=by
 have c1:=qP h ha hb sa sb;have c2:=v7 h 4 om ha hb da db he
 have c3:Pu Tryz.prog 30 [prS a b] (Ab.tup [lit (.bool true),lit .nilIface]):=by
  clear c1;refine Pi Tryz.func30 fun C=>?_
  repeat(first|(refine A1 ⟨?_⟩;intros)|refine W4 c2 ⟨?_⟩)
  exact G2
 clear ha hb h c2;refine Pi Tryz.func10 fun C=>?_
 repeat(first|(refine A1 ⟨?_⟩;intros)|refine W4 c1 ⟨?_⟩|refine W4 c3 ⟨?_⟩)
 exact G2
theorem A0 {C D:List Li}(hC:∀l∈C,l.ok) (hD:∀l∈D,l.ok) (hq:∃q,Inn C q) (he:∀q,Inn C q↔Inn D q){m:Li}(hm:m∈C) (hE:Edg C m):m∈D:=by
 have hmo:=hC m hm;obtain⟨r,hr,hv⟩:=hE;obtain⟨t,rfl⟩:∃t,r=atL m t:=⟨bZ m r,(mE hmo hr).symm⟩
 have hnear:∀u,(∀j∈C,j≠m→0<a6 j (atL m u))→∃k:Rat,0<k∧∀e,0<e→e≤k→Inn D ((atL m u).1+e*m.a,(atL m u).2+e*m.b):=fun u hu=>by
  obtain⟨k,hk,hs⟩:=fo (fun i=>a6 i (atL m u)) (fun i=>(i.a:Rat)*m.a+i.b*m.b) (C.filter fun i=>decide (i≠m)) (fun i hi=>by
   rw [List.mem_filter,decide_eq_true_eq]at hi;exact hu i hi.1 hi.2)
  refine⟨k,hk,fun e he0 hle=>(he _).1 fun i hi=>?_⟩;rw [bN];by_cases him:i=m
  ·rw [him,gS hmo,Rat.zero_add];exact Rat.mul_pos he0 (dk hmo)
  ·exact hs i (List.mem_filter.2 ⟨hi,decide_eq_true him⟩) e he0 hle
 have hge:∀u,(∀j∈C,j≠m→0<a6 j (atL m u))→∀j∈D,0≤a6 j (atL m u):=fun u hu j hj=>by
  obtain⟨k,hk,hs⟩:=hnear u hu;refine Rat.not_lt.1 fun hn=>?_
  obtain⟨e,he0,hse⟩:=fo (fun _:Unit => - a6 j (atL m u)) (fun _ => -((j.a:Rat)*m.a+j.b*m.b)) [()] (fun _ _=>by grind)
  have h2:∃e',0<e'∧e'≤e∧e'≤k:=by
   rcases Rat.le_total (a:=e) (b:=k)with h|h
   ·exact⟨e,he0,Rat.le_refl,h⟩
   ·exact⟨k,hk,h,Rat.le_refl⟩
  obtain⟨e',p1,p2,p3⟩:=h2;have h3:=hs e' p1 p3 j hj;have h4:=hse () List.mem_cons_self e' p1 p2;rw [bN]at h3;grind
 obtain⟨j,hj,hz⟩:∃j∈D,a6 j (atL m t)=0:=by
  refine Classical.byContradiction fun hno=>?_
  have:Inn D (atL m t):=fun j hj=>by
   have h0:=hge t hv j hj;by_cases h:a6 j (atL m t)=0
   ·exact absurd ⟨j,hj,h⟩ hno
   ·grind
  have:=(he _).2 this m hm;rw [gS hmo]at this;exact absurd this (by decide)
 obtain⟨e,he0,hs⟩:=fo (fun i:Li×Bool=>a6 i.1 (atL m t)) (fun i=>if i.2 then slp m i.1 else-slp m i.1)
  (((C.filter fun i=>decide (i≠m)).map fun i=>(i,true))++((C.filter fun i=>decide (i≠m)).map fun i=>(i,false))) (fun i hi=>by
   rcases List.mem_append.1 hi with hi|hi <;> (obtain⟨i',hi',rfl⟩:=List.mem_map.1 hi;rw [List.mem_filter,decide_eq_true_eq]at hi';exact hv i' hi'.1 hi'.2))
 have g1:=hge (t+e) (fun i hi him=>by
  have:=hs (i,true) (List.mem_append_left _ (List.mem_map.2 ⟨i,List.mem_filter.2 ⟨hi,decide_eq_true him⟩,rfl⟩)) e he0 Rat.le_refl;simp only [if_true]at this;rw [aZ]at this⊢;grind) j hj
 have g2:=hge (t-e) (fun i hi him=>by
  have:=hs (i,false) (List.mem_append_right _ (List.mem_map.2 ⟨i,List.mem_filter.2 ⟨hi,decide_eq_true him⟩,rfl⟩)) e he0 Rat.le_refl;simp only [Bool.false_eq_true,if_false]at this;rw [aZ]at this⊢;grind) j hj
 have v1:a6 j (atL m (t+e))=e*slp m j:=by rw [aZ]at hz⊢;grind
 have v2:a6 j (atL m (t-e)) = -(e*slp m j):=by rw [aZ]at hz⊢;grind
 rw [v1]at g1;rw [v2]at g2;have hz2:a6 j (atL m (t+e))=0:=by rw [v1];grind
 rcases qN hmo (hD j hj) (show t≠t+e by grind) hz hz2 with k|k
 ·rw [←k];exact hj
 ·exfalso;obtain⟨q,hq⟩:=hq;have p1:=(he q).1 hq j hj;have p2:=hq m hm;rw [k,fg]at p1;grind
theorem dC.edg {c:PC}(h:dC c){m:Li}(hm:m∈a9 c):Edg (a9 c) m:=by
 obtain⟨s,hs,rfl⟩:=List.mem_map.1 hm;obtain⟨h1,t,ht⟩:=h.span s hs;exact⟨atL s.1 t,gS (h.ok s hs) t,(h1 t).1 ht⟩
theorem yp {c:PC}(h:dC c){C:List Li}(hC:∀l∈C,l.ok) (hE:∀l∈C,Edg C l) (he:∀q,Inn (a9 c) q↔Inn C q) (m:Li):m∈a9 c↔m∈C :=
 ⟨fun hm=>A0 h.lok hC h.inn he hm (h.edg hm),fun hm=>A0 hC h.lok (h.inn.imp fun q hq=>(he q).1 hq) (fun q=>(he q).symm) hm (hE m hm)⟩
theorem Edg.mono {C D:List Li}{m:Li}(h:∀j∈D,j∈C) (hE:Edg C m):Edg D m:=by
 obtain⟨r,h1,h2⟩:=hE;exact⟨r,h1,fun j hj=>h2 j (h j hj)⟩
theorem zI {c:List Li}(hc:∀l∈c,l.ok){l:Li}(h:l∈dh c):Edg (dh c) l :=
 ((dH hc).1 h).2.mono fun j hj=>((dH hc).1 hj).1
def pF (s:Spn):Spn:=⟨if s.nh then 0 else -s.hi,if s.nl then 0 else -s.lo,s.nh,s.nl⟩
theorem Ax (s:Spn) (t:Rat):InS (pF s) t↔InS s (-t):=by
 obtain⟨a,b,c,d⟩:=s;unfold InS pF;cases c <;> cases d <;> simp <;> grind
def sE (s u:Fg):Option Spn :=
 if u.1=s.1 then(if cH (cg s.2 u.2)then none else some (cg s.2 u.2))
 else if u.1=s.1.neg then(if cH (cg s.2 (pF u.2))then none else some (cg s.2 (pF u.2)))
 else none
def dE (c d:PC):Bool:=c.any fun s=>d.any fun u=>(sE s u).isSome
def Shr (a b:List Li):Prop:=∃l∈a,l.neg∈b∧∃t,∀m,m∈a∨m∈b→m≠l→m≠l.neg→0<a6 m (atL l t)
theorem Ey (l:Li):ay l.neg=ay l:=by
 have e:l.neg.bf = - l.bf:=by
  unfold Li.bf Li.neg;simp only [Rat.intCast_neg];rw [show(-(l.b:Rat)) * -l.b + - -(l.a:Rat) * - -l.a=(l.b:Rat)*l.b + -(l.a:Rat) * -l.a by grind,Rat.div_def,Rat.div_def];grind
 unfold ay;rw [e];unfold Li.neg;simp only [Rat.intCast_neg];refine Prod.ext ?_ ?_ <;> simp only <;> grind
theorem yY (l:Li) (t:Rat):atL l.neg (-t)=atL l t:=by
 unfold atL;rw [Ey];unfold cn aH Li.neg;simp only [Rat.intCast_neg];refine Prod.ext ?_ ?_ <;> simp only <;> grind
theorem AP {s:Spn}:cH s=false↔∃t,InS s t:=⟨fun h=>⟨_,fx h⟩,fun⟨_,h⟩=>ig h⟩
theorem wL (s u:Fg):(sE s u).isSome=true↔(u.1=s.1∧∃t,InS s.2 t∧InS u.2 t)∨(u.1=s.1.neg∧u.1≠s.1∧∃t,InS s.2 t∧InS u.2 (-t)):=by
 unfold sE;by_cases h1:u.1=s.1
 ·rw [if_pos h1]
  have e:(∃t,InS s.2 t∧InS u.2 t)↔cH (cg s.2 u.2)=false:=by
   rw [AP];exact⟨fun⟨t,h⟩=>⟨t,(iA _ _ t).2 h⟩,fun⟨t,h⟩=>⟨t,(iA _ _ t).1 h⟩⟩
  rw [e];cases cH (cg s.2 u.2) <;> simp [h1]
 ·rw [if_neg h1];by_cases h2:u.1=s.1.neg
  ·rw [if_pos h2]
   have e:(∃t,InS s.2 t∧InS u.2 (-t))↔cH (cg s.2 (pF u.2))=false:=by
    rw [AP];exact⟨fun⟨t,h⟩=>⟨t,(iA _ _ t).2 ⟨h.1,(Ax _ t).2 h.2⟩⟩,fun⟨t,h⟩=>by have:=(iA _ _ t).1 h;exact⟨t,this.1,(Ax _ t).1 this.2⟩⟩
   rw [e];have h1':s.1.neg≠s.1:=fun e=>h1 (h2.trans e)
   cases cH (cg s.2 (pF u.2)) <;> simp [h2,h1']
  ·rw [if_neg h2];simp [h1,h2]
theorem v8 {C:List Li}{q:Pq}(h:Inn C q){l:Li}(hl:l∈C):l.neg∉C:=fun hn=>by
 have h1:=h l hl;have h2:=h l.neg hn;rw [fg]at h2;grind
theorem eF (l:Li):l.neg.neg=l:=by unfold Li.neg;simp
theorem Bn {c d:PC}(hc:dC c) (hd:dC d) (hdis:∀q,Inn (a9 c) q→¬Inn (a9 d) q):dE c d=true↔Shr (a9 c) (a9 d):=by
 obtain⟨qc,hqc⟩:=hc.inn;obtain⟨qd,hqd⟩:=hd.inn;unfold dE;rw [List.any_eq_true];constructor
 ·rintro ⟨s,hs,h⟩;rw [List.any_eq_true]at h;obtain⟨u,hu,h⟩:=h;have hsl:s.1∈a9 c:=List.mem_map.2 ⟨s,hs,rfl⟩;have hul:u.1∈a9 d:=List.mem_map.2 ⟨u,hu,rfl⟩;rcases(wL s u).1 h with⟨e,t,h1,h2⟩|⟨e,_,t,h1,h2⟩
  ·exfalso;have v1:=((hc.span s hs).1 t).1 h1;have v2:=((hd.span u hu).1 t).1 h2;rw [e]at v2
   obtain⟨k,hk,hsm⟩:=fo (fun i=>a6 i (atL s.1 t)) (fun i=>(i.a:Rat)*s.1.a+i.b*s.1.b) (((a9 c)++(a9 d)).filter fun i=>decide (i≠s.1)) (fun i hi=>by
    rw [List.mem_filter,decide_eq_true_eq]at hi;rcases List.mem_append.1 hi.1 with h|h
    ·exact v1 i h hi.2
    ·exact v2 i h hi.2)
   have key:∀i,i∈a9 c++a9 d→0<a6 i ((atL s.1 t).1+k*s.1.a,(atL s.1 t).2+k*s.1.b):=fun i hi=>by
    rw [bN];by_cases him:i=s.1
    ·rw [him,gS (hc.ok s hs),Rat.zero_add];exact Rat.mul_pos hk (dk (hc.ok s hs))
    ·exact hsm i (List.mem_filter.2 ⟨hi,decide_eq_true him⟩) k hk Rat.le_refl
   exact hdis _ (fun i hi=>key i (List.mem_append_left _ hi)) (fun i hi=>key i (List.mem_append_right _ hi))
  ·refine⟨s.1,hsl,e▸hul,t,fun m hm n1 n2=>?_⟩;rcases hm with hm|hm
   ·exact((hc.span s hs).1 t).1 h1 m hm n1
   ·have:=((hd.span u hu).1 (-t)).1 h2 m hm (by rw [e];exact n2);rw [e,yY]at this;exact this
 ·rintro ⟨l,hl,hn,t,ht⟩;obtain⟨s,hs,rfl⟩:=List.mem_map.1 hl;obtain⟨u,hu,e⟩:=List.mem_map.1 hn;refine⟨s,hs,List.any_eq_true.2 ⟨u,hu,(wL s u).2 (.inr ⟨e,?_,t,?_,?_⟩)⟩⟩
  ·rw [e];intro h;have h1:=hqc s.1 hl;have h2:=fg s.1 qc;rw [h]at h2;grind
  ·refine((hc.span s hs).1 t).2 fun m hm n1=>ht m (.inl hm) n1 fun h=>?_
   rw [h]at hm;exact v8 hqc hl hm
  ·refine((hd.span u hu).1 (-t)).2 fun m hm n1=>?_
   rw [e,yY];refine ht m (.inr hm) (fun h=>?_) (by rw [←e];exact n1);rw [h]at hm;exact v8 hqd hn (by rw [eF];exact hm)
theorem e0r:r0 (0:Rat)=0:=by decide +kernel
theorem e1r:r1 (0:Rat)=0:=by decide +kernel
theorem e2r:r2 (0:Rat)=lit (.pointer none):=if_pos (by decide +kernel)
theorem e3r:(((0:Int)):Rat)=0:=rfl
theorem EO (s:Spn) (h:s.le 1000000):Pu Tryz.prog 174 [iv s] (iv (pF s)):=by
 obtain⟨lo,hi,nl,nh⟩:=s;obtain⟨h1,h2⟩:=h;simp only at h1 h2;have c1:=gX hi om;have c2:=gX lo om;cases nl <;> cases nh
 all_goals
  simp only [pF,Bool.false_eq_true,if_false,if_true];unfold iv ivx;simp only [e0r,e1r,e2r];clear h1 h2;generalize -hi=a at *;generalize -lo=b at *;refine Pi Tryz.func174 fun C=>?_
  exact X2 c1 c2
theorem HB {s:Spn}{n:Nat}(h:s.le n) (h1:1≤n):(pF s).le n:=by
 have h0:=jE;obtain⟨a,b⟩:=h;unfold pF;constructor
 ·show ht (if s.nh then 0 else -s.hi)≤n
  split
  ·omega
  ·rw [dc];exact b
 ·show ht (if s.nl then 0 else -s.lo)≤n
  split
  ·omega
  ·rw [dc];exact a
def kD (u:Fg) (l:Li):Spn×Bool:=if u.1=l then(u.2,true)else if u.1=l.neg then(pF u.2,true)else(⟨0,0,false,false⟩,false)
theorem Hq {u:Fg}{l:Li}{L:Nat}(h1:1≤L) (hU:L≤500) (hu:lS L u) (hl:l.le L):Pu Tryz.prog 132 [ag (fgx u),lfl l] (Ab.tup [iv (kD u l).1,lit (.bool (kD u l).2)]):=by
 obtain⟨m,s⟩:=u;obtain⟨hm,hs⟩:=hu;simp only at hm hs;have hn:l.neg.le L:=⟨by show il (-l.a)≤L;rw [cj];exact hl.a,by show il (-l.b)≤L;rw [cj];exact hl.b,by show il (-l.c)≤L;rw [cj];exact hl.c⟩
 have c1:=oI hm hl h1 om;have c2:=oI hm hn h1 om;have c3:=AF l (hl.gr om);have c4:=EO s ⟨by have:=hs.1;omega,by have:=hs.2;omega⟩;unfold kD;simp only;clear hm hs hl hn;by_cases k1:m=l
 ·rw [if_pos k1];rw [decide_eq_true k1]at c1;refine Pi Tryz.func132 fun C=>?_
  repeat(first|(refine A1 ⟨?_⟩;intros)|refine W4 c1 ⟨?_⟩)
  exact G3
 ·rw [if_neg k1];rw [decide_eq_false k1]at c1;by_cases k2:m=l.neg
  ·rw [if_pos k2];rw [decide_eq_true k2]at c2;clear k1 k2;generalize l.neg=l' at *;generalize pF s=s' at *;refine Pi Tryz.func132 fun C=>?_
   repeat(first|(refine A1 ⟨?_⟩;intros)|refine W4 c1 ⟨?_⟩|refine W4 c2 ⟨?_⟩|refine W4 c3 ⟨?_⟩|refine W4 c4 ⟨?_⟩)
   exact G3
  ·rw [if_neg k2];rw [decide_eq_false k2]at c2;clear k1 k2;generalize l.neg=l' at *;unfold iv ivx;simp only [e0r,e1r,e2r];refine Pi Tryz.func132 fun C=>?_
   repeat(first|(refine A1 ⟨?_⟩;intros)|refine W4 c1 ⟨?_⟩|refine W4 c2 ⟨?_⟩|refine W4 c3 ⟨?_⟩)
   exact G3
def zFg:Fg:=(⟨0,0,0⟩,⟨0,0,false,false⟩)
def BQ (s u:Fg):Fg×Bool :=
 if(kD u s.1).2=true then(if cH (cg s.2 (kD u s.1).1)=true then(zFg,false)else((s.1,cg s.2 (kD u s.1).1),true))else(zFg,false)
theorem GM (s u:Fg):(BQ s u).2=(sE s u).isSome:=by
 unfold BQ sE kD;by_cases h1:u.1=s.1
 ·rw [if_pos h1,if_pos h1,if_pos rfl];simp only;split <;> rfl
 ·rw [if_neg h1,if_neg h1];by_cases h2:u.1=s.1.neg
  ·rw [if_pos h2,if_pos h2,if_pos rfl];simp only;split <;> rfl
  ·rw [if_neg h2,if_neg h2];rfl
theorem yT {s u:Fg}{L:Nat}(h1:1≤L) (hU:L≤500) (hs:lS L s) (hu:lS L u):Pu Tryz.prog 92 [ag (fgx s),ag (fgx u)] (Ab.tup [ag (fgx (BQ s u).1),lit (.bool (BQ s u).2)]):=by
 have c1:=Hq h1 hU hu hs.1
 have hle:(kD u s.1).1.le (50*L):=by
  have h0:=jE;unfold kD;split
  ·exact hu.2
  ·split
   ·exact HB hu.2 om
   ·exact⟨by show ht 0≤_;omega,by show ht 0≤_;omega⟩
 have c2:=tK s.2 (kD u s.1).1 ⟨by have:=hs.2.1;omega,by have:=hs.2.2;omega⟩ ⟨by have:=hle.1;omega,by have:=hle.2;omega⟩;unfold BQ;clear hs hu hle;obtain⟨l,v⟩:=s;simp only at *;generalize(kD u l).2=ok at *;generalize(kD u l).1=w at *;generalize cg v w=x at *;generalize cH x=bad at *;cases ok
 ·rw [if_neg (by decide)];unfold zFg fgx;simp only [e3r,e0r,e1r,e2r];refine Pi Tryz.func92 fun C=>?_
  repeat(first|(refine A1 ⟨?_⟩;intros)|refine W4 c1 ⟨?_⟩)
  exact G3
 ·rw [if_pos rfl];cases bad
  ·rw [if_neg (by decide)];simp only [Bool.not_false]at c2;refine Pi Tryz.func92 fun C=>?_
   repeat(first|(refine A1 ⟨?_⟩;intros)|refine W4 c1 ⟨?_⟩|refine W4 c2 ⟨?_⟩)
   exact G3
  ·rw [if_pos rfl];simp only [Bool.not_true]at c2;unfold zFg fgx;simp only [e3r,e0r,e1r,e2r];refine Pi Tryz.func92 fun C=>?_
   repeat(first|(refine A1 ⟨?_⟩;intros)|refine W4 c1 ⟨?_⟩|refine W4 c2 ⟨?_⟩)
   exact G3
theorem ym {c d:PC}{L:Nat}(h1:1≤L) (hU:L≤500) (hc:∀s∈c,lS L s) (hd:∀s∈d,lS L s) (hlc:c.length≤100000) (hld:d.length≤100000):Pu Tryz.prog 60 [pcs c,pcs d] (lit (.bool (dE c d))):=by
 refine Pi Tryz.func60 fun C=>?_
 repeat(refine A1 ⟨?_⟩;intros)
 refine WP.loopS (ι:=Nat) (fun k=>k≤c.length∧dE (c.drop k) d=dE c d) (fun k=>c.length-k)
  (fun k=>fm [(1,pcs d),(11,pcs c),(12,lit (.int .i64 c.length)),(13,lit (.int .i64 k))]) (fun _=>[]) 0 ⟨Nat.zero_le _,rfl⟩ lfA (List.nil_sublist _) ?_
 rintro k ⟨hk,hR⟩ K hK;by_cases hkl:k<c.length
 ·obtain⟨s,hget,hmm,hat,hne⟩:=elt eO om hkl;have hs:=hc s hmm;have hgo:=fun(h:dE (c.drop (k+1)) d=dE c d) F' H'=>hK F' H' (k+1) ⟨om,h⟩ om
  rw [i5 hget]at hR;have e:dE (s::c.drop (k+1)) d=(d.any (fun u=>(sE s u).isSome)||dE (c.drop (k+1)) d):=by unfold dE;rw [List.any_cons]
  rw [e]at hR;clear hK hc hget hmm e;generalize dE (c.drop (k+1)) d=R1 at *;generalize dE c d=R at *;repeat(refine A1 ⟨?_⟩;intros)
  refine Wo (a7 (cs':=fgx s) rfl rfl om om hat hne) ?_;repeat(refine A1 ⟨?_⟩;intros)
  rename_i b6
  refine WP.loopS (ι:=Nat) (fun j=>j≤d.length∧((d.drop j).any (fun u=>(sE s u).isSome)||R1)=R) (fun j=>d.length-j)
   (fun j=>fm [(1,pcs d),(6,lit (.pointer (some ⟨b6,0,none⟩))),(11,pcs c),(12,lit (.int .i64 c.length)),(13,lit (.int .i64 k)),(17,pcs d),(18,lit (.int .i64 d.length)),(19,lit (.int .i64 j))]) (fun _=>[(b6,frT,fgx s)]) 0 ⟨Nat.zero_le _,hR⟩ lfA Sr ?_
  clear hR;rintro j ⟨hj,hR⟩ K2 hK2;by_cases hjl:j<d.length
  ·obtain⟨u,hget2,hmm2,hat2,hne2⟩:=elt eO om hjl;have cv:=yT h1 hU hs (hd u hmm2);rw [i5 hget2,List.any_cons]at hR;have hgo2:=fun(h:((d.drop (j+1)).any (fun u=>(sE s u).isSome)||R1)=R) F' H'=>hK2 F' H' (j+1) ⟨om,h⟩ om
   rw [GM]at cv;generalize(d.drop (j+1)).any (fun u=>(sE s u).isSome)=R2 at *;generalize(BQ s u).1=vv at *;clear hK2 hget2 hmm2 hd hs hgo;cases ho:(sE s u).isSome with
   |true =>
    rw [ho]at hR cv;rw [Bool.true_or,Bool.true_or]at hR;subst hR;clear hgo2;repeat(refine A1 ⟨?_⟩;intros)
    refine Wo (a7 (cs':=fgx u) rfl rfl om om hat2 hne2) ?_;exact Y1 cv
   |false =>
    rw [ho]at hR cv;rw [Bool.false_or]at hR;replace hgo2:=hgo2 hR;clear hR;repeat(refine A1 ⟨?_⟩;intros)
    refine Wo (a7 (cs':=fgx u) rfl rfl om om hat2 hne2) ?_;repeat(first|(refine A1 ⟨?_⟩;intros)|refine W4 cv ⟨?_⟩)
    exact hgo2 _ _ lfA (by repeat(first|exact Sr|refine Sc ?_))
  ·have hje:j=d.length:=by omega
   subst hje;rw [List.drop_length,List.any_nil,Bool.false_or]at hR;replace hgo:=hgo hR;clear hK2 hd hs;repeat(refine A1 ⟨?_⟩;intros)
   exact hgo _ _ lfA (List.nil_sublist _)
 ·have hke:k=c.length:=by omega
  subst hke;rw [List.drop_length]at hR;rw [←hR];clear hK hc hd;exact Z1
def oY (c:PC):Bool:=c.all (fun s => !s.2.nl && !s.2.nh)&&decide (0<c.length)
theorem xY (c:PC) (hl:c.length≤100000):Pu Tryz.prog 61 [pcs c] (lit (.bool (oY c))):=by
 have hR0:((c.drop 0).all (fun s => !s.2.nl && !s.2.nh)&&decide (0<c.length))=oY c:=rfl;generalize oY c=R at *;refine Pi Tryz.func61 fun C=>?_
 repeat(refine A1 ⟨?_⟩;intros)
 refine WP.loopS (ι:=Nat) (fun k=>k≤c.length∧((c.drop k).all (fun s => !s.2.nl && !s.2.nh)&&decide (0<c.length))=R) (fun k=>c.length-k)
  (fun k=>fm [(0,pcs c),(5,pcs c),(6,lit (.int .i64 c.length)),(7,lit (.int .i64 k))]) (fun _=>[]) 0 ⟨Nat.zero_le _,hR0⟩ lfA (List.nil_sublist _) ?_
 clear hR0;rintro k ⟨hk,hR⟩ K hK;by_cases hkl:k<c.length
 ·obtain⟨s,hget,hmm,hat,hne⟩:=elt eO om hkl;have hgo:=fun(h:((c.drop (k+1)).all (fun s => !s.2.nl && !s.2.nh)&&decide (0<c.length))=R) F' H'=>hK F' H' (k+1) ⟨om,h⟩ om
  rw [i5 hget,List.all_cons]at hR;obtain⟨m,lo,hi,nl,nh⟩:=s;simp only at hR;clear hK hget hmm;cases nl <;> cases nh
  ·simp only [Bool.not_false,Bool.true_and,Bool.and_self]at hR;replace hgo:=hgo hR;clear hR;repeat(refine A1 ⟨?_⟩;intros)
   refine Wo (a7 (cs':=fgx (m,⟨lo,hi,false,false⟩)) rfl rfl om om hat hne) ?_;repeat(refine A1 ⟨?_⟩;intros)
   exact hgo _ _ lfA (List.nil_sublist _)
  all_goals
   simp only [Bool.not_false,Bool.not_true,Bool.false_and,Bool.and_false,Bool.and_self,Bool.true_and]at hR;subst hR;clear hgo;repeat(refine A1 ⟨?_⟩;intros)
   refine Wo (a7 (cs':=fgx (m,⟨lo,hi,_,_⟩)) rfl rfl om om hat hne) ?_;exact Z1
 ·have hke:k=c.length:=by omega
  subst hke;rw [List.drop_length,List.all_nil,Bool.true_and]at hR;rw [←hR];clear hK hR;by_cases h0:0<c.length
  ·rw [decide_eq_true h0];exact Z1
  ·rw [decide_eq_false h0];exact Z1
section
variable {P:Program}{C:Ctx}{n:Nat}{F:Fr}{H:LH}{ops:Array Oper}{K:Fr→LH→Prop}{rest:List Oper}{ty:TypeId}{pos:String}{aft:Array Edge}
theorem WPL.appAllS {T e:TypeId}{sz by_:Nat}{z:List SV}{g:Bool} [hS:TSl P T e] [hT:TY P e sz by_ z g]{d:Nat}{x y:Operand}{b0 k0:Nat}{ds:List SV}
  (hx:ev F x=lit (.slice (some ⟨b0,0,none⟩) 0 0)) (hy:ev F y=sl ds k0) (hds:ds.length=k0*sz) (hpos:0<k0*sz) (hl:k0≤1000000000) (hby:by_≤10000)
  (k:∀s' H',Own e sz k0 ds s' H'→WPL P C n ops rest K (upd F d s') (H'++H)) (hd:Nat.blt d n=true:=by exact rfl) :
  WPL P C n ops (⟨some d, .call ⟨.builtin .append,#[x,y],#[T,T]⟩,ty,pos,aft,none⟩::rest) K F H:=by
 unfold WPL;intro a w hs Q hq;have hk0:0<k0:=Nat.pos_of_ne_zero fun e=>by rw [e,Nat.zero_mul]at hpos;omega
 refine wpList_plain rfl fun K' hK'=>?_
 obtain⟨hdef,hn,m0,h10,h20,h30,h40,h50⟩:=id hs
 have hp0:∀x,(ev F x).p m0 (a.eval x):=fun x=>by
  cases x with
  |tmp t=>exact h50 t
  |const v=>unfold ev lit;rfl
  |global g=>unfold ev lit;rfl
  |func f=>unfold ev lit;rfl
 have e0:=hp0 x;rw [hx,ae]at e0;have e1:=hp0 y;rw [hy]at e1;obtain⟨ad2,c2,e1,hc1,hc2,hcb⟩:=cC e1;obtain⟨b2,off2,rfl,arr2,T2,fz2,hbm2,hall2⟩:=hcb.resolve_left (fun h=>by rw [h]at hds;simp at hds;omega);have hb2:=h10 _ _ hbm2;rw [hds]at hall2;generalize hl2:(arr2.toList.drop off2).take (k0*sz)=l2 at hall2;obtain⟨i,v,hi,hsz,hbyt,hz,hzl,hfl,hvs⟩:=hT.run_bytes;have hlen2:=hall2.length
 have hys:∀j u,l2[j]? = some u→w.cell? ((⟨b2,off2,none⟩:Addr).add j)=some u:=fun j u hj=>by
  rw [aI,cu w b2 _ arr2 _ _ hb2];rw [←hl2,List.getElem?_take]at hj;split at hj
  ·rw [List.getElem?_drop]at hj;simpa using hj
  ·cases hj
 have hexec:execOp a.eval (⟨some d, .call ⟨.builtin .append,#[x,y],#[T,T]⟩,ty,pos,aft,none⟩:Oper)=(do let v←Builtin.append_ #[T,T] ty #[a.eval x,a.eval y];pure (.value v)):=by
  simp [execOp,resolve,invoke,builtin]
 have hmul:∀q,q≤1000000001→q*by_≤140737488355328:=fun q hq=>Nat.le_trans (Nat.mul_le_mul hq hby) (by decide)
 have get2:∀m,aP m w→(ev F y).p m (a.eval y)→ar m ds l2:=fun m h1 h2=>by
  rw [hy,e1]at h2;obtain⟨ad3,c3,e3,_,_,hcb3⟩:=cC h2;obtain⟨b3,off3,rfl,arr3,T3,fz3,hbm3,hall3⟩:=hcb3.resolve_left (fun h=>by rw [h]at hds;simp at hds;omega);have hb3:=h1 _ _ hbm3;simp only [Value.slice.injEq,Option.some.injEq,Addr.mk.injEq,and_true,true_and]at e3;obtain⟨⟨rfl,rfl⟩,_⟩:=e3;rw [hb2]at hb3;simp only [Option.some.injEq,Obj.cells.injEq]at hb3;obtain⟨rfl,_⟩:=hb3;rw [hds,hl2]at hall3;exact hall3
 unfold Oper.wp;rw [hexec,e1,e0];have hrun:=run_append_grow (P:=P) w T ty e i v hS.h hi hz ⟨b0,0,none⟩ 0 0 [] (by simp) (by intro j u hj;simp at hj) ⟨b2,off2,none⟩ k0 c2 l2 (by rw [hlen2,hsz,hds]) hys om om (growslice_fits om (by rw [hbyt];exact hmul _ om));simp only [Sem.run_bind,hrun,Result.andThen_ok,Sem.run_pure];have hge:=grownCap_ge w (0+k0) 0 e;have hle:=grownCap_le_maxLen w (0+k0) 0 e (by simp only [maxLen];omega)
 have h:=k (lit (.slice (some ⟨w.heap.size,0,none⟩) (0+k0) (grownCap w (0+k0) 0 e))) [(w.heap.size,e,ds++List.replicate (grownCap w (0+k0) 0 e*sz-k0*sz) top)]
  ⟨hds, .inr ⟨w.heap.size,grownCap w (0+k0) 0 e,om,hle,by rw [Nat.zero_add],rfl⟩⟩
 unfold WPL at h;refine hK' _ _ (h _ _ (St.pushD (Nat.blt_eq.mp hd) hs fun m h1 h2 h3=>?_) Q hq);simp only [Array.toList_append,List.toList_toArray,List.nil_append];refine(get2 m h1 (h3 y)).append (ar.topL ?_ (dD hfl));rw [Array.length_toList,size_zeroCells,hvs,Nat.zero_add,Nat.sub_mul]
end
end Go.Ab
