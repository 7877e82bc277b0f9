/- Texts laid one behind the other: CvxC, PLn, WdS, PIv, PCut, Elt. -/
import Derived.Test.YtncbhpffccggcaaGreatDoorB19
set_option linter.all false
set_option maxHeartbeats 16000000
namespace Go.Ab
open Go.Proofs
variable [Base]
def cT (c:PC) (l:Li):PC:=c.filterMap fun s=>(er s.1 s.2 l).map fun w=>(s.1,w)
def aA (pos:PC→Nat) (c:PC) (l:Li):PC×Bool:=match gQ c l with
 |some v=>((cT c l).take (pos (cT c l))++(l,v)::(cT c l).drop (pos (cT c l)),true)
 |none=>(c,decide (0<j4 c l))
theorem jB {c:PC}{l:Li}{s:Fg}:s∈cT c l↔∃s0∈c,s0.1=s.1∧er s0.1 s0.2 l=some s.2:=by
 unfold cT;rw [List.mem_filterMap];constructor
 ·rintro ⟨s0,h1,h2⟩;obtain⟨w,h3,h4⟩:=Option.map_eq_some_iff.1 h2;exact⟨s0,h1,by rw [←h4],by rw [←h4];exact h3⟩
 ·rintro ⟨s0,h1,h2,h3⟩;exact⟨s0,h1,by rw [h3];exact congrArg some (Prod.ext h2 rfl)⟩
theorem tH (c:PC) (l:Li):(a9 (cT c l)).Sublist (a9 c):=by
 induction c with
 |nil=>exact List.Sublist.slnil
 |cons s c ih =>
  unfold cT;rw [List.filterMap_cons];cases h:er s.1 s.2 l with
  |none=>exact ih.cons _
  |some w=>exact ih.cons_cons _
theorem nH {α:Type}(a:List α) (x:α) (n:Nat):(a.take n++x::a.drop n).Perm (x::a):=by
 have:=(List.perm_middle (a:=x) (l₁:=a.take n) (l₂:=a.drop n))
 rw [List.take_append_drop]at this;exact this
theorem zG {c:PC}{l:Li}{v:Spn}(pos:Nat):∀m,m∈a9 ((cT c l).take pos++(l,v)::(cT c l).drop pos)↔m=l∨m∈a9 (cT c l):=fun m=>by
 have:=((nH (cT c l) (l,v) pos).map Prod.fst).mem_iff (a:=m);rw [a9,this,List.map_cons,List.mem_cons]
theorem Fs {C d:List Li}(hok:∀l∈C,l.ok) (hq:∃q,Inn C q) (hC:∀m∈d,m∈C) (hin:∀q,Inn d q→Inn C q){m:Li}(hm:m∈C) (t:Rat) (ht:∀j∈d,j≠m→0<a6 j (atL m t)):∀j∈C,j≠m→0<a6 j (atL m t):=fun j hj hne=>by
 have hmo:=hok m hm
 have hge:∀u,(∀i∈d,i≠m→0<a6 i (atL m u))→0≤a6 j (atL m u):=fun u hu=>by
  refine Rat.not_lt.1 fun hn=>?_
  obtain⟨e,he,hs⟩:=fo (fun i:Option Li=>match i with|none => - a6 j (atL m u)|some i=>a6 i (atL m u)) (fun i=>match i with|none => -((j.a:Rat)*m.a+j.b*m.b)|some i=>(i.a:Rat)*m.a+i.b*m.b)
   (none::(d.filter fun i=>decide (i≠m)).map some) (fun i hi=>by
    rcases List.mem_cons.1 hi with rfl|hi
    ·simp only;grind
    ·obtain⟨i',hi',rfl⟩:=List.mem_map.1 hi;rw [List.mem_filter,decide_eq_true_eq]at hi';exact hu i' hi'.1 hi'.2)
  have hI:Inn d ((atL m u).1+e*m.a,(atL m u).2+e*m.b):=fun i hi=>by
   rw [bN];by_cases him:i=m
   ·rw [him,gS hmo,Rat.zero_add];exact Rat.mul_pos he (dk hmo)
   ·exact hs (some i) (Mc (List.mem_map.2 ⟨i,List.mem_filter.2 ⟨hi,decide_eq_true him⟩,rfl⟩)) e he Rat.le_refl
  have h1:=hin _ hI j hj;have h2:=hs none List.mem_cons_self e he Rat.le_refl;rw [bN]at h1;simp only at h2;grind
 have h0:=hge t ht;by_cases hz:a6 j (atL m t)=0
 ·exfalso
  obtain⟨e,he,hs⟩:=fo (fun i:Li×Bool=>a6 i.1 (atL m t)) (fun i=>if i.2 then slp m i.1 else-slp m i.1)
   (((d.filter fun i=>decide (i≠m)).map fun i=>(i,true))++((d.filter fun i=>decide (i≠m)).map fun i=>(i,false))) (fun i hi=>by
    rcases List.mem_append.1 hi with hi|hi <;> (obtain⟨i',hi',rfl⟩:=List.mem_map.1 hi;rw [List.mem_filter,decide_eq_true_eq]at hi';exact ht i' hi'.1 hi'.2))
  have g1:=hge (t+e) fun i hi him=>by
   have:=hs (i,true) (List.mem_append_left _ (List.mem_map.2 ⟨i,List.mem_filter.2 ⟨hi,decide_eq_true him⟩,rfl⟩)) e he Rat.le_refl;simp only [if_true]at this;rw [aZ]at this⊢;grind
  have g2:=hge (t-e) fun i hi him=>by
   have:=hs (i,false) (List.mem_append_right _ (List.mem_map.2 ⟨i,List.mem_filter.2 ⟨hi,decide_eq_true him⟩,rfl⟩)) e he Rat.le_refl;simp only [Bool.false_eq_true,if_false]at this;rw [aZ]at this⊢;grind
  have v1:a6 j (atL m (t+e))=e*slp m j:=by rw [aZ]at hz⊢;grind
  have v2:a6 j (atL m (t-e)) = -(e*slp m j):=by rw [aZ]at hz⊢;grind
  rw [v1]at g1;rw [v2]at g2;have hz2:a6 j (atL m (t+e))=0:=by rw [v1];grind
  obtain⟨q,hq⟩:=hq;have p1:=hq j hj;have p2:=hq m hm;rcases qN hmo (hok j hj) (show t≠t+e by grind) hz hz2 with k|k
  ·exact hne k
  ·rw [k,fg]at p1;grind
 ·grind
theorem iG {c:PC}(h:dC c){l:Li}(hl:l.ok) (pos:PC→Nat){d:PC}(hd:aA pos c l=(d,true)):dC d∧Inn (a9 d)=fun q=>Inn (a9 c) q∧0<a6 l q:=by
 unfold aA at hd;cases hp:gQ c l with
 |none =>
  rw [hp]at hd;simp only [Prod.mk.injEq,decide_eq_true_eq]at hd;obtain⟨rfl,h0⟩:=hd
  have hpl:j4 c l=1∧¬Rgt (Inn (a9 c)) l:=by
   rcases tj h hl with⟨r,_,_⟩|⟨r,_,b⟩|⟨r,_,_⟩
   ·omega
   ·exact⟨r,b⟩
   ·omega
  refine⟨h,funext fun q=>propext ⟨fun hq=>⟨hq,?_⟩,And.left⟩⟩;have hm:=md hl hp;by_cases h1:a6 l q<0
  ·exact absurd ⟨q,hq,h1⟩ hpl.2
  ·by_cases h2:a6 l q=0
   ·exact absurd hq (hm q h2)
   ·grind
 |some v =>
  rw [hp]at hd;simp only [Prod.mk.injEq,and_true]at hd;obtain⟨hv,t,ht⟩:=rk hp;have hin:=(hv t).1 ht
  have hlc:l∉a9 c:=fun hm=>by
   have:=hin l hm;rw [gS hl]at this;exact absurd this (by decide)
  have hlin:∀m,m∈a9 d↔m=l∨m∈a9 (cT c l):=fun m=>by rw [←hd];exact zG _ m
  have hck:∀m∈a9 (cT c l),m∈a9 c:=fun m hm=>(tH c l).subset hm
  have hok:∀m∈a9 c++[l],m.ok:=fD h.lok hl
  have hq:∃q,Inn (a9 c++[l]) q:=by
   have:Edg (a9 c++[l]) l:=⟨atL l t,gS hl t,fun j hj hne=>by
    rcases List.mem_append.1 hj with hj|hj
    ·exact hin j hj
    ·exact absurd (List.mem_singleton.1 hj) hne⟩
   obtain⟨q,hq,_⟩:=this.inn hl;exact⟨q,hq⟩
  have hkept:∀m∈a9 c++[l],Edg (a9 c++[l]) m→m∈a9 d:=fun m hm he=>by
   rw [hlin];rcases List.mem_append.1 hm with hm|hm
   ·right;obtain⟨s,hs,rfl⟩:=List.mem_map.1 hm;obtain⟨r,hr,hj⟩:=he;have hml:s.1≠l:=fun e=>hlc (e▸List.mem_map.2 ⟨s,hs,rfl⟩)
    cases hc:er s.1 s.2 l with
    |some w=>exact List.mem_map.2 ⟨(s.1,w),jB.2 ⟨s,hs,rfl,hc⟩,rfl⟩
    |none =>
     refine absurd ⟨((h.span s hs).1 (bZ s.1 r)).2 fun j hj' hne=>?_,?_⟩ (u7 hc (bZ s.1 r))
     ·rw [mE (h.ok s hs) hr];exact hj j (List.mem_append_left _ hj') hne
     ·rw [mE (h.ok s hs) hr];exact hj l (List.mem_append_right _ Ms) (fun e=>hml e.symm)
   ·exact .inl (List.mem_singleton.1 hm)
  have hinn:Inn (a9 d)=fun q=>Inn (a9 c) q∧0<a6 l q:=by
   funext p
   refine propext ?_;rw [←eD];obtain⟨q,hq⟩:=hq;constructor
   ·intro hp;exact Inn.kept hok hq hkept hp
   ·intro hp m hm;rcases(hlin m).1 hm with e|e
    ·rw [e];exact hp l (List.mem_append_right _ Ms)
    ·exact hp m (List.mem_append_left _ (hck m e))
  have hmem:∀s,s∈d↔s=(l,v)∨s∈cT c l:=fun s=>by
   rw [←hd];rw [(nH (cT c l) (l,v) _).mem_iff,List.mem_cons]
  refine⟨⟨fun s hs=>?_,?_,?_,fun s hs=>?_⟩,hinn⟩
  ·rcases(hmem s).1 hs with e|e
   ·rw [e];exact hl
   ·obtain⟨s0,h1,h2,_⟩:=jB.1 e;rw [←h2];exact h.ok s0 h1
  ·obtain⟨q,hq⟩:=hq;exact⟨q,by rw [hinn];exact eD.1 hq⟩
  ·rw [a9,←hd];rw [((nH (cT c l) (l,v) (pos (cT c l))).map Prod.fst).nodup_iff,List.map_cons,List.nodup_cons];exact⟨fun hm=>hlc (hck l hm),h.nd.sublist (tH c l)⟩
  ·have hC:∀m∈a9 d,m∈a9 c++[l]:=fun m hm=>by
    rcases(hlin m).1 hm with e|e
    ·rw [e];exact List.mem_append_right _ Ms
    ·exact List.mem_append_left _ (hck m e)
   have hinC:∀q,Inn (a9 d) q→Inn (a9 c++[l]) q:=fun q hq=>by rw [hinn]at hq;exact eD.2 hq
   have key:=Fs hok hq hC hinC (m:=s.1) (hC _ (List.mem_map.2 ⟨s,hs,rfl⟩));have hall:∀t,(∀j∈a9 c++[l],j≠s.1→0<a6 j (atL s.1 t))↔∀j∈a9 d,j≠s.1→0<a6 j (atL s.1 t):=fun t=>⟨fun k j hj=>k j (hC j hj),fun k=>key t k⟩
   rcases(hmem s).1 hs with e|e
   ·refine⟨fun t=>?_,by rw [e];exact⟨t,ht⟩⟩;rw [←hall];have:=hv t;rw [e];simp only;rw [this];constructor
    ·intro k j hj hne;rcases List.mem_append.1 hj with hj|hj
     ·exact k j hj
     ·exact absurd (List.mem_singleton.1 hj) hne
    ·intro k j hj;exact k j (List.mem_append_left _ hj) (fun e=>hlc (e▸hj))
   ·obtain⟨s0,h1,h2,h3⟩:=jB.1 e;obtain⟨g1,g2⟩:=h.span s0 h1;refine⟨fun t=>?_,jJ g2 h3⟩;rw [←hall,←h2,eh h3,g1];have hsl:s0.1≠l:=fun e=>hlc (e▸List.mem_map.2 ⟨s0,h1,rfl⟩)
    constructor
    ·rintro ⟨k1,k2⟩ j hj hne;rcases List.mem_append.1 hj with hj|hj
     ·exact k1 j hj hne
     ·rw [List.mem_singleton.1 hj];exact k2
    ·intro k;exact⟨fun j hj hne=>k j (List.mem_append_left _ hj) hne,k l (List.mem_append_right _ Ms) (fun e=>hsl e.symm)⟩
theorem dV {c:PC}(h:dC c){l:Li}(hl:l.ok) (pos:PC→Nat):(aA pos c l).2=true↔Lft (Inn (a9 c)) l:=by
 unfold aA;have hpl:=tj h hl;unfold j4 at *;cases hp:gQ c l with
 |some v =>
  rw [hp]at hpl;rcases hpl with⟨_,a,_⟩|⟨r,_⟩|⟨r,_⟩
  ·exact⟨fun _=>a,fun _=>rfl⟩
  ·cases r
  ·cases r
 |none =>
  rw [hp]at hpl;simp only [decide_eq_true_eq];rcases hpl with⟨r,a,_⟩|⟨r,a,_⟩|⟨r,a,_⟩
  ·rw [r];have hm:=md hl hp;rename_i b;exact absurd ⟨a,b⟩ (rv hm)
  ·rw [r];exact⟨fun _=>a,fun _=>by decide⟩
  ·rw [r];exact⟨fun k=>absurd k (by decide),fun k=>absurd k a⟩
theorem vU {I:Pq→Prop}{l:Li}:Lft I l.neg↔Rgt I l:=by
 unfold Lft Rgt;simp only [rB]
def dF (pos:Li→PC→Nat):Tr→PC→Tr
 | .leaf i,_ => .leaf i
 | .node l a b,c=>if(aA (pos l.neg) c l.neg).2=false then dF pos a c else if(aA (pos l) c l).2=false then dF pos b c else fQ l (dF pos a (aA (pos l) c l).1) (dF pos b (aA (pos l.neg) c l.neg).1)
def lM (pos:Li→PC→Nat) (op:Int) (i:Bool) (b:Tr) (c:PC):Tr :=
 if op=1∧i=true then .leaf true else if(op=2∨op=3)∧i=false then .leaf false else if(op=3∨op=4)∧i=true then cN (dF pos b c)else dF pos b c
def eU (pos:Li→PC→Nat) (op:Int):Tr→Tr→PC→Tr
 | .leaf i,b,c=>lM pos op i b c
 | .node l x y,b,c=>if(aA (pos l.neg) c l.neg).2=false then eU pos op x b c else if(aA (pos l) c l).2=false then eU pos op y b c else fQ l (eU pos op x b (aA (pos l) c l).1) (eU pos op y b (aA (pos l.neg) c l.neg).1)
theorem oW {c:PC}(h:dC c){l:Li}(hl:l.ok) (pos:PC→Nat) (k:Lft (Inn (a9 c)) l):dC (aA pos c l).1∧Inn (a9 (aA pos c l).1)=fun q=>Inn (a9 c) q∧0<a6 l q :=
 iG h hl pos (Prod.ext rfl ((dV h hl pos).2 k))
theorem sf {c:PC}(h:dC c){l:Li}(hl:l.ok) (pos:PC→Nat) (k:Rgt (Inn (a9 c)) l):dC (aA pos c l.neg).1∧Inn (a9 (aA pos c l.neg).1)=fun q=>Inn (a9 c) q∧a6 l q<0:=by
 obtain⟨a,b⟩:=oW h hl.neg pos (vU.2 k);refine⟨a,b.trans ?_⟩;funext q
 rw [rB]
theorem jm (pos:Li→PC→Nat):∀{t:Tr}{c:PC},t.lok→dC c→dF pos t c=bz t (Inn (a9 c))
 | .leaf i,c,_,_=>rfl
 | .node l a b,c,⟨hl,ha,hb⟩,hc=>by
  have p1:=dV hc hl (pos l);have p2:=(dV hc hl.neg (pos l.neg)).trans vU;unfold dF bz;by_cases h1:Rgt (Inn (a9 c)) l
  ·rw [p2.2 h1,if_neg (by decide),if_neg (show¬¬Rgt (Inn (a9 c)) l from fun h=>h h1)];by_cases h2:Lft (Inn (a9 c)) l
   ·rw [p1.2 h2,if_neg (by decide),if_neg (show¬¬Lft (Inn (a9 c)) l from fun h=>h h2)];obtain⟨a1,a2⟩:=oW hc hl (pos l) h2;obtain⟨b1,b2⟩:=sf hc hl (pos l.neg) h1;rw [jm pos ha a1,jm pos hb b1,a2,b2]
   ·rw [show(aA (pos l) c l).2=false from by simpa using fun k=>h2 (p1.1 k),if_pos rfl,if_pos h2];exact jm pos hb hc
  ·rw [show(aA (pos l.neg) c l.neg).2=false from by simpa using fun k=>h1 (p2.1 k),if_pos rfl,if_pos h1];exact jm pos ha hc
theorem kS (pos:Li→PC→Nat){op:Int}:∀{t b:Tr}{c:PC},t.lok→b.lok→dC c→eU pos op t b c=cZ op t b (Inn (a9 c))
 | .leaf i,b,c,_,hb,hc=>by
  unfold eU cZ lM kw;rw [jm pos hb hc]
 | .node l x y,b,c,⟨hl,hx,hy⟩,hb,hc=>by
  have p1:=dV hc hl (pos l);have p2:=(dV hc hl.neg (pos l.neg)).trans vU;unfold eU cZ;by_cases h1:Rgt (Inn (a9 c)) l
  ·rw [p2.2 h1,if_neg (by decide),if_neg (show¬¬Rgt (Inn (a9 c)) l from fun h=>h h1)];by_cases h2:Lft (Inn (a9 c)) l
   ·rw [p1.2 h2,if_neg (by decide),if_neg (show¬¬Lft (Inn (a9 c)) l from fun h=>h h2)];obtain⟨a1,a2⟩:=oW hc hl (pos l) h2;obtain⟨b1,b2⟩:=sf hc hl (pos l.neg) h1;rw [kS pos hx hb a1,kS pos hy hb b1,a2,b2]
   ·rw [show(aA (pos l) c l).2=false from by simpa using fun k=>h2 (p1.1 k),if_pos rfl,if_pos h2];exact kS pos hy hb hc
  ·rw [show(aA (pos l.neg) c l.neg).2=false from by simpa using fun k=>h1 (p2.1 k),if_pos rfl,if_pos h1];exact kS pos hx hb hc
theorem lZ (pos:Li→PC→Nat){t:Tr}(h:t.lok):dF pos t []=aa t []:=by
 rw [jm pos h dC.nil,iu h (fun l h=>by cases h) ⟨(0,0),fun l h=>by cases h⟩];rfl
theorem zd (pos:Li→PC→Nat){op:Int}{t b:Tr}(h:t.lok) (hb:b.lok):eU pos op t b []=aQ op t b []:=by
 rw [kS pos h hb dC.nil,ju h hb (fun l h=>by cases h) ⟨(0,0),fun l h=>by cases h⟩];rfl
abbrev lfl (l:Li):SV:=lf l.a l.b l.c
abbrev ppq (p:Pq):SV:=pp p.1 p.2
theorem Li.le.hts {l:Li}{L:Nat}(h:l.le L) (hL:1≤L):ht (l.a:Rat)≤L∧ht (l.b:Rat)≤L∧ht (l.c:Rat)≤L:=by
 have ha:=dN l.a h.a;have hb:=dN l.b h.b;have hc:=dN l.c h.c;omega
theorem AU (x y:Rat) (hx:ht x≤1000000) (hy:ht y≤1000000):Pu Tryz.prog 227 [fr x,fr y] (fr (x/y)):=by
 have h1:=vC y;have c1:=Ju y om;have c2:=iK x y⁻¹ om om;rw [←Rat.div_def]at c2;refine Pi Tryz.func227 fun C=>?_
 exact X2 c1 c2
theorem Fi (x:Rat) (hx:ht x≤1000000):Pu Tryz.prog 241 [fr x] (fr (x/2)):=by
 have h2:ht ((1:Rat)/2)≤10:=by have h1:=kg 1 2;have h2:=gb;have h3:ht (2:Rat)≤1:=nM 2 om;clear hx;omega
 have c2:=iK x (1/2) om om;rw [show x*(1/2)=x/2 by grind]at c2;have e0:r0 ((1:Rat)/2)=1:=by decide +kernel
 have e1:r1 ((1:Rat)/2)=1:=by decide +kernel
 have e2:r2 ((1:Rat)/2)=lit (.pointer none):=if_pos (by decide +kernel);rw [show fr ((1:Rat)/2)=ag [lit (.int .i64 1),lit (.int .i64 1),lit (.pointer none)] by unfold fr;rw [e0,e1,e2]]at c2;clear h2 e0 e1 e2;refine Pi Tryz.func241 fun C=>?_
 exact X1 c2
theorem I2 (x y:Rat) (hx:ht x≤1000000) (hy:ht y≤1000000):Pu Tryz.prog 175 [fr x,fr y] (fr (rF x y)):=by
 have c1:=ko y x om om;have e:(0≤(x-y).num.sign)↔¬0<(y-x).num.sign:=by rw [ji,bO];grind
 unfold rF;by_cases h:0<(y-x).num.sign
 ·rw [if_neg (fun k=>e.1 k h)];clear e;generalize(y-x).num.sign=z at *;refine Pi Tryz.func175 fun C=>?_
  exact X1 c1
 ·rw [if_pos (e.2 h)];clear e;generalize(y-x).num.sign=z at *;refine Pi Tryz.func175 fun C=>?_
  exact X1 c1
theorem I1 (x y:Rat) (hx:ht x≤1000000) (hy:ht y≤1000000):Pu Tryz.prog 176 [fr x,fr y] (fr (rD x y)):=by
 have c1:=ko y x om om;have e:((x-y).num.sign≤0)↔¬(y-x).num.sign<0:=by rw [←Int.not_lt,bO,e9];grind
 unfold rD;by_cases h:(y-x).num.sign<0
 ·rw [if_neg (fun k=>e.1 k h)];clear e;generalize(y-x).num.sign=z at *;refine Pi Tryz.func176 fun C=>?_
  exact X1 c1
 ·rw [if_pos (e.2 h)];clear e;generalize(y-x).num.sign=z at *;refine Pi Tryz.func176 fun C=>?_
  exact X1 c1
theorem AF (l:Li) (h:l.le 1000000):Pu Tryz.prog 170 [lfl l] (lfl l.neg):=by
 have ha:=dN l.a h.a;have hb:=dN l.b h.b;have hc:=dN l.c h.c;have c1:=gX (l.a:Rat) om;have c2:=gX (l.b:Rat) om;have c3:=gX (l.c:Rat) om;rw [←Rat.intCast_neg]at c1 c2 c3;refine Pi Tryz.func170 fun C=>?_
 repeat(first|(refine A1 ⟨?_⟩;intros)|refine W4 c1 ⟨?_⟩|refine W4 c2 ⟨?_⟩|refine W4 c3 ⟨?_⟩)
 exact G1
theorem q8 (l:Li) (h:l.le 1000000):Pu Tryz.prog 200 [lfl l] (ppq (aH l)):=by
 have ha:=dN l.a h.a;have c1:=gX (l.a:Rat) om;refine Pi Tryz.func200 fun C=>?_
 exact X1 c1
theorem Li.bf_htL {l:Li}{L:Nat}(h:l.le L) (hL:1≤L):ht l.bf≤10*L:=by
 obtain⟨ha,hb,hc⟩:=h.hts hL;unfold Li.bf;have h1:=ax (l.b:Rat) l.b;have h2:=ax (-(l.a:Rat)) (-(l.a:Rat));have h3:=cU ((l.b:Rat)*l.b) (-(l.a:Rat) * -(l.a:Rat));have h4:=vC ((l.b:Rat)*l.b + -(l.a:Rat) * -(l.a:Rat));have h5:=ax (l.c:Rat) ((l.b:Rat)*l.b + -(l.a:Rat) * -(l.a:Rat))⁻¹;rw [dc]at h2⊢;rw [Rat.div_def];omega
theorem lO {l:Li}{L:Nat}(h:l.le L) (hL:1≤L):hp (ay l) (12*L):=by
 obtain⟨ha,hb,hc⟩:=h.hts hL;have:=Li.bf_htL h hL;have:=ax l.bf (l.a:Rat);have:=ax l.bf (l.b:Rat);unfold ay;constructor <;> simp only <;> omega
theorem Ik {l:Li}{L:Nat}(h:l.le L) (hL:1≤L){t:Rat}{n:Nat}(k:ht t≤n):hp (atL l t) (n+15*L):=by
 obtain⟨ha,hb,hc⟩:=h.hts hL;have hd:hp (aH l) L:=⟨hb,by show ht (-(l.a:Rat))≤L;rw [dc];exact ha⟩
 obtain⟨h1,h2⟩:=nZ (lO h hL) k hd;unfold atL;exact⟨om,om⟩
theorem vZ {l:Li}{L:Nat}(h:l.le L) (hL:1≤L){p:Pq}{n:Nat}(k:hp p n):ht (a6 l p)≤2*n+7*L:=by
 obtain⟨h1,h2,h3⟩:=h.hts hL;obtain⟨k1,k2⟩:=k;have:=ax (l.a:Rat) p.1;have:=ax (l.b:Rat) p.2;have:=cU ((l.a:Rat)*p.1) ((l.b:Rat)*p.2);have:=cU ((l.a:Rat)*p.1+(l.b:Rat)*p.2) (l.c:Rat);unfold a6;omega
theorem xj {l:Li}{L:Nat}(h:l.le L) (hL:1≤L) (hU:L≤10000):Pu Tryz.prog 226 [lfl l] (ppq (ay l)):=by
 obtain⟨ha,hb,hc⟩:=h.hts hL;have hf:=Li.bf_htL h hL;have h1:=ax (l.a:Rat) l.a;have h2:=ax (l.b:Rat) l.b;have h3:=cU ((l.a:Rat)*l.a) ((l.b:Rat)*l.b);have hcn:ht (-(l.c:Rat))≤L:=by rw [dc];exact hc
 have e : -(l.c:Rat)/((l.a:Rat)*l.a+l.b*l.b)=l.bf:=by
  unfold Li.bf;rw [show(l.b:Rat)*l.b + -(l.a:Rat) * -(l.a:Rat)=(l.a:Rat)*l.a+l.b*l.b by grind,Rat.div_def,Rat.div_def,Rat.neg_mul]
 have c1:=mf (l.a:Rat) l.b l.c;have c2:=gX (l.c:Rat) om;have c3:=uN (l.a:Rat) l.b l.a l.b om om om om;have c4:=AU (-(l.c:Rat)) ((l.a:Rat)*l.a+l.b*l.b) om om;rw [e]at c4;have c5:=te (l.a:Rat) l.b l.bf om om om;rw [Rat.mul_comm (l.a:Rat) l.bf,Rat.mul_comm (l.b:Rat) l.bf]at c5;clear h1 h2 h3 hcn ha hb hc hf e;refine Pi Tryz.func226 fun C=>?_
 repeat(first|(refine A1 ⟨?_⟩;intros)|refine W4 c1 ⟨?_⟩|refine W4 c2 ⟨?_⟩|refine W4 c3 ⟨?_⟩|refine W4 c4 ⟨?_⟩|refine W4 c5 ⟨?_⟩)
 exact G1
theorem Jt {l:Li}{L:Nat}(h:l.le L) (hL:1≤L) (hU:L≤10000){t:Rat}(k:ht t≤200000):Pu Tryz.prog 221 [lfl l,fr t] (ppq (atL l t)):=by
 obtain⟨ha,hb,hc⟩:=h.hts hL;obtain⟨b1,b2⟩:=lO h hL;have d2:ht (-(l.a:Rat))≤L:=by rw [dc];exact ha
 have m1:=ax (l.b:Rat) t;have m2:=ax (-(l.a:Rat)) t;have c1:=xj h hL hU;have c2:=q8 l (h.gr om);have c3:=te (l.b:Rat) (-(l.a:Rat)) t om om om;have c4:=GH (ay l).1 (ay l).2 ((l.b:Rat)*t) (-(l.a:Rat)*t) om om om om;rw [Rat.mul_comm (l.b:Rat) t,Rat.mul_comm (-(l.a:Rat)) t]at c3 c4;clear m1 m2 b1 b2 d2 ha hb hc;refine Pi Tryz.func221 fun C=>?_
 repeat(first|(refine A1 ⟨?_⟩;intros)|refine W4 c1 ⟨?_⟩|refine W4 c2 ⟨?_⟩|refine W4 c3 ⟨?_⟩|refine W4 c4 ⟨?_⟩)
 exact G1
theorem EG {l:Li}{L:Nat}(h:l.le L) (hL:1≤L) (hU:L≤10000){p:Pq}(k:hp p 100000):Pu Tryz.prog 220 [lfl l,ppq p] (lit (.int .i64 (cX l p))):=by
 obtain⟨ha,hb,hc⟩:=h.hts hL;have hv:=vZ h hL k;have c1:=tF (l.a:Rat) l.b l.c p.1 p.2 om om om k.1 k.2;have c2:=iE (a6 l p) om;clear ha hb hc hv;refine Pi Tryz.func220 fun C=>?_
 exact Y2 c1 c2
section
variable {P:Program}{C:Ctx}{n:Nat}{F:Fr}{H:LH}{Q:Exit→Fr→LH→Prop}
theorem WdS {id:Nat}{l:List Oper}(ks:List Nat){b:Nat}{T:TypeId}{cs:List SV}(css:List (List SV)){Hc:LH}(hd:ac b T cs H Hc) (hm:P.follows .mixedOrders=true) (hchk:tC l.toArray ks=true)
  (h:Mk P C n l.toArray ks Hc (fun s=>[(b,T,(cs::css).getD s [])]) 0 0 l (fun Fe=>Q .normal Fe ((b,T,(cs::css).getD ks.length [])::Hc)) F):WP P C n (.region id l.toArray true) Q F H :=
 .perm hd.perm (WdM ks Hc (fun s=>[(b,T,(cs::css).getD s [])]) h rfl hm hchk)
theorem MkS {ops:Array Oper}{rs:List Nat}{Hc:LH}{E:Nat→LH}{i s:Nat}{l:List Oper}{K:Fr→Prop}{T T':TypeId}{sz by_:Nat}{z:List SV}{g:Bool} [hT:TY P T sz by_ z g]{x v:Operand}{b o:Nat}{sv:SV}{cs cs' ds:List SV}{ty:TypeId}{pos:String}{aft:Array Edge}
  (h:Mk P C n ops rs Hc E (i+1) (s+1) l K F) (hE:E s=[(b,T',cs)]:=by exact rfl) (hE':E (s+1)=[(b,T',cs')]:=by exact rfl) (hx:ev F x=lit (.pointer (some ⟨b,o,none⟩)):=by exact rfl)
  (hv:ev F v=sv:=by(first|exact Eq.refl (lit _)|exact Eq.refl (dg _)|exact Eq.refl (ag _)|exact Eq.refl (pt _)|exact Eq.refl (sl _ _)|exact Eq.refl (nsl _ _)|exact Eq.refl (tup _)|exact Eq.refl top|exact rfl)) (hco:CO sv ds:=by infer_instance)
  (hlen:Nat.beq ds.length sz=true:=by exact rfl) (hsp:spl cs o ds=cs':=by exact rfl) (hle:Nat.ble (o+sz) cs.length=true:=by exact rfl)
  (ho:ops[i]? = some ⟨none, .store T x v,ty,pos,aft,none⟩:=by exact rfl) (hr:rs[s]? = some i:=by exact rfl):Mk P C n ops rs Hc E i s (⟨none, .store T x v,ty,pos,aft,none⟩::l) K F :=
 MkR (sv:=top) (by rw [hE,hE'];exact TS.store ho hx hv hlen (an.here _) hsp hle) h hr
end
abbrev ivx (s:Spn):List SV:=[lit (.int .i64 (r0 s.lo)),lit (.int .i64 (r1 s.lo)),r2 s.lo,lit (.int .i64 (r0 s.hi)),lit (.int .i64 (r1 s.hi)),r2 s.hi,lit (.bool s.nl),lit (.bool s.nh)]
abbrev iv (s:Spn):SV:=ag (ivx s)
theorem EP:Pu Tryz.prog 219 [] (iv Spn.full):=by
 have e0:r0 (0:Rat)=0:=by decide +kernel
 have e1:r1 (0:Rat)=0:=by decide +kernel
 have e2:r2 (0:Rat)=lit (.pointer none):=if_pos (by decide +kernel);unfold iv ivx;rw [e0,e1,e2];refine Pi Tryz.func219 fun C=>?_
 exact Z2
theorem zi (s:Spn) (h:s.le 1000000):Pu Tryz.prog 177 [iv s] (lit (.bool (cH s))):=by
 have c1:=ko s.lo s.hi (by have:=h.1;omega) (by have:=h.2;omega);obtain⟨lo,hi,nl,nh⟩:=s;unfold cH;simp only at *;generalize(lo-hi).num.sign=z at *;clear h;cases nl
 ·cases nh
  ·by_cases hz:0≤z
   ·rw [decide_eq_true hz];refine Pi Tryz.func177 fun C=>?_
    exact Y1 c1
   ·rw [decide_eq_false hz];refine Pi Tryz.func177 fun C=>?_
    exact Y1 c1
  ·refine Pi Tryz.func177 fun C=>?_
   exact Y1 c1
 ·refine Pi Tryz.func177 fun C=>?_
  exact Y1 c1
theorem xh {v w:Spn}{n:Nat}(h:v.le n) (k:w.le n):(cg v w).le n:=by
 obtain⟨h1,h2⟩:=h;obtain⟨k1,k2⟩:=k;unfold cg rF rD;constructor
 ·simp only;split
  ·exact k1
  ·split
   ·exact h1
   ·split <;> assumption
 ·simp only;split
  ·exact k2
  ·split
   ·exact h2
   ·split <;> assumption
abbrev z8:List SV:=[lit (.int .i64 0),lit (.int .i64 0),lit (.pointer none),lit (.int .i64 0),lit (.int .i64 0),lit (.pointer none),lit (.bool false),lit (.bool false)]
theorem tK (v w:Spn) (h:v.le 1000000) (k:w.le 1000000):Pu Tryz.prog 133 [iv v,iv w] (Ab.tup [iv (cg v w),lit (.bool (!cH (cg v w)))]):=by
 have c1:=I2 v.lo w.lo h.1 k.1;have c2:=I1 v.hi w.hi h.2 k.2;have c3:=zi (cg v w) (xh h k);clear h k;generalize cH (cg v w)=bad at *;obtain⟨lo,hi,nl,nh⟩:=v;obtain⟨lo',hi',nl',nh'⟩:=w;unfold cg at *;simp only at *;generalize rF lo lo'=a at *;generalize rD hi hi'=b at *;refine Pi Tryz.func133 fun C=>?_
 repeat(first|(refine AS ⟨?_⟩;intros)|(refine O1 ⟨?_⟩;intros))
 rename_i b2 b3 b4 b6
 refine WP.viaB (fun F H=>LeF F (fm [(2,lit (.pointer (some ⟨b2,0,none⟩))),(3,lit (.pointer (some ⟨b3,0,none⟩))),(4,lit (.pointer (some ⟨b4,0,none⟩))),(6,lit (.pointer (some ⟨b6,0,none⟩)))])∧
  H=[(b6,179,ivx ⟨if nl then lo' else if nl' then lo else a,hi,nl&&nl',nh⟩),(b4,179,z8),(b3,179,ivx ⟨lo',hi',nl',nh'⟩),(b2,179,ivx ⟨lo,hi,nl,nh⟩)]) ?_ ?_
 ·clear c2 c3;cases nl
  ·cases nl'
   ·repeat(first|(refine AS ⟨?_⟩;intros)|(refine O1 ⟨?_⟩;intros)|(refine Wcx (c1) ?_)|(refine eQ (c1) ?_))
    exact⟨lfA,rfl⟩
   ·repeat(first|(refine AS ⟨?_⟩;intros)|(refine O1 ⟨?_⟩;intros)|(refine Wcx (c1) ?_)|(refine eQ (c1) ?_))
    exact⟨lfA,rfl⟩
  ·repeat(first|(refine AS ⟨?_⟩;intros)|(refine O1 ⟨?_⟩;intros))
   apply WdS [5,7] [ivx ⟨lo',hi,true,nh⟩,ivx ⟨lo',hi,nl',nh⟩] (ac.here _) kr (by decide +kernel);refine MkD 5 ?_;(repeat(first|(refine A1 ⟨?_⟩;intros)));refine vd ?_;refine MkS ?_;refine MkD 1 ?_;(repeat(first|(refine A1 ⟨?_⟩;intros)));refine vd ?_;refine MkS ?_;refine MkN ?_;(repeat(refine A1 ⟨?_⟩;intros));repeat(refine A1 ⟨?_⟩;intros)
   exact⟨lfA,rfl⟩
 ·rintro F H ⟨hF,rfl⟩;refine WP.le hF ?_;clear c1;generalize hu:(if nl=true then lo' else if nl'=true then lo else a)=u at *;generalize hn:(nl&&nl')=n at *;repeat(first|(refine AS ⟨?_⟩;intros)|(refine O1 ⟨?_⟩;intros))
  refine WP.viaB (fun F H=>LeF F (fm [(4,lit (.pointer (some ⟨b4,0,none⟩))),(6,lit (.pointer (some ⟨b6,0,none⟩)))])∧
   H=[(b6,179,ivx ⟨u,if nh then hi' else if nh' then hi else b,n,nh&&nh'⟩),(b4,179,z8),(b3,179,ivx ⟨lo',hi',nl',nh'⟩),(b2,179,ivx ⟨lo,hi,nl,nh⟩)]) ?_ ?_
  ·clear c3;cases nh
   ·cases nh'
    ·repeat(first|(refine AS ⟨?_⟩;intros)|(refine O1 ⟨?_⟩;intros)|(refine Wcx (c2) ?_)|(refine eQ (c2) ?_))
     exact⟨lfA,rfl⟩
    ·repeat(first|(refine AS ⟨?_⟩;intros)|(refine O1 ⟨?_⟩;intros)|(refine Wcx (c2) ?_)|(refine eQ (c2) ?_))
     exact⟨lfA,rfl⟩
   ·repeat(first|(refine AS ⟨?_⟩;intros)|(refine O1 ⟨?_⟩;intros))
    apply WdS [5,7] [ivx ⟨u,hi',n,true⟩,ivx ⟨u,hi',n,nh'⟩] (ac.here _) kr (by decide +kernel);refine MkD 5 ?_;(repeat(first|(refine A1 ⟨?_⟩;intros)));refine vd ?_;refine MkS ?_;refine MkD 1 ?_;(repeat(first|(refine A1 ⟨?_⟩;intros)));refine vd ?_;refine MkS ?_;refine MkN ?_;(repeat(refine A1 ⟨?_⟩;intros));repeat(refine A1 ⟨?_⟩;intros)
    exact⟨lfA,rfl⟩
  ·rintro F H ⟨hF,rfl⟩;refine WP.le hF ?_;repeat(first|(refine AS ⟨?_⟩;intros)|(refine O1 ⟨?_⟩;intros))
   apply WdS [4] [ivx ⟨u,if nh then hi' else if nh' then hi else b,n,nh&&nh'⟩] (ac.there _ (ac.here _)) kr (by decide +kernel);refine MkD 4 ?_;(repeat(first|(refine A1 ⟨?_⟩;intros)|refine W4 c3 ⟨?_⟩));refine vd ?_;refine MkS ?_;refine MkD 1 ?_;(repeat(first|(refine A1 ⟨?_⟩;intros)|refine W4 c3 ⟨?_⟩));refine vd ?_;refine MkN ?_;(repeat(refine A1 ⟨?_⟩;intros));exact G3
theorem xo (s:Spn) (h:s.le 100000):Pu Tryz.prog 222 [iv s] (fr (aR s)):=by
 obtain⟨h1,h2⟩:=h;have h1':=gb;have m1:=cU s.lo s.hi;have c0:=vH 1 om om;have c1:=uC s.hi 1 om om;have c2:=jU s.lo 1 om om;have c3:=jU s.lo s.hi om om;have c4:=Fi (s.lo+s.hi) om;have e0:r0 (0:Rat)=0:=by decide +kernel
 have e1:r1 (0:Rat)=0:=by decide +kernel
 have e2:r2 (0:Rat)=lit (.pointer none):=if_pos (by decide +kernel);obtain⟨lo,hi,nl,nh⟩:=s;unfold aR hZ;simp only at *;clear h1 h2 h1' m1;cases nl
 ·cases nh
  ·simp only [Bool.and_self,Bool.false_eq_true,if_false];refine Pi Tryz.func222 fun C=>?_
   repeat(first|(refine A1 ⟨?_⟩;intros)|refine W4 c0 ⟨?_⟩|refine W4 c3 ⟨?_⟩|refine W4 c4 ⟨?_⟩)
   exact G1
  ·simp only [Bool.and_true,Bool.false_eq_true,if_false,if_true];refine Pi Tryz.func222 fun C=>?_
   exact X2 c0 c2
 ·cases nh
  ·simp only [Bool.and_false,Bool.false_eq_true,if_false,if_true];refine Pi Tryz.func222 fun C=>?_
   exact X2 c0 c1
  ·simp only [Bool.and_self,if_true];unfold fr;rw [e0,e1,e2];refine Pi Tryz.func222 fun C=>?_
   exact Z2
abbrev frx (x:Rat):List SV:=[lit (.int .i64 (r0 x)),lit (.int .i64 (r1 x)),r2 x]
def kH (l:Li) (v:Spn) (m:Li):Spn×Bool :=
 if(slp l m).num.sign=0 then(v,decide (0<(a6 m (ay l)).num.sign))
 else(cg v (hlf (slp l m) (-(a6 m (ay l)/slp l m))),!cH (cg v (hlf (slp l m) (-(a6 m (ay l)/slp l m)))))
theorem zC (l:Li) (v:Spn) (m:Li):er l v m=if(kH l v m).2 then some (kH l v m).1 else none:=by
 unfold er kH;by_cases h:(slp l m).num.sign=0
 ·rw [if_pos h,if_pos h];by_cases k:0<(a6 m (ay l)).num.sign
  ·rw [if_pos k,decide_eq_true k];rfl
  ·rw [if_neg k,decide_eq_false k];rfl
 ·rw [if_neg h,if_neg h];cases cH (cg v (hlf (slp l m) (-(a6 m (ay l)/slp l m)))) <;> rfl
theorem jE:ht (0:Rat)≤1:=by have:=gt;omega
theorem B9 {l m:Li}{L:Nat}(hl:l.le L) (hm:m.le L) (h1:1≤L):ht (slp l m)≤7*L∧ht (a6 m (ay l))≤31*L∧ht (-(a6 m (ay l)/slp l m))≤40*L:=by
 obtain⟨a1,a2,a3⟩:=hl.hts h1;obtain⟨b1,b2,b3⟩:=hm.hts h1;have k1:=ax (m.a:Rat) l.b;have k2:=ax (m.b:Rat) l.a;have k3:=dX ((m.a:Rat)*l.b) (m.b*l.a);have k4:=vZ hm h1 (lO hl h1);have k5:=kg (a6 m (ay l)) (slp l m);have k6:ht (slp l m)≤7*L:=by unfold slp;omega
 rw [dc];exact⟨k6,om,om⟩
theorem EW {k u:Rat}{n:Nat}(h:ht u≤n) (h1:1≤n):(hlf k u).le n:=by
 have:=jE;unfold hlf;split
 ·exact⟨h,by simp only;omega⟩
 ·exact⟨by simp only;omega,h⟩
theorem vM {l m:Li}{v:Spn}{L:Nat}(hl:l.le L) (hm:m.le L) (h1:1≤L) (hv:v.le (50*L)):(kH l v m).1.le (50*L):=by
 obtain⟨_,_,k⟩:=B9 hl hm h1;unfold kH;split
 ·exact hv
 ·exact xh hv (EW om om)
theorem AI {l m:Li}{v:Spn}{L:Nat}(hl:l.le L) (hm:m.le L) (h1:1≤L) (hU:L≤1000) (hv:v.le (50*L)):Pu Tryz.prog 196 [lfl l,iv v,lfl m] (Ab.tup [iv (kH l v m).1,lit (.bool (kH l v m).2)]):=by
 obtain⟨a1,a2,a3⟩:=hl.hts h1;obtain⟨b1,b2,b3⟩:=hm.hts h1;obtain⟨k1,k2,k3⟩:=B9 hl hm h1;obtain⟨d1,d2⟩:=lO hl h1;have hz:=jE;have na:ht (-(l.a:Rat))≤L:=by rw [dc];exact a1
 have c1:=mf (m.a:Rat) m.b m.c;have c2:=q8 l (hl.gr om);have c3:=uN (m.a:Rat) m.b l.b (-(l.a:Rat)) om om om om;rw [show(m.a:Rat)*l.b+m.b * -(l.a:Rat)=slp l m by unfold slp;grind]at c3;have c4:=xj hl h1 om;have c5:=tF (m.a:Rat) m.b m.c (ay l).1 (ay l).2 om om om om om;rw [show(m.a:Rat)*(ay l).1+m.b*(ay l).2+m.c=a6 m (ay l)from rfl]at c5;have c6:=iE (slp l m) om;have c7:=iE (a6 m (ay l)) om;have c8:=AU (a6 m (ay l)) (slp l m) om om;have c9:=gX (a6 m (ay l)/slp l m) (by rw [←dc];omega);have hw:=EW (k:=slp l m) (u := -(a6 m (ay l)/slp l m)) (n:=1000000) om om;have c10:=tK v (hlf (slp l m) (-(a6 m (ay l)/slp l m))) ⟨by have:=hv.1;omega,by have:=hv.2;omega⟩ hw;have e0:r0 (0:Rat)=0:=by decide +kernel
 have e1:r1 (0:Rat)=0:=by decide +kernel
 have e2:r2 (0:Rat)=lit (.pointer none):=if_pos (by decide +kernel);unfold kH;clear a1 a2 a3 b1 b2 b3 k1 k2 k3 d1 d2 hz na hl hm hv hw;generalize hbad:cH (cg v (hlf (slp l m) (-(a6 m (ay l)/slp l m))))=bad at *;clear hbad;generalize hmt:cg v (hlf (slp l m) (-(a6 m (ay l)/slp l m)))=mt at *;clear hmt;unfold hlf at c10;generalize -(a6 m (ay l)/slp l m)=u at *;generalize a6 m (ay l)/slp l m=u' at *;generalize a6 m (ay l)=w at *;generalize slp l m=k at *;generalize k.num.sign=z at *;generalize w.num.sign=y at *;by_cases z0:z=0
 ·rw [if_pos z0];clear c8 c9 c10;refine Pi Tryz.func196 fun C=>?_
  repeat(first|(refine AS ⟨?_⟩;intros)|(refine O1 ⟨?_⟩;intros))
  refine WdL 11 2 ?_;repeat(first|(refine A1 ⟨?_⟩;intros)|refine W4 c1 ⟨?_⟩|refine W4 c2 ⟨?_⟩|refine W4 c3 ⟨?_⟩|refine W4 c4 ⟨?_⟩|refine W4 c5 ⟨?_⟩)
  refine dL2 fun b8 b9=>?_
  refine Gs (sv:=fr k) (cs':=frx k) rfl rfl rfl (by first|exact .here _|exact .there _ (.here _)) rfl rfl ?_ ?_
  ·(repeat(first|exact LOk.nil|refine Lsk ?_|refine Lcv ?_))
  refine Gs (sv:=fr w) (cs':=frx w) rfl rfl rfl (by first|exact .here _|exact .there _ (.here _)) rfl rfl ?_ ?_
  ·(repeat(first|exact LOk.nil|refine Lsk ?_|refine Lcv ?_))
  refine Gn ?_ ?_
  ·(repeat(first|exact LOk.nil|refine Lsk ?_|refine Lcv ?_))
  repeat(first|(refine AS ⟨?_⟩;intros)|(refine O1 ⟨?_⟩;intros)|(refine Wcx (c6) ?_)|(refine eQ (c6) ?_))
  apply WdS [4] [ivx v] (ac.there _ (ac.there _ (ac.here _))) kr (by decide +kernel);refine MkD 4 ?_;(repeat(first|(refine A1 ⟨?_⟩;intros)|refine W4 c7 ⟨?_⟩));refine vd ?_;refine MkS ?_;refine MkD 1 ?_;(repeat(first|(refine A1 ⟨?_⟩;intros)|refine W4 c7 ⟨?_⟩));refine vd ?_;refine MkN ?_;(repeat(refine A1 ⟨?_⟩;intros));exact G3
 ·rw [if_neg z0];by_cases z1:z=1
  ·rw [if_pos z1]at c10;unfold iv ivx at c10;rw [e0,e1,e2]at c10;refine Pi Tryz.func196 fun C=>?_
   repeat(first|(refine AS ⟨?_⟩;intros)|(refine O1 ⟨?_⟩;intros))
   refine WdL 11 2 ?_;repeat(first|(refine A1 ⟨?_⟩;intros)|refine W4 c1 ⟨?_⟩|refine W4 c2 ⟨?_⟩|refine W4 c3 ⟨?_⟩|refine W4 c4 ⟨?_⟩|refine W4 c5 ⟨?_⟩)
   refine dL2 fun b8 b9=>?_
   refine Gs (sv:=fr k) (cs':=frx k) rfl rfl rfl (by first|exact .here _|exact .there _ (.here _)) rfl rfl ?_ ?_
   ·(repeat(first|exact LOk.nil|refine Lsk ?_|refine Lcv ?_))
   refine Gs (sv:=fr w) (cs':=frx w) rfl rfl rfl (by first|exact .here _|exact .there _ (.here _)) rfl rfl ?_ ?_
   ·(repeat(first|exact LOk.nil|refine Lsk ?_|refine Lcv ?_))
   refine Gn ?_ ?_
   ·(repeat(first|exact LOk.nil|refine Lsk ?_|refine Lcv ?_))
   repeat(first|(refine AS ⟨?_⟩;intros)|(refine O1 ⟨?_⟩;intros)|(refine Wcx (c6) ?_)|(refine eQ (c6) ?_))
   repeat(first|(refine A1 ⟨?_⟩;intros)|refine W4 c8 ⟨?_⟩|refine W4 c9 ⟨?_⟩|refine W4 c10 ⟨?_⟩)
   exact G3
  ·rw [if_neg z1]at c10;unfold iv ivx at c10;rw [e0,e1,e2]at c10;refine Pi Tryz.func196 fun C=>?_
   repeat(first|(refine AS ⟨?_⟩;intros)|(refine O1 ⟨?_⟩;intros))
   refine WdL 11 2 ?_;repeat(first|(refine A1 ⟨?_⟩;intros)|refine W4 c1 ⟨?_⟩|refine W4 c2 ⟨?_⟩|refine W4 c3 ⟨?_⟩|refine W4 c4 ⟨?_⟩|refine W4 c5 ⟨?_⟩)
   refine dL2 fun b8 b9=>?_
   refine Gs (sv:=fr k) (cs':=frx k) rfl rfl rfl (by first|exact .here _|exact .there _ (.here _)) rfl rfl ?_ ?_
   ·(repeat(first|exact LOk.nil|refine Lsk ?_|refine Lcv ?_))
   refine Gs (sv:=fr w) (cs':=frx w) rfl rfl rfl (by first|exact .here _|exact .there _ (.here _)) rfl rfl ?_ ?_
   ·(repeat(first|exact LOk.nil|refine Lsk ?_|refine Lcv ?_))
   refine Gn ?_ ?_
   ·(repeat(first|exact LOk.nil|refine Lsk ?_|refine Lcv ?_))
   repeat(first|(refine AS ⟨?_⟩;intros)|(refine O1 ⟨?_⟩;intros)|(refine Wcx (c6) ?_)|(refine eQ (c6) ?_))
   repeat(first|(refine A1 ⟨?_⟩;intros)|refine W4 c8 ⟨?_⟩|refine W4 c9 ⟨?_⟩|refine W4 c10 ⟨?_⟩)
   exact G3
theorem elt {α:Type}{f:α→List SV}{n:Nat}(hf:∀a,(f a).length=n) (hn:0<n){l:List α}{k:Nat}(hk:k<l.length):∃a,l[k]? = some a∧a∈l∧(((l.map f).flatten).drop (k*n)).take n=f a∧(l.map f).flatten≠[] :=
 have h:=List.getElem?_eq_getElem hk
 ⟨l[k],h,List.mem_of_getElem? h,eA hf h,eN hf om (fun e=>by rw [e]at hk;simp at hk)⟩
theorem HU {α:Type}{f:α→List SV}{n:Nat}(hf:∀a,(f a).length=n) (out:List α) (x:α) (j:Nat) (hj:j≤out.length):((out.map f).flatten).length=out.length*n∧(((out.map f).flatten).drop (j*n)).length=(out.length-j)*n∧(((out.map f).flatten).take (j*n)).length=j*n∧
  (f x++((out.map f).flatten).drop (j*n)).length=(1+(out.length-j))*n∧((out.map f).flatten).take (j*n)++(f x++((out.map f).flatten).drop (j*n))=((out.take j++x::out.drop j).map f).flatten∧j+(1+(out.length-j))=(out.take j++x::out.drop j).length:=by
 have hfl:=cG hf out;have hdl:(((out.map f).flatten).drop (j*n)).length=(out.length-j)*n:=by rw [List.length_drop,hfl,Nat.sub_mul]
 refine⟨hfl,hdl,?_,?_,oL hf out x j,?_⟩
 ·have:=Nat.mul_le_mul_right n hj;rw [List.length_take,hfl];omega
 ·rw [List.length_append,hdl,hf,Nat.add_mul,Nat.one_mul]
 ·rw [List.length_append,List.length_cons,List.length_take,List.length_drop];omega
section
variable {α:Type}{lt:α→α→Bool}{out:List α}{x o:α}{j:Nat}
theorem AK (hj:j=fY lt out x):xr lt out x=out.take j++x::out.drop j:=by unfold xr;rw [←hj]
theorem qa [DecidableEq α] (hj:j=fY lt out x) (ho:out[j]? = some o) (e:o=x):ga lt out x=out:=by unfold ga;rw [←hj,if_pos (by rw [ho,e])]
theorem qe [DecidableEq α] (hj:j=fY lt out x) (ho:out[j]? = some o) (e:¬o=x):ga lt out x=out.take j++x::out.drop j:=by
 unfold ga;rw [←hj,if_neg (by rw [ho];exact fun h=>e (Option.some.inj h))];exact AK hj
theorem nI [DecidableEq α] (hj:j=out.length) (h:j≤fY lt out x):ga lt out x=out.take j++x::out.drop j:=by
 have hp:=lC lt out x;have he:j=fY lt out x:=by omega
 unfold ga;rw [←he,if_neg (by rw [List.getElem?_eq_none om];intro h;cases h)];exact AK he
end
theorem i5 {α:Type}{l:List α}{k:Nat}{a:α}(h:l[k]? = some a):l.drop k=a::l.drop (k+1):=by
 obtain⟨h1,h2⟩:=List.getElem?_eq_some_iff.1 h;rw [List.drop_eq_getElem_cons h1,h2]
end Go.Ab
