/- Texts laid one behind the other: Gm, Cvx, Ex, TapeB, Tree, RTree. -/
import Derived.Test.YtbcojehfealiaaaGreatDoorB17
set_option linter.all false
namespace Go.Ab
open Go.Proofs
variable [Base]
abbrev Li.sm (l:Li):Prop:=l.ok∧l.le 1
abbrev hp (p:Pq) (n:Nat):Prop:=ht p.1≤n∧ht p.2≤n
theorem Li.sm.ht {l:Li}(h:l.sm):ht (l.a:Rat)≤1∧ht (l.b:Rat)≤1∧ht (l.c:Rat)≤1:=by
 have ha:=dI l.a h.2.a;have hb:=dI l.b h.2.b;have hc:=dI l.c h.2.c;omega
theorem iJ (x y:Rat):Ab.ht (x/y)≤Ab.ht x+Ab.ht y+2:=by
 rw [Rat.div_def];have:=ae x y⁻¹;have:=kh y;omega
def oA (p q:Pq):Rat:=p.1*q.1+p.2*q.2
def a9 (p q:Pq):Rat:=p.1*q.2-p.2*q.1
def dirL (l:Li):Pq:=((l.b:Rat),-(l.a:Rat))
def a8 (l:Li) (p:Pq):Rat:=(l.a:Rat)*p.1+(l.b:Rat)*p.2+(l.c:Rat)
def cW (l:Li) (p:Pq):Int:=(a8 l p).num.sign
def bO (p:Pq) (k:Rat) (v:Pq):Pq:=(p.1+k*v.1,p.2+k*v.2)
def aD (l:Li):Pq:=(l.bf*l.a,l.bf*l.b)
def atL (l:Li) (t:Rat):Pq:=bO (aD l) t (dirL l)
def bo (l:Li) (p:Pq):Rat:=oA p (dirL l)/oA (dirL l) (dirL l)
def bH (l m:Li):Rat:=(l.a:Rat)*m.b-m.a*l.b
def aY (l m:Li):Pq:=(((l.b:Rat)*m.c-m.b*l.c)/bH l m,((m.a:Rat)*l.c-l.a*m.c)/bH l m)
def rK (l m:Li):Option Pq:=if bH l m=0 then none else some (aY l m)
def kz (l m:Li):Int:=if(l.a + -m.a).sign≠0 then(l.a + -m.a).sign else if(l.b + -m.b).sign≠0 then(l.b + -m.b).sign else(l.c + -m.c).sign
def IR (l:Li):Bool:=decide (l.a<0∨l.a=0∧l.b<0)
def gt (l:Li):Li:=if IR l then l.neg else l
def j6 (v:Pq):Int:=if v.1=0∧v.2=0 then 0 else if 0<v.2∨v.2=0∧0<v.1 then 1 else 2
def mw (u v:Pq):Int:=if j6 u≠j6 v then(if j6 u<j6 v then -1 else 1)else -(a9 u v).num.sign
def lM (a b c:Pq):Int:=(a9 (b.1-a.1,b.2-a.2) (c.1-a.1,c.2-a.2)).num.sign
theorem dC {l:Li}(h:l.sm):hp (dirL l) 1:=by
 obtain⟨h1,h2,_⟩:=h.ht;exact⟨h2,by show Ab.ht (-(l.a:Rat))≤1;rw [ck];exact h1⟩
theorem qq {p q:Pq}{n m:Nat}(h:hp p n) (k:hp q m):Ab.ht (oA p q)≤2*n+2*m+3:=by
 have:=ae p.1 q.1;have:=ae p.2 q.2;have:=aI (p.1*q.1) (p.2*q.2);unfold oA;omega
theorem lV {p q:Pq}{n m:Nat}(h:hp p n) (k:hp q m):Ab.ht (a9 p q)≤2*n+2*m+3:=by
 have:=ae p.1 q.2;have:=ae p.2 q.1;have:=cI (p.1*q.2) (p.2*q.1);unfold a9;omega
theorem uB {l:Li}{p:Pq}{n:Nat}(h:l.sm) (k:hp p n):Ab.ht (a8 l p)≤2*n+7:=by
 obtain⟨h1,h2,h3⟩:=h.ht;have:=ae (l.a:Rat) p.1;have:=ae (l.b:Rat) p.2;have:=aI ((l.a:Rat)*p.1) ((l.b:Rat)*p.2);have:=aI ((l.a:Rat)*p.1+(l.b:Rat)*p.2) (l.c:Rat);unfold a8;omega
theorem oL {p v:Pq}{k:Rat}{n m j:Nat}(h:hp p n) (hk:Ab.ht k≤j) (hv:hp v m):hp (bO p k v) (n+j+m+2):=by
 have:=ae k v.1;have:=ae k v.2;have:=aI p.1 (k*v.1);have:=aI p.2 (k*v.2);unfold bO;constructor <;> simp only <;> omega
theorem oJ {l:Li}(h:l.sm):hp (aD l) 12:=by
 obtain⟨h1,h2,h3⟩:=h.ht;have:=Li.bf_ht h.2;have:=ae l.bf (l.a:Rat);have:=ae l.bf (l.b:Rat);unfold aD;constructor <;> simp only <;> omega
theorem Gh {l:Li}{t:Rat}{n:Nat}(h:l.sm) (k:Ab.ht t≤n):hp (atL l t) (n+15):=by
 have:=oL (oJ h) k (dC h);unfold atL;exact⟨om,om⟩
theorem k8 {l:Li}{p:Pq}{n:Nat}(h:l.sm) (k:hp p n):Ab.ht (bo l p)≤2*n+14:=by
 have h1:=qq k (dC h);have h2:=qq (dC h) (dC h);have:=iJ (oA p (dirL l)) (oA (dirL l) (dirL l));unfold bo;omega
theorem Bk {l m:Li}(h:l.sm) (k:m.sm):Ab.ht (bH l m)≤7:=by
 obtain⟨h1,h2,h3⟩:=h.ht;obtain⟨k1,k2,k3⟩:=k.ht;have:=ae (l.a:Rat) m.b;have:=ae (m.a:Rat) l.b;have:=cI ((l.a:Rat)*m.b) (m.a*l.b);unfold bH;omega
theorem kN {l m:Li}(h:l.sm) (k:m.sm):hp (aY l m) 16:=by
 have hd:=Bk h k;obtain⟨h1,h2,h3⟩:=h.ht;obtain⟨k1,k2,k3⟩:=k.ht;have:=ae (l.b:Rat) m.c;have:=ae (m.b:Rat) l.c;have:=cI ((l.b:Rat)*m.c) (m.b*l.c);have:=ae (m.a:Rat) l.c;have:=ae (l.a:Rat) m.c;have:=cI ((m.a:Rat)*l.c) (l.a*m.c);have:=iJ ((l.b:Rat)*m.c-m.b*l.c) (bH l m);have:=iJ ((m.a:Rat)*l.c-l.a*m.c) (bH l m);unfold aY;constructor <;> simp only <;> omega
theorem Li.sm.neg {l:Li}(h:l.sm):l.neg.sm:=by
 obtain⟨h1,h2⟩:=h;refine⟨⟨?_,?_⟩,?_,?_,?_⟩
 ·show Nat.gcd (Nat.gcd (-l.a).natAbs (-l.b).natAbs) (-l.c).natAbs=1
  rw [Int.natAbs_neg,Int.natAbs_neg,Int.natAbs_neg];exact h1.1
 ·rcases h1.2 with k|k
  ·left;show -l.a≠0;omega
  ·right;show -l.b≠0;omega
 ·show il (-l.a)≤1;rw [cH];exact h2.a
 ·show il (-l.b)≤1;rw [cH];exact h2.b
 ·show il (-l.c)≤1;rw [cH];exact h2.c
theorem dS {l m:Li}:kz l m=0↔l=m:=by
 unfold kz;obtain⟨a,b,c⟩:=l;obtain⟨d,e,f⟩:=m;simp only [Li.mk.injEq];by_cases h1:(a + -d).sign=0
 ·rw [if_neg (fun h=>h h1)];have:=Int.sign_eq_zero_iff_zero.1 h1;by_cases h2:(b + -e).sign=0
  ·rw [if_neg (fun h=>h h2)];have:=Int.sign_eq_zero_iff_zero.1 h2;rw [Int.sign_eq_zero_iff_zero];omega
  ·rw [if_pos h2];have:b + -e≠0:=fun k=>h2 (Int.sign_eq_zero_iff_zero.2 k)
   rw [Int.sign_eq_zero_iff_zero];omega
 ·rw [if_pos h1];have:a + -d≠0:=fun k=>h1 (Int.sign_eq_zero_iff_zero.2 k)
  rw [Int.sign_eq_zero_iff_zero];omega
instance:DecidableEq Li:=fun l m=>decidable_of_iff (kz l m=0) dS
theorem bB {x:Rat}:x.num.sign=0↔x=0:=by rw [Int.sign_eq_zero_iff_zero];exact Rat.num_eq_zero
section
variable {α:Type}
def gh (lt:α→α→Bool) (out:List α) (x:α):Nat:=(out.takeWhile fun o=>lt o x).length
def xB (lt:α→α→Bool) (out:List α) (x:α):List α:=out.take (gh lt out x)++x::out.drop (gh lt out x)
def gq [DecidableEq α] (lt:α→α→Bool) (out:List α) (x:α):List α:=if out[gh lt out x]? = some x then out else xB lt out x
theorem lI (lt:α→α→Bool) (out:List α) (x:α):gh lt out x≤out.length:=(List.takeWhile_sublist _).length_le
theorem lH {lt:α→α→Bool}{out:List α}{x o:α}{j:Nat}(hj:j≤gh lt out x) (ho:out[j]? = some o):(lt o x=true→j+1≤gh lt out x)∧(lt o x=false→j=gh lt out x):=by
 constructor
 ·intro h;by_cases he:j=gh lt out x
  ·unfold gh at he;rw [he]at ho;have:=qa ho;rw [h]at this;cases this
  ·omega
 ·intro h;by_cases he:j<gh lt out x
  ·have:=Dz ho he;rw [h]at this;cases this
  ·omega
theorem Fu {lt:α→α→Bool}{out:List α}{x y:α}:y∈xB lt out x↔y=x∨y∈out:=by
 unfold xB;have e:y∈out↔y∈out.take (gh lt out x)∨y∈out.drop (gh lt out x):=by rw [←List.mem_append,List.take_append_drop]
 rw [List.mem_append,List.mem_cons,e];constructor
 ·rintro (h|h|h)
  ·exact .inr (.inl h)
  ·exact .inl h
  ·exact .inr (.inr h)
 ·rintro (h|h|h)
  ·exact .inr (.inl h)
  ·exact .inl h
  ·exact .inr (.inr h)
theorem Fv (lt:α→α→Bool) (out:List α) (x:α):(xB lt out x).length=out.length+1:=by
 have:=lI lt out x;unfold xB;rw [List.length_append,List.length_cons,List.length_take,List.length_drop];omega
theorem jL [DecidableEq α]{lt:α→α→Bool}{out:List α}{x y:α}:y∈gq lt out x↔y=x∨y∈out:=by
 unfold gq;split
 ·rename_i h;constructor
  ·exact .inr
  ·rintro (e|e)
   ·rw [e];exact List.mem_of_getElem? h
   ·exact e
 ·exact Fu
theorem jM [DecidableEq α] (lt:α→α→Bool) (out:List α) (x:α):(gq lt out x).length≤out.length+1:=by
 unfold gq;split
 ·omega
 ·rw [Fv];omega
theorem u7 {β:Type}{f:List β→α→List β}{g:α→β}(h:∀out x y,y∈f out x↔y=g x∨y∈out):∀(l:List α) (out:List β) (y:β),y∈l.foldl f out↔(∃x∈l,y=g x)∨y∈out
 | [],out,y=>by simp
 |a::l,out,y=>by
  rw [List.foldl_cons,u7 h l,h];simp only [List.mem_cons,exists_eq_or_imp];constructor
  ·rintro (h|h|h)
   ·exact .inl (.inr h)
   ·exact .inl (.inl h)
   ·exact .inr h
  ·rintro ((h|h)|h)
   ·exact .inr (.inl h)
   ·exact .inl h
   ·exact .inr (.inr h)
theorem u9 {β:Type}{f:List β→α→List β}(h:∀out x,(f out x).length≤out.length+1):∀(l:List α) (out:List β),(l.foldl f out).length≤out.length+l.length
 | [],out=>by simp
 |a::l,out=>by
  have:=u9 h l (f out a);have:=h out a;rw [List.foldl_cons,List.length_cons];omega
theorem km {β:Type}{f:β→α→β}{l:List α}{k:Nat}{a:α}{b:β}(h:l[k]? = some a):(l.take (k+1)).foldl f b=f ((l.take k).foldl f b) a:=by
 rw [dM h,List.foldl_append];rfl
end
abbrev rlt (x y:Rat):Bool:=decide ((x-y).num.sign<0)
abbrev llt (l m:Li):Bool:=decide (kz l m<0)
def pu (l:List Li):List Li:=l.foldl (fun out x=>gq llt out (gt x)) []
theorem FR {l:List Li}{y:Li}:y∈pu l↔∃x∈l,y=gt x:=by
 unfold pu;rw [u7 (f:=fun out x=>gq llt out (gt x)) (g:=gt) (fun out x y=>jL)];simp
theorem FS (l:List Li):(pu l).length≤l.length:=by
 have:=u9 (f:=fun out x=>gq llt out (gt x)) (fun out x=>jM llt out (gt x)) l [];unfold pu;simpa using this
structure Spn where
 lo:Rat
 hi:Rat
 nl:Bool
 nh:Bool
abbrev Spn.full:Spn:=⟨0,0,true,true⟩
abbrev Spn.le (s:Spn) (n:Nat):Prop:=ht s.lo≤n∧ht s.hi≤n
def D6 (s:Spn) (t:Rat):Int :=
 let a:Int:=if s.nl then 1 else(t-s.lo).num.sign
 let b:Int:=if s.nh then -1 else(t-s.hi).num.sign
 if 0<a∧b<0 then 2 else if(a=0∧b≤0)∨(b=0∧0≤a)then 1 else 0
def pD:List Spn→Rat→Int
 | [],_=>0
 |s::l,t=>if D6 s t=0 then pD l t else D6 s t
abbrev inL (l:List Spn) (t:Rat):Bool:=decide (pD l t=2)
def gU (out:List Rat) (s:Spn):List Rat :=
 let o1:=if s.nl then out else gq rlt out s.lo
 if s.nh then o1 else gq rlt o1 s.hi
def cL (l:List Spn):List Rat:=l.foldl gU []
def i8 (x y:Rat):Rat:=(x+y)/2
def dP:List Rat→List Rat
 | []=>[0]
 |c::cs=>(c-1)::(List.zipWith i8 (c::cs) cs++[(c::cs).getLast (by simp)+1])
def opB (op:Int) (x y:Bool):Bool:=if op=2 then x&&y else if op=3 then x && !y else if op=4 then x != y else x||y
theorem qZ {x:Rat}:0<x.num↔0<x:=by
 have h1:0≤x.num↔0≤x:=Rat.num_nonneg;have h2:x.num=0↔x=0:=Rat.num_eq_zero;constructor
 ·intro h;have:=h1.1 om;have:x≠0:=fun e=>by have:=h2.2 e;omega
  grind
 ·intro h;have:=h1.2 (Rat.le_of_lt h);have:x.num≠0:=fun e=>by have:=h2.1 e;grind
  omega
theorem wF {s:Rat}(h:0<s):s*(s.den:Rat)=((s.num.toNat:Nat):Rat):=by
 have h0:=qZ.2 h
 have e:((s.num.toNat:Nat):Rat)=((s.num:Int):Rat):=by
  rw [←Rat.intCast_natCast,Int.toNat_of_nonneg om]
 rw [e];have h2:((s.den:Nat):Rat)≠0:=fun e=>s.den_nz (Rat.natCast_inj.1 (e.trans rfl))
 have h3:s=(s.num:Rat)/(s.den:Nat):=(Rat.mkRat_self s).symm.trans (Rat.mkRat_eq_div ..);grind
theorem fy {α:Type}(A B:α→Rat):∀(c:List α),(∀j∈c,0<A j)→∃e:Rat,0<e∧∀j∈c,∀t,0<t→t≤e→0<A j+t*B j
 | [],_=>⟨1,by decide,fun j h=>by cases h⟩
 |a::c,h=>by
  obtain⟨e,he,hc⟩:=fy A B c (fun j hj=>h j (Mc hj));have ha:=h a Ms;by_cases hb:0≤B a
  ·refine⟨e,he,fun j hj t ht hte=>?_⟩;rcases List.mem_cons.1 hj with rfl|hj
   ·have:=Rat.mul_nonneg (Rat.le_of_lt ht) hb;grind
   ·exact hc j hj t ht hte
  ·have hb':0 < - B a:=by grind
   obtain⟨u,hu⟩:∃u:Rat,u*(2 * - B a)=A a:=⟨A a/(2 * - B a),by grind⟩
   have hu0:0<u:=by
    rcases Rat.le_total (a:=u) (b:=0)with k|k
    ·have:=Rat.mul_nonneg (show 0≤-u by grind) (Rat.le_of_lt hb');grind
    ·grind
   have key:∀j∈a::c,∀t,0<t→t≤e→t≤u→0<A j+t*B j:=fun j hj t ht h1 h2=>by
    rcases List.mem_cons.1 hj with rfl|hj
    ·have:=Rat.mul_nonneg (show 0≤u-t by grind) (Rat.le_of_lt hb');grind
    ·exact hc j hj t ht h1
   rcases Rat.le_total (a:=e) (b:=u)with k|k
   ·exact⟨e,he,fun j hj t ht h1=>key j hj t ht h1 (by grind)⟩
   ·exact⟨u,hu0,fun j hj t ht h1=>key j hj t ht (by grind) h1⟩
theorem sG {α:Type}(f:α→Rat):∀(l:List α),l≠[]→∃a∈l,∀b∈l,f a≤f b
 | [],h=>absurd rfl h
 | [a],_=>⟨a,Ms,fun b hb=>by rw [List.mem_singleton]at hb;subst hb;exact Rat.le_refl⟩
 |a::b::l,_=>by
  obtain⟨m,hm,hmin⟩:=sG f (b::l) (by simp);rcases Rat.le_total (a:=(f a)) (b:=(f m))with k|k
  ·refine⟨a,Ms,fun x hx=>?_⟩;rcases List.mem_cons.1 hx with rfl|hx
   ·exact Rat.le_refl
   ·have:=hmin x hx;grind
  ·refine⟨m,Mc hm,fun x hx=>?_⟩;rcases List.mem_cons.1 hx with rfl|hx
   ·exact k
   ·exact hmin x hx
theorem Li.prop_eq {l m:Li}(hl:l.ok) (hm:m.ok){s t:Nat}(hs:0<s) (ha:s*l.a=t*m.a) (hb:s*l.b=t*m.b) (hc:s*l.c=t*m.c):l=m:=by
 have h1:s=t:=by
  have e:=congrArg Int.natAbs ha;have f:=congrArg Int.natAbs hb;have g:=congrArg Int.natAbs hc;rw [Int.natAbs_mul,Int.natAbs_mul,Int.natAbs_natCast,Int.natAbs_natCast]at e f g;have k1:Nat.gcd (Nat.gcd (s*l.a.natAbs) (s*l.b.natAbs)) (s*l.c.natAbs)=s:=by rw [Nat.gcd_mul_left,Nat.gcd_mul_left,hl.1,Nat.mul_one]
  have k2:Nat.gcd (Nat.gcd (t*m.a.natAbs) (t*m.b.natAbs)) (t*m.c.natAbs)=t:=by rw [Nat.gcd_mul_left,Nat.gcd_mul_left,hm.1,Nat.mul_one]
  rw [e,f,g]at k1;omega
 subst h1;have hz:(s:Int)≠0:=by omega
 obtain⟨a,b,c⟩:=l;obtain⟨d,e,f⟩:=m;simp only at ha hb hc;rw [Int.mul_eq_mul_left_iff hz]at ha hb hc;rw [ha,hb,hc]
theorem Li.prop_eqR {l m:Li}(hl:l.ok) (hm:m.ok){s t:Rat}(hs:0<s) (ht:0<t) (ha:s*l.a=t*m.a) (hb:s*l.b=t*m.b) (hc:s*l.c=t*m.c):l=m:=by
 have q1:=wF hs;have q2:=wF ht
 have key:∀x y:Int,s*x=t*y→((s.num.toNat*t.den:Nat):Int)*x=((t.num.toNat*s.den:Nat):Int)*y:=fun x y h=>by
  refine Rat.intCast_inj.1 ?_;rw [Rat.intCast_mul,Rat.intCast_mul,Rat.intCast_natCast,Rat.intCast_natCast,Rat.natCast_mul,Rat.natCast_mul,←q1,←q2];grind
 have h0:=qZ.2 hs;exact Li.prop_eq hl hm (s:=s.num.toNat*t.den) (t:=t.num.toNat*s.den) (Nat.mul_pos om t.den_pos) (key _ _ ha) (key _ _ hb) (key _ _ hc)
theorem Aq (x:Rat):0≤x*x:=by
 rcases Rat.le_total (a:=x) (b:=0)with h|h
 ·have:=Rat.mul_nonneg (show 0≤-x by grind) (show 0≤-x by grind);grind
 ·exact Rat.mul_nonneg h h
theorem JP (x y z:Rat):x*(y*z)=z*(y*x):=by grind
theorem jk {n x y:Rat}(h:n≠0) (k:n*x=n*y):x=y:=by
 have:n*(x-y)=0:=by grind
 rcases Rat.mul_eq_zero.1 this with e|e
 ·exact absurd e h
 ·grind
theorem Ea {u1 u2 ja jb ma mb A B bj bm:Rat}(n0:u1*u1+u2*u2≠0) (d1:ja*u1+jb*u2=A) (d2:ma*u1+mb*u2=B) (w1:bj=ja * -u2+jb*u1) (w2:bm=ma * -u2+mb*u1) (e1:B*bj=A*bm) :
  B*ja=A*ma∧B*jb=A*mb:=by
 have p1:(u1*u1+u2*u2)*ja=u1*A-u2*bj:=by rw [←d1,w1];grind
 have p2:(u1*u1+u2*u2)*ma=u1*B-u2*bm:=by rw [←d2,w2];grind
 have p3:(u1*u1+u2*u2)*jb=u2*A+u1*bj:=by rw [←d1,w1];grind
 have p4:(u1*u1+u2*u2)*mb=u2*B+u1*bm:=by rw [←d2,w2];grind
 clear d1 d2 w1 w2;generalize u1*u1+u2*u2=n at *;constructor
 ·refine jk n0 ?_;have:n*(B*ja)=B*(n*ja):=by grind
  rw [this,p1];have:n*(A*ma)=A*(n*ma):=by grind
  rw [this,p2];have:B*(u1*A-u2*bj)=B*(u1*A)-u2*(B*bj):=by grind
  rw [this,e1];grind
 ·refine jk n0 ?_;have:n*(B*jb)=B*(n*jb):=by grind
  rw [this,p3];have:n*(A*mb)=A*(n*mb):=by grind
  rw [this,p4];have:B*(u2*A+u1*bj)=B*(u2*A)+u1*(B*bj):=by grind
  rw [this,e1];grind
theorem LN {j m:Li}{A B:Rat}{r:Pq}(ea:B*j.a=A*m.a) (eb:B*j.b=A*m.b) (h:a8 j r=0) (k:a8 m r=0):B*j.c=A*m.c:=by
 unfold a8 at h k;have h1:(j.c:Rat) = -(j.a*r.1+j.b*r.2):=by grind
 have h2:(m.c:Rat) = -(m.a*r.1+m.b*r.2):=by grind
 rw [h1,h2];have:B * -(j.a*r.1+j.b*r.2) = -((B*j.a)*r.1+(B*j.b)*r.2):=by grind
 rw [this,ea,eb];grind
theorem Eb {s Q P:Rat}(h:s*(Q-P)=Q) (hq:0<Q) (hp:P≤0):0<s∧s≤1:=by
 constructor
 ·rcases Rat.le_total (a:=s) (b:=0)with k|k
  ·have:=Rat.mul_nonneg (show 0≤-s by grind) (show 0≤Q-P by grind);grind
  ·by_cases e:s=0
   ·rw [e]at h;grind
   ·grind
 ·rcases Rat.le_total (a:=s) (b:=1)with k|k
  ·exact k
  ·by_cases e:s=1
   ·grind
   ·have:=Rat.mul_pos (show 0<s-1 by grind) (show 0<Q-P by grind);grind
theorem yO {s Q P:Rat}(h0:0<s) (h1:s≤1) (hq:0<Q) (hp:0<P):0<Q+s*(P-Q):=by
 have a:=Rat.mul_nonneg (show 0≤1-s by grind) (Rat.le_of_lt hq);have b:=Rat.mul_pos h0 hp;grind
theorem L3 {s t Q P:Rat}(h:t*(Q-P)=Q) (hq:0<Q) (hp:P≤0) (hs:s≤t):0≤Q+s*(P-Q):=by
 have a:=Rat.mul_nonneg (show 0≤t-s by grind) (show 0≤Q-P by grind);grind
theorem Ap {s Q P:Rat}(h:s*(Q-P)=Q):Q+s*(P-Q)=0:=by
 have:Q+s*(P-Q)=Q-s*(Q-P):=by grind
 rw [this,h];grind
theorem JO {P Q:Rat}(hq:0<Q) (hp:P≤0):Q/(Q-P)*(Q-P)=Q:=Rat.div_mul_cancel (by grind)
theorem H7 {P Q:Rat}(hq:0<Q):P/Q*Q=P:=Rat.div_mul_cancel (by grind)
theorem gX (j:Li) (p q:Pq) (s:Rat):a8 j (q.1+s*(p.1-q.1),q.2+s*(p.2-q.2))=a8 j q+s*(a8 j p-a8 j q):=by unfold a8;grind
theorem wj (j:Li) (q r:Pq) (x y:Rat):a8 j (r.1+x*(q.1-r.1)-y*(q.2-r.2),r.2+x*(q.2-r.2)+y*(q.1-r.1))=a8 j r+x*(a8 j q-a8 j r)+y*((j.a:Rat) * -(q.2-r.2)+(j.b:Rat)*(q.1-r.1)):=by unfold a8;simp only;grind
theorem A5 (j:Li) (q r:Pq) (h:a8 j r=0):(j.a:Rat)*(q.1-r.1)+j.b*(q.2-r.2)=a8 j q:=by unfold a8 at *;grind
theorem Jf {x y:Rat}(h:x*x+y*y=0):x=0∧y=0:=by
 have a1:=Aq x;have a2:=Aq y;have b1:x*x=0:=by grind
 have b2:y*y=0:=by grind
 exact⟨by rcases Rat.mul_eq_zero.1 b1 with h|h <;> exact h,by rcases Rat.mul_eq_zero.1 b2 with h|h <;> exact h⟩
theorem LK {e g Q B:Rat}(h:g*Q=B):0+e*g*(Q-0) + -e*B=0:=by rw [←h];grind
theorem LL {e g k Q B:Rat}(he:0<e) (hq:0<Q) (hk:k<g) (h:k*Q=B):0<0+e*g*(Q-0) + -e*B:=by
 have:=Rat.mul_pos (Rat.mul_pos he hq) (show 0<g-k by grind);rw [←h];grind
theorem LM {e g Q V B:Rat}(h:0<V+e*(g*(Q-V)-B)):0<V+e*g*(Q-V) + -e*B:=by
 have:V+e*g*(Q-V) + -e*B=V+e*(g*(Q-V)-B):=by grind
 rw [this];exact h
theorem Jg {x y:Rat}(h:x≤y) (k:x≠y):x<y:=by grind
theorem JN {x y:Rat}(h : -x≤-y):y≤x:=by grind
theorem yz {j m:Li}(hj:j.ok) (hm:m.ok){q r:Pq}(q1:0<a8 j q) (q2:0<a8 m q) (h0:a8 j r=0) (hmr:a8 m r=0){g B C:Rat}(g1:g*a8 j q=B) (g2:g*a8 m q=C)
  (w1:B=(j.a:Rat) * -(q.2-r.2)+(j.b:Rat)*(q.1-r.1)) (w2:C=(m.a:Rat) * -(q.2-r.2)+(m.b:Rat)*(q.1-r.1)):j=m:=by
 have d1:=A5 j q r h0;have d2:=A5 m q r hmr
 have n0:(q.1-r.1)*(q.1-r.1)+(q.2-r.2)*(q.2-r.2)≠0:=fun h=>by
  obtain⟨a,b⟩:=Jf h;rw [a,b,Rat.mul_zero,Rat.mul_zero]at d2;rw [←d2]at q2;exact absurd q2 (by rw [Rat.add_zero];decide)
 have e1:a8 m q*B=a8 j q*C:=by rw [←g1,←g2];exact JP _ _ _
 obtain⟨ea,eb⟩:=Ea n0 d1 d2 w1 w2 e1;exact Li.prop_eqR hj hm q2 q1 ea eb (LN ea eb h0 hmr)
theorem cvx {c:List Li}(hok:∀l∈c,l.ok){q p:Pq}(hq:∀l∈c,0<a8 l q){k:Li}(hk:k∈c) (hp:a8 k p≤0) :
  ∃m∈c,a8 m p≤0∧∃r,a8 m r=0∧∀j∈c,j≠m→0<a8 j r:=by
 obtain⟨S,hS⟩:∃S:Li→Rat,∀j∈c,a8 j p≤0→S j*(a8 j q-a8 j p)=a8 j q :=
  ⟨fun j=>a8 j q/(a8 j q-a8 j p),fun j hj h=>JO (hq j hj) h⟩
 obtain⟨k,hk',hmin⟩:=sG S (c.filter fun j=>decide (a8 j p≤0)) (fun e=>by
  have:k∈c.filter fun j=>decide (a8 j p≤0):=List.mem_filter.2 ⟨hk,decide_eq_true hp⟩
  rw [e]at this;cases this)
 rw [List.mem_filter,decide_eq_true_eq]at hk';obtain⟨hk,hp⟩:=hk';have hs:=hS k hk hp;have hqk:=hq k hk;have hmin:∀j∈c,a8 j p≤0→S k≤S j:=fun j hj h=>hmin j (List.mem_filter.2 ⟨hj,decide_eq_true h⟩)
 generalize S k=s at *;obtain⟨hs0,hs1⟩:=Eb hs hqk hp;obtain⟨r,hr⟩:∃r:Pq,r=(q.1+s*(p.1-q.1),q.2+s*(p.2-q.2)):=⟨_,rfl⟩
 have hv:∀j,a8 j r=a8 j q+s*(a8 j p-a8 j q):=fun j=>by rw [hr];exact gX j p q s
 have hnn:∀j∈c,0≤a8 j r:=fun j hj=>by
  rw [hv];by_cases h:a8 j p≤0
  ·exact L3 (hS j hj h) (hq j hj) h (hmin j hj h)
  ·exact Rat.le_of_lt (yO hs0 hs1 (hq j hj) (Rat.not_le.1 h))
 have hz:∀j∈c,a8 j r=0→a8 j p≤0:=fun j hj h=>by
  by_cases h':a8 j p≤0
  ·exact h'
  ·have:=yO hs0 hs1 (hq j hj) (Rat.not_le.1 h');rw [←hv,h]at this;exact absurd this (by decide)
 have hkr:a8 k r=0:=by rw [hv];exact Ap hs
 clear hS hmin hs0 hs1 hs hv hr;obtain⟨B,hB⟩:∃B:Li→Rat,∀j,B j=(j.a:Rat) * -(q.2-r.2)+(j.b:Rat)*(q.1-r.1):=⟨_,fun _=>rfl⟩
 obtain⟨G,hG⟩:∃G:Li→Rat,∀j∈c,G j*a8 j q=B j:=⟨fun j=>B j/a8 j q,fun j hj=>H7 (hq j hj)⟩
 obtain⟨m,hm',hmax⟩:=sG (fun j => - G j) (c.filter fun j=>decide (a8 j r=0)) (fun e=>by
  have:k∈c.filter fun j=>decide (a8 j r=0):=List.mem_filter.2 ⟨hk,decide_eq_true hkr⟩
  rw [e]at this;cases this)
 rw [List.mem_filter,decide_eq_true_eq]at hm';obtain⟨hm,hmr⟩:=hm';have hmax:∀j∈c,a8 j r=0→G j≤G m:=fun j hj h=>JN (hmax j (List.mem_filter.2 ⟨hj,decide_eq_true h⟩))
 obtain⟨e,he,hsm⟩:=fy (fun j=>a8 j r) (fun j=>G m*(a8 j q-a8 j r)-B j) (c.filter fun j=>decide (0<a8 j r)) (fun j hj=>by
  rw [List.mem_filter,decide_eq_true_eq]at hj;exact hj.2)
 refine⟨m,hm,hz m hm hmr,_,(wj m q r (e*G m) (-e)).trans ?_,fun j hj hne=>?_⟩
 ·rw [hmr,←hB];exact LK (hG m hm)
 ·rw [wj j q r (e*G m) (-e),←hB];by_cases h0:a8 j r=0
  ·rw [h0];by_cases heq:G j=G m
   ·refine absurd ?_ hne;exact yz (hok j hj) (hok m hm) (hq j hj) (hq m hm) h0 hmr (heq▸hG j hj) (hG m hm) (hB j) (hB m)
   ·exact LL he (hq j hj) (Jg (hmax j hj h0) heq) (hG j hj)
  ·exact LM (hsm j (List.mem_filter.2 ⟨hj,decide_eq_true (Jg (hnn j hj) (fun e=>h0 e.symm))⟩) e he Rat.le_refl)
def Inn (c:List Li) (q:Pq):Prop:=∀l∈c,0<a8 l q
def Edg (c:List Li) (m:Li):Prop:=∃r,a8 m r=0∧∀j∈c,j≠m→0<a8 j r
theorem cl (j m:Li) (r:Pq) (e:Rat):a8 j (r.1+e*m.a,r.2+e*m.b)=a8 j r+e*((j.a:Rat)*m.a+j.b*m.b):=by unfold a8;grind
theorem cC {m:Li}(h:m.ok):0<(m.a:Rat)*m.a+m.b*m.b:=by
 have a1:=Aq (m.a:Rat);have a2:=Aq (m.b:Rat)
 have:(m.a:Rat)*m.a+m.b*m.b≠0:=fun e=>by
  obtain⟨a,b⟩:=Jf e;have ha:m.a=0:=Rat.intCast_eq_zero_iff.1 a;have hb:m.b=0:=Rat.intCast_eq_zero_iff.1 b;rcases h.2 with h|h
  ·exact h ha
  ·exact h hb
 grind
theorem Edg.inn {c:List Li}{m:Li}(hm:m.ok) (h:Edg c m):∃q,Inn c q∧0<a8 m q:=by
 obtain⟨r,hr,hj⟩:=h
 obtain⟨e,he,hs⟩:=fy (fun j=>a8 j r) (fun j=>(j.a:Rat)*m.a+j.b*m.b) (c.filter fun j=>decide (j≠m)) (fun j h=>by
  rw [List.mem_filter,decide_eq_true_eq]at h;exact hj j h.1 h.2)
 have hme:0<a8 m (r.1+e*m.a,r.2+e*m.b):=by
  rw [cl,hr,Rat.zero_add];exact Rat.mul_pos he (cC hm)
 refine⟨(r.1+e*m.a,r.2+e*m.b),fun j h=>?_,hme⟩;by_cases hjm:j=m
 ·rw [hjm];exact hme
 ·rw [cl];exact hs j (List.mem_filter.2 ⟨h,decide_eq_true hjm⟩) e he Rat.le_refl
theorem Inn.kept {c d:List Li}(hok:∀l∈c,l.ok){q p:Pq}(hq:Inn c q) (hd:∀m∈c,Edg c m→m∈d) (hp:Inn d p):Inn c p:=fun k hk=>by
 by_cases h:a8 k p≤0
 ·obtain⟨m,hm,h1,h2⟩:=cvx hok hq hk h;exact absurd (hp m (hd m hm h2)) (Rat.not_lt.2 h1)
 ·exact Rat.not_le.1 h
theorem u5 {l:Li}(h:l.ok):∃p,a8 l p=0 :=
 ⟨(-(l.c:Rat)*l.a/((l.a:Rat)*l.a+l.b*l.b),-(l.c:Rat)*l.b/((l.a:Rat)*l.a+l.b*l.b)),by
  have:=cC h;unfold a8;simp only;grind⟩
theorem Inn.edge {c:List Li}(hok:∀l∈c,l.ok){q:Pq}(hq:Inn c q) (hc:c≠[]):∃m∈c,Edg c m:=by
 obtain⟨k,hk⟩:=List.exists_mem_of_ne_nil c hc;obtain⟨p,hp⟩:=u5 (hok k hk);obtain⟨m,hm,_,h⟩:=cvx hok hq hk (show a8 k p≤0 by rw [hp];exact Rat.le_refl);exact⟨m,hm,h⟩
section
variable {P:Program}{F:Fr}{H:LH}{ty:TypeId}
end
theorem qY (x y u v:Rat) (hx:ht x≤3000000) (hy:ht y≤3000000) (hu:ht u≤3000000) (hv:ht v≤3000000):Pu Tryz.prog 138 [rp x y,rp u v] (lit (.bool (decide (x=u∧y=v)))):=by
 have c1:=gT x u hx hu;have c2:=gT y v hy hv;have e1:=ez (x:=x) (y:=u);have e2:=ez (x:=y) (y:=v);generalize(x-u).num.sign=s at *;generalize(y-v).num.sign=t at *;clear hx hy hu hv;by_cases h1:x=u
 ·have hs:=e1.2 h1;by_cases h2:y=v
  ·have ht:=e2.2 h2;rw [decide_eq_true ⟨h1,h2⟩];clear e1 e2;subst hs ht;refine Pi Tryz.func138 fun C=>?_
   exact Y2 c1 c2
  ·have ht:t≠0:=fun e=>h2 (e2.1 e)
   rw [decide_eq_false (fun h=>h2 h.2)];clear e1 e2;subst hs;refine Pi Tryz.func138 fun C=>?_
   exact Y2 c1 c2
 ·have hs:s≠0:=fun e=>h1 (e1.1 e)
  rw [decide_eq_false (fun h=>h1 h.1)];clear e1 e2;refine Pi Tryz.func138 fun C=>?_
  exact Y2 c1 c2
abbrev intP:SV:=ex fun p:{p:Int×Int // p.1.natAbs≤4∧p.2.natAbs≤4}=>rp (p.1.1:Rat) (p.1.2:Rat)
abbrev intV:SV:=ex fun p:{p:Int×Int // (p.1.natAbs≤4∧p.2.natAbs≤4)∧(p.1≠0∨p.2≠0)}=>rp (p.1.1:Rat) (p.1.2:Rat)
theorem A7 (zs:List Int) (hz:zs.length≤400):PuT 117 zs [] intP:=by
 refine PuM.intro Tryz.func117 rfl kr fun C b=>?_
 repeat(refine A1 ⟨?_⟩;intros)
 refine Wtx (eF zs hz 9 om om) mmA fun x=>?_
 obtain⟨x,hx⟩:=x;simp only [];repeat(refine A1 ⟨?_⟩;intros)
 refine Wtx (eF zs hz 9 om om) mmA fun y=>?_
 obtain⟨y,hy⟩:=y;simp only [];repeat(first|(refine A1 ⟨?_⟩;intros)|refine W4 (kC ((x:Int)-4) ((y:Int)-4) om om om om) ⟨?_⟩)
 exact fh () _ (aJ (RV.cellA rfl mmA rfl rfl) (Le.ex ⟨((x:Int)-4,(y:Int)-4),by simp only;omega,by simp only;omega⟩ Lr)) mmA (LeL.refl _)
theorem xE (z:Int) (h:z.natAbs≤1000):ht (z:Rat)≤1:=vK z om
theorem LR:LeL [ag [lit (.bool false),lit (.slice none 0 0),lit (.slice none 0 0),lit (.bool false),lit (.slice none 0 0),lit (.slice none 0 0)]] [rp 0 0] :=
 ⟨Le.ag (by repeat(first|exact trivial|refine⟨?_,?_⟩|exact Le.refl _|exact mu|exact mv)),trivial⟩
theorem jK {z:Int}:((z:Rat)=0)↔z=0:=by constructor <;> intro h <;> exact_mod_cast h
theorem J7 (zs:List Int) (hz:zs.length≤400):PuT 120 zs [] intV:=by
 refine PuM.intro Tryz.func120 rfl kr fun C b=>?_
 repeat(refine A1 ⟨?_⟩;intros)
 refine Wtx (A7 zs hz) mmA fun p=>?_
 obtain⟨⟨x,y⟩,hx,hy⟩:=p;simp only at hx hy;simp only [];have h0:=fw;have hx':=xE x om;have hy':=xE y om;have c1:=(qY x y 0 0 om om om om).arg (l':=[rp x y,ag [lit (.bool false),lit (.slice none 0 0),lit (.slice none 0 0),lit (.bool false),lit (.slice none 0 0),lit (.slice none 0 0)]]) ⟨Le.refl _,LR⟩;have c2:=kC 1 0 om om om om;by_cases h:x=0∧y=0
 ·rw [decide_eq_true (show(x:Rat)=0∧(y:Rat)=0 from⟨jK.2 h.1,jK.2 h.2⟩)]at c1;clear h hx' hy' h0;repeat(first|(refine A1 ⟨?_⟩;intros)|refine W4 c1 ⟨?_⟩|refine W4 c2 ⟨?_⟩)
  exact fh () _ (aJ (RV.cellA rfl mmA rfl rfl) (Le.ex ⟨(1,0),by decide,by decide⟩ Lr)) mmA (LeL.refl _)
 ·rw [decide_eq_false (show¬((x:Rat)=0∧(y:Rat)=0)from fun e=>h ⟨jK.1 e.1,jK.1 e.2⟩)]at c1;have hv:x≠0∨y≠0:=by omega
  clear h hx' hy' h0;repeat(first|(refine A1 ⟨?_⟩;intros)|refine W4 c1 ⟨?_⟩|refine W4 c2 ⟨?_⟩)
  exact fh () _ (aJ (RV.cellA rfl mmA rfl rfl) (Le.ex ⟨(x,y),⟨hx,hy⟩,hv⟩ Lr)) mmA (LeL.refl _)
theorem AN {a b:Int}(ha:a.natAbs≤4) (hb:b.natAbs≤4):(a*b).natAbs≤16:=by rw [Int.natAbs_mul];exact Nat.mul_le_mul ha hb
inductive Tr where
 |leaf (i:Bool)
 |node (l:Li) (a b:Tr)
abbrev lfc (a b c:Rat):List SV:=[lit (.int .i64 (r0 a)),lit (.int .i64 (r1 a)),r2 a,lit (.int .i64 (r0 b)),lit (.int .i64 (r1 b)),r2 b,lit (.int .i64 (r0 c)),lit (.int .i64 (r1 c)),r2 c]
def bc:Tr→List SV
 | .leaf i=>[lit (.int .i64 0),lit (.int .i64 0),lit (.pointer none),lit (.int .i64 0),lit (.int .i64 0),lit (.pointer none),lit (.int .i64 0),lit (.int .i64 0),lit (.pointer none),lit (.pointer none),lit (.pointer none),lit (.bool i)]
 | .node l a b=>[lit (.int .i64 (r0 l.a)),lit (.int .i64 (r1 l.a)),r2 l.a,lit (.int .i64 (r0 l.b)),lit (.int .i64 (r1 l.b)),r2 l.b,lit (.int .i64 (r0 l.c)),lit (.int .i64 (r1 l.c)),r2 l.c,pt (bc a),pt (bc b),lit (.bool false)]
theorem oI (i:Bool):bc (.leaf i)=[lit (.int .i64 0),lit (.int .i64 0),lit (.pointer none),lit (.int .i64 0),lit (.int .i64 0),lit (.pointer none),lit (.int .i64 0),lit (.int .i64 0),lit (.pointer none),lit (.pointer none),lit (.pointer none),lit (.bool i)]:=rfl
theorem mg (l:Li) (a b:Tr):bc (.node l a b)=[lit (.int .i64 (r0 l.a)),lit (.int .i64 (r1 l.a)),r2 l.a,lit (.int .i64 (r0 l.b)),lit (.int .i64 (r1 l.b)),r2 l.b,lit (.int .i64 (r0 l.c)),lit (.int .i64 (r1 l.c)),r2 l.c,pt (bc a),pt (bc b),lit (.bool false)]:=rfl
abbrev bt (t:Tr):SV:=pt (bc t)
theorem PuN.toPt {P:Program}{f:FuncId}{T:TypeId}{args cs:List SV}(h:PuN P f T args cs):Pu P f args (pt cs):=by
 unfold Pu
 exact⟨h.1,fun m w vs hm ha=>(h.2 m w vs hm ha).mono fun _ w' ⟨b,m',e,hb,h1,h2,⟨arr,h3,h4⟩,h5⟩=>by
  have hle:m'.le (fun x=>if x=b then w'.heap[b]? else m' x):=fun x o hx=>by
   show(if x=b then w'.heap[b]? else m' x)=some o
   rw [if_neg (fun e=>by rw [e]at hx;rw [h2]at hx;cases hx)];exact hx
  refine⟨_,(fun x=>if x=b then w'.heap[b]? else m' x),e,yS (arr:=arr) (T:=T) _ (by show(if b=b then w'.heap[b]? else m' b)=_;rw [if_pos rfl];exact h3) (h4.mono hle),⟨fun x o hx=>?_,Mem.le_trans h1.base hle⟩,⟨Mem.le_trans h5.le hle,fun x hx hnx=>?_,h5.os,h5.tape,h5.output,h5.size,h5.block⟩⟩
  ·by_cases hxb:x=b
   ·subst hxb;simp only [if_true]at hx;exact hx
   ·simp only [if_neg hxb]at hx;exact h1 x o hx
  ·show(if x=b then w'.heap[b]? else m' x)=_
   rw [if_neg om];exact h5.old x hx hnx⟩
theorem vC (i:Bool):Pu Tryz.prog 144 [lit (.bool i)] (bt (.leaf i)):=by
 unfold bt;rw [oI];apply PuN.toPt (T:=170);refine PuN.intro Tryz.func144 rfl kr fun C=>?_
 repeat(refine A1 ⟨?_⟩;intros)
 exact se _ _ (aJ (RV.tmp rfl) Lr) List.mem_cons_self (LeL.refl _)
theorem iZ (i:Bool):Pu Tryz.prog 90 [bt (.leaf i)] (lit (.bool true)):=by
 unfold bt;rw [oI];refine Pi Tryz.func90 fun C=>?_
 exact Z1
theorem iY (l:Li) (a b:Tr):Pu Tryz.prog 90 [bt (.node l a b)] (lit (.bool false)):=by
 unfold bt;rw [mg];refine Pi Tryz.func90 fun C=>?_
 exact Z1
theorem Bs (l:Li) (a b:Tr):Pu Tryz.prog 91 [lf l.a l.b l.c,bt a,bt b] (bt (.node l a b)):=by
 unfold bt;rw [mg];apply PuN.toPt (T:=170);refine PuN.intro Tryz.func91 rfl kr fun C=>?_
 repeat(refine A1 ⟨?_⟩;intros)
 exact se _ _ (aJ (RV.tmp rfl) Lr) List.mem_cons_self (LeL.refl _)
def Tr.size:Tr→Nat
 | .leaf _=>0
 | .node _ a b=>1+a.size+b.size
theorem Tr.size_node (l:Li) (a b:Tr):(Tr.node l a b).size=1+a.size+b.size:=rfl
def Tr.root (k:Nat):Tr→Int
 | .leaf true => -2
 | .leaf false => -1
 | .node _ _ _=>k
def nd (l:Li) (i j:Int):List SV:=[lit (.bool (decide (l.a<0))),nat l.a.natAbs,lit (.bool (decide (l.b<0))),nat l.b.natAbs,lit (.bool (decide (l.c<0))),nat l.c.natAbs,lit (.int .i64 i),lit (.int .i64 j)]
def Tr.rows (k:Nat):Tr→List SV
 | .leaf _=>[]
 | .node l a b=>nd l (a.root (k+1)) (b.root (k+1+a.size))++a.rows (k+1)++b.rows (k+1+a.size)
theorem Tr.rows_len:∀(t:Tr) (k:Nat),(t.rows k).length=t.size*8
 | .leaf _,_=>rfl
 | .node _ a b,k=>by simp only [Tr.rows,Tr.size,List.length_append,rows_len a,rows_len b,nd,List.length_cons,List.length_nil];omega
def Tr.all (p:Li→Prop):Tr→Prop
 | .leaf _=>True
 | .node l a b=>p l∧a.all p∧b.all p
instance tyF:TY Tryz.prog 171 1 8 [lit .nilFunc] false:=⟨⟨[.nilFunc],kr,rfl,rfl,rfl⟩,kr⟩
theorem wz {cs rest:List SV}{k:Nat}{x0 x1 x2 x3 x4 x5 x6 x7 v:SV}(h:cs.length=k):spl (cs++(x0::x1::x2::x3::x4::x5::x6::x7::rest)) (0+k+6) [v]=cs++(x0::x1::x2::x3::x4::x5::v::x7::rest):=by
 subst h;simp only [spl,Nat.zero_add];rw [List.set_append_right _ _ om,Nat.add_sub_cancel_left];rfl
theorem wy {cs rest:List SV}{k:Nat}{x0 x1 x2 x3 x4 x5 x6 x7 v:SV}(h:cs.length=k):spl (cs++(x0::x1::x2::x3::x4::x5::x6::x7::rest)) (0+k+7) [v]=cs++(x0::x1::x2::x3::x4::x5::x6::v::rest):=by
 subst h;simp only [spl,Nat.zero_add];rw [List.set_append_right _ _ om,Nat.add_sub_cancel_left];rfl
theorem qy {cs rest:List SV}{k j:Nat}{x0 x1 x2 x3 x4 x5 x6 x7:SV}(h:cs.length=k) (hj:j<8):Nat.ble (0+k+j+1) (cs++(x0::x1::x2::x3::x4::x5::x6::x7::rest)).length=true:=by
 rw [Nat.ble_eq,List.length_append];simp only [List.length_cons];omega
theorem IW:∀(t:Tr) (_:t.all fun l=>l.le 1000000) (out fn n0:Nat) (cs:List SV) (s:SV) (Hs:LH) (_:Own 145 8 n0 cs s Hs) (_:n0+t.size≤1000000) (r0':Int),
  PuH Tryz.prog 93 [bt t,lit (.pointer (some ⟨out,0,none⟩)),lit (.pointer (some ⟨fn,0,none⟩))]
   ((out,47,[lit (.int .i64 r0'),s])::(fn,171,[fnv 93 [] [lit (.pointer (some ⟨out,0,none⟩)),lit (.pointer (some ⟨fn,0,none⟩))]])::Hs)
   (fun r H=>r=lit (.int .i64 (t.root n0))∧∃s' H',Own 145 8 (n0+t.size) (cs++t.rows n0) s' H'∧
    H=(out,47,[lit (.int .i64 r0'),s'])::(fn,171,[fnv 93 [] [lit (.pointer (some ⟨out,0,none⟩)),lit (.pointer (some ⟨fn,0,none⟩))]])::H') noX:=by
 intro t;induction t with
 |leaf i =>
  intro _ out fn n0 cs s Hs hown _ r0';have c1:=iZ i
  have hfin:Own 145 8 (n0+(Tr.leaf i).size) (cs++(Tr.leaf i).rows n0) s Hs:=by
   simpa [Tr.size,Tr.rows] using hown
  unfold bt at *;rw [oI]at *;cases i with
  |true =>
   refine PuH.intro Tryz.func93 rfl kr fun C hC=>?_
   repeat(first|(refine A1 ⟨?_⟩;intros)|refine W4 c1 ⟨?_⟩)
   exact eN _ _ (aJ (RV.tmp rfl) Lr) Sr ⟨rfl,_,_,hfin,rfl⟩
  |false =>
   refine PuH.intro Tryz.func93 rfl kr fun C hC=>?_
   repeat(first|(refine A1 ⟨?_⟩;intros)|refine W4 c1 ⟨?_⟩)
   exact eN _ _ (aJ (RV.tmp rfl) Lr) Sr ⟨rfl,_,_,hfin,rfl⟩
 |node l a b iha ihb =>
  intro hall out fn n0 cs s Hs hown hsz r0';obtain⟨hl,hla,hlb⟩:=hall;have c1:=iY l a b;have c2:=Iu l hl;haveI:=hown.co
  rw [Tr.size_node]at hsz;unfold bt at *;rw [mg]at *;refine PuH.intro Tryz.func93 rfl kr fun C hC=>?_
  repeat(first|(refine A1 ⟨?_⟩;intros)|refine W4 c1 ⟨?_⟩)
  refine Wo (aE hown rfl) ?_;repeat(first|(refine AS ⟨?_⟩;intros)|(refine O1 ⟨?_⟩;intros)|(refine Wcx (c1) ?_)|(refine dH (c1) ?_))
  refine WdN 9 ?_;repeat(first|(refine A1 ⟨?_⟩;intros)|refine W4 c2 ⟨?_⟩)
  simp only [List.drop_succ_cons,List.drop_zero];refine Dj hown om (fun s1 H1 o1=>?_);have o1':=o1;obtain⟨_,⟨h1,_⟩|⟨b1,k1,_,_,rfl,rfl⟩⟩:=o1
  ·omega
  simp only [List.cons_append,List.nil_append];repeat(first|(refine AS ⟨?_⟩;intros)|(refine O1 ⟨?_⟩;intros)|(refine Wcx (c2) ?_)|(refine dH (c2) ?_))
  refine WdN 5 ?_;repeat(refine A1 ⟨?_⟩;intros)
  simp only [List.drop_succ_cons,List.drop_zero];refine WvT (iha hla out fn (n0+1) _ _ _ o1' om r0') ?_;rintro _ _ ⟨rfl,s2,H2,o2,rfl⟩;have o2':=o2;obtain⟨_,⟨h2,_⟩|⟨b2,k2,_,_,rfl,rfl⟩⟩:=o2
  ·omega
  simp only [List.cons_append,List.nil_append];repeat(first|(refine AS ⟨?_⟩;intros)|(refine O1 ⟨?_⟩;intros)|(refine Wcx (c2) ?_)|(refine dH (c2) ?_))
  refine WdN 5 ?_;repeat(refine A1 ⟨?_⟩;intros)
  simp only [List.drop_succ_cons,List.drop_zero];refine WvT (ihb hlb out fn (n0+1+a.size) _ _ _ o2' om r0') ?_;rintro _ _ ⟨rfl,s3,H3,o3,rfl⟩;simp only [List.cons_append,List.nil_append];obtain⟨hlen,⟨h0,_⟩|⟨b3,c3,hc3,hm3,rfl,rfl⟩⟩:=o3
  ·omega
  have hcl:=hown.1;simp only [List.append_assoc,List.cons_append,List.nil_append];repeat(first|(refine AS ⟨?_⟩;intros)|(refine O1 ⟨?_⟩;intros)|(refine Wcx (c2) ?_)|(refine dH (c2) ?_))
  refine WdL 8 3 ?_;repeat(refine A1 ⟨?_⟩;intros)
  refine dL0 ?_;refine Gv ?_ ?_
  ·(repeat(first|exact LOk.nil|refine Lsk ?_|refine Lcv ?_))
  refine Gv ?_ ?_
  ·(repeat(first|exact LOk.nil|refine Lsk ?_|refine Lcv ?_))
  refine Gs (b:=b3) (o:=0+n0*8+6) (sv:=lit (.int .i64 (a.root (n0+1)))) rfl rfl rfl (.there _ (.there _ (.there _ (.here _)))) (wz hcl) (qy hcl (by decide)) ?_ ?_
  ·(repeat(first|exact LOk.nil|refine Lsk ?_|refine Lcv ?_))
  refine Gn ?_ ?_
  ·(repeat(first|exact LOk.nil|refine Lsk ?_|refine Lcv ?_))
  repeat(refine A1 ⟨?_⟩;intros)
  refine WPL.store (b:=b3) (o:=0+n0*8+7) (sv:=lit (.int .i64 (b.root (n0+1+a.size)))) rfl rfl rfl (.there _ (.there _ (.there _ (.here _)))) (wy hcl) (qy hcl (by decide)) ?_;repeat(refine A1 ⟨?_⟩;intros)
  refine eN _ _ (aJ (RV.tmp rfl) Lr) (Sc Sr) ⟨rfl,_,_,⟨?_, .inr ⟨b3,c3,?_,hm3,?_,?_⟩⟩,rfl⟩
  ·rw [List.length_append,hown.1,Tr.rows_len,Nat.add_mul]
  ·rw [Tr.size_node];omega
  ·rw [show n0+(Tr.node l a b).size=n0+1+a.size+b.size from by rw [Tr.size_node];omega]
  ·rw [show n0+(Tr.node l a b).size=n0+1+a.size+b.size from by rw [Tr.size_node];omega];simp only [Tr.rows,nd,List.append_assoc,List.cons_append,List.nil_append]
theorem az.repl {m:Mem}{x y:SV}{c2:List SV}(h:∀v,x.p m v→y.p m v):∀{c1:List SV}{l:List Value},az m (c1++x::c2) l→az m (c1++y::c2) l
 | [],[],k=>k.elim
 | [],_::_,k=>⟨⟨h _ k.1.1,k.1.2⟩,k.2⟩
 |_::_,[],k=>k.elim
 |_::_,_::_,k=>⟨k.1,az.repl h k.2⟩
theorem St.pubC {C:Ctx}{n:Nat}{F:Fr}{H H1 H':LH}{a:Act}{w:World}{b o:Nat}{T To:TypeId}{cs c1 c2:List SV}{v:Value}{s':SV}(hs:St C n F H a w) (hdel:ak b T cs H H1)
  (hu:ay o To (c1++lit v::c2) (c1++s'::c2) H1 H') (hsv:∀(m:Mem) (arr:Array Value),m b=some (.cells arr T (0,0))→az m cs arr.toList→s'.p m v):St C n F H' a w:=by
 obtain⟨hdef,hn,m,h1,h2,h3,h4,h5⟩:=hs;obtain⟨hmb,arr,hb,hall⟩:=h2.2 _ hdel.mem
 have hle:m.le (fun x=>if x=b then w.heap[b]? else m x):=fun x o hx=>by
  show(if x=b then w.heap[b]? else m x)=some o
  rw [if_neg (fun e=>by rw [e]at hx;rw [hmb]at hx;cases hx)];exact hx
 have hk:=hdel.keys h2.1;have hval:s'.p (fun x=>if x=b then w.heap[b]? else m x) v:=hsv _ arr (by show(if b=b then w.heap[b]? else m b)=_;rw [if_pos rfl];exact hb) (hall.mono hle)
 refine⟨hdef,hn,(fun x=>if x=b then w.heap[b]? else m x),⟨fun x o hx=>?_,Mem.le_trans h1.base hle⟩,⟨hu.keys▸hk.1,fun e he=>?_⟩,⟨Mem.le_trans h3.le hle,fun x hx hnx=>?_,h3.os,h3.tape,h3.output,h3.size,h3.block⟩,
  fun e he=>?_,fun t=>(F t).mono hle (h5 t)⟩
 ·by_cases hxb:x=b
  ·subst hxb;simp only [if_true]at hx;exact hx
  ·simp only [if_neg hxb]at hx;exact h1 x o hx
 ·rcases hu.mem' hk.1 e he with rfl|⟨he',hne⟩
  ·obtain⟨q1,arr',q2,q3⟩:=h2.2 _ (hdel.sub _ hu.mem);refine⟨?_,arr',q2,(q3.mono hle).repl fun u hu'=>?_⟩
   ·show(if o=b then w.heap[b]? else m o)=none
    rw [if_neg (hk.2 _ hu.mem)];exact q1
   ·rw [aq]at hu';subst hu';exact hval
  ·obtain⟨q1,arr',q2,q3⟩:=h2.2 e (hdel.sub e he');exact⟨by show(if e.1=b then w.heap[b]? else m e.1)=none;rw [if_neg (hk.2 e he')];exact q1,arr',q2,q3.mono hle⟩
 ·have hxb:x≠b:=fun e=>by
   subst e;rcases h4 _ hdel.mem with h|h
   ·exact hnx h
   ·exact absurd hx (Nat.not_lt.2 h)
  show(if x=b then w.heap[b]? else m x)=_
  rw [if_neg hxb];exact h3.old x hx hnx
 ·have:e.1∈H'.map (·.1):=List.mem_map.2 ⟨e,he,rfl⟩;rw [hu.keys]at this;obtain⟨e',he',hk'⟩:=List.mem_map.1 this;exact hk'▸h4 e' (hdel.sub e' he')
theorem WPL.pubC {P:Program}{C:Ctx}{n:Nat}{F:Fr}{H H1 H':LH}{ops:Array Oper}{K:Fr→LH→Prop}{l:List Oper}{b o:Nat}{T To:TypeId}{cs c1 c2:List SV}{v:Value}{s':SV}(hdel:ak b T cs H H1)
  (hu:ay o To (c1++lit v::c2) (c1++s'::c2) H1 H') (hsv:∀(m:Mem) (arr:Array Value),m b=some (.cells arr T (0,0))→az m cs arr.toList→s'.p m v) (k:WPL P C n ops l K F H'):WPL P C n ops l K F H:=by
 unfold WPL at *;exact fun a w hs=>k a w (hs.pubC hdel hu hsv)
abbrev tq (t:Tr):SV:=ag [lit (.int .i64 (t.root 0)),sl (t.rows 0) t.size]
theorem uT {m:Mem}{arr:Array Value}{b:Nat}{T:TypeId}{cs:List SV}{j n c:Nat}(hm:m b=some (.cells arr T (0,0))) (ha:az m (cs++List.replicate j top) arr.toList) (h1:n≤c) (h2:c≤maxLen):(sl cs n).p m (.slice (some ⟨b,0,none⟩) n c):=by
 refine f4 h1 h2 (.inr ⟨b,0,rfl,arr,T,(0,0),hm,?_⟩);rw [List.drop_zero];exact ha.split.1
theorem GN (t:Tr) (hall:t.all fun l=>l.le 1000000) (hsz:t.size≤1000000):Pu Tryz.prog 41 [bt t] (tq t):=by
 have c:=fun out fn=>IW t hall out fn 0 [] _ [] (Own.nil 145 8) om 0
 refine Pi Tryz.func41 fun C=>?_
 repeat(refine A1 ⟨?_⟩;intros)
 rename_i b1 b2 b3;refine Ss ?_;refine Ws (sv:=fnv 93 [] [lit (.pointer (some ⟨b2,0,none⟩)),lit (.pointer (some ⟨b3,0,none⟩))]) ?_;repeat(refine A1 ⟨?_⟩;intros)
 refine WvT (c _ _) ?_;rintro _ _ ⟨rfl,s',H',ho,rfl⟩;simp only [List.cons_append,List.nil_append,Nat.zero_add]at ho⊢;obtain⟨hlen,⟨h0,rfl,rfl⟩|⟨b,cc,h1,h2,rfl,rfl⟩⟩:=ho
 ·have hr:t.rows 0=[]:=List.eq_nil_of_length_eq_zero (by rw [hlen,h0])
  have hle:Le (lit (.slice none 0 0)) (sl (t.rows 0) t.size):=fun m v hv=>by
   rw [aq]at hv;subst hv;rw [hr,h0];exact f4 (Nat.le_refl _) (by decide) (.inl rfl)
  repeat(refine A1 ⟨?_⟩;intros)
  exact aS (aJ (RV.cellA rfl List.mem_cons_self rfl rfl) (Le.ag ⟨Le.refl _,hle,trivial⟩))
 ·refine WPL.pubC (c1:=[lit (.int .i64 0)]) (c2:=[]) (s':=sl (t.rows 0) t.size) (.there _ (.there _ (.there _ (.here _)))) (.there _ (.here _)) (fun m arr hm ha=>uT hm ha h1 h2) ?_;simp only [List.cons_append,List.nil_append];repeat(refine A1 ⟨?_⟩;intros)
  exact aS (aJ (RV.cellA rfl List.mem_cons_self rfl rfl) Lr)
def rc:Tr→List SV
 | .leaf i=>[lit (.bool true),lit (.bool i),lit (.bool false),lit (.slice none 0 0),lit (.bool false),lit (.slice none 0 0),lit (.bool false),lit (.slice none 0 0),lit (.pointer none),lit (.pointer none)]
 | .node l a b=>[lit (.bool false),lit (.bool false),lit (.bool (decide (l.a<0))),nat l.a.natAbs,lit (.bool (decide (l.b<0))),nat l.b.natAbs,lit (.bool (decide (l.c<0))),nat l.c.natAbs,pt (rc a),pt (rc b)]
theorem lz (i:Bool):rc (.leaf i)=[lit (.bool true),lit (.bool i),lit (.bool false),lit (.slice none 0 0),lit (.bool false),lit (.slice none 0 0),lit (.bool false),lit (.slice none 0 0),lit (.pointer none),lit (.pointer none)]:=rfl
theorem ly (l:Li) (a b:Tr):rc (.node l a b)=[lit (.bool false),lit (.bool false),lit (.bool (decide (l.a<0))),nat l.a.natAbs,lit (.bool (decide (l.b<0))),nat l.b.natAbs,lit (.bool (decide (l.c<0))),nat l.c.natAbs,pt (rc a),pt (rc b)]:=rfl
abbrev rt (t:Tr):SV:=pt (rc t)
theorem E7 (i:Bool):Pu Tryz.prog 62 [lit (.bool i)] (rt (.leaf i)):=by
 unfold rt;rw [lz];apply PuN.toPt (T:=127);refine PuN.intro Tryz.func62 rfl kr fun C=>?_
 repeat(refine A1 ⟨?_⟩;intros)
 exact se _ _ (aJ (RV.tmp rfl) Lr) mmA (LeL.refl _)
end Go.Ab
