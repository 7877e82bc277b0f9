/- Texts laid one behind the other: Gm, Cvx, Ex, TapeB. -/
import Derived.Test.YtnhepimaijhhaaaGreatDoorB16
import Derived.Test.YtnhepimaijhhaaaGreatDoorB03
import Derived.Test.YtnhepimaijhhaaaGreatDoorB12
import Derived.Test.YtnhepimaijhhaaaGreatDoorLate
set_option linter.all false
namespace Go.Ab
open Go.Proofs
variable [Base]
abbrev Li.sm (l:Li):Prop:=l.ok∧l.le 1
abbrev hp (p:Pq) (n:Nat):Prop:=ht p.1≤n∧ht p.2≤n
theorem Li.sm.ht {l:Li}(h:l.sm):ht (l.a:Rat)≤1∧ht (l.b:Rat)≤1∧ht (l.c:Rat)≤1:=by
 have ha:=dD l.a h.2.a
 have hb:=dD l.b h.2.b
 have hc:=dD l.c h.2.c
 omega
theorem kh (x y:Rat):Ab.ht (x/y)≤Ab.ht x+Ab.ht y+2:=by
 rw [Rat.div_def]
 have:=ax x y⁻¹
 have:=vm y
 omega
def nS (p q:Pq):Rat:=p.1*q.1+p.2*q.2
def cO (p q:Pq):Rat:=p.1*q.2-p.2*q.1
def aI (l:Li):Pq:=((l.b:Rat),-(l.a:Rat))
def a7 (l:Li) (p:Pq):Rat:=(l.a:Rat)*p.1+(l.b:Rat)*p.2+(l.c:Rat)
def cX (l:Li) (p:Pq):Int:=(a7 l p).num.sign
def cT (p:Pq) (k:Rat) (v:Pq):Pq:=(p.1+k*v.1,p.2+k*v.2)
def aB (l:Li):Pq:=(l.bf*l.a,l.bf*l.b)
def atL (l:Li) (t:Rat):Pq:=cT (aB l) t (aI l)
def ce (l:Li) (p:Pq):Rat:=nS p (aI l)/nS (aI l) (aI l)
def df (l m:Li):Rat:=(l.a:Rat)*m.b-m.a*l.b
def bq (l m:Li):Pq:=(((l.b:Rat)*m.c-m.b*l.c)/df l m,((m.a:Rat)*l.c-l.a*m.c)/df l m)
def rF (l m:Li):Option Pq:=if df l m=0 then none else some (bq l m)
def gL (l m:Li):Int:=if(l.a + -m.a).sign≠0 then(l.a + -m.a).sign else if(l.b + -m.b).sign≠0 then(l.b + -m.b).sign else(l.c + -m.c).sign
def Ij (l:Li):Bool:=decide (l.a<0∨l.a=0∧l.b<0)
def gm (l:Li):Li:=if Ij l then l.neg else l
def kG (v:Pq):Int:=if v.1=0∧v.2=0 then 0 else if 0<v.2∨v.2=0∧0<v.1 then 1 else 2
def p5 (u v:Pq):Int:=if kG u≠kG v then(if kG u<kG v then -1 else 1)else -(cO u v).num.sign
def nu (a b c:Pq):Int:=(cO (b.1-a.1,b.2-a.2) (c.1-a.1,c.2-a.2)).num.sign
theorem dt {l:Li}(h:l.sm):hp (aI l) 1:=by
 obtain⟨h1,h2,_⟩:=h.ht
 exact⟨h2,by show Ab.ht (-(l.a:Rat))≤1;rw [ci];exact h1⟩
theorem qg {p q:Pq}{n m:Nat}(h:hp p n) (k:hp q m):Ab.ht (nS p q)≤2*n+2*m+3:=by
 have:=ax p.1 q.1
 have:=ax p.2 q.2
 have:=cU (p.1*q.1) (p.2*q.2)
 unfold nS
 omega
theorem lV {p q:Pq}{n m:Nat}(h:hp p n) (k:hp q m):Ab.ht (cO p q)≤2*n+2*m+3:=by
 have:=ax p.1 q.2
 have:=ax p.2 q.1
 have:=dM (p.1*q.2) (p.2*q.1)
 unfold cO
 omega
theorem uo {l:Li}{p:Pq}{n:Nat}(h:l.sm) (k:hp p n):Ab.ht (a7 l p)≤2*n+7:=by
 obtain⟨h1,h2,h3⟩:=h.ht
 have:=ax (l.a:Rat) p.1
 have:=ax (l.b:Rat) p.2
 have:=cU ((l.a:Rat)*p.1) ((l.b:Rat)*p.2)
 have:=cU ((l.a:Rat)*p.1+(l.b:Rat)*p.2) (l.c:Rat)
 unfold a7
 omega
theorem o6 {p v:Pq}{k:Rat}{n m j:Nat}(h:hp p n) (hk:Ab.ht k≤j) (hv:hp v m):hp (cT p k v) (n+j+m+2):=by
 have:=ax k v.1
 have:=ax k v.2
 have:=cU p.1 (k*v.1)
 have:=cU p.2 (k*v.2)
 unfold cT
 constructor <;> simp only <;> omega
theorem o5 {l:Li}(h:l.sm):hp (aB l) 12:=by
 obtain⟨h1,h2,h3⟩:=h.ht
 have:=Li.bf_ht h.2
 have:=ax l.bf (l.a:Rat)
 have:=ax l.bf (l.b:Rat)
 unfold aB
 constructor <;> simp only <;> omega
theorem FO {l:Li}{t:Rat}{n:Nat}(h:l.sm) (k:Ab.ht t≤n):hp (atL l t) (n+15):=by
 have:=o6 (o5 h) k (dt h)
 unfold atL
 exact⟨om,om⟩
theorem jZ {l:Li}{p:Pq}{n:Nat}(h:l.sm) (k:hp p n):Ab.ht (ce l p)≤2*n+14:=by
 have h1:=qg k (dt h)
 have h2:=qg (dt h) (dt h)
 have:=kh (nS p (aI l)) (nS (aI l) (aI l))
 unfold ce
 omega
theorem AI {l m:Li}(h:l.sm) (k:m.sm):Ab.ht (df l m)≤7:=by
 obtain⟨h1,h2,h3⟩:=h.ht
 obtain⟨k1,k2,k3⟩:=k.ht
 have:=ax (l.a:Rat) m.b
 have:=ax (m.a:Rat) l.b
 have:=dM ((l.a:Rat)*m.b) (m.a*l.b)
 unfold df
 omega
theorem l6 {l m:Li}(h:l.sm) (k:m.sm):hp (bq l m) 16:=by
 have hd:=AI h k
 obtain⟨h1,h2,h3⟩:=h.ht
 obtain⟨k1,k2,k3⟩:=k.ht
 have:=ax (l.b:Rat) m.c
 have:=ax (m.b:Rat) l.c
 have:=dM ((l.b:Rat)*m.c) (m.b*l.c)
 have:=ax (m.a:Rat) l.c
 have:=ax (l.a:Rat) m.c
 have:=dM ((m.a:Rat)*l.c) (l.a*m.c)
 have:=kh ((l.b:Rat)*m.c-m.b*l.c) (df l m)
 have:=kh ((m.a:Rat)*l.c-l.a*m.c) (df l m)
 unfold bq
 constructor <;> simp only <;> omega
theorem Li.sm.neg {l:Li}(h:l.sm):l.neg.sm:=by
 obtain⟨h1,h2⟩:=h
 refine⟨⟨?_,?_⟩,?_,?_,?_⟩
 ·show Nat.gcd (Nat.gcd (-l.a).natAbs (-l.b).natAbs) (-l.c).natAbs=1
  rw [Int.natAbs_neg,Int.natAbs_neg,Int.natAbs_neg];exact h1.1
 ·rcases h1.2 with k|k
  ·left;show -l.a≠0;omega
  ·right;show -l.b≠0;omega
 ·show il (-l.a)≤1;rw [cG];exact h2.a
 ·show il (-l.b)≤1;rw [cG];exact h2.b
 ·show il (-l.c)≤1;rw [cG];exact h2.c
theorem dP {l m:Li}:gL l m=0↔l=m:=by
 unfold gL
 obtain⟨a,b,c⟩:=l
 obtain⟨d,e,f⟩:=m
 simp only [Li.mk.injEq]
 by_cases h1:(a + -d).sign=0
 ·rw [if_neg (fun h=>h h1)]
  have:=Int.sign_eq_zero_iff_zero.1 h1
  by_cases h2:(b + -e).sign=0
  ·rw [if_neg (fun h=>h h2)]
   have:=Int.sign_eq_zero_iff_zero.1 h2
   rw [Int.sign_eq_zero_iff_zero]
   omega
  ·rw [if_pos h2]
   have:b + -e≠0:=fun k=>h2 (Int.sign_eq_zero_iff_zero.2 k)
   rw [Int.sign_eq_zero_iff_zero]
   omega
 ·rw [if_pos h1]
  have:a + -d≠0:=fun k=>h1 (Int.sign_eq_zero_iff_zero.2 k)
  rw [Int.sign_eq_zero_iff_zero]
  omega
instance:DecidableEq Li:=fun l m=>decidable_of_iff (gL l m=0) dP
theorem bA {x:Rat}:x.num.sign=0↔x=0:=by rw [Int.sign_eq_zero_iff_zero];exact Rat.num_eq_zero
section
variable {α:Type}
def ga (lt:α→α→Bool) (out:List α) (x:α):Nat:=(out.takeWhile fun o=>lt o x).length
def wY (lt:α→α→Bool) (out:List α) (x:α):List α:=out.take (ga lt out x)++x::out.drop (ga lt out x)
def gh [DecidableEq α] (lt:α→α→Bool) (out:List α) (x:α):List α:=if out[ga lt out x]? = some x then out else wY lt out x
theorem lG (lt:α→α→Bool) (out:List α) (x:α):ga lt out x≤out.length:=(List.takeWhile_sublist _).length_le
theorem lF {lt:α→α→Bool}{out:List α}{x o:α}{j:Nat}(hj:j≤ga lt out x) (ho:out[j]? = some o):(lt o x=true→j+1≤ga lt out x)∧(lt o x=false→j=ga lt out x):=by
 constructor
 ·intro h
  by_cases he:j=ga lt out x
  ·unfold ga at he
   rw [he]at ho
   have:=pG ho
   rw [h]at this;cases this
  ·omega
 ·intro h
  by_cases he:j<ga lt out x
  ·have:=CG ho he
   rw [h]at this;cases this
  ·omega
theorem EG {lt:α→α→Bool}{out:List α}{x y:α}:y∈wY lt out x↔y=x∨y∈out:=by
 unfold wY
 have e:y∈out↔y∈out.take (ga lt out x)∨y∈out.drop (ga lt out x):=by rw [←List.mem_append,List.take_append_drop]
 rw [List.mem_append,List.mem_cons,e]
 constructor
 ·rintro (h|h|h)
  ·exact .inr (.inl h)
  ·exact .inl h
  ·exact .inr (.inr h)
 ·rintro (h|h|h)
  ·exact .inr (.inl h)
  ·exact .inl h
  ·exact .inr (.inr h)
theorem EH (lt:α→α→Bool) (out:List α) (x:α):(wY lt out x).length=out.length+1:=by
 have:=lG lt out x
 unfold wY
 rw [List.length_append,List.length_cons,List.length_take,List.length_drop]
 omega
theorem jI [DecidableEq α]{lt:α→α→Bool}{out:List α}{x y:α}:y∈gh lt out x↔y=x∨y∈out:=by
 unfold gh
 split
 ·rename_i h
  constructor
  ·exact .inr
  ·rintro (e|e)
   ·rw [e];exact List.mem_of_getElem? h
   ·exact e
 ·exact EG
theorem jJ [DecidableEq α] (lt:α→α→Bool) (out:List α) (x:α):(gh lt out x).length≤out.length+1:=by
 unfold gh
 split
 ·omega
 ·rw [EH];omega
theorem tZ {β:Type}{f:List β→α→List β}{g:α→β}(h:∀out x y,y∈f out x↔y=g x∨y∈out):∀(l:List α) (out:List β) (y:β),y∈l.foldl f out↔(∃x∈l,y=g x)∨y∈out
 | [],out,y=>by simp
 |a::l,out,y=>by
  rw [List.foldl_cons,tZ h l,h]
  simp only [List.mem_cons,exists_eq_or_imp]
  constructor
  ·rintro (h|h|h)
   ·exact .inl (.inr h)
   ·exact .inl (.inl h)
   ·exact .inr h
  ·rintro ((h|h)|h)
   ·exact .inr (.inl h)
   ·exact .inl h
   ·exact .inr (.inr h)
theorem u0 {β:Type}{f:List β→α→List β}(h:∀out x,(f out x).length≤out.length+1):∀(l:List α) (out:List β),(l.foldl f out).length≤out.length+l.length
 | [],out=>by simp
 |a::l,out=>by
  have:=u0 h l (f out a)
  have:=h out a
  rw [List.foldl_cons,List.length_cons]
  omega
theorem kj {β:Type}{f:β→α→β}{l:List α}{k:Nat}{a:α}{b:β}(h:l[k]? = some a):(l.take (k+1)).foldl f b=f ((l.take k).foldl f b) a:=by
 rw [cj h,List.foldl_append];rfl
end
abbrev rlt (x y:Rat):Bool:=decide ((x-y).num.sign<0)
abbrev llt (l m:Li):Bool:=decide (gL l m<0)
def mE (l:List Li):List Li:=l.foldl (fun out x=>gh llt out (gm x)) []
theorem Fh {l:List Li}{y:Li}:y∈mE l↔∃x∈l,y=gm x:=by
 unfold mE
 rw [tZ (f:=fun out x=>gh llt out (gm x)) (g:=gm) (fun out x y=>jI)]
 simp
theorem Fi (l:List Li):(mE l).length≤l.length:=by
 have:=u0 (f:=fun out x=>gh llt out (gm x)) (fun out x=>jJ llt out (gm x)) l []
 unfold mE
 simpa using this
structure Spn where
 lo:Rat
 hi:Rat
 nl:Bool
 nh:Bool
abbrev Spn.full:Spn:=⟨0,0,true,true⟩
abbrev Spn.le (s:Spn) (n:Nat):Prop:=ht s.lo≤n∧ht s.hi≤n
def Cn (s:Spn) (t:Rat):Int :=
 let a:Int:=if s.nl then 1 else(t-s.lo).num.sign
 let b:Int:=if s.nh then -1 else(t-s.hi).num.sign
 if 0<a∧b<0 then 2 else if(a=0∧b≤0)∨(b=0∧0≤a)then 1 else 0
def oW:List Spn→Rat→Int
 | [],_=>0
 |s::l,t=>if Cn s t=0 then oW l t else Cn s t
abbrev inL (l:List Spn) (t:Rat):Bool:=decide (oW l t=2)
def gS (out:List Rat) (s:Spn):List Rat :=
 let o1:=if s.nl then out else gh rlt out s.lo
 if s.nh then o1 else gh rlt o1 s.hi
def cJ (l:List Spn):List Rat:=l.foldl gS []
def i7 (x y:Rat):Rat:=(x+y)/2
def dH:List Rat→List Rat
 | []=>[0]
 |c::cs=>(c-1)::(List.zipWith i7 (c::cs) cs++[(c::cs).getLast (by simp)+1])
def opB (op:Int) (x y:Bool):Bool:=if op=2 then x&&y else if op=3 then x && !y else if op=4 then x != y else x||y
theorem qQ {x:Rat}:0<x.num↔0<x:=by
 have h1:0≤x.num↔0≤x:=Rat.num_nonneg
 have h2:x.num=0↔x=0:=Rat.num_eq_zero
 constructor
 ·intro h
  have:=h1.1 om
  have:x≠0:=fun e=>by have:=h2.2 e;omega
  grind
 ·intro h
  have:=h1.2 (Rat.le_of_lt h)
  have:x.num≠0:=fun e=>by have:=h2.1 e;grind
  omega
theorem wc {s:Rat}(h:0<s):s*(s.den:Rat)=((s.num.toNat:Nat):Rat):=by
 have h0:=qQ.2 h
 have e:((s.num.toNat:Nat):Rat)=((s.num:Int):Rat):=by
  rw [←Rat.intCast_natCast,Int.toNat_of_nonneg om]
 rw [e]
 have h2:((s.den:Nat):Rat)≠0:=fun e=>s.den_nz (Rat.natCast_inj.1 (e.trans rfl))
 have h3:s=(s.num:Rat)/(s.den:Nat):=(Rat.mkRat_self s).symm.trans (Rat.mkRat_eq_div ..)
 grind
theorem fF {α:Type}(A B:α→Rat):∀(c:List α),(∀j∈c,0<A j)→∃e:Rat,0<e∧∀j∈c,∀t,0<t→t≤e→0<A j+t*B j
 | [],_=>⟨1,by decide,fun j h=>by cases h⟩
 |a::c,h=>by
  obtain⟨e,he,hc⟩:=fF A B c (fun j hj=>h j (Mc hj))
  have ha:=h a Ms
  by_cases hb:0≤B a
  ·refine⟨e,he,fun j hj t ht hte=>?_⟩
   rcases List.mem_cons.1 hj with rfl|hj
   ·have:=Rat.mul_nonneg (Rat.le_of_lt ht) hb
    grind
   ·exact hc j hj t ht hte
  ·have hb':0 < - B a:=by grind
   obtain⟨u,hu⟩:∃u:Rat,u*(2 * - B a)=A a:=⟨A a/(2 * - B a),by grind⟩
   have hu0:0<u:=by
    rcases Rat.le_total (a:=u) (b:=0)with k|k
    ·have:=Rat.mul_nonneg (show 0≤-u by grind) (Rat.le_of_lt hb')
     grind
    ·grind
   have key:∀j∈a::c,∀t,0<t→t≤e→t≤u→0<A j+t*B j:=fun j hj t ht h1 h2=>by
    rcases List.mem_cons.1 hj with rfl|hj
    ·have:=Rat.mul_nonneg (show 0≤u-t by grind) (Rat.le_of_lt hb')
     grind
    ·exact hc j hj t ht h1
   rcases Rat.le_total (a:=e) (b:=u)with k|k
   ·exact⟨e,he,fun j hj t ht h1=>key j hj t ht h1 (by grind)⟩
   ·exact⟨u,hu0,fun j hj t ht h1=>key j hj t ht (by grind) h1⟩
theorem zn {α:Type}(f:α→Rat):∀(l:List α),l≠[]→∃a∈l,∀b∈l,f a≤f b
 | [],h=>absurd rfl h
 | [a],_=>⟨a,Ms,fun b hb=>by rw [List.mem_singleton]at hb;subst hb;exact Rat.le_refl⟩
 |a::b::l,_=>by
  obtain⟨m,hm,hmin⟩:=zn f (b::l) (by simp)
  rcases Rat.le_total (a:=(f a)) (b:=(f m))with k|k
  ·refine⟨a,Ms,fun x hx=>?_⟩
   rcases List.mem_cons.1 hx with rfl|hx
   ·exact Rat.le_refl
   ·have:=hmin x hx;grind
  ·refine⟨m,Mc hm,fun x hx=>?_⟩
   rcases List.mem_cons.1 hx with rfl|hx
   ·exact k
   ·exact hmin x hx
theorem Li.prop_eq {l m:Li}(hl:l.ok) (hm:m.ok){s t:Nat}(hs:0<s) (ha:s*l.a=t*m.a) (hb:s*l.b=t*m.b) (hc:s*l.c=t*m.c):l=m:=by
 have h1:s=t:=by
  have e:=congrArg Int.natAbs ha
  have f:=congrArg Int.natAbs hb
  have g:=congrArg Int.natAbs hc
  rw [Int.natAbs_mul,Int.natAbs_mul,Int.natAbs_natCast,Int.natAbs_natCast]at e f g
  have k1:Nat.gcd (Nat.gcd (s*l.a.natAbs) (s*l.b.natAbs)) (s*l.c.natAbs)=s:=by rw [Nat.gcd_mul_left,Nat.gcd_mul_left,hl.1,Nat.mul_one]
  have k2:Nat.gcd (Nat.gcd (t*m.a.natAbs) (t*m.b.natAbs)) (t*m.c.natAbs)=t:=by rw [Nat.gcd_mul_left,Nat.gcd_mul_left,hm.1,Nat.mul_one]
  rw [e,f,g]at k1
  omega
 subst h1
 have hz:(s:Int)≠0:=by omega
 obtain⟨a,b,c⟩:=l
 obtain⟨d,e,f⟩:=m
 simp only at ha hb hc
 rw [Int.mul_eq_mul_left_iff hz]at ha hb hc
 rw [ha,hb,hc]
theorem Li.prop_eqR {l m:Li}(hl:l.ok) (hm:m.ok){s t:Rat}(hs:0<s) (ht:0<t) (ha:s*l.a=t*m.a) (hb:s*l.b=t*m.b) (hc:s*l.c=t*m.c):l=m:=by
 have q1:=wc hs
 have q2:=wc ht
 have key:∀x y:Int,s*x=t*y→((s.num.toNat*t.den:Nat):Int)*x=((t.num.toNat*s.den:Nat):Int)*y:=fun x y h=>by
  refine Rat.intCast_inj.1 ?_
  rw [Rat.intCast_mul,Rat.intCast_mul,Rat.intCast_natCast,Rat.intCast_natCast,Rat.natCast_mul,Rat.natCast_mul,←q1,←q2]
  grind
 have h0:=qQ.2 hs
 exact Li.prop_eq hl hm (s:=s.num.toNat*t.den) (t:=t.num.toNat*s.den) (Nat.mul_pos om t.den_pos) (key _ _ ha) (key _ _ hb) (key _ _ hc)
theorem zN (x:Rat):0≤x*x:=by
 rcases Rat.le_total (a:=x) (b:=0)with h|h
 ·have:=Rat.mul_nonneg (show 0≤-x by grind) (show 0≤-x by grind)
  grind
 ·exact Rat.mul_nonneg h h
theorem J8 (x y z:Rat):x*(y*z)=z*(y*x):=by grind
theorem jX {n x y:Rat}(h:n≠0) (k:n*x=n*y):x=y:=by
 have:n*(x-y)=0:=by grind
 rcases Rat.mul_eq_zero.1 this with e|e
 ·exact absurd e h
 ·grind
theorem Dt {u1 u2 ja jb ma mb A B bj bm:Rat}(n0:u1*u1+u2*u2≠0) (d1:ja*u1+jb*u2=A) (d2:ma*u1+mb*u2=B) (w1:bj=ja * -u2+jb*u1) (w2:bm=ma * -u2+mb*u1) (e1:B*bj=A*bm) :
  B*ja=A*ma∧B*jb=A*mb:=by
 have p1:(u1*u1+u2*u2)*ja=u1*A-u2*bj:=by rw [←d1,w1];grind
 have p2:(u1*u1+u2*u2)*ma=u1*B-u2*bm:=by rw [←d2,w2];grind
 have p3:(u1*u1+u2*u2)*jb=u2*A+u1*bj:=by rw [←d1,w1];grind
 have p4:(u1*u1+u2*u2)*mb=u2*B+u1*bm:=by rw [←d2,w2];grind
 clear d1 d2 w1 w2
 generalize u1*u1+u2*u2=n at *
 constructor
 ·refine jX n0 ?_
  have:n*(B*ja)=B*(n*ja):=by grind
  rw [this,p1]
  have:n*(A*ma)=A*(n*ma):=by grind
  rw [this,p2]
  have:B*(u1*A-u2*bj)=B*(u1*A)-u2*(B*bj):=by grind
  rw [this,e1];grind
 ·refine jX n0 ?_
  have:n*(B*jb)=B*(n*jb):=by grind
  rw [this,p3]
  have:n*(A*mb)=A*(n*mb):=by grind
  rw [this,p4]
  have:B*(u2*A+u1*bj)=B*(u2*A)+u1*(B*bj):=by grind
  rw [this,e1];grind
theorem KP {j m:Li}{A B:Rat}{r:Pq}(ea:B*j.a=A*m.a) (eb:B*j.b=A*m.b) (h:a7 j r=0) (k:a7 m r=0):B*j.c=A*m.c:=by
 unfold a7 at h k
 have h1:(j.c:Rat) = -(j.a*r.1+j.b*r.2):=by grind
 have h2:(m.c:Rat) = -(m.a*r.1+m.b*r.2):=by grind
 rw [h1,h2]
 have:B * -(j.a*r.1+j.b*r.2) = -((B*j.a)*r.1+(B*j.b)*r.2):=by grind
 rw [this,ea,eb];grind
theorem Du {s Q P:Rat}(h:s*(Q-P)=Q) (hq:0<Q) (hp:P≤0):0<s∧s≤1:=by
 constructor
 ·rcases Rat.le_total (a:=s) (b:=0)with k|k
  ·have:=Rat.mul_nonneg (show 0≤-s by grind) (show 0≤Q-P by grind)
   grind
  ·by_cases e:s=0
   ·rw [e]at h;grind
   ·grind
 ·rcases Rat.le_total (a:=s) (b:=1)with k|k
  ·exact k
  ·by_cases e:s=1
   ·grind
   ·have:=Rat.mul_pos (show 0<s-1 by grind) (show 0<Q-P by grind)
    grind
theorem yh {s Q P:Rat}(h0:0<s) (h1:s≤1) (hq:0<Q) (hp:0<P):0<Q+s*(P-Q):=by
 have a:=Rat.mul_nonneg (show 0≤1-s by grind) (Rat.le_of_lt hq)
 have b:=Rat.mul_pos h0 hp
 grind
theorem Kd {s t Q P:Rat}(h:t*(Q-P)=Q) (hq:0<Q) (hp:P≤0) (hs:s≤t):0≤Q+s*(P-Q):=by
 have a:=Rat.mul_nonneg (show 0≤t-s by grind) (show 0≤Q-P by grind)
 grind
theorem zM {s Q P:Rat}(h:s*(Q-P)=Q):Q+s*(P-Q)=0:=by
 have:Q+s*(P-Q)=Q-s*(Q-P):=by grind
 rw [this,h];grind
theorem J7 {P Q:Rat}(hq:0<Q) (hp:P≤0):Q/(Q-P)*(Q-P)=Q:=Rat.div_mul_cancel (by grind)
theorem Gz {P Q:Rat}(hq:0<Q):P/Q*Q=P:=Rat.div_mul_cancel (by grind)
theorem iO (j:Li) (p q:Pq) (s:Rat):a7 j (q.1+s*(p.1-q.1),q.2+s*(p.2-q.2))=a7 j q+s*(a7 j p-a7 j q):=by unfold a7;grind
theorem vN (j:Li) (q r:Pq) (x y:Rat):a7 j (r.1+x*(q.1-r.1)-y*(q.2-r.2),r.2+x*(q.2-r.2)+y*(q.1-r.1))=a7 j r+x*(a7 j q-a7 j r)+y*((j.a:Rat) * -(q.2-r.2)+(j.b:Rat)*(q.1-r.1)):=by unfold a7;simp only;grind
theorem zr (j:Li) (q r:Pq) (h:a7 j r=0):(j.a:Rat)*(q.1-r.1)+j.b*(q.2-r.2)=a7 j q:=by unfold a7 at *;grind
theorem ID {x y:Rat}(h:x*x+y*y=0):x=0∧y=0:=by
 have a1:=zN x
 have a2:=zN y
 have b1:x*x=0:=by grind
 have b2:y*y=0:=by grind
 exact⟨by rcases Rat.mul_eq_zero.1 b1 with h|h <;> exact h,by rcases Rat.mul_eq_zero.1 b2 with h|h <;> exact h⟩
theorem KM {e g Q B:Rat}(h:g*Q=B):0+e*g*(Q-0) + -e*B=0:=by rw [←h];grind
theorem KN {e g k Q B:Rat}(he:0<e) (hq:0<Q) (hk:k<g) (h:k*Q=B):0<0+e*g*(Q-0) + -e*B:=by
 have:=Rat.mul_pos (Rat.mul_pos he hq) (show 0<g-k by grind)
 rw [←h];grind
theorem KO {e g Q V B:Rat}(h:0<V+e*(g*(Q-V)-B)):0<V+e*g*(Q-V) + -e*B:=by
 have:V+e*g*(Q-V) + -e*B=V+e*(g*(Q-V)-B):=by grind
 rw [this];exact h
theorem IE {x y:Rat}(h:x≤y) (k:x≠y):x<y:=by grind
theorem J6 {x y:Rat}(h : -x≤-y):y≤x:=by grind
theorem xZ {j m:Li}(hj:j.ok) (hm:m.ok){q r:Pq}(q1:0<a7 j q) (q2:0<a7 m q) (h0:a7 j r=0) (hmr:a7 m r=0){g B C:Rat}(g1:g*a7 j q=B) (g2:g*a7 m q=C)
  (w1:B=(j.a:Rat) * -(q.2-r.2)+(j.b:Rat)*(q.1-r.1)) (w2:C=(m.a:Rat) * -(q.2-r.2)+(m.b:Rat)*(q.1-r.1)):j=m:=by
 have d1:=zr j q r h0
 have d2:=zr m q r hmr
 have n0:(q.1-r.1)*(q.1-r.1)+(q.2-r.2)*(q.2-r.2)≠0:=fun h=>by
  obtain⟨a,b⟩:=ID h
  rw [a,b,Rat.mul_zero,Rat.mul_zero]at d2
  rw [←d2]at q2;exact absurd q2 (by rw [Rat.add_zero];decide)
 have e1:a7 m q*B=a7 j q*C:=by rw [←g1,←g2];exact J8 _ _ _
 obtain⟨ea,eb⟩:=Dt n0 d1 d2 w1 w2 e1
 exact Li.prop_eqR hj hm q2 q1 ea eb (KP ea eb h0 hmr)
theorem cvx {c:List Li}(hok:∀l∈c,l.ok){q p:Pq}(hq:∀l∈c,0<a7 l q){k:Li}(hk:k∈c) (hp:a7 k p≤0) :
  ∃m∈c,a7 m p≤0∧∃r,a7 m r=0∧∀j∈c,j≠m→0<a7 j r:=by
 obtain⟨S,hS⟩:∃S:Li→Rat,∀j∈c,a7 j p≤0→S j*(a7 j q-a7 j p)=a7 j q :=
  ⟨fun j=>a7 j q/(a7 j q-a7 j p),fun j hj h=>J7 (hq j hj) h⟩
 obtain⟨k,hk',hmin⟩:=zn S (c.filter fun j=>decide (a7 j p≤0)) (fun e=>by
  have:k∈c.filter fun j=>decide (a7 j p≤0):=List.mem_filter.2 ⟨hk,decide_eq_true hp⟩
  rw [e]at this;cases this)
 rw [List.mem_filter,decide_eq_true_eq]at hk'
 obtain⟨hk,hp⟩:=hk'
 have hs:=hS k hk hp
 have hqk:=hq k hk
 have hmin:∀j∈c,a7 j p≤0→S k≤S j:=fun j hj h=>hmin j (List.mem_filter.2 ⟨hj,decide_eq_true h⟩)
 generalize S k=s at *
 obtain⟨hs0,hs1⟩:=Du hs hqk hp
 obtain⟨r,hr⟩:∃r:Pq,r=(q.1+s*(p.1-q.1),q.2+s*(p.2-q.2)):=⟨_,rfl⟩
 have hv:∀j,a7 j r=a7 j q+s*(a7 j p-a7 j q):=fun j=>by rw [hr];exact iO j p q s
 have hnn:∀j∈c,0≤a7 j r:=fun j hj=>by
  rw [hv]
  by_cases h:a7 j p≤0
  ·exact Kd (hS j hj h) (hq j hj) h (hmin j hj h)
  ·exact Rat.le_of_lt (yh hs0 hs1 (hq j hj) (Rat.not_le.1 h))
 have hz:∀j∈c,a7 j r=0→a7 j p≤0:=fun j hj h=>by
  by_cases h':a7 j p≤0
  ·exact h'
  ·have:=yh hs0 hs1 (hq j hj) (Rat.not_le.1 h')
   rw [←hv,h]at this;exact absurd this (by decide)
 have hkr:a7 k r=0:=by rw [hv];exact zM hs
 clear hS hmin hs0 hs1 hs hv hr
 obtain⟨B,hB⟩:∃B:Li→Rat,∀j,B j=(j.a:Rat) * -(q.2-r.2)+(j.b:Rat)*(q.1-r.1):=⟨_,fun _=>rfl⟩
 obtain⟨G,hG⟩:∃G:Li→Rat,∀j∈c,G j*a7 j q=B j:=⟨fun j=>B j/a7 j q,fun j hj=>Gz (hq j hj)⟩
 obtain⟨m,hm',hmax⟩:=zn (fun j => - G j) (c.filter fun j=>decide (a7 j r=0)) (fun e=>by
  have:k∈c.filter fun j=>decide (a7 j r=0):=List.mem_filter.2 ⟨hk,decide_eq_true hkr⟩
  rw [e]at this;cases this)
 rw [List.mem_filter,decide_eq_true_eq]at hm'
 obtain⟨hm,hmr⟩:=hm'
 have hmax:∀j∈c,a7 j r=0→G j≤G m:=fun j hj h=>J6 (hmax j (List.mem_filter.2 ⟨hj,decide_eq_true h⟩))
 obtain⟨e,he,hsm⟩:=fF (fun j=>a7 j r) (fun j=>G m*(a7 j q-a7 j r)-B j) (c.filter fun j=>decide (0<a7 j r)) (fun j hj=>by
  rw [List.mem_filter,decide_eq_true_eq]at hj;exact hj.2)
 refine⟨m,hm,hz m hm hmr,_,(vN m q r (e*G m) (-e)).trans ?_,fun j hj hne=>?_⟩
 ·rw [hmr,←hB]
  exact KM (hG m hm)
 ·rw [vN j q r (e*G m) (-e),←hB]
  by_cases h0:a7 j r=0
  ·rw [h0]
   by_cases heq:G j=G m
   ·refine absurd ?_ hne
    exact xZ (hok j hj) (hok m hm) (hq j hj) (hq m hm) h0 hmr (heq▸hG j hj) (hG m hm) (hB j) (hB m)
   ·exact KN he (hq j hj) (IE (hmax j hj h0) heq) (hG j hj)
  ·exact KO (hsm j (List.mem_filter.2 ⟨hj,decide_eq_true (IE (hnn j hj) (fun e=>h0 e.symm))⟩) e he Rat.le_refl)
def Inn (c:List Li) (q:Pq):Prop:=∀l∈c,0<a7 l q
def Edg (c:List Li) (m:Li):Prop:=∃r,a7 m r=0∧∀j∈c,j≠m→0<a7 j r
theorem bP (j m:Li) (r:Pq) (e:Rat):a7 j (r.1+e*m.a,r.2+e*m.b)=a7 j r+e*((j.a:Rat)*m.a+j.b*m.b):=by unfold a7;grind
theorem dB {m:Li}(h:m.ok):0<(m.a:Rat)*m.a+m.b*m.b:=by
 have a1:=zN (m.a:Rat)
 have a2:=zN (m.b:Rat)
 have:(m.a:Rat)*m.a+m.b*m.b≠0:=fun e=>by
  obtain⟨a,b⟩:=ID e
  have ha:m.a=0:=Rat.intCast_eq_zero_iff.1 a
  have hb:m.b=0:=Rat.intCast_eq_zero_iff.1 b
  rcases h.2 with h|h
  ·exact h ha
  ·exact h hb
 grind
theorem Edg.inn {c:List Li}{m:Li}(hm:m.ok) (h:Edg c m):∃q,Inn c q∧0<a7 m q:=by
 obtain⟨r,hr,hj⟩:=h
 obtain⟨e,he,hs⟩:=fF (fun j=>a7 j r) (fun j=>(j.a:Rat)*m.a+j.b*m.b) (c.filter fun j=>decide (j≠m)) (fun j h=>by
  rw [List.mem_filter,decide_eq_true_eq]at h;exact hj j h.1 h.2)
 have hme:0<a7 m (r.1+e*m.a,r.2+e*m.b):=by
  rw [bP,hr,Rat.zero_add];exact Rat.mul_pos he (dB hm)
 refine⟨(r.1+e*m.a,r.2+e*m.b),fun j h=>?_,hme⟩
 by_cases hjm:j=m
 ·rw [hjm];exact hme
 ·rw [bP]
  exact hs j (List.mem_filter.2 ⟨h,decide_eq_true hjm⟩) e he Rat.le_refl
theorem Inn.kept {c d:List Li}(hok:∀l∈c,l.ok){q p:Pq}(hq:Inn c q) (hd:∀m∈c,Edg c m→m∈d) (hp:Inn d p):Inn c p:=fun k hk=>by
 by_cases h:a7 k p≤0
 ·obtain⟨m,hm,h1,h2⟩:=cvx hok hq hk h
  exact absurd (hp m (hd m hm h2)) (Rat.not_lt.2 h1)
 ·exact Rat.not_le.1 h
theorem tY {l:Li}(h:l.ok):∃p,a7 l p=0 :=
 ⟨(-(l.c:Rat)*l.a/((l.a:Rat)*l.a+l.b*l.b),-(l.c:Rat)*l.b/((l.a:Rat)*l.a+l.b*l.b)),by
  have:=dB h
  unfold a7;simp only;grind⟩
theorem Inn.edge {c:List Li}(hok:∀l∈c,l.ok){q:Pq}(hq:Inn c q) (hc:c≠[]):∃m∈c,Edg c m:=by
 obtain⟨k,hk⟩:=List.exists_mem_of_ne_nil c hc
 obtain⟨p,hp⟩:=tY (hok k hk)
 obtain⟨m,hm,_,h⟩:=cvx hok hq hk (show a7 k p≤0 by rw [hp];exact Rat.le_refl)
 exact⟨m,hm,h⟩
section
variable {P:Program}{F:Fr}{H:LH}{ty:TypeId}
theorem aV.exAt {m:Mem}{α:Type}{g:α→SV}:∀{pre post:List SV}{vs:List Value},aV m (pre++ex g::post) vs→∃x,aV m (pre++g x::post) vs
 | [],_,[],h=>h.elim
 | [],_,v::vs,h=>by
  have h1:=h.1
  unfold ex at h1
  obtain⟨x,hx⟩:=h1
  exact⟨x,hx,h.2⟩
 |_::_,_,[],h=>h.elim
 |s::pre,post,v::vs,h=>by
  obtain⟨x,hx⟩:=aV.exAt (pre:=pre) (post:=post) h.2
  exact⟨x,h.1,hx⟩
theorem IJ {α:Type}{m:Mem}{v:Value}{g:α→SV}(x:α) (h:(g x).p m v):(ex g).p m v:=by unfold ex;exact⟨x,h⟩
theorem Le.exL {α:Type}{g:α→SV}{s:SV}(h:∀x,Le (g x) s):Le (Ab.ex g) s:=fun m v hv=>by
 unfold Ab.ex at hv
 obtain⟨x,hx⟩:=hv
 exact h x m v hx
theorem Pu.exAt {f:FuncId}{α:Type}(pre post:List SV){g r:α→SV}(x0:α) (h:∀x,Pu P f (pre++g x::post) (r x)):Pu P f (pre++ex g::post) (ex r):=by
 unfold Pu at *
 exact⟨(h x0).1,fun m w vs hm ha=>by
  obtain⟨x,hx⟩:=ha.exAt
  exact((h x).2 m w vs hm hx).mono fun _ _ ⟨v,m',e,hp,k⟩=>⟨v,m',e,IJ x hp,k⟩⟩
theorem OpV.mono' {op:Op}{s s':SV}(h:OpV P op ty F H s) (k:Le s s'):OpV P op ty F H s':=by
 unfold OpV at *
 exact fun m w o a ho hty h1 h2 h3 K Q hK=>h m w o a ho hty h1 h2 h3 K Q fun v m' w' hp=>hK v m' w' (k _ _ hp)
theorem OpV.exc {op:Op}{α:Type}(t:Nat){f:α→SV}{s:SV}(x0:α) (hf:F t=ex f) (h:∀x,OpV P op ty (upd F t (f x)) H s):OpV P op ty F H s:=by
  unfold OpV at *
  intro m w o a ho hty h1 h2 h3 K Q hK
  have key:∃x:α,(.tmp t∈op.operands→(f x).p m (a.eval (.tmp t))):=by
   by_cases ht : .tmp t∈op.operands
   ·have h0:=h3 t ht
    rw [hf]at h0
    unfold ex at h0
    obtain⟨x,hx⟩:=h0
    exact⟨x,fun _=>hx⟩
   ·exact⟨x0,fun k=>(ht k).elim⟩
  obtain⟨x,hx⟩:=key
  refine h x m w o a ho hty h1 h2 (fun t' ht'=>?_) K Q hK
  by_cases e:t'=t
  ·subst e;rw [aD];exact hx ht'
  ·rw [ak e];exact h3 t' ht'
theorem OpV.exd {op:Op}{α:Type}(t:Nat){f g:α→SV}(x0:α) (hf:F t=ex f) (h:∀x,OpV P op ty (upd F t (f x)) H (g x)):OpV P op ty F H (ex g) :=
 OpV.exc t x0 hf fun x=>(h x).mono' fun _ _ hp=>IJ x hp
end
theorem qL (x y u v:Rat) (hx:ht x≤3000000) (hy:ht y≤3000000) (hu:ht u≤3000000) (hv:ht v≤3000000):Pu Tryz.prog 90 [rp x y,rp u v] (lit (.bool (decide (x=u∧y=v)))):=by
 have c1:=iS x u hx hu
 have c2:=iS y v hy hv
 have e1:=dY (x:=x) (y:=u)
 have e2:=dY (x:=y) (y:=v)
 generalize(x-u).num.sign=s at *
 generalize(y-v).num.sign=t at *
 clear hx hy hu hv
 by_cases h1:x=u
 ·have hs:=e1.2 h1
  by_cases h2:y=v
  ·have ht:=e2.2 h2
   rw [decide_eq_true ⟨h1,h2⟩]
   clear e1 e2
   subst hs ht
   refine Pi Tryz.func90 fun C=>?_
   exact Y2 c1 c2
  ·have ht:t≠0:=fun e=>h2 (e2.1 e)
   rw [decide_eq_false (fun h=>h2 h.2)]
   clear e1 e2
   subst hs
   refine Pi Tryz.func90 fun C=>?_
   exact Y2 c1 c2
 ·have hs:s≠0:=fun e=>h1 (e1.1 e)
  rw [decide_eq_false (fun h=>h1 h.1)]
  clear e1 e2
  refine Pi Tryz.func90 fun C=>?_
  exact Y2 c1 c2
abbrev intP:SV:=ex fun p:{p:Int×Int // p.1.natAbs≤4∧p.2.natAbs≤4}=>rp (p.1.1:Rat) (p.1.2:Rat)
abbrev intV:SV:=ex fun p:{p:Int×Int // (p.1.natAbs≤4∧p.2.natAbs≤4)∧(p.1≠0∨p.2≠0)}=>rp (p.1.1:Rat) (p.1.2:Rat)
theorem vS (zs:List Int) (hz:zs.length≤400):PuT 39 zs [] intP:=by
 refine PuM.intro Tryz.func39 rfl kr fun C b=>?_
 repeat(refine A1 ⟨?_⟩;intros)
 refine Wtx (cB zs hz 9 om om) mmA fun x=>?_
 obtain⟨x,hx⟩:=x
 simp only []
 repeat(refine A1 ⟨?_⟩;intros)
 refine Wtx (cB zs hz 9 om om) mmA fun y=>?_
 obtain⟨y,hy⟩:=y
 simp only []
 repeat(first|(refine A1 ⟨?_⟩;intros)|refine W4 (jn ((x:Int)-4) ((y:Int)-4) om om om om) ⟨?_⟩)
 exact db () _ (ay (RV.cellA rfl mmA rfl rfl) (Le.ex ⟨((x:Int)-4,(y:Int)-4),by simp only;omega,by simp only;omega⟩ Lr)) mmA (LeL.refl _)
theorem pE (z:Int) (h:z.natAbs≤1000):ht (z:Rat)≤1:=EK z om
theorem KS:LeL [ag [lit (.bool false),lit (.slice none 0 0),lit (.slice none 0 0),lit (.bool false),lit (.slice none 0 0),lit (.slice none 0 0)]] [rp 0 0] :=
 ⟨Le.ag (by repeat(first|exact trivial|refine⟨?_,?_⟩|exact Le.refl _|exact pC|exact pD)),trivial⟩
theorem f8 {z:Int}:((z:Rat)=0)↔z=0:=by constructor <;> intro h <;> exact_mod_cast h
theorem CH (zs:List Int) (hz:zs.length≤400):PuT 43 zs [] intV:=by
 refine PuM.intro Tryz.func43 rfl kr fun C b=>?_
 repeat(refine A1 ⟨?_⟩;intros)
 refine Wtx (vS zs hz) mmA fun p=>?_
 obtain⟨⟨x,y⟩,hx,hy⟩:=p
 simp only at hx hy
 simp only []
 have h0:=gD
 have hx':=pE x om
 have hy':=pE y om
 have c1:=(qL x y 0 0 om om om om).arg (l':=[rp x y,ag [lit (.bool false),lit (.slice none 0 0),lit (.slice none 0 0),lit (.bool false),lit (.slice none 0 0),lit (.slice none 0 0)]]) ⟨Le.refl _,KS⟩
 have c2:=jn 1 0 om om om om
 by_cases h:x=0∧y=0
 ·rw [decide_eq_true (show(x:Rat)=0∧(y:Rat)=0 from⟨f8.2 h.1,f8.2 h.2⟩)]at c1
  clear h hx' hy' h0
  repeat(first|(refine A1 ⟨?_⟩;intros)|refine W4 c1 ⟨?_⟩|refine W4 c2 ⟨?_⟩)
  exact db () _ (ay (RV.cellA rfl mmA rfl rfl) (Le.ex ⟨(1,0),by decide,by decide⟩ Lr)) mmA (LeL.refl _)
 ·rw [decide_eq_false (show¬((x:Rat)=0∧(y:Rat)=0)from fun e=>h ⟨f8.1 e.1,f8.1 e.2⟩)]at c1
  have hv:x≠0∨y≠0:=by omega
  clear h hx' hy' h0
  repeat(first|(refine A1 ⟨?_⟩;intros)|refine W4 c1 ⟨?_⟩|refine W4 c2 ⟨?_⟩)
  exact db () _ (ay (RV.cellA rfl mmA rfl rfl) (Le.ex ⟨(x,y),⟨hx,hy⟩,hv⟩ Lr)) mmA (LeL.refl _)
abbrev smallL:SV:=ex fun l:{l:Li // l.ok∧l.le 1}=>lq l.1
theorem G8 (x y u v:Int):thr x y ((x:Rat)+1*u) ((y:Rat)+1*v)=fS ((-v:Int):Rat) ((u:Int):Rat) ((v*x-u*y:Int):Rat):=by
 unfold thr
 push_cast
 congr 1 <;> grind
theorem EJ (z:Int) (h:z.natAbs≤1000):il z≤1:=bO (k:=1) (by simp;omega)
theorem pS {a b:Int}(ha:a.natAbs≤4) (hb:b.natAbs≤4):(a*b).natAbs≤16:=by rw [Int.natAbs_mul];exact Nat.mul_le_mul ha hb
theorem v7 {x y u v:Int}(hx:x.natAbs≤4) (hy:y.natAbs≤4) (hu:u.natAbs≤4) (hv:v.natAbs≤4) (hne:u≠0∨v≠0) :
  (∃l:Li,l.ok∧l.le 1∧l=thr x y ((x:Rat)+1*u) ((y:Rat)+1*v))∧Pu Tryz.prog 41 [rp x y,rq 1,rp u v] (rp ((x:Rat)+1*u) ((y:Rat)+1*v))∧
  Pu Tryz.prog 40 [rp x y,rp ((x:Rat)+1*u) ((y:Rat)+1*v)] (Ab.tup [lq (thr x y ((x:Rat)+1*u) ((y:Rat)+1*v)),lit (.bool true)]):=by
 have hx':=pE x om
 have hy':=pE y om
 have hu':=pE u om
 have hv':=pE v om
 have h1:=gj
 have a:=lN x y 1 u v om om om om om
 have k1:=ax 1 (u:Rat)
 have k2:=ax 1 (v:Rat)
 have k3:=cU (x:Rat) (1*u)
 have k4:=cU (y:Rat) (1*v)
 have t:=qx (x:=x) (y:=y) (u:=(x:Rat)+1*u) (v:=(y:Rat)+1*v) (L:=10) om om om om om (by
  rw [show(x:Rat)+1*u-x=u from by grind,show(y:Rat)+1*v-y=v from by grind]
  rcases hne with h|h
  ·exact .inl fun e=>h (f8.1 e)
  ·exact .inr fun e=>h (f8.1 e))
 refine⟨?_,a,t⟩
 rw [G8]
 have hne' : -v≠0∨u≠0:=by omega
 have hm1:=pS hv hx
 have hm2:=pS hu hy
 have hok:(fS ((-v:Int):Rat) ((u:Int):Rat) ((v*x-u*y:Int):Rat)).ok:=zQ (by
  rcases hne' with h|h
  ·exact .inl fun e=>h (f8.1 e)
  ·exact .inr fun e=>h (f8.1 e))
 obtain⟨q1,q2,q3⟩:=wr (v*x-u*y) hne'
 generalize v*x=e1 at *
 generalize u*y=e2 at *
 exact⟨_,hok,⟨EJ _ om,EJ _ om,EJ _ om⟩,rfl⟩
theorem CL (zs:List Int) (hz:zs.length≤400):PuT 18 zs [] smallL:=by
 refine PuM.intro Tryz.func18 rfl kr fun C b=>?_
 repeat(refine A1 ⟨?_⟩;intros)
 refine Wtx (vS zs hz) mmA fun p=>?_
 obtain⟨⟨x,y⟩,hx,hy⟩:=p
 simp only at hx hy
 simp only []
 have x0:{p:Int×Int // (p.1.natAbs≤4∧p.2.natAbs≤4)∧(p.1≠0∨p.2≠0)}:=⟨(1,0),by decide,by decide⟩
 repeat(first|(refine A1 ⟨?_⟩;intros)|refine W4 nc ⟨?_⟩)
 refine Wdo (rk (CH zs hz) rfl mmA) ?_
 refine Wdc (Pu.exAt [rp x y,rq 1] [] x0 fun v=>(v7 hx hy v.2.1.1 v.2.1.2 v.2.2).2.1) ?_
 refine Wdc (Pu.exAt [rp x y] [] x0 fun v=>(v7 hx hy v.2.1.1 v.2.1.2 v.2.2).2.2) ?_
 refine Wdo (OpV.exd 15 x0 rfl fun v=>Ov0) ?_
 refine Wdo (OpV.exd 8 x0 rfl fun v=>Ov0) ?_
 refine Wdo (OpV.exc 8 x0 rfl fun v=>Ov0) ?_
 repeat(refine A1 ⟨?_⟩;intros)
 refine WPL.exd (d:=16) rfl fun v=>?_
 obtain⟨⟨l,hok,hle,e⟩,_⟩:=v7 hx hy v.2.1.1 v.2.1.2 v.2.2
 rw [←e]
 repeat(refine A1 ⟨?_⟩;intros)
 exact db () _ (ay (RV.cellA rfl mmA rfl rfl) (Le.ex ⟨l,hok,hle⟩ Lr)) mmA (LeL.refl _)
end Go.Ab
