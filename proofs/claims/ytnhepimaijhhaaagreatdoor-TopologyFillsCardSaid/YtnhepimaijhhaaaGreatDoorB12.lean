/- Texts laid one behind the other: LnA, LnB, Tape, AffC, Row, LnC. -/
import Derived.Test.YtnhepimaijhhaaaGreatDoorB11
set_option linter.all false
set_option maxHeartbeats 16000000
namespace Go.Ab
open Go.Proofs
variable [Base]
def nrm (xs:List Nat):Bool:=decide (xs.length=0)||decide (xs.getD (xs.length-1) 0≠0)
theorem J2 (n:Nat):nrm (dgs n)=true:=by
 by_cases h:n=0
 ·subst h;rw [aT];rfl
 ·obtain⟨k,h1,h2,_⟩:=wV h;unfold nrm;rw [h1,Nat.add_sub_cancel,decide_eq_true h2,Bool.or_true]
theorem wx (xs:List Nat) (hl:xs.length≤1000000000):Pu Tryz.prog 197 [dg xs] (lit (.bool (nrm xs))):=by
 unfold nrm;by_cases h:xs.length=0
 ·rw [decide_eq_true h,Bool.true_or];refine Pi Tryz.func197 fun C=>?_
  exact Z1
 ·rw [decide_eq_false h,Bool.false_or];by_cases h1:xs.getD (xs.length-1) 0=0
  ·rw [decide_eq_false (fun e=>e h1)];refine Pi Tryz.func197 fun C=>?_
   exact Z1
  ·rw [decide_eq_true h1];refine Pi Tryz.func197 fun C=>?_
   exact Z1
def J3 (s:Bool) (xs:List Nat):Bool:=nrm xs&&(!s||decide (0<xs.length))
theorem FJ (z:Int):J3 (decide (z<0)) (dgs z.natAbs)=true:=by
 unfold J3;rw [J2,Bool.true_and];by_cases h:z<0
 ·rw [decide_eq_true h,decide_eq_true (ci om),Bool.or_true]
 ·rw [decide_eq_false h];rfl
theorem wJ (s:Bool) (xs:List Nat) (hl:xs.length≤1000000000):Pu Tryz.prog 175 [raw s xs] (lit (.bool (J3 s xs))):=by
 have hn:=wx xs hl;unfold J3;cases hx:nrm xs with
 |false =>
  rw [hx]at hn;refine Pi Tryz.func175 fun C=>?_
  exact Y1 hn
 |true =>
  rw [hx]at hn;cases s with
  |false =>
   refine Pi Tryz.func175 fun C=>?_
   exact Y1 hn
  |true =>
   by_cases h:0<xs.length
   ·rw [decide_eq_true h];refine Pi Tryz.func175 fun C=>?_
    exact Y1 hn
   ·rw [decide_eq_false h];refine Pi Tryz.func175 fun C=>?_
    exact Y1 hn
theorem lQ (z:Int) (hl:il z≤1000000000):Pu Tryz.prog 175 [int z] (lit (.bool true)):=by
 have:=wJ (decide (z<0)) (dgs z.natAbs) hl;rwa [FJ]at this
theorem rD (z:Int) (hl:il z≤10000000):Pu Tryz.prog 176 [int z] (fr (z:Rat)):=by
 have r:=mj (decide (z<0)) (dgs z.natAbs) [1] hl (by decide) (aO _) (D.cons om D.nil);rw [an,eK,show val [1]=1 from rfl,Rat.mkRat_one]at r;refine Pi Tryz.func176 fun C=>?_
 repeat(refine A1 ⟨?_⟩;intros)
 refine gA (ds:=[1]) 4 rfl (ac.here _) rfl om om ?_;exact X1 r
theorem LV (a b:Nat) (h1:(dgs a).length≤10000000) (h2:(dgs b).length≤10000000):Pu Tryz.prog 203 [nat a,nat b] (nat (Nat.gcd a b)):=by
 have:=BY (dgs a) (dgs b) h1 h2 (aO _) (aO _);rwa [an,an]at this
theorem jt {a b n:Nat}(ha:(dgs a).length≤n) (hb:(dgs b).length≤n):(dgs (Nat.gcd a b)).length≤n:=by
 by_cases h:a=0
 ·subst h;rw [Nat.gcd_zero_left];exact hb
 ·exact Nat.le_trans (aQ (Nat.gcd_le_left b om)) ha
theorem Jx (x y:Rat):ht (iZ x y)≤ht x+ht y+1:=by
 have h1:=cJ x;have h2:=cS x;have h3:=cJ y;have h4:=cS y;have e1:il x.num=(dgs x.num.natAbs).length:=rfl;have e2:il y.num=(dgs y.num.natAbs).length:=rfl;have m1:=cg x.num.natAbs y.den;have m2:=cg y.num.natAbs x.den;have m3:=cg x.den y.den;have m4:=jt (n:=ht x+ht y) (a:=x.num.natAbs*y.den) (b:=y.num.natAbs*x.den) om om;have:=BU ((Nat.gcd (x.num.natAbs*y.den) (y.num.natAbs*x.den):Nat):Int) (x.den*y.den);rw [th]at this;unfold iZ;omega
theorem GQ {x:Rat}(h:x.den=1):x=(x.num:Rat):=(J0 h).symm
theorem yO (x y:Rat) (hx:ht x≤3000000) (hy:ht y≤3000000):Pu Tryz.prog 178 [fr x,fr y] (fr (iZ x y)):=by
 have d1:=x.den_pos;have d2:=y.den_pos;by_cases h:(bB x∧bB y)∧x.den=1∧y.den=1
 ·obtain⟨⟨hsx,hsy⟩,h1,h2⟩:=h
  have e:iZ x y=((Nat.gcd x.num.natAbs y.num.natAbs:Nat):Rat):=by
   have:=gF x.num y.num;rwa [←GQ h1,←GQ h2]at this
  have bx:=hsx.1;have byy:=hsy.1
  have hg:Nat.gcd x.num.natAbs y.num.natAbs<4611686018427387904:=by
   by_cases h0:x.num.natAbs=0
   ·rw [h0,Nat.gcd_zero_left];exact byy
   ·exact Nat.lt_of_le_of_lt (Nat.gcd_le_left _ om) bx
  have hs:bB ((Nat.gcd x.num.natAbs y.num.natAbs:Nat):Rat):=by
   unfold bB;rw [Rat.num_natCast,Rat.den_natCast];omega
  rw [e,fP hsx,fP hsy,fP hs,Rat.num_natCast,Rat.den_natCast];have g:=C3 x.num.natAbs y.num.natAbs om om;have a1:=lX x.num om om;have a2:=lX y.num om om;generalize Nat.gcd x.num.natAbs y.num.natAbs=k at *;refine Pi Tryz.func178 fun C=>?_
  repeat(first|(refine A1 ⟨?_⟩;intros)|refine W4 a1 ⟨?_⟩|refine W4 a2 ⟨?_⟩|refine W4 g ⟨?_⟩)
  refine aS (aC (RV.cellA rfl List.mem_cons_self rfl rfl) (Le.ag ⟨Le.refl _,Le.int om,Le.refl _,trivial⟩))
 ·have h1:=cJ x;have h2:=cS x;have h3:=cJ y;have h4:=cS y;have e1:il x.num=(dgs x.num.natAbs).length:=rfl;have e2:il y.num=(dgs y.num.natAbs).length:=rfl;have m1:=cg x.num.natAbs y.den;have m2:=cg y.num.natAbs x.den;have m3:=cg x.den y.den;have m4:=jt (n:=ht x+ht y) (a:=x.num.natAbs*y.den) (b:=y.num.natAbs*x.den) om om;have c1:=lU x om;have c2:=lU y om;have c3:=yo x.den y.den om om;have c4:=kK x om;have c5:=kK y om;have c6:=yo x.num.natAbs y.den om om;have c7:=yo y.num.natAbs x.den om om;have c8:=LV (x.num.natAbs*y.den) (y.num.natAbs*x.den) om om;have c9:=mV ((Nat.gcd (x.num.natAbs*y.den) (y.num.natAbs*x.den):Nat):Int) (x.den*y.den) (by rw [th];omega) om;rw [wH]at c9;clear m1 m2 m3 m4 h1 h2 h3 h4 e1 e2;by_cases hsx:bB x
  ·by_cases hsy:bB y
   ·by_cases hx1:x.den=1
    ·have hy1:y.den≠1:=fun e=>h ⟨⟨hsx,hsy⟩,hx1,e⟩
     clear h;rw [fP hsx,fP hsy];rw [fP hsx]at c1 c4;rw [fP hsy]at c2 c5;refine Pi Tryz.func178 fun C=>?_
     repeat(first|(refine A1 ⟨?_⟩;intros)|refine W4 c1 ⟨?_⟩|refine W4 c2 ⟨?_⟩|refine W4 c3 ⟨?_⟩|refine W4 c4 ⟨?_⟩|refine W4 c6 ⟨?_⟩|refine W4 c5 ⟨?_⟩|refine W4 c7 ⟨?_⟩|refine W4 c8 ⟨?_⟩|refine W4 c9 ⟨?_⟩)
     exact G1
    ·clear h;rw [fP hsx,fP hsy];rw [fP hsx]at c1 c4;rw [fP hsy]at c2 c5;refine Pi Tryz.func178 fun C=>?_
     repeat(first|(refine A1 ⟨?_⟩;intros)|refine W4 c1 ⟨?_⟩|refine W4 c2 ⟨?_⟩|refine W4 c3 ⟨?_⟩|refine W4 c4 ⟨?_⟩|refine W4 c6 ⟨?_⟩|refine W4 c5 ⟨?_⟩|refine W4 c7 ⟨?_⟩|refine W4 c8 ⟨?_⟩|refine W4 c9 ⟨?_⟩)
     exact G1
   ·clear h;rw [fP hsx,nC hsy];rw [fP hsx]at c1 c4;rw [nC hsy]at c2 c5;refine Pi Tryz.func178 fun C=>?_
    repeat(first|(refine A1 ⟨?_⟩;intros)|refine W4 c1 ⟨?_⟩|refine W4 c2 ⟨?_⟩|refine W4 c3 ⟨?_⟩|refine W4 c4 ⟨?_⟩|refine W4 c6 ⟨?_⟩|refine W4 c5 ⟨?_⟩|refine W4 c7 ⟨?_⟩|refine W4 c8 ⟨?_⟩|refine W4 c9 ⟨?_⟩)
    exact G1
  ·clear h;rw [nC hsx];rw [nC hsx]at c1 c4;refine Pi Tryz.func178 fun C=>?_
   repeat(first|(refine A1 ⟨?_⟩;intros)|refine W4 c1 ⟨?_⟩|refine W4 c2 ⟨?_⟩|refine W4 c3 ⟨?_⟩|refine W4 c4 ⟨?_⟩|refine W4 c6 ⟨?_⟩|refine W4 c5 ⟨?_⟩|refine W4 c7 ⟨?_⟩|refine W4 c8 ⟨?_⟩|refine W4 c9 ⟨?_⟩)
   exact G1
theorem jc (x:Rat) (h:ht x≤10000000):Pu Tryz.prog 224 [fr x] (lit (.int .i64 x.num.sign)):=by
 by_cases hs:bB x
 ·rw [fP hs];rcases Int.lt_trichotomy x.num 0 with h0|h0|h0
  ·rw [Int.sign_eq_neg_one_of_neg h0];refine Pi Tryz.func224 fun C=>?_
   exact Z1
  ·rw [h0];refine Pi Tryz.func224 fun C=>?_
   exact Z1
  ·rw [Int.sign_eq_one_of_pos h0];refine Pi Tryz.func224 fun C=>?_
   exact Z1
 ·have h1:=cJ x;have e1:il x.num=(dgs x.num.natAbs).length:=rfl;have c:=rS (decide (x.num<0)) (dgs x.num.natAbs) om (aO _);rw [an,eK]at c;rw [nC hs];refine Pi Tryz.func224 fun C=>?_
  exact Y1 c
theorem Jc (a:Int){d:Nat}(hd:d≠0):(mkRat a d).num.sign=a.sign:=by
 rw [(wy a hd).1];have hg:0<Int.gcd a d:=Nat.pos_of_ne_zero (fun e=>by have:=(Int.gcd_eq_zero_iff.1 e).2;omega);obtain⟨q,hq⟩:=Int.gcd_dvd_left a d;generalize Int.gcd a d=g at *;subst hq;have h1:((g:Nat):Int).sign=1:=Int.sign_eq_one_of_pos om;rw [Int.mul_ediv_cancel_left _ om,Int.sign_mul,h1,Int.one_mul]
theorem Em {x y:Rat}(h:x.den=y.den):(x-y).num.sign=(x.num-y.num).sign:=by
 have hd:y.den≠0:=y.den_nz;have h1:((y.den:Nat):Int).sign=1:=Int.sign_eq_one_of_pos om;rw [Rat.sub_def',h,←Int.sub_mul,Jc _ (Nat.mul_ne_zero hd hd),Int.sign_mul,h1,Int.mul_one]
theorem kS (x y:Rat) (hx:ht x≤3000000) (hy:ht y≤3000000):Pu Tryz.prog 204 [fr x,fr y] (lit (.int .i64 (x-y).num.sign)):=by
 have hb:=ef x y;have c1:=vY x y hx hy;have c2:=jc (x-y) om;by_cases h:(bB x∧bB y)∧x.den=y.den
 ·obtain⟨⟨hsx,hsy⟩,hd⟩:=h;rw [fP hsx,fP hsy,Em hd,hd];rcases Int.lt_trichotomy x.num y.num with h0|h0|h0
  ·rw [Int.sign_eq_neg_one_of_neg om];refine Pi Tryz.func204 fun C=>?_
   exact Z1
  ·rw [h0,Int.sub_self];refine Pi Tryz.func204 fun C=>?_
   exact Z1
  ·rw [Int.sign_eq_one_of_pos om];refine Pi Tryz.func204 fun C=>?_
   exact Z1
 ·clear hb;by_cases hsx:bB x
  ·by_cases hsy:bB y
   ·have hd:x.den≠y.den:=fun e=>h ⟨⟨hsx,hsy⟩,e⟩
    clear h;rw [fP hsx,fP hsy]at c1⊢;refine Pi Tryz.func204 fun C=>?_
    exact Y2 c1 c2
   ·clear h;rw [fP hsx,nC hsy]at c1⊢;refine Pi Tryz.func204 fun C=>?_
    exact Y2 c1 c2
  ·clear h;rw [nC hsx]at c1⊢;refine Pi Tryz.func204 fun C=>?_
   exact Y2 c1 c2
theorem eF {x y:Rat}:(x-y).num.sign=0↔x=y:=by
 rw [Int.sign_eq_zero_iff_zero,Rat.num_eq_zero];constructor
 ·intro h;have:=congrArg (· + y) h;simp only [Rat.sub_eq_add_neg,Rat.add_assoc,Rat.neg_add_cancel,Rat.add_zero,Rat.zero_add]at this;exact this
 ·intro h;rw [h,Rat.sub_self]
theorem DA (x y:Rat) (hx:ht x≤3000000) (hy:ht y≤3000000):Pu Tryz.prog 179 [fr x,fr y] (lit (.bool (decide (x=y)))):=by
 have c:=kS x y hx hy;have e:=@eF _ x y;by_cases h:x=y
 ·rw [decide_eq_true h];rw [e.2 h]at c;refine Pi Tryz.func179 fun C=>?_
  exact Y1 c
 ·rw [decide_eq_false h];have e':(x-y).num.sign≠0:=fun k=>h (e.1 k)
  clear e;generalize(x-y).num.sign=s at *;refine Pi Tryz.func179 fun C=>?_
  exact Y1 c
abbrev lf (a b c:Rat):SV:=ag [lit (.int .i64 (r0 a)),lit (.int .i64 (r1 a)),r2 a,lit (.int .i64 (r0 b)),lit (.int .i64 (r1 b)),r2 b,lit (.int .i64 (r0 c)),lit (.int .i64 (r1 c)),r2 c]
abbrev lq (l:Li):SV:=ag [lit (.bool (decide (l.a<0))),nat l.a.natAbs,lit (.bool (decide (l.b<0))),nat l.b.natAbs,lit (.bool (decide (l.c<0))),nat l.c.natAbs]
structure Li.le (l:Li) (L:Nat):Prop where
 a:il l.a≤L
 b:il l.b≤L
 c:il l.c≤L
theorem nk (a b c:Rat):Pu Tryz.prog 229 [lf a b c] (pp a b):=by
 refine Pi Tryz.func229 fun C=>?_
 exact Z2
theorem wh (x y u v:Rat) (hx:ht x≤1000000) (hy:ht y≤1000000) (hu:ht u≤1000000) (hv:ht v≤1000000):Pu Tryz.prog 230 [pp x y,pp u v] (fr (x*u+y*v)):=by
 have h1:=aA x u;have h2:=aA y v;refine Pi Tryz.func230 fun C=>?_
 repeat(first|(refine A1 ⟨?_⟩;intros)|refine W4 (jl x u om om) ⟨?_⟩|refine W4 (jl y v om om) ⟨?_⟩|refine W4 (kF (x*u) (y*v) om om) ⟨?_⟩)
 exact G1
theorem v7 (a b c x y:Rat) (ha:ht a≤100000) (hb:ht b≤100000) (hc:ht c≤100000) (hx:ht x≤100000) (hy:ht y≤100000):Pu Tryz.prog 231 [lf a b c,pp x y] (fr (a*x+b*y+c)):=by
 have h1:=aA a x;have h2:=aA b y;have h3:=dp (a*x) (b*y);have c1:=nk a b c;have c2:=wh a b x y om om om om;have c3:=kF (a*x+b*y) c om om;refine Pi Tryz.func231 fun C=>?_
 repeat(first|(refine A1 ⟨?_⟩;intros)|refine W4 c1 ⟨?_⟩|refine W4 c2 ⟨?_⟩|refine W4 c3 ⟨?_⟩)
 exact G1
theorem eJ (z:Int):ht (z:Rat)=max (il z) 1:=by
 unfold ht;rw [Rat.num_intCast,Rat.den_intCast,kV];rfl
theorem Jr (l:Li) (h:l.le 1000000):Pu Tryz.prog 64 [lf l.a l.b l.c] (lq l):=by
 obtain⟨ha,hb,hc⟩:=h;have e1:=eJ l.a;have e2:=eJ l.b;have e3:=eJ l.c;have c1:=kK (l.a:Rat) om;have c2:=kK (l.b:Rat) om;have c3:=kK (l.c:Rat) om;rw [Rat.num_intCast]at c1 c2 c3;refine Pi Tryz.func64 fun C=>?_
 repeat(first|(refine A1 ⟨?_⟩;intros)|refine W4 c1 ⟨?_⟩|refine W4 c2 ⟨?_⟩|refine W4 c3 ⟨?_⟩)
 exact G1
abbrev o4 (zs:List Int):List SV:=[nsl .i64 zs,ex fun k:{k:Nat // k≤zs.length}=>lit (.int .i64 (k.1:Int))]
section
variable {P:Program}{F:Fr}{H:LH}
variable {C:Ctx}{n:Nat}{ops:Array Oper}{K:Fr→LH→Prop}{rest:List Oper}{ty:TypeId}{pos:String}{aft:Array Edge}
theorem Wtx {d:Nat}{f:FuncId}{l:List Operand}{tys:Array TypeId}{T:TypeId}{b:Nat}{args:Nat→List SV}{cs:List SV}{α:Type}{res:α→SV}(hc:PuM P f T args cs (fun _:Unit=>cs) (fun _=>ex res)) (hm:(b,T,cs)∈H) (k:∀x,WPL P C n ops rest K (upd F d (res x)) H)
  (ha:l.map (ev F)=args b:=by exact rfl) (hd:Nat.blt d n=true:=by exact rfl):WPL P C n ops (⟨some d, .call ⟨.value (.func f),l.toArray,tys⟩,ty,pos,aft,none⟩::rest) K F H :=
 WPL.val (sL hc ha hm) hd (WPL.exd (d:=d) aH fun x=>by
  have e:upd (upd F d (ex res)) d (res x)=upd F d (res x):=by
   funext t
   by_cases h:t=d
   ·subst h;rw [aH,aH]
   ·rw [aq h,aq h,aq h]
  rw [e];exact k x)
theorem tx {rs:Array ResultVar}{T:TypeId}{cs:List SV}(b:Nat) (cs0:List SV) (h:jK P rs.toList (lit (.pointer (some ⟨b,0,none⟩))) F H) (hm:(b,T,cs0)∈H) (hl:LeL cs0 cs):Kl P rs T cs .ret F H:=⟨b,cs0,h,hm,hl⟩
theorem dB {rs:Array ResultVar}{α:Type}{b:Nat}{T:TypeId}{cs':α→List SV}{res:α→SV}(x:α) (cs:List SV) (h:jK P rs.toList (res x) F H) (hm:(b,T,cs)∈H) (hl:LeL cs (cs' x)):LX P rs b T cs' res .ret F H:=⟨x,h,cs,hm,hl⟩
theorem av.exI {α:Type}{m:Mem}{f:α→SV}:∀{cs:List SV}{vs:List Value}(i:Nat),av m cs vs→cs[i]? = some (ex f)→∃x,av m (cs.set i (f x)) vs
 | [],_,i,_,h=>by simp at h
 |_::_,[],_,h,_=>h.elim
 |s::cs,v::vs,0,h,hi=>by
  simp only [List.getElem?_cons_zero,Option.some.injEq]at hi;subst hi;have h1:=h.1.1;unfold ex at h1;obtain⟨x,hx⟩:=h1;exact⟨x,⟨hx,h.1.2⟩,h.2⟩
 |s::cs,v::vs,i+1,h,hi=>by
  obtain⟨x,hx⟩:=av.exI i h.2 (by simpa using hi);exact⟨x,h.1,hx⟩
theorem WP.exH {C:Ctx}{n:Nat}{Q:Exit→Fr→LH→Prop}{α:Type}{f:α→SV}{c:Code}{b:Nat}{T:TypeId}{cs:List SV}{H':α→LH}(i:Nat) (hi:cs[i]? = some (ex f)) (hu:∀x,au b T cs (cs.set i (f x)) H (H' x)) (x0:α)
  (k:∀x,WP P C n c Q F (H' x)):WP P C n c Q F H:=by
 unfold WP at *;rintro a w ⟨hdef,hn,m,h1,h2,h3,h4,h5⟩;obtain⟨g1,arr,g2,g3⟩:=h2.2 _ (hu x0).mem;obtain⟨x,hx⟩:=g3.exI i hi;refine k x a w ⟨hdef,hn,m,h1,⟨(hu x).keys▸h2.1,fun e he=>?_⟩,h3,fun e he=>?_,h5⟩
 ·rcases(hu x).mem' h2.1 e he with rfl|⟨he',_⟩
  ·exact⟨g1,arr,g2,hx⟩
  ·exact h2.2 e he'
 ·have:e.1∈(H' x).map (·.1):=List.mem_map.2 ⟨e,he,rfl⟩;rw [(hu x).keys]at this;obtain⟨e',he',hk'⟩:=List.mem_map.1 this;exact hk'▸h4 e' he'
end
theorem FO (zs:List Int) (hz:zs.length≤9223372036854775807):PuN Tryz.prog 7 70 [nsl .i64 zs] (o4 (zs.take (min zs.length 400))):=by
 obtain⟨k,hk⟩:∃k,k=min zs.length 400:=⟨_,rfl⟩
 rw [←hk];by_cases h:zs.length≤400
 ·have hk:k=zs.length:=by omega
  subst hk;refine PuN.intro Tryz.func7 rfl kr fun C=>?_
  repeat(refine A1 ⟨?_⟩;intros)
  refine Wo (pJ (i:=0) (j:=zs.length) rfl (fun _ h=>by cases h) (fun _=>rfl) (fun y h=>⟨_,_,by cases h;exact rfl,rfl⟩) (fun h=>by cases h) om om rfl) ?_;repeat(refine A1 ⟨?_⟩;intros)
  exact tx _ _ (aC (RV.tmp rfl) Lr) List.mem_cons_self ⟨Le.refl _,Le.ex ⟨0,by simp⟩ Lr,trivial⟩
 ·have hk:k=400:=by omega
  subst hk;refine PuN.intro Tryz.func7 rfl kr fun C=>?_
  repeat(refine A1 ⟨?_⟩;intros)
  refine Wo (pJ (i:=0) (j:=400) rfl (fun _ h=>by cases h) (fun _=>rfl) (fun y h=>⟨_,_,by cases h;exact rfl,rfl⟩) (fun h=>by cases h) om om rfl) ?_;repeat(refine A1 ⟨?_⟩;intros)
  exact tx _ _ (aC (RV.tmp rfl) Lr) List.mem_cons_self ⟨Le.refl _,Le.ex ⟨0,by simp⟩ Lr,trivial⟩
abbrev PuT (f:FuncId) (zs:List Int) (args:List SV) (res:SV):Prop:=PuM Tryz.prog f 70 (fun b=>lit (.pointer (some ⟨b,0,none⟩))::args) (o4 zs) (fun _:Unit=>o4 zs) (fun _=>res)
abbrev M8 (n:Nat):SV:=ex fun k:{k:Nat // k<n}=>lit (.int .i64 (k.1:Int))
theorem cL (zs:List Int) (hz:zs.length≤400) (n:Nat) (hn:0<n) (hn':n≤1000000000):PuT 19 zs [lit (.int .i64 n)] (M8 n):=by
 refine PuM.intro Tryz.func19 rfl kr fun C b=>?_
 refine WP.exH 1 rfl (fun x=>au.here _) ⟨0,om⟩ fun x=>?_
 obtain⟨k,hk⟩:=x;simp only [o4,List.set_cons_succ,List.set_cons_zero];by_cases hkl:k<zs.length
 ·have m1:=Int.tmod_lt_of_pos (zs.getD k 0) (show(0:Int)<n by omega);have m2:=Int.lt_tmod_of_pos (zs.getD k 0) (show(0:Int)<n by omega);repeat(refine A1 ⟨?_⟩;intros)
  generalize(zs.getD k 0).tmod (n:Int)=r at *;refine WPd (fun h=>?_) (fun h=>?_)
  ·repeat(refine A1 ⟨?_⟩;intros)
   exact dB () _ (aC (RV.tmp rfl) (Le.ex ⟨(r+n).toNat,om⟩ (Le.int (by simp only;omega)))) List.mem_cons_self ⟨Le.refl _,Le.ex ⟨k+1,om⟩ Lr,trivial⟩
  ·repeat(refine A1 ⟨?_⟩;intros)
   exact dB () _ (aC (RV.tmp rfl) (Le.ex ⟨r.toNat,om⟩ (Le.int (by simp only;omega)))) List.mem_cons_self ⟨Le.refl _,Le.ex ⟨k+1,om⟩ Lr,trivial⟩
 ·repeat(refine A1 ⟨?_⟩;intros)
  exact dB () _ (aC (RV.tmp rfl) (Le.ex ⟨0,hn⟩ Lr)) List.mem_cons_self ⟨Le.refl _,Le.ex ⟨k,hk⟩ Lr,trivial⟩
theorem Gr (z:Int) (h:z.natAbs<4294967296):ht (z:Rat)≤1:=by
 unfold ht;rw [Rat.num_intCast,Rat.den_intCast,kV];have:il z≤1:=bS (k:=1) (by simpa using h);simp;omega
theorem qG:Le (lit (.slice none 0 0)) (nat (0:Rat).num.natAbs):=by
 rw [show(0:Rat).num.natAbs=0 from rfl,show nat 0=dg []from by show dg (dgs 0)=_;rw [aT]];exact eM
theorem qH:Le (lit (.slice none 0 0)) (dg (kW (0:Rat).den)):=by
 rw [show(0:Rat).den=1 from rfl,ku];exact eM
def Own (T:TypeId) (sz n:Nat) (cs:List SV) (s:SV) (H:LH):Prop :=
 cs.length=n*sz∧((n=0∧s=lit (.slice none 0 0)∧H=[])∨
  ∃b c,n≤c∧c≤maxLen∧s=lit (.slice (some ⟨b,0,none⟩) n c)∧H=[(b,T,cs++List.replicate (c*sz-n*sz) top)])
theorem Own.nil (T:TypeId) (sz:Nat):Own T sz 0 [] (lit (.slice none 0 0)) []:=⟨by simp, .inl ⟨rfl,rfl,rfl⟩⟩
theorem av.tops {m:Mem}:∀(l:List Value),(∀v∈l,v.oneCell'=true)→av m (List.replicate l.length top) l
 | [],_=>trivial
 |v::l,h=>⟨⟨by unfold top;trivial,h v (by simp)⟩,av.tops l fun u hu=>h u (by simp [hu])⟩
theorem av.topL {m:Mem}{l:List Value}{k:Nat}(hk:l.length=k) (h:∀v∈l,v.oneCell'=true):av m (List.replicate k top) l:=hk▸av.tops l h
theorem dQ {z:Array Value}{k:Nat}(h:z.toList.all (·.oneCell')=true):∀v∈(Builtin.zeroCells z k).toList,v.oneCell'=true:=by
 intro v hv;simp only [Builtin.zeroCells,Array.toList_map,Array.toList_range,List.mem_map,List.mem_range]at hv;obtain⟨i,hi,rfl⟩:=hv;have hp:0<z.size:=Nat.pos_of_ne_zero fun e=>by rw [e,Nat.mul_zero]at hi;omega
 have hlt:i%z.size<z.size:=Nat.mod_lt _ hp;rw [getElem!_pos z _ hlt];exact List.all_eq_true.1 h _ (by simp)
theorem av.split {m:Mem}:∀{cs ds:List SV}{l:List Value},av m (cs++ds) l→av m cs (l.take cs.length)∧av m ds (l.drop cs.length)
 | [],_,l,h=>⟨trivial,h⟩
 |_::_,_,[],h=>h.elim
 |_::_,_,_::_,h=>⟨⟨h.1,h.2.split.1⟩,h.2.split.2⟩
section
variable {P:Program}{C:Ctx}{n:Nat}{F:Fr}{H:LH}{ops:Array Oper}{K:Fr→LH→Prop}{rest:List Oper}{ty:TypeId}{pos:String}{aft:Array Edge}
theorem WPL.appOwn {T e:TypeId}{sz by_:Nat}{z:List SV}{g:Bool} [hS:TSl P T e] [hT:TY P e sz by_ z g]{d:Nat}{x y:Operand}{n0 b2 c2:Nat}{T':TypeId}{cs ds:List SV}{s:SV}{Hs Rs:LH}
  (hown:Own e sz n0 cs s Hs) (hx:ev F x=s) (hy:ev F y=lit (.slice (some ⟨b2,0,none⟩) 1 c2)) (hsp:Spl H Hs Rs) (hm:(b2,T',ds)∈Rs) (hds:ds.length=sz) (hpos:0<sz) (hl:n0≤1000000000) (hby:by_≤10000)
  (k:∀s' H',Own e sz (n0+1) (cs++ds) s' H'→WPL P C n ops rest K (upd F d s') (H'++Rs)) (hd:Nat.blt d n=true) :
  WPL P C n ops (⟨some d, .call ⟨.builtin .append,#[x,y],#[T,T]⟩,ty,pos,aft,none⟩::rest) K F H:=by
 unfold WPL;intro a w hs0 Q hq;have hs:=hs0.perm hsp.perm;refine wpList_plain rfl fun K' hK'=>?_
 obtain⟨hdef,hn,m0,h10,h20,h30,h40,h50⟩:=id hs
 have hp0:∀x,(ev F x).p m0 (a.eval x):=fun x=>by
  cases x with
  |tmp t=>exact h50 t
  |const v=>unfold ev lit;rfl
  |global g=>unfold ev lit;rfl
  |func f=>unfold ev lit;rfl
 have e0:=hp0 x;rw [hx]at e0;have e1:=hp0 y;rw [hy,ae]at e1;obtain⟨_,arr2,hb2,hall2⟩:=h20.2 _ (List.mem_append_right Hs hm);obtain⟨i,v,hi,hsz,hbyt,hz,hzl,hfl,hvs⟩:=hT.run_bytes;have hlen2:=hall2.length;simp only [Array.length_toList]at hlen2
 have hys:∀j u,arr2.toList[j]? = some u→w.cell? ((⟨b2,0,none⟩:Addr).add j)=some u:=fun j u hj=>by
  rw [aM,cF w b2 _ arr2 _ _ hb2];simpa using hj
 have hexec:execOp a.eval (⟨some d, .call ⟨.builtin .append,#[x,y],#[T,T]⟩,ty,pos,aft,none⟩:Oper)=(do let v←Builtin.append_ #[T,T] ty #[a.eval x,a.eval y];pure (.value v)):=by
  simp [execOp,resolve,invoke,builtin]
 have hmul:∀q,q≤1000000001→q*by_≤140737488355328:=fun q hq=>Nat.le_trans (Nat.mul_le_mul hq hby) (by decide)
 have get2:∀m,bw m w→HOk m w (Hs++Rs)→av m ds arr2.toList:=fun m _ h2=>by
  obtain⟨_,arr2',hb2',hall2'⟩:=h2.2 _ (List.mem_append_right Hs hm);rw [hb2]at hb2';simp only [Option.some.injEq,Obj.cells.injEq]at hb2';obtain⟨rfl,_⟩:=hb2';exact hall2'
 unfold Oper.wp;rw [hexec,e1];obtain⟨hcl,hcase⟩:=hown;rcases hcase with⟨rfl,rfl,rfl⟩|⟨b,c,hnc,hcm,rfl,rfl⟩
 ·rw [ae]at e0;have hcs:cs=[]:=List.eq_nil_of_length_eq_zero (by rw [hcl,Nat.zero_mul]);subst hcs;have hrun:=run_append_nil (P:=P) w T ty e i v hS.h hi hz ⟨b2,0,none⟩ 1 c2 arr2.toList (by rw [Array.length_toList,hlen2,hsz,hds,Nat.one_mul]) hys om om (by rw [hbyt];have:=hmul 1 om;omega);rw [e0];simp only [Sem.run_bind,hrun,Result.andThen_ok,Sem.run_pure];have hge:=grownCap_ge w 1 0 e;have hle:=grownCap_le_maxLen w 1 0 e (by simp only [maxLen];omega);have h:=k (lit (.slice (some ⟨w.heap.size,0,none⟩) 1 (grownCap w 1 0 e))) [(w.heap.size,e,([]++ds)++List.replicate (grownCap w 1 0 e*sz-1*sz) top)] ⟨by rw [List.nil_append,hds];omega, .inr ⟨_,_,hge,hle,rfl,by rw [Nat.zero_add]⟩⟩;unfold WPL at h;refine hK' _ _ (h _ _ (St.pushD (Nat.blt_eq.mp hd) hs fun m h1 h2 _=>?_) Q hq);simp only [Array.toList_append,List.toList_toArray,List.nil_append];refine(get2 m h1 h2).append (av.topL ?_ (dQ hfl));rw [Array.length_toList,size_zeroCells,hvs,Nat.sub_mul]
 ·rw [ae]at e0;obtain⟨hmb,arr,hb,hall⟩:=h20.2 _ (List.mem_append_left Rs (List.mem_singleton.2 rfl));have hlen:=hall.length;simp only [List.length_append,List.length_replicate,hcl,Array.length_toList]at hlen;have hmono:n0*sz≤c*sz:=Nat.mul_le_mul_right _ hnc
  have getc:∀m,HOk m w ([(b,e,cs++List.replicate (c*sz-n0*sz) top)]++Rs)→av m (cs++List.replicate (c*sz-n0*sz) top) arr.toList:=fun m h2=>by
   obtain⟨_,arr',hb',hall'⟩:=h2.2 _ (List.mem_append_left Rs (List.mem_singleton.2 rfl));rw [hb]at hb';simp only [Option.some.injEq,Obj.cells.injEq]at hb';obtain⟨rfl,_⟩:=hb';exact hall'
  by_cases hroom:n0+1≤c
  ·have hm1:(n0+1)*sz≤c*sz:=Nat.mul_le_mul_right _ hroom;rw [Nat.succ_mul]at hm1;have hrun:=run_append_room (P:=P) w T ty e i hS.h hi b n0 c arr hb ⟨b2,0,none⟩ 1 c2 arr2.toList (by rw [Array.length_toList,hlen2,hsz,hds,Nat.one_mul]) hys hall2.flat hroom (by rw [hsz,Array.length_toList,hlen2,hds];omega);rw [e0];simp only [Sem.run_bind,hrun,Result.andThen_ok,Sem.run_pure];have h:=k (lit (.slice (some ⟨b,0,none⟩) (n0+1) c)) [(b,e,(cs++ds)++List.replicate (c*sz-(n0+1)*sz) top)] ⟨by rw [List.length_append,hcl,hds,Nat.succ_mul], .inr ⟨_,_,hroom,hcm,rfl,rfl⟩⟩;unfold WPL at h
   have hfin:av m0 ((cs++ds)++List.replicate (c*sz-(n0+1)*sz) top) (arr.toList.take (n0*i.size)++arr2.toList++arr.toList.drop (n0*i.size+arr2.toList.length)).toArray.toList:=by
    obtain⟨q1,q2⟩:=(getc m0 h20).split;rw [hcl]at q1 q2;rw [hsz,Array.length_toList,hlen2,hds,List.toList_toArray];refine(q1.append (get2 m0 h10 h20)).append (av.topL ?_ fun u hu=>?_)
    ·rw [List.length_drop,Array.length_toList,Nat.succ_mul];omega
    ·exact hall.flat u (List.mem_of_mem_drop hu)
   obtain⟨q1,q2,q3,q4⟩:=iX (w':=w.setRow b (arr.toList.take (n0*i.size)++arr2.toList++arr.toList.drop (n0*i.size+arr2.toList.length)).toArray) h10 h20 h30 h40 (.here Rs)
    (setRow_heap w b arr _ e _ hb) (fun j hj=>setRow_other w b j _ hj) rfl rfl rfl (by simp) hfin
   refine hK' _ _ (h (a.put (some d) (.slice (some ⟨b,0,none⟩) (n0+1) c)) _ ⟨hdef,by simpa [Act.put] using hn,m0,q1,q2,q3,q4,fun t=>?_⟩ Q hq);rw [fD (Nat.lt_of_lt_of_le (Nat.blt_eq.mp hd) hn)];unfold Ab.upd;by_cases ht:t=d
   ·subst ht;rw [if_pos rfl,Nat.beq_refl];exact ae.2 rfl
   ·rw [if_neg ht]
    have:Nat.beq t d=false:=by
     cases hbb:Nat.beq t d with
     |false=>rfl
     |true=>exact absurd (Nat.eq_of_beq_eq_true hbb) ht
    rw [this];exact h50 t
  ·have hxs:∀j u,(arr.toList.take (n0*sz))[j]? = some u→w.cell? ((⟨b,0,none⟩:Addr).add j)=some u:=fun j u hj=>by
    rw [aM,cF w b _ arr _ _ hb];rw [List.getElem?_take]at hj;split at hj
    ·simpa using hj
    ·cases hj
   have hrun:=run_append_grow (P:=P) w T ty e i v hS.h hi hz ⟨b,0,none⟩ n0 c (arr.toList.take (n0*sz)) (by rw [List.length_take,Array.length_toList,hsz];omega) hxs
    ⟨b2,0,none⟩ 1 c2 arr2.toList (by rw [Array.length_toList,hlen2,hsz,hds,Nat.one_mul]) hys om om (growslice_fits om (by rw [hbyt];exact hmul _ om))
   rw [e0];simp only [Sem.run_bind,hrun,Result.andThen_ok,Sem.run_pure];have hge:=grownCap_ge w (n0+1) c e;have hle:=grownCap_le_maxLen w (n0+1) c e (by simp only [maxLen];omega)
   have h:=k (lit (.slice (some ⟨w.heap.size,0,none⟩) (n0+1) (grownCap w (n0+1) c e))) [(w.heap.size,e,(cs++ds)++List.replicate (grownCap w (n0+1) c e*sz-(n0+1)*sz) top)]
    ⟨by rw [List.length_append,hcl,hds,Nat.succ_mul], .inr ⟨_,_,hge,hle,rfl,rfl⟩⟩
   unfold WPL at h
   have hst:=St.pushD (d:=d) (cs:=(cs++ds)++List.replicate (grownCap w (n0+1) c e*sz-(n0+1)*sz) top) (v := .slice (some ⟨w.heap.size,0,none⟩) (n0+1) (grownCap w (n0+1) c e)) (T:=e)
    (arr:=(arr.toList.take (n0*sz)).toArray++arr2.toList.toArray++Builtin.zeroCells v.cells (grownCap w (n0+1) c e-(n0+1))) (Nat.blt_eq.mp hd) hs fun m h1 h2 _=>?_
   ·refine hK' _ _ (h _ _ ?_ Q hq);exact hst.drop (.there _ (.here _))
   ·simp only [Array.toList_append,List.toList_toArray];obtain⟨q1,_⟩:=(getc m h2).split;rw [hcl]at q1;refine(q1.append (get2 m h1 h2)).append (av.topL ?_ (dQ hfl));rw [Array.length_toList,size_zeroCells,hvs,Nat.sub_mul]
inductive Tk:LH→LH→LH→Prop
 |nil (R:LH):Tk R [] R
 |same (R:LH):Tk R R []
 |cons {b:Nat}{T:TypeId}{cs:List SV}{H H1 Hin R:LH}(h:ac b T cs H H1) (k:Tk H1 Hin R):Tk H ((b,T,cs)::Hin) R
 |skip (e:Nat×TypeId×List SV){H Hin R:LH}(k:Tk H Hin R):Tk (e::H) Hin (e::R)
theorem Tk.perm {H Hin R:LH}(h:Tk H Hin R):H.Perm (Hin++R):=by
 induction h with
 |nil=>exact List.Perm.refl _
 |same=>rw [List.append_nil]
 |cons h _ ih=>exact h.perm.trans (ih.cons _)
 |skip e _ ih=>exact(ih.cons e).trans List.perm_middle.symm
theorem Spl.app:∀(Hin R:LH),Spl (Hin++R) Hin R
 | [],R => .nil R
 |(_,_,_)::Hin,R => .cons (.here _) (Spl.app Hin R)
theorem WPL.perm {l:List Oper}{H':LH}(hp:H.Perm H') (k:WPL P C n ops l K F H'):WPL P C n ops l K F H:=by
 unfold WPL at *;exact fun a w hs=>k a w (hs.perm hp)
theorem WP.perm {c:Code}{H':LH}{Q:Exit→Fr→LH→Prop}(hp:H.Perm H') (k:WP P C n c Q F H'):WP P C n c Q F H:=by
 unfold WP at *;exact fun a w hs=>k a w (hs.perm hp)
theorem WfT {f:FuncId}{d:Nat}{l:List Operand}{tys:Array TypeId}{svs:List SV}{Hin Rs:LH}{R:SV→LH→Prop}(hc:PuH P f svs Hin R noX) (k:∀res H',R res H'→WPL P C n ops rest K (upd F d res) (Rs++H'))
  (ha:l.map (ev F)=svs:=by exact rfl) (hs:Tk H Hin Rs:=by(repeat(first|exact Tk.nil _|exact Tk.same _|(apply Tk.cons;(first|exact(ac.here _)|exact(ac.there _ (ac.here _))|exact(ac.there _ (ac.there _ (ac.here _)))|exact(ac.there _ (ac.there _ (ac.there _ (ac.here _))))|exact(ac.there _ (ac.there _ (ac.there _ (ac.there _ (ac.here _)))))|exact(ac.there _ (ac.there _ (ac.there _ (ac.there _ (ac.there _ (ac.here _))))))|exact(ac.there _ (ac.there _ (ac.there _ (ac.there _ (ac.there _ (ac.there _ (ac.here _)))))))|exact(ac.there _ (ac.there _ (ac.there _ (ac.there _ (ac.there _ (ac.there _ (ac.there _ (ac.here _))))))))|exact(ac.there _ (ac.there _ (ac.there _ (ac.there _ (ac.there _ (ac.there _ (ac.there _ (ac.there _ (ac.here _)))))))))|exact(ac.there _ (ac.there _ (ac.there _ (ac.there _ (ac.there _ (ac.there _ (ac.there _ (ac.there _ (ac.there _ (ac.here _))))))))))))|apply Tk.skip))) (hd:Nat.blt d n=true:=by exact rfl) :
  WPL P C n ops (⟨some d, .call ⟨.value (.func f),l.toArray,tys⟩,ty,pos,aft,none⟩::rest) K F H :=
 .perm hs.perm (.callH (s:=lit (.func (.func f) #[] #[])) (first:=[]) (caps:=[]) rfl hc (Spl.app _ _) (by rw [List.nil_append,List.append_nil];exact ha) hd (fun res H' h => .perm List.perm_append_comm (k res H' h)) fun _ _ h=>h.elim)
theorem WvT {x:Operand}{f:FuncId}{first caps:List SV}{d:Nat}{l:List Operand}{tys:Array TypeId}{svs:List SV}{Hin Rs:LH}{R:SV→LH→Prop}(hc:PuH P f svs Hin R noX) (k:∀res H',R res H'→WPL P C n ops rest K (upd F d res) (Rs++H'))
  (hx:ev F x=fnv f first caps:=by exact rfl) (ha:first++l.map (ev F)++caps=svs:=by exact rfl) (hs:Tk H Hin Rs:=by(repeat(first|exact Tk.nil _|exact Tk.same _|(apply Tk.cons;(first|exact(ac.here _)|exact(ac.there _ (ac.here _))|exact(ac.there _ (ac.there _ (ac.here _)))|exact(ac.there _ (ac.there _ (ac.there _ (ac.here _))))|exact(ac.there _ (ac.there _ (ac.there _ (ac.there _ (ac.here _)))))|exact(ac.there _ (ac.there _ (ac.there _ (ac.there _ (ac.there _ (ac.here _))))))|exact(ac.there _ (ac.there _ (ac.there _ (ac.there _ (ac.there _ (ac.there _ (ac.here _)))))))|exact(ac.there _ (ac.there _ (ac.there _ (ac.there _ (ac.there _ (ac.there _ (ac.there _ (ac.here _))))))))|exact(ac.there _ (ac.there _ (ac.there _ (ac.there _ (ac.there _ (ac.there _ (ac.there _ (ac.there _ (ac.here _)))))))))|exact(ac.there _ (ac.there _ (ac.there _ (ac.there _ (ac.there _ (ac.there _ (ac.there _ (ac.there _ (ac.there _ (ac.here _))))))))))))|apply Tk.skip))) (hd:Nat.blt d n=true:=by exact rfl) :
  WPL P C n ops (⟨some d, .call ⟨.value x,l.toArray,tys⟩,ty,pos,aft,none⟩::rest) K F H :=
 .perm hs.perm (.callH hx hc (Spl.app _ _) ha hd (fun res H' h => .perm List.perm_append_comm (k res H' h)) fun _ _ h=>h.elim)
theorem DZ {T e:TypeId}{sz by_:Nat}{z:List SV}{g:Bool} [hS:TSl P T e] [hT:TY P e sz by_ z g]{d:Nat}{x y:Operand}{n0 b2 c2:Nat}{T':TypeId}{cs ds:List SV}{s:SV}{Hs Rs:LH}
  (hown:Own e sz n0 cs s Hs) (hl:n0≤1000000000) (k:∀s' H',Own e sz (n0+1) (cs++ds) s' H'→WPL P C n ops rest K (upd F d s') (Rs++H'))
  (hx:ev F x=s:=by exact rfl) (hy:ev F y=lit (.slice (some ⟨b2,0,none⟩) 1 c2):=by exact rfl) (hsp:Tk H Hs Rs:=by(repeat(first|exact Tk.nil _|exact Tk.same _|(apply Tk.cons;(first|exact(ac.here _)|exact(ac.there _ (ac.here _))|exact(ac.there _ (ac.there _ (ac.here _)))|exact(ac.there _ (ac.there _ (ac.there _ (ac.here _))))|exact(ac.there _ (ac.there _ (ac.there _ (ac.there _ (ac.here _)))))|exact(ac.there _ (ac.there _ (ac.there _ (ac.there _ (ac.there _ (ac.here _))))))|exact(ac.there _ (ac.there _ (ac.there _ (ac.there _ (ac.there _ (ac.there _ (ac.here _)))))))|exact(ac.there _ (ac.there _ (ac.there _ (ac.there _ (ac.there _ (ac.there _ (ac.there _ (ac.here _))))))))|exact(ac.there _ (ac.there _ (ac.there _ (ac.there _ (ac.there _ (ac.there _ (ac.there _ (ac.there _ (ac.here _)))))))))|exact(ac.there _ (ac.there _ (ac.there _ (ac.there _ (ac.there _ (ac.there _ (ac.there _ (ac.there _ (ac.there _ (ac.here _))))))))))))|apply Tk.skip))) (hm:(b2,T',ds)∈Rs:=by(first|exact Ms|exact(Mc Ms)|exact(Mc (Mc Ms))|exact(Mc (Mc (Mc Ms)))|exact(Mc (Mc (Mc (Mc Ms))))|exact(Mc (Mc (Mc (Mc (Mc Ms)))))|exact(Mc (Mc (Mc (Mc (Mc (Mc Ms))))))|exact(Mc (Mc (Mc (Mc (Mc (Mc (Mc Ms)))))))|exact(Mc (Mc (Mc (Mc (Mc (Mc (Mc (Mc Ms))))))))|exact(Mc (Mc (Mc (Mc (Mc (Mc (Mc (Mc (Mc Ms))))))))))) (hds:ds.length=sz:=by exact rfl) (hpos:0<sz:=by decide) (hby:by_≤10000:=by decide)
  (hd:Nat.blt d n=true:=by exact rfl) :
  WPL P C n ops (⟨some d, .call ⟨.builtin .append,#[x,y],#[T,T]⟩,ty,pos,aft,none⟩::rest) K F H :=
 .perm hsp.perm (.appOwn hown hx hy (Spl.app _ _) hm hds hpos hl hby (fun s' H' h => .perm List.perm_append_comm (k s' H' h)) hd)
theorem Own.co {T:TypeId}{sz n0:Nat}{cs:List SV}{s:SV}{Hs:LH}(h:Own T sz n0 cs s Hs):CO s [s]:=by
 obtain⟨_,⟨_,rfl,_⟩|⟨_,_,_,_,rfl,_⟩⟩:=h <;> exact gq fun m v hv=>by rw [ae]at hv;subst hv;exact⟨rfl,rfl⟩
theorem ax {T e:TypeId}{sz n0:Nat}{cs:List SV}{s:SV}{Hs:LH}{x:Operand} [hS:TSl P T e] (h:Own e sz n0 cs s Hs) (hx:ev F x=s):OpV P (.call ⟨.builtin .len,#[x],#[T]⟩) ty F H (lit (.int .i64 n0)):=by
 obtain⟨_,⟨rfl,rfl,_⟩|⟨_,_,_,_,rfl,_⟩⟩:=h
 ·exact ws hx
 ·exact ws hx
end
theorem Jk {l:Li}(hl:l.ok) (h:l.le 100000):Pu Tryz.prog 142 [lq l] (Ab.tup [lf l.a l.b l.c,lit (.bool true)]):=by
 obtain⟨ha,hb,hc⟩:=h;have e1:=eJ l.a;have e2:=eJ l.b;have e3:=eJ l.c;have n1:=lQ l.a om;have n2:=lQ l.b om;have n3:=lQ l.c om;have w1:=rD l.a om;have w2:=rD l.b om;have w3:=rD l.c om;have z1:=AU (l.a:Rat);have z2:=AU (l.b:Rat);rw [Rat.num_intCast]at z1 z2;have hg1:=Jx (l.a:Rat) (l.b:Rat);have g1:=yO (l.a:Rat) (l.b:Rat) om om;have g2:=yO (iZ l.a l.b) (l.c:Rat) om om
 have hg:iZ (iZ l.a l.b) l.c=1:=by
  rw [gF,show((Nat.gcd l.a.natAbs l.b.natAbs:Nat):Rat)=(((Nat.gcd l.a.natAbs l.b.natAbs:Nat):Int):Rat)from rfl,gF,Int.natAbs_natCast,hl.1];rfl
 rw [hg]at g2;generalize iZ (l.a:Rat) (l.b:Rat)=G at *;have f1:Pu Tryz.prog 180 [lit (.int .i64 1)] (fr 1):=wT 1 om om;have q:=DA 1 1 (by decide +kernel) (by decide +kernel);rw [decide_eq_true rfl]at q;have hne:=hl.2;clear hg hg1 e1 e2 e3 ha hb hc hl;by_cases h0:l.a=0
 ·have h9:l.b≠0:=by
   rcases hne with h|h
   ·exact absurd h0 h
   ·exact h
  rw [decide_eq_true h0]at z1;rw [decide_eq_false h9]at z2;clear hne h9 h0;refine Pi Tryz.func142 fun C=>?_
  repeat(first|(refine A1 ⟨?_⟩;intros)|refine W4 n1 ⟨?_⟩|refine W4 n2 ⟨?_⟩|refine W4 n3 ⟨?_⟩|refine W4 w1 ⟨?_⟩|refine W4 w2 ⟨?_⟩|refine W4 w3 ⟨?_⟩|refine W4 z1 ⟨?_⟩|refine W4 z2 ⟨?_⟩|refine W4 g1 ⟨?_⟩|refine W4 g2 ⟨?_⟩|refine W4 f1 ⟨?_⟩|refine W4 q ⟨?_⟩)
  exact G3
 ·rw [decide_eq_false h0]at z1;clear hne h0 z2;refine Pi Tryz.func142 fun C=>?_
  repeat(first|(refine A1 ⟨?_⟩;intros)|refine W4 n1 ⟨?_⟩|refine W4 n2 ⟨?_⟩|refine W4 n3 ⟨?_⟩|refine W4 w1 ⟨?_⟩|refine W4 w2 ⟨?_⟩|refine W4 w3 ⟨?_⟩|refine W4 z1 ⟨?_⟩|refine W4 g1 ⟨?_⟩|refine W4 g2 ⟨?_⟩|refine W4 f1 ⟨?_⟩|refine W4 q ⟨?_⟩)
  exact G3
end Go.Ab
