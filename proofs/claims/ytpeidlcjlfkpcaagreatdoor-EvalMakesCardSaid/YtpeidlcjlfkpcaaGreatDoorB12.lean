/- Texts laid one behind the other: LnA, LnB, Tape, AffC, Row. -/
import Derived.Test.YtpeidlcjlfkpcaaGreatDoorB11
set_option linter.all false
set_option maxHeartbeats 16000000
namespace Go.Ab
open Go.Proofs
variable [Base]
def nrm (xs:List Nat):Bool:=decide (xs.length=0)||decide (xs.getD (xs.length-1) 0≠0)
theorem H5 (n:Nat):nrm (dgs n)=true:=by
 by_cases h:n=0
 ·subst h;rw [bW];rfl
 ·obtain⟨k,h1,h2,_⟩:=Ca h;unfold nrm;rw [h1,dZ,a9 h2,bB]
theorem uH (xs:List Nat) (hl:xs.length≤1000000000):Pu Tryz.prog 206 [dg xs] (lit (.bool (nrm xs))):=by
 unfold nrm;by_cases h:xs.length=0
 ·rw [a9 h,bs];refine Pi Tryz.func206 fun C=>?_
  exact Z1
 ·rw [aa h,aW];by_cases h1:xs.getD (xs.length-1) 0=0
  ·rw [aa (fun e=>e h1)];refine Pi Tryz.func206 fun C=>?_
   exact Z1
  ·rw [a9 h1];refine Pi Tryz.func206 fun C=>?_
   exact Z1
def BM (s:Bool) (xs:List Nat):Bool:=nrm xs&&(!s||decide (0<xs.length))
theorem Du (z:Int):BM (decide (z<0)) (dgs z.natAbs)=true:=by
 unfold BM;rw [H5,aX];by_cases h:z<0
 ·rw [a9 h,a9 (f0 om),bB]
 ·rw [aa h];rfl
theorem uN (s:Bool) (xs:List Nat) (hl:xs.length≤1000000000):Pu Tryz.prog 158 [raw s xs] (lit (.bool (BM s xs))):=by
 have hn:=uH xs hl;unfold BM;cases hx:nrm xs with
 |false =>
  rw [hx]at hn;refine Pi Tryz.func158 fun C=>?_
  exact Y1 hn
 |true =>
  rw [hx]at hn;cases s with
  |false =>
   refine Pi Tryz.func158 fun C=>?_
   exact Y1 hn
  |true =>
   by_cases h:0<xs.length
   ·rw [a9 h];refine Pi Tryz.func158 fun C=>?_
    exact Y1 hn
   ·rw [aa h];refine Pi Tryz.func158 fun C=>?_
    exact Y1 hn
theorem rA (z:Int) (hl:il z≤1000000000):Pu Tryz.prog 158 [int z] (lit (.bool true)):=by
 have:=uN (decide (z<0)) (dgs z.natAbs) hl;rwa [Du]at this
theorem xQ (z:Int) (hl:il z≤10000000):Pu Tryz.prog 159 [int z] (fr (z:Rat)):=by
 have r:=pm (decide (z<0)) (dgs z.natAbs) [1] hl (by decide) (cu _) (D.cons om D.nil);rw [aK,iM,show val [1]=1 from rfl,jA]at r;refine Pi Tryz.func159 fun C=>?_
 refine A2 ⟨?_⟩;intros;refine lr (ds:=[1]) 4 rfl (aq.here _) rfl om om ?_;exact X1 r
theorem Qp (a b:Nat) (h1:(dgs a).length≤10000000) (h2:(dgs b).length≤10000000):Pu Tryz.prog 212 [nat a,nat b] (nat (Nat.gcd a b)):=by
 have:=Hu (dgs a) (dgs b) h1 h2 (cu _) (cu _);rwa [aK,aK]at this
theorem mr {a b n:Nat}(ha:(dgs a).length≤n) (hb:(dgs b).length≤n):(dgs (Nat.gcd a b)).length≤n:=by
 by_cases h:a=0
 ·subst h;rw [tb];exact hb
 ·exact aU (cI (Nat.gcd_le_left b om)) ha
theorem C0 (x y:Rat):ht (kb x y)≤ht x+ht y+1:=by
 have h1:=ef x;have h2:=eh x;have h3:=ef y;have h4:=eh y;have e1:il x.num=(dgs x.num.natAbs).length:=rfl;have e2:il y.num=(dgs y.num.natAbs).length:=rfl;have m1:=ew x.num.natAbs y.den;have m2:=ew y.num.natAbs x.den;have m3:=ew x.den y.den;have m4:=mr (n:=ht x+ht y) (a:=x.num.natAbs*y.den) (b:=y.num.natAbs*x.den) om om;have:=AJ ((Nat.gcd (x.num.natAbs*y.den) (y.num.natAbs*x.den):Nat):Int) (x.den*y.den);rw [yL]at this;unfold kb;omega
theorem MG {x:Rat}(h:x.den=1):x=(x.num:Rat):=(OP h).symm
theorem uW (x y:Rat) (hx:ht x≤3000000) (hy:ht y≤3000000):Pu Tryz.prog 161 [fr x,fr y] (fr (kb x y)):=by
 have d1:=x.den_pos;have d2:=y.den_pos;by_cases h:(dW x∧dW y)∧x.den=1∧y.den=1
 ·obtain⟨⟨hsx,hsy⟩,h1,h2⟩:=h
  have e:kb x y=((Nat.gcd x.num.natAbs y.num.natAbs:Nat):Rat):=by
   have:=lP x.num y.num;rwa [←MG h1,←MG h2]at this
  have bx:=hsx.1;have byy:=hsy.1
  have hg:Nat.gcd x.num.natAbs y.num.natAbs<4611686018427387904:=by
   by_cases h0:x.num.natAbs=0
   ·rw [h0,tb];exact byy
   ·exact kL (Nat.gcd_le_left _ om) bx
  have hs:dW ((Nat.gcd x.num.natAbs y.num.natAbs:Nat):Rat):=by
   unfold dW;rw [Rat.num_natCast,Rat.den_natCast];omega
  rw [e,kh hsx,kh hsy,kh hs,Rat.num_natCast,Rat.den_natCast];have g:=HB x.num.natAbs y.num.natAbs om om;have a1:=rK x.num om om;have a2:=rK y.num om om;generalize Nat.gcd x.num.natAbs y.num.natAbs=k at *;refine Pi Tryz.func161 fun C=>?_
  refine D3 a1 a2 g ⟨?_⟩;intros;refine cV (bJ (RV.cellA rfl cL rfl rfl) (Le.ag ⟨Le.refl _,Le.int om,Le.refl _,trivial⟩))
 ·have h1:=ef x;have h2:=eh x;have h3:=ef y;have h4:=eh y;have e1:il x.num=(dgs x.num.natAbs).length:=rfl;have e2:il y.num=(dgs y.num.natAbs).length:=rfl;have m1:=ew x.num.natAbs y.den;have m2:=ew y.num.natAbs x.den;have m3:=ew x.den y.den;have m4:=mr (n:=ht x+ht y) (a:=x.num.natAbs*y.den) (b:=y.num.natAbs*x.den) om om;have c1:=qM x om;have c2:=qM y om;have c3:=DA x.den y.den om om;have c4:=oS x om;have c5:=oS y om;have c6:=DA x.num.natAbs y.den om om;have c7:=DA y.num.natAbs x.den om om;have c8:=Qp (x.num.natAbs*y.den) (y.num.natAbs*x.den) om om;have c9:=tI ((Nat.gcd (x.num.natAbs*y.den) (y.num.natAbs*x.den):Nat):Int) (x.den*y.den) (by rw [yL];omega) om;rw [xf]at c9;clear m1 m2 m3 m4 h1 h2 h3 h4 e1 e2;by_cases hsx:dW x
  ·by_cases hsy:dW y
   ·by_cases hx1:x.den=1
    ·have hy1:y.den≠1:=fun e=>h ⟨⟨hsx,hsy⟩,hx1,e⟩
     clear h;rw [kh hsx,kh hsy];rw [kh hsx]at c1 c4;rw [kh hsy]at c2 c5;refine Pi Tryz.func161 fun C=>?_
     repeat(first|(refine A1 ⟨?_⟩;intros)|refine W4 c1 ⟨?_⟩|refine W4 c2 ⟨?_⟩|refine W4 c3 ⟨?_⟩|refine W4 c4 ⟨?_⟩|refine W4 c6 ⟨?_⟩|refine W4 c5 ⟨?_⟩|refine W4 c7 ⟨?_⟩|refine W4 c8 ⟨?_⟩|refine W4 c9 ⟨?_⟩)
     exact G1
    ·clear h;rw [kh hsx,kh hsy];rw [kh hsx]at c1 c4;rw [kh hsy]at c2 c5;refine Pi Tryz.func161 fun C=>?_
     repeat(first|(refine A1 ⟨?_⟩;intros)|refine W4 c1 ⟨?_⟩|refine W4 c2 ⟨?_⟩|refine W4 c3 ⟨?_⟩|refine W4 c4 ⟨?_⟩|refine W4 c6 ⟨?_⟩|refine W4 c5 ⟨?_⟩|refine W4 c7 ⟨?_⟩|refine W4 c8 ⟨?_⟩|refine W4 c9 ⟨?_⟩)
     exact G1
   ·clear h;rw [kh hsx,sK hsy];rw [kh hsx]at c1 c4;rw [sK hsy]at c2 c5;refine Pi Tryz.func161 fun C=>?_
    repeat(first|(refine A1 ⟨?_⟩;intros)|refine W4 c1 ⟨?_⟩|refine W4 c2 ⟨?_⟩|refine W4 c3 ⟨?_⟩|refine W4 c4 ⟨?_⟩|refine W4 c6 ⟨?_⟩|refine W4 c5 ⟨?_⟩|refine W4 c7 ⟨?_⟩|refine W4 c8 ⟨?_⟩|refine W4 c9 ⟨?_⟩)
    exact G1
  ·clear h;rw [sK hsx];rw [sK hsx]at c1 c4;refine Pi Tryz.func161 fun C=>?_
   repeat(first|(refine A1 ⟨?_⟩;intros)|refine W4 c1 ⟨?_⟩|refine W4 c2 ⟨?_⟩|refine W4 c3 ⟨?_⟩|refine W4 c4 ⟨?_⟩|refine W4 c6 ⟨?_⟩|refine W4 c5 ⟨?_⟩|refine W4 c7 ⟨?_⟩|refine W4 c8 ⟨?_⟩|refine W4 c9 ⟨?_⟩)
   exact G1
theorem oh (x:Rat) (h:ht x≤10000000):Pu Tryz.prog 254 [fr x] (lit (.int .i64 x.num.sign)):=by
 by_cases hs:dW x
 ·rw [kh hs];rcases iy x.num 0 with h0|h0|h0
  ·rw [gf h0];refine Pi Tryz.func254 fun C=>?_
   exact Z1
  ·rw [h0];refine Pi Tryz.func254 fun C=>?_
   exact Z1
  ·rw [fy h0];refine Pi Tryz.func254 fun C=>?_
   exact Z1
 ·have h1:=ef x;have e1:il x.num=(dgs x.num.natAbs).length:=rfl;have c:=uh (decide (x.num<0)) (dgs x.num.natAbs) om (cu _);rw [aK,iM]at c;rw [sK hs];refine Pi Tryz.func254 fun C=>?_
  exact Y1 c
theorem OZ (a:Int){d:Nat}(hd:d≠0):(mkRat a d).num.sign=a.sign:=by
 rw [(BO a hd).1];have hg:0<Int.gcd a d:=f9 (fun e=>by have:=(Int.gcd_eq_zero_iff.1 e).2;omega);obtain⟨q,hq⟩:=tg a d;generalize Int.gcd a d=g at *;subst hq;have h1:((g:Nat):Int).sign=1:=fy om;rw [tf _ om,Int.sign_mul,h1,Int.one_mul]
theorem Kd {x y:Rat}(h:x.den=y.den):(x-y).num.sign=(x.num-y.num).sign:=by
 have hd:y.den≠0:=y.den_nz;have h1:((y.den:Nat):Int).sign=1:=fy om;rw [Rat.sub_def',h,←Int.sub_mul,OZ _ (iu hd hd),Int.sign_mul,h1,qe]
theorem qH (x y:Rat) (hx:ht x≤3000000) (hy:ht y≤3000000):Pu Tryz.prog 213 [fr x,fr y] (lit (.int .i64 (x-y).num.sign)):=by
 have hb:=gh x y;have c1:=um x y hx hy;have c2:=oh (x-y) om;by_cases h:(dW x∧dW y)∧x.den=y.den
 ·obtain⟨⟨hsx,hsy⟩,hd⟩:=h;rw [kh hsx,kh hsy,Kd hd,hd];rcases iy x.num y.num with h0|h0|h0
  ·rw [gf om];refine Pi Tryz.func213 fun C=>?_
   exact Z1
  ·rw [h0,Int.sub_self];refine Pi Tryz.func213 fun C=>?_
   exact Z1
  ·rw [fy om];refine Pi Tryz.func213 fun C=>?_
   exact Z1
 ·clear hb;by_cases hsx:dW x
  ·by_cases hsy:dW y
   ·have hd:x.den≠y.den:=fun e=>h ⟨⟨hsx,hsy⟩,e⟩
    clear h;rw [kh hsx,kh hsy]at c1⊢;refine Pi Tryz.func213 fun C=>?_
    exact Y2 c1 c2
   ·clear h;rw [kh hsx,sK hsy]at c1⊢;refine Pi Tryz.func213 fun C=>?_
    exact Y2 c1 c2
  ·clear h;rw [sK hsx]at c1⊢;refine Pi Tryz.func213 fun C=>?_
   exact Y2 c1 c2
theorem jj {x y:Rat}:(x-y).num.sign=0↔x=y:=by
 rw [gc,ga];constructor
 ·intro h;have:=congrArg (· + y) h;simp only [pY,Rat.add_assoc,Rat.neg_add_cancel,pU,nA]at this;exact this
 ·intro h;rw [h,Rat.sub_self]
theorem Jm (x y:Rat) (hx:ht x≤3000000) (hy:ht y≤3000000):Pu Tryz.prog 162 [fr x,fr y] (lit (.bool (decide (x=y)))):=by
 have c:=qH x y hx hy;have e:=@jj _ x y;by_cases h:x=y
 ·rw [a9 h];rw [e.2 h]at c;refine Pi Tryz.func162 fun C=>?_
  exact Y1 c
 ·rw [aa h];have e':(x-y).num.sign≠0:=fun k=>h (e.1 k)
  clear e;generalize(x-y).num.sign=s at *;refine Pi Tryz.func162 fun C=>?_
  exact Y1 c
abbrev lf (a b c:Rat):SV:=ag [lit (.int .i64 (r0 a)),lit (.int .i64 (r1 a)),r2 a,lit (.int .i64 (r0 b)),lit (.int .i64 (r1 b)),r2 b,lit (.int .i64 (r0 c)),lit (.int .i64 (r1 c)),r2 c]
abbrev lq (l:Li):SV:=ag [lit (.bool (decide (l.a<0))),nat l.a.natAbs,lit (.bool (decide (l.b<0))),nat l.b.natAbs,lit (.bool (decide (l.c<0))),nat l.c.natAbs]
structure Li.le (l:Li) (L:Nat):Prop where
 a:il l.a≤L
 b:il l.b≤L
 c:il l.c≤L
theorem tN (a b c:Rat):Pu Tryz.prog 307 [lf a b c] (pp a b):=by
 refine Pi Tryz.func307 fun C=>?_
 exact Z2
theorem uz (x y u v:Rat) (hx:ht x≤1000000) (hy:ht y≤1000000) (hu:ht u≤1000000) (hv:ht v≤1000000):Pu Tryz.prog 173 [pp x y,pp u v] (fr (x*u+y*v)):=by
 have h1:=be x u;have h2:=be y v;refine Pi Tryz.func173 fun C=>?_
 refine D3 (l8 x u om om) (l8 y v om om) (qp (x*u) (y*v) om om) ⟨?_⟩;intros;exact G1
theorem AB (a b c x y:Rat) (ha:ht a≤100000) (hb:ht b≤100000) (hc:ht c≤100000) (hx:ht x≤100000) (hy:ht y≤100000):Pu Tryz.prog 308 [lf a b c,pp x y] (fr (a*x+b*y+c)):=by
 have h1:=be a x;have h2:=be b y;have h3:=fo (a*x) (b*y);have c1:=tN a b c;have c2:=uz a b x y om om om om;have c3:=qp (a*x+b*y) c om om;refine Pi Tryz.func308 fun C=>?_
 refine D3 c1 c2 c3 ⟨?_⟩;intros;exact G1
theorem gZ (z:Int):ht (z:Rat)=max (il z) 1:=by
 unfold ht;rw [eA,jy,qL];rfl
theorem Pm (l:Li) (h:l.le 1000000):Pu Tryz.prog 48 [lf l.a l.b l.c] (lq l):=by
 obtain⟨ha,hb,hc⟩:=h;have e1:=gZ l.a;have e2:=gZ l.b;have e3:=gZ l.c;have c1:=oS (l.a:Rat) om;have c2:=oS (l.b:Rat) om;have c3:=oS (l.c:Rat) om;rw [eA]at c1 c2 c3;refine Pi Tryz.func48 fun C=>?_
 refine D3 c1 c2 c3 ⟨?_⟩;intros;exact G1
theorem Ro (v:Value) (w:World):(Go.method ((Tryz.prog).types.size+Made.depth) 126 v "Mul").run Tryz.prog w = .ok (228,v) w:=by kernel_rfl
abbrev fr3 (a b c:Rat):List SV:=[lit (.int .i64 (r0 a)),lit (.int .i64 (r1 a)),r2 a,lit (.int .i64 (r0 b)),lit (.int .i64 (r1 b)),r2 b,lit (.int .i64 (r0 c)),lit (.int .i64 (r1 c)),r2 c]
set_option maxRecDepth 20000 in
theorem Im (b0:Nat) (f a b c:Rat) (hf:ht f≤1000000) (ha:ht a≤1000000) (hb:ht b≤1000000) (hc:ht c≤1000000) :
  PuH Tryz.prog 226 [fr f,lit (.slice (some ⟨b0,0,none⟩) 3 3)] [(b0,126,fr3 a b c)] (fun r H=>r=lit (.slice (some ⟨b0,0,none⟩) 3 3)∧H=[(b0,126,fr3 (a*f) (b*f) (c*f))]) noX:=by
 have m1:=l8 a f om om;have m2:=l8 b f om om;have m3:=l8 c f om om;refine PuH.intro Tryz.func226 rfl kr fun C hC=>?_
 refine A2 ⟨?_⟩;intros;refine WP.unroll 4 ?_;refine A2 ⟨?_⟩;intros;refine Wdo (sf Ro m1 rfl rfl) ?_;refine A2 ⟨?_⟩;intros;refine Wdo (sf Ro m2 rfl rfl) ?_;refine A2 ⟨?_⟩;intros;refine Wdo (sf Ro m3 rfl rfl) ?_;refine A2 ⟨?_⟩;intros;exact ct _ _ (bJ (RV.tmp rfl) Lr) (Sc Sr) ⟨rfl,rfl⟩
abbrev mB (zs:List Int):List SV:=[nsl .i64 zs,ex fun k:{k:Nat // k≤zs.length}=>lit (.int .i64 (k.1:Int))]
section
variable {P:Program}{F:Fr}{H:LH}
variable {C:Ctx}{n:Nat}{ops:Array Oper}{K:Fr→LH→Prop}{rest:List Oper}{ty:TypeId}{pos:String}{aft:Array Edge}
theorem Wtx {d:Nat}{f:FuncId}{l:List Operand}{tys:Array TypeId}{T:TypeId}{b:Nat}{args:Nat→List SV}{cs:List SV}{α:Type}{res:α→SV}(hc:PuM P f T args cs (fun _:Unit=>cs) (fun _=>ex res)) (hm:(b,T,cs)∈H) (k:∀x,WPL P C n ops rest K (upd F d (res x)) H)
  (ha:l.map (ev F)=args b:=by exact rfl) (hd:Nat.blt d n=true:=by exact rfl):WPL P C n ops (⟨some d, .call ⟨.value (.func f),l.toArray,tys⟩,ty,pos,aft,none⟩::rest) K F H :=
 WPL.val (dS hc ha hm) hd (WPL.exd (d:=d) bS fun x=>by
  have e:upd (upd F d (ex res)) d (res x)=upd F d (res x):=by
   funext t
   by_cases h:t=d
   ·subst h;rw [bS,bS]
   ·rw [bz h,bz h,bz h]
  rw [e];exact k x)
theorem yY {rs:Array ResultVar}{T:TypeId}{cs:List SV}(b:Nat) (cs0:List SV) (h:ou P rs.toList (lit (.pointer (some ⟨b,0,none⟩))) F H) (hm:(b,T,cs0)∈H) (hl:LeL cs0 cs):Qt P rs T cs .ret F H:=⟨b,cs0,h,hm,hl⟩
theorem fK {rs:Array ResultVar}{α:Type}{b:Nat}{T:TypeId}{cs':α→List SV}{res:α→SV}(x:α) (cs:List SV) (h:ou P rs.toList (res x) F H) (hm:(b,T,cs)∈H) (hl:LeL cs (cs' x)):SQ P rs b T cs' res .ret F H:=⟨x,h,cs,hm,hl⟩
theorem bk.exI {α:Type}{m:Mem}{f:α→SV}:∀{cs:List SV}{vs:List Value}(i:Nat),bk m cs vs→cs[i]? = some (ex f)→∃x,bk m (cs.set i (f x)) vs
 | [],_,i,_,h=>by simp at h
 |_::_,[],_,h,_=>h.elim
 |s::cs,v::vs,0,h,hi=>by
  simp only [ff,bM]at hi;subst hi;have h1:=h.1.1;unfold ex at h1;obtain⟨x,hx⟩:=h1;exact⟨x,⟨hx,h.1.2⟩,h.2⟩
 |s::cs,v::vs,i+1,h,hi=>by
  obtain⟨x,hx⟩:=bk.exI i h.2 (by simpa using hi);exact⟨x,h.1,hx⟩
theorem WP.exH {C:Ctx}{n:Nat}{Q:Exit→Fr→LH→Prop}{α:Type}{f:α→SV}{c:Code}{b:Nat}{T:TypeId}{cs:List SV}{H':α→LH}(i:Nat) (hi:cs[i]? = some (ex f)) (hu:∀x,br b T cs (cs.set i (f x)) H (H' x)) (x0:α)
  (k:∀x,WP P C n c Q F (H' x)):WP P C n c Q F H:=by
 unfold WP at *;rintro a w ⟨hdef,hn,m,h1,h2,h3,h4,h5⟩;obtain⟨g1,arr,g2,g3⟩:=h2.2 _ (hu x0).mem;obtain⟨x,hx⟩:=g3.exI i hi;refine k x a w ⟨hdef,hn,m,h1,⟨(hu x).keys▸h2.1,fun e he=>?_⟩,h3,fun e he=>?_,h5⟩
 ·rcases(hu x).mem' h2.1 e he with rfl|⟨he',_⟩
  ·exact⟨g1,arr,g2,hx⟩
  ·exact h2.2 e he'
 ·have:e.1∈(H' x).map (·.1):=aj.2 ⟨e,he,rfl⟩;rw [(hu x).keys]at this;obtain⟨e',he',hk'⟩:=aj.1 this;exact hk'▸h4 e' he'
end
theorem Rm (zs:List Int) (hz:zs.length≤9223372036854775807):PuN Tryz.prog 4 56 [nsl .i64 zs] (mB (zs.take (min zs.length 400))):=by
 obtain⟨k,hk⟩:∃k,k=min zs.length 400:=⟨_,rfl⟩
 rw [←hk];by_cases h:zs.length≤400
 ·have hk:k=zs.length:=by omega
  subst hk;refine PuN.intro Tryz.func4 rfl kr fun C=>?_
  refine A2 ⟨?_⟩;intros;refine Wo (vV (i:=0) (j:=zs.length) rfl (fun _ h=>by cases h) (fun _=>rfl) (fun y h=>⟨_,_,by cases h;exact rfl,rfl⟩) (fun h=>by cases h) om om rfl) ?_;refine A2 ⟨?_⟩;intros;exact yY _ _ (bJ (RV.tmp rfl) Lr) cL ⟨Le.refl _,Le.ex ⟨0,by simp⟩ Lr,trivial⟩
 ·have hk:k=400:=by omega
  subst hk;refine PuN.intro Tryz.func4 rfl kr fun C=>?_
  refine A2 ⟨?_⟩;intros;refine Wo (vV (i:=0) (j:=400) rfl (fun _ h=>by cases h) (fun _=>rfl) (fun y h=>⟨_,_,by cases h;exact rfl,rfl⟩) (fun h=>by cases h) om om rfl) ?_;refine A2 ⟨?_⟩;intros;exact yY _ _ (bJ (RV.tmp rfl) Lr) cL ⟨Le.refl _,Le.ex ⟨0,by simp⟩ Lr,trivial⟩
abbrev PuT (f:FuncId) (zs:List Int) (args:List SV) (res:SV):Prop:=PuM Tryz.prog f 56 (fun b=>lit (.pointer (some ⟨b,0,none⟩))::args) (mB zs) (fun _:Unit=>mB zs) (fun _=>res)
abbrev SZ (n:Nat):SV:=ex fun k:{k:Nat // k<n}=>lit (.int .i64 (k.1:Int))
theorem fj (zs:List Int) (hz:zs.length≤400) (n:Nat) (hn:0<n) (hn':n≤1000000000):PuT 16 zs [lit (.int .i64 n)] (SZ n):=by
 refine PuM.intro Tryz.func16 rfl kr fun C b=>?_
 refine WP.exH 1 rfl (fun x=>br.here _) ⟨0,om⟩ fun x=>?_
 obtain⟨k,hk⟩:=x;simp only [mB,j0,gK];by_cases hkl:k<zs.length
 ·have m1:=Int.tmod_lt_of_pos (zs.getD k 0) (show(0:Int)<n by omega);have m2:=Int.lt_tmod_of_pos (zs.getD k 0) (show(0:Int)<n by omega);refine A2 ⟨?_⟩;intros;generalize(zs.getD k 0).tmod (n:Int)=r at *;refine WPd (fun h=>?_) (fun h=>?_)
  ·refine A2 ⟨?_⟩;intros;exact fK () _ (bJ (RV.tmp rfl) (Le.ex ⟨(r+n).toNat,om⟩ (Le.int (by simp only;omega)))) cL ⟨Le.refl _,Le.ex ⟨k+1,om⟩ Lr,trivial⟩
  ·refine A2 ⟨?_⟩;intros;exact fK () _ (bJ (RV.tmp rfl) (Le.ex ⟨r.toNat,om⟩ (Le.int (by simp only;omega)))) cL ⟨Le.refl _,Le.ex ⟨k+1,om⟩ Lr,trivial⟩
 ·refine A2 ⟨?_⟩;intros;exact fK () _ (bJ (RV.tmp rfl) (Le.ex ⟨0,hn⟩ Lr)) cL ⟨Le.refl _,Le.ex ⟨k,hk⟩ Lr,trivial⟩
abbrev smallR:SV:=ex fun x:{x:Rat // ht x≤1}=>rq x.1
theorem Mm (z:Int) (d:Nat) (hz:z.natAbs<4294967296) (hd:d<4294967296):ht (mkRat z d)≤1:=by
 have h:=AJ z d;have h1:il z≤1:=dU (k:=1) (by simpa using hz);have h2:=dU (n:=d) (k:=1) (by simpa using hd);omega
theorem FE (z:Int) (h:z.natAbs<4294967296):ht (z:Rat)≤1:=by
 unfold ht;rw [eA,jy,qL];have:il z≤1:=dU (k:=1) (by simpa using h);simp;omega
theorem Sj (zs:List Int) (hz:zs.length≤400):PuT 41 zs [] smallR:=by
 refine PuM.intro Tryz.func41 rfl kr fun C b=>?_
 refine A2 ⟨?_⟩;intros;refine Wtx (fj zs hz 9 om om) (Mc Ms) fun k=>?_
 obtain⟨k,hk⟩:=k;simp only [];refine A2 ⟨?_⟩;intros;refine Wtx (fj zs hz 6 om om) (Mc Ms) fun j=>?_
 obtain⟨j,hj⟩:=j;simp only [];have fin:∀(x:Rat),ht x≤1→Le (ag [lit (.bool (decide (x.num<0))),nat x.num.natAbs,dg (oX x.den)]) smallR:=fun x hx=>Le.ex ⟨x,hx⟩ Lr
 by_cases hj0:j=0
 ·have hp:=CL (2*((k:Int)-4)+1) 2 om om om om;refine D1 hp ⟨?_⟩;intros;exact fK () _ (bJ (RV.cellA rfl cL rfl rfl) (fin _ (Mm _ _ om om))) (Mc Ms) (LeL.refl _)
 ·by_cases hj1:j=1
  ·have hp:=CL (3*((k:Int)-4)+1) 3 om om om om;refine D1 hp ⟨?_⟩;intros;exact fK () _ (bJ (RV.cellA rfl cL rfl rfl) (fin _ (Mm _ _ om om))) (Mc Ms) (LeL.refl _)
  ·have hp:=vR ((k:Int)-4) om om;refine D1 hp ⟨?_⟩;intros;exact fK () _ (bJ (RV.cellA rfl cL rfl rfl) (fin _ (FE _ om))) (Mc Ms) (LeL.refl _)
theorem wP:Le (lit (.slice none 0 0)) (nat (0:Rat).num.natAbs):=by
 rw [show(0:Rat).num.natAbs=0 from rfl,show nat 0=dg []from by show dg (dgs 0)=_;rw [bW]];exact gz
theorem wQ:Le (lit (.slice none 0 0)) (dg (oX (0:Rat).den)):=by
 rw [show(0:Rat).den=1 from rfl,pJ];exact gz
def Own (T:TypeId) (sz n:Nat) (cs:List SV) (s:SV) (H:LH):Prop :=
 cs.length=n*sz∧((n=0∧s=lit (.slice none 0 0)∧H=[])∨
  ∃b c,n≤c∧c≤maxLen∧s=lit (.slice (some ⟨b,0,none⟩) n c)∧H=[(b,T,cs++List.replicate (c*sz-n*sz) top)])
theorem Own.nil (T:TypeId) (sz:Nat):Own T sz 0 [] (lit (.slice none 0 0)) []:=⟨by simp, .inl ⟨rfl,rfl,rfl⟩⟩
theorem bk.tops {m:Mem}:∀(l:List Value),(∀v∈l,v.oneCell'=true)→bk m (List.replicate l.length top) l
 | [],_=>trivial
 |v::l,h=>⟨⟨by unfold top;trivial,h v (by simp)⟩,bk.tops l fun u hu=>h u (by simp [hu])⟩
theorem bk.topL {m:Mem}{l:List Value}{k:Nat}(hk:l.length=k) (h:∀v∈l,v.oneCell'=true):bk m (List.replicate k top) l:=hk▸bk.tops l h
theorem fL {z:Array Value}{k:Nat}(h:z.toList.all (·.oneCell')=true):∀v∈(Builtin.zeroCells z k).toList,v.oneCell'=true:=by
 intro v hv;simp only [Builtin.zeroCells,tm,tj,aj,dE]at hv;obtain⟨i,hi,rfl⟩:=hv;have hp:0<z.size:=f9 fun e=>by rw [e,jD]at hi;omega
 have hlt:i%z.size<z.size:=cS _ hp;rw [getElem!_pos z _ hlt];exact fQ.1 h _ (by simp)
theorem bk.split {m:Mem}:∀{cs ds:List SV}{l:List Value},bk m (cs++ds) l→bk m cs (l.take cs.length)∧bk m ds (l.drop cs.length)
 | [],_,l,h=>⟨trivial,h⟩
 |_::_,_,[],h=>h.elim
 |_::_,_,_::_,h=>⟨⟨h.1,h.2.split.1⟩,h.2.split.2⟩
section
variable {P:Program}{C:Ctx}{n:Nat}{F:Fr}{H:LH}{ops:Array Oper}{K:Fr→LH→Prop}{rest:List Oper}{ty:TypeId}{pos:String}{aft:Array Edge}
theorem WPL.appOwn {T e:TypeId}{sz by_:Nat}{z:List SV}{g:Bool} [hS:TSl P T e] [hT:TY P e sz by_ z g]{d:Nat}{x y:Operand}{n0 b2 c2:Nat}{T':TypeId}{cs ds:List SV}{s:SV}{Hs Rs:LH}
  (hown:Own e sz n0 cs s Hs) (hx:ev F x=s) (hy:ev F y=lit (.slice (some ⟨b2,0,none⟩) 1 c2)) (hsp:Spl H Hs Rs) (hm:(b2,T',ds)∈Rs) (hds:ds.length=sz) (hpos:0<sz) (hl:n0≤1000000000) (hby:by_≤10000)
  (k:∀s' H',Own e sz (n0+1) (cs++ds) s' H'→WPL P C n ops rest K (upd F d s') (H'++Rs)) (hd:Nat.blt d n=true) :
  WPL P C n ops (⟨some d, .call ⟨.builtin .append,#[x,y],#[T,T]⟩,ty,pos,aft,none⟩::rest) K F H:=by
 unfold WPL;intro a w hs0 Q hq;have hs:=hs0.perm hsp.perm;refine wpList_plain rfl fun K' hK'=>?_
 obtain⟨hdef,hn,m0,h10,h20,h30,h40,h50⟩:=id hs
 have hp0:∀x,(ev F x).p m0 (a.eval x):=fun x=>by
  cases x with
  |tmp t=>exact h50 t
  |const v=>unfold ev lit;rfl
  |global g=>unfold ev lit;rfl
  |func f=>unfold ev lit;rfl
 have e0:=hp0 x;rw [hx]at e0;have e1:=hp0 y;rw [hy,ap]at e1;obtain⟨_,arr2,hb2,hall2⟩:=h20.2 _ (cN Hs hm);obtain⟨i,v,hi,hsz,hbyt,hz,hzl,hfl,hvs⟩:=hT.run_bytes;have hlen2:=hall2.length;simp only [aN]at hlen2
 have hys:∀j u,arr2.toList[j]? = some u→w.cell? ((⟨b2,0,none⟩:Addr).add j)=some u:=fun j u hj=>by
  rw [cE,eB w b2 _ arr2 _ _ hb2];simpa using hj
 have hexec:execOp a.eval (⟨some d, .call ⟨.builtin .append,#[x,y],#[T,T]⟩,ty,pos,aft,none⟩:Oper)=(do let v←Builtin.append_ #[T,T] ty #[a.eval x,a.eval y];pure (.value v)):=by
  simp [execOp,resolve,invoke,builtin]
 have hmul:∀q,q≤1000000001→q*by_≤140737488355328:=fun q hq=>aU (db hq hby) (by decide)
 have get2:∀m,dD m w→HOk m w (Hs++Rs)→bk m ds arr2.toList:=fun m _ h2=>by
  obtain⟨_,arr2',hb2',hall2'⟩:=h2.2 _ (cN Hs hm);rw [hb2]at hb2';simp only [bM,Obj.cells.injEq]at hb2';obtain⟨rfl,_⟩:=hb2';exact hall2'
 unfold Oper.wp;rw [hexec,e1];obtain⟨hcl,hcase⟩:=hown;rcases hcase with⟨rfl,rfl,rfl⟩|⟨b,c,hnc,hcm,rfl,rfl⟩
 ·rw [ap]at e0;have hcs:cs=[]:=cT (by rw [hcl,bQ]);subst hcs;have hrun:=run_append_nil (P:=P) w T ty e i v hS.h hi hz ⟨b2,0,none⟩ 1 c2 arr2.toList (by rw [aN,hlen2,hsz,hds,aY]) hys om om (by rw [hbyt];have:=hmul 1 om;omega);rw [e0];simp only [Sem.run_bind,hrun,Result.andThen_ok,Sem.run_pure];have hge:=grownCap_ge w 1 0 e;have hle:=grownCap_le_maxLen w 1 0 e (by simp only [maxLen];omega);have h:=k (lit (.slice (some ⟨w.heap.size,0,none⟩) 1 (grownCap w 1 0 e))) [(w.heap.size,e,([]++ds)++List.replicate (grownCap w 1 0 e*sz-1*sz) top)] ⟨by rw [a8,hds];omega, .inr ⟨_,_,hge,hle,rfl,by rw [aB]⟩⟩;unfold WPL at h;refine hK' _ _ (h _ _ (St.pushD (ay.mp hd) hs fun m h1 h2 _=>?_) Q hq);simp only [fF,du,a8];refine(get2 m h1 h2).append (bk.topL ?_ (fL hfl));rw [aN,size_zeroCells,hvs,ij]
 ·rw [ap]at e0;obtain⟨hmb,arr,hb,hall⟩:=h20.2 _ (cG Rs (ar.2 rfl));have hlen:=hall.length;simp only [ac,iW,hcl,aN]at hlen;have hmono:n0*sz≤c*sz:=aR _ hnc
  have getc:∀m,HOk m w ([(b,e,cs++List.replicate (c*sz-n0*sz) top)]++Rs)→bk m (cs++List.replicate (c*sz-n0*sz) top) arr.toList:=fun m h2=>by
   obtain⟨_,arr',hb',hall'⟩:=h2.2 _ (cG Rs (ar.2 rfl));rw [hb]at hb';simp only [bM,Obj.cells.injEq]at hb';obtain⟨rfl,_⟩:=hb';exact hall'
  by_cases hroom:n0+1≤c
  ·have hm1:(n0+1)*sz≤c*sz:=aR _ hroom;rw [e6]at hm1;have hrun:=run_append_room (P:=P) w T ty e i hS.h hi b n0 c arr hb ⟨b2,0,none⟩ 1 c2 arr2.toList (by rw [aN,hlen2,hsz,hds,aY]) hys hall2.flat hroom (by rw [hsz,aN,hlen2,hds];omega);rw [e0];simp only [Sem.run_bind,hrun,Result.andThen_ok,Sem.run_pure];have h:=k (lit (.slice (some ⟨b,0,none⟩) (n0+1) c)) [(b,e,(cs++ds)++List.replicate (c*sz-(n0+1)*sz) top)] ⟨by rw [ac,hcl,hds,e6], .inr ⟨_,_,hroom,hcm,rfl,rfl⟩⟩;unfold WPL at h
   have hfin:bk m0 ((cs++ds)++List.replicate (c*sz-(n0+1)*sz) top) (arr.toList.take (n0*i.size)++arr2.toList++arr.toList.drop (n0*i.size+arr2.toList.length)).toArray.toList:=by
    obtain⟨q1,q2⟩:=(getc m0 h20).split;rw [hcl]at q1 q2;rw [hsz,aN,hlen2,hds,du];refine(q1.append (get2 m0 h10 h20)).append (bk.topL ?_ fun u hu=>?_)
    ·rw [cO,aN,e6];omega
    ·exact hall.flat u (kM hu)
   obtain⟨q1,q2,q3,q4⟩:=mf (w':=w.setRow b (arr.toList.take (n0*i.size)++arr2.toList++arr.toList.drop (n0*i.size+arr2.toList.length)).toArray) h10 h20 h30 h40 (.here Rs)
    (setRow_heap w b arr _ e _ hb) (fun j hj=>setRow_other w b j _ hj) rfl rfl ⟨rfl,rfl⟩ (by simp) hfin
   refine hK' _ _ (h (a.put (some d) (.slice (some ⟨b,0,none⟩) (n0+1) c)) _ ⟨hdef,by simpa [Act.put] using hn,m0,q1,q2,q3,q4,fun t=>?_⟩ Q hq);rw [gT (cQ (ay.mp hd) hn)];unfold Ab.upd;by_cases ht:t=d
   ·subst ht;rw [if_pos rfl,cY];exact ap.2 rfl
   ·rw [if_neg ht]
    have:Nat.beq t d=false:=by
     cases hbb:Nat.beq t d with
     |false=>rfl
     |true=>exact absurd (bA hbb) ht
    rw [this];exact h50 t
  ·have hxs:∀j u,(arr.toList.take (n0*sz))[j]? = some u→w.cell? ((⟨b,0,none⟩:Addr).add j)=some u:=fun j u hj=>by
    rw [cE,eB w b _ arr _ _ hb];rw [eE]at hj;split at hj
    ·simpa using hj
    ·cases hj
   have hrun:=run_append_grow (P:=P) w T ty e i v hS.h hi hz ⟨b,0,none⟩ n0 c (arr.toList.take (n0*sz)) (by rw [aC,aN,hsz];omega) hxs
    ⟨b2,0,none⟩ 1 c2 arr2.toList (by rw [aN,hlen2,hsz,hds,aY]) hys om om (growslice_fits om (by rw [hbyt];exact hmul _ om))
   rw [e0];simp only [Sem.run_bind,hrun,Result.andThen_ok,Sem.run_pure];have hge:=grownCap_ge w (n0+1) c e;have hle:=grownCap_le_maxLen w (n0+1) c e (by simp only [maxLen];omega)
   have h:=k (lit (.slice (some ⟨w.heap.size,0,none⟩) (n0+1) (grownCap w (n0+1) c e))) [(w.heap.size,e,(cs++ds)++List.replicate (grownCap w (n0+1) c e*sz-(n0+1)*sz) top)]
    ⟨by rw [ac,hcl,hds,e6], .inr ⟨_,_,hge,hle,rfl,rfl⟩⟩
   unfold WPL at h
   have hst:=St.pushD (d:=d) (cs:=(cs++ds)++List.replicate (grownCap w (n0+1) c e*sz-(n0+1)*sz) top) (v := .slice (some ⟨w.heap.size,0,none⟩) (n0+1) (grownCap w (n0+1) c e)) (T:=e)
    (arr:=(arr.toList.take (n0*sz)).toArray++arr2.toList.toArray++Builtin.zeroCells v.cells (grownCap w (n0+1) c e-(n0+1))) (ay.mp hd) hs fun m h1 h2 _=>?_
   ·refine hK' _ _ (h _ _ ?_ Q hq);exact hst.drop (.there _ (.here _))
   ·simp only [fF,du];obtain⟨q1,_⟩:=(getc m h2).split;rw [hcl]at q1;refine(q1.append (get2 m h1 h2)).append (bk.topL ?_ (fL hfl));rw [aN,size_zeroCells,hvs,ij]
inductive Tk:LH→LH→LH→Prop
 |nil (R:LH):Tk R [] R
 |same (R:LH):Tk R R []
 |cons {b:Nat}{T:TypeId}{cs:List SV}{H H1 Hin R:LH}(h:aq b T cs H H1) (k:Tk H1 Hin R):Tk H ((b,T,cs)::Hin) R
 |skip (e:Nat×TypeId×List SV){H Hin R:LH}(k:Tk H Hin R):Tk (e::H) Hin (e::R)
theorem Tk.perm {H Hin R:LH}(h:Tk H Hin R):H.Perm (Hin++R):=by
 induction h with
 |nil=>exact j5 _
 |same=>rw [bd]
 |cons h _ ih=>exact h.perm.trans (ih.cons _)
 |skip e _ ih=>exact(ih.cons e).trans lL.symm
theorem Spl.app:∀(Hin R:LH),Spl (Hin++R) Hin R
 | [],R => .nil R
 |(_,_,_)::Hin,R => .cons (.here _) (Spl.app Hin R)
theorem WPL.perm {l:List Oper}{H':LH}(hp:H.Perm H') (k:WPL P C n ops l K F H'):WPL P C n ops l K F H:=by
 unfold WPL at *;exact fun a w hs=>k a w (hs.perm hp)
theorem WP.perm {c:Code}{H':LH}{Q:Exit→Fr→LH→Prop}(hp:H.Perm H') (k:WP P C n c Q F H'):WP P C n c Q F H:=by
 unfold WP at *;exact fun a w hs=>k a w (hs.perm hp)
theorem WfT {f:FuncId}{d:Nat}{l:List Operand}{tys:Array TypeId}{svs:List SV}{Hin Rs:LH}{R:SV→LH→Prop}(hc:PuH P f svs Hin R noX) (k:∀res H',R res H'→WPL P C n ops rest K (upd F d res) (Rs++H'))
  (ha:l.map (ev F)=svs:=by exact rfl) (hs:Tk H Hin Rs:=by(repeat(first|exact Tk.nil _|exact Tk.same _|(apply Tk.cons;(first|exact(aq.here _)|exact(aq.there _ (aq.here _))|exact(aq.there _ (aq.there _ (aq.here _)))|exact(aq.there _ (aq.there _ (aq.there _ (aq.here _))))|exact(aq.there _ (aq.there _ (aq.there _ (aq.there _ (aq.here _)))))|exact(aq.there _ (aq.there _ (aq.there _ (aq.there _ (aq.there _ (aq.here _))))))|exact(aq.there _ (aq.there _ (aq.there _ (aq.there _ (aq.there _ (aq.there _ (aq.here _)))))))|exact(aq.there _ (aq.there _ (aq.there _ (aq.there _ (aq.there _ (aq.there _ (aq.there _ (aq.here _))))))))|exact(aq.there _ (aq.there _ (aq.there _ (aq.there _ (aq.there _ (aq.there _ (aq.there _ (aq.there _ (aq.here _)))))))))|exact(aq.there _ (aq.there _ (aq.there _ (aq.there _ (aq.there _ (aq.there _ (aq.there _ (aq.there _ (aq.there _ (aq.here _))))))))))))|apply Tk.skip))) (hd:Nat.blt d n=true:=by exact rfl) :
  WPL P C n ops (⟨some d, .call ⟨.value (.func f),l.toArray,tys⟩,ty,pos,aft,none⟩::rest) K F H :=
 .perm hs.perm (.callH (s:=lit (.func (.func f) #[] #[])) (first:=[]) (caps:=[]) rfl hc (Spl.app _ _) (by rw [a8,bd];exact ha) hd (fun res H' h => .perm aG (k res H' h)) fun _ _ h=>h.elim)
theorem WvT {x:Operand}{f:FuncId}{first caps:List SV}{d:Nat}{l:List Operand}{tys:Array TypeId}{svs:List SV}{Hin Rs:LH}{R:SV→LH→Prop}(hc:PuH P f svs Hin R noX) (k:∀res H',R res H'→WPL P C n ops rest K (upd F d res) (Rs++H'))
  (hx:ev F x=fnv f first caps:=by exact rfl) (ha:first++l.map (ev F)++caps=svs:=by exact rfl) (hs:Tk H Hin Rs:=by(repeat(first|exact Tk.nil _|exact Tk.same _|(apply Tk.cons;(first|exact(aq.here _)|exact(aq.there _ (aq.here _))|exact(aq.there _ (aq.there _ (aq.here _)))|exact(aq.there _ (aq.there _ (aq.there _ (aq.here _))))|exact(aq.there _ (aq.there _ (aq.there _ (aq.there _ (aq.here _)))))|exact(aq.there _ (aq.there _ (aq.there _ (aq.there _ (aq.there _ (aq.here _))))))|exact(aq.there _ (aq.there _ (aq.there _ (aq.there _ (aq.there _ (aq.there _ (aq.here _)))))))|exact(aq.there _ (aq.there _ (aq.there _ (aq.there _ (aq.there _ (aq.there _ (aq.there _ (aq.here _))))))))|exact(aq.there _ (aq.there _ (aq.there _ (aq.there _ (aq.there _ (aq.there _ (aq.there _ (aq.there _ (aq.here _)))))))))|exact(aq.there _ (aq.there _ (aq.there _ (aq.there _ (aq.there _ (aq.there _ (aq.there _ (aq.there _ (aq.there _ (aq.here _))))))))))))|apply Tk.skip))) (hd:Nat.blt d n=true:=by exact rfl) :
  WPL P C n ops (⟨some d, .call ⟨.value x,l.toArray,tys⟩,ty,pos,aft,none⟩::rest) K F H :=
 .perm hs.perm (.callH hx hc (Spl.app _ _) ha hd (fun res H' h => .perm aG (k res H' h)) fun _ _ h=>h.elim)
theorem ot {T e:TypeId}{sz by_:Nat}{z:List SV}{g:Bool} [hS:TSl P T e] [hT:TY P e sz by_ z g]{d:Nat}{x y:Operand}{n0 b2 c2:Nat}{T':TypeId}{cs ds:List SV}{s:SV}{Hs Rs:LH}
  (hown:Own e sz n0 cs s Hs) (hl:n0≤1000000000) (k:∀s' H',Own e sz (n0+1) (cs++ds) s' H'→WPL P C n ops rest K (upd F d s') (Rs++H'))
  (hx:ev F x=s:=by exact rfl) (hy:ev F y=lit (.slice (some ⟨b2,0,none⟩) 1 c2):=by exact rfl) (hsp:Tk H Hs Rs:=by(repeat(first|exact Tk.nil _|exact Tk.same _|(apply Tk.cons;(first|exact(aq.here _)|exact(aq.there _ (aq.here _))|exact(aq.there _ (aq.there _ (aq.here _)))|exact(aq.there _ (aq.there _ (aq.there _ (aq.here _))))|exact(aq.there _ (aq.there _ (aq.there _ (aq.there _ (aq.here _)))))|exact(aq.there _ (aq.there _ (aq.there _ (aq.there _ (aq.there _ (aq.here _))))))|exact(aq.there _ (aq.there _ (aq.there _ (aq.there _ (aq.there _ (aq.there _ (aq.here _)))))))|exact(aq.there _ (aq.there _ (aq.there _ (aq.there _ (aq.there _ (aq.there _ (aq.there _ (aq.here _))))))))|exact(aq.there _ (aq.there _ (aq.there _ (aq.there _ (aq.there _ (aq.there _ (aq.there _ (aq.there _ (aq.here _)))))))))|exact(aq.there _ (aq.there _ (aq.there _ (aq.there _ (aq.there _ (aq.there _ (aq.there _ (aq.there _ (aq.there _ (aq.here _))))))))))))|apply Tk.skip))) (hm:(b2,T',ds)∈Rs:=by(first|exact Ms|exact(Mc Ms)|exact(Mc (Mc Ms))|exact(Mc (Mc (Mc Ms)))|exact(Mc (Mc (Mc (Mc Ms))))|exact(Mc (Mc (Mc (Mc (Mc Ms)))))|exact(Mc (Mc (Mc (Mc (Mc (Mc Ms))))))|exact(Mc (Mc (Mc (Mc (Mc (Mc (Mc Ms)))))))|exact(Mc (Mc (Mc (Mc (Mc (Mc (Mc (Mc Ms))))))))|exact(Mc (Mc (Mc (Mc (Mc (Mc (Mc (Mc (Mc Ms))))))))))) (hds:ds.length=sz:=by exact rfl) (hpos:0<sz:=by decide) (hby:by_≤10000:=by decide)
  (hd:Nat.blt d n=true:=by exact rfl) :
  WPL P C n ops (⟨some d, .call ⟨.builtin .append,#[x,y],#[T,T]⟩,ty,pos,aft,none⟩::rest) K F H :=
 .perm hsp.perm (.appOwn hown hx hy (Spl.app _ _) hm hds hpos hl hby (fun s' H' h => .perm aG (k s' H' h)) hd)
theorem Own.co {T:TypeId}{sz n0:Nat}{cs:List SV}{s:SV}{Hs:LH}(h:Own T sz n0 cs s Hs):CO s [s]:=by
 obtain⟨_,⟨_,rfl,_⟩|⟨_,_,_,_,rfl,_⟩⟩:=h <;> exact lp fun m v hv=>by rw [ap]at hv;subst hv;exact⟨rfl,rfl⟩
theorem bh {T e:TypeId}{sz n0:Nat}{cs:List SV}{s:SV}{Hs:LH}{x:Operand} [hS:TSl P T e] (h:Own e sz n0 cs s Hs) (hx:ev F x=s):OpV P (.call ⟨.builtin .len,#[x],#[T]⟩) ty F H (lit (.int .i64 n0)):=by
 obtain⟨_,⟨rfl,rfl,_⟩|⟨_,_,_,_,rfl,_⟩⟩:=h
 ·exact BH hx
 ·exact BH hx
end
end Go.Ab
