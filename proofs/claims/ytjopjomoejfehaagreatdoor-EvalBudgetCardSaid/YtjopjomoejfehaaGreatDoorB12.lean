/- Texts laid one behind the other: LnA, LnB, Tape, AffC, Row. -/
import Derived.Test.YtjopjomoejfehaaGreatDoorB11
set_option linter.all false
set_option maxHeartbeats 16000000
namespace Go.Ab
open Go.Proofs
variable [Base]
def nrm (xs:List Nat):Bool:=decide (xs.length=0)||decide (xs.getD (xs.length-1) 0≠0)
theorem GL (n:Nat):nrm (dgs n)=true:=by
 by_cases h:n=0
 ·subst h;rw [cI];rfl
 ·obtain⟨k,h1,h2,_⟩:=BU h;unfold nrm;rw [h1,dY,a9 h2,bH]
theorem ut (xs:List Nat) (hl:xs.length≤1000000000):Pu Tryz.prog 192 [dg xs] (lit (.bool (nrm xs))):=by
 unfold nrm;by_cases h:xs.length=0
 ·rw [a9 h,bB];refine Pi Tryz.func192 fun C=>?_
  exact Z1
 ·rw [ab h,aW];by_cases h1:xs.getD (xs.length-1) 0=0
  ·rw [ab (fun e=>e h1)];refine Pi Tryz.func192 fun C=>?_
   exact Z1
  ·rw [a9 h1];refine Pi Tryz.func192 fun C=>?_
   exact Z1
def Bu (s:Bool) (xs:List Nat):Bool:=nrm xs&&(!s||decide (0<xs.length))
theorem De (z:Int):Bu (decide (z<0)) (dgs z.natAbs)=true:=by
 unfold Bu;rw [GL,bd];by_cases h:z<0
 ·rw [a9 h,a9 (eW om),bH]
 ·rw [ab h];rfl
theorem uA (s:Bool) (xs:List Nat) (hl:xs.length≤1000000000):Pu Tryz.prog 143 [raw s xs] (lit (.bool (Bu s xs))):=by
 have hn:=ut xs hl;unfold Bu;cases hx:nrm xs with
 |false =>
  rw [hx]at hn;refine Pi Tryz.func143 fun C=>?_
  exact Y1 hn
 |true =>
  rw [hx]at hn;cases s with
  |false =>
   refine Pi Tryz.func143 fun C=>?_
   exact Y1 hn
  |true =>
   by_cases h:0<xs.length
   ·rw [a9 h];refine Pi Tryz.func143 fun C=>?_
    exact Y1 hn
   ·rw [ab h];refine Pi Tryz.func143 fun C=>?_
    exact Y1 hn
theorem rf (z:Int) (hl:il z≤1000000000):Pu Tryz.prog 143 [int z] (lit (.bool true)):=by
 have:=uA (decide (z<0)) (dgs z.natAbs) hl;rwa [De]at this
theorem xy (z:Int) (hl:il z≤10000000):Pu Tryz.prog 144 [int z] (fr (z:Rat)):=by
 have r:=pd (decide (z<0)) (dgs z.natAbs) [1] hl (by decide) (cE _) (D.cons om D.nil);rw [aK,iH,show val [1]=1 from rfl,jD]at r;refine Pi Tryz.func144 fun C=>?_
 refine A2 ⟨?_⟩;intros;refine lm (ds:=[1]) 4 rfl (aq.here _) rfl om om ?_;exact X1 r
theorem PH (a b:Nat) (h1:(dgs a).length≤10000000) (h2:(dgs b).length≤10000000):Pu Tryz.prog 198 [nat a,nat b] (nat (Nat.gcd a b)):=by
 have:=H7 (dgs a) (dgs b) h1 h2 (cE _) (cE _);rwa [aK,aK]at this
theorem mw {a b n:Nat}(ha:(dgs a).length≤n) (hb:(dgs b).length≤n):(dgs (Nat.gcd a b)).length≤n:=by
 by_cases h:a=0
 ·subst h;rw [Nat.gcd_zero_left];exact hb
 ·exact aO (cH (Nat.gcd_le_left b om)) ha
theorem BK (x y:Rat):ht (kg x y)≤ht x+ht y+1:=by
 have h1:=eh x;have h2:=eP x;have h3:=eh y;have h4:=eP y;have e1:il x.num=(dgs x.num.natAbs).length:=rfl;have e2:il y.num=(dgs y.num.natAbs).length:=rfl;have m1:=eV x.num.natAbs y.den;have m2:=eV y.num.natAbs x.den;have m3:=eV x.den y.den;have m4:=mw (n:=ht x+ht y) (a:=x.num.natAbs*y.den) (b:=y.num.natAbs*x.den) om om;have:=Av ((Nat.gcd (x.num.natAbs*y.den) (y.num.natAbs*x.den):Nat):Int) (x.den*y.den);rw [yx]at this;unfold kg;omega
theorem LZ {x:Rat}(h:x.den=1):x=(x.num:Rat):=(O8 h).symm
theorem uK (x y:Rat) (hx:ht x≤3000000) (hy:ht y≤3000000):Pu Tryz.prog 146 [fr x,fr y] (fr (kg x y)):=by
 have d1:=x.den_pos;have d2:=y.den_pos;by_cases h:(dW x∧dW y)∧x.den=1∧y.den=1
 ·obtain⟨⟨hsx,hsy⟩,h1,h2⟩:=h
  have e:kg x y=((Nat.gcd x.num.natAbs y.num.natAbs:Nat):Rat):=by
   have:=lP x.num y.num;rwa [←LZ h1,←LZ h2]at this
  have bx:=hsx.1;have byy:=hsy.1
  have hg:Nat.gcd x.num.natAbs y.num.natAbs<4611686018427387904:=by
   by_cases h0:x.num.natAbs=0
   ·rw [h0,Nat.gcd_zero_left];exact byy
   ·exact kJ (Nat.gcd_le_left _ om) bx
  have hs:dW ((Nat.gcd x.num.natAbs y.num.natAbs:Nat):Rat):=by
   unfold dW;rw [Rat.num_natCast,Rat.den_natCast];omega
  rw [e,ko hsx,ko hsy,ko hs,Rat.num_natCast,Rat.den_natCast];have g:=Hi x.num.natAbs y.num.natAbs om om;have a1:=rv x.num om om;have a2:=rv y.num om om;generalize Nat.gcd x.num.natAbs y.num.natAbs=k at *;refine Pi Tryz.func146 fun C=>?_
  refine D3 a1 a2 g ⟨?_⟩;intros;refine db (bO (RV.cellA rfl cN rfl rfl) (Le.ag ⟨Le.refl _,Le.int om,Le.refl _,trivial⟩))
 ·have h1:=eh x;have h2:=eP x;have h3:=eh y;have h4:=eP y;have e1:il x.num=(dgs x.num.natAbs).length:=rfl;have e2:il y.num=(dgs y.num.natAbs).length:=rfl;have m1:=eV x.num.natAbs y.den;have m2:=eV y.num.natAbs x.den;have m3:=eV x.den y.den;have m4:=mw (n:=ht x+ht y) (a:=x.num.natAbs*y.den) (b:=y.num.natAbs*x.den) om om;have c1:=qG x om;have c2:=qG y om;have c3:=Dl x.den y.den om om;have c4:=oQ x om;have c5:=oQ y om;have c6:=Dl x.num.natAbs y.den om om;have c7:=Dl y.num.natAbs x.den om om;have c8:=PH (x.num.natAbs*y.den) (y.num.natAbs*x.den) om om;have c9:=tj ((Nat.gcd (x.num.natAbs*y.den) (y.num.natAbs*x.den):Nat):Int) (x.den*y.den) (by rw [yx];omega) om;rw [BH]at c9;clear m1 m2 m3 m4 h1 h2 h3 h4 e1 e2;by_cases hsx:dW x
  ·by_cases hsy:dW y
   ·by_cases hx1:x.den=1
    ·have hy1:y.den≠1:=fun e=>h ⟨⟨hsx,hsy⟩,hx1,e⟩
     clear h;rw [ko hsx,ko hsy];rw [ko hsx]at c1 c4;rw [ko hsy]at c2 c5;refine Pi Tryz.func146 fun C=>?_
     repeat(first|(refine A1 ⟨?_⟩;intros)|refine W4 c1 ⟨?_⟩|refine W4 c2 ⟨?_⟩|refine W4 c3 ⟨?_⟩|refine W4 c4 ⟨?_⟩|refine W4 c6 ⟨?_⟩|refine W4 c5 ⟨?_⟩|refine W4 c7 ⟨?_⟩|refine W4 c8 ⟨?_⟩|refine W4 c9 ⟨?_⟩)
     exact G1
    ·clear h;rw [ko hsx,ko hsy];rw [ko hsx]at c1 c4;rw [ko hsy]at c2 c5;refine Pi Tryz.func146 fun C=>?_
     repeat(first|(refine A1 ⟨?_⟩;intros)|refine W4 c1 ⟨?_⟩|refine W4 c2 ⟨?_⟩|refine W4 c3 ⟨?_⟩|refine W4 c4 ⟨?_⟩|refine W4 c6 ⟨?_⟩|refine W4 c5 ⟨?_⟩|refine W4 c7 ⟨?_⟩|refine W4 c8 ⟨?_⟩|refine W4 c9 ⟨?_⟩)
     exact G1
   ·clear h;rw [ko hsx,sw hsy];rw [ko hsx]at c1 c4;rw [sw hsy]at c2 c5;refine Pi Tryz.func146 fun C=>?_
    repeat(first|(refine A1 ⟨?_⟩;intros)|refine W4 c1 ⟨?_⟩|refine W4 c2 ⟨?_⟩|refine W4 c3 ⟨?_⟩|refine W4 c4 ⟨?_⟩|refine W4 c6 ⟨?_⟩|refine W4 c5 ⟨?_⟩|refine W4 c7 ⟨?_⟩|refine W4 c8 ⟨?_⟩|refine W4 c9 ⟨?_⟩)
    exact G1
  ·clear h;rw [sw hsx];rw [sw hsx]at c1 c4;refine Pi Tryz.func146 fun C=>?_
   repeat(first|(refine A1 ⟨?_⟩;intros)|refine W4 c1 ⟨?_⟩|refine W4 c2 ⟨?_⟩|refine W4 c3 ⟨?_⟩|refine W4 c4 ⟨?_⟩|refine W4 c6 ⟨?_⟩|refine W4 c5 ⟨?_⟩|refine W4 c7 ⟨?_⟩|refine W4 c8 ⟨?_⟩|refine W4 c9 ⟨?_⟩)
   exact G1
theorem oc (x:Rat) (h:ht x≤10000000):Pu Tryz.prog 244 [fr x] (lit (.int .i64 x.num.sign)):=by
 by_cases hs:dW x
 ·rw [ko hs];rcases iw x.num 0 with h0|h0|h0
  ·rw [gg h0];refine Pi Tryz.func244 fun C=>?_
   exact Z1
  ·rw [h0];refine Pi Tryz.func244 fun C=>?_
   exact Z1
  ·rw [fu h0];refine Pi Tryz.func244 fun C=>?_
   exact Z1
 ·have h1:=eh x;have e1:il x.num=(dgs x.num.natAbs).length:=rfl;have c:=tV (decide (x.num<0)) (dgs x.num.natAbs) om (cE _);rw [aK,iH]at c;rw [sw hs];refine Pi Tryz.func244 fun C=>?_
  exact Y1 c
theorem Oi (a:Int){d:Nat}(hd:d≠0):(mkRat a d).num.sign=a.sign:=by
 rw [(Bw a hd).1];have hg:0<Int.gcd a d:=f7 (fun e=>by have:=(Int.gcd_eq_zero_iff.1 e).2;omega);obtain⟨q,hq⟩:=sS a d;generalize Int.gcd a d=g at *;subst hq;have h1:((g:Nat):Int).sign=1:=fu om;rw [sR _ om,Int.sign_mul,h1,Int.one_mul]
theorem JL {x y:Rat}(h:x.den=y.den):(x-y).num.sign=(x.num-y.num).sign:=by
 have hd:y.den≠0:=y.den_nz;have h1:((y.den:Nat):Int).sign=1:=fu om;rw [Rat.sub_def',h,←Int.sub_mul,Oi _ (iu hd hd),Int.sign_mul,h1,q8]
theorem qB (x y:Rat) (hx:ht x≤3000000) (hy:ht y≤3000000):Pu Tryz.prog 199 [fr x,fr y] (lit (.int .i64 (x-y).num.sign)):=by
 have hb:=gU x y;have c1:=tZ x y hx hy;have c2:=oc (x-y) om;by_cases h:(dW x∧dW y)∧x.den=y.den
 ·obtain⟨⟨hsx,hsy⟩,hd⟩:=h;rw [ko hsx,ko hsy,JL hd,hd];rcases iw x.num y.num with h0|h0|h0
  ·rw [gg om];refine Pi Tryz.func199 fun C=>?_
   exact Z1
  ·rw [h0,Int.sub_self];refine Pi Tryz.func199 fun C=>?_
   exact Z1
  ·rw [fu om];refine Pi Tryz.func199 fun C=>?_
   exact Z1
 ·clear hb;by_cases hsx:dW x
  ·by_cases hsy:dW y
   ·have hd:x.den≠y.den:=fun e=>h ⟨⟨hsx,hsy⟩,e⟩
    clear h;rw [ko hsx,ko hsy]at c1⊢;refine Pi Tryz.func199 fun C=>?_
    exact Y2 c1 c2
   ·clear h;rw [ko hsx,sw hsy]at c1⊢;refine Pi Tryz.func199 fun C=>?_
    exact Y2 c1 c2
  ·clear h;rw [sw hsx]at c1⊢;refine Pi Tryz.func199 fun C=>?_
   exact Y2 c1 c2
theorem ji {x y:Rat}:(x-y).num.sign=0↔x=y:=by
 rw [ge,gc];constructor
 ·intro h;have:=congrArg (· + y) h;simp only [pS,Rat.add_assoc,Rat.neg_add_cancel,pO,nA]at this;exact this
 ·intro h;rw [h,Rat.sub_self]
theorem J1 (x y:Rat) (hx:ht x≤3000000) (hy:ht y≤3000000):Pu Tryz.prog 147 [fr x,fr y] (lit (.bool (decide (x=y)))):=by
 have c:=qB x y hx hy;have e:=@ji _ x y;by_cases h:x=y
 ·rw [a9 h];rw [e.2 h]at c;refine Pi Tryz.func147 fun C=>?_
  exact Y1 c
 ·rw [ab h];have e':(x-y).num.sign≠0:=fun k=>h (e.1 k)
  clear e;generalize(x-y).num.sign=s at *;refine Pi Tryz.func147 fun C=>?_
  exact Y1 c
abbrev lf (a b c:Rat):SV:=ag [lit (.int .i64 (r0 a)),lit (.int .i64 (r1 a)),r2 a,lit (.int .i64 (r0 b)),lit (.int .i64 (r1 b)),r2 b,lit (.int .i64 (r0 c)),lit (.int .i64 (r1 c)),r2 c]
abbrev lq (l:Li):SV:=ag [lit (.bool (decide (l.a<0))),nat l.a.natAbs,lit (.bool (decide (l.b<0))),nat l.b.natAbs,lit (.bool (decide (l.c<0))),nat l.c.natAbs]
structure Li.le (l:Li) (L:Nat):Prop where
 a:il l.a≤L
 b:il l.b≤L
 c:il l.c≤L
theorem tu (a b c:Rat):Pu Tryz.prog 297 [lf a b c] (pp a b):=by
 refine Pi Tryz.func297 fun C=>?_
 exact Z2
theorem uf (x y u v:Rat) (hx:ht x≤1000000) (hy:ht y≤1000000) (hu:ht u≤1000000) (hv:ht v≤1000000):Pu Tryz.prog 158 [pp x y,pp u v] (fr (x*u+y*v)):=by
 have h1:=bF x u;have h2:=bF y v;refine Pi Tryz.func158 fun C=>?_
 refine D3 (kZ x u om om) (kZ y v om om) (ql (x*u) (y*v) om om) ⟨?_⟩;intros;exact G1
theorem Al (a b c x y:Rat) (ha:ht a≤100000) (hb:ht b≤100000) (hc:ht c≤100000) (hx:ht x≤100000) (hy:ht y≤100000):Pu Tryz.prog 298 [lf a b c,pp x y] (fr (a*x+b*y+c)):=by
 have h1:=bF a x;have h2:=bF b y;have h3:=fh (a*x) (b*y);have c1:=tu a b c;have c2:=uf a b x y om om om om;have c3:=ql (a*x+b*y) c om om;refine Pi Tryz.func298 fun C=>?_
 refine D3 c1 c2 c3 ⟨?_⟩;intros;exact G1
theorem jm (z:Int):ht (z:Rat)=max (il z) 1:=by
 unfold ht;rw [ew,jC,qF];rfl
theorem OB (l:Li) (h:l.le 1000000):Pu Tryz.prog 49 [lf l.a l.b l.c] (lq l):=by
 obtain⟨ha,hb,hc⟩:=h;have e1:=jm l.a;have e2:=jm l.b;have e3:=jm l.c;have c1:=oQ (l.a:Rat) om;have c2:=oQ (l.b:Rat) om;have c3:=oQ (l.c:Rat) om;rw [ew]at c1 c2 c3;refine Pi Tryz.func49 fun C=>?_
 refine D3 c1 c2 c3 ⟨?_⟩;intros;exact G1
theorem QD (v:Value) (w:World):(Go.method ((Tryz.prog).types.size+Made.depth) 126 v "Mul").run Tryz.prog w = .ok (214,v) w:=by kernel_rfl
abbrev fr3 (a b c:Rat):List SV:=[lit (.int .i64 (r0 a)),lit (.int .i64 (r1 a)),r2 a,lit (.int .i64 (r0 b)),lit (.int .i64 (r1 b)),r2 b,lit (.int .i64 (r0 c)),lit (.int .i64 (r1 c)),r2 c]
set_option maxRecDepth 20000 in
theorem I0 (b0:Nat) (f a b c:Rat) (hf:ht f≤1000000) (ha:ht a≤1000000) (hb:ht b≤1000000) (hc:ht c≤1000000) :
  PuH Tryz.prog 212 [fr f,lit (.slice (some ⟨b0,0,none⟩) 3 3)] [(b0,126,fr3 a b c)] (fun r H=>r=lit (.slice (some ⟨b0,0,none⟩) 3 3)∧H=[(b0,126,fr3 (a*f) (b*f) (c*f))]) noX:=by
 have m1:=kZ a f om om;have m2:=kZ b f om om;have m3:=kZ c f om om;refine PuH.intro Tryz.func212 rfl kr fun C hC=>?_
 refine A2 ⟨?_⟩;intros;refine WP.unroll 4 ?_;refine A2 ⟨?_⟩;intros;refine Wdo (pe QD m1 rfl rfl) ?_;refine A2 ⟨?_⟩;intros;refine Wdo (pe QD m2 rfl rfl) ?_;refine A2 ⟨?_⟩;intros;refine Wdo (pe QD m3 rfl rfl) ?_;refine A2 ⟨?_⟩;intros;exact cD _ _ (bO (RV.tmp rfl) Lr) (Sc Sr) ⟨rfl,rfl⟩
abbrev mD (zs:List Int):List SV:=[nsl .i64 zs,ex fun k:{k:Nat // k≤zs.length}=>lit (.int .i64 (k.1:Int))]
section
variable {P:Program}{F:Fr}{H:LH}
variable {C:Ctx}{n:Nat}{ops:Array Oper}{K:Fr→LH→Prop}{rest:List Oper}{ty:TypeId}{pos:String}{aft:Array Edge}
theorem Wtx {d:Nat}{f:FuncId}{l:List Operand}{tys:Array TypeId}{T:TypeId}{b:Nat}{args:Nat→List SV}{cs:List SV}{α:Type}{res:α→SV}(hc:PuM P f T args cs (fun _:Unit=>cs) (fun _=>ex res)) (hm:(b,T,cs)∈H) (k:∀x,WPL P C n ops rest K (upd F d (res x)) H)
  (ha:l.map (ev F)=args b:=by exact rfl) (hd:Nat.blt d n=true:=by exact rfl):WPL P C n ops (⟨some d, .call ⟨.value (.func f),l.toArray,tys⟩,ty,pos,aft,none⟩::rest) K F H :=
 WPL.val (dS hc ha hm) hd (WPL.exd (d:=d) bW fun x=>by
  have e:upd (upd F d (ex res)) d (res x)=upd F d (res x):=by
   funext t
   by_cases h:t=d
   ·subst h;rw [bW,bW]
   ·rw [bD h,bD h,bD h]
  rw [e];exact k x)
theorem yK {rs:Array ResultVar}{T:TypeId}{cs:List SV}(b:Nat) (cs0:List SV) (h:oq P rs.toList (lit (.pointer (some ⟨b,0,none⟩))) F H) (hm:(b,T,cs0)∈H) (hl:LeL cs0 cs):PL P rs T cs .ret F H:=⟨b,cs0,h,hm,hl⟩
theorem fG {rs:Array ResultVar}{α:Type}{b:Nat}{T:TypeId}{cs':α→List SV}{res:α→SV}(x:α) (cs:List SV) (h:oq P rs.toList (res x) F H) (hm:(b,T,cs)∈H) (hl:LeL cs (cs' x)):RK P rs b T cs' res .ret F H:=⟨x,h,cs,hm,hl⟩
theorem bn.exI {α:Type}{m:Mem}{f:α→SV}:∀{cs:List SV}{vs:List Value}(i:Nat),bn m cs vs→cs[i]? = some (ex f)→∃x,bn m (cs.set i (f x)) vs
 | [],_,i,_,h=>by simp at h
 |_::_,[],_,h,_=>h.elim
 |s::cs,v::vs,0,h,hi=>by
  simp only [f8,bA]at hi;subst hi;have h1:=h.1.1;unfold ex at h1;obtain⟨x,hx⟩:=h1;exact⟨x,⟨hx,h.1.2⟩,h.2⟩
 |s::cs,v::vs,i+1,h,hi=>by
  obtain⟨x,hx⟩:=bn.exI i h.2 (by simpa using hi);exact⟨x,h.1,hx⟩
theorem WP.exH {C:Ctx}{n:Nat}{Q:Exit→Fr→LH→Prop}{α:Type}{f:α→SV}{c:Code}{b:Nat}{T:TypeId}{cs:List SV}{H':α→LH}(i:Nat) (hi:cs[i]? = some (ex f)) (hu:∀x,bz b T cs (cs.set i (f x)) H (H' x)) (x0:α)
  (k:∀x,WP P C n c Q F (H' x)):WP P C n c Q F H:=by
 unfold WP at *;rintro a w ⟨hdef,hn,m,h1,h2,h3,h4,h5⟩;obtain⟨g1,arr,g2,g3⟩:=h2.2 _ (hu x0).mem;obtain⟨x,hx⟩:=g3.exI i hi;refine k x a w ⟨hdef,hn,m,h1,⟨(hu x).keys▸h2.1,fun e he=>?_⟩,h3,fun e he=>?_,h5⟩
 ·rcases(hu x).mem' h2.1 e he with rfl|⟨he',_⟩
  ·exact⟨g1,arr,g2,hx⟩
  ·exact h2.2 e he'
 ·have:e.1∈(H' x).map (·.1):=aj.2 ⟨e,he,rfl⟩;rw [(hu x).keys]at this;obtain⟨e',he',hk'⟩:=aj.1 this;exact hk'▸h4 e' he'
end
theorem QB (zs:List Int) (hz:zs.length≤9223372036854775807):PuN Tryz.prog 4 49 [nsl .i64 zs] (mD (zs.take (min zs.length 400))):=by
 obtain⟨k,hk⟩:∃k,k=min zs.length 400:=⟨_,rfl⟩
 rw [←hk];by_cases h:zs.length≤400
 ·have hk:k=zs.length:=by omega
  subst hk;refine PuN.intro Tryz.func4 rfl kr fun C=>?_
  refine A2 ⟨?_⟩;intros;refine Wo (vK (i:=0) (j:=zs.length) rfl (fun _ h=>by cases h) (fun _=>rfl) (fun y h=>⟨_,_,by cases h;exact rfl,rfl⟩) (fun h=>by cases h) om om rfl) ?_;refine A2 ⟨?_⟩;intros;exact yK _ _ (bO (RV.tmp rfl) Lr) cN ⟨Le.refl _,Le.ex ⟨0,by simp⟩ Lr,trivial⟩
 ·have hk:k=400:=by omega
  subst hk;refine PuN.intro Tryz.func4 rfl kr fun C=>?_
  refine A2 ⟨?_⟩;intros;refine Wo (vK (i:=0) (j:=400) rfl (fun _ h=>by cases h) (fun _=>rfl) (fun y h=>⟨_,_,by cases h;exact rfl,rfl⟩) (fun h=>by cases h) om om rfl) ?_;refine A2 ⟨?_⟩;intros;exact yK _ _ (bO (RV.tmp rfl) Lr) cN ⟨Le.refl _,Le.ex ⟨0,by simp⟩ Lr,trivial⟩
abbrev PuT (f:FuncId) (zs:List Int) (args:List SV) (res:SV):Prop:=PuM Tryz.prog f 49 (fun b=>lit (.pointer (some ⟨b,0,none⟩))::args) (mD zs) (fun _:Unit=>mD zs) (fun _=>res)
abbrev RU (n:Nat):SV:=ex fun k:{k:Nat // k<n}=>lit (.int .i64 (k.1:Int))
theorem f9 (zs:List Int) (hz:zs.length≤400) (n:Nat) (hn:0<n) (hn':n≤1000000000):PuT 12 zs [lit (.int .i64 n)] (RU n):=by
 refine PuM.intro Tryz.func12 rfl kr fun C b=>?_
 refine WP.exH 1 rfl (fun x=>bz.here _) ⟨0,om⟩ fun x=>?_
 obtain⟨k,hk⟩:=x;simp only [mD,iW,gO];by_cases hkl:k<zs.length
 ·have m1:=Int.tmod_lt_of_pos (zs.getD k 0) (show(0:Int)<n by omega);have m2:=Int.lt_tmod_of_pos (zs.getD k 0) (show(0:Int)<n by omega);refine A2 ⟨?_⟩;intros;generalize(zs.getD k 0).tmod (n:Int)=r at *;refine WPd (fun h=>?_) (fun h=>?_)
  ·refine A2 ⟨?_⟩;intros;exact fG () _ (bO (RV.tmp rfl) (Le.ex ⟨(r+n).toNat,om⟩ (Le.int (by simp only;omega)))) cN ⟨Le.refl _,Le.ex ⟨k+1,om⟩ Lr,trivial⟩
  ·refine A2 ⟨?_⟩;intros;exact fG () _ (bO (RV.tmp rfl) (Le.ex ⟨r.toNat,om⟩ (Le.int (by simp only;omega)))) cN ⟨Le.refl _,Le.ex ⟨k+1,om⟩ Lr,trivial⟩
 ·refine A2 ⟨?_⟩;intros;exact fG () _ (bO (RV.tmp rfl) (Le.ex ⟨0,hn⟩ Lr)) cN ⟨Le.refl _,Le.ex ⟨k,hk⟩ Lr,trivial⟩
abbrev smallR:SV:=ex fun x:{x:Rat // ht x≤1}=>rq x.1
theorem LF (z:Int) (d:Nat) (hz:z.natAbs<4294967296) (hd:d<4294967296):ht (mkRat z d)≤1:=by
 have h:=Av z d;have h1:il z≤1:=dU (k:=1) (by simpa using hz);have h2:=dU (n:=d) (k:=1) (by simpa using hd);omega
theorem Fs (z:Int) (h:z.natAbs<4294967296):ht (z:Rat)≤1:=by
 unfold ht;rw [ew,jC,qF];have:il z≤1:=dU (k:=1) (by simpa using h);simp;omega
theorem Rl (zs:List Int) (hz:zs.length≤400):PuT 35 zs [] smallR:=by
 refine PuM.intro Tryz.func35 rfl kr fun C b=>?_
 refine A2 ⟨?_⟩;intros;refine Wtx (f9 zs hz 9 om om) (Mc Ms) fun k=>?_
 obtain⟨k,hk⟩:=k;simp only [];refine A2 ⟨?_⟩;intros;refine Wtx (f9 zs hz 6 om om) (Mc Ms) fun j=>?_
 obtain⟨j,hj⟩:=j;simp only [];have fin:∀(x:Rat),ht x≤1→Le (ag [lit (.bool (decide (x.num<0))),nat x.num.natAbs,dg (pD x.den)]) smallR:=fun x hx=>Le.ex ⟨x,hx⟩ Lr
 by_cases hj0:j=0
 ·have hp:=Cx (2*((k:Int)-4)+1) 2 om om om om;refine D1 hp ⟨?_⟩;intros;exact fG () _ (bO (RV.cellA rfl cN rfl rfl) (fin _ (LF _ _ om om))) (Mc Ms) (LeL.refl _)
 ·by_cases hj1:j=1
  ·have hp:=Cx (3*((k:Int)-4)+1) 3 om om om om;refine D1 hp ⟨?_⟩;intros;exact fG () _ (bO (RV.cellA rfl cN rfl rfl) (fin _ (LF _ _ om om))) (Mc Ms) (LeL.refl _)
  ·have hp:=vF ((k:Int)-4) om om;refine D1 hp ⟨?_⟩;intros;exact fG () _ (bO (RV.cellA rfl cN rfl rfl) (fin _ (Fs _ om))) (Mc Ms) (LeL.refl _)
theorem wB:Le (lit (.slice none 0 0)) (nat (0:Rat).num.natAbs):=by
 rw [show(0:Rat).num.natAbs=0 from rfl,show nat 0=dg []from by show dg (dgs 0)=_;rw [cI]];exact gC
theorem wC:Le (lit (.slice none 0 0)) (dg (pD (0:Rat).den)):=by
 rw [show(0:Rat).den=1 from rfl,pC];exact gC
def Own (T:TypeId) (sz n:Nat) (cs:List SV) (s:SV) (H:LH):Prop :=
 cs.length=n*sz∧((n=0∧s=lit (.slice none 0 0)∧H=[])∨
  ∃b c,n≤c∧c≤maxLen∧s=lit (.slice (some ⟨b,0,none⟩) n c)∧H=[(b,T,cs++List.replicate (c*sz-n*sz) top)])
theorem Own.nil (T:TypeId) (sz:Nat):Own T sz 0 [] (lit (.slice none 0 0)) []:=⟨by simp, .inl ⟨rfl,rfl,rfl⟩⟩
theorem bn.tops {m:Mem}:∀(l:List Value),(∀v∈l,v.oneCell'=true)→bn m (List.replicate l.length top) l
 | [],_=>trivial
 |v::l,h=>⟨⟨by unfold top;trivial,h v (by simp)⟩,bn.tops l fun u hu=>h u (by simp [hu])⟩
theorem bn.topL {m:Mem}{l:List Value}{k:Nat}(hk:l.length=k) (h:∀v∈l,v.oneCell'=true):bn m (List.replicate k top) l:=hk▸bn.tops l h
theorem fH {z:Array Value}{k:Nat}(h:z.toList.all (·.oneCell')=true):∀v∈(Builtin.zeroCells z k).toList,v.oneCell'=true:=by
 intro v hv;simp only [Builtin.zeroCells,sX,sW,aj,dG]at hv;obtain⟨i,hi,rfl⟩:=hv;have hp:0<z.size:=f7 fun e=>by rw [e,jG]at hi;omega
 have hlt:i%z.size<z.size:=cT _ hp;rw [getElem!_pos z _ hlt];exact fP.1 h _ (by simp)
theorem bn.split {m:Mem}:∀{cs ds:List SV}{l:List Value},bn m (cs++ds) l→bn m cs (l.take cs.length)∧bn m ds (l.drop cs.length)
 | [],_,l,h=>⟨trivial,h⟩
 |_::_,_,[],h=>h.elim
 |_::_,_,_::_,h=>⟨⟨h.1,h.2.split.1⟩,h.2.split.2⟩
section
variable {P:Program}{C:Ctx}{n:Nat}{F:Fr}{H:LH}{ops:Array Oper}{K:Fr→LH→Prop}{rest:List Oper}{ty:TypeId}{pos:String}{aft:Array Edge}
theorem WPL.appOwn {T e:TypeId}{sz by_:Nat}{z:List SV}{g:Bool} [hS:TSl P T e] [hT:TY P e sz by_ z g]{d:Nat}{x y:Operand}{n0 b2 c2:Nat}{T':TypeId}{cs ds:List SV}{s:SV}{Hs Rs:LH}
  (hown:Own e sz n0 cs s Hs) (hx:ev F x=s) (hy:ev F y=lit (.slice (some ⟨b2,0,none⟩) 1 c2)) (hsp:Spl H Hs Rs) (hm:(b2,T',ds)∈Rs) (hds:ds.length=sz) (hpos:0<sz) (hl:n0≤1000000000) (hby:by_≤10000)
  (k:∀s' H',Own e sz (n0+1) (cs++ds) s' H'→WPL P C n ops rest K (upd F d s') (H'++Rs)) (hd:Nat.blt d n=true) :
  WPL P C n ops (⟨some d, .call ⟨.builtin .append,#[x,y],#[T,T]⟩,ty,pos,aft,none⟩::rest) K F H:=by
 unfold WPL;intro a w hs0 Q hq;have hs:=hs0.perm hsp.perm;refine wpList_plain rfl fun K' hK'=>?_
 obtain⟨hdef,hn,m0,h10,h20,h30,h40,h50⟩:=id hs
 have hp0:∀x,(ev F x).p m0 (a.eval x):=fun x=>by
  cases x with
  |tmp t=>exact h50 t
  |const v=>unfold ev lit;rfl
  |global g=>unfold ev lit;rfl
  |func f=>unfold ev lit;rfl
 have e0:=hp0 x;rw [hx]at e0;have e1:=hp0 y;rw [hy,ap]at e1;obtain⟨_,arr2,hb2,hall2⟩:=h20.2 _ (cO Hs hm);obtain⟨i,v,hi,hsz,hbyt,hz,hzl,hfl,hvs⟩:=hT.run_bytes;have hlen2:=hall2.length;simp only [aR]at hlen2
 have hys:∀j u,arr2.toList[j]? = some u→w.cell? ((⟨b2,0,none⟩:Addr).add j)=some u:=fun j u hj=>by
  rw [cG,eB w b2 _ arr2 _ _ hb2];simpa using hj
 have hexec:execOp a.eval (⟨some d, .call ⟨.builtin .append,#[x,y],#[T,T]⟩,ty,pos,aft,none⟩:Oper)=(do let v←Builtin.append_ #[T,T] ty #[a.eval x,a.eval y];pure (.value v)):=by
  simp [execOp,resolve,invoke,builtin]
 have hmul:∀q,q≤1000000001→q*by_≤140737488355328:=fun q hq=>aO (dk hq hby) (by decide)
 have get2:∀m,dB m w→HOk m w (Hs++Rs)→bn m ds arr2.toList:=fun m _ h2=>by
  obtain⟨_,arr2',hb2',hall2'⟩:=h2.2 _ (cO Hs hm);rw [hb2]at hb2';simp only [bA,Obj.cells.injEq]at hb2';obtain⟨rfl,_⟩:=hb2';exact hall2'
 unfold Oper.wp;rw [hexec,e1];obtain⟨hcl,hcase⟩:=hown;rcases hcase with⟨rfl,rfl,rfl⟩|⟨b,c,hnc,hcm,rfl,rfl⟩
 ·rw [ap]at e0;have hcs:cs=[]:=cU (by rw [hcl,bS]);subst hcs;have hrun:=run_append_nil (P:=P) w T ty e i v hS.h hi hz ⟨b2,0,none⟩ 1 c2 arr2.toList (by rw [aR,hlen2,hsz,hds,aY]) hys om om (by rw [hbyt];have:=hmul 1 om;omega);rw [e0];simp only [Sem.run_bind,hrun,Result.andThen_ok,Sem.run_pure];have hge:=grownCap_ge w 1 0 e;have hle:=grownCap_le_maxLen w 1 0 e (by simp only [maxLen];omega);have h:=k (lit (.slice (some ⟨w.heap.size,0,none⟩) 1 (grownCap w 1 0 e))) [(w.heap.size,e,([]++ds)++List.replicate (grownCap w 1 0 e*sz-1*sz) top)] ⟨by rw [a8,hds];omega, .inr ⟨_,_,hge,hle,rfl,by rw [aD]⟩⟩;unfold WPL at h;refine hK' _ _ (h _ _ (St.pushD (ay.mp hd) hs fun m h1 h2 _=>?_) Q hq);simp only [fy,dv,a8];refine(get2 m h1 h2).append (bn.topL ?_ (fH hfl));rw [aR,size_zeroCells,hvs,ij]
 ·rw [ap]at e0;obtain⟨hmb,arr,hb,hall⟩:=h20.2 _ (bV Rs (au.2 rfl));have hlen:=hall.length;simp only [ac,iR,hcl,aR]at hlen;have hmono:n0*sz≤c*sz:=aT _ hnc
  have getc:∀m,HOk m w ([(b,e,cs++List.replicate (c*sz-n0*sz) top)]++Rs)→bn m (cs++List.replicate (c*sz-n0*sz) top) arr.toList:=fun m h2=>by
   obtain⟨_,arr',hb',hall'⟩:=h2.2 _ (bV Rs (au.2 rfl));rw [hb]at hb';simp only [bA,Obj.cells.injEq]at hb';obtain⟨rfl,_⟩:=hb';exact hall'
  by_cases hroom:n0+1≤c
  ·have hm1:(n0+1)*sz≤c*sz:=aT _ hroom;rw [dZ]at hm1;have hrun:=run_append_room (P:=P) w T ty e i hS.h hi b n0 c arr hb ⟨b2,0,none⟩ 1 c2 arr2.toList (by rw [aR,hlen2,hsz,hds,aY]) hys hall2.flat hroom (by rw [hsz,aR,hlen2,hds];omega);rw [e0];simp only [Sem.run_bind,hrun,Result.andThen_ok,Sem.run_pure];have h:=k (lit (.slice (some ⟨b,0,none⟩) (n0+1) c)) [(b,e,(cs++ds)++List.replicate (c*sz-(n0+1)*sz) top)] ⟨by rw [ac,hcl,hds,dZ], .inr ⟨_,_,hroom,hcm,rfl,rfl⟩⟩;unfold WPL at h
   have hfin:bn m0 ((cs++ds)++List.replicate (c*sz-(n0+1)*sz) top) (arr.toList.take (n0*i.size)++arr2.toList++arr.toList.drop (n0*i.size+arr2.toList.length)).toArray.toList:=by
    obtain⟨q1,q2⟩:=(getc m0 h20).split;rw [hcl]at q1 q2;rw [hsz,aR,hlen2,hds,dv];refine(q1.append (get2 m0 h10 h20)).append (bn.topL ?_ fun u hu=>?_)
    ·rw [cP,aR,dZ];omega
    ·exact hall.flat u (kK hu)
   obtain⟨q1,q2,q3,q4⟩:=mg (w':=w.setRow b (arr.toList.take (n0*i.size)++arr2.toList++arr.toList.drop (n0*i.size+arr2.toList.length)).toArray) h10 h20 h30 h40 (.here Rs)
    (setRow_heap w b arr _ e _ hb) (fun j hj=>setRow_other w b j _ hj) rfl rfl ⟨rfl,rfl⟩ (by simp) hfin
   refine hK' _ _ (h (a.put (some d) (.slice (some ⟨b,0,none⟩) (n0+1) c)) _ ⟨hdef,by simpa [Act.put] using hn,m0,q1,q2,q3,q4,fun t=>?_⟩ Q hq);rw [gV (cR (ay.mp hd) hn)];unfold Ab.upd;by_cases ht:t=d
   ·subst ht;rw [if_pos rfl,cX];exact ap.2 rfl
   ·rw [if_neg ht]
    have:Nat.beq t d=false:=by
     cases hbb:Nat.beq t d with
     |false=>rfl
     |true=>exact absurd (bM hbb) ht
    rw [this];exact h50 t
  ·have hxs:∀j u,(arr.toList.take (n0*sz))[j]? = some u→w.cell? ((⟨b,0,none⟩:Addr).add j)=some u:=fun j u hj=>by
    rw [cG,eB w b _ arr _ _ hb];rw [eE]at hj;split at hj
    ·simpa using hj
    ·cases hj
   have hrun:=run_append_grow (P:=P) w T ty e i v hS.h hi hz ⟨b,0,none⟩ n0 c (arr.toList.take (n0*sz)) (by rw [aA,aR,hsz];omega) hxs
    ⟨b2,0,none⟩ 1 c2 arr2.toList (by rw [aR,hlen2,hsz,hds,aY]) hys om om (growslice_fits om (by rw [hbyt];exact hmul _ om))
   rw [e0];simp only [Sem.run_bind,hrun,Result.andThen_ok,Sem.run_pure];have hge:=grownCap_ge w (n0+1) c e;have hle:=grownCap_le_maxLen w (n0+1) c e (by simp only [maxLen];omega)
   have h:=k (lit (.slice (some ⟨w.heap.size,0,none⟩) (n0+1) (grownCap w (n0+1) c e))) [(w.heap.size,e,(cs++ds)++List.replicate (grownCap w (n0+1) c e*sz-(n0+1)*sz) top)]
    ⟨by rw [ac,hcl,hds,dZ], .inr ⟨_,_,hge,hle,rfl,rfl⟩⟩
   unfold WPL at h
   have hst:=St.pushD (d:=d) (cs:=(cs++ds)++List.replicate (grownCap w (n0+1) c e*sz-(n0+1)*sz) top) (v := .slice (some ⟨w.heap.size,0,none⟩) (n0+1) (grownCap w (n0+1) c e)) (T:=e)
    (arr:=(arr.toList.take (n0*sz)).toArray++arr2.toList.toArray++Builtin.zeroCells v.cells (grownCap w (n0+1) c e-(n0+1))) (ay.mp hd) hs fun m h1 h2 _=>?_
   ·refine hK' _ _ (h _ _ ?_ Q hq);exact hst.drop (.there _ (.here _))
   ·simp only [fy,dv];obtain⟨q1,_⟩:=(getc m h2).split;rw [hcl]at q1;refine(q1.append (get2 m h1 h2)).append (bn.topL ?_ (fH hfl));rw [aR,size_zeroCells,hvs,ij]
inductive Tk:LH→LH→LH→Prop
 |nil (R:LH):Tk R [] R
 |same (R:LH):Tk R R []
 |cons {b:Nat}{T:TypeId}{cs:List SV}{H H1 Hin R:LH}(h:aq b T cs H H1) (k:Tk H1 Hin R):Tk H ((b,T,cs)::Hin) R
 |skip (e:Nat×TypeId×List SV){H Hin R:LH}(k:Tk H Hin R):Tk (e::H) Hin (e::R)
theorem Tk.perm {H Hin R:LH}(h:Tk H Hin R):H.Perm (Hin++R):=by
 induction h with
 |nil=>exact iY _
 |same=>rw [bw]
 |cons h _ ih=>exact h.perm.trans (ih.cons _)
 |skip e _ ih=>exact(ih.cons e).trans lM.symm
theorem Spl.app:∀(Hin R:LH),Spl (Hin++R) Hin R
 | [],R => .nil R
 |(_,_,_)::Hin,R => .cons (.here _) (Spl.app Hin R)
theorem WPL.perm {l:List Oper}{H':LH}(hp:H.Perm H') (k:WPL P C n ops l K F H'):WPL P C n ops l K F H:=by
 unfold WPL at *;exact fun a w hs=>k a w (hs.perm hp)
theorem WP.perm {c:Code}{H':LH}{Q:Exit→Fr→LH→Prop}(hp:H.Perm H') (k:WP P C n c Q F H'):WP P C n c Q F H:=by
 unfold WP at *;exact fun a w hs=>k a w (hs.perm hp)
theorem WfT {f:FuncId}{d:Nat}{l:List Operand}{tys:Array TypeId}{svs:List SV}{Hin Rs:LH}{R:SV→LH→Prop}(hc:PuH P f svs Hin R noX) (k:∀res H',R res H'→WPL P C n ops rest K (upd F d res) (Rs++H'))
  (ha:l.map (ev F)=svs:=by exact rfl) (hs:Tk H Hin Rs:=by(repeat(first|exact Tk.nil _|exact Tk.same _|(apply Tk.cons;(first|exact(aq.here _)|exact(aq.there _ (aq.here _))|exact(aq.there _ (aq.there _ (aq.here _)))|exact(aq.there _ (aq.there _ (aq.there _ (aq.here _))))|exact(aq.there _ (aq.there _ (aq.there _ (aq.there _ (aq.here _)))))|exact(aq.there _ (aq.there _ (aq.there _ (aq.there _ (aq.there _ (aq.here _))))))|exact(aq.there _ (aq.there _ (aq.there _ (aq.there _ (aq.there _ (aq.there _ (aq.here _)))))))|exact(aq.there _ (aq.there _ (aq.there _ (aq.there _ (aq.there _ (aq.there _ (aq.there _ (aq.here _))))))))|exact(aq.there _ (aq.there _ (aq.there _ (aq.there _ (aq.there _ (aq.there _ (aq.there _ (aq.there _ (aq.here _)))))))))|exact(aq.there _ (aq.there _ (aq.there _ (aq.there _ (aq.there _ (aq.there _ (aq.there _ (aq.there _ (aq.there _ (aq.here _))))))))))))|apply Tk.skip))) (hd:Nat.blt d n=true:=by exact rfl) :
  WPL P C n ops (⟨some d, .call ⟨.value (.func f),l.toArray,tys⟩,ty,pos,aft,none⟩::rest) K F H :=
 .perm hs.perm (.callH (s:=lit (.func (.func f) #[] #[])) (first:=[]) (caps:=[]) rfl hc (Spl.app _ _) (by rw [a8,bw];exact ha) hd (fun res H' h => .perm aC (k res H' h)) fun _ _ h=>h.elim)
theorem WvT {x:Operand}{f:FuncId}{first caps:List SV}{d:Nat}{l:List Operand}{tys:Array TypeId}{svs:List SV}{Hin Rs:LH}{R:SV→LH→Prop}(hc:PuH P f svs Hin R noX) (k:∀res H',R res H'→WPL P C n ops rest K (upd F d res) (Rs++H'))
  (hx:ev F x=fnv f first caps:=by exact rfl) (ha:first++l.map (ev F)++caps=svs:=by exact rfl) (hs:Tk H Hin Rs:=by(repeat(first|exact Tk.nil _|exact Tk.same _|(apply Tk.cons;(first|exact(aq.here _)|exact(aq.there _ (aq.here _))|exact(aq.there _ (aq.there _ (aq.here _)))|exact(aq.there _ (aq.there _ (aq.there _ (aq.here _))))|exact(aq.there _ (aq.there _ (aq.there _ (aq.there _ (aq.here _)))))|exact(aq.there _ (aq.there _ (aq.there _ (aq.there _ (aq.there _ (aq.here _))))))|exact(aq.there _ (aq.there _ (aq.there _ (aq.there _ (aq.there _ (aq.there _ (aq.here _)))))))|exact(aq.there _ (aq.there _ (aq.there _ (aq.there _ (aq.there _ (aq.there _ (aq.there _ (aq.here _))))))))|exact(aq.there _ (aq.there _ (aq.there _ (aq.there _ (aq.there _ (aq.there _ (aq.there _ (aq.there _ (aq.here _)))))))))|exact(aq.there _ (aq.there _ (aq.there _ (aq.there _ (aq.there _ (aq.there _ (aq.there _ (aq.there _ (aq.there _ (aq.here _))))))))))))|apply Tk.skip))) (hd:Nat.blt d n=true:=by exact rfl) :
  WPL P C n ops (⟨some d, .call ⟨.value x,l.toArray,tys⟩,ty,pos,aft,none⟩::rest) K F H :=
 .perm hs.perm (.callH hx hc (Spl.app _ _) ha hd (fun res H' h => .perm aC (k res H' h)) fun _ _ h=>h.elim)
theorem oo {T e:TypeId}{sz by_:Nat}{z:List SV}{g:Bool} [hS:TSl P T e] [hT:TY P e sz by_ z g]{d:Nat}{x y:Operand}{n0 b2 c2:Nat}{T':TypeId}{cs ds:List SV}{s:SV}{Hs Rs:LH}
  (hown:Own e sz n0 cs s Hs) (hl:n0≤1000000000) (k:∀s' H',Own e sz (n0+1) (cs++ds) s' H'→WPL P C n ops rest K (upd F d s') (Rs++H'))
  (hx:ev F x=s:=by exact rfl) (hy:ev F y=lit (.slice (some ⟨b2,0,none⟩) 1 c2):=by exact rfl) (hsp:Tk H Hs Rs:=by(repeat(first|exact Tk.nil _|exact Tk.same _|(apply Tk.cons;(first|exact(aq.here _)|exact(aq.there _ (aq.here _))|exact(aq.there _ (aq.there _ (aq.here _)))|exact(aq.there _ (aq.there _ (aq.there _ (aq.here _))))|exact(aq.there _ (aq.there _ (aq.there _ (aq.there _ (aq.here _)))))|exact(aq.there _ (aq.there _ (aq.there _ (aq.there _ (aq.there _ (aq.here _))))))|exact(aq.there _ (aq.there _ (aq.there _ (aq.there _ (aq.there _ (aq.there _ (aq.here _)))))))|exact(aq.there _ (aq.there _ (aq.there _ (aq.there _ (aq.there _ (aq.there _ (aq.there _ (aq.here _))))))))|exact(aq.there _ (aq.there _ (aq.there _ (aq.there _ (aq.there _ (aq.there _ (aq.there _ (aq.there _ (aq.here _)))))))))|exact(aq.there _ (aq.there _ (aq.there _ (aq.there _ (aq.there _ (aq.there _ (aq.there _ (aq.there _ (aq.there _ (aq.here _))))))))))))|apply Tk.skip))) (hm:(b2,T',ds)∈Rs:=by(first|exact Ms|exact(Mc Ms)|exact(Mc (Mc Ms))|exact(Mc (Mc (Mc Ms)))|exact(Mc (Mc (Mc (Mc Ms))))|exact(Mc (Mc (Mc (Mc (Mc Ms)))))|exact(Mc (Mc (Mc (Mc (Mc (Mc Ms))))))|exact(Mc (Mc (Mc (Mc (Mc (Mc (Mc Ms)))))))|exact(Mc (Mc (Mc (Mc (Mc (Mc (Mc (Mc Ms))))))))|exact(Mc (Mc (Mc (Mc (Mc (Mc (Mc (Mc (Mc Ms))))))))))) (hds:ds.length=sz:=by exact rfl) (hpos:0<sz:=by decide) (hby:by_≤10000:=by decide)
  (hd:Nat.blt d n=true:=by exact rfl) :
  WPL P C n ops (⟨some d, .call ⟨.builtin .append,#[x,y],#[T,T]⟩,ty,pos,aft,none⟩::rest) K F H :=
 .perm hsp.perm (.appOwn hown hx hy (Spl.app _ _) hm hds hpos hl hby (fun s' H' h => .perm aC (k s' H' h)) hd)
theorem Own.co {T:TypeId}{sz n0:Nat}{cs:List SV}{s:SV}{Hs:LH}(h:Own T sz n0 cs s Hs):CO s [s]:=by
 obtain⟨_,⟨_,rfl,_⟩|⟨_,_,_,_,rfl,_⟩⟩:=h <;> exact lj fun m v hv=>by rw [ap]at hv;subst hv;exact⟨rfl,rfl⟩
theorem be {T e:TypeId}{sz n0:Nat}{cs:List SV}{s:SV}{Hs:LH}{x:Operand} [hS:TSl P T e] (h:Own e sz n0 cs s Hs) (hx:ev F x=s):OpV P (.call ⟨.builtin .len,#[x],#[T]⟩) ty F H (lit (.int .i64 n0)):=by
 obtain⟨_,⟨rfl,rfl,_⟩|⟨_,_,_,_,rfl,_⟩⟩:=h
 ·exact Bo hx
 ·exact Bo hx
end
end Go.Ab
