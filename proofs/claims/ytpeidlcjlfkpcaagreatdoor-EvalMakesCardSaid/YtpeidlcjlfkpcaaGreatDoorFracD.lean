/- Package frac: sums and products. -/
import Derived.Test.YtpeidlcjlfkpcaaGreatDoorB09
set_option linter.all false
set_option maxHeartbeats 16000000
namespace Go.Ab
open Go.Proofs
variable [Base]
theorem l8 (x y:Rat) (hx:ht x≤3000000) (hy:ht y≤3000000):Pu Tryz.prog 228 [fr x,fr y] (fr (x*y)):=by
 have n1:=ef x;have n2:=ef y;have d1:=eh x;have d2:=eh y;rw [nD];refine Pi Tryz.func228 fun C=>?_
 repeat(refine AS ⟨?_⟩;intros)
 iterate 3 (refine O1 ⟨?_⟩;intros)
 rename_i b2 b3 b4;refine WPL.nil ?_;refine xW ?_;refine WP.seq' ?_
 refine WP.via (fun F H=>LeF F (fm [(2,lit (.pointer (some ⟨b2,0,none⟩))),(3,lit (.pointer (some ⟨b3,0,none⟩))),(4,lit (.pointer (some ⟨b4,0,none⟩)))])∧
  H=[(b4,126,[lit (.int .i64 0),lit (.int .i64 0),lit (.pointer none)]),(b3,126,[lit (.int .i64 (r0 y)),lit (.int .i64 (r1 y)),r2 y]),(b2,126,[lit (.int .i64 (r0 x)),lit (.int .i64 (r1 x)),r2 x])]) ?_ ?_
 ·by_cases sx:dW x
  ·by_cases sy:dW y
   ·have hx1:=sx.1;have hx2:=sx.2;have hy1:=sy.1;have hy2:=sy.2;have t1:=xV x.num y.num om om om om;have t2:=xV x.den y.den om om om om;rw [EX sx,EW sx,EV sx,EX sy,EW sy,EV sy];rw [show((x.den:Int)*(y.den:Int)).natAbs=x.den*y.den from by rw [←cX];rfl,←cX]at t2;have hd0:x.den*y.den≠0:=iu x.den_nz y.den_nz;have lo:=AC (x.num*y.num) (x.den*y.den);generalize x.num*y.num=a at *;generalize x.den*y.den=d at *;by_cases c1:a.natAbs<4611686018427387904
    ·rw [if_pos c1]at t1;by_cases c2:d<4611686018427387904
     ·rw [if_pos c2]at t2;refine A2 ⟨?_⟩;intros;refine Wc t1 ?_;refine A2 ⟨?_⟩;intros;rw [gI,gI];refine Wc t2 ?_;refine A2 ⟨?_⟩;intros;refine Wc (lo c1 hd0 c2) ?_;exact Z2
     ·rw [if_neg c2]at t2;refine A2 ⟨?_⟩;intros;refine Wc t1 ?_;refine A2 ⟨?_⟩;intros;rw [gI,gI];refine Wc t2 ?_;refine A2 ⟨?_⟩;intros;exact⟨lfA,rfl⟩
    ·rw [if_neg c1]at t1
     have t3:∃z b,Pu Tryz.prog 263 [lit (.int .i64 x.den),lit (.int .i64 y.den)] (tup [lit (.int .i64 z),lit (.bool b)]):=by
      split at t2 <;> exact⟨_,_,t2⟩
     obtain⟨z,b,t3⟩:=t3;refine A2 ⟨?_⟩;intros;refine Wc t1 ?_;refine A2 ⟨?_⟩;intros;rw [gI,gI];refine Wc t3 ?_;refine A2 ⟨?_⟩;intros;exact⟨lfA,rfl⟩
   ·rw [EX sx,EW sx,EV sx,KS sy,KR sy,KQ sy];refine A2 ⟨?_⟩;intros;exact⟨lfA,rfl⟩
  ·rw [KS sx,KR sx,KQ sx];refine A2 ⟨?_⟩;intros;exact⟨lfA,rfl⟩
 ·rintro F H ⟨hF,rfl⟩;refine WP.le hF ?_;refine A2 ⟨?_⟩;intros;refine Wdc (oS x om) ?_;refine A2 ⟨?_⟩;intros;refine Wdc (oS y om) ?_;refine A2 ⟨?_⟩;intros;refine Wdc (Hg x.num y.num om om) ?_;refine A2 ⟨?_⟩;intros;refine Wdc (qM x om) ?_;refine A2 ⟨?_⟩;intros;refine Wdc (qM y om) ?_;refine A2 ⟨?_⟩;intros;refine Wdc (DA x.den y.den om om) ?_;refine A2 ⟨?_⟩;intros;have m1:=oV x.num y.num;have m2:=ew x.den y.den;refine Wdc (tI (x.num*y.num) (x.den*y.den) om om) ?_;exact Z2
theorem B9 (x y:Rat):x+y=mkRat (x.num*y.den+y.num*x.den) (x.den*y.den):=nE x y
theorem B8 {x y:Rat}(h1:x.den=1) (h2:y.den=1):x+y=((x.num+y.num:Int):Rat):=by
 rw [nE,h1,h2,Int.natCast_one,qe,qe,cB,jA]
theorem vK {a b:Int}(ha0 : -9223372036854775807≤a) (ha1:a≤9223372036854775807) (hb0 : -9223372036854775807≤b) (hb1:b≤9223372036854775807) :
  ∃z t,Pu Tryz.prog 263 [lit (.int .i64 a),lit (.int .i64 b)] (tup [lit (.int .i64 z),lit (.bool t)])∧-4611686018427387904<z∧z<4611686018427387904∧(t=true→z=a*b):=by
 have:=xV a b ha0 ha1 hb0 hb1;split at this
 ·exact⟨_,_,this,om,om,fun _=>rfl⟩
 ·exact⟨_,_,this,om,om,fun h=>by cases h⟩
theorem qp (x y:Rat) (hx:ht x≤3000000) (hy:ht y≤3000000):Pu Tryz.prog 229 [fr x,fr y] (fr (x+y)):=by
 have n1:=ef x;have n2:=ef y;have d1:=eh x;have d2:=eh y;refine Pi Tryz.func229 fun C=>?_
 repeat(refine AS ⟨?_⟩;intros)
 iterate 3 (refine O1 ⟨?_⟩;intros)
 rename_i b2 b3 b4;refine WPL.nil ?_;refine xW ?_;refine WP.seq' ?_
 refine WP.via (fun F H=>LeF F (fm [(2,lit (.pointer (some ⟨b2,0,none⟩))),(3,lit (.pointer (some ⟨b3,0,none⟩))),(4,lit (.pointer (some ⟨b4,0,none⟩)))])∧
  H=[(b4,126,[lit (.int .i64 0),lit (.int .i64 0),lit (.pointer none)]),(b3,126,[lit (.int .i64 (r0 y)),lit (.int .i64 (r1 y)),r2 y]),(b2,126,[lit (.int .i64 (r0 x)),lit (.int .i64 (r1 x)),r2 x])]) ?_ ?_
 ·by_cases sx:dW x
  ·by_cases sy:dW y
   ·have hx1:=sx.1;have hx2:=sx.2;have hy1:=sy.1;have hy2:=sy.2;have hxn:=x.den_nz;have hyn:=y.den_nz;rw [EX sx,EW sx,EV sx,EX sy,EW sy,EV sy];by_cases h1:x.den=1∧y.den=1
    ·rw [B8 h1.1 h1.2];have fi:=C6 (x.num+y.num) om om;refine A2 ⟨?_⟩;intros;refine Wc fi ?_;exact Z2
    ·rw [B9];obtain⟨z1,c1,t1,u1,v1,w1⟩:=vK (a:=x.num) (b:=y.den) om om om om;obtain⟨z2,c2,t2,u2,v2,w2⟩:=vK (a:=y.num) (b:=x.den) om om om om;obtain⟨z3,c3,t3,u3,v3,w3⟩:=vK (a:=x.den) (b:=y.den) om om om om
     have lo:Hid (c1=true→c2=true→c3=true→-4611686018427387904<z1+z2→z1+z2<4611686018427387904→Pu Tryz.prog 264 [lit (.int .i64 (z1+z2)),lit (.int .i64 z3)] (fr (mkRat (x.num*y.den+y.num*x.den) (x.den*y.den)))):=by
      intro g1 g2 g3 g4 g5;have e3:=w3 g3;rw [←cX]at e3;rw [e3,←w1 g1,←w2 g2];exact AC _ _ om (iu hxn hyn) om
     generalize mkRat (x.num*y.den+y.num*x.den) (x.den*y.den)=rr at *;clear w1 w2 w3;have hd1:x.den=1→y.den≠1:=fun a b=>h1 ⟨a,b⟩
     clear h1;by_cases hd:x.den=1
     all_goals
      first|(have hd2:=hd1 hd;clear hd1)|clear hd1
      refine A2 ⟨?_⟩;intros;rw [gI];refine Wc t1 ?_;refine A2 ⟨?_⟩;intros;rw [gI];refine Wc t2 ?_;refine A2 ⟨?_⟩;intros;rw [gI,gI];refine Wc t3 ?_;refine A2 ⟨?_⟩;intros;cases c1
      ·refine A2 ⟨?_⟩;intros;exact⟨lfA,rfl⟩
      cases c2
      ·refine A2 ⟨?_⟩;intros;exact⟨lfA,rfl⟩
      cases c3
      ·refine A2 ⟨?_⟩;intros;exact⟨lfA,rfl⟩
      by_cases g1 : -4611686018427387904<z1+z2
      ·by_cases g2:z1+z2<4611686018427387904
       ·refine A2 ⟨?_⟩;intros;refine Wc (lo.out rfl rfl rfl g1 g2) ?_;exact Z2
       ·refine A2 ⟨?_⟩;intros;exact⟨lfA,rfl⟩
      ·refine A2 ⟨?_⟩;intros;exact⟨lfA,rfl⟩
   ·rw [EX sx,EW sx,EV sx,KS sy,KR sy,KQ sy];refine A2 ⟨?_⟩;intros;exact⟨lfA,rfl⟩
  ·rw [KS sx,KR sx,KQ sx];refine A2 ⟨?_⟩;intros;exact⟨lfA,rfl⟩
 ·rintro F H ⟨hF,rfl⟩;rw [B9];refine WP.le hF ?_;refine A2 ⟨?_⟩;intros;refine Wdc (oS x om) ?_;refine A2 ⟨?_⟩;intros;refine Wdc (qM y om) ?_;refine A2 ⟨?_⟩;intros;refine Wdc (DB x.num y.den om om) ?_;refine A2 ⟨?_⟩;intros;refine Wdc (oS y om) ?_;refine A2 ⟨?_⟩;intros;refine Wdc (qM x om) ?_;refine A2 ⟨?_⟩;intros;refine Wdc (DB y.num x.den om om) ?_;have m1:=oV x.num y.den;have m2:=oV y.num x.den;have m3:=BZ (x.num*y.den) (y.num*x.den);have m4:=ew x.den y.den;rw [yL]at m1 m2;refine A2 ⟨?_⟩;intros;refine Wdc (Qa (x.num*y.den) (y.num*x.den) om om) ?_;refine A2 ⟨?_⟩;intros;refine Wdc (qM x om) ?_;refine A2 ⟨?_⟩;intros;refine Wdc (qM y om) ?_;refine A2 ⟨?_⟩;intros;refine Wdc (DA x.den y.den om om) ?_;refine A2 ⟨?_⟩;intros;refine Wdc (tI (x.num*y.den+y.num*x.den) (x.den*y.den) om om) ?_;exact Z2
theorem um (x y:Rat) (hx:ht x≤3000000) (hy:ht y≤3000000):Pu Tryz.prog 225 [fr x,fr y] (fr (x-y)):=by
 rw [pY];refine Pi Tryz.func225 fun C=>?_
 refine A2 ⟨?_⟩;intros;refine Wdc (lZ y om) ?_;refine A2 ⟨?_⟩;intros;refine Wdc (qp x (-y) hx (by rw [fI];exact hy)) ?_;exact Z2
end Go.Ab
