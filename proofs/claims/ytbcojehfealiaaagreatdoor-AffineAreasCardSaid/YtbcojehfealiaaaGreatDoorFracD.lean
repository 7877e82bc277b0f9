/- Package frac: sums and products. -/
import Derived.Test.YtbcojehfealiaaaGreatDoorB06
set_option linter.all false
set_option maxHeartbeats 16000000
namespace Go.Ab
open Go.Proofs
variable [Base]
theorem dY (x y:Rat) (hx:ht x≤3000000) (hy:ht y≤3000000):Pu Tryz.prog 111 [fr x,fr y] (fr (x*y)):=by
 have n1:=bQ x;have n2:=bQ y;have d1:=cB x;have d2:=cB y;rw [Rat.mul_def'];refine Pi Tryz.func111 fun C=>?_
 repeat(refine AS ⟨?_⟩;intros)
 iterate 3 (refine O1 ⟨?_⟩;intros)
 rename_i b2 b3 b4;refine WPL.nil ?_;refine t8 ?_;refine WP.seq' ?_
 refine WP.via (fun F H=>LeF F (fm [(2,lit (.pointer (some ⟨b2,0,none⟩))),(3,lit (.pointer (some ⟨b3,0,none⟩))),(4,lit (.pointer (some ⟨b4,0,none⟩)))])∧
  H=[(b4,92,[lit (.int .i64 0),lit (.int .i64 0),lit (.pointer none)]),(b3,92,[lit (.int .i64 (r0 y)),lit (.int .i64 (r1 y)),r2 y]),(b2,92,[lit (.int .i64 (r0 x)),lit (.int .i64 (r1 x)),r2 x])]) ?_ ?_
 ·by_cases sx:bz x
  ·by_cases sy:bz y
   ·have hx1:=sx.1;have hx2:=sx.2;have hy1:=sy.1;have hy2:=sy.2;have t1:=qK x.num y.num om om om om;have t2:=qK x.den y.den om om om om;rw [wP sx,yQ sx,yP sx,wP sy,yQ sy,yP sy];rw [show((x.den:Int)*(y.den:Int)).natAbs=x.den*y.den from by rw [←Int.natCast_mul];rfl,←Int.natCast_mul]at t2;have hd0:x.den*y.den≠0:=Nat.mul_ne_zero x.den_nz y.den_nz;have lo:=tQ (x.num*y.num) (x.den*y.den);generalize x.num*y.num=a at *;generalize x.den*y.den=d at *;by_cases c1:a.natAbs<4611686018427387904
    ·rw [if_pos c1]at t1;by_cases c2:d<4611686018427387904
     ·rw [if_pos c2]at t2;repeat(refine A1 ⟨?_⟩;intros)
      refine Wc t1 ?_;repeat(refine A1 ⟨?_⟩;intros)
      rw [Int.sub_add_cancel,Int.sub_add_cancel];refine Wc t2 ?_;repeat(refine A1 ⟨?_⟩;intros)
      refine Wc (lo c1 hd0 c2) ?_;exact Z2
     ·rw [if_neg c2]at t2;repeat(refine A1 ⟨?_⟩;intros)
      refine Wc t1 ?_;repeat(refine A1 ⟨?_⟩;intros)
      rw [Int.sub_add_cancel,Int.sub_add_cancel];refine Wc t2 ?_;repeat(refine A1 ⟨?_⟩;intros)
      exact⟨lfA,rfl⟩
    ·rw [if_neg c1]at t1
     have t3:∃z b,Pu Tryz.prog 156 [lit (.int .i64 x.den),lit (.int .i64 y.den)] (tup [lit (.int .i64 z),lit (.bool b)]):=by
      split at t2 <;> exact⟨_,_,t2⟩
     obtain⟨z,b,t3⟩:=t3;repeat(refine A1 ⟨?_⟩;intros)
     refine Wc t1 ?_;repeat(refine A1 ⟨?_⟩;intros)
     rw [Int.sub_add_cancel,Int.sub_add_cancel];refine Wc t3 ?_;repeat(refine A1 ⟨?_⟩;intros)
     exact⟨lfA,rfl⟩
   ·rw [wP sx,yQ sx,yP sx,Ee sy,Ed sy,Ec sy];repeat(refine A1 ⟨?_⟩;intros)
    exact⟨lfA,rfl⟩
  ·rw [Ee sx,Ed sx,Ec sx];repeat(refine A1 ⟨?_⟩;intros)
   exact⟨lfA,rfl⟩
 ·rintro F H ⟨hF,rfl⟩;refine WP.le hF ?_;repeat(refine A1 ⟨?_⟩;intros)
  refine Wdc (jo x om) ?_;repeat(refine A1 ⟨?_⟩;intros)
  refine Wdc (jo y om) ?_;repeat(refine A1 ⟨?_⟩;intros)
  refine Wdc (AO x.num y.num om om) ?_;repeat(refine A1 ⟨?_⟩;intros)
  refine Wdc (ku x om) ?_;repeat(refine A1 ⟨?_⟩;intros)
  refine Wdc (ku y om) ?_;repeat(refine A1 ⟨?_⟩;intros)
  refine Wdc (xq x.den y.den om om) ?_;repeat(refine A1 ⟨?_⟩;intros)
  have m1:=bG x.num y.num;have m2:=bW x.den y.den;refine Wdc (mI (x.num*y.num) (x.den*y.den) om om) ?_;exact Z2
theorem uq (x y:Rat):x+y=mkRat (x.num*y.den+y.num*x.den) (x.den*y.den):=Rat.add_def' x y
theorem uo {x y:Rat}(h1:x.den=1) (h2:y.den=1):x+y=((x.num+y.num:Int):Rat):=by
 rw [Rat.add_def',h1,h2,Int.natCast_one,Int.mul_one,Int.mul_one,Nat.mul_one,Rat.mkRat_one]
theorem oR {a b:Int}(ha0 : -9223372036854775807≤a) (ha1:a≤9223372036854775807) (hb0 : -9223372036854775807≤b) (hb1:b≤9223372036854775807) :
  ∃z t,Pu Tryz.prog 156 [lit (.int .i64 a),lit (.int .i64 b)] (tup [lit (.int .i64 z),lit (.bool t)])∧-4611686018427387904<z∧z<4611686018427387904∧(t=true→z=a*b):=by
 have:=qK a b ha0 ha1 hb0 hb1;split at this
 ·exact⟨_,_,this,om,om,fun _=>rfl⟩
 ·exact⟨_,_,this,om,om,fun h=>by cases h⟩
theorem iR (x y:Rat) (hx:ht x≤3000000) (hy:ht y≤3000000):Pu Tryz.prog 98 [fr x,fr y] (fr (x+y)):=by
 have n1:=bQ x;have n2:=bQ y;have d1:=cB x;have d2:=cB y;refine Pi Tryz.func98 fun C=>?_
 repeat(refine AS ⟨?_⟩;intros)
 iterate 3 (refine O1 ⟨?_⟩;intros)
 rename_i b2 b3 b4;refine WPL.nil ?_;refine t8 ?_;refine WP.seq' ?_
 refine WP.via (fun F H=>LeF F (fm [(2,lit (.pointer (some ⟨b2,0,none⟩))),(3,lit (.pointer (some ⟨b3,0,none⟩))),(4,lit (.pointer (some ⟨b4,0,none⟩)))])∧
  H=[(b4,92,[lit (.int .i64 0),lit (.int .i64 0),lit (.pointer none)]),(b3,92,[lit (.int .i64 (r0 y)),lit (.int .i64 (r1 y)),r2 y]),(b2,92,[lit (.int .i64 (r0 x)),lit (.int .i64 (r1 x)),r2 x])]) ?_ ?_
 ·by_cases sx:bz x
  ·by_cases sy:bz y
   ·have hx1:=sx.1;have hx2:=sx.2;have hy1:=sy.1;have hy2:=sy.2;have hxn:=x.den_nz;have hyn:=y.den_nz;rw [wP sx,yQ sx,yP sx,wP sy,yQ sy,yP sy];by_cases h1:x.den=1∧y.den=1
    ·rw [uo h1.1 h1.2];have fi:=lP (x.num+y.num) om om;repeat(refine A1 ⟨?_⟩;intros)
     refine Wc fi ?_;exact Z2
    ·rw [uq];obtain⟨z1,c1,t1,u1,v1,w1⟩:=oR (a:=x.num) (b:=y.den) om om om om;obtain⟨z2,c2,t2,u2,v2,w2⟩:=oR (a:=y.num) (b:=x.den) om om om om;obtain⟨z3,c3,t3,u3,v3,w3⟩:=oR (a:=x.den) (b:=y.den) om om om om
     have lo:Hid (c1=true→c2=true→c3=true→-4611686018427387904<z1+z2→z1+z2<4611686018427387904→Pu Tryz.prog 157 [lit (.int .i64 (z1+z2)),lit (.int .i64 z3)] (fr (mkRat (x.num*y.den+y.num*x.den) (x.den*y.den)))):=by
      intro g1 g2 g3 g4 g5;have e3:=w3 g3;rw [←Int.natCast_mul]at e3;rw [e3,←w1 g1,←w2 g2];exact tQ _ _ om (Nat.mul_ne_zero hxn hyn) om
     generalize mkRat (x.num*y.den+y.num*x.den) (x.den*y.den)=rr at *;clear w1 w2 w3;have hd1:x.den=1→y.den≠1:=fun a b=>h1 ⟨a,b⟩
     clear h1;by_cases hd:x.den=1
     all_goals
      first|(have hd2:=hd1 hd;clear hd1)|clear hd1
      repeat(refine A1 ⟨?_⟩;intros)
      rw [Int.sub_add_cancel];refine Wc t1 ?_;repeat(refine A1 ⟨?_⟩;intros)
      rw [Int.sub_add_cancel];refine Wc t2 ?_;repeat(refine A1 ⟨?_⟩;intros)
      rw [Int.sub_add_cancel,Int.sub_add_cancel];refine Wc t3 ?_;repeat(refine A1 ⟨?_⟩;intros)
      cases c1
      ·repeat(refine A1 ⟨?_⟩;intros)
       exact⟨lfA,rfl⟩
      cases c2
      ·repeat(refine A1 ⟨?_⟩;intros)
       exact⟨lfA,rfl⟩
      cases c3
      ·repeat(refine A1 ⟨?_⟩;intros)
       exact⟨lfA,rfl⟩
      by_cases g1 : -4611686018427387904<z1+z2
      ·by_cases g2:z1+z2<4611686018427387904
       ·repeat(refine A1 ⟨?_⟩;intros)
        refine Wc (lo.out rfl rfl rfl g1 g2) ?_;exact Z2
       ·repeat(refine A1 ⟨?_⟩;intros)
        exact⟨lfA,rfl⟩
      ·repeat(refine A1 ⟨?_⟩;intros)
       exact⟨lfA,rfl⟩
   ·rw [wP sx,yQ sx,yP sx,Ee sy,Ed sy,Ec sy];repeat(refine A1 ⟨?_⟩;intros)
    exact⟨lfA,rfl⟩
  ·rw [Ee sx,Ed sx,Ec sx];repeat(refine A1 ⟨?_⟩;intros)
   exact⟨lfA,rfl⟩
 ·rintro F H ⟨hF,rfl⟩;rw [uq];refine WP.le hF ?_;repeat(refine A1 ⟨?_⟩;intros)
  refine Wdc (jo x om) ?_;repeat(refine A1 ⟨?_⟩;intros)
  refine Wdc (ku y om) ?_;repeat(refine A1 ⟨?_⟩;intros)
  refine Wdc (xr x.num y.den om om) ?_;repeat(refine A1 ⟨?_⟩;intros)
  refine Wdc (jo y om) ?_;repeat(refine A1 ⟨?_⟩;intros)
  refine Wdc (ku x om) ?_;repeat(refine A1 ⟨?_⟩;intros)
  refine Wdc (xr y.num x.den om om) ?_;have m1:=bG x.num y.den;have m2:=bG y.num x.den;have m3:=pm (x.num*y.den) (y.num*x.den);have m4:=bW x.den y.den;rw [mQ]at m1 m2;repeat(refine A1 ⟨?_⟩;intros)
  refine Wdc (J0 (x.num*y.den) (y.num*x.den) om om) ?_;repeat(refine A1 ⟨?_⟩;intros)
  refine Wdc (ku x om) ?_;repeat(refine A1 ⟨?_⟩;intros)
  refine Wdc (ku y om) ?_;repeat(refine A1 ⟨?_⟩;intros)
  refine Wdc (xq x.den y.den om om) ?_;repeat(refine A1 ⟨?_⟩;intros)
  refine Wdc (mI (x.num*y.den+y.num*x.den) (x.den*y.den) om om) ?_;exact Z2
theorem nN (x y:Rat) (hx:ht x≤3000000) (hy:ht y≤3000000):Pu Tryz.prog 192 [fr x,fr y] (fr (x-y)):=by
 rw [Rat.sub_eq_add_neg];refine Pi Tryz.func192 fun C=>?_
 repeat(refine A1 ⟨?_⟩;intros)
 refine Wdc (fK y om) ?_;repeat(refine A1 ⟨?_⟩;intros)
 refine Wdc (iR x (-y) hx (by rw [ck];exact hy)) ?_;exact Z2
end Go.Ab
