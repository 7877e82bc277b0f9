/- Package frac: sums and products. -/
import Derived.Test.YtgiifnbebppbgaaGreatDoorB09
set_option linter.unusedSectionVars false
set_option linter.unusedVariables false
set_option linter.unusedSimpArgs false
namespace Go.Ab
open Go.Proofs
variable [Base]
set_option maxHeartbeats 2000000 in
theorem rmul_pu (x y:Rat) (hx:ht x≤3000000) (hy:ht y≤3000000):Pu Tryz.prog 226 [fr x,fr y] (fr (x*y)):=by
 have n1:=ht_num x
 have n2:=ht_num y
 have d1:=ht_den x
 have d2:=ht_den y
 rw [Rat.mul_def']
 refine Pu.intro Tryz.func226 rfl (by kernel_rfl) fun C=>?_
 repeat(refine AS ⟨?_⟩;intros)
 iterate 3 (refine O1 ⟨?_⟩;intros)
 rename_i b2 b3 b4
 refine WPL.nil ?_
 refine thenN ?_
 refine WP.seq' ?_
 refine WP.via (fun F H=>LeF F (fm [(2,lit (.pointer (some ⟨b2,0,none⟩))),(3,lit (.pointer (some ⟨b3,0,none⟩))),(4,lit (.pointer (some ⟨b4,0,none⟩)))])∧
  H=[(b4,112,[lit (.int .i64 0),lit (.int .i64 0),lit (.pointer none)]),(b3,112,[lit (.int .i64 (r0 y)),lit (.int .i64 (r1 y)),r2 y]),(b2,112,[lit (.int .i64 (r0 x)),lit (.int .i64 (r1 x)),r2 x])]) ?_ ?_
 ·by_cases sx:small x
  ·by_cases sy:small y
   ·have hx1:=sx.1
    have hx2:=sx.2
    have hy1:=sy.1
    have hy2:=sy.2
    have t1:=times_pu x.num y.num (by omega) (by omega) (by omega) (by omega)
    have t2:=times_pu x.den y.den (by omega) (by omega) (by omega) (by omega)
    rw [r0_s sx,r1_s sx,r2_s sx,r0_s sy,r1_s sy,r2_s sy]
    rw [show((x.den:Int)*(y.den:Int)).natAbs=x.den*y.den from by rw [←Int.natCast_mul];rfl,←Int.natCast_mul]at t2
    have hd0:x.den*y.den≠0:=Nat.mul_ne_zero x.den_nz y.den_nz
    have lo:=lowest_pu (x.num*y.num) (x.den*y.den)
    generalize x.num*y.num=a at *
    generalize x.den*y.den=d at *
    by_cases c1:a.natAbs<4611686018427387904
    ·rw [if_pos c1]at t1
     by_cases c2:d<4611686018427387904
     ·rw [if_pos c2]at t2
      repeat(refine A1 ⟨?_⟩;intros)
      refine Wc t1 ?_
      repeat(refine A1 ⟨?_⟩;intros)
      rw [Int.sub_add_cancel,Int.sub_add_cancel]
      refine Wc t2 ?_
      repeat(refine A1 ⟨?_⟩;intros)
      refine Wc (lo c1 hd0 c2) ?_
      repeat(refine A1 ⟨?_⟩;intros)
      ((first|refine endR ?_|refine endN ?_);refine end1 RVa (Le.refl _))
     ·rw [if_neg c2]at t2
      repeat(refine A1 ⟨?_⟩;intros)
      refine Wc t1 ?_
      repeat(refine A1 ⟨?_⟩;intros)
      rw [Int.sub_add_cancel,Int.sub_add_cancel]
      refine Wc t2 ?_
      repeat(refine A1 ⟨?_⟩;intros)
      exact⟨lfA,rfl⟩
    ·rw [if_neg c1]at t1
     have t3:∃z b,Pu Tryz.prog 248 [lit (.int .i64 x.den),lit (.int .i64 y.den)] (tup [lit (.int .i64 z),lit (.bool b)]):=by
      split at t2 <;> exact⟨_,_,t2⟩
     obtain⟨z,b,t3⟩:=t3
     repeat(refine A1 ⟨?_⟩;intros)
     refine Wc t1 ?_
     repeat(refine A1 ⟨?_⟩;intros)
     rw [Int.sub_add_cancel,Int.sub_add_cancel]
     refine Wc t3 ?_
     repeat(refine A1 ⟨?_⟩;intros)
     exact⟨lfA,rfl⟩
   ·rw [r0_s sx,r1_s sx,r2_s sx,r0_b sy,r1_b sy,r2_b sy]
    repeat(refine A1 ⟨?_⟩;intros)
    exact⟨lfA,rfl⟩
  ·rw [r0_b sx,r1_b sx,r2_b sx]
   repeat(refine A1 ⟨?_⟩;intros)
   exact⟨lfA,rfl⟩
 ·rintro F H ⟨hF,rfl⟩
  refine WP.le hF ?_
  repeat(refine A1 ⟨?_⟩;intros)
  refine Wdc (num_pu x (by omega)) ?_
  repeat(refine A1 ⟨?_⟩;intros)
  refine Wdc (num_pu y (by omega)) ?_
  repeat(refine A1 ⟨?_⟩;intros)
  refine Wdc (mul_int x.num y.num (by omega) (by omega)) ?_
  repeat(refine A1 ⟨?_⟩;intros)
  refine Wdc (den_pu x (by omega)) ?_
  repeat(refine A1 ⟨?_⟩;intros)
  refine Wdc (den_pu y (by omega)) ?_
  repeat(refine A1 ⟨?_⟩;intros)
  refine Wdc (mul_n x.den y.den (by omega) (by omega)) ?_
  repeat(refine A1 ⟨?_⟩;intros)
  have m1:=il_mul x.num y.num
  have m2:=dlen_mul x.den y.den
  refine Wdc (reduce_int (x.num*y.num) (x.den*y.den) (by omega) (by omega)) ?_
  repeat(refine A1 ⟨?_⟩;intros)
  ((first|refine endR ?_|refine endN ?_);refine end1 RVa (Le.refl _))
theorem add_parts (x y:Rat):x+y=mkRat (x.num*y.den+y.num*x.den) (x.den*y.den):=Rat.add_def' x y
theorem add_whole {x y:Rat}(h1:x.den=1) (h2:y.den=1):x+y=((x.num+y.num:Int):Rat):=by
 rw [Rat.add_def',h1,h2,Int.natCast_one,Int.mul_one,Int.mul_one,Nat.mul_one,Rat.mkRat_one]
theorem times_any {a b:Int}(ha0 : -9223372036854775807≤a) (ha1:a≤9223372036854775807) (hb0 : -9223372036854775807≤b) (hb1:b≤9223372036854775807) :
  ∃z t,Pu Tryz.prog 248 [lit (.int .i64 a),lit (.int .i64 b)] (tup [lit (.int .i64 z),lit (.bool t)])∧-4611686018427387904<z∧z<4611686018427387904∧(t=true→z=a*b):=by
 have:=times_pu a b ha0 ha1 hb0 hb1
 split at this
 ·exact⟨_,_,this,by omega,by omega,fun _=>rfl⟩
 ·exact⟨_,_,this,by omega,by omega,fun h=>by cases h⟩
set_option maxHeartbeats 4000000 in
theorem radd_pu (x y:Rat) (hx:ht x≤3000000) (hy:ht y≤3000000):Pu Tryz.prog 196 [fr x,fr y] (fr (x+y)):=by
 have n1:=ht_num x
 have n2:=ht_num y
 have d1:=ht_den x
 have d2:=ht_den y
 refine Pu.intro Tryz.func196 rfl (by kernel_rfl) fun C=>?_
 repeat(refine AS ⟨?_⟩;intros)
 iterate 3 (refine O1 ⟨?_⟩;intros)
 rename_i b2 b3 b4
 refine WPL.nil ?_
 refine thenN ?_
 refine WP.seq' ?_
 refine WP.via (fun F H=>LeF F (fm [(2,lit (.pointer (some ⟨b2,0,none⟩))),(3,lit (.pointer (some ⟨b3,0,none⟩))),(4,lit (.pointer (some ⟨b4,0,none⟩)))])∧
  H=[(b4,112,[lit (.int .i64 0),lit (.int .i64 0),lit (.pointer none)]),(b3,112,[lit (.int .i64 (r0 y)),lit (.int .i64 (r1 y)),r2 y]),(b2,112,[lit (.int .i64 (r0 x)),lit (.int .i64 (r1 x)),r2 x])]) ?_ ?_
 ·by_cases sx:small x
  ·by_cases sy:small y
   ·have hx1:=sx.1
    have hx2:=sx.2
    have hy1:=sy.1
    have hy2:=sy.2
    have hxn:=x.den_nz
    have hyn:=y.den_nz
    rw [r0_s sx,r1_s sx,r2_s sx,r0_s sy,r1_s sy,r2_s sy]
    by_cases h1:x.den=1∧y.den=1
    ·rw [add_whole h1.1 h1.2]
     have fi:=fint_pu (x.num+y.num) (by omega) (by omega)
     repeat(refine A1 ⟨?_⟩;intros)
     refine Wc fi ?_
     repeat(refine A1 ⟨?_⟩;intros)
     ((first|refine endR ?_|refine endN ?_);refine end1 RVa (Le.refl _))
    ·rw [add_parts]
     obtain⟨z1,c1,t1,u1,v1,w1⟩:=times_any (a:=x.num) (b:=y.den) (by omega) (by omega) (by omega) (by omega)
     obtain⟨z2,c2,t2,u2,v2,w2⟩:=times_any (a:=y.num) (b:=x.den) (by omega) (by omega) (by omega) (by omega)
     obtain⟨z3,c3,t3,u3,v3,w3⟩:=times_any (a:=x.den) (b:=y.den) (by omega) (by omega) (by omega) (by omega)
     have lo:Hid (c1=true→c2=true→c3=true→-4611686018427387904<z1+z2→z1+z2<4611686018427387904→Pu Tryz.prog 249 [lit (.int .i64 (z1+z2)),lit (.int .i64 z3)] (fr (mkRat (x.num*y.den+y.num*x.den) (x.den*y.den)))):=by
      intro g1 g2 g3 g4 g5
      have e3:=w3 g3
      rw [←Int.natCast_mul]at e3
      rw [e3,←w1 g1,←w2 g2]
      exact lowest_pu _ _ (by omega) (Nat.mul_ne_zero hxn hyn) (by omega)
     generalize mkRat (x.num*y.den+y.num*x.den) (x.den*y.den)=rr at *
     clear w1 w2 w3
     have hd1:x.den=1→y.den≠1:=fun a b=>h1 ⟨a,b⟩
     clear h1
     by_cases hd:x.den=1
     all_goals
      first|(have hd2:=hd1 hd;clear hd1)|clear hd1
      repeat(refine A1 ⟨?_⟩;intros)
      rw [Int.sub_add_cancel]
      refine Wc t1 ?_
      repeat(refine A1 ⟨?_⟩;intros)
      rw [Int.sub_add_cancel]
      refine Wc t2 ?_
      repeat(refine A1 ⟨?_⟩;intros)
      rw [Int.sub_add_cancel,Int.sub_add_cancel]
      refine Wc t3 ?_
      repeat(refine A1 ⟨?_⟩;intros)
      cases c1
      ·repeat(refine A1 ⟨?_⟩;intros)
       exact⟨lfA,rfl⟩
      cases c2
      ·repeat(refine A1 ⟨?_⟩;intros)
       exact⟨lfA,rfl⟩
      cases c3
      ·repeat(refine A1 ⟨?_⟩;intros)
       exact⟨lfA,rfl⟩
      by_cases g1 : -4611686018427387904<z1+z2
      ·by_cases g2:z1+z2<4611686018427387904
       ·repeat(refine A1 ⟨?_⟩;intros)
        refine Wc (lo.out rfl rfl rfl g1 g2) ?_
        repeat(refine A1 ⟨?_⟩;intros)
        ((first|refine endR ?_|refine endN ?_);refine end1 RVa (Le.refl _))
       ·repeat(refine A1 ⟨?_⟩;intros)
        exact⟨lfA,rfl⟩
      ·repeat(refine A1 ⟨?_⟩;intros)
       exact⟨lfA,rfl⟩
   ·rw [r0_s sx,r1_s sx,r2_s sx,r0_b sy,r1_b sy,r2_b sy]
    repeat(refine A1 ⟨?_⟩;intros)
    exact⟨lfA,rfl⟩
  ·rw [r0_b sx,r1_b sx,r2_b sx]
   repeat(refine A1 ⟨?_⟩;intros)
   exact⟨lfA,rfl⟩
 ·rintro F H ⟨hF,rfl⟩
  rw [add_parts]
  refine WP.le hF ?_
  repeat(refine A1 ⟨?_⟩;intros)
  refine Wdc (num_pu x (by omega)) ?_
  repeat(refine A1 ⟨?_⟩;intros)
  refine Wdc (den_pu y (by omega)) ?_
  repeat(refine A1 ⟨?_⟩;intros)
  refine Wdc (mul_inat x.num y.den (by omega) (by omega)) ?_
  repeat(refine A1 ⟨?_⟩;intros)
  refine Wdc (num_pu y (by omega)) ?_
  repeat(refine A1 ⟨?_⟩;intros)
  refine Wdc (den_pu x (by omega)) ?_
  repeat(refine A1 ⟨?_⟩;intros)
  refine Wdc (mul_inat y.num x.den (by omega) (by omega)) ?_
  have m1:=il_mul x.num y.den
  have m2:=il_mul y.num x.den
  have m3:=il_add (x.num*y.den) (y.num*x.den)
  have m4:=dlen_mul x.den y.den
  rw [il_nat]at m1 m2
  repeat(refine A1 ⟨?_⟩;intros)
  refine Wdc (add_int (x.num*y.den) (y.num*x.den) (by omega) (by omega)) ?_
  repeat(refine A1 ⟨?_⟩;intros)
  refine Wdc (den_pu x (by omega)) ?_
  repeat(refine A1 ⟨?_⟩;intros)
  refine Wdc (den_pu y (by omega)) ?_
  repeat(refine A1 ⟨?_⟩;intros)
  refine Wdc (mul_n x.den y.den (by omega) (by omega)) ?_
  repeat(refine A1 ⟨?_⟩;intros)
  refine Wdc (reduce_int (x.num*y.den+y.num*x.den) (x.den*y.den) (by omega) (by omega)) ?_
  repeat(refine A1 ⟨?_⟩;intros)
  ((first|refine endR ?_|refine endN ?_);refine end1 RVa (Le.refl _))
theorem rsub_pu (x y:Rat) (hx:ht x≤3000000) (hy:ht y≤3000000):Pu Tryz.prog 227 [fr x,fr y] (fr (x-y)):=by
 rw [Rat.sub_eq_add_neg]
 refine Pu.intro Tryz.func227 rfl (by kernel_rfl) fun C=>?_
 repeat(refine A1 ⟨?_⟩;intros)
 refine Wdc (rneg_pu y (by omega)) ?_
 repeat(refine A1 ⟨?_⟩;intros)
 refine Wdc (radd_pu x (-y) hx (by rw [ht_neg];exact hy)) ?_
 repeat(refine A1 ⟨?_⟩;intros)
 ((first|refine endR ?_|refine endN ?_);refine end1 RVa (Le.refl _))
end Go.Ab
