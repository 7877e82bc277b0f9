/- Texts laid one behind the other: RefF, Geo, Ref1, Ref4, Scene1, Law26A, FracE. -/
import Derived.Test.YtgiifnbebppbgaaGreatDoorB09
import Derived.Test.YtgiifnbebppbgaaGreatDoorFracD
import Derived.Test.YtgiifnbebppbgaaGreatDoorRefL
import Derived.Test.YtgiifnbebppbgaaGreatDoorB03
set_option linter.unusedSectionVars false
set_option linter.unusedVariables false
set_option linter.unusedSimpArgs false
namespace Go.Ab
open Go.Proofs
variable [Base]
theorem rq_int (z:Int):rq (z:Rat)=ag [lit (.bool (decide (z<0))),nat z.natAbs,dg []]:=by
 rw [rq,Rat.num_intCast,Rat.den_intCast,dden_one]
theorem rof_pu (z:Int) (h0 : -9223372036854775808≤z) (h1:z≤9223372036854775807):Pu Tryz.prog 31 [lit (.int .i64 z)] (rq (z:Rat)):=by
 rw [rq_int]
 refine Pu.intro Tryz.func31 rfl (by kernel_rfl) fun C=>?_
 repeat(refine A1 ⟨?_⟩;intros)
 refine Wc (rint_pu z h0 h1) ?_
 repeat(refine A1 ⟨?_⟩;intros)
 refine endR (end1 (RV.cellA rfl List.mem_cons_self rfl rfl) (Le.ag ⟨Le.refl _,Le.refl _,le_nil,trivial⟩))
theorem rs_pu (x:Rat) (h:ht x≤10000000):Pu Tryz.prog 9 [rq x] (lit (.int .i64 x.num.sign)):=by
 have b1:=ht_num x
 have hb:(dgs x.num.natAbs).length≤1000000000:=by have:il x.num=(dgs x.num.natAbs).length:=rfl;omega
 refine Pu.intro Tryz.func9 rfl (by kernel_rfl) fun C=>?_
 repeat(refine A1 ⟨?_⟩;intros)
 refine Wc (rsign_int x.num hb) ?_
 repeat(refine A1 ⟨?_⟩;intros)
 exact E1
theorem ropp_pu (x:Rat) (h:ht x≤10000000):Pu Tryz.prog 87 [rq x] (rq (-x)):=by
 have b1:=ht_num x
 have hb:(dgs x.num.natAbs).length≤1000000000:=by have:il x.num=(dgs x.num.natAbs).length:=rfl;omega
 rw [show rq (-x)=ag [lit (.bool (decide (-x.num<0))),nat (-x.num).natAbs,dg (dden x.den)]from by rw [rq,Rat.neg_num,Rat.neg_den]]
 refine Pu.intro Tryz.func87 rfl (by kernel_rfl) fun C=>?_
 repeat(refine A1 ⟨?_⟩;intros)
 refine Wdc (rminus_int x.num hb) ?_
 repeat(refine A1 ⟨?_⟩;intros)
 ((first|refine endR ?_|refine endN ?_);refine end1 RVa (Le.refl _))
theorem dden_len {d:Nat}(h:d≠0):d≠1→(dden d).length≠0:=fun h1=>by rw [dden_ne h1];exact dgs_ne_nil h
theorem dden_len1 {d:Nat}(h:d=1):(dden d).length=0:=by rw [h,dden_one];rfl
theorem dden_le (d:Nat):(dden d).length≤(dgs d).length:=by unfold dden;split <;> simp
theorem times_whole {x y:Rat}(h1:x.den=1) (h2:y.den=1):x*y=((x.num*y.num:Int):Rat):=by
 rw [Rat.mul_def',h1,h2,Nat.mul_one,Rat.mkRat_one]
theorem rtimes_pu (x y:Rat) (hx:ht x≤3000000) (hy:ht y≤3000000):Pu Tryz.prog 36 [rq x,rq y] (rq (x*y)):=by
 have n1:=ht_num x
 have n2:=ht_num y
 have d1:=ht_den x
 have d2:=ht_den y
 have m1:=il_mul x.num y.num
 have m2:=dlen_mul x.den y.den
 have l1:=dden_le x.den
 have l2:=dden_le y.den
 have mi:=rmul_int x.num y.num (show il x.num≤100000000 by omega) (show il y.num≤100000000 by omega)
 have fr:=rfrac_pu (x.num*y.num) (x.den*y.den) (by omega) (by omega) (Nat.mul_ne_zero x.den_nz y.den_nz)
 by_cases hx1:x.den=1
 ·have k1:=dden_len1 hx1
  by_cases hy1:y.den=1
  ·have k2:=dden_len1 hy1
   rw [times_whole hx1 hy1,rq_int]
   refine Pu.intro Tryz.func36 rfl (by kernel_rfl) fun C=>?_
   repeat(refine A1 ⟨?_⟩;intros)
   refine Wc mi ?_
   repeat(refine A1 ⟨?_⟩;intros)
   refine endR (end1 (RV.cellA rfl List.mem_cons_self rfl rfl) (Le.ag ⟨Le.refl _,Le.refl _,le_nil,trivial⟩))
  ·have k2:=dden_len y.den_nz hy1
   rw [Rat.mul_def']
   refine Pu.intro Tryz.func36 rfl (by kernel_rfl) fun C=>?_
   repeat(refine A1 ⟨?_⟩;intros)
   refine Wdc mi ?_
   repeat(refine A1 ⟨?_⟩;intros)
   refine Wdc (rden_pu x) ?_
   repeat(refine A1 ⟨?_⟩;intros)
   refine Wdc (rden_pu y) ?_
   repeat(refine A1 ⟨?_⟩;intros)
   refine Wdc (rprod_pu x.den y.den (by omega) (by omega)) ?_
   repeat(refine A1 ⟨?_⟩;intros)
   refine Wdc fr ?_
   repeat(refine A1 ⟨?_⟩;intros)
   ((first|refine endR ?_|refine endN ?_);refine end1 RVa (Le.refl _))
 ·have k1:=dden_len x.den_nz hx1
  rw [Rat.mul_def']
  refine Pu.intro Tryz.func36 rfl (by kernel_rfl) fun C=>?_
  repeat(refine A1 ⟨?_⟩;intros)
  refine Wdc mi ?_
  repeat(refine A1 ⟨?_⟩;intros)
  refine Wdc (rden_pu x) ?_
  repeat(refine A1 ⟨?_⟩;intros)
  refine Wdc (rden_pu y) ?_
  repeat(refine A1 ⟨?_⟩;intros)
  refine Wdc (rprod_pu x.den y.den (by omega) (by omega)) ?_
  repeat(refine A1 ⟨?_⟩;intros)
  refine Wdc fr ?_
  repeat(refine A1 ⟨?_⟩;intros)
  ((first|refine endR ?_|refine endN ?_);refine end1 RVa (Le.refl _))
set_option maxHeartbeats 1000000 in
theorem rplus_pu (x y:Rat) (hx:ht x≤3000000) (hy:ht y≤3000000):Pu Tryz.prog 86 [rq x,rq y] (rq (x+y)):=by
 have n1:=ht_num x
 have n2:=ht_num y
 have d1:=ht_den x
 have d2:=ht_den y
 have m1:=il_mul x.num y.den
 have m2:=il_mul y.num x.den
 have m3:=il_add (x.num*y.den) (y.num*x.den)
 have m4:=dlen_mul x.den y.den
 rw [il_nat]at m1 m2
 have l1:=dden_le x.den
 have l2:=dden_le y.den
 have mi1:=rmul_int x.num y.den (show il x.num≤100000000 by omega) (show(dgs y.den).length≤100000000 by omega)
 have mi2:=rmul_int y.num x.den (show il y.num≤100000000 by omega) (show(dgs x.den).length≤100000000 by omega)
 rw [←sv_nat]at mi1 mi2
 have ai:=radd_int (x.num*y.den) (y.num*x.den) (show il _≤100000000 by omega) (show il _≤100000000 by omega)
 have aw:=radd_int x.num y.num (show il _≤100000000 by omega) (show il _≤100000000 by omega)
 have fr:=rfrac_pu (x.num*y.den+y.num*x.den) (x.den*y.den) (by omega) (by omega) (Nat.mul_ne_zero x.den_nz y.den_nz)
 by_cases hx1:x.den=1
 ·have k1:=dden_len1 hx1
  by_cases hy1:y.den=1
  ·have k2:=dden_len1 hy1
   rw [add_whole hx1 hy1,rq_int]
   refine Pu.intro Tryz.func86 rfl (by kernel_rfl) fun C=>?_
   repeat(refine A1 ⟨?_⟩;intros)
   refine Wc aw ?_
   repeat(refine A1 ⟨?_⟩;intros)
   refine endR (end1 (RV.cellA rfl List.mem_cons_self rfl rfl) (Le.ag ⟨Le.refl _,Le.refl _,le_nil,trivial⟩))
  ·have k2:=dden_len y.den_nz hy1
   rw [Rat.add_def']
   refine Pu.intro Tryz.func86 rfl (by kernel_rfl) fun C=>?_
   repeat(refine A1 ⟨?_⟩;intros)
   refine Wdc (rden_pu y) ?_
   repeat(refine A1 ⟨?_⟩;intros)
   refine Wdc (rmake_pu false y.den (by omega)) ?_
   repeat(refine A1 ⟨?_⟩;intros)
   refine Wdc mi1 ?_
   repeat(refine A1 ⟨?_⟩;intros)
   refine Wdc (rden_pu x) ?_
   repeat(refine A1 ⟨?_⟩;intros)
   refine Wdc (rmake_pu false x.den (by omega)) ?_
   repeat(refine A1 ⟨?_⟩;intros)
   refine Wdc mi2 ?_
   repeat(refine A1 ⟨?_⟩;intros)
   refine Wdc ai ?_
   repeat(refine A1 ⟨?_⟩;intros)
   refine Wdc (rden_pu x) ?_
   repeat(refine A1 ⟨?_⟩;intros)
   refine Wdc (rden_pu y) ?_
   repeat(refine A1 ⟨?_⟩;intros)
   refine Wdc (rprod_pu x.den y.den (by omega) (by omega)) ?_
   repeat(refine A1 ⟨?_⟩;intros)
   refine Wdc fr ?_
   repeat(refine A1 ⟨?_⟩;intros)
   ((first|refine endR ?_|refine endN ?_);refine end1 RVa (Le.refl _))
 ·have k1:=dden_len x.den_nz hx1
  rw [Rat.add_def']
  refine Pu.intro Tryz.func86 rfl (by kernel_rfl) fun C=>?_
  repeat(refine A1 ⟨?_⟩;intros)
  refine Wdc (rden_pu y) ?_
  repeat(refine A1 ⟨?_⟩;intros)
  refine Wdc (rmake_pu false y.den (by omega)) ?_
  repeat(refine A1 ⟨?_⟩;intros)
  refine Wdc mi1 ?_
  repeat(refine A1 ⟨?_⟩;intros)
  refine Wdc (rden_pu x) ?_
  repeat(refine A1 ⟨?_⟩;intros)
  refine Wdc (rmake_pu false x.den (by omega)) ?_
  repeat(refine A1 ⟨?_⟩;intros)
  refine Wdc mi2 ?_
  repeat(refine A1 ⟨?_⟩;intros)
  refine Wdc ai ?_
  repeat(refine A1 ⟨?_⟩;intros)
  refine Wdc (rden_pu x) ?_
  repeat(refine A1 ⟨?_⟩;intros)
  refine Wdc (rden_pu y) ?_
  repeat(refine A1 ⟨?_⟩;intros)
  refine Wdc (rprod_pu x.den y.den (by omega) (by omega)) ?_
  repeat(refine A1 ⟨?_⟩;intros)
  refine Wdc fr ?_
  repeat(refine A1 ⟨?_⟩;intros)
  ((first|refine endR ?_|refine endN ?_);refine end1 RVa (Le.refl _))
theorem rqsub_pu (x y:Rat) (hx:ht x≤3000000) (hy:ht y≤3000000):Pu Tryz.prog 35 [rq x,rq y] (rq (x-y)):=by
 rw [Rat.sub_eq_add_neg]
 refine Pu.intro Tryz.func35 rfl (by kernel_rfl) fun C=>?_
 repeat(refine A1 ⟨?_⟩;intros)
 refine Wdc (ropp_pu y (by omega)) ?_
 repeat(refine A1 ⟨?_⟩;intros)
 refine Wdc (rplus_pu x (-y) hx (by rw [ht_neg];exact hy)) ?_
 repeat(refine A1 ⟨?_⟩;intros)
 ((first|refine endR ?_|refine endN ?_);refine end1 RVa (Le.refl _))
theorem rc_pu (x y:Rat) (hx:ht x≤3000000) (hy:ht y≤3000000):Pu Tryz.prog 39 [rq x,rq y] (lit (.int .i64 (x-y).num.sign)):=by
 have h:=ht_sub x y
 refine Pu.intro Tryz.func39 rfl (by kernel_rfl) fun C=>?_
 repeat(refine A1 ⟨?_⟩;intros)
 refine Wc (rqsub_pu x y hx hy) ?_
 repeat(refine A1 ⟨?_⟩;intros)
 refine Wc (rs_pu (x-y) (by omega)) ?_
 repeat(refine A1 ⟨?_⟩;intros)
 exact E1
abbrev pp (x y:Rat):SV:=ag [lit (.int .i64 (r0 x)),lit (.int .i64 (r1 x)),r2 x,lit (.int .i64 (r0 y)),lit (.int .i64 (r1 y)),r2 y]
structure RQ where
 s:Bool
 n:List Nat
 d:List Nat
def RQ.v (r:RQ):Rat:=mkRat (sv r.s (val r.n)) (val r.d)
def RQ.ok (L:Nat) (r:RQ):Prop:=D r.n∧D r.d∧r.n.length≤L∧r.d.length≤L
abbrev qr (r:RQ):SV:=qraw r.s r.n r.d
abbrev pr (a b:RQ):SV:=ag [lit (.bool a.s),dg a.n,dg a.d,lit (.bool b.s),dg b.n,dg b.d]
abbrev pq (x y:Rat):SV:=ag [lit (.bool (decide (x.num<0))),nat x.num.natAbs,nat x.den,lit (.bool (decide (y.num<0))),nat y.num.natAbs,nat y.den]
def RQ.of (x:Rat):RQ:=⟨decide (x.num<0),dgs x.num.natAbs,dgs x.den⟩
theorem RQ.of_v (x:Rat):(RQ.of x).v=x:=by
 unfold RQ.v RQ.of;simp only [val_dgs,sv_int];exact Rat.mkRat_self x
theorem RQ.of_ok {x:Rat}{L:Nat}(h:ht x≤L):(RQ.of x).ok L :=
 ⟨D_dgs _,D_dgs _,Nat.le_trans (ht_num x) h,Nat.le_trans (ht_den x) h⟩
theorem il_sv {s:Bool}{xs:List Nat}(h:D xs):il (sv s (val xs))≤xs.length:=by unfold il;rw [sv_abs];exact dlen_val h
theorem ht_v {r:RQ}{L:Nat}(h:r.ok L):ht r.v≤L+1:=by
 obtain⟨h1,h2,h3,h4⟩:=h
 have:=ht_mk (sv r.s (val r.n)) (val r.d)
 have a1:=il_sv (s:=r.s) h1
 have a2:=dlen_val h2
 unfold RQ.v;omega
theorem of_pu {r:RQ}{L:Nat}(h:r.ok L) (hL:L≤1000000):Pu Tryz.prog 128 [qr r] (fr r.v) :=
 of_raw r.s r.n r.d (by have:=h.2.2.1;omega) (by have:=h.2.2.2;omega) h.1 h.2.1
theorem ptOf_pu {a b:RQ}{L:Nat}(ha:a.ok L) (hb:b.ok L) (hL:L≤1000000):Pu Tryz.prog 64 [pr a b] (pp a.v b.v):=by
 refine Pu.intro Tryz.func64 rfl (by kernel_rfl) fun C=>?_
 repeat(refine A1 ⟨?_⟩;intros)
 refine Wdc (of_pu ha hL) ?_
 repeat(refine A1 ⟨?_⟩;intros)
 refine Wdc (of_pu hb hL) ?_
 repeat(refine A1 ⟨?_⟩;intros)
 ((first|refine endR ?_|refine endN ?_);refine end1 RVa (Le.refl _))
theorem papi_pu (x y:Rat) (hx:ht x≤1000000) (hy:ht y≤1000000):Pu Tryz.prog 67 [pp x y] (pq x y):=by
 refine Pu.intro Tryz.func67 rfl (by kernel_rfl) fun C=>?_
 repeat(refine A1 ⟨?_⟩;intros)
 refine Wdc (api_pu x (by omega)) ?_
 repeat(refine A1 ⟨?_⟩;intros)
 refine Wdc (api_pu y (by omega)) ?_
 repeat(refine A1 ⟨?_⟩;intros)
 ((first|refine endR ?_|refine endN ?_);refine end1 RVa (Le.refl _))
theorem padd_pu (x y u v:Rat) (hx:ht x≤1000000) (hy:ht y≤1000000) (hu:ht u≤1000000) (hv:ht v≤1000000):Pu Tryz.prog 130 [pp x y,pp u v] (pp (x+u) (y+v)):=by
 refine Pu.intro Tryz.func130 rfl (by kernel_rfl) fun C=>?_
 repeat(refine A1 ⟨?_⟩;intros)
 refine Wdc (radd_pu x u (by omega) (by omega)) ?_
 repeat(refine A1 ⟨?_⟩;intros)
 refine Wdc (radd_pu y v (by omega) (by omega)) ?_
 repeat(refine A1 ⟨?_⟩;intros)
 ((first|refine endR ?_|refine endN ?_);refine end1 RVa (Le.refl _))
theorem pscale_pu (x y u:Rat) (hx:ht x≤1000000) (hy:ht y≤1000000) (hu:ht u≤1000000):Pu Tryz.prog 195 [pp x y,fr u] (pp (x*u) (y*u)):=by
 refine Pu.intro Tryz.func195 rfl (by kernel_rfl) fun C=>?_
 repeat(refine A1 ⟨?_⟩;intros)
 refine Wdc (rmul_pu x u (by omega) (by omega)) ?_
 repeat(refine A1 ⟨?_⟩;intros)
 refine Wdc (rmul_pu y u (by omega) (by omega)) ?_
 repeat(refine A1 ⟨?_⟩;intros)
 ((first|refine endR ?_|refine endN ?_);refine end1 RVa (Le.refl _))
theorem pcross_pu (x y u v:Rat) (hx:ht x≤1000000) (hy:ht y≤1000000) (hu:ht u≤1000000) (hv:ht v≤1000000):Pu Tryz.prog 166 [pp x y,pp u v] (fr (x*v-y*u)):=by
 have h1:=ht_mul x v
 have h2:=ht_mul y u
 refine Pu.intro Tryz.func166 rfl (by kernel_rfl) fun C=>?_
 repeat(refine A1 ⟨?_⟩;intros)
 refine Wdc (rmul_pu x v (by omega) (by omega)) ?_
 repeat(refine A1 ⟨?_⟩;intros)
 refine Wdc (rmul_pu y u (by omega) (by omega)) ?_
 repeat(refine A1 ⟨?_⟩;intros)
 refine Wdc (rsub_pu (x*v) (y*u) (by omega) (by omega)) ?_
 repeat(refine A1 ⟨?_⟩;intros)
 ((first|refine endR ?_|refine endN ?_);refine end1 RVa (Le.refl _))
structure M6 (α:Type) where
 a:α
 b:α
 c:α
 d:α
 e:α
 f:α
abbrev mf (m:M6 Rat):SV:=ag [lit (.int .i64 (r0 m.a)),lit (.int .i64 (r1 m.a)),r2 m.a,lit (.int .i64 (r0 m.d)),lit (.int .i64 (r1 m.d)),r2 m.d,
 lit (.int .i64 (r0 m.b)),lit (.int .i64 (r1 m.b)),r2 m.b,lit (.int .i64 (r0 m.e)),lit (.int .i64 (r1 m.e)),r2 m.e,
 lit (.int .i64 (r0 m.c)),lit (.int .i64 (r1 m.c)),r2 m.c,lit (.int .i64 (r0 m.f)),lit (.int .i64 (r1 m.f)),r2 m.f]
abbrev mr (m:M6 RQ):SV:=ag [lit (.bool m.a.s),dg m.a.n,dg m.a.d,lit (.bool m.b.s),dg m.b.n,dg m.b.d,lit (.bool m.c.s),dg m.c.n,dg m.c.d,
 lit (.bool m.d.s),dg m.d.n,dg m.d.d,lit (.bool m.e.s),dg m.e.n,dg m.e.d,lit (.bool m.f.s),dg m.f.n,dg m.f.d]
abbrev mq (m:M6 Rat):SV:=ag [lit (.bool (decide (m.a.num<0))),nat m.a.num.natAbs,nat m.a.den,lit (.bool (decide (m.b.num<0))),nat m.b.num.natAbs,nat m.b.den,lit (.bool (decide (m.c.num<0))),nat m.c.num.natAbs,nat m.c.den,
 lit (.bool (decide (m.d.num<0))),nat m.d.num.natAbs,nat m.d.den,lit (.bool (decide (m.e.num<0))),nat m.e.num.natAbs,nat m.e.den,lit (.bool (decide (m.f.num<0))),nat m.f.num.natAbs,nat m.f.den]
structure M6.ok (L:Nat) (m:M6 RQ):Prop where
 a:m.a.ok L
 b:m.b.ok L
 c:m.c.ok L
 d:m.d.ok L
 e:m.e.ok L
 f:m.f.ok L
structure M6.le (L:Nat) (m:M6 Rat):Prop where
 a:ht m.a≤L
 b:ht m.b≤L
 c:ht m.c≤L
 d:ht m.d≤L
 e:ht m.e≤L
 f:ht m.f≤L
def M6.v (m:M6 RQ):M6 Rat:=⟨m.a.v,m.b.v,m.c.v,m.d.v,m.e.v,m.f.v⟩
theorem M6.v_le {m:M6 RQ}{L:Nat}(h:m.ok L):m.v.le (L+1):=⟨ht_v h.a,ht_v h.b,ht_v h.c,ht_v h.d,ht_v h.e,ht_v h.f⟩
theorem aof_pu {m:M6 RQ}{L:Nat}(h:m.ok L) (hL:L≤1000000):Pu Tryz.prog 65 [mr m] (mf m.v):=by
 refine Pu.intro Tryz.func65 rfl (by kernel_rfl) fun C=>?_
 repeat(refine A1 ⟨?_⟩;intros)
 refine Wdc (of_pu h.a hL) ?_
 repeat(refine A1 ⟨?_⟩;intros)
 refine Wdc (of_pu h.d hL) ?_
 repeat(refine A1 ⟨?_⟩;intros)
 refine Wdc (of_pu h.b hL) ?_
 repeat(refine A1 ⟨?_⟩;intros)
 refine Wdc (of_pu h.e hL) ?_
 repeat(refine A1 ⟨?_⟩;intros)
 refine Wdc (of_pu h.c hL) ?_
 repeat(refine A1 ⟨?_⟩;intros)
 refine Wdc (of_pu h.f hL) ?_
 repeat(refine A1 ⟨?_⟩;intros)
 ((first|refine endR ?_|refine endN ?_);refine end1 RVa (Le.refl _))
theorem awrite_pu {m:M6 Rat}{L:Nat}(h:m.le L) (hL:L≤1000000):Pu Tryz.prog 93 [mf m] (mq m):=by
 obtain⟨ha,hb,hc,hd,he,hf⟩:=h
 refine Pu.intro Tryz.func93 rfl (by kernel_rfl) fun C=>?_
 repeat(refine A1 ⟨?_⟩;intros)
 refine Wdc (api_pu m.a (by omega)) ?_
 repeat(refine A1 ⟨?_⟩;intros)
 refine Wdc (api_pu m.b (by omega)) ?_
 repeat(refine A1 ⟨?_⟩;intros)
 refine Wdc (api_pu m.c (by omega)) ?_
 repeat(refine A1 ⟨?_⟩;intros)
 refine Wdc (api_pu m.d (by omega)) ?_
 repeat(refine A1 ⟨?_⟩;intros)
 refine Wdc (api_pu m.e (by omega)) ?_
 repeat(refine A1 ⟨?_⟩;intros)
 refine Wdc (api_pu m.f (by omega)) ?_
 repeat(refine A1 ⟨?_⟩;intros)
 ((first|refine endR ?_|refine endN ?_);refine end1 RVa (Le.refl _))
theorem adet_pu {m:M6 Rat}{L:Nat}(h:m.le L) (hL:L≤1000000):Pu Tryz.prog 96 [mf m] (fr (m.a*m.e-m.d*m.b)):=by
 obtain⟨ha,hb,hc,hd,he,hf⟩:=h
 refine Pu.intro Tryz.func96 rfl (by kernel_rfl) fun C=>?_
 repeat(refine A1 ⟨?_⟩;intros)
 refine Wc (pcross_pu m.a m.d m.b m.e (by omega) (by omega) (by omega) (by omega)) ?_
 repeat(refine A1 ⟨?_⟩;intros)
 ((first|refine endR ?_|refine endN ?_);refine end1 RVa (Le.refl _))
theorem avector_pu {m:M6 Rat}{L:Nat}(h:m.le L) (hL:L≤100000) (x y:Rat) (hx:ht x≤L) (hy:ht y≤L):Pu Tryz.prog 129 [mf m,pp x y] (pp (m.a*x+m.b*y) (m.d*x+m.e*y)):=by
 obtain⟨ha,hb,hc,hd,he,hf⟩:=h
 have h1:=ht_mul m.a x
 have h2:=ht_mul m.b y
 have h3:=ht_mul m.d x
 have h4:=ht_mul m.e y
 refine Pu.intro Tryz.func129 rfl (by kernel_rfl) fun C=>?_
 repeat(refine A1 ⟨?_⟩;intros)
 refine Wdc (pscale_pu m.a m.d x (by omega) (by omega) (by omega)) ?_
 repeat(refine A1 ⟨?_⟩;intros)
 refine Wdc (pscale_pu m.b m.e y (by omega) (by omega) (by omega)) ?_
 repeat(refine A1 ⟨?_⟩;intros)
 refine Wdc (padd_pu (m.a*x) (m.d*x) (m.b*y) (m.e*y) (by omega) (by omega) (by omega) (by omega)) ?_
 repeat(refine A1 ⟨?_⟩;intros)
 ((first|refine endR ?_|refine endN ?_);refine end1 RVa (Le.refl _))
theorem aapply_pu {m:M6 Rat}{L:Nat}(h:m.le L) (hL:L≤100000) (x y:Rat) (hx:ht x≤L) (hy:ht y≤L):Pu Tryz.prog 66 [mf m,pp x y] (pp (m.a*x+m.b*y+m.c) (m.d*x+m.e*y+m.f)):=by
 have hv:=avector_pu h hL x y hx hy
 obtain⟨ha,hb,hc,hd,he,hf⟩:=h
 have h1:=ht_mul m.a x
 have h2:=ht_mul m.b y
 have h3:=ht_mul m.d x
 have h4:=ht_mul m.e y
 have h5:=ht_add (m.a*x) (m.b*y)
 have h6:=ht_add (m.d*x) (m.e*y)
 refine Pu.intro Tryz.func66 rfl (by kernel_rfl) fun C=>?_
 repeat(refine A1 ⟨?_⟩;intros)
 refine Wdc hv ?_
 repeat(refine A1 ⟨?_⟩;intros)
 refine Wdc (padd_pu (m.a*x+m.b*y) (m.d*x+m.e*y) m.c m.f (by omega) (by omega) (by omega) (by omega)) ?_
 repeat(refine A1 ⟨?_⟩;intros)
 ((first|refine endR ?_|refine endN ?_);refine end1 RVa (Le.refl _))
theorem aDet_pu {m:M6 RQ}{L:Nat}(h:m.ok L) (hL:L≤10000):Pu Tryz.prog 41 [mr m] (q (m.v.a*m.v.e-m.v.d*m.v.b)):=by
 have hd:=adet_pu (M6.v_le h) (by omega)
 obtain⟨ha,hb,hc,hd,he,hf⟩:=M6.v_le h
 have h1:=ht_mul m.v.a m.v.e
 have h2:=ht_mul m.v.d m.v.b
 have h3:=ht_sub (m.v.a*m.v.e) (m.v.d*m.v.b)
 refine Pu.intro Tryz.func41 rfl (by kernel_rfl) fun C=>?_
 repeat(refine A1 ⟨?_⟩;intros)
 refine Wc (aof_pu h (by omega)) ?_
 repeat(refine A1 ⟨?_⟩;intros)
 refine Wc (adet_pu (M6.v_le h) (by omega)) ?_
 repeat(refine A1 ⟨?_⟩;intros)
 refine Wc (api_pu (m.v.a*m.v.e-m.v.d*m.v.b) (by omega)) ?_
 repeat(refine A1 ⟨?_⟩;intros)
 ((first|refine endR ?_|refine endN ?_);refine end1 RVa (Le.refl _))
theorem aApply_pu {m:M6 RQ}{L:Nat}(h:m.ok L) (hL:L≤10000){x y:RQ}(hx:x.ok L) (hy:y.ok L):Pu Tryz.prog 21 [mr m,pr x y] (pq (m.v.a*x.v+m.v.b*y.v+m.v.c) (m.v.d*x.v+m.v.e*y.v+m.v.f)):=by
 have hap:=aapply_pu (M6.v_le h) (by omega) x.v y.v (ht_v hx) (ht_v hy)
 have kx:=ht_v hx
 have ky:=ht_v hy
 obtain⟨ha,hb,hc,hd,he,hf⟩:=M6.v_le h
 have h1:=ht_mul m.v.a x.v
 have h2:=ht_mul m.v.b y.v
 have h3:=ht_mul m.v.d x.v
 have h4:=ht_mul m.v.e y.v
 have h5:=ht_add (m.v.a*x.v) (m.v.b*y.v)
 have h6:=ht_add (m.v.d*x.v) (m.v.e*y.v)
 have h7:=ht_add (m.v.a*x.v+m.v.b*y.v) m.v.c
 have h8:=ht_add (m.v.d*x.v+m.v.e*y.v) m.v.f
 refine Pu.intro Tryz.func21 rfl (by kernel_rfl) fun C=>?_
 repeat(refine A1 ⟨?_⟩;intros)
 refine Wdc (aof_pu h (by omega)) ?_
 repeat(refine A1 ⟨?_⟩;intros)
 refine Wdc (ptOf_pu hx hy (by omega)) ?_
 repeat(refine A1 ⟨?_⟩;intros)
 refine Wdc hap ?_
 repeat(refine A1 ⟨?_⟩;intros)
 refine Wdc (papi_pu (m.v.a*x.v+m.v.b*y.v+m.v.c) (m.v.d*x.v+m.v.e*y.v+m.v.f) (by omega) (by omega)) ?_
 repeat(refine A1 ⟨?_⟩;intros)
 ((first|refine endR ?_|refine endN ?_);refine end1 RVa (Le.refl _))
theorem le_decF {p:Prop} [Decidable p] (h:¬p):Le (lit (.bool false)) (lit (.bool (decide p))):=by rw [decide_eq_false h];exact Le.refl _
theorem le_decT {p:Prop} [Decidable p] (h:p):Le (lit (.bool true)) (lit (.bool (decide p))):=by rw [decide_eq_true h];exact Le.refl _
theorem sameN_pu (xs ys:List Nat) (hx:xs.length≤1000000000) (hy:ys.length≤1000000000):Pu Tryz.prog 169 [dg xs,dg ys] (lit (.bool (decide (xs=ys)))):=by
 by_cases hl:xs.length=ys.length
 ·refine Pu.intro Tryz.func169 rfl (by kernel_rfl) fun C=>?_
  repeat(refine A1 ⟨?_⟩;intros)
  refine WP.loop (ι:=Nat) (fun k=>k≤xs.length∧xs.take k=ys.take k) (fun k=>xs.length-k) (fun k=>fm [(0,dg xs),(1,dg ys),(11,dg xs),(12,lit (.int .i64 xs.length)),(13,lit (.int .i64 k))]) (fun _=>[]) 0
   ⟨Nat.zero_le _,rfl⟩ lfA rfl ?_
  rintro k ⟨hk,he⟩ K hK
  by_cases hkl:k<xs.length
  ·by_cases hd:xs.getD k 0=ys.getD k 0
   ·repeat(refine A1 ⟨?_⟩;intros)
    exact hK _ _ (k+1) ⟨by omega,by rw [take_succ_getD xs k hkl,take_succ_getD ys k (by omega),he,hd]⟩ (by omega) lfA rfl
   ·repeat(refine A1 ⟨?_⟩;intros)
    exact endR (end1 (RV.tmp rfl) (le_decF fun e=>hd (by rw [e])))
  ·have hke:k=xs.length:=by omega
   subst hke
   rw [List.take_length,hl,List.take_length]at he
   repeat(refine A1 ⟨?_⟩;intros)
   exact endR (end1 (RV.tmp rfl) (le_decT he))
 ·refine Pu.intro Tryz.func169 rfl (by kernel_rfl) fun C=>?_
  repeat(refine A1 ⟨?_⟩;intros)
  exact endR (end1 (RV.tmp rfl) (le_decF fun e=>hl (by rw [e])))
theorem toN_pu (xs:List Nat) (h:xs.length≤1000000000):Pu Tryz.prog 100 [dg xs] (dg xs):=by
 refine Pu.intro Tryz.func100 rfl (by kernel_rfl) fun C=>?_
 repeat(refine A1 ⟨?_⟩;intros)
 exact E1
theorem n_pu (xs:List Nat) (h:xs.length≤1000000000) (hD:D xs):Pu Tryz.prog 94 [dg xs] (nat (val xs)):=by
 refine Pu.intro Tryz.func94 rfl (by kernel_rfl) fun C=>?_
 repeat(first|(refine A1 ⟨?_⟩;intros)|(refine Wcx (rtrim_nat _ h hD) ?_)|(refine Wdcx (rtrim_nat _ h hD) ?_)|(refine Wcgx (rtrim_nat _ h hD) ?_)|(refine Wdcgx (rtrim_nat _ h hD) ?_))
 exact E1
theorem i_pu (s:Bool) (xs:List Nat) (h:xs.length≤1000000000) (hD:D xs):Pu Tryz.prog 95 [raw s xs] (int (sv s (val xs))):=by
 have hl:=dlen_val hD
 refine Pu.intro Tryz.func95 rfl (by kernel_rfl) fun C=>?_
 repeat(first|(refine A1 ⟨?_⟩;intros)|(refine Wcx (n_pu _ h hD) ?_)|(refine Wdcx (n_pu _ h hD) ?_)|(refine Wcgx (n_pu _ h hD) ?_)|(refine Wdcgx (n_pu _ h hD) ?_)|(refine Wcx (rmake_pu _ _ (by omega)) ?_)|(refine Wdcx (rmake_pu _ _ (by omega)) ?_)|(refine Wcgx (rmake_pu _ _ (by omega)) ?_)|(refine Wdcgx (rmake_pu _ _ (by omega)) ?_))
 ((first|refine endR ?_|refine endN ?_);refine end1 RVa (Le.refl _))
theorem toI_pu (z:Int) (h:il z≤1000000000):Pu Tryz.prog 99 [int z] (int z):=by
 have h':(dgs z.natAbs).length≤1000000000:=h
 refine Pu.intro Tryz.func99 rfl (by kernel_rfl) fun C=>?_
 repeat(first|(refine A1 ⟨?_⟩;intros)|(refine Wcx (toN_pu _ h') ?_)|(refine Wdcx (toN_pu _ h') ?_)|(refine Wcgx (toN_pu _ h') ?_)|(refine Wdcgx (toN_pu _ h') ?_))
 ((first|refine endR ?_|refine endN ?_);refine end1 RVa (Le.refl _))
theorem sameI_pu (s t:Bool) (xs ys:List Nat) (hx:xs.length≤1000000000) (hy:ys.length≤1000000000):Pu Tryz.prog 155 [raw s xs,raw t ys] (lit (.bool (decide (s=t∧xs=ys)))):=by
 cases s <;> cases t
 ·refine Pu.intro Tryz.func155 rfl (by kernel_rfl) fun C=>?_
  repeat(first|(refine A1 ⟨?_⟩;intros)|(refine Wcx (sameN_pu _ _ hx hy) ?_)|(refine Wdcx (sameN_pu _ _ hx hy) ?_)|(refine Wcgx (sameN_pu _ _ hx hy) ?_)|(refine Wdcgx (sameN_pu _ _ hx hy) ?_))
  refine endR (end1 (RV.tmp rfl) (Le.bool ?_));simp
 ·refine Pu.intro Tryz.func155 rfl (by kernel_rfl) fun C=>?_
  repeat(first|(refine A1 ⟨?_⟩;intros)|(refine Wcx (sameN_pu _ _ hx hy) ?_)|(refine Wdcx (sameN_pu _ _ hx hy) ?_)|(refine Wcgx (sameN_pu _ _ hx hy) ?_)|(refine Wdcgx (sameN_pu _ _ hx hy) ?_))
  refine endR (end1 (RV.tmp rfl) (Le.bool ?_));simp
 ·refine Pu.intro Tryz.func155 rfl (by kernel_rfl) fun C=>?_
  repeat(first|(refine A1 ⟨?_⟩;intros)|(refine Wcx (sameN_pu _ _ hx hy) ?_)|(refine Wdcx (sameN_pu _ _ hx hy) ?_)|(refine Wcgx (sameN_pu _ _ hx hy) ?_)|(refine Wdcgx (sameN_pu _ _ hx hy) ?_))
  refine endR (end1 (RV.tmp rfl) (Le.bool ?_));simp
 ·refine Pu.intro Tryz.func155 rfl (by kernel_rfl) fun C=>?_
  repeat(first|(refine A1 ⟨?_⟩;intros)|(refine Wcx (sameN_pu _ _ hx hy) ?_)|(refine Wdcx (sameN_pu _ _ hx hy) ?_)|(refine Wcgx (sameN_pu _ _ hx hy) ?_)|(refine Wdcgx (sameN_pu _ _ hx hy) ?_))
  refine endR (end1 (RV.tmp rfl) (Le.bool ?_));simp
theorem lit_dec {p:Prop} [Decidable p] (h:p):lit (.bool (decide p))=lit (.bool true):=by rw [decide_eq_true h]
theorem sameN_t (xs:List Nat) (hx:xs.length≤1000000000):Pu Tryz.prog 169 [dg xs,dg xs] (lit (.bool true)):=lit_dec (p:=xs=xs) rfl▸sameN_pu xs xs hx hx
theorem sameI_t (s:Bool) (xs:List Nat) (hx:xs.length≤1000000000):Pu Tryz.prog 155 [raw s xs,raw s xs] (lit (.bool true)):=lit_dec (p:=s=s∧xs=xs) ⟨rfl,rfl⟩▸sameI_pu s s xs xs hx hx
theorem sameQ_t (s:Bool) (xs ys:List Nat) (hx:xs.length≤1000000000) (hy:ys.length≤1000000000):Pu Tryz.prog 98 [qraw s xs ys,qraw s xs ys] (lit (.bool true)):=by
 refine Pu.intro Tryz.func98 rfl (by kernel_rfl) fun C=>?_
 repeat(first|(refine A1 ⟨?_⟩;intros)|(refine Wcx (sameN_t _ hy) ?_)|(refine Wdcx (sameN_t _ hy) ?_)|(refine Wcgx (sameN_t _ hy) ?_)|(refine Wdcgx (sameN_t _ hy) ?_)|(refine Wcx (sameI_t _ _ hx) ?_)|(refine Wdcx (sameI_t _ _ hx) ?_)|(refine Wcgx (sameI_t _ _ hx) ?_)|(refine Wdcgx (sameI_t _ _ hx) ?_))
 exact E1
theorem sameq_pu (x:Rat) (h:ht x≤1000000000):Pu Tryz.prog 98 [q x,q x] (lit (.bool true)):=by
 have h1:=ht_num x
 have h2:=ht_den x
 exact sameQ_t _ _ _ (by have:il x.num=(dgs x.num.natAbs).length:=rfl;omega) (by omega)
theorem toQ_pu (x:Rat) (h:ht x≤100000000):Pu Tryz.prog 43 [rq x] (q x):=by
 have h1:=ht_num x
 have h2:=ht_den x
 refine Pu.intro Tryz.func43 rfl (by kernel_rfl) fun C=>?_
 repeat(first|(refine A1 ⟨?_⟩;intros)|(refine Wcx (toI_pu _ (by omega)) ?_)|(refine Wdcx (toI_pu _ (by omega)) ?_)|(refine Wcgx (toI_pu _ (by omega)) ?_)|(refine Wdcgx (toI_pu _ (by omega)) ?_)|refine W4 (rden_pu x) ⟨?_⟩|(refine Wcx (toN_pu _ (by omega)) ?_)|(refine Wdcx (toN_pu _ (by omega)) ?_)|(refine Wcgx (toN_pu _ (by omega)) ?_)|(refine Wdcgx (toN_pu _ (by omega)) ?_))
 ((first|refine endR ?_|refine endN ?_);refine end1 RVa (Le.refl _))
theorem rq_zero:rq 0=ag [lit (.bool false),nat 0,dg []]:=by rw [rq,show(0:Rat).num=0 from rfl,show(0:Rat).den=1 from rfl,dden_one];rfl
theorem q_pu {r:RQ}{L:Nat}(h:r.ok L) (hL:L≤1000000):Pu Tryz.prog 40 [qr r] (rq r.v):=by
 obtain⟨h1,h2,h3,h4⟩:=h
 have hl:=dlen_val h2
 have hi:=il_sv (s:=r.s) h1
 by_cases h0:val r.d=0
 ·have hv:r.v=0:=by unfold RQ.v;rw [h0];exact Rat.mkRat_zero _
  rw [hv,rq_zero]
  have hn:=n_pu r.d (by omega) h2
  rw [h0]at hn
  have hl0:(dgs 0).length=0:=by rw [dgs_zero];rfl
  refine Pu.intro Tryz.func40 rfl (by kernel_rfl) fun C=>?_
  repeat(first|(refine A1 ⟨?_⟩;intros)|refine W4 hn ⟨?_⟩)
  refine endR (end1 (RV.cellA rfl List.mem_cons_self rfl rfl) (Le.ag ⟨Le.refl _,?_,le_nil,trivial⟩))
  rw [show nat 0=dg []from by show dg (dgs 0)=_;rw [dgs_zero]]
  exact le_nil
 ·have hp:=dgs_len_pos h0
  refine Pu.intro Tryz.func40 rfl (by kernel_rfl) fun C=>?_
  repeat(first|(refine A1 ⟨?_⟩;intros)|refine W4 (n_pu r.d (by omega) h2) ⟨?_⟩|(refine Wcx (i_pu _ _ (by omega) h1) ?_)|(refine Wdcx (i_pu _ _ (by omega) h1) ?_)|(refine Wcgx (i_pu _ _ (by omega) h1) ?_)|(refine Wdcgx (i_pu _ _ (by omega) h1) ?_)|(refine Wcx (rfrac_pu _ _ (by omega) (by omega) h0) ?_)|(refine Wdcx (rfrac_pu _ _ (by omega) (by omega) h0) ?_)|(refine Wcgx (rfrac_pu _ _ (by omega) (by omega) h0) ?_)|(refine Wdcgx (rfrac_pu _ _ (by omega) (by omega) h0) ?_))
  ((first|refine endR ?_|refine endN ?_);refine end1 RVa (Le.refl _))
abbrev rp (x y:Rat):SV:=ag [lit (.bool (decide (x.num<0))),nat x.num.natAbs,dg (dden x.den),lit (.bool (decide (y.num<0))),nat y.num.natAbs,dg (dden y.den)]
theorem toP_pu (x y:Rat) (hx:ht x≤100000000) (hy:ht y≤100000000):Pu Tryz.prog 18 [rp x y] (pq x y):=by
 refine Pu.intro Tryz.func18 rfl (by kernel_rfl) fun C=>?_
 repeat(first|(refine A1 ⟨?_⟩;intros)|(refine Wcx (toQ_pu _ hx) ?_)|(refine Wdcx (toQ_pu _ hx) ?_)|(refine Wcgx (toQ_pu _ hx) ?_)|(refine Wdcgx (toQ_pu _ hx) ?_)|(refine Wcx (toQ_pu _ hy) ?_)|(refine Wdcx (toQ_pu _ hy) ?_)|(refine Wcgx (toQ_pu _ hy) ?_)|(refine Wdcgx (toQ_pu _ hy) ?_))
 ((first|refine endR ?_|refine endN ?_);refine end1 RVa (Le.refl _))
theorem pt_pu {a b:RQ}{L:Nat}(ha:a.ok L) (hb:b.ok L) (hL:L≤1000000):Pu Tryz.prog 199 [pr a b] (rp a.v b.v):=by
 refine Pu.intro Tryz.func199 rfl (by kernel_rfl) fun C=>?_
 repeat(first|(refine A1 ⟨?_⟩;intros)|refine W4 (q_pu ha hL) ⟨?_⟩|refine W4 (q_pu hb hL) ⟨?_⟩)
 ((first|refine endR ?_|refine endN ?_);refine end1 RVa (Le.refl _))
theorem sameP_pu (x y:Rat) (hx:ht x≤100000000) (hy:ht y≤100000000):Pu Tryz.prog 42 [pq x y,pq x y] (lit (.bool true)):=by
 refine Pu.intro Tryz.func42 rfl (by kernel_rfl) fun C=>?_
 repeat(first|(refine A1 ⟨?_⟩;intros)|(refine Wcx (sameq_pu _ (Nat.le_trans hx (by omega))) ?_)|(refine Wdcx (sameq_pu _ (Nat.le_trans hx (by omega))) ?_)|(refine Wcgx (sameq_pu _ (Nat.le_trans hx (by omega))) ?_)|(refine Wdcgx (sameq_pu _ (Nat.le_trans hx (by omega))) ?_)|(refine Wcx (sameq_pu _ (Nat.le_trans hy (by omega))) ?_)|(refine Wdcx (sameq_pu _ (Nat.le_trans hy (by omega))) ?_)|(refine Wcgx (sameq_pu _ (Nat.le_trans hy (by omega))) ?_)|(refine Wdcgx (sameq_pu _ (Nat.le_trans hy (by omega))) ?_))
 exact E1
theorem xy_pu (a b:Int) (ha : -9223372036854775808≤a) (ha':a≤9223372036854775807) (hb : -9223372036854775808≤b) (hb':b≤9223372036854775807):Pu Tryz.prog 38 [lit (.int .i64 a),lit (.int .i64 b)] (rp (a:Rat) (b:Rat)):=by
 refine Pu.intro Tryz.func38 rfl (by kernel_rfl) fun C=>?_
 repeat(first|(refine A1 ⟨?_⟩;intros)|refine W4 (rof_pu a ha ha') ⟨?_⟩|refine W4 (rof_pu b hb hb') ⟨?_⟩)
 ((first|refine endR ?_|refine endN ?_);refine end1 RVa (Le.refl _))
theorem gadd_pu (x y k u v:Rat) (hx:ht x≤1000000) (hy:ht y≤1000000) (hk:ht k≤1000000) (hu:ht u≤1000000) (hv:ht v≤1000000):Pu Tryz.prog 74 [rp x y,rq k,rp u v] (rp (x+k*u) (y+k*v)):=by
 have h1:=ht_mul k u
 have h2:=ht_mul k v
 refine Pu.intro Tryz.func74 rfl (by kernel_rfl) fun C=>?_
 repeat(first|(refine A1 ⟨?_⟩;intros)|refine W4 (rtimes_pu k u (by omega) (by omega)) ⟨?_⟩|refine W4 (rplus_pu x (k*u) (by omega) (by omega)) ⟨?_⟩|refine W4 (rtimes_pu k v (by omega) (by omega)) ⟨?_⟩|refine W4 (rplus_pu y (k*v) (by omega) (by omega)) ⟨?_⟩)
 ((first|refine endR ?_|refine endN ?_);refine end1 RVa (Le.refl _))
abbrev rm (m:M6 Rat):SV:=ag [lit (.bool (decide (m.a.num<0))),nat m.a.num.natAbs,dg (dden m.a.den),lit (.bool (decide (m.b.num<0))),nat m.b.num.natAbs,dg (dden m.b.den),lit (.bool (decide (m.c.num<0))),nat m.c.num.natAbs,dg (dden m.c.den),
 lit (.bool (decide (m.d.num<0))),nat m.d.num.natAbs,dg (dden m.d.den),lit (.bool (decide (m.e.num<0))),nat m.e.num.natAbs,dg (dden m.e.den),lit (.bool (decide (m.f.num<0))),nat m.f.num.natAbs,dg (dden m.f.den)]
theorem writeM_pu {m:M6 Rat}{L:Nat}(h:m.le L) (hL:L≤1000000):Pu Tryz.prog 12 [rm m] (mq m):=by
 obtain⟨ha,hb,hc,hd,he,hf⟩:=h
 refine Pu.intro Tryz.func12 rfl (by kernel_rfl) fun C=>?_
 repeat(first|(refine A1 ⟨?_⟩;intros)|refine W4 (toQ_pu m.a (by omega)) ⟨?_⟩|refine W4 (toQ_pu m.b (by omega)) ⟨?_⟩|refine W4 (toQ_pu m.c (by omega)) ⟨?_⟩|refine W4 (toQ_pu m.d (by omega)) ⟨?_⟩|refine W4 (toQ_pu m.e (by omega)) ⟨?_⟩|refine W4 (toQ_pu m.f (by omega)) ⟨?_⟩)
 ((first|refine endR ?_|refine endN ?_);refine end1 RVa (Le.refl _))
theorem mdet_pu {m:M6 Rat}{L:Nat}(h:m.le L) (hL:L≤1000000):Pu Tryz.prog 10 [rm m] (rq (m.a*m.e-m.b*m.d)):=by
 obtain⟨ha,hb,hc,hd,he,hf⟩:=h
 have h1:=ht_mul m.a m.e
 have h2:=ht_mul m.b m.d
 refine Pu.intro Tryz.func10 rfl (by kernel_rfl) fun C=>?_
 repeat(first|(refine A1 ⟨?_⟩;intros)|refine W4 (rtimes_pu m.a m.e (by omega) (by omega)) ⟨?_⟩|refine W4 (rtimes_pu m.b m.d (by omega) (by omega)) ⟨?_⟩|(refine Wcx (rqsub_pu _ _ (by omega) (by omega)) ?_)|(refine Wdcx (rqsub_pu _ _ (by omega) (by omega)) ?_)|(refine Wcgx (rqsub_pu _ _ (by omega) (by omega)) ?_)|(refine Wdcgx (rqsub_pu _ _ (by omega) (by omega)) ?_))
 ((first|refine endR ?_|refine endN ?_);refine end1 RVa (Le.refl _))
theorem ht_one:ht 1=1:=by
 unfold ht
 rw [show(1:Rat).num=1 from rfl,show(1:Rat).den=1 from rfl]
 unfold il
 rw [show(1:Int).natAbs=1 from rfl,dgs_one];rfl
theorem rof1:Pu Tryz.prog 31 [lit (.int .i64 1)] (rq 1):=rof_pu 1 (by omega) (by omega)
def RQ.short (n:Nat) (r:RQ):Prop:=r.n.length≤n∧r.d.length≤n
instance (n:Nat) (r:RQ):Decidable (r.short n):=by unfold RQ.short;infer_instance
theorem take_snoc {α:Type}{l:List α}{k:Nat}{a:α}(h:l[k]? = some a):l.take (k+1)=l.take k++[a]:=by
 obtain⟨h1,h2⟩:=List.getElem?_eq_some_iff.1 h
 rw [List.take_succ_eq_append_getElem h1,h2]
abbrev pcells (p:RQ×RQ):List SV:=[lit (.bool p.1.s),dg p.1.n,dg p.1.d,lit (.bool p.2.s),dg p.2.n,dg p.2.d]
theorem pcells_len (p:RQ×RQ):(pcells p).length=6:=rfl
theorem small0:small 0:=by unfold small;rw [show(0:Rat).num=0 from rfl,show(0:Rat).den=1 from rfl];omega
theorem r0_zero:r0 0=0:=r0_s small0
theorem r1_zero:r1 0=0:=(if_pos small0).trans (by rw [show(0:Rat).den=1 from rfl];rfl)
theorem r2_zero:r2 0=lit (.pointer none):=if_pos small0
theorem ht_zero:ht 0=1:=by
 unfold ht il
 rw [show(0:Rat).num=0 from rfl,show(0:Rat).den=1 from rfl,show(0:Int).natAbs=0 from rfl,dgs_zero,dgs_one];rfl
theorem ptOf_q (x y:Rat) (hx:ht x≤100000) (hy:ht y≤100000):Pu Tryz.prog 64 [pq x y] (pp x y):=by
 have:=ptOf_pu (RQ.of_ok hx) (RQ.of_ok hy) (by omega)
 rwa [RQ.of_v,RQ.of_v]at this
theorem fint1:Pu Tryz.prog 92 [lit (.int .i64 1)] (fr 1):=fint_pu 1 (by omega) (by omega)
theorem translation_pu (x y:Rat) (hx:ht x≤10000) (hy:ht y≤10000):Pu Tryz.prog 37 [pq x y] (mq ⟨1,0,x,0,1,y⟩):=by
 have h0:=ht_zero
 have h1:=ht_one
 have hw:=awrite_pu (m:=⟨1,0,x,0,1,y⟩) (L:=10000) ⟨by simp only;omega,by simp only;omega,hx,by simp only;omega,by simp only;omega,hy⟩ (by omega)
 simp only [mf,r0_zero,r1_zero,r2_zero]at hw
 refine Pu.intro Tryz.func37 rfl (by kernel_rfl) fun C=>?_
 repeat(first|(refine A1 ⟨?_⟩;intros)|refine W4 fint1 ⟨?_⟩|refine W4 (ptOf_q x y (by omega) (by omega)) ⟨?_⟩|refine W4 hw ⟨?_⟩)
 ((first|refine endR ?_|refine endN ?_);refine end1 RVa (Le.refl _))
theorem q_of (x:Rat) (h:ht x≤100000):Pu Tryz.prog 40 [q x] (rq x):=by
 have:=q_pu (RQ.of_ok h) (by omega)
 rwa [RQ.of_v]at this
def M6.of (m:M6 Rat):M6 RQ:=⟨RQ.of m.a,RQ.of m.b,RQ.of m.c,RQ.of m.d,RQ.of m.e,RQ.of m.f⟩
theorem M6.of_v (m:M6 Rat):m.of.v=m:=by
 unfold M6.of M6.v
 simp only [RQ.of_v]
theorem M6.of_ok {m:M6 Rat}{L:Nat}(h:m.le L):m.of.ok L:=⟨RQ.of_ok h.a,RQ.of_ok h.b,RQ.of_ok h.c,RQ.of_ok h.d,RQ.of_ok h.e,RQ.of_ok h.f⟩
theorem aDet_q {m:M6 Rat}(h:m.le 10000):Pu Tryz.prog 41 [mq m] (q (m.a*m.e-m.d*m.b)):=by
 have:=aDet_pu (M6.of_ok h) (by omega)
 rwa [M6.of_v]at this
theorem aApply_q {m:M6 Rat}(h:m.le 10000){x y:Rat}(hx:ht x≤10000) (hy:ht y≤10000):Pu Tryz.prog 21 [mq m,pq x y] (pq (m.a*x+m.b*y+m.c) (m.d*x+m.e*y+m.f)):=by
 have:=aApply_pu (M6.of_ok h) (by omega) (RQ.of_ok hx) (RQ.of_ok hy)
 rwa [M6.of_v,RQ.of_v,RQ.of_v]at this
theorem ht_small (z:Int) (h:z.natAbs<4294967296):ht (z:Rat)≤1:=by
 unfold ht
 rw [Rat.num_intCast,Rat.den_intCast,dgs_one]
 have:il z≤1:=len_le (k:=1) (by simpa using h)
 simp;omega
theorem known26:Pu Tryz.prog 11 [] (lit (.bool true)):=by
 have h0:=ht_zero
 have h1:=ht_one
 have h2:ht 2≤1:=ht_small 2 (by omega)
 have h3:ht 3≤1:=ht_small 3 (by omega)
 have h4:ht 4≤1:=ht_small 4 (by omega)
 have a1:Pu Tryz.prog 38 [lit (.int .i64 2),lit (.int .i64 3)] (rp 2 3):=xy_pu 2 3 (by omega) (by omega) (by omega) (by omega)
 have a2:Pu Tryz.prog 38 [lit (.int .i64 1),lit (.int .i64 1)] (rp 1 1):=xy_pu 1 1 (by omega) (by omega) (by omega) (by omega)
 have a3:Pu Tryz.prog 38 [lit (.int .i64 3),lit (.int .i64 4)] (rp 3 4):=xy_pu 3 4 (by omega) (by omega) (by omega) (by omega)
 have b1:=toP_pu 2 3 (by omega) (by omega)
 have b2:=toP_pu 1 1 (by omega) (by omega)
 have b3:=toP_pu 3 4 (by omega) (by omega)
 have hm:(⟨1,0,2,0,1,3⟩:M6 Rat).le 10000:=⟨by simp only;omega,by simp only;omega,by simp only;omega,by simp only;omega,by simp only;omega,by simp only;omega⟩
 have c1:=translation_pu 2 3 (by omega) (by omega)
 have d1:=aDet_q hm
 simp only [show(1:Rat)*1-0*0=1 from by decide +kernel]at d1
 have d2:=aApply_q hm (x:=1) (y:=1) (by omega) (by omega)
 simp only [show(1:Rat)*1+0*1+2=3 from by decide +kernel,show(0:Rat)*1+1*1+3=4 from by decide +kernel]at d2
 have e1:=q_of 1 (by omega)
 have f1:=rc_pu 1 1 (by omega) (by omega)
 rw [show((1:Rat)-1).num.sign=0 from by decide +kernel]at f1
 have g1:=sameP_pu 3 4 (by omega) (by omega)
 refine Pu.intro Tryz.func11 rfl (by kernel_rfl) fun C=>?_
 repeat(first|(refine A1 ⟨?_⟩;intros)|refine W4 a1 ⟨?_⟩|refine W4 a2 ⟨?_⟩|refine W4 a3 ⟨?_⟩|refine W4 b1 ⟨?_⟩|refine W4 b2 ⟨?_⟩|refine W4 b3 ⟨?_⟩|refine W4 c1 ⟨?_⟩|refine W4 d1 ⟨?_⟩|refine W4 d2 ⟨?_⟩|refine W4 e1 ⟨?_⟩|refine W4 rof1 ⟨?_⟩|refine W4 f1 ⟨?_⟩|refine W4 g1 ⟨?_⟩)
 exact E1
theorem num_big {x:Rat}(h:¬small x):x.num≠0:=fun e=>h (by
 have hx:x=0:=Rat.num_eq_zero.1 e
 subst hx
 unfold small;rw [show(0:Rat).num=0 from rfl,show(0:Rat).den=1 from rfl];omega)
theorem zero_pu (x:Rat):Pu Tryz.prog 113 [fr x] (lit (.bool (decide (x.num=0)))):=by
 by_cases h:small x
 ·rw [fr_s h]
  by_cases h0:x.num=0
  ·rw [decide_eq_true h0,h0]
   refine Pu.intro Tryz.func113 rfl (by kernel_rfl) fun C=>?_
   repeat(refine A1 ⟨?_⟩;intros)
   exact E1
  ·rw [decide_eq_false h0]
   refine Pu.intro Tryz.func113 rfl (by kernel_rfl) fun C=>?_
   repeat(refine A1 ⟨?_⟩;intros)
   exact E1
 ·rw [fr_b h,decide_eq_false (num_big h)]
  refine Pu.intro Tryz.func113 rfl (by kernel_rfl) fun C=>?_
  repeat(refine A1 ⟨?_⟩;intros)
  exact E1
theorem inv_mk (x:Rat):mkRat (sv (decide (x.num<0)) x.den) x.num.natAbs=x⁻¹:=by
 rw [Rat.inv_def]
 by_cases h:x.num<0
 ·rw [decide_eq_true h]
  have e:x.num = -((x.num.natAbs:Nat):Int):=by omega
  conv=>rhs;rw [e,Rat.divInt_neg',Rat.divInt_ofNat]
  rfl
 ·rw [decide_eq_false h]
  have e:x.num=((x.num.natAbs:Nat):Int):=by omega
  conv=>rhs;rw [e,Rat.divInt_ofNat]
  rfl
theorem ht_inv (x:Rat):ht x⁻¹≤ht x+1:=by
 have h:=ht_mk (sv (decide (x.num<0)) x.den) x.num.natAbs
 rw [inv_mk]at h
 have h1:=ht_num x
 have h2:=ht_den x
 have h3:il (sv (decide (x.num<0)) x.den)=(dgs x.den).length:=by unfold il;rw [sv_abs]
 have h4:il x.num=(dgs x.num.natAbs).length:=rfl
 omega
theorem inv_pu (x:Rat) (h:ht x≤10000000):Pu Tryz.prog 242 [fr x] (fr x⁻¹):=by
 have hn:=Rat.num_inv x
 have hd:=Rat.den_inv x
 have hp:=x.den_pos
 by_cases hs:small x
 ·have hsm:small x⁻¹:=by
   unfold small at *
   rw [hn,hd,Int.natAbs_mul]
   refine⟨?_,by split <;> omega⟩
   have:x.num.sign.natAbs≤1:=by rcases Int.lt_trichotomy x.num 0 with h|h|h <;> simp [Int.sign_eq_neg_one_of_neg,Int.sign_eq_one_of_pos,h]
   have h2:=Nat.mul_le_mul_right ((x.den:Int).natAbs) this
   rw [Nat.one_mul,Int.natAbs_natCast]at h2
   have:=hs.2
   rw [Int.natAbs_natCast];omega
  rw [fr_s hs,fr_s hsm,hn,hd]
  unfold small at hs
  rcases Int.lt_trichotomy x.num 0 with h0|h0|h0
  ·rw [Int.sign_eq_neg_one_of_neg h0,if_neg (by omega)]
   refine Pu.intro Tryz.func242 rfl (by kernel_rfl) fun C=>?_
   repeat(refine A1 ⟨?_⟩;intros)
   refine endR (end1 (RV.cellA rfl List.mem_cons_self rfl rfl) (Le.ag ⟨Le.int (by omega),Le.int (by omega),Le.refl _,trivial⟩))
  ·rw [h0]
   refine Pu.intro Tryz.func242 rfl (by kernel_rfl) fun C=>?_
   repeat(refine A1 ⟨?_⟩;intros)
   refine endR (end1 (RV.cellA rfl List.mem_cons_self rfl rfl) (Le.ag ⟨Le.int (by simp),Le.int (by simp),Le.refl _,trivial⟩))
  ·rw [Int.sign_eq_one_of_pos h0,if_neg (by omega)]
   refine Pu.intro Tryz.func242 rfl (by kernel_rfl) fun C=>?_
   repeat(refine A1 ⟨?_⟩;intros)
   refine endR (end1 (RV.cellA rfl List.mem_cons_self rfl rfl) (Le.ag ⟨Le.int (by omega),Le.int (by omega),Le.refl _,trivial⟩))
 ·have h1:=ht_num x
  have h2:=ht_den x
  have h4:il x.num=(dgs x.num.natAbs).length:=rfl
  have hr:=reduce_pu (decide (x.num<0)) (dgs x.den) (dgs x.num.natAbs) (by omega) (by omega) (D_dgs _) (D_dgs _)
  rw [val_dgs,val_dgs,inv_mk]at hr
  rw [fr_b hs]
  refine Pu.intro Tryz.func242 rfl (by kernel_rfl) fun C=>?_
  repeat(first|(refine A1 ⟨?_⟩;intros)|refine W4 hr ⟨?_⟩)
  refine endR (end1 (RV.cellA rfl (by first|exact List.mem_cons_self|exact List.mem_cons_of_mem _ List.mem_cons_self) rfl rfl) (Le.refl _))
end Go.Ab
