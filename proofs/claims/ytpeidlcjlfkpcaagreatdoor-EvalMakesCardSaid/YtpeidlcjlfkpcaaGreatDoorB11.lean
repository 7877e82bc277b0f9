/- Texts laid one behind the other: RefF, Geo, Ref1, Ref4, Scene1, Law26A, FracE, RefH, AffB, LnM, ImM. -/
import Derived.Test.YtpeidlcjlfkpcaaGreatDoorFracD
set_option linter.all false
set_option maxHeartbeats 16000000
namespace Go.Ab
open Go.Proofs
variable [Base]
theorem tH (z:Int):rq (z:Rat)=ag [lit (.bool (decide (z<0))),nat z.natAbs,dg []]:=by
 rw [rq,eA,jy,pJ]
theorem vR (z:Int) (h0 : -9223372036854775808≤z) (h1:z≤9223372036854775807):Pu Tryz.prog 74 [lit (.int .i64 z)] (rq (z:Rat)):=by
 rw [tH];refine Pi Tryz.func74 fun C=>?_
 refine A2 ⟨?_⟩;intros;refine Wc (Gz z h0 h1) ?_;refine A2 ⟨?_⟩;intros;refine cV (bJ (RV.cellA rfl cL rfl rfl) (Le.ag ⟨Le.refl _,Le.refl _,gz,trivial⟩))
theorem ri (x:Rat) (h:ht x≤10000000):Pu Tryz.prog 108 [rq x] (lit (.int .i64 x.num.sign)):=by
 have b1:=ef x;have hb:(dgs x.num.natAbs).length≤1000000000:=by have:il x.num=(dgs x.num.natAbs).length:=rfl;omega
 refine Pi Tryz.func108 fun C=>?_
 refine A2 ⟨?_⟩;intros;refine Wc (s6 x.num hb) ?_;exact Z1
theorem mJ (x:Rat) (h:ht x≤10000000):Pu Tryz.prog 53 [rq x] (rq (-x)):=by
 have b1:=ef x;have hb:(dgs x.num.natAbs).length≤1000000000:=by have:il x.num=(dgs x.num.natAbs).length:=rfl;omega
 rw [show rq (-x)=ag [lit (.bool (decide (-x.num<0))),nat (-x.num).natAbs,dg (oX x.den)]from by rw [rq,jB,nF]];refine Pi Tryz.func53 fun C=>?_
 refine A2 ⟨?_⟩;intros;refine Wdc (nT x.num hb) ?_;exact Z2
theorem v9 {d:Nat}(h:d≠0):d≠1→(oX d).length≠0:=fun h1=>by rw [Cb h1];exact lV h
theorem sA {d:Nat}(h:d=1):(oX d).length=0:=by rw [h,pJ];rfl
theorem xo (d:Nat):(oX d).length≤(dgs d).length:=by unfold oX;split <;> simp
theorem Cw {x y:Rat}(h1:x.den=1) (h2:y.den=1):x*y=((x.num*y.num:Int):Rat):=by
 rw [nD,h1,h2,cB,jA]
theorem cZ (x y:Rat) (hx:ht x≤3000000) (hy:ht y≤3000000):Pu Tryz.prog 55 [rq x,rq y] (rq (x*y)):=by
 have n1:=ef x;have n2:=ef y;have d1:=eh x;have d2:=eh y;have m1:=oV x.num y.num;have m2:=ew x.den y.den;have l1:=xo x.den;have l2:=xo y.den;have mi:=ut x.num y.num (show il x.num≤100000000 by omega) (show il y.num≤100000000 by omega);have fr:=mj (x.num*y.num) (x.den*y.den) om om (iu x.den_nz y.den_nz);by_cases hx1:x.den=1
 ·have k1:=sA hx1;by_cases hy1:y.den=1
  ·have k2:=sA hy1;rw [Cw hx1 hy1,tH];refine Pi Tryz.func55 fun C=>?_
   refine A2 ⟨?_⟩;intros;refine Wc mi ?_;refine A2 ⟨?_⟩;intros;refine cV (bJ (RV.cellA rfl cL rfl rfl) (Le.ag ⟨Le.refl _,Le.refl _,gz,trivial⟩))
  ·have k2:=v9 y.den_nz hy1;rw [nD];refine Pi Tryz.func55 fun C=>?_
   refine A2 ⟨?_⟩;intros;refine Wdc mi ?_;refine A2 ⟨?_⟩;intros;refine Wdc (fh x) ?_;refine A2 ⟨?_⟩;intros;refine Wdc (fh y) ?_;refine A2 ⟨?_⟩;intros;refine Wdc (i4 x.den y.den om om) ?_;refine A2 ⟨?_⟩;intros;refine Wdc fr ?_;exact Z2
 ·have k1:=v9 x.den_nz hx1;rw [nD];refine Pi Tryz.func55 fun C=>?_
  refine A2 ⟨?_⟩;intros;refine Wdc mi ?_;refine A2 ⟨?_⟩;intros;refine Wdc (fh x) ?_;refine A2 ⟨?_⟩;intros;refine Wdc (fh y) ?_;refine A2 ⟨?_⟩;intros;refine Wdc (i4 x.den y.den om om) ?_;refine A2 ⟨?_⟩;intros;refine Wdc fr ?_;exact Z2
theorem jc (x y:Rat) (hx:ht x≤3000000) (hy:ht y≤3000000):Pu Tryz.prog 54 [rq x,rq y] (rq (x+y)):=by
 have n1:=ef x;have n2:=ef y;have d1:=eh x;have d2:=eh y;have m1:=oV x.num y.den;have m2:=oV y.num x.den;have m3:=BZ (x.num*y.den) (y.num*x.den);have m4:=ew x.den y.den;rw [yL]at m1 m2;have l1:=xo x.den;have l2:=xo y.den;have mi1:=ut x.num y.den (show il x.num≤100000000 by omega) (show(dgs y.den).length≤100000000 by omega);have mi2:=ut y.num x.den (show il y.num≤100000000 by omega) (show(dgs x.den).length≤100000000 by omega);rw [←Bh]at mi1 mi2;have ai:=yf (x.num*y.den) (y.num*x.den) (show il _≤100000000 by omega) (show il _≤100000000 by omega);have aw:=yf x.num y.num (show il _≤100000000 by omega) (show il _≤100000000 by omega);have fr:=mj (x.num*y.den+y.num*x.den) (x.den*y.den) om om (iu x.den_nz y.den_nz);by_cases hx1:x.den=1
 ·have k1:=sA hx1;by_cases hy1:y.den=1
  ·have k2:=sA hy1;rw [B8 hx1 hy1,tH];refine Pi Tryz.func54 fun C=>?_
   refine A2 ⟨?_⟩;intros;refine Wc aw ?_;refine A2 ⟨?_⟩;intros;refine cV (bJ (RV.cellA rfl cL rfl rfl) (Le.ag ⟨Le.refl _,Le.refl _,gz,trivial⟩))
  ·have k2:=v9 y.den_nz hy1;rw [nE];refine Pi Tryz.func54 fun C=>?_
   refine A2 ⟨?_⟩;intros;refine Wdc (fh y) ?_;refine A2 ⟨?_⟩;intros;refine Wdc (dH false y.den om) ?_;refine A2 ⟨?_⟩;intros;refine Wdc mi1 ?_;refine A2 ⟨?_⟩;intros;refine Wdc (fh x) ?_;refine A2 ⟨?_⟩;intros;refine Wdc (dH false x.den om) ?_;refine A2 ⟨?_⟩;intros;refine Wdc mi2 ?_;refine A2 ⟨?_⟩;intros;refine Wdc ai ?_;refine A2 ⟨?_⟩;intros;refine Wdc (fh x) ?_;refine A2 ⟨?_⟩;intros;refine Wdc (fh y) ?_;refine A2 ⟨?_⟩;intros;refine Wdc (i4 x.den y.den om om) ?_;refine A2 ⟨?_⟩;intros;refine Wdc fr ?_;exact Z2
 ·have k1:=v9 x.den_nz hx1;rw [nE];refine Pi Tryz.func54 fun C=>?_
  refine A2 ⟨?_⟩;intros;refine Wdc (fh y) ?_;refine A2 ⟨?_⟩;intros;refine Wdc (dH false y.den om) ?_;refine A2 ⟨?_⟩;intros;refine Wdc mi1 ?_;refine A2 ⟨?_⟩;intros;refine Wdc (fh x) ?_;refine A2 ⟨?_⟩;intros;refine Wdc (dH false x.den om) ?_;refine A2 ⟨?_⟩;intros;refine Wdc mi2 ?_;refine A2 ⟨?_⟩;intros;refine Wdc ai ?_;refine A2 ⟨?_⟩;intros;refine Wdc (fh x) ?_;refine A2 ⟨?_⟩;intros;refine Wdc (fh y) ?_;refine A2 ⟨?_⟩;intros;refine Wdc (i4 x.den y.den om om) ?_;refine A2 ⟨?_⟩;intros;refine Wdc fr ?_;exact Z2
theorem mh (x y:Rat) (hx:ht x≤3000000) (hy:ht y≤3000000):Pu Tryz.prog 152 [rq x,rq y] (rq (x-y)):=by
 rw [pY];refine Pi Tryz.func152 fun C=>?_
 refine A2 ⟨?_⟩;intros;refine Wdc (mJ y om) ?_;refine A2 ⟨?_⟩;intros;refine Wdc (jc x (-y) hx (by rw [fI];exact hy)) ?_;exact Z2
theorem oA (x y:Rat) (hx:ht x≤3000000) (hy:ht y≤3000000):Pu Tryz.prog 117 [rq x,rq y] (lit (.int .i64 (x-y).num.sign)):=by
 have h:=gh x y;refine Pi Tryz.func117 fun C=>?_
 refine A2 ⟨?_⟩;intros;refine Wc (mh x y hx hy) ?_;refine A2 ⟨?_⟩;intros;refine Wc (ri (x-y) om) ?_;exact Z1
abbrev pp (x y:Rat):SV:=ag [lit (.int .i64 (r0 x)),lit (.int .i64 (r1 x)),r2 x,lit (.int .i64 (r0 y)),lit (.int .i64 (r1 y)),r2 y]
structure RQ where
 s:Bool
 n:List Nat
 d:List Nat
def RQ.v (r:RQ):Rat:=mkRat (sv r.s (val r.n)) (val r.d)
def RQ.ok (L:Nat) (r:RQ):Prop:=D r.n∧D r.d∧r.n.length≤L∧r.d.length≤L
abbrev qr (r:RQ):SV:=SD r.s r.n r.d
abbrev pr (a b:RQ):SV:=ag [lit (.bool a.s),dg a.n,dg a.d,lit (.bool b.s),dg b.n,dg b.d]
abbrev pq (x y:Rat):SV:=ag [lit (.bool (decide (x.num<0))),nat x.num.natAbs,nat x.den,lit (.bool (decide (y.num<0))),nat y.num.natAbs,nat y.den]
def RQ.of (x:Rat):RQ:=⟨decide (x.num<0),dgs x.num.natAbs,dgs x.den⟩
theorem RQ.of_v (x:Rat):(RQ.of x).v=x:=by
 unfold RQ.v RQ.of;simp only [aK,iM];exact io x
theorem RQ.of_ok {x:Rat}{L:Nat}(h:ht x≤L):(RQ.of x).ok L :=
 ⟨cu _,cu _,aU (ef x) h,aU (eh x) h⟩
theorem Qn {s:Bool}{xs:List Nat}(h:D xs):il (sv s (val xs))≤xs.length:=by unfold il;rw [l7];exact mq h
theorem qV {r:RQ}{L:Nat}(h:r.ok L):ht r.v≤L+1:=by
 obtain⟨h1,h2,h3,h4⟩:=h;have:=AJ (sv r.s (val r.n)) (val r.d);have a1:=Qn (s:=r.s) h1;have a2:=mq h2;unfold RQ.v;omega
theorem Ql {r:RQ}{L:Nat}(h:r.ok L) (hL:L≤1000000):Pu Tryz.prog 175 [qr r] (fr r.v) :=
 LD r.s r.n r.d (by have:=h.2.2.1;omega) (by have:=h.2.2.2;omega) h.1 h.2.1
theorem GG {a b:RQ}{L:Nat}(ha:a.ok L) (hb:b.ok L) (hL:L≤1000000):Pu Tryz.prog 128 [pr a b] (pp a.v b.v):=by
 refine Pi Tryz.func128 fun C=>?_
 refine A2 ⟨?_⟩;intros;refine Wdc (Ql ha hL) ?_;refine A2 ⟨?_⟩;intros;refine Wdc (Ql hb hL) ?_;exact Z2
theorem Ob (x y u v:Rat) (hx:ht x≤1000000) (hy:ht y≤1000000) (hu:ht u≤1000000) (hv:ht v≤1000000):Pu Tryz.prog 324 [pp x y,pp u v] (pp (x+u) (y+v)):=by
 refine Pi Tryz.func324 fun C=>?_
 refine A2 ⟨?_⟩;intros;refine Wdc (qp x u om om) ?_;refine A2 ⟨?_⟩;intros;refine Wdc (qp y v om om) ?_;exact Z2
theorem Ae (x y u:Rat) (hx:ht x≤1000000) (hy:ht y≤1000000) (hu:ht u≤1000000):Pu Tryz.prog 325 [pp x y,fr u] (pp (x*u) (y*u)):=by
 refine Pi Tryz.func325 fun C=>?_
 refine A2 ⟨?_⟩;intros;refine Wdc (l8 x u om om) ?_;refine A2 ⟨?_⟩;intros;refine Wdc (l8 y u om om) ?_;exact Z2
theorem IF (x y u v:Rat) (hx:ht x≤1000000) (hy:ht y≤1000000) (hu:ht u≤1000000) (hv:ht v≤1000000):Pu Tryz.prog 313 [pp x y,pp u v] (fr (x*v-y*u)):=by
 have h1:=be x v;have h2:=be y u;refine Pi Tryz.func313 fun C=>?_
 refine A2 ⟨?_⟩;intros;refine Wdc (l8 x v om om) ?_;refine A2 ⟨?_⟩;intros;refine Wdc (l8 y u om om) ?_;refine A2 ⟨?_⟩;intros;refine Wdc (um (x*v) (y*u) om om) ?_;exact Z2
theorem Hk {p:Prop} [Decidable p] (h:¬p):Le (lit (.bool false)) (lit (.bool (decide p))):=by rw [aa h];exact Le.refl _
theorem Ph {p:Prop} [Decidable p] (h:p):Le (lit (.bool true)) (lit (.bool (decide p))):=by rw [a9 h];exact Le.refl _
theorem gt (xs ys:List Nat) (hx:xs.length≤1000000000) (hy:ys.length≤1000000000):Pu Tryz.prog 105 [dg xs,dg ys] (lit (.bool (decide (xs=ys)))):=by
 by_cases hl:xs.length=ys.length
 ·refine Pi Tryz.func105 fun C=>?_
  refine A2 ⟨?_⟩;intros
  refine WP.loop (ι:=Nat) (fun k=>k≤xs.length∧xs.take k=ys.take k) (fun k=>xs.length-k) (fun k=>fm [(0,dg xs),(1,dg ys),(11,dg xs),(12,lit (.int .i64 xs.length)),(13,lit (.int .i64 k))]) (fun _=>[]) 0
   ⟨an _,rfl⟩ lfA rfl ?_
  rintro k ⟨hk,he⟩ K hK;by_cases hkl:k<xs.length
  ·by_cases hd:xs.getD k 0=ys.getD k 0
   ·refine A2 ⟨?_⟩;intros;exact hK _ _ (k+1) ⟨om,by rw [dB xs k hkl,dB ys k om,he,hd]⟩ om lfA rfl
   ·refine A2 ⟨?_⟩;intros;exact cV (bJ (RV.tmp rfl) (Hk fun e=>hd (by rw [e])))
  ·have hke:k=xs.length:=by omega
   subst hke;rw [aP,hl,aP]at he;refine A2 ⟨?_⟩;intros;exact cV (bJ (RV.tmp rfl) (Ph he))
 ·refine Pi Tryz.func105 fun C=>?_
  refine A2 ⟨?_⟩;intros;exact cV (bJ (RV.tmp rfl) (Hk fun e=>hl (by rw [e])))
theorem rd (xs:List Nat) (h:xs.length≤1000000000):Pu Tryz.prog 116 [dg xs] (dg xs):=by
 refine Pi Tryz.func116 fun C=>?_
 exact Z1
theorem IY (xs:List Nat) (h:xs.length≤1000000000) (hD:D xs):Pu Tryz.prog 97 [dg xs] (nat (val xs)):=by
 refine Pi Tryz.func97 fun C=>?_
 repeat(first|(refine A1 ⟨?_⟩;intros)|(refine Wcx (gD _ h hD) ?_)|(refine ol (gD _ h hD) ?_)|(refine iE (gD _ h hD) ?_)|(refine l6 (gD _ h hD) ?_))
 exact E1
theorem PD (s:Bool) (xs:List Nat) (h:xs.length≤1000000000) (hD:D xs):Pu Tryz.prog 98 [raw s xs] (int (sv s (val xs))):=by
 have hl:=mq hD;refine Pi Tryz.func98 fun C=>?_
 repeat(first|(refine A1 ⟨?_⟩;intros)|(refine Wcx (IY _ h hD) ?_)|(refine ol (IY _ h hD) ?_)|(refine iE (IY _ h hD) ?_)|(refine l6 (IY _ h hD) ?_)|(refine Wcx (dH _ _ om) ?_)|(refine ol (dH _ _ om) ?_)|(refine iE (dH _ _ om) ?_)|(refine l6 (dH _ _ om) ?_))
 exact G1
theorem tC (z:Int) (h:il z≤1000000000):Pu Tryz.prog 106 [int z] (int z):=by
 have h':(dgs z.natAbs).length≤1000000000:=h;refine Pi Tryz.func106 fun C=>?_
 repeat(first|(refine A1 ⟨?_⟩;intros)|(refine Wcx (rd _ h') ?_)|(refine ol (rd _ h') ?_)|(refine iE (rd _ h') ?_)|(refine l6 (rd _ h') ?_))
 exact G1
theorem Kw (s t:Bool) (xs ys:List Nat) (hx:xs.length≤1000000000) (hy:ys.length≤1000000000):Pu Tryz.prog 72 [raw s xs,raw t ys] (lit (.bool (decide (s=t∧xs=ys)))):=by
 cases s <;> cases t
 ·refine Pi Tryz.func72 fun C=>?_
  repeat(first|(refine A1 ⟨?_⟩;intros)|(refine Wcx (gt _ _ hx hy) ?_)|(refine ol (gt _ _ hx hy) ?_)|(refine iE (gt _ _ hx hy) ?_)|(refine l6 (gt _ _ hx hy) ?_))
  refine cV (bJ (RV.tmp rfl) (Le.bool ?_));simp
 ·refine Pi Tryz.func72 fun C=>?_
  repeat(first|(refine A1 ⟨?_⟩;intros)|(refine Wcx (gt _ _ hx hy) ?_)|(refine ol (gt _ _ hx hy) ?_)|(refine iE (gt _ _ hx hy) ?_)|(refine l6 (gt _ _ hx hy) ?_))
  refine cV (bJ (RV.tmp rfl) (Le.bool ?_));simp
 ·refine Pi Tryz.func72 fun C=>?_
  repeat(first|(refine A1 ⟨?_⟩;intros)|(refine Wcx (gt _ _ hx hy) ?_)|(refine ol (gt _ _ hx hy) ?_)|(refine iE (gt _ _ hx hy) ?_)|(refine l6 (gt _ _ hx hy) ?_))
  refine cV (bJ (RV.tmp rfl) (Le.bool ?_));simp
 ·refine Pi Tryz.func72 fun C=>?_
  repeat(first|(refine A1 ⟨?_⟩;intros)|(refine Wcx (gt _ _ hx hy) ?_)|(refine ol (gt _ _ hx hy) ?_)|(refine iE (gt _ _ hx hy) ?_)|(refine l6 (gt _ _ hx hy) ?_))
  refine cV (bJ (RV.tmp rfl) (Le.bool ?_));simp
theorem Pd {p:Prop} [Decidable p] (h:p):lit (.bool (decide p))=lit (.bool true):=by rw [a9 h]
theorem Bn (s:Bool) (xs:List Nat) (hx:xs.length≤1000000000):Pu Tryz.prog 72 [raw s xs,raw s xs] (lit (.bool true)):=Pd (p:=s=s∧xs=xs) ⟨rfl,rfl⟩▸Kw s s xs xs hx hx
theorem qZ (x:Rat) (h:ht x≤100000000):Pu Tryz.prog 80 [rq x] (q x):=by
 have h1:=ef x;have h2:=eh x;refine Pi Tryz.func80 fun C=>?_
 repeat(first|(refine A1 ⟨?_⟩;intros)|(refine Wcx (tC _ om) ?_)|(refine ol (tC _ om) ?_)|(refine iE (tC _ om) ?_)|(refine l6 (tC _ om) ?_)|refine W4 (fh x) ⟨?_⟩|(refine Wcx (rd _ om) ?_)|(refine ol (rd _ om) ?_)|(refine iE (rd _ om) ?_)|(refine l6 (rd _ om) ?_))
 exact G1
theorem NU:rq 0=ag [lit (.bool false),nat 0,dg []]:=by rw [rq,show(0:Rat).num=0 from rfl,show(0:Rat).den=1 from rfl,pJ];rfl
theorem SE {r:RQ}{L:Nat}(h:r.ok L) (hL:L≤1000000):Pu Tryz.prog 60 [qr r] (rq r.v):=by
 obtain⟨h1,h2,h3,h4⟩:=h;have hl:=mq h2;have hi:=Qn (s:=r.s) h1;by_cases h0:val r.d=0
 ·have hv:r.v=0:=by unfold RQ.v;rw [h0];exact td _
  rw [hv,NU];have hn:=IY r.d om h2;rw [h0]at hn;have hl0:(dgs 0).length=0:=by rw [bW];rfl
  refine Pi Tryz.func60 fun C=>?_
  refine D1 hn ⟨?_⟩;intros;refine cV (bJ (RV.cellA rfl cL rfl rfl) (Le.ag ⟨Le.refl _,?_,gz,trivial⟩));rw [show nat 0=dg []from by show dg (dgs 0)=_;rw [bW]];exact gz
 ·have hp:=f0 h0;refine Pi Tryz.func60 fun C=>?_
  repeat(first|(refine A1 ⟨?_⟩;intros)|refine W4 (IY r.d om h2) ⟨?_⟩|(refine Wcx (PD _ _ om h1) ?_)|(refine ol (PD _ _ om h1) ?_)|(refine iE (PD _ _ om h1) ?_)|(refine l6 (PD _ _ om h1) ?_)|(refine Wcx (mj _ _ om om h0) ?_)|(refine ol (mj _ _ om om h0) ?_)|(refine iE (mj _ _ om om h0) ?_)|(refine l6 (mj _ _ om om h0) ?_))
  exact G1
abbrev rp (x y:Rat):SV:=ag [lit (.bool (decide (x.num<0))),nat x.num.natAbs,dg (oX x.den),lit (.bool (decide (y.num<0))),nat y.num.natAbs,dg (oX y.den)]
theorem Ev (x y:Rat) (hx:ht x≤100000000) (hy:ht y≤100000000):Pu Tryz.prog 39 [rp x y] (pq x y):=by
 refine Pi Tryz.func39 fun C=>?_
 repeat(first|(refine A1 ⟨?_⟩;intros)|(refine Wcx (qZ _ hx) ?_)|(refine ol (qZ _ hx) ?_)|(refine iE (qZ _ hx) ?_)|(refine l6 (qZ _ hx) ?_)|(refine Wcx (qZ _ hy) ?_)|(refine ol (qZ _ hy) ?_)|(refine iE (qZ _ hy) ?_)|(refine l6 (qZ _ hy) ?_))
 exact G1
theorem KW {a b:RQ}{L:Nat}(ha:a.ok L) (hb:b.ok L) (hL:L≤1000000):Pu Tryz.prog 26 [pr a b] (rp a.v b.v):=by
 refine Pi Tryz.func26 fun C=>?_
 exact X2 (SE ha hL) (SE hb hL)
theorem u7 (a b:Int) (ha : -9223372036854775808≤a) (ha':a≤9223372036854775807) (hb : -9223372036854775808≤b) (hb':b≤9223372036854775807):Pu Tryz.prog 79 [lit (.int .i64 a),lit (.int .i64 b)] (rp (a:Rat) (b:Rat)):=by
 refine Pi Tryz.func79 fun C=>?_
 exact X2 (vR a ha ha') (vR b hb hb')
theorem qD (x y k u v:Rat) (hx:ht x≤1000000) (hy:ht y≤1000000) (hk:ht k≤1000000) (hu:ht u≤1000000) (hv:ht v≤1000000):Pu Tryz.prog 40 [rp x y,rq k,rp u v] (rp (x+k*u) (y+k*v)):=by
 have h1:=be k u;have h2:=be k v;refine Pi Tryz.func40 fun C=>?_
 refine D4 (cZ k u om om) (jc x (k*u) om om) (cZ k v om om) (jc y (k*v) om om) ⟨?_⟩;intros;exact G1
theorem lU:ht 1=1:=by
 unfold ht;rw [show(1:Rat).num=1 from rfl,show(1:Rat).den=1 from rfl];unfold il;rw [show(1:Int).natAbs=1 from rfl,qL];rfl
theorem ur:Pu Tryz.prog 74 [lit (.int .i64 1)] (rq 1):=vR 1 om om
abbrev EZ (r:RQ):List SV:=[lit (.bool r.s),dg r.n,dg r.d]
def RQ.short (n:Nat) (r:RQ):Prop:=r.n.length≤n∧r.d.length≤n
instance (n:Nat) (r:RQ):Decidable (r.short n):=by unfold RQ.short;infer_instance
theorem ji {α:Type}{l:List α}{k:Nat}{a:α}(h:l[k]? = some a):l.take (k+1)=l.take k++[a]:=by
 obtain⟨h1,h2⟩:=bI.1 h;rw [tu h1,h2]
abbrev vU (p:RQ×RQ):List SV:=[lit (.bool p.1.s),dg p.1.n,dg p.1.d,lit (.bool p.2.s),dg p.2.n,dg p.2.d]
theorem yk (p:RQ×RQ):(vU p).length=6:=rfl
theorem kv:ht 0=1:=by
 unfold ht il;rw [show(0:Rat).num=0 from rfl,show(0:Rat).den=1 from rfl,show(0:Int).natAbs=0 from rfl,bW,qL];rfl
theorem uU (z:Int) (h:z.natAbs<4294967296):ht (z:Rat)≤1:=by
 unfold ht;rw [eA,jy,qL];have:il z≤1:=dU (k:=1) (by simpa using h);simp;omega
theorem OQ {x:Rat}(h:¬dW x):x.num≠0:=fun e=>h (by
 have hx:x=0:=ga.1 e;subst hx;unfold dW;rw [show(0:Rat).num=0 from rfl,show(0:Rat).den=1 from rfl];omega)
theorem rU (x:Rat):Pu Tryz.prog 160 [fr x] (lit (.bool (decide (x.num=0)))):=by
 by_cases h:dW x
 ·rw [kh h];by_cases h0:x.num=0
  ·rw [a9 h0,h0];refine Pi Tryz.func160 fun C=>?_
   exact Z1
  ·rw [aa h0];refine Pi Tryz.func160 fun C=>?_
   exact Z1
 ·rw [sK h,aa (OQ h)];refine Pi Tryz.func160 fun C=>?_
  exact Z1
theorem Fz (x:Rat):mkRat (sv (decide (x.num<0)) x.den) x.num.natAbs=x⁻¹:=by
 rw [Rat.inv_def];by_cases h:x.num<0
 ·rw [a9 h];have e:x.num = -((x.num.natAbs:Nat):Int):=by omega
  conv=>rhs;rw [e,Rat.divInt_neg',Rat.divInt_ofNat]
  rfl
 ·rw [aa h];have e:x.num=((x.num.natAbs:Nat):Int):=by omega
  conv=>rhs;rw [e,Rat.divInt_ofNat]
  rfl
theorem yN (x:Rat):ht x⁻¹≤ht x+1:=by
 have h:=AJ (sv (decide (x.num<0)) x.den) x.num.natAbs;rw [Fz]at h;have h1:=ef x;have h2:=eh x;have h3:il (sv (decide (x.num<0)) x.den)=(dgs x.den).length:=by unfold il;rw [l7]
 have h4:il x.num=(dgs x.num.natAbs).length:=rfl;omega
theorem Me (x:Rat) (h:ht x≤10000000):Pu Tryz.prog 227 [fr x] (fr x⁻¹):=by
 have hn:=Rat.num_inv x;have hd:=Rat.den_inv x;have hp:=x.den_pos;by_cases hs:dW x
 ·have hsm:dW x⁻¹:=by
   unfold dW at *;rw [hn,hd,fx];refine⟨?_,by split <;> omega⟩;have:x.num.sign.natAbs≤1:=by rcases iy x.num 0 with h|h|h <;> simp [gf,fy,h]
   have h2:=aR ((x.den:Int).natAbs) this;rw [aY,im]at h2;have:=hs.2;rw [im];omega
  rw [kh hs,kh hsm,hn,hd];unfold dW at hs;rcases iy x.num 0 with h0|h0|h0
  ·rw [gf h0,if_neg om];refine Pi Tryz.func227 fun C=>?_
   refine A2 ⟨?_⟩;intros;refine cV (bJ (RV.cellA rfl cL rfl rfl) (Le.ag ⟨Le.int om,Le.int om,Le.refl _,trivial⟩))
  ·rw [h0];refine Pi Tryz.func227 fun C=>?_
   refine A2 ⟨?_⟩;intros;refine cV (bJ (RV.cellA rfl cL rfl rfl) (Le.ag ⟨Le.int (by simp),Le.int (by simp),Le.refl _,trivial⟩))
  ·rw [fy h0,if_neg om];refine Pi Tryz.func227 fun C=>?_
   refine A2 ⟨?_⟩;intros;refine cV (bJ (RV.cellA rfl cL rfl rfl) (Le.ag ⟨Le.int om,Le.int om,Le.refl _,trivial⟩))
 ·have h1:=ef x;have h2:=eh x;have h4:il x.num=(dgs x.num.natAbs).length:=rfl;have hr:=pm (decide (x.num<0)) (dgs x.den) (dgs x.num.natAbs) om om (cu _) (cu _);rw [aK,aK,Fz]at hr;rw [sK hs];refine Pi Tryz.func227 fun C=>?_
  refine D1 hr ⟨?_⟩;intros;refine cV (bJ (RV.cellA rfl (by first|exact Ms|exact Mc Ms) rfl rfl) Lr)
theorem CL (n:Int) (d:Nat) (h0 : -9223372036854775808≤n) (h1:n≤9223372036854775807) (hd0:d≠0) (hd:d≤9223372036854775807):Pu Tryz.prog 81 [lit (.int .i64 n),lit (.int .i64 d)] (rq (mkRat n d)):=by
 have hn:il n≤2:=dU (k:=2) (by
  simpa using (show n.natAbs<18446744073709551616 by omega))
 have hdl:=dU (n:=d) (k:=2) (by simpa using (show d<18446744073709551616 by omega));refine Pi Tryz.func81 fun C=>?_
 refine D3 (Gz n h0 h1) (mG d om) (mj n d om om hd0) ⟨?_⟩;intros;exact G1
theorem Od (x y:Rat):mkRat (x.num*sv (decide (y.num<0)) y.den) (x.den*y.num.natAbs)=x/y:=by
 rw [iY,←Fz];conv=>rhs;rw [←io x]
 rw [lA]
theorem pg (x y:Rat) (hx:ht x≤3000000) (hy:ht y≤3000000) (h0:y.num≠0):Pu Tryz.prog 192 [rq x,rq y] (rq (x/y)):=by
 have n1:=ef x;have n2:=ef y;have d1:=eh x;have d2:=eh y;have e2:il y.num=(dgs y.num.natAbs).length:=rfl;have m1:=oV x.num (sv (decide (y.num<0)) y.den);have e1:il (sv (decide (y.num<0)) y.den)=(dgs y.den).length:=by unfold il;rw [l7]
 have m4:=ew x.den y.num.natAbs;have mi:=ut x.num (sv (decide (y.num<0)) y.den) (show il x.num≤100000000 by omega) (show il _≤100000000 by omega);have fr:=mj (x.num*sv (decide (y.num<0)) y.den) (x.den*y.num.natAbs) om om (iu x.den_nz om);rw [Od]at fr;refine Pi Tryz.func192 fun C=>?_
 repeat(first|(refine A1 ⟨?_⟩;intros)|(refine Wcx (fh _) ?_)|(refine ol (fh _) ?_)|(refine iE (fh _) ?_)|(refine l6 (fh _) ?_)|(refine Wcx (dH _ _ om) ?_)|(refine ol (dH _ _ om) ?_)|(refine iE (dH _ _ om) ?_)|(refine l6 (dH _ _ om) ?_)|refine W4 mi ⟨?_⟩|(refine Wcx (i4 _ _ om om) ?_)|(refine ol (i4 _ _ om om) ?_)|(refine iE (i4 _ _ om om) ?_)|(refine l6 (i4 _ _ om om) ?_)|refine W4 fr ⟨?_⟩)
 exact G1
def kb (x y:Rat):Rat:=mkRat (Nat.gcd (x.num.natAbs*y.den) (y.num.natAbs*x.den):Nat) (x.den*y.den)
theorem Ea {x:Rat}{p:Int}{d:Nat}(hd:d≠0) (h:x=mkRat p d):x.num*d=p*x.den:=by
 have h1:=io x;rw [←h1]at h;conv at h=>lhs;rw [h1]
 have:=(Rat.mkRat_eq_iff (n₁:=x.num) (n₂:=p) x.den_nz hd).1 (by rw [io];exact h);rw [this]
theorem Bq {x y:Rat}{p q:Int}{d:Nat}(hd:d≠0) (hx:x=mkRat p d) (hy:y=mkRat q d):kb x y=mkRat (Nat.gcd p.natAbs q.natAbs:Nat) d:=by
 have cx:=congrArg Int.natAbs (Ea hd hx);have cy:=congrArg Int.natAbs (Ea hd hy);rw [fx,fx,im,im]at cx cy;unfold kb;rw [Rat.mkRat_eq_iff (iu x.den_nz y.den_nz) hd]
 have:Nat.gcd (x.num.natAbs*y.den) (y.num.natAbs*x.den)*d=Nat.gcd p.natAbs q.natAbs*(x.den*y.den):=by
  rw [←Nat.gcd_mul_right,←Nat.gcd_mul_right];congr 1
  ·rw [iZ,cx,aI]
  ·rw [iZ,cy,aI,aE y.den]
 exact_mod_cast this
theorem MV (x y:Rat):∃(p q:Int) (d:Nat),d≠0∧x=mkRat p d∧y=mkRat q d:=by
 refine⟨x.num*y.den,y.num*x.den,x.den*y.den,iu x.den_nz y.den_nz,?_,?_⟩
 ·rw [tc y.den_nz,io]
 ·rw [aE x.den,tc x.den_nz,io]
theorem CU (t x y:Rat) (ht:0<t):kb (t*x) (t*y)=t*kb x y:=by
 obtain⟨p,q,d,hd,hx,hy⟩:=MV x y
 have hn:0<t.num:=by
  have h0:=pX.2 (f8 ht);have h1:t.num≠0:=fun e=>by rw [ga.1 e]at ht;exact absurd ht (by decide)
  omega
 have e:t=mkRat t.num t.den:=(io t).symm;have hx':t*x=mkRat (t.num*p) (t.den*d):=by conv=>lhs;rw [e,hx,lA]
 have hy':t*y=mkRat (t.num*q) (t.den*d):=by conv=>lhs;rw [e,hy,lA]
 rw [Bq (iu t.den_nz hd) hx' hy',Bq hd hx hy,fx,fx,nC];conv=>rhs;rw [e,lA]
 congr 1
 rw [cX,nI (Int.le_of_lt hn)]
theorem CT (x y:Rat):0≤kb x y:=by
 unfold kb;rw [←pX,Rat.num_mkRat];rw [if_neg (iu x.den_nz y.den_nz)];exact Int.ediv_nonneg (Int.natCast_nonneg _) (Int.natCast_nonneg _)
theorem yb (x y:Rat):∃k l:Int,x=k*kb x y∧y=l*kb x y:=by
 obtain⟨p,q,d,hd,hx,hy⟩:=MV x y;rw [Bq hd hx hy];have h1:(Nat.gcd p.natAbs q.natAbs:Int)∣p:=Int.ofNat_dvd_left.2 (lB _ _);have h2:(Nat.gcd p.natAbs q.natAbs:Int)∣q:=Int.ofNat_dvd_left.2 (nG _ _);obtain⟨k,hk⟩:=h1;obtain⟨l,hl⟩:=h2
 have key:∀(z k:Int),z=(Nat.gcd p.natAbs q.natAbs:Int)*k→mkRat z d=(k:Rat)*mkRat (Nat.gcd p.natAbs q.natAbs:Nat) d:=fun z k h=>by
  have e:(k:Rat)=mkRat k 1:=(jA k).symm;rw [e,lA,aY,h,Int.mul_comm]
 exact⟨k,l,by rw [hx];exact key p k hk,by rw [hy];exact key q l hl⟩
theorem Aa {x y:Rat}(h:kb x y=0):x=0∧y=0:=by
 obtain⟨k,l,h1,h2⟩:=yb x y;rw [h,nB]at h1 h2;exact⟨h1,h2⟩
theorem lP (a b:Int):kb a b=((Nat.gcd a.natAbs b.natAbs:Nat):Rat):=by
 unfold kb;rw [eA,eA,jy,jy,cB,cB,cB,jA];rfl
structure Li where
 a:Int
 b:Int
 c:Int
def Li.ok (l:Li):Prop:=Nat.gcd (Nat.gcd l.a.natAbs l.b.natAbs) l.c.natAbs=1∧(l.a≠0∨l.b≠0)
def g3 (a b c:Rat):Rat:=kb (kb a b) c
def ju (a b c:Rat):Li:=⟨(a*(g3 a b c)⁻¹).num,(b*(g3 a b c)⁻¹).num,(c*(g3 a b c)⁻¹).num⟩
theorem MA (t a b c:Rat) (ht:0<t):g3 (t*a) (t*b) (t*c)=t*g3 a b c:=by unfold g3;rw [CU t a b ht,CU t _ c ht]
theorem FH {a b c:Rat}(h:a≠0∨b≠0):0<g3 a b c:=by
 have h0:=CT (kb a b) c;rcases Rat.le_iff_lt_or_eq.1 h0 with h1|h1
 ·exact h1
 ·exfalso;have h2:=(Aa h1.symm).1;have h3:=Aa h2;rcases h with h|h
  ·exact h h3.1
  ·exact h h3.2
theorem OP {x:Rat}(h:x.den=1):(x.num:Rat)=x:=by
 apply Rat.ext <;> simp [h]
theorem Bv {a b c:Rat}(h:a≠0∨b≠0):a*(g3 a b c)⁻¹=((ju a b c).a:Rat)∧b*(g3 a b c)⁻¹=((ju a b c).b:Rat)∧c*(g3 a b c)⁻¹=((ju a b c).c:Rat):=by
 have hg:=FH (c:=c) h;have hne:g3 a b c≠0:=fun e=>by rw [e]at hg;exact absurd hg (by decide)
 obtain⟨k,l,h1,h2⟩:=yb a b;obtain⟨u,v,h3,h4⟩:=yb (kb a b) c
 have ea:a*(g3 a b c)⁻¹=((k*u:Int):Rat):=by
  have:a=((k*u:Int):Rat)*g3 a b c:=by rw [iX,ik];unfold g3;rw [←h3];exact h1
  generalize g3 a b c=g at *;rw [this,ik,pW _ hne,pV]
 have eb:b*(g3 a b c)⁻¹=((l*u:Int):Rat):=by
  have:b=((l*u:Int):Rat)*g3 a b c:=by rw [iX,ik];unfold g3;rw [←h3];exact h2
  generalize g3 a b c=g at *;rw [this,ik,pW _ hne,pV]
 have ec:c*(g3 a b c)⁻¹=((v:Int):Rat):=by
  have:c=((v:Int):Rat)*g3 a b c:=h4;generalize g3 a b c=g at *;rw [this,ik,pW _ hne,pV]
 unfold ju;simp only [];rw [ea,eb,ec,eA,eA,eA];exact⟨rfl,rfl,rfl⟩
theorem wY {a b c:Rat}(h:a≠0∨b≠0):(ju a b c).ok:=by
 have hg:=FH (c:=c) h;have hne:g3 a b c≠0:=fun e=>by rw [e]at hg;exact absurd hg (by decide)
 obtain⟨e1,e2,e3⟩:=Bv (c:=c) h;have hi:0<(g3 a b c)⁻¹:=Rat.inv_pos.2 hg;have h1:=MA (g3 a b c)⁻¹ a b c hi;rw [Rat.inv_mul_cancel _ hne,eK _ a,eK _ b,eK _ c,e1,e2,e3]at h1;unfold g3 at h1;rw [lP,show((Nat.gcd (ju a b c).a.natAbs (ju a b c).b.natAbs:Nat):Rat)=(((Nat.gcd (ju a b c).a.natAbs (ju a b c).b.natAbs:Nat):Int):Rat)from rfl,lP,im]at h1;refine⟨by exact_mod_cast h1,?_⟩;rcases h with h|h
 ·left;intro e;rw [e]at e1;rcases dQ.1 (e1.trans rfl)with h5|h5
  ·exact h h5
  ·rw [h5]at hi;exact absurd hi (by decide)
 ·right;intro e;rw [e]at e2;rcases dQ.1 (e2.trans rfl)with h5|h5
  ·exact h h5
  ·rw [h5]at hi;exact absurd hi (by decide)
theorem yg (t a b c:Rat) (ht:0<t):ju (t*a) (t*b) (t*c)=ju a b c:=by
 have hne:t≠0:=fun e=>by rw [e]at ht;exact absurd ht (by decide)
 have key:∀x:Rat,t*x*(t*g3 a b c)⁻¹=x*(g3 a b c)⁻¹:=fun x=>by
  rw [Rat.inv_mul_rev,eK t x,ik,←ik t,eK t,ik (g3 a b c)⁻¹,pW _ hne,pV]
 unfold ju;rw [MA t a b c ht,key,key,key]
def Li.neg (l:Li):Li:=⟨-l.a,-l.b,-l.c⟩
theorem PH (a b c:Int):g3 a b c=((Nat.gcd (Nat.gcd a.natAbs b.natAbs) c.natAbs:Nat):Rat):=by
 unfold g3;rw [lP,show((Nat.gcd a.natAbs b.natAbs:Nat):Rat)=(((Nat.gcd a.natAbs b.natAbs:Nat):Int):Rat)from rfl,lP,im]
theorem rl {a:Int}{g:Nat}(hg:g≠0) (h:g∣a.natAbs):((a:Rat)*((g:Nat):Rat)⁻¹).num=sv (decide (a<0)) (a.natAbs/g):=by
 obtain⟨k,hk⟩:=h;have hgr:((g:Nat):Rat)≠0:=by exact_mod_cast hg
 have ek:a.natAbs/g=k:=by rw [hk,xC _ (f9 hg)]
 have ea:a=(g:Int)*sv (decide (a<0)) k:=by
  have h0:=iM a;rw [hk]at h0;conv=>lhs;rw [←h0]
  cases decide (a<0)
  ·simp [sv]
  ·simp [sv,qd]
 rw [ek];generalize sv (decide (a<0)) k=z at *
 have:(a:Rat)*((g:Nat):Rat)⁻¹=(z:Rat):=by
  rw [ea,iX,eK,←ik];rw [show((g:Int):Rat)=((g:Nat):Rat)from rfl,Rat.inv_mul_cancel _ hgr,Rat.one_mul]
 rw [this,eA]
theorem SP {a b:Int}(c:Int) (h:a≠0∨b≠0):Nat.gcd (Nat.gcd a.natAbs b.natAbs) c.natAbs≠0:=by
 intro e;have h1:=(nH.1 e).1;have h2:=nH.1 h1;omega
theorem Ag {a b:Int}(c:Int) (h:a≠0∨b≠0):ju a b c=⟨sv (decide (a<0)) (a.natAbs/Nat.gcd (Nat.gcd a.natAbs b.natAbs) c.natAbs),sv (decide (b<0)) (b.natAbs/Nat.gcd (Nat.gcd a.natAbs b.natAbs) c.natAbs),
  sv (decide (c<0)) (c.natAbs/Nat.gcd (Nat.gcd a.natAbs b.natAbs) c.natAbs)⟩:=by
 have hg:=SP c h;have d1:Nat.gcd (Nat.gcd a.natAbs b.natAbs) c.natAbs∣a.natAbs:=Nat.dvd_trans (lB _ _) (lB _ _);have d2:Nat.gcd (Nat.gcd a.natAbs b.natAbs) c.natAbs∣b.natAbs:=Nat.dvd_trans (lB _ _) (nG _ _);have d3:Nat.gcd (Nat.gcd a.natAbs b.natAbs) c.natAbs∣c.natAbs:=nG _ _;unfold ju;rw [PH];generalize Nat.gcd (Nat.gcd a.natAbs b.natAbs) c.natAbs=g at *;rw [rl hg d1,rl hg d2,rl hg d3]
theorem yh {a b:Int}(c:Int) (h:a≠0∨b≠0):(ju a b c).a.natAbs≤a.natAbs∧(ju a b c).b.natAbs≤b.natAbs∧(ju a b c).c.natAbs≤c.natAbs:=by
 rw [Ag c h];simp only [l7];exact⟨dw _ _,dw _ _,dw _ _⟩
def thr (x y u v:Rat):Li:=ju (-(v-y)) (u-x) (-(-(v-y)*x+(u-x)*y))
theorem Li.n_pos {l:Li}(hl:l.ok):(0:Rat)<l.b*l.b + -l.a * -l.a:=by
 have h:0<l.b*l.b + -l.a * -l.a:=by
  have h1:0≤l.b*l.b:=by rcases Int.le_total 0 l.b with h|h;exact tn h h;exact xB h h
  have h2:0≤-l.a * -l.a:=by rcases Int.le_total 0 (-l.a)with h|h;exact tn h h;exact xB h h
  rcases hl.2 with h|h
  ·have : -l.a * -l.a≠0:=fun e=>by rcases Int.mul_eq_zero.1 e with e|e <;> omega
   omega
  ·have:l.b*l.b≠0:=fun e=>by rcases Int.mul_eq_zero.1 e with e|e <;> omega
   omega
 exact_mod_cast h
end Go.Ab
