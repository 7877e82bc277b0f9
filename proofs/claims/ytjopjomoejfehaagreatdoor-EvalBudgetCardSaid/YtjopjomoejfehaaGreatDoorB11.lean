/- Texts laid one behind the other: RefF, Geo, Ref1, Ref4, Scene1, Law26A, FracE, RefH, AffB, LnM, ImM. -/
import Derived.Test.YtjopjomoejfehaaGreatDoorFracD
set_option linter.all false
set_option maxHeartbeats 16000000
namespace Go.Ab
open Go.Proofs
variable [Base]
theorem vE (z:Int):rq (z:Rat)=ag [lit (.bool (decide (z<0))),nat z.natAbs,dg []]:=by
 rw [rq,ew,jC,pC]
theorem vF (z:Int) (h0 : -9223372036854775808≤z) (h1:z≤9223372036854775807):Pu Tryz.prog 56 [lit (.int .i64 z)] (rq (z:Rat)):=by
 rw [vE];refine Pi Tryz.func56 fun C=>?_
 refine A2 ⟨?_⟩;intros;refine Wc (Gi z h0 h1) ?_;refine A2 ⟨?_⟩;intros;refine db (bO (RV.cellA rfl cN rfl rfl) (Le.ag ⟨Le.refl _,Le.refl _,gC,trivial⟩))
theorem qZ (x:Rat) (h:ht x≤10000000):Pu Tryz.prog 87 [rq x] (lit (.int .i64 x.num.sign)):=by
 have b1:=eh x;have hb:(dgs x.num.natAbs).length≤1000000000:=by have:il x.num=(dgs x.num.natAbs).length:=rfl;omega
 refine Pi Tryz.func87 fun C=>?_
 refine A2 ⟨?_⟩;intros;refine Wc (rO x.num hb) ?_;exact Z1
theorem qj (x:Rat) (h:ht x≤10000000):Pu Tryz.prog 81 [rq x] (rq (-x)):=by
 have b1:=eh x;have hb:(dgs x.num.natAbs).length≤1000000000:=by have:il x.num=(dgs x.num.natAbs).length:=rfl;omega
 rw [show rq (-x)=ag [lit (.bool (decide (-x.num<0))),nat (-x.num).natAbs,dg (pD x.den)]from by rw [rq,jE,nF]];refine Pi Tryz.func81 fun C=>?_
 refine A2 ⟨?_⟩;intros;refine Wdc (nS x.num hb) ?_;exact Z2
theorem uS {d:Nat}(h:d≠0):d≠1→(pD d).length≠0:=fun h1=>by rw [BV h1];exact lW h
theorem sa {d:Nat}(h:d=1):(pD d).length=0:=by rw [h,pC];rfl
theorem wZ (d:Nat):(pD d).length≤(dgs d).length:=by unfold pD;split <;> simp
theorem Ci {x y:Rat}(h1:x.den=1) (h2:y.den=1):x*y=((x.num*y.num:Int):Rat):=by
 rw [nD,h1,h2,cw,jD]
theorem dI (x y:Rat) (hx:ht x≤3000000) (hy:ht y≤3000000):Pu Tryz.prog 65 [rq x,rq y] (rq (x*y)):=by
 have n1:=eh x;have n2:=eh y;have d1:=eP x;have d2:=eP y;have m1:=oS x.num y.num;have m2:=eV x.den y.den;have l1:=wZ x.den;have l2:=wZ y.den;have mi:=ua x.num y.num (show il x.num≤100000000 by omega) (show il y.num≤100000000 by omega);have fr:=ml (x.num*y.num) (x.den*y.den) om om (iu x.den_nz y.den_nz);by_cases hx1:x.den=1
 ·have k1:=sa hx1;by_cases hy1:y.den=1
  ·have k2:=sa hy1;rw [Ci hx1 hy1,vE];refine Pi Tryz.func65 fun C=>?_
   refine A2 ⟨?_⟩;intros;refine Wc mi ?_;refine A2 ⟨?_⟩;intros;refine db (bO (RV.cellA rfl cN rfl rfl) (Le.ag ⟨Le.refl _,Le.refl _,gC,trivial⟩))
  ·have k2:=uS y.den_nz hy1;rw [nD];refine Pi Tryz.func65 fun C=>?_
   refine A2 ⟨?_⟩;intros;refine Wdc mi ?_;refine A2 ⟨?_⟩;intros;refine Wdc (fU x) ?_;refine A2 ⟨?_⟩;intros;refine Wdc (fU y) ?_;refine A2 ⟨?_⟩;intros;refine Wdc (j7 x.den y.den om om) ?_;refine A2 ⟨?_⟩;intros;refine Wdc fr ?_;exact Z2
 ·have k1:=uS x.den_nz hx1;rw [nD];refine Pi Tryz.func65 fun C=>?_
  refine A2 ⟨?_⟩;intros;refine Wdc mi ?_;refine A2 ⟨?_⟩;intros;refine Wdc (fU x) ?_;refine A2 ⟨?_⟩;intros;refine Wdc (fU y) ?_;refine A2 ⟨?_⟩;intros;refine Wdc (j7 x.den y.den om om) ?_;refine A2 ⟨?_⟩;intros;refine Wdc fr ?_;exact Z2
theorem jL (x y:Rat) (hx:ht x≤3000000) (hy:ht y≤3000000):Pu Tryz.prog 64 [rq x,rq y] (rq (x+y)):=by
 have n1:=eh x;have n2:=eh y;have d1:=eP x;have d2:=eP y;have m1:=oS x.num y.den;have m2:=oS y.num x.den;have m3:=BJ (x.num*y.den) (y.num*x.den);have m4:=eV x.den y.den;rw [yx]at m1 m2;have l1:=wZ x.den;have l2:=wZ y.den;have mi1:=ua x.num y.den (show il x.num≤100000000 by omega) (show(dgs y.den).length≤100000000 by omega);have mi2:=ua y.num x.den (show il y.num≤100000000 by omega) (show(dgs x.den).length≤100000000 by omega);rw [←Em]at mi1 mi2;have ai:=xU (x.num*y.den) (y.num*x.den) (show il _≤100000000 by omega) (show il _≤100000000 by omega);have aw:=xU x.num y.num (show il _≤100000000 by omega) (show il _≤100000000 by omega);have fr:=ml (x.num*y.den+y.num*x.den) (x.den*y.den) om om (iu x.den_nz y.den_nz);by_cases hx1:x.den=1
 ·have k1:=sa hx1;by_cases hy1:y.den=1
  ·have k2:=sa hy1;rw [AR hx1 hy1,vE];refine Pi Tryz.func64 fun C=>?_
   refine A2 ⟨?_⟩;intros;refine Wc aw ?_;refine A2 ⟨?_⟩;intros;refine db (bO (RV.cellA rfl cN rfl rfl) (Le.ag ⟨Le.refl _,Le.refl _,gC,trivial⟩))
  ·have k2:=uS y.den_nz hy1;rw [nE];refine Pi Tryz.func64 fun C=>?_
   refine A2 ⟨?_⟩;intros;refine Wdc (fU y) ?_;refine A2 ⟨?_⟩;intros;refine Wdc (dR false y.den om) ?_;refine A2 ⟨?_⟩;intros;refine Wdc mi1 ?_;refine A2 ⟨?_⟩;intros;refine Wdc (fU x) ?_;refine A2 ⟨?_⟩;intros;refine Wdc (dR false x.den om) ?_;refine A2 ⟨?_⟩;intros;refine Wdc mi2 ?_;refine A2 ⟨?_⟩;intros;refine Wdc ai ?_;refine A2 ⟨?_⟩;intros;refine Wdc (fU x) ?_;refine A2 ⟨?_⟩;intros;refine Wdc (fU y) ?_;refine A2 ⟨?_⟩;intros;refine Wdc (j7 x.den y.den om om) ?_;refine A2 ⟨?_⟩;intros;refine Wdc fr ?_;exact Z2
 ·have k1:=uS x.den_nz hx1;rw [nE];refine Pi Tryz.func64 fun C=>?_
  refine A2 ⟨?_⟩;intros;refine Wdc (fU y) ?_;refine A2 ⟨?_⟩;intros;refine Wdc (dR false y.den om) ?_;refine A2 ⟨?_⟩;intros;refine Wdc mi1 ?_;refine A2 ⟨?_⟩;intros;refine Wdc (fU x) ?_;refine A2 ⟨?_⟩;intros;refine Wdc (dR false x.den om) ?_;refine A2 ⟨?_⟩;intros;refine Wdc mi2 ?_;refine A2 ⟨?_⟩;intros;refine Wdc ai ?_;refine A2 ⟨?_⟩;intros;refine Wdc (fU x) ?_;refine A2 ⟨?_⟩;intros;refine Wdc (fU y) ?_;refine A2 ⟨?_⟩;intros;refine Wdc (j7 x.den y.den om om) ?_;refine A2 ⟨?_⟩;intros;refine Wdc fr ?_;exact Z2
theorem mj (x y:Rat) (hx:ht x≤3000000) (hy:ht y≤3000000):Pu Tryz.prog 133 [rq x,rq y] (rq (x-y)):=by
 rw [pS];refine Pi Tryz.func133 fun C=>?_
 refine A2 ⟨?_⟩;intros;refine Wdc (qj y om) ?_;refine A2 ⟨?_⟩;intros;refine Wdc (jL x (-y) hx (by rw [gq];exact hy)) ?_;exact Z2
theorem ow (x y:Rat) (hx:ht x≤3000000) (hy:ht y≤3000000):Pu Tryz.prog 101 [rq x,rq y] (lit (.int .i64 (x-y).num.sign)):=by
 have h:=gU x y;refine Pi Tryz.func101 fun C=>?_
 refine A2 ⟨?_⟩;intros;refine Wc (mj x y hx hy) ?_;refine A2 ⟨?_⟩;intros;refine Wc (qZ (x-y) om) ?_;exact Z1
abbrev pp (x y:Rat):SV:=ag [lit (.int .i64 (r0 x)),lit (.int .i64 (r1 x)),r2 x,lit (.int .i64 (r0 y)),lit (.int .i64 (r1 y)),r2 y]
structure RQ where
 s:Bool
 n:List Nat
 d:List Nat
def RQ.v (r:RQ):Rat:=mkRat (sv r.s (val r.n)) (val r.d)
def RQ.ok (L:Nat) (r:RQ):Prop:=D r.n∧D r.d∧r.n.length≤L∧r.d.length≤L
abbrev qr (r:RQ):SV:=Ry r.s r.n r.d
abbrev pr (a b:RQ):SV:=ag [lit (.bool a.s),dg a.n,dg a.d,lit (.bool b.s),dg b.n,dg b.d]
abbrev pq (x y:Rat):SV:=ag [lit (.bool (decide (x.num<0))),nat x.num.natAbs,nat x.den,lit (.bool (decide (y.num<0))),nat y.num.natAbs,nat y.den]
def RQ.of (x:Rat):RQ:=⟨decide (x.num<0),dgs x.num.natAbs,dgs x.den⟩
theorem RQ.of_v (x:Rat):(RQ.of x).v=x:=by
 unfold RQ.v RQ.of;simp only [aK,iH];exact io x
theorem RQ.of_ok {x:Rat}{L:Nat}(h:ht x≤L):(RQ.of x).ok L :=
 ⟨cE _,cE _,aO (eh x) h,aO (eP x) h⟩
theorem PF {s:Bool}{xs:List Nat}(h:D xs):il (sv s (val xs))≤xs.length:=by unfold il;rw [kY];exact mv h
theorem uH {r:RQ}{L:Nat}(h:r.ok L):ht r.v≤L+1:=by
 obtain⟨h1,h2,h3,h4⟩:=h;have:=Av (sv r.s (val r.n)) (val r.d);have a1:=PF (s:=r.s) h1;have a2:=mv h2;unfold RQ.v;omega
theorem PB {r:RQ}{L:Nat}(h:r.ok L) (hL:L≤1000000):Pu Tryz.prog 160 [qr r] (fr r.v) :=
 KZ r.s r.n r.d (by have:=h.2.2.1;omega) (by have:=h.2.2.2;omega) h.1 h.2.1
theorem Gt {a b:RQ}{L:Nat}(ha:a.ok L) (hb:b.ok L) (hL:L≤1000000):Pu Tryz.prog 111 [pr a b] (pp a.v b.v):=by
 refine Pi Tryz.func111 fun C=>?_
 refine A2 ⟨?_⟩;intros;refine Wdc (PB ha hL) ?_;refine A2 ⟨?_⟩;intros;refine Wdc (PB hb hL) ?_;exact Z2
theorem Nw (x y u v:Rat) (hx:ht x≤1000000) (hy:ht y≤1000000) (hu:ht u≤1000000) (hv:ht v≤1000000):Pu Tryz.prog 314 [pp x y,pp u v] (pp (x+u) (y+v)):=by
 refine Pi Tryz.func314 fun C=>?_
 refine A2 ⟨?_⟩;intros;refine Wdc (ql x u om om) ?_;refine A2 ⟨?_⟩;intros;refine Wdc (ql y v om om) ?_;exact Z2
theorem A4 (x y u:Rat) (hx:ht x≤1000000) (hy:ht y≤1000000) (hu:ht u≤1000000):Pu Tryz.prog 315 [pp x y,fr u] (pp (x*u) (y*u)):=by
 refine Pi Tryz.func315 fun C=>?_
 refine A2 ⟨?_⟩;intros;refine Wdc (kZ x u om om) ?_;refine A2 ⟨?_⟩;intros;refine Wdc (kZ y u om om) ?_;exact Z2
theorem Ig (x y u v:Rat) (hx:ht x≤1000000) (hy:ht y≤1000000) (hu:ht u≤1000000) (hv:ht v≤1000000):Pu Tryz.prog 303 [pp x y,pp u v] (fr (x*v-y*u)):=by
 have h1:=bF x v;have h2:=bF y u;refine Pi Tryz.func303 fun C=>?_
 refine A2 ⟨?_⟩;intros;refine Wdc (kZ x v om om) ?_;refine A2 ⟨?_⟩;intros;refine Wdc (kZ y u om om) ?_;refine A2 ⟨?_⟩;intros;refine Wdc (tZ (x*v) (y*u) om om) ?_;exact Z2
theorem qW (xs:List Nat) (h:xs.length≤1000000000):Pu Tryz.prog 96 [dg xs] (dg xs):=by
 refine Pi Tryz.func96 fun C=>?_
 exact Z1
theorem Iz (xs:List Nat) (h:xs.length≤1000000000) (hD:D xs):Pu Tryz.prog 237 [dg xs] (nat (val xs)):=by
 refine Pi Tryz.func237 fun C=>?_
 repeat(first|(refine A1 ⟨?_⟩;intros)|(refine Wcx (gI _ h hD) ?_)|(refine qK (gI _ h hD) ?_)|(refine iN (gI _ h hD) ?_)|(refine mG (gI _ h hD) ?_))
 exact E1
theorem OO (s:Bool) (xs:List Nat) (h:xs.length≤1000000000) (hD:D xs):Pu Tryz.prog 238 [raw s xs] (int (sv s (val xs))):=by
 have hl:=mv hD;refine Pi Tryz.func238 fun C=>?_
 repeat(first|(refine A1 ⟨?_⟩;intros)|(refine Wcx (Iz _ h hD) ?_)|(refine qK (Iz _ h hD) ?_)|(refine iN (Iz _ h hD) ?_)|(refine mG (Iz _ h hD) ?_)|(refine Wcx (dR _ _ om) ?_)|(refine qK (dR _ _ om) ?_)|(refine iN (dR _ _ om) ?_)|(refine mG (dR _ _ om) ?_))
 exact G1
theorem tf (z:Int) (h:il z≤1000000000):Pu Tryz.prog 95 [int z] (int z):=by
 have h':(dgs z.natAbs).length≤1000000000:=h;refine Pi Tryz.func95 fun C=>?_
 repeat(first|(refine A1 ⟨?_⟩;intros)|(refine Wcx (qW _ h') ?_)|(refine qK (qW _ h') ?_)|(refine iN (qW _ h') ?_)|(refine mG (qW _ h') ?_))
 exact G1
theorem qV (x:Rat) (h:ht x≤100000000):Pu Tryz.prog 63 [rq x] (q x):=by
 have h1:=eh x;have h2:=eP x;refine Pi Tryz.func63 fun C=>?_
 repeat(first|(refine A1 ⟨?_⟩;intros)|(refine Wcx (tf _ om) ?_)|(refine qK (tf _ om) ?_)|(refine iN (tf _ om) ?_)|(refine mG (tf _ om) ?_)|refine W4 (fU x) ⟨?_⟩|(refine Wcx (qW _ om) ?_)|(refine qK (qW _ om) ?_)|(refine iN (qW _ om) ?_)|(refine mG (qW _ om) ?_))
 exact G1
theorem Nh:rq 0=ag [lit (.bool false),nat 0,dg []]:=by rw [rq,show(0:Rat).num=0 from rfl,show(0:Rat).den=1 from rfl,pC];rfl
theorem Rz {r:RQ}{L:Nat}(h:r.ok L) (hL:L≤1000000):Pu Tryz.prog 188 [qr r] (rq r.v):=by
 obtain⟨h1,h2,h3,h4⟩:=h;have hl:=mv h2;have hi:=PF (s:=r.s) h1;by_cases h0:val r.d=0
 ·have hv:r.v=0:=by unfold RQ.v;rw [h0];exact sQ _
  rw [hv,Nh];have hn:=Iz r.d om h2;rw [h0]at hn;have hl0:(dgs 0).length=0:=by rw [cI];rfl
  refine Pi Tryz.func188 fun C=>?_
  refine D1 hn ⟨?_⟩;intros;refine db (bO (RV.cellA rfl cN rfl rfl) (Le.ag ⟨Le.refl _,?_,gC,trivial⟩));rw [show nat 0=dg []from by show dg (dgs 0)=_;rw [cI]];exact gC
 ·have hp:=eW h0;refine Pi Tryz.func188 fun C=>?_
  repeat(first|(refine A1 ⟨?_⟩;intros)|refine W4 (Iz r.d om h2) ⟨?_⟩|(refine Wcx (OO _ _ om h1) ?_)|(refine qK (OO _ _ om h1) ?_)|(refine iN (OO _ _ om h1) ?_)|(refine mG (OO _ _ om h1) ?_)|(refine Wcx (ml _ _ om om h0) ?_)|(refine qK (ml _ _ om om h0) ?_)|(refine iN (ml _ _ om om h0) ?_)|(refine mG (ml _ _ om om h0) ?_))
  exact G1
abbrev rp (x y:Rat):SV:=ag [lit (.bool (decide (x.num<0))),nat x.num.natAbs,dg (pD x.den),lit (.bool (decide (y.num<0))),nat y.num.natAbs,dg (pD y.den)]
theorem El (x y:Rat) (hx:ht x≤100000000) (hy:ht y≤100000000):Pu Tryz.prog 33 [rp x y] (pq x y):=by
 refine Pi Tryz.func33 fun C=>?_
 repeat(first|(refine A1 ⟨?_⟩;intros)|(refine Wcx (qV _ hx) ?_)|(refine qK (qV _ hx) ?_)|(refine iN (qV _ hx) ?_)|(refine mG (qV _ hx) ?_)|(refine Wcx (qV _ hy) ?_)|(refine qK (qV _ hy) ?_)|(refine iN (qV _ hy) ?_)|(refine mG (qV _ hy) ?_))
 exact G1
theorem RA {a b:RQ}{L:Nat}(ha:a.ok L) (hb:b.ok L) (hL:L≤1000000):Pu Tryz.prog 138 [pr a b] (rp a.v b.v):=by
 refine Pi Tryz.func138 fun C=>?_
 exact X2 (Rz ha hL) (Rz hb hL)
theorem tM (a b:Int) (ha : -9223372036854775808≤a) (ha':a≤9223372036854775807) (hb : -9223372036854775808≤b) (hb':b≤9223372036854775807):Pu Tryz.prog 62 [lit (.int .i64 a),lit (.int .i64 b)] (rp (a:Rat) (b:Rat)):=by
 refine Pi Tryz.func62 fun C=>?_
 exact X2 (vF a ha ha') (vF b hb hb')
theorem qx (x y k u v:Rat) (hx:ht x≤1000000) (hy:ht y≤1000000) (hk:ht k≤1000000) (hu:ht u≤1000000) (hv:ht v≤1000000):Pu Tryz.prog 34 [rp x y,rq k,rp u v] (rp (x+k*u) (y+k*v)):=by
 have h1:=bF k u;have h2:=bF k v;refine Pi Tryz.func34 fun C=>?_
 refine D4 (dI k u om om) (jL x (k*u) om om) (dI k v om om) (jL y (k*v) om om) ⟨?_⟩;intros;exact G1
theorem lV:ht 1=1:=by
 unfold ht;rw [show(1:Rat).num=1 from rfl,show(1:Rat).den=1 from rfl];unfold il;rw [show(1:Int).natAbs=1 from rfl,qF];rfl
theorem u7:Pu Tryz.prog 56 [lit (.int .i64 1)] (rq 1):=vF 1 om om
def RQ.short (n:Nat) (r:RQ):Prop:=r.n.length≤n∧r.d.length≤n
instance (n:Nat) (r:RQ):Decidable (r.short n):=by unfold RQ.short;infer_instance
theorem jh {α:Type}{l:List α}{k:Nat}{a:α}(h:l[k]? = some a):l.take (k+1)=l.take k++[a]:=by
 obtain⟨h1,h2⟩:=bC.1 h;rw [t8 h1,h2]
abbrev vI (p:RQ×RQ):List SV:=[lit (.bool p.1.s),dg p.1.n,dg p.1.d,lit (.bool p.2.s),dg p.2.n,dg p.2.d]
theorem xZ (p:RQ×RQ):(vI p).length=6:=rfl
theorem kw:ht 0=1:=by
 unfold ht il;rw [show(0:Rat).num=0 from rfl,show(0:Rat).den=1 from rfl,show(0:Int).natAbs=0 from rfl,cI,qF];rfl
theorem uI (z:Int) (h:z.natAbs<4294967296):ht (z:Rat)≤1:=by
 unfold ht;rw [ew,jC,qF];have:il z≤1:=dU (k:=1) (by simpa using h);simp;omega
theorem O9 {x:Rat}(h:¬dW x):x.num≠0:=fun e=>h (by
 have hx:x=0:=gc.1 e;subst hx;unfold dW;rw [show(0:Rat).num=0 from rfl,show(0:Rat).den=1 from rfl];omega)
theorem rG (x:Rat):Pu Tryz.prog 145 [fr x] (lit (.bool (decide (x.num=0)))):=by
 by_cases h:dW x
 ·rw [ko h];by_cases h0:x.num=0
  ·rw [a9 h0,h0];refine Pi Tryz.func145 fun C=>?_
   exact Z1
  ·rw [ab h0];refine Pi Tryz.func145 fun C=>?_
   exact Z1
 ·rw [sw h,ab (O9 h)];refine Pi Tryz.func145 fun C=>?_
  exact Z1
theorem Fj (x:Rat):mkRat (sv (decide (x.num<0)) x.den) x.num.natAbs=x⁻¹:=by
 rw [Rat.inv_def];by_cases h:x.num<0
 ·rw [a9 h];have e:x.num = -((x.num.natAbs:Nat):Int):=by omega
  conv=>rhs;rw [e,Rat.divInt_neg',Rat.divInt_ofNat]
  rfl
 ·rw [ab h];have e:x.num=((x.num.natAbs:Nat):Int):=by omega
  conv=>rhs;rw [e,Rat.divInt_ofNat]
  rfl
theorem yz (x:Rat):ht x⁻¹≤ht x+1:=by
 have h:=Av (sv (decide (x.num<0)) x.den) x.num.natAbs;rw [Fj]at h;have h1:=eh x;have h2:=eP x;have h3:il (sv (decide (x.num<0)) x.den)=(dgs x.den).length:=by unfold il;rw [kY]
 have h4:il x.num=(dgs x.num.natAbs).length:=rfl;omega
theorem Ly (x:Rat) (h:ht x≤10000000):Pu Tryz.prog 213 [fr x] (fr x⁻¹):=by
 have hn:=Rat.num_inv x;have hd:=Rat.den_inv x;have hp:=x.den_pos;by_cases hs:dW x
 ·have hsm:dW x⁻¹:=by
   unfold dW at *;rw [hn,hd,fq];refine⟨?_,by split <;> omega⟩;have:x.num.sign.natAbs≤1:=by rcases iw x.num 0 with h|h|h <;> simp [gg,fu,h]
   have h2:=aT ((x.den:Int).natAbs) this;rw [aY,im]at h2;have:=hs.2;rw [im];omega
  rw [ko hs,ko hsm,hn,hd];unfold dW at hs;rcases iw x.num 0 with h0|h0|h0
  ·rw [gg h0,if_neg om];refine Pi Tryz.func213 fun C=>?_
   refine A2 ⟨?_⟩;intros;refine db (bO (RV.cellA rfl cN rfl rfl) (Le.ag ⟨Le.int om,Le.int om,Le.refl _,trivial⟩))
  ·rw [h0];refine Pi Tryz.func213 fun C=>?_
   refine A2 ⟨?_⟩;intros;refine db (bO (RV.cellA rfl cN rfl rfl) (Le.ag ⟨Le.int (by simp),Le.int (by simp),Le.refl _,trivial⟩))
  ·rw [fu h0,if_neg om];refine Pi Tryz.func213 fun C=>?_
   refine A2 ⟨?_⟩;intros;refine db (bO (RV.cellA rfl cN rfl rfl) (Le.ag ⟨Le.int om,Le.int om,Le.refl _,trivial⟩))
 ·have h1:=eh x;have h2:=eP x;have h4:il x.num=(dgs x.num.natAbs).length:=rfl;have hr:=pd (decide (x.num<0)) (dgs x.den) (dgs x.num.natAbs) om om (cE _) (cE _);rw [aK,aK,Fj]at hr;rw [sw hs];refine Pi Tryz.func213 fun C=>?_
  refine D1 hr ⟨?_⟩;intros;refine db (bO (RV.cellA rfl (by first|exact Ms|exact Mc Ms) rfl rfl) Lr)
theorem Cx (n:Int) (d:Nat) (h0 : -9223372036854775808≤n) (h1:n≤9223372036854775807) (hd0:d≠0) (hd:d≤9223372036854775807):Pu Tryz.prog 66 [lit (.int .i64 n),lit (.int .i64 d)] (rq (mkRat n d)):=by
 have hn:il n≤2:=dU (k:=2) (by
  simpa using (show n.natAbs<18446744073709551616 by omega))
 have hdl:=dU (n:=d) (k:=2) (by simpa using (show d<18446744073709551616 by omega));refine Pi Tryz.func66 fun C=>?_
 refine D3 (Gi n h0 h1) (mI d om) (ml n d om om hd0) ⟨?_⟩;intros;exact G1
theorem Ny (x y:Rat):mkRat (x.num*sv (decide (y.num<0)) y.den) (x.den*y.num.natAbs)=x/y:=by
 rw [iU,←Fj];conv=>rhs;rw [←io x]
 rw [lA]
theorem pa (x y:Rat) (hx:ht x≤3000000) (hy:ht y≤3000000) (h0:y.num≠0):Pu Tryz.prog 176 [rq x,rq y] (rq (x/y)):=by
 have n1:=eh x;have n2:=eh y;have d1:=eP x;have d2:=eP y;have e2:il y.num=(dgs y.num.natAbs).length:=rfl;have m1:=oS x.num (sv (decide (y.num<0)) y.den);have e1:il (sv (decide (y.num<0)) y.den)=(dgs y.den).length:=by unfold il;rw [kY]
 have m4:=eV x.den y.num.natAbs;have mi:=ua x.num (sv (decide (y.num<0)) y.den) (show il x.num≤100000000 by omega) (show il _≤100000000 by omega);have fr:=ml (x.num*sv (decide (y.num<0)) y.den) (x.den*y.num.natAbs) om om (iu x.den_nz om);rw [Ny]at fr;refine Pi Tryz.func176 fun C=>?_
 repeat(first|(refine A1 ⟨?_⟩;intros)|(refine Wcx (fU _) ?_)|(refine qK (fU _) ?_)|(refine iN (fU _) ?_)|(refine mG (fU _) ?_)|(refine Wcx (dR _ _ om) ?_)|(refine qK (dR _ _ om) ?_)|(refine iN (dR _ _ om) ?_)|(refine mG (dR _ _ om) ?_)|refine W4 mi ⟨?_⟩|(refine Wcx (j7 _ _ om om) ?_)|(refine qK (j7 _ _ om om) ?_)|(refine iN (j7 _ _ om om) ?_)|(refine mG (j7 _ _ om om) ?_)|refine W4 fr ⟨?_⟩)
 exact G1
def kg (x y:Rat):Rat:=mkRat (Nat.gcd (x.num.natAbs*y.den) (y.num.natAbs*x.den):Nat) (x.den*y.den)
theorem DZ {x:Rat}{p:Int}{d:Nat}(hd:d≠0) (h:x=mkRat p d):x.num*d=p*x.den:=by
 have h1:=io x;rw [←h1]at h;conv at h=>lhs;rw [h1]
 have:=(Rat.mkRat_eq_iff (n₁:=x.num) (n₂:=p) x.den_nz hd).1 (by rw [io];exact h);rw [this]
theorem Ba {x y:Rat}{p q:Int}{d:Nat}(hd:d≠0) (hx:x=mkRat p d) (hy:y=mkRat q d):kg x y=mkRat (Nat.gcd p.natAbs q.natAbs:Nat) d:=by
 have cx:=congrArg Int.natAbs (DZ hd hx);have cy:=congrArg Int.natAbs (DZ hd hy);rw [fq,fq,im,im]at cx cy;unfold kg;rw [Rat.mkRat_eq_iff (iu x.den_nz y.den_nz) hd]
 have:Nat.gcd (x.num.natAbs*y.den) (y.num.natAbs*x.den)*d=Nat.gcd p.natAbs q.natAbs*(x.den*y.den):=by
  rw [←Nat.gcd_mul_right,←Nat.gcd_mul_right];congr 1
  ·rw [iV,cx,aM]
  ·rw [iV,cy,aM,aI y.den]
 exact_mod_cast this
theorem Mf (x y:Rat):∃(p q:Int) (d:Nat),d≠0∧x=mkRat p d∧y=mkRat q d:=by
 refine⟨x.num*y.den,y.num*x.den,x.den*y.den,iu x.den_nz y.den_nz,?_,?_⟩
 ·rw [sO y.den_nz,io]
 ·rw [aI x.den,sO x.den_nz,io]
theorem CF (t x y:Rat) (ht:0<t):kg (t*x) (t*y)=t*kg x y:=by
 obtain⟨p,q,d,hd,hx,hy⟩:=Mf x y
 have hn:0<t.num:=by
  have h0:=pR.2 (f6 ht);have h1:t.num≠0:=fun e=>by rw [gc.1 e]at ht;exact absurd ht (by decide)
  omega
 have e:t=mkRat t.num t.den:=(io t).symm;have hx':t*x=mkRat (t.num*p) (t.den*d):=by conv=>lhs;rw [e,hx,lA]
 have hy':t*y=mkRat (t.num*q) (t.den*d):=by conv=>lhs;rw [e,hy,lA]
 rw [Ba (iu t.den_nz hd) hx' hy',Ba hd hx hy,fq,fq,nC];conv=>rhs;rw [e,lA]
 congr 1
 rw [cW,nJ (Int.le_of_lt hn)]
theorem CE (x y:Rat):0≤kg x y:=by
 unfold kg;rw [←pR,Rat.num_mkRat];rw [if_neg (iu x.den_nz y.den_nz)];exact Int.ediv_nonneg (Int.natCast_nonneg _) (Int.natCast_nonneg _)
theorem xP (x y:Rat):∃k l:Int,x=k*kg x y∧y=l*kg x y:=by
 obtain⟨p,q,d,hd,hx,hy⟩:=Mf x y;rw [Ba hd hx hy];have h1:(Nat.gcd p.natAbs q.natAbs:Int)∣p:=Int.ofNat_dvd_left.2 (lB _ _);have h2:(Nat.gcd p.natAbs q.natAbs:Int)∣q:=Int.ofNat_dvd_left.2 (nH _ _);obtain⟨k,hk⟩:=h1;obtain⟨l,hl⟩:=h2
 have key:∀(z k:Int),z=(Nat.gcd p.natAbs q.natAbs:Int)*k→mkRat z d=(k:Rat)*mkRat (Nat.gcd p.natAbs q.natAbs:Nat) d:=fun z k h=>by
  have e:(k:Rat)=mkRat k 1:=(jD k).symm;rw [e,lA,aY,h,Int.mul_comm]
 exact⟨k,l,by rw [hx];exact key p k hk,by rw [hy];exact key q l hl⟩
theorem zZ {x y:Rat}(h:kg x y=0):x=0∧y=0:=by
 obtain⟨k,l,h1,h2⟩:=xP x y;rw [h,nB]at h1 h2;exact⟨h1,h2⟩
theorem lP (a b:Int):kg a b=((Nat.gcd a.natAbs b.natAbs:Nat):Rat):=by
 unfold kg;rw [ew,ew,jC,jC,cw,cw,cw,jD];rfl
structure Li where
 a:Int
 b:Int
 c:Int
def Li.ok (l:Li):Prop:=Nat.gcd (Nat.gcd l.a.natAbs l.b.natAbs) l.c.natAbs=1∧(l.a≠0∨l.b≠0)
def g3 (a b c:Rat):Rat:=kg (kg a b) c
def jw (a b c:Rat):Li:=⟨(a*(g3 a b c)⁻¹).num,(b*(g3 a b c)⁻¹).num,(c*(g3 a b c)⁻¹).num⟩
theorem LQ (t a b c:Rat) (ht:0<t):g3 (t*a) (t*b) (t*c)=t*g3 a b c:=by unfold g3;rw [CF t a b ht,CF t _ c ht]
theorem Fw {a b c:Rat}(h:a≠0∨b≠0):0<g3 a b c:=by
 have h0:=CE (kg a b) c;rcases Rat.le_iff_lt_or_eq.1 h0 with h1|h1
 ·exact h1
 ·exfalso;have h2:=(zZ h1.symm).1;have h3:=zZ h2;rcases h with h|h
  ·exact h h3.1
  ·exact h h3.2
theorem O8 {x:Rat}(h:x.den=1):(x.num:Rat)=x:=by
 apply Rat.ext <;> simp [h]
theorem Be {a b c:Rat}(h:a≠0∨b≠0):a*(g3 a b c)⁻¹=((jw a b c).a:Rat)∧b*(g3 a b c)⁻¹=((jw a b c).b:Rat)∧c*(g3 a b c)⁻¹=((jw a b c).c:Rat):=by
 have hg:=Fw (c:=c) h;have hne:g3 a b c≠0:=fun e=>by rw [e]at hg;exact absurd hg (by decide)
 obtain⟨k,l,h1,h2⟩:=xP a b;obtain⟨u,v,h3,h4⟩:=xP (kg a b) c
 have ea:a*(g3 a b c)⁻¹=((k*u:Int):Rat):=by
  have:a=((k*u:Int):Rat)*g3 a b c:=by rw [iS,ik];unfold g3;rw [←h3];exact h1
  generalize g3 a b c=g at *;rw [this,ik,pQ _ hne,pP]
 have eb:b*(g3 a b c)⁻¹=((l*u:Int):Rat):=by
  have:b=((l*u:Int):Rat)*g3 a b c:=by rw [iS,ik];unfold g3;rw [←h3];exact h2
  generalize g3 a b c=g at *;rw [this,ik,pQ _ hne,pP]
 have ec:c*(g3 a b c)⁻¹=((v:Int):Rat):=by
  have:c=((v:Int):Rat)*g3 a b c:=h4;generalize g3 a b c=g at *;rw [this,ik,pQ _ hne,pP]
 unfold jw;simp only [];rw [ea,eb,ec,ew,ew,ew];exact⟨rfl,rfl,rfl⟩
theorem wJ {a b c:Rat}(h:a≠0∨b≠0):(jw a b c).ok:=by
 have hg:=Fw (c:=c) h;have hne:g3 a b c≠0:=fun e=>by rw [e]at hg;exact absurd hg (by decide)
 obtain⟨e1,e2,e3⟩:=Be (c:=c) h;have hi:0<(g3 a b c)⁻¹:=Rat.inv_pos.2 hg;have h1:=LQ (g3 a b c)⁻¹ a b c hi;rw [Rat.inv_mul_cancel _ hne,eK _ a,eK _ b,eK _ c,e1,e2,e3]at h1;unfold g3 at h1;rw [lP,show((Nat.gcd (jw a b c).a.natAbs (jw a b c).b.natAbs:Nat):Rat)=(((Nat.gcd (jw a b c).a.natAbs (jw a b c).b.natAbs:Nat):Int):Rat)from rfl,lP,im]at h1;refine⟨by exact_mod_cast h1,?_⟩;rcases h with h|h
 ·left;intro e;rw [e]at e1;rcases dN.1 (e1.trans rfl)with h5|h5
  ·exact h h5
  ·rw [h5]at hi;exact absurd hi (by decide)
 ·right;intro e;rw [e]at e2;rcases dN.1 (e2.trans rfl)with h5|h5
  ·exact h h5
  ·rw [h5]at hi;exact absurd hi (by decide)
theorem xV (t a b c:Rat) (ht:0<t):jw (t*a) (t*b) (t*c)=jw a b c:=by
 have hne:t≠0:=fun e=>by rw [e]at ht;exact absurd ht (by decide)
 have key:∀x:Rat,t*x*(t*g3 a b c)⁻¹=x*(g3 a b c)⁻¹:=fun x=>by
  rw [Rat.inv_mul_rev,eK t x,ik,←ik t,eK t,ik (g3 a b c)⁻¹,pQ _ hne,pP]
 unfold jw;rw [LQ t a b c ht,key,key,key]
def Li.neg (l:Li):Li:=⟨-l.a,-l.b,-l.c⟩
theorem OT (a b c:Int):g3 a b c=((Nat.gcd (Nat.gcd a.natAbs b.natAbs) c.natAbs:Nat):Rat):=by
 unfold g3;rw [lP,show((Nat.gcd a.natAbs b.natAbs:Nat):Rat)=(((Nat.gcd a.natAbs b.natAbs:Nat):Int):Rat)from rfl,lP,im]
theorem r5 {a:Int}{g:Nat}(hg:g≠0) (h:g∣a.natAbs):((a:Rat)*((g:Nat):Rat)⁻¹).num=sv (decide (a<0)) (a.natAbs/g):=by
 obtain⟨k,hk⟩:=h;have hgr:((g:Nat):Rat)≠0:=by exact_mod_cast hg
 have ek:a.natAbs/g=k:=by rw [hk,xj _ (f7 hg)]
 have ea:a=(g:Int)*sv (decide (a<0)) k:=by
  have h0:=iH a;rw [hk]at h0;conv=>lhs;rw [←h0]
  cases decide (a<0)
  ·simp [sv]
  ·simp [sv,q7]
 rw [ek];generalize sv (decide (a<0)) k=z at *
 have:(a:Rat)*((g:Nat):Rat)⁻¹=(z:Rat):=by
  rw [ea,iS,eK,←ik];rw [show((g:Int):Rat)=((g:Nat):Rat)from rfl,Rat.inv_mul_cancel _ hgr,Rat.one_mul]
 rw [this,ew]
theorem RJ {a b:Int}(c:Int) (h:a≠0∨b≠0):Nat.gcd (Nat.gcd a.natAbs b.natAbs) c.natAbs≠0:=by
 intro e;have h1:=(nI.1 e).1;have h2:=nI.1 h1;omega
theorem A6 {a b:Int}(c:Int) (h:a≠0∨b≠0):jw a b c=⟨sv (decide (a<0)) (a.natAbs/Nat.gcd (Nat.gcd a.natAbs b.natAbs) c.natAbs),sv (decide (b<0)) (b.natAbs/Nat.gcd (Nat.gcd a.natAbs b.natAbs) c.natAbs),
  sv (decide (c<0)) (c.natAbs/Nat.gcd (Nat.gcd a.natAbs b.natAbs) c.natAbs)⟩:=by
 have hg:=RJ c h;have d1:Nat.gcd (Nat.gcd a.natAbs b.natAbs) c.natAbs∣a.natAbs:=Nat.dvd_trans (lB _ _) (lB _ _);have d2:Nat.gcd (Nat.gcd a.natAbs b.natAbs) c.natAbs∣b.natAbs:=Nat.dvd_trans (lB _ _) (nH _ _);have d3:Nat.gcd (Nat.gcd a.natAbs b.natAbs) c.natAbs∣c.natAbs:=nH _ _;unfold jw;rw [OT];generalize Nat.gcd (Nat.gcd a.natAbs b.natAbs) c.natAbs=g at *;rw [r5 hg d1,r5 hg d2,r5 hg d3]
theorem xW {a b:Int}(c:Int) (h:a≠0∨b≠0):(jw a b c).a.natAbs≤a.natAbs∧(jw a b c).b.natAbs≤b.natAbs∧(jw a b c).c.natAbs≤c.natAbs:=by
 rw [A6 c h];simp only [kY];exact⟨dw _ _,dw _ _,dw _ _⟩
def thr (x y u v:Rat):Li:=jw (-(v-y)) (u-x) (-(-(v-y)*x+(u-x)*y))
theorem Li.n_pos {l:Li}(hl:l.ok):(0:Rat)<l.b*l.b + -l.a * -l.a:=by
 have h:0<l.b*l.b + -l.a * -l.a:=by
  have h1:0≤l.b*l.b:=by rcases Int.le_total 0 l.b with h|h;exact sY h h;exact xi h h
  have h2:0≤-l.a * -l.a:=by rcases Int.le_total 0 (-l.a)with h|h;exact sY h h;exact xi h h
  rcases hl.2 with h|h
  ·have : -l.a * -l.a≠0:=fun e=>by rcases Int.mul_eq_zero.1 e with e|e <;> omega
   omega
  ·have:l.b*l.b≠0:=fun e=>by rcases Int.mul_eq_zero.1 e with e|e <;> omega
   omega
 exact_mod_cast h
end Go.Ab
