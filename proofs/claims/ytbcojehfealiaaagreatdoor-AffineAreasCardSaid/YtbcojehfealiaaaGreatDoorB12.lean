/- Texts laid one behind the other: Law26A, RefH, AffB, LnM, LnA, LnB. -/
import Derived.Test.YtbcojehfealiaaaGreatDoorB11
set_option linter.all false
set_option maxHeartbeats 16000000
namespace Go.Ab
open Go.Proofs
variable [Base]
theorem yr:bz 0:=by unfold bz;rw [show(0:Rat).num=0 from rfl,show(0:Rat).den=1 from rfl];omega
theorem Au:r0 0=0:=wP yr
theorem As:r1 0=0:=(if_pos yr).trans (by rw [show(0:Rat).den=1 from rfl];rfl)
theorem Ar:r2 0=lit (.pointer none):=if_pos yr
theorem fw:ht 0=1:=by
 unfold ht il;rw [show(0:Rat).num=0 from rfl,show(0:Rat).den=1 from rfl,show(0:Int).natAbs=0 from rfl,aT,kt];rfl
theorem Ei (x y:Rat) (hx:ht x≤100000) (hy:ht y≤100000):Pu Tryz.prog 59 [pq x y] (pp x y):=by
 have:=Aw (RQ.of_ok hx) (RQ.of_ok hy) om;rwa [RQ.of_v,RQ.of_v]at this
theorem Lc:Pu Tryz.prog 73 [lit (.int .i64 1)] (fr 1):=lP 1 om om
theorem qI (x y:Rat) (hx:ht x≤10000) (hy:ht y≤10000):Pu Tryz.prog 31 [pq x y] (mq ⟨1,0,x,0,1,y⟩):=by
 have h0:=fw;have h1:=fD;have hw:=Dc (m:=⟨1,0,x,0,1,y⟩) (L:=10000) ⟨by simp only;omega,by simp only;omega,hx,by simp only;omega,by simp only;omega,hy⟩ om;simp only [mf,Au,As,Ar]at hw;refine Pi Tryz.func31 fun C=>?_
 repeat(first|(refine A1 ⟨?_⟩;intros)|refine W4 Lc ⟨?_⟩|refine W4 (Ei x y om om) ⟨?_⟩|refine W4 hw ⟨?_⟩)
 exact G1
theorem LO (x:Rat) (h:ht x≤100000):Pu Tryz.prog 18 [q x] (rq x):=by
 have:=H9 (RQ.of_ok h) om;rwa [RQ.of_v]at this
def M6.of (m:M6 Rat):M6 RQ:=⟨RQ.of m.a,RQ.of m.b,RQ.of m.c,RQ.of m.d,RQ.of m.e,RQ.of m.f⟩
theorem M6.of_v (m:M6 Rat):m.of.v=m:=by
 unfold M6.of M6.v;simp only [RQ.of_v]
theorem M6.of_ok {m:M6 Rat}{L:Nat}(h:m.le L):m.of.ok L:=⟨RQ.of_ok h.a,RQ.of_ok h.b,RQ.of_ok h.c,RQ.of_ok h.d,RQ.of_ok h.e,RQ.of_ok h.f⟩
theorem KL {m:M6 Rat}(h:m.le 10000):Pu Tryz.prog 33 [mq m] (q (m.a*m.e-m.d*m.b)):=by
 have:=J4 (M6.of_ok h) om;rwa [M6.of_v]at this
theorem Gr {m:M6 Rat}(h:m.le 10000){x y:Rat}(hx:ht x≤10000) (hy:ht y≤10000):Pu Tryz.prog 21 [mq m,pq x y] (pq (m.a*x+m.b*y+m.c) (m.d*x+m.e*y+m.f)):=by
 have:=Di (M6.of_ok h) om (RQ.of_ok hx) (RQ.of_ok hy);rwa [M6.of_v,RQ.of_v,RQ.of_v]at this
theorem eM (z:Int) (h:z.natAbs<4294967296):ht (z:Rat)≤1:=by
 unfold ht;rw [Rat.num_intCast,Rat.den_intCast,kt];have:il z≤1:=bC (k:=1) (by simpa using h);simp;omega
theorem vD:Pu Tryz.prog 9 [] (lit (.bool true)):=by
 have h0:=fw;have h1:=fD;have h2:ht 2≤1:=eM 2 om;have h3:ht 3≤1:=eM 3 om;have h4:ht 4≤1:=eM 4 om;have a1:Pu Tryz.prog 32 [lit (.int .i64 2),lit (.int .i64 3)] (rp 2 3):=kC 2 3 om om om om;have a2:Pu Tryz.prog 32 [lit (.int .i64 1),lit (.int .i64 1)] (rp 1 1):=kC 1 1 om om om om;have a3:Pu Tryz.prog 32 [lit (.int .i64 3),lit (.int .i64 4)] (rp 3 4):=kC 3 4 om om om om;have b1:=uD 2 3 om om;have b2:=uD 1 1 om om;have b3:=uD 3 4 om om;have hm:(⟨1,0,2,0,1,3⟩:M6 Rat).le 10000:=⟨by simp only;omega,by simp only;omega,by simp only;omega,by simp only;omega,by simp only;omega,by simp only;omega⟩
 have c1:=qI 2 3 om om;have d1:=KL hm;simp only [show(1:Rat)*1-0*0=1 from by decide +kernel]at d1;have d2:=Gr hm (x:=1) (y:=1) om om;simp only [show(1:Rat)*1+0*1+2=3 from by decide +kernel,show(0:Rat)*1+1*1+3=4 from by decide +kernel]at d2;have e1:=LO 1 om;have f1:=gT 1 1 om om;rw [show((1:Rat)-1).num.sign=0 from by decide +kernel]at f1;have g1:=wA 3 4 om om;refine Pi Tryz.func9 fun C=>?_
 repeat(first|(refine A1 ⟨?_⟩;intros)|refine W4 a1 ⟨?_⟩|refine W4 a2 ⟨?_⟩|refine W4 a3 ⟨?_⟩|refine W4 b1 ⟨?_⟩|refine W4 b2 ⟨?_⟩|refine W4 b3 ⟨?_⟩|refine W4 c1 ⟨?_⟩|refine W4 d1 ⟨?_⟩|refine W4 d2 ⟨?_⟩|refine W4 e1 ⟨?_⟩|refine W4 mn ⟨?_⟩|refine W4 f1 ⟨?_⟩|refine W4 g1 ⟨?_⟩)
 exact E1
theorem wE (n:Int) (d:Nat) (h0 : -9223372036854775808≤n) (h1:n≤9223372036854775807) (hd0:d≠0) (hd:d≤9223372036854775807):Pu Tryz.prog 71 [lit (.int .i64 n),lit (.int .i64 d)] (rq (mkRat n d)):=by
 have hn:il n≤2:=bC (k:=2) (by
  simpa using (show n.natAbs<18446744073709551616 by omega))
 have hdl:=bC (n:=d) (k:=2) (by simpa using (show d<18446744073709551616 by omega));refine Pi Tryz.func71 fun C=>?_
 repeat(first|(refine A1 ⟨?_⟩;intros)|refine W4 (Al n h0 h1) ⟨?_⟩|refine W4 (gW d om) ⟨?_⟩|refine W4 (gG n d om om hd0) ⟨?_⟩)
 exact G1
theorem Hr (x y:Rat):mkRat (x.num*sv (decide (y.num<0)) y.den) (x.den*y.num.natAbs)=x/y:=by
 rw [Rat.div_def,←zx];conv=>rhs;rw [←Rat.mkRat_self x]
 rw [Rat.mkRat_mul_mkRat]
theorem jA (x y:Rat) (hx:ht x≤3000000) (hy:ht y≤3000000) (h0:y.num≠0):Pu Tryz.prog 124 [rq x,rq y] (rq (x/y)):=by
 have n1:=bQ x;have n2:=bQ y;have d1:=cB x;have d2:=cB y;have e2:il y.num=(dgs y.num.natAbs).length:=rfl;have m1:=bG x.num (sv (decide (y.num<0)) y.den);have e1:il (sv (decide (y.num<0)) y.den)=(dgs y.den).length:=by unfold il;rw [gb]
 have m4:=bW x.den y.num.natAbs;have mi:=nP x.num (sv (decide (y.num<0)) y.den) (show il x.num≤100000000 by omega) (show il _≤100000000 by omega);have fr:=gG (x.num*sv (decide (y.num<0)) y.den) (x.den*y.num.natAbs) om om (Nat.mul_ne_zero x.den_nz om);rw [Hr]at fr;refine Pi Tryz.func124 fun C=>?_
 repeat(first|(refine A1 ⟨?_⟩;intros)|(refine Wcx (cK _) ?_)|(refine gQ (cK _) ?_)|(refine dH (cK _) ?_)|(refine cZ (cK _) ?_)|(refine Wcx (bA _ _ om) ?_)|(refine gQ (bA _ _ om) ?_)|(refine dH (bA _ _ om) ?_)|(refine cZ (bA _ _ om) ?_)|refine W4 mi ⟨?_⟩|(refine Wcx (ej _ _ om om) ?_)|(refine gQ (ej _ _ om om) ?_)|(refine dH (ej _ _ om om) ?_)|(refine cZ (ej _ _ om om) ?_)|refine W4 fr ⟨?_⟩)
 exact G1
def M6.det (m:M6 Rat):Rat:=m.a*m.e-m.d*m.b
def M6.inv (m:M6 Rat):M6 Rat :=
 ⟨m.e*m.det⁻¹,-m.b*m.det⁻¹,-(m.e*m.det⁻¹*m.c + -m.b*m.det⁻¹*m.f),-m.d*m.det⁻¹,m.a*m.det⁻¹,-(-m.d*m.det⁻¹*m.c+m.a*m.det⁻¹*m.f)⟩
theorem M6.det_ht {m:M6 Rat}{L:Nat}(h:m.le L):ht m.det≤4*L+3:=by
 obtain⟨ha,hb,hc,hd,he,hf⟩:=h;have l1:=ae m.a m.e;have l2:=ae m.d m.b;have l3:=cI (m.a*m.e) (m.d*m.b);unfold M6.det;omega
theorem M6.inv_le {m:M6 Rat}{L:Nat}(h:m.le L):m.inv.le (14*L+20):=by
 have hd0:=M6.det_ht h;have hi:=kh m.det;obtain⟨ha,hb,hc,hd,he,hf⟩:=h
 have g:∀{x:Rat},ht x≤L→ht (x*m.det⁻¹)≤5*L+5:=fun {x} h1=>by
  have l1:=ae x m.det⁻¹;omega
 have nb:ht (-m.b)≤L:=by rw [ck];exact hb
 have nd:ht (-m.d)≤L:=by rw [ck];exact hd
 have g2:∀{x y:Rat},ht x≤L→ht y≤L→ht (-(x*m.det⁻¹*m.c+y*m.det⁻¹*m.f))≤14*L+20:=fun {x y} h1 h2=>by
  have k1:=g h1;have k2:=g h2;have l1:=ae (x*m.det⁻¹) m.c;have l2:=ae (y*m.det⁻¹) m.f;have l3:=aI (x*m.det⁻¹*m.c) (y*m.det⁻¹*m.f);rw [ck];omega
 exact⟨Nat.le_trans (g he) om,Nat.le_trans (g nb) om,g2 he nb,Nat.le_trans (g nd) om,Nat.le_trans (g ha) om,g2 nd ha⟩
theorem Ju {m:M6 Rat}(h:m.le 100000):Pu Tryz.prog 57 [mq m] (mf m):=by
 have:=zW (M6.of_ok h) om;rwa [M6.of_v]at this
theorem Hj (x y:Rat) (hx:ht x≤1000000) (hy:ht y≤1000000):Pu Tryz.prog 189 [pp x y] (pp (-x) (-y)):=by
 refine Pi Tryz.func189 fun C=>?_
 exact X2 (fK x om) (fK y om)
theorem zw {m:M6 Rat}{L:Nat}(h:m.le L) (hL:L≤1000):Pu Tryz.prog 146 [mf m] (mf m.inv):=by
 have hd0:=M6.det_ht h;have hi:=kh m.det;have hdet:=qA h om;have hin:=vE (m.a*m.e-m.d*m.b) (by unfold M6.det at hd0;omega);obtain⟨ha,hb,hc,hd,he,hf⟩:=h;have nb:=ck m.b;have nd:=ck m.d;have s1:=eR m.e (-m.d) m.det⁻¹ om om om;have s2:=eR (-m.b) m.a m.det⁻¹ om om om;have l1:=ae m.e m.det⁻¹;have l2:=ae (-m.d) m.det⁻¹;have l3:=ae (-m.b) m.det⁻¹;have l4:=ae m.a m.det⁻¹;have h0:=fw;have v:=sE (m:=⟨m.e*m.det⁻¹,-m.b*m.det⁻¹,0,-m.d*m.det⁻¹,m.a*m.det⁻¹,0⟩) (L:=10000) ⟨by simp only;omega,by simp only;omega,by simp only;omega,by simp only;omega,by simp only;omega,by simp only;omega⟩ om m.c m.f om om;have k1:=ae (m.e*m.det⁻¹) m.c;have k2:=ae (-m.b*m.det⁻¹) m.f;have k3:=ae (-m.d*m.det⁻¹) m.c;have k4:=ae (m.a*m.det⁻¹) m.f;have k5:=aI (m.e*m.det⁻¹*m.c) (-m.b*m.det⁻¹*m.f);have k6:=aI (-m.d*m.det⁻¹*m.c) (m.a*m.det⁻¹*m.f);have ng:=Hj (m.e*m.det⁻¹*m.c + -m.b*m.det⁻¹*m.f) (-m.d*m.det⁻¹*m.c+m.a*m.det⁻¹*m.f) om om;have n1:=fK m.d om;have n2:=fK m.b om;simp only [mf,Au,As,Ar]at v;rw [show m.a*m.e-m.d*m.b=m.det from rfl]at hdet hin;clear k1 k2 k3 k4 k5 k6 l1 l2 l3 l4 hd0 hi nb nd;refine Pi Tryz.func146 fun C=>?_
 repeat(first|(refine A1 ⟨?_⟩;intros)|refine W4 hdet ⟨?_⟩|refine W4 hin ⟨?_⟩|refine W4 n1 ⟨?_⟩|refine W4 s1 ⟨?_⟩|refine W4 n2 ⟨?_⟩|refine W4 s2 ⟨?_⟩|refine W4 v ⟨?_⟩|refine W4 ng ⟨?_⟩)
 exact G1
def ff (x y:Rat):Rat:=mkRat (Nat.gcd (x.num.natAbs*y.den) (y.num.natAbs*x.den):Nat) (x.den*y.den)
theorem xW {x:Rat}{p:Int}{d:Nat}(hd:d≠0) (h:x=mkRat p d):x.num*d=p*x.den:=by
 have h1:=Rat.mkRat_self x;rw [←h1]at h;conv at h=>lhs;rw [h1]
 have:=(Rat.mkRat_eq_iff (n₁:=x.num) (n₂:=p) x.den_nz hd).1 (by rw [Rat.mkRat_self];exact h);rw [this]
theorem uO {x y:Rat}{p q:Int}{d:Nat}(hd:d≠0) (hx:x=mkRat p d) (hy:y=mkRat q d):ff x y=mkRat (Nat.gcd p.natAbs q.natAbs:Nat) d:=by
 have cx:=congrArg Int.natAbs (xW hd hx);have cy:=congrArg Int.natAbs (xW hd hy);rw [Int.natAbs_mul,Int.natAbs_mul,Int.natAbs_natCast,Int.natAbs_natCast]at cx cy;unfold ff;rw [Rat.mkRat_eq_iff (Nat.mul_ne_zero x.den_nz y.den_nz) hd]
 have:Nat.gcd (x.num.natAbs*y.den) (y.num.natAbs*x.den)*d=Nat.gcd p.natAbs q.natAbs*(x.den*y.den):=by
  rw [←Nat.gcd_mul_right,←Nat.gcd_mul_right];congr 1
  ·rw [Nat.mul_right_comm,cx,Nat.mul_assoc]
  ·rw [Nat.mul_right_comm,cy,Nat.mul_assoc,Nat.mul_comm y.den]
 exact_mod_cast this
theorem FZ (x y:Rat):∃(p q:Int) (d:Nat),d≠0∧x=mkRat p d∧y=mkRat q d:=by
 refine⟨x.num*y.den,y.num*x.den,x.den*y.den,Nat.mul_ne_zero x.den_nz y.den_nz,?_,?_⟩
 ·rw [Rat.mkRat_mul_right y.den_nz,Rat.mkRat_self]
 ·rw [Nat.mul_comm x.den,Rat.mkRat_mul_right x.den_nz,Rat.mkRat_self]
theorem wL (t x y:Rat) (ht:0<t):ff (t*x) (t*y)=t*ff x y:=by
 obtain⟨p,q,d,hd,hx,hy⟩:=FZ x y
 have hn:0<t.num:=by
  have h0:=Rat.num_nonneg.2 (Rat.le_of_lt ht);have h1:t.num≠0:=fun e=>by rw [Rat.num_eq_zero.1 e]at ht;exact absurd ht (by decide)
  omega
 have e:t=mkRat t.num t.den:=(Rat.mkRat_self t).symm;have hx':t*x=mkRat (t.num*p) (t.den*d):=by conv=>lhs;rw [e,hx,Rat.mkRat_mul_mkRat]
 have hy':t*y=mkRat (t.num*q) (t.den*d):=by conv=>lhs;rw [e,hy,Rat.mkRat_mul_mkRat]
 rw [uO (Nat.mul_ne_zero t.den_nz hd) hx' hy',uO hd hx hy,Int.natAbs_mul,Int.natAbs_mul,Nat.gcd_mul_left];conv=>rhs;rw [e,Rat.mkRat_mul_mkRat]
 congr 1
 rw [Int.natCast_mul,Int.natAbs_of_nonneg (Int.le_of_lt hn)]
theorem wK (x y:Rat):0≤ff x y:=by
 unfold ff;rw [←Rat.num_nonneg,Rat.num_mkRat];rw [if_neg (Nat.mul_ne_zero x.den_nz y.den_nz)];exact Int.ediv_nonneg (Int.natCast_nonneg _) (Int.natCast_nonneg _)
theorem r7 (x y:Rat):∃k l:Int,x=k*ff x y∧y=l*ff x y:=by
 obtain⟨p,q,d,hd,hx,hy⟩:=FZ x y;rw [uO hd hx hy];have h1:(Nat.gcd p.natAbs q.natAbs:Int)∣p:=Int.ofNat_dvd_left.2 (Nat.gcd_dvd_left _ _);have h2:(Nat.gcd p.natAbs q.natAbs:Int)∣q:=Int.ofNat_dvd_left.2 (Nat.gcd_dvd_right _ _);obtain⟨k,hk⟩:=h1;obtain⟨l,hl⟩:=h2
 have key:∀(z k:Int),z=(Nat.gcd p.natAbs q.natAbs:Int)*k→mkRat z d=(k:Rat)*mkRat (Nat.gcd p.natAbs q.natAbs:Nat) d:=fun z k h=>by
  have e:(k:Rat)=mkRat k 1:=(Rat.mkRat_one k).symm;rw [e,Rat.mkRat_mul_mkRat,Nat.one_mul,h,Int.mul_comm]
 exact⟨k,l,by rw [hx];exact key p k hk,by rw [hy];exact key q l hl⟩
theorem tn {x y:Rat}(h:ff x y=0):x=0∧y=0:=by
 obtain⟨k,l,h1,h2⟩:=r7 x y;rw [h,Rat.mul_zero]at h1 h2;exact⟨h1,h2⟩
theorem eQ (a b:Int):ff a b=((Nat.gcd a.natAbs b.natAbs:Nat):Rat):=by
 unfold ff;rw [Rat.num_intCast,Rat.num_intCast,Rat.den_intCast,Rat.den_intCast,Nat.mul_one,Nat.mul_one,Nat.mul_one,Rat.mkRat_one];rfl
structure Li where
 a:Int
 b:Int
 c:Int
def Li.ok (l:Li):Prop:=Nat.gcd (Nat.gcd l.a.natAbs l.b.natAbs) l.c.natAbs=1∧(l.a≠0∨l.b≠0)
def g3 (a b c:Rat):Rat:=ff (ff a b) c
def dV (a b c:Rat):Li:=⟨(a*(g3 a b c)⁻¹).num,(b*(g3 a b c)⁻¹).num,(c*(g3 a b c)⁻¹).num⟩
theorem FF (t a b c:Rat) (ht:0<t):g3 (t*a) (t*b) (t*c)=t*g3 a b c:=by unfold g3;rw [wL t a b ht,wL t _ c ht]
theorem kT {a b c:Rat}(h:a≠0∨b≠0):0<g3 a b c:=by
 have h0:=wK (ff a b) c;rcases Rat.le_iff_lt_or_eq.1 h0 with h1|h1
 ·exact h1
 ·exfalso;have h2:=(tn h1.symm).1;have h3:=tn h2;rcases h with h|h
  ·exact h h3.1
  ·exact h h3.2
theorem I1 {x:Rat}(h:x.den=1):(x.num:Rat)=x:=by
 apply Rat.ext <;> simp [h]
theorem iS {a b c:Rat}(h:a≠0∨b≠0):a*(g3 a b c)⁻¹=((dV a b c).a:Rat)∧b*(g3 a b c)⁻¹=((dV a b c).b:Rat)∧c*(g3 a b c)⁻¹=((dV a b c).c:Rat):=by
 have hg:=kT (c:=c) h;have hne:g3 a b c≠0:=fun e=>by rw [e]at hg;exact absurd hg (by decide)
 obtain⟨k,l,h1,h2⟩:=r7 a b;obtain⟨u,v,h3,h4⟩:=r7 (ff a b) c
 have ea:a*(g3 a b c)⁻¹=((k*u:Int):Rat):=by
  have:a=((k*u:Int):Rat)*g3 a b c:=by rw [Rat.intCast_mul,Rat.mul_assoc];unfold g3;rw [←h3];exact h1
  generalize g3 a b c=g at *;rw [this,Rat.mul_assoc,Rat.mul_inv_cancel _ hne,Rat.mul_one]
 have eb:b*(g3 a b c)⁻¹=((l*u:Int):Rat):=by
  have:b=((l*u:Int):Rat)*g3 a b c:=by rw [Rat.intCast_mul,Rat.mul_assoc];unfold g3;rw [←h3];exact h2
  generalize g3 a b c=g at *;rw [this,Rat.mul_assoc,Rat.mul_inv_cancel _ hne,Rat.mul_one]
 have ec:c*(g3 a b c)⁻¹=((v:Int):Rat):=by
  have:c=((v:Int):Rat)*g3 a b c:=h4;generalize g3 a b c=g at *;rw [this,Rat.mul_assoc,Rat.mul_inv_cancel _ hne,Rat.mul_one]
 unfold dV;simp only [];rw [ea,eb,ec,Rat.num_intCast,Rat.num_intCast,Rat.num_intCast];exact⟨rfl,rfl,rfl⟩
theorem qg {a b c:Rat}(h:a≠0∨b≠0):(dV a b c).ok:=by
 have hg:=kT (c:=c) h;have hne:g3 a b c≠0:=fun e=>by rw [e]at hg;exact absurd hg (by decide)
 obtain⟨e1,e2,e3⟩:=iS (c:=c) h;have hi:0<(g3 a b c)⁻¹:=Rat.inv_pos.2 hg;have h1:=FF (g3 a b c)⁻¹ a b c hi;rw [Rat.inv_mul_cancel _ hne,Rat.mul_comm _ a,Rat.mul_comm _ b,Rat.mul_comm _ c,e1,e2,e3]at h1;unfold g3 at h1;rw [eQ,show((Nat.gcd (dV a b c).a.natAbs (dV a b c).b.natAbs:Nat):Rat)=(((Nat.gcd (dV a b c).a.natAbs (dV a b c).b.natAbs:Nat):Int):Rat)from rfl,eQ,Int.natAbs_natCast]at h1;refine⟨by exact_mod_cast h1,?_⟩;rcases h with h|h
 ·left;intro e;rw [e]at e1;rcases Rat.mul_eq_zero.1 (e1.trans rfl)with h5|h5
  ·exact h h5
  ·rw [h5]at hi;exact absurd hi (by decide)
 ·right;intro e;rw [e]at e2;rcases Rat.mul_eq_zero.1 (e2.trans rfl)with h5|h5
  ·exact h h5
  ·rw [h5]at hi;exact absurd hi (by decide)
theorem nS (t a b c:Rat) (ht:0<t):dV (t*a) (t*b) (t*c)=dV a b c:=by
 have hne:t≠0:=fun e=>by rw [e]at ht;exact absurd ht (by decide)
 have key:∀x:Rat,t*x*(t*g3 a b c)⁻¹=x*(g3 a b c)⁻¹:=fun x=>by
  rw [Rat.inv_mul_rev,Rat.mul_comm t x,Rat.mul_assoc,←Rat.mul_assoc t,Rat.mul_comm t,Rat.mul_assoc (g3 a b c)⁻¹,Rat.mul_inv_cancel _ hne,Rat.mul_one]
 unfold dV;rw [FF t a b c ht,key,key,key]
theorem Hi {l:Li}(h:l.ok):dV l.a l.b l.c=l:=by
 have:g3 l.a l.b l.c=1:=by
  unfold g3;rw [eQ,show((Nat.gcd l.a.natAbs l.b.natAbs:Nat):Rat)=(((Nat.gcd l.a.natAbs l.b.natAbs:Nat):Int):Rat)from rfl,eQ,Int.natAbs_natCast,h.1];rfl
 unfold dV;rw [this,show(1:Rat)⁻¹=1 from by decide +kernel,Rat.mul_one,Rat.mul_one,Rat.mul_one,Rat.num_intCast,Rat.num_intCast,Rat.num_intCast]
theorem M6.inv_det {m:M6 Rat}(h:m.det≠0):m.inv.det=m.det⁻¹:=by
 have hd:m.det=m.a*m.e-m.d*m.b:=rfl;unfold M6.inv;generalize hk:m.det⁻¹=k;have h1:m.det*k=1:=by rw [←hk];exact Rat.mul_inv_cancel _ h
 unfold M6.det;simp only [];generalize m.det=D at *;subst hd;grind
def M6.invk (m:M6 Rat) (k:Rat):M6 Rat:=⟨m.e*k,-m.b*k,-(m.e*k*m.c + -m.b*k*m.f),-m.d*k,m.a*k,-(-m.d*k*m.c+m.a*k*m.f)⟩
theorem M6.inv_k (m:M6 Rat):m.inv=m.invk m.det⁻¹:=rfl
theorem M6.invk_k (m:M6 Rat){k:Rat}(h:m.det*k=1):(m.invk k).invk m.det=m:=by
 have hd:m.det=m.a*m.e-m.d*m.b:=rfl;generalize m.det=D at *;obtain⟨a,b,c,d,e,f⟩:=m;simp only [M6.invk]at *;congr 1 <;> grind
theorem M6.inv_inv {m:M6 Rat}(h:m.det≠0):m.inv.inv=m:=by
 rw [M6.inv_k m.inv,M6.inv_det h,Rat.inv_inv,M6.inv_k m];exact M6.invk_k m (Rat.mul_inv_cancel _ h)
def Li.im (m:M6 Rat) (l:Li):Li:=dV (l.a*m.inv.a+l.b*m.inv.d) (l.a*m.inv.b+l.b*m.inv.e) (l.a*m.inv.c+l.b*m.inv.f+l.c)
theorem Li.im_ne {m:M6 Rat}{l:Li}(h:m.det≠0) (hl:l.ok):(l.a:Rat)*m.inv.a+l.b*m.inv.d≠0∨(l.a:Rat)*m.inv.b+l.b*m.inv.e≠0:=by
 have h1:m.det*m.det⁻¹=1:=Rat.mul_inv_cancel _ h;have hd:m.det=m.a*m.e-m.d*m.b:=rfl;unfold M6.inv;simp only [];generalize m.det⁻¹=k at *;generalize m.det=D at *;by_cases e1:(l.a:Rat)*(m.e*k)+l.b*(-m.d*k)=0
 ·right;intro e2;have ha:(l.a:Rat)=0:=by grind
  have hb:(l.b:Rat)=0:=by grind
  rcases hl.2 with h|h
  ·exact h (by exact_mod_cast ha)
  ·exact h (by exact_mod_cast hb)
 ·exact .inl e1
theorem Li.im_ok {m:M6 Rat}{l:Li}(h:m.det≠0) (hl:l.ok):(l.im m).ok:=qg (Li.im_ne h hl)
theorem Li.im_inv {m:M6 Rat}{l:Li}(h:m.det≠0) (hl:l.ok):(l.im m).im m.inv=l:=by
 have hne:=Li.im_ne h hl;obtain⟨e1,e2,e3⟩:=iS (c:=l.a*m.inv.c+l.b*m.inv.f+l.c) hne;have hg:=kT (c:=l.a*m.inv.c+l.b*m.inv.f+l.c) hne;have hi:0<(g3 (l.a*m.inv.a+l.b*m.inv.d) (l.a*m.inv.b+l.b*m.inv.e) (l.a*m.inv.c+l.b*m.inv.f+l.c))⁻¹:=Rat.inv_pos.2 hg;have h1:m.det*m.det⁻¹=1:=Rat.mul_inv_cancel _ h;have hd:m.det=m.a*m.e-m.d*m.b:=rfl
 have key:(l.im m).im m.inv=dV (((l.im m).a:Rat)*m.a+(l.im m).b*m.d) (((l.im m).a:Rat)*m.b+(l.im m).b*m.e) (((l.im m).a:Rat)*m.c+(l.im m).b*m.f+(l.im m).c):=by
  unfold Li.im;rw [M6.inv_inv h]
 rw [key];unfold Li.im;rw [←e1,←e2,←e3];generalize(g3 (l.a*m.inv.a+l.b*m.inv.d) (l.a*m.inv.b+l.b*m.inv.e) (l.a*m.inv.c+l.b*m.inv.f+l.c))⁻¹=t at *;have z:dV (t*l.a) (t*l.b) (t*l.c)=l:=by rw [nS t _ _ _ hi];exact Hi hl
 clear e1 e2 e3 key hne hg;unfold M6.inv;simp only [];generalize m.det⁻¹=k at *;generalize m.det=D at *;rw [←z];congr 1 <;> grind
def nrm (xs:List Nat):Bool:=decide (xs.length=0)||decide (xs.getD (xs.length-1) 0≠0)
theorem I3 (n:Nat):nrm (dgs n)=true:=by
 by_cases h:n=0
 ·subst h;rw [aT];rfl
 ·obtain⟨k,h1,h2,_⟩:=vT h;unfold nrm;rw [h1,Nat.add_sub_cancel,decide_eq_true h2,Bool.or_true]
theorem vg (xs:List Nat) (hl:xs.length≤1000000000):Pu Tryz.prog 241 [dg xs] (lit (.bool (nrm xs))):=by
 unfold nrm;by_cases h:xs.length=0
 ·rw [decide_eq_true h,Bool.true_or];refine Pi Tryz.func241 fun C=>?_
  exact Z1
 ·rw [decide_eq_false h,Bool.false_or];by_cases h1:xs.getD (xs.length-1) 0=0
  ·rw [decide_eq_false (fun e=>e h1)];refine Pi Tryz.func241 fun C=>?_
   exact Z1
  ·rw [decide_eq_true h1];refine Pi Tryz.func241 fun C=>?_
   exact Z1
def I4 (s:Bool) (xs:List Nat):Bool:=nrm xs&&(!s||decide (0<xs.length))
theorem EP (z:Int):I4 (decide (z<0)) (dgs z.natAbs)=true:=by
 unfold I4;rw [I3,Bool.true_and];by_cases h:z<0
 ·rw [decide_eq_true h,decide_eq_true (bX om),Bool.or_true]
 ·rw [decide_eq_false h];rfl
theorem vH (s:Bool) (xs:List Nat) (hl:xs.length≤1000000000):Pu Tryz.prog 202 [raw s xs] (lit (.bool (I4 s xs))):=by
 have hn:=vg xs hl;unfold I4;cases hx:nrm xs with
 |false =>
  rw [hx]at hn;refine Pi Tryz.func202 fun C=>?_
  exact Y1 hn
 |true =>
  rw [hx]at hn;cases s with
  |false =>
   refine Pi Tryz.func202 fun C=>?_
   exact Y1 hn
  |true =>
   by_cases h:0<xs.length
   ·rw [decide_eq_true h];refine Pi Tryz.func202 fun C=>?_
    exact Y1 hn
   ·rw [decide_eq_false h];refine Pi Tryz.func202 fun C=>?_
    exact Y1 hn
theorem kQ (z:Int) (hl:il z≤1000000000):Pu Tryz.prog 202 [int z] (lit (.bool true)):=by
 have:=vH (decide (z<0)) (dgs z.natAbs) hl;rwa [EP]at this
theorem qD (z:Int) (hl:il z≤10000000):Pu Tryz.prog 203 [int z] (fr (z:Rat)):=by
 have r:=jC (decide (z<0)) (dgs z.natAbs) [1] hl (by decide) (aR _) (D.cons om D.nil);rw [au,eB,show val [1]=1 from rfl,Rat.mkRat_one]at r;refine Pi Tryz.func203 fun C=>?_
 repeat(refine A1 ⟨?_⟩;intros)
 refine g9 (ds:=[1]) 4 rfl (ak.here _) rfl om om ?_;exact X1 r
theorem La (a b:Nat) (h1:(dgs a).length≤10000000) (h2:(dgs b).length≤10000000):Pu Tryz.prog 171 [nat a,nat b] (nat (Nat.gcd a b)):=by
 have:=B7 (dgs a) (dgs b) h1 h2 (aR _) (aR _);rwa [au,au]at this
theorem jc {a b n:Nat}(ha:(dgs a).length≤n) (hb:(dgs b).length≤n):(dgs (Nat.gcd a b)).length≤n:=by
 by_cases h:a=0
 ·subst h;rw [Nat.gcd_zero_left];exact hb
 ·exact Nat.le_trans (aM (Nat.gcd_le_left b om)) ha
theorem vJ (x y:Rat):ht (ff x y)≤ht x+ht y+1:=by
 have h1:=bQ x;have h2:=cB x;have h3:=bQ y;have h4:=cB y;have e1:il x.num=(dgs x.num.natAbs).length:=rfl;have e2:il y.num=(dgs y.num.natAbs).length:=rfl;have m1:=bW x.num.natAbs y.den;have m2:=bW y.num.natAbs x.den;have m3:=bW x.den y.den;have m4:=jc (n:=ht x+ht y) (a:=x.num.natAbs*y.den) (b:=y.num.natAbs*x.den) om om;have:=rX ((Nat.gcd (x.num.natAbs*y.den) (y.num.natAbs*x.den):Nat):Int) (x.den*y.den);rw [mQ]at this;unfold ff;omega
theorem FM {x:Rat}(h:x.den=1):x=(x.num:Rat):=(I1 h).symm
theorem ou (x y:Rat) (hx:ht x≤3000000) (hy:ht y≤3000000):Pu Tryz.prog 204 [fr x,fr y] (fr (ff x y)):=by
 have d1:=x.den_pos;have d2:=y.den_pos;by_cases h:(bz x∧bz y)∧x.den=1∧y.den=1
 ·obtain⟨⟨hsx,hsy⟩,h1,h2⟩:=h
  have e:ff x y=((Nat.gcd x.num.natAbs y.num.natAbs:Nat):Rat):=by
   have:=eQ x.num y.num;rwa [←FM h1,←FM h2]at this
  have bx:=hsx.1;have byy:=hsy.1
  have hg:Nat.gcd x.num.natAbs y.num.natAbs<4611686018427387904:=by
   by_cases h0:x.num.natAbs=0
   ·rw [h0,Nat.gcd_zero_left];exact byy
   ·exact Nat.lt_of_le_of_lt (Nat.gcd_le_left _ om) bx
  have hs:bz ((Nat.gcd x.num.natAbs y.num.natAbs:Nat):Rat):=by
   unfold bz;rw [Rat.num_natCast,Rat.den_natCast];omega
  rw [e,fE hsx,fE hsy,fE hs,Rat.num_natCast,Rat.den_natCast];have g:=Bb x.num.natAbs y.num.natAbs om om;have a1:=l7 x.num om om;have a2:=l7 y.num om om;generalize Nat.gcd x.num.natAbs y.num.natAbs=k at *;refine Pi Tryz.func204 fun C=>?_
  repeat(first|(refine A1 ⟨?_⟩;intros)|refine W4 a1 ⟨?_⟩|refine W4 a2 ⟨?_⟩|refine W4 g ⟨?_⟩)
  refine aS (aJ (RV.cellA rfl List.mem_cons_self rfl rfl) (Le.ag ⟨Le.refl _,Le.int om,Le.refl _,trivial⟩))
 ·have h1:=bQ x;have h2:=cB x;have h3:=bQ y;have h4:=cB y;have e1:il x.num=(dgs x.num.natAbs).length:=rfl;have e2:il y.num=(dgs y.num.natAbs).length:=rfl;have m1:=bW x.num.natAbs y.den;have m2:=bW y.num.natAbs x.den;have m3:=bW x.den y.den;have m4:=jc (n:=ht x+ht y) (a:=x.num.natAbs*y.den) (b:=y.num.natAbs*x.den) om om;have c1:=ku x om;have c2:=ku y om;have c3:=xq x.den y.den om om;have c4:=jo x om;have c5:=jo y om;have c6:=xq x.num.natAbs y.den om om;have c7:=xq y.num.natAbs x.den om om;have c8:=La (x.num.natAbs*y.den) (y.num.natAbs*x.den) om om;have c9:=mI ((Nat.gcd (x.num.natAbs*y.den) (y.num.natAbs*x.den):Nat):Int) (x.den*y.den) (by rw [mQ];omega) om;rw [vG]at c9;clear m1 m2 m3 m4 h1 h2 h3 h4 e1 e2;by_cases hsx:bz x
  ·by_cases hsy:bz y
   ·by_cases hx1:x.den=1
    ·have hy1:y.den≠1:=fun e=>h ⟨⟨hsx,hsy⟩,hx1,e⟩
     clear h;rw [fE hsx,fE hsy];rw [fE hsx]at c1 c4;rw [fE hsy]at c2 c5;refine Pi Tryz.func204 fun C=>?_
     repeat(first|(refine A1 ⟨?_⟩;intros)|refine W4 c1 ⟨?_⟩|refine W4 c2 ⟨?_⟩|refine W4 c3 ⟨?_⟩|refine W4 c4 ⟨?_⟩|refine W4 c6 ⟨?_⟩|refine W4 c5 ⟨?_⟩|refine W4 c7 ⟨?_⟩|refine W4 c8 ⟨?_⟩|refine W4 c9 ⟨?_⟩)
     exact G1
    ·clear h;rw [fE hsx,fE hsy];rw [fE hsx]at c1 c4;rw [fE hsy]at c2 c5;refine Pi Tryz.func204 fun C=>?_
     repeat(first|(refine A1 ⟨?_⟩;intros)|refine W4 c1 ⟨?_⟩|refine W4 c2 ⟨?_⟩|refine W4 c3 ⟨?_⟩|refine W4 c4 ⟨?_⟩|refine W4 c6 ⟨?_⟩|refine W4 c5 ⟨?_⟩|refine W4 c7 ⟨?_⟩|refine W4 c8 ⟨?_⟩|refine W4 c9 ⟨?_⟩)
     exact G1
   ·clear h;rw [fE hsx,mS hsy];rw [fE hsx]at c1 c4;rw [mS hsy]at c2 c5;refine Pi Tryz.func204 fun C=>?_
    repeat(first|(refine A1 ⟨?_⟩;intros)|refine W4 c1 ⟨?_⟩|refine W4 c2 ⟨?_⟩|refine W4 c3 ⟨?_⟩|refine W4 c4 ⟨?_⟩|refine W4 c6 ⟨?_⟩|refine W4 c5 ⟨?_⟩|refine W4 c7 ⟨?_⟩|refine W4 c8 ⟨?_⟩|refine W4 c9 ⟨?_⟩)
    exact G1
  ·clear h;rw [mS hsx];rw [mS hsx]at c1 c4;refine Pi Tryz.func204 fun C=>?_
   repeat(first|(refine A1 ⟨?_⟩;intros)|refine W4 c1 ⟨?_⟩|refine W4 c2 ⟨?_⟩|refine W4 c3 ⟨?_⟩|refine W4 c4 ⟨?_⟩|refine W4 c6 ⟨?_⟩|refine W4 c5 ⟨?_⟩|refine W4 c7 ⟨?_⟩|refine W4 c8 ⟨?_⟩|refine W4 c9 ⟨?_⟩)
   exact G1
theorem gM (x:Rat) (h:ht x≤10000000):Pu Tryz.prog 180 [fr x] (lit (.int .i64 x.num.sign)):=by
 by_cases hs:bz x
 ·rw [fE hs];rcases Int.lt_trichotomy x.num 0 with h0|h0|h0
  ·rw [Int.sign_eq_neg_one_of_neg h0];refine Pi Tryz.func180 fun C=>?_
   exact Z1
  ·rw [h0];refine Pi Tryz.func180 fun C=>?_
   exact Z1
  ·rw [Int.sign_eq_one_of_pos h0];refine Pi Tryz.func180 fun C=>?_
   exact Z1
 ·have h1:=bQ x;have e1:il x.num=(dgs x.num.natAbs).length:=rfl;have c:=qR (decide (x.num<0)) (dgs x.num.natAbs) om (aR _);rw [au,eB]at c;rw [mS hs];refine Pi Tryz.func180 fun C=>?_
  exact Y1 c
theorem Ib (a:Int){d:Nat}(hd:d≠0):(mkRat a d).num.sign=a.sign:=by
 rw [(vk a hd).1];have hg:0<Int.gcd a d:=Nat.pos_of_ne_zero (fun e=>by have:=(Int.gcd_eq_zero_iff.1 e).2;omega);obtain⟨q,hq⟩:=Int.gcd_dvd_left a d;generalize Int.gcd a d=g at *;subst hq;have h1:((g:Nat):Int).sign=1:=Int.sign_eq_one_of_pos om;rw [Int.mul_ediv_cancel_left _ om,Int.sign_mul,h1,Int.one_mul]
theorem DH {x y:Rat}(h:x.den=y.den):(x-y).num.sign=(x.num-y.num).sign:=by
 have hd:y.den≠0:=y.den_nz;have h1:((y.den:Nat):Int).sign=1:=Int.sign_eq_one_of_pos om;rw [Rat.sub_def',h,←Int.sub_mul,Ib _ (Nat.mul_ne_zero hd hd),Int.sign_mul,h1,Int.mul_one]
theorem ko (x y:Rat) (hx:ht x≤3000000) (hy:ht y≤3000000):Pu Tryz.prog 242 [fr x,fr y] (lit (.int .i64 (x-y).num.sign)):=by
 have hb:=cI x y;have c1:=nN x y hx hy;have c2:=gM (x-y) om;by_cases h:(bz x∧bz y)∧x.den=y.den
 ·obtain⟨⟨hsx,hsy⟩,hd⟩:=h;rw [fE hsx,fE hsy,DH hd,hd];rcases Int.lt_trichotomy x.num y.num with h0|h0|h0
  ·rw [Int.sign_eq_neg_one_of_neg om];refine Pi Tryz.func242 fun C=>?_
   exact Z1
  ·rw [h0,Int.sub_self];refine Pi Tryz.func242 fun C=>?_
   exact Z1
  ·rw [Int.sign_eq_one_of_pos om];refine Pi Tryz.func242 fun C=>?_
   exact Z1
 ·clear hb;by_cases hsx:bz x
  ·by_cases hsy:bz y
   ·have hd:x.den≠y.den:=fun e=>h ⟨⟨hsx,hsy⟩,e⟩
    clear h;rw [fE hsx,fE hsy]at c1⊢;refine Pi Tryz.func242 fun C=>?_
    exact Y2 c1 c2
   ·clear h;rw [fE hsx,mS hsy]at c1⊢;refine Pi Tryz.func242 fun C=>?_
    exact Y2 c1 c2
  ·clear h;rw [mS hsx]at c1⊢;refine Pi Tryz.func242 fun C=>?_
   exact Y2 c1 c2
theorem ez {x y:Rat}:(x-y).num.sign=0↔x=y:=by
 rw [Int.sign_eq_zero_iff_zero,Rat.num_eq_zero];constructor
 ·intro h;have:=congrArg (· + y) h;simp only [Rat.sub_eq_add_neg,Rat.add_assoc,Rat.neg_add_cancel,Rat.add_zero,Rat.zero_add]at this;exact this
 ·intro h;rw [h,Rat.sub_self]
theorem CL (x y:Rat) (hx:ht x≤3000000) (hy:ht y≤3000000):Pu Tryz.prog 205 [fr x,fr y] (lit (.bool (decide (x=y)))):=by
 have c:=ko x y hx hy;have e:=@ez _ x y;by_cases h:x=y
 ·rw [decide_eq_true h];rw [e.2 h]at c;refine Pi Tryz.func205 fun C=>?_
  exact Y1 c
 ·rw [decide_eq_false h];have e':(x-y).num.sign≠0:=fun k=>h (e.1 k)
  clear e;generalize(x-y).num.sign=s at *;refine Pi Tryz.func205 fun C=>?_
  exact Y1 c
abbrev lf (a b c:Rat):SV:=ag [lit (.int .i64 (r0 a)),lit (.int .i64 (r1 a)),r2 a,lit (.int .i64 (r0 b)),lit (.int .i64 (r1 b)),r2 b,lit (.int .i64 (r0 c)),lit (.int .i64 (r1 c)),r2 c]
abbrev lq (l:Li):SV:=ag [lit (.bool (decide (l.a<0))),nat l.a.natAbs,lit (.bool (decide (l.b<0))),nat l.b.natAbs,lit (.bool (decide (l.c<0))),nat l.c.natAbs]
structure Li.le (l:Li) (L:Nat):Prop where
 a:il l.a≤L
 b:il l.b≤L
 c:il l.c≤L
theorem gn (a b c:Rat):Pu Tryz.prog 147 [lf a b c] (pp a b):=by
 refine Pi Tryz.func147 fun C=>?_
 exact Z2
theorem nU (x y u v:Rat) (hx:ht x≤1000000) (hy:ht y≤1000000) (hu:ht u≤1000000) (hv:ht v≤1000000):Pu Tryz.prog 149 [pp x y,pp u v] (fr (x*u+y*v)):=by
 have h1:=ae x u;have h2:=ae y v;refine Pi Tryz.func149 fun C=>?_
 repeat(first|(refine A1 ⟨?_⟩;intros)|refine W4 (dY x u om om) ⟨?_⟩|refine W4 (dY y v om om) ⟨?_⟩|refine W4 (iR (x*u) (y*v) om om) ⟨?_⟩)
 exact G1
theorem pd (a b c x y:Rat) (ha:ht a≤100000) (hb:ht b≤100000) (hc:ht c≤100000) (hx:ht x≤100000) (hy:ht y≤100000):Pu Tryz.prog 150 [lf a b c,pp x y] (fr (a*x+b*y+c)):=by
 have h1:=ae a x;have h2:=ae b y;have h3:=aI (a*x) (b*y);have c1:=gn a b c;have c2:=nU a b x y om om om om;have c3:=iR (a*x+b*y) c om om;refine Pi Tryz.func150 fun C=>?_
 repeat(first|(refine A1 ⟨?_⟩;intros)|refine W4 c1 ⟨?_⟩|refine W4 c2 ⟨?_⟩|refine W4 c3 ⟨?_⟩)
 exact G1
theorem cp (z:Int):ht (z:Rat)=max (il z) 1:=by
 unfold ht;rw [Rat.num_intCast,Rat.den_intCast,kt];rfl
theorem Iu (l:Li) (h:l.le 1000000):Pu Tryz.prog 94 [lf l.a l.b l.c] (lq l):=by
 obtain⟨ha,hb,hc⟩:=h;have e1:=cp l.a;have e2:=cp l.b;have e3:=cp l.c;have c1:=jo (l.a:Rat) om;have c2:=jo (l.b:Rat) om;have c3:=jo (l.c:Rat) om;rw [Rat.num_intCast]at c1 c2 c3;refine Pi Tryz.func94 fun C=>?_
 repeat(first|(refine A1 ⟨?_⟩;intros)|refine W4 c1 ⟨?_⟩|refine W4 c2 ⟨?_⟩|refine W4 c3 ⟨?_⟩)
 exact G1
theorem Kk (v:Value) (w:World):(Go.method ((Tryz.prog).types.size+Made.depth) 92 v "Mul").run Tryz.prog w = .ok (111,v) w:=by kernel_rfl
abbrev fr3 (a b c:Rat):List SV:=[lit (.int .i64 (r0 a)),lit (.int .i64 (r1 a)),r2 a,lit (.int .i64 (r0 b)),lit (.int .i64 (r1 b)),r2 b,lit (.int .i64 (r0 c)),lit (.int .i64 (r1 c)),r2 c]
set_option maxRecDepth 20000 in
theorem BQ (b0:Nat) (f a b c:Rat) (hf:ht f≤1000000) (ha:ht a≤1000000) (hb:ht b≤1000000) (hc:ht c≤1000000) :
  PuH Tryz.prog 207 [fr f,lit (.slice (some ⟨b0,0,none⟩) 3 3)] [(b0,92,fr3 a b c)] (fun r H=>r=lit (.slice (some ⟨b0,0,none⟩) 3 3)∧H=[(b0,92,fr3 (a*f) (b*f) (c*f))]) noX:=by
 have m1:=dY a f om om;have m2:=dY b f om om;have m3:=dY c f om om;refine PuH.intro Tryz.func207 rfl kr fun C hC=>?_
 repeat(refine A1 ⟨?_⟩;intros)
 refine WP.unroll 4 ?_;repeat(refine A1 ⟨?_⟩;intros)
 refine Wdo (pb Kk m1 rfl rfl) ?_;repeat(refine A1 ⟨?_⟩;intros)
 refine Wdo (pb Kk m2 rfl rfl) ?_;repeat(refine A1 ⟨?_⟩;intros)
 refine Wdo (pb Kk m3 rfl rfl) ?_;repeat(refine A1 ⟨?_⟩;intros)
 exact eN _ _ (aJ (RV.tmp rfl) Lr) (Sc Sr) ⟨rfl,rfl⟩
end Go.Ab
