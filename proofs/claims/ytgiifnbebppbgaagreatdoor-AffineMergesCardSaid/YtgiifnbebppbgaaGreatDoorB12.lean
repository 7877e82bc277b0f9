/- Texts laid one behind the other: RefH, AffB, LnM, ImM, LnA, LnB. -/
import Derived.Test.YtgiifnbebppbgaaGreatDoorB11
import Derived.Test.YtgiifnbebppbgaaGreatDoorRefL
import Derived.Test.YtgiifnbebppbgaaGreatDoorB03
set_option linter.unusedSectionVars false
set_option linter.unusedVariables false
set_option linter.unusedSimpArgs false
namespace Go.Ab
open Go.Proofs
variable [Base]
theorem rpart_pu (n:Int) (d:Nat) (h0 : -9223372036854775808≤n) (h1:n≤9223372036854775807) (hd0:d≠0) (hd:d≤9223372036854775807):Pu Tryz.prog 85 [lit (.int .i64 n),lit (.int .i64 d)] (rq (mkRat n d)):=by
  have hn : il n ≤ 2 := len_le (k := 2) (by have : n.natAbs < 18446744073709551616 := by omega
                                            simpa using this)
  have hdl:=len_le (n:=d) (k:=2) (by simpa using (show d<18446744073709551616 by omega))
  refine Pu.intro Tryz.func85 rfl (by kernel_rfl) fun C=>?_
  repeat(first|(refine A1 ⟨?_⟩;intros)|refine W4 (rint_pu n h0 h1) ⟨?_⟩|refine W4 (word_pu d (by omega)) ⟨?_⟩|refine W4 (rfrac_pu n d (by omega) (by omega) hd0) ⟨?_⟩)
  ((first|refine endR ?_|refine endN ?_);refine end1 RVa (Le.refl _))
theorem over_mk (x y:Rat):mkRat (x.num*sv (decide (y.num<0)) y.den) (x.den*y.num.natAbs)=x/y:=by
 rw [Rat.div_def,←inv_mk]
 conv=>rhs;rw [←Rat.mkRat_self x]
 rw [Rat.mkRat_mul_mkRat]
theorem rover_pu (x y:Rat) (hx:ht x≤3000000) (hy:ht y≤3000000) (h0:y.num≠0):Pu Tryz.prog 120 [rq x,rq y] (rq (x/y)):=by
 have n1:=ht_num x
 have n2:=ht_num y
 have d1:=ht_den x
 have d2:=ht_den y
 have e2:il y.num=(dgs y.num.natAbs).length:=rfl
 have m1:=il_mul x.num (sv (decide (y.num<0)) y.den)
 have e1:il (sv (decide (y.num<0)) y.den)=(dgs y.den).length:=by unfold il;rw [sv_abs]
 have m4:=dlen_mul x.den y.num.natAbs
 have mi:=rmul_int x.num (sv (decide (y.num<0)) y.den) (show il x.num≤100000000 by omega) (show il _≤100000000 by omega)
 have fr:=rfrac_pu (x.num*sv (decide (y.num<0)) y.den) (x.den*y.num.natAbs) (by omega) (by omega) (Nat.mul_ne_zero x.den_nz (by omega))
 rw [over_mk]at fr
 refine Pu.intro Tryz.func120 rfl (by kernel_rfl) fun C=>?_
 repeat(first|(refine A1 ⟨?_⟩;intros)|(refine Wcx (rden_pu _) ?_)|(refine Wdcx (rden_pu _) ?_)|(refine Wcgx (rden_pu _) ?_)|(refine Wdcgx (rden_pu _) ?_)|(refine Wcx (rmake_pu _ _ (by omega)) ?_)|(refine Wdcx (rmake_pu _ _ (by omega)) ?_)|(refine Wcgx (rmake_pu _ _ (by omega)) ?_)|(refine Wdcgx (rmake_pu _ _ (by omega)) ?_)|refine W4 mi ⟨?_⟩|(refine Wcx (rprod_pu _ _ (by omega) (by omega)) ?_)|(refine Wdcx (rprod_pu _ _ (by omega) (by omega)) ?_)|(refine Wcgx (rprod_pu _ _ (by omega) (by omega)) ?_)|(refine Wdcgx (rprod_pu _ _ (by omega) (by omega)) ?_)|refine W4 fr ⟨?_⟩)
 ((first|refine endR ?_|refine endN ?_);refine end1 RVa (Le.refl _))
def M6.det (m:M6 Rat):Rat:=m.a*m.e-m.d*m.b
def M6.inv (m:M6 Rat):M6 Rat :=
 ⟨m.e*m.det⁻¹,-m.b*m.det⁻¹,-(m.e*m.det⁻¹*m.c + -m.b*m.det⁻¹*m.f),-m.d*m.det⁻¹,m.a*m.det⁻¹,-(-m.d*m.det⁻¹*m.c+m.a*m.det⁻¹*m.f)⟩
theorem M6.det_ht {m:M6 Rat}{L:Nat}(h:m.le L):ht m.det≤4*L+3:=by
 obtain⟨ha,hb,hc,hd,he,hf⟩:=h
 have l1:=ht_mul m.a m.e
 have l2:=ht_mul m.d m.b
 have l3:=ht_sub (m.a*m.e) (m.d*m.b)
 unfold M6.det;omega
theorem M6.inv_le {m:M6 Rat}{L:Nat}(h:m.le L):m.inv.le (14*L+20):=by
 have hd0:=M6.det_ht h
 have hi:=ht_inv m.det
 obtain⟨ha,hb,hc,hd,he,hf⟩:=h
 have g:∀{x:Rat},ht x≤L→ht (x*m.det⁻¹)≤5*L+5:=fun {x} h1=>by
  have l1:=ht_mul x m.det⁻¹
  omega
 have nb:ht (-m.b)≤L:=by rw [ht_neg];exact hb
 have nd:ht (-m.d)≤L:=by rw [ht_neg];exact hd
 have g2:∀{x y:Rat},ht x≤L→ht y≤L→ht (-(x*m.det⁻¹*m.c+y*m.det⁻¹*m.f))≤14*L+20:=fun {x y} h1 h2=>by
  have k1:=g h1
  have k2:=g h2
  have l1:=ht_mul (x*m.det⁻¹) m.c
  have l2:=ht_mul (y*m.det⁻¹) m.f
  have l3:=ht_add (x*m.det⁻¹*m.c) (y*m.det⁻¹*m.f)
  rw [ht_neg];omega
 exact⟨Nat.le_trans (g he) (by omega),Nat.le_trans (g nb) (by omega),g2 he nb,Nat.le_trans (g nd) (by omega),Nat.le_trans (g ha) (by omega),g2 nd ha⟩
theorem aof_q {m:M6 Rat}(h:m.le 100000):Pu Tryz.prog 65 [mq m] (mf m):=by
 have:=aof_pu (M6.of_ok h) (by omega)
 rwa [M6.of_v]at this
theorem pneg_pu (x y:Rat) (hx:ht x≤1000000) (hy:ht y≤1000000):Pu Tryz.prog 194 [pp x y] (pp (-x) (-y)):=by
 refine Pu.intro Tryz.func194 rfl (by kernel_rfl) fun C=>?_
 repeat(first|(refine A1 ⟨?_⟩;intros)|refine W4 (rneg_pu x (by omega)) ⟨?_⟩|refine W4 (rneg_pu y (by omega)) ⟨?_⟩)
 ((first|refine endR ?_|refine endN ?_);refine end1 RVa (Le.refl _))
theorem inverse_pu {m:M6 Rat}{L:Nat}(h:m.le L) (hL:L≤1000):Pu Tryz.prog 178 [mf m] (mf m.inv):=by
 have hd0:=M6.det_ht h
 have hi:=ht_inv m.det
 have hdet:=adet_pu h (by omega)
 have hin:=inv_pu (m.a*m.e-m.d*m.b) (by unfold M6.det at hd0;omega)
 obtain⟨ha,hb,hc,hd,he,hf⟩:=h
 have nb:=ht_neg m.b
 have nd:=ht_neg m.d
 have s1:=pscale_pu m.e (-m.d) m.det⁻¹ (by omega) (by omega) (by omega)
 have s2:=pscale_pu (-m.b) m.a m.det⁻¹ (by omega) (by omega) (by omega)
 have l1:=ht_mul m.e m.det⁻¹
 have l2:=ht_mul (-m.d) m.det⁻¹
 have l3:=ht_mul (-m.b) m.det⁻¹
 have l4:=ht_mul m.a m.det⁻¹
 have h0:=ht_zero
 have v:=avector_pu (m:=⟨m.e*m.det⁻¹,-m.b*m.det⁻¹,0,-m.d*m.det⁻¹,m.a*m.det⁻¹,0⟩) (L:=10000) ⟨by simp only;omega,by simp only;omega,by simp only;omega,by simp only;omega,by simp only;omega,by simp only;omega⟩ (by omega) m.c m.f (by omega) (by omega)
 have k1:=ht_mul (m.e*m.det⁻¹) m.c
 have k2:=ht_mul (-m.b*m.det⁻¹) m.f
 have k3:=ht_mul (-m.d*m.det⁻¹) m.c
 have k4:=ht_mul (m.a*m.det⁻¹) m.f
 have k5:=ht_add (m.e*m.det⁻¹*m.c) (-m.b*m.det⁻¹*m.f)
 have k6:=ht_add (-m.d*m.det⁻¹*m.c) (m.a*m.det⁻¹*m.f)
 have ng:=pneg_pu (m.e*m.det⁻¹*m.c + -m.b*m.det⁻¹*m.f) (-m.d*m.det⁻¹*m.c+m.a*m.det⁻¹*m.f) (by omega) (by omega)
 have n1:=rneg_pu m.d (by omega)
 have n2:=rneg_pu m.b (by omega)
 simp only [mf,r0_zero,r1_zero,r2_zero]at v
 rw [show m.a*m.e-m.d*m.b=m.det from rfl]at hdet hin
 clear k1 k2 k3 k4 k5 k6 l1 l2 l3 l4 hd0 hi nb nd
 refine Pu.intro Tryz.func178 rfl (by kernel_rfl) fun C=>?_
 repeat(first|(refine A1 ⟨?_⟩;intros)|refine W4 hdet ⟨?_⟩|refine W4 hin ⟨?_⟩|refine W4 n1 ⟨?_⟩|refine W4 s1 ⟨?_⟩|refine W4 n2 ⟨?_⟩|refine W4 s2 ⟨?_⟩|refine W4 v ⟨?_⟩|refine W4 ng ⟨?_⟩)
 ((first|refine endR ?_|refine endN ?_);refine end1 RVa (Le.refl _))
def rgcd (x y:Rat):Rat:=mkRat (Nat.gcd (x.num.natAbs*y.den) (y.num.natAbs*x.den):Nat) (x.den*y.den)
theorem cross_mk {x:Rat}{p:Int}{d:Nat}(hd:d≠0) (h:x=mkRat p d):x.num*d=p*x.den:=by
 have h1:=Rat.mkRat_self x
 rw [←h1]at h
 conv at h=>lhs;rw [h1]
 have:=(Rat.mkRat_eq_iff (n₁:=x.num) (n₂:=p) x.den_nz hd).1 (by rw [Rat.mkRat_self];exact h)
 rw [this]
theorem rgcd_of {x y:Rat}{p q:Int}{d:Nat}(hd:d≠0) (hx:x=mkRat p d) (hy:y=mkRat q d):rgcd x y=mkRat (Nat.gcd p.natAbs q.natAbs:Nat) d:=by
 have cx:=congrArg Int.natAbs (cross_mk hd hx)
 have cy:=congrArg Int.natAbs (cross_mk hd hy)
 rw [Int.natAbs_mul,Int.natAbs_mul,Int.natAbs_natCast,Int.natAbs_natCast]at cx cy
 unfold rgcd
 rw [Rat.mkRat_eq_iff (Nat.mul_ne_zero x.den_nz y.den_nz) hd]
 have:Nat.gcd (x.num.natAbs*y.den) (y.num.natAbs*x.den)*d=Nat.gcd p.natAbs q.natAbs*(x.den*y.den):=by
  rw [←Nat.gcd_mul_right,←Nat.gcd_mul_right]
  congr 1
  ·rw [Nat.mul_right_comm,cx,Nat.mul_assoc]
  ·rw [Nat.mul_right_comm,cy,Nat.mul_assoc,Nat.mul_comm y.den]
 exact_mod_cast this
theorem common (x y:Rat):∃(p q:Int) (d:Nat),d≠0∧x=mkRat p d∧y=mkRat q d:=by
 refine⟨x.num*y.den,y.num*x.den,x.den*y.den,Nat.mul_ne_zero x.den_nz y.den_nz,?_,?_⟩
 ·rw [Rat.mkRat_mul_right y.den_nz,Rat.mkRat_self]
 ·rw [Nat.mul_comm x.den,Rat.mkRat_mul_right x.den_nz,Rat.mkRat_self]
theorem rgcd_mul (t x y:Rat) (ht:0<t):rgcd (t*x) (t*y)=t*rgcd x y:=by
 obtain⟨p,q,d,hd,hx,hy⟩:=common x y
 have hn:0<t.num:=by
  have h0:=Rat.num_nonneg.2 (Rat.le_of_lt ht)
  have h1:t.num≠0:=fun e=>by rw [Rat.num_eq_zero.1 e]at ht;exact absurd ht (by decide)
  omega
 have e:t=mkRat t.num t.den:=(Rat.mkRat_self t).symm
 have hx':t*x=mkRat (t.num*p) (t.den*d):=by conv=>lhs;rw [e,hx,Rat.mkRat_mul_mkRat]
 have hy':t*y=mkRat (t.num*q) (t.den*d):=by conv=>lhs;rw [e,hy,Rat.mkRat_mul_mkRat]
 rw [rgcd_of (Nat.mul_ne_zero t.den_nz hd) hx' hy',rgcd_of hd hx hy,Int.natAbs_mul,Int.natAbs_mul,Nat.gcd_mul_left]
 conv=>rhs;rw [e,Rat.mkRat_mul_mkRat]
 congr 1
 rw [Int.natCast_mul,Int.natAbs_of_nonneg (Int.le_of_lt hn)]
theorem rgcd_nonneg (x y:Rat):0≤rgcd x y:=by
 unfold rgcd
 rw [←Rat.num_nonneg,Rat.num_mkRat]
 rw [if_neg (Nat.mul_ne_zero x.den_nz y.den_nz)]
 exact Int.ediv_nonneg (Int.natCast_nonneg _) (Int.natCast_nonneg _)
theorem rgcd_dvd (x y:Rat):∃k l:Int,x=k*rgcd x y∧y=l*rgcd x y:=by
 obtain⟨p,q,d,hd,hx,hy⟩:=common x y
 rw [rgcd_of hd hx hy]
 have h1:(Nat.gcd p.natAbs q.natAbs:Int)∣p:=Int.ofNat_dvd_left.2 (Nat.gcd_dvd_left _ _)
 have h2:(Nat.gcd p.natAbs q.natAbs:Int)∣q:=Int.ofNat_dvd_left.2 (Nat.gcd_dvd_right _ _)
 obtain⟨k,hk⟩:=h1
 obtain⟨l,hl⟩:=h2
 have key:∀(z k:Int),z=(Nat.gcd p.natAbs q.natAbs:Int)*k→mkRat z d=(k:Rat)*mkRat (Nat.gcd p.natAbs q.natAbs:Nat) d:=fun z k h=>by
  have e:(k:Rat)=mkRat k 1:=(Rat.mkRat_one k).symm
  rw [e,Rat.mkRat_mul_mkRat,Nat.one_mul,h,Int.mul_comm]
 exact⟨k,l,by rw [hx];exact key p k hk,by rw [hy];exact key q l hl⟩
theorem rgcd_zero {x y:Rat}(h:rgcd x y=0):x=0∧y=0:=by
 obtain⟨k,l,h1,h2⟩:=rgcd_dvd x y
 rw [h,Rat.mul_zero]at h1 h2
 exact⟨h1,h2⟩
theorem rgcd_ints (a b:Int):rgcd a b=((Nat.gcd a.natAbs b.natAbs:Nat):Rat):=by
 unfold rgcd
 rw [Rat.num_intCast,Rat.num_intCast,Rat.den_intCast,Rat.den_intCast,Nat.mul_one,Nat.mul_one,Nat.mul_one,Rat.mkRat_one];rfl
structure Li where
 a:Int
 b:Int
 c:Int
def Li.ok (l:Li):Prop:=Nat.gcd (Nat.gcd l.a.natAbs l.b.natAbs) l.c.natAbs=1∧(l.a≠0∨l.b≠0)
def g3 (a b c:Rat):Rat:=rgcd (rgcd a b) c
def prim (a b c:Rat):Li:=⟨(a*(g3 a b c)⁻¹).num,(b*(g3 a b c)⁻¹).num,(c*(g3 a b c)⁻¹).num⟩
theorem g3_mul (t a b c:Rat) (ht:0<t):g3 (t*a) (t*b) (t*c)=t*g3 a b c:=by unfold g3;rw [rgcd_mul t a b ht,rgcd_mul t _ c ht]
theorem g3_pos {a b c:Rat}(h:a≠0∨b≠0):0<g3 a b c:=by
 have h0:=rgcd_nonneg (rgcd a b) c
 rcases Rat.le_iff_lt_or_eq.1 h0 with h1|h1
 ·exact h1
 ·exfalso
  have h2:=(rgcd_zero h1.symm).1
  have h3:=rgcd_zero h2
  rcases h with h|h
  ·exact h h3.1
  ·exact h h3.2
theorem num_int {x:Rat}(h:x.den=1):(x.num:Rat)=x:=by
 apply Rat.ext <;> simp [h]
theorem prim_eq {a b c:Rat}(h:a≠0∨b≠0):a*(g3 a b c)⁻¹=((prim a b c).a:Rat)∧b*(g3 a b c)⁻¹=((prim a b c).b:Rat)∧c*(g3 a b c)⁻¹=((prim a b c).c:Rat):=by
 have hg:=g3_pos (c:=c) h
 have hne:g3 a b c≠0:=fun e=>by rw [e]at hg;exact absurd hg (by decide)
 obtain⟨k,l,h1,h2⟩:=rgcd_dvd a b
 obtain⟨u,v,h3,h4⟩:=rgcd_dvd (rgcd a b) c
 have ea:a*(g3 a b c)⁻¹=((k*u:Int):Rat):=by
  have:a=((k*u:Int):Rat)*g3 a b c:=by rw [Rat.intCast_mul,Rat.mul_assoc];unfold g3;rw [←h3];exact h1
  generalize g3 a b c=g at *
  rw [this,Rat.mul_assoc,Rat.mul_inv_cancel _ hne,Rat.mul_one]
 have eb:b*(g3 a b c)⁻¹=((l*u:Int):Rat):=by
  have:b=((l*u:Int):Rat)*g3 a b c:=by rw [Rat.intCast_mul,Rat.mul_assoc];unfold g3;rw [←h3];exact h2
  generalize g3 a b c=g at *
  rw [this,Rat.mul_assoc,Rat.mul_inv_cancel _ hne,Rat.mul_one]
 have ec:c*(g3 a b c)⁻¹=((v:Int):Rat):=by
  have:c=((v:Int):Rat)*g3 a b c:=h4
  generalize g3 a b c=g at *
  rw [this,Rat.mul_assoc,Rat.mul_inv_cancel _ hne,Rat.mul_one]
 unfold prim
 simp only []
 rw [ea,eb,ec,Rat.num_intCast,Rat.num_intCast,Rat.num_intCast]
 exact⟨rfl,rfl,rfl⟩
theorem prim_ok {a b c:Rat}(h:a≠0∨b≠0):(prim a b c).ok:=by
 have hg:=g3_pos (c:=c) h
 have hne:g3 a b c≠0:=fun e=>by rw [e]at hg;exact absurd hg (by decide)
 obtain⟨e1,e2,e3⟩:=prim_eq (c:=c) h
 have hi:0<(g3 a b c)⁻¹:=Rat.inv_pos.2 hg
 have h1:=g3_mul (g3 a b c)⁻¹ a b c hi
 rw [Rat.inv_mul_cancel _ hne,Rat.mul_comm _ a,Rat.mul_comm _ b,Rat.mul_comm _ c,e1,e2,e3]at h1
 unfold g3 at h1
 rw [rgcd_ints,show((Nat.gcd (prim a b c).a.natAbs (prim a b c).b.natAbs:Nat):Rat)=(((Nat.gcd (prim a b c).a.natAbs (prim a b c).b.natAbs:Nat):Int):Rat)from rfl,rgcd_ints,Int.natAbs_natCast]at h1
 refine⟨by exact_mod_cast h1,?_⟩
 rcases h with h|h
 ·left;intro e
  rw [e]at e1
  rcases Rat.mul_eq_zero.1 (e1.trans rfl)with h5|h5
  ·exact h h5
  ·rw [h5]at hi;exact absurd hi (by decide)
 ·right;intro e
  rw [e]at e2
  rcases Rat.mul_eq_zero.1 (e2.trans rfl)with h5|h5
  ·exact h h5
  ·rw [h5]at hi;exact absurd hi (by decide)
theorem prim_mul (t a b c:Rat) (ht:0<t):prim (t*a) (t*b) (t*c)=prim a b c:=by
 have hne:t≠0:=fun e=>by rw [e]at ht;exact absurd ht (by decide)
 have key:∀x:Rat,t*x*(t*g3 a b c)⁻¹=x*(g3 a b c)⁻¹:=fun x=>by
  rw [Rat.inv_mul_rev,Rat.mul_comm t x,Rat.mul_assoc,←Rat.mul_assoc t,Rat.mul_comm t,Rat.mul_assoc (g3 a b c)⁻¹,Rat.mul_inv_cancel _ hne,Rat.mul_one]
 unfold prim
 rw [g3_mul t a b c ht,key,key,key]
def Li.im (m:M6 Rat) (l:Li):Li:=prim (l.a*m.inv.a+l.b*m.inv.d) (l.a*m.inv.b+l.b*m.inv.e) (l.a*m.inv.c+l.b*m.inv.f+l.c)
theorem Li.im_ne {m:M6 Rat}{l:Li}(h:m.det≠0) (hl:l.ok):(l.a:Rat)*m.inv.a+l.b*m.inv.d≠0∨(l.a:Rat)*m.inv.b+l.b*m.inv.e≠0:=by
 have h1:m.det*m.det⁻¹=1:=Rat.mul_inv_cancel _ h
 have hd:m.det=m.a*m.e-m.d*m.b:=rfl
 unfold M6.inv
 simp only []
 generalize m.det⁻¹=k at *
 generalize m.det=D at *
 by_cases e1:(l.a:Rat)*(m.e*k)+l.b*(-m.d*k)=0
 ·right
  intro e2
  have ha:(l.a:Rat)=0:=by grind
  have hb:(l.b:Rat)=0:=by grind
  rcases hl.2 with h|h
  ·exact h (by exact_mod_cast ha)
  ·exact h (by exact_mod_cast hb)
 ·exact .inl e1
theorem Li.im_ok {m:M6 Rat}{l:Li}(h:m.det≠0) (hl:l.ok):(l.im m).ok:=prim_ok (Li.im_ne h hl)
def Li.neg (l:Li):Li:=⟨-l.a,-l.b,-l.c⟩
theorem g3_ints (a b c:Int):g3 a b c=((Nat.gcd (Nat.gcd a.natAbs b.natAbs) c.natAbs:Nat):Rat):=by
 unfold g3
 rw [rgcd_ints,show((Nat.gcd a.natAbs b.natAbs:Nat):Rat)=(((Nat.gcd a.natAbs b.natAbs:Nat):Int):Rat)from rfl,rgcd_ints,Int.natAbs_natCast]
theorem mul_inv_int {a:Int}{g:Nat}(hg:g≠0) (h:g∣a.natAbs):((a:Rat)*((g:Nat):Rat)⁻¹).num=sv (decide (a<0)) (a.natAbs/g):=by
 obtain⟨k,hk⟩:=h
 have hgr:((g:Nat):Rat)≠0:=by exact_mod_cast hg
 have ek:a.natAbs/g=k:=by rw [hk,Nat.mul_div_cancel_left _ (Nat.pos_of_ne_zero hg)]
 have ea:a=(g:Int)*sv (decide (a<0)) k:=by
  have h0:=sv_int a
  rw [hk]at h0
  conv=>lhs;rw [←h0]
  cases decide (a<0)
  ·simp [sv]
  ·simp [sv,Int.mul_neg]
 rw [ek]
 generalize sv (decide (a<0)) k=z at *
 have:(a:Rat)*((g:Nat):Rat)⁻¹=(z:Rat):=by
  rw [ea,Rat.intCast_mul,Rat.mul_comm,←Rat.mul_assoc]
  rw [show((g:Int):Rat)=((g:Nat):Rat)from rfl,Rat.inv_mul_cancel _ hgr,Rat.one_mul]
 rw [this,Rat.num_intCast]
theorem g_ne {a b:Int}(c:Int) (h:a≠0∨b≠0):Nat.gcd (Nat.gcd a.natAbs b.natAbs) c.natAbs≠0:=by
 intro e
 have h1:=(Nat.gcd_eq_zero_iff.1 e).1
 have h2:=Nat.gcd_eq_zero_iff.1 h1
 omega
theorem prim_ints {a b:Int}(c:Int) (h:a≠0∨b≠0):prim a b c=⟨sv (decide (a<0)) (a.natAbs/Nat.gcd (Nat.gcd a.natAbs b.natAbs) c.natAbs),sv (decide (b<0)) (b.natAbs/Nat.gcd (Nat.gcd a.natAbs b.natAbs) c.natAbs),
  sv (decide (c<0)) (c.natAbs/Nat.gcd (Nat.gcd a.natAbs b.natAbs) c.natAbs)⟩:=by
 have hg:=g_ne c h
 have d1:Nat.gcd (Nat.gcd a.natAbs b.natAbs) c.natAbs∣a.natAbs:=Nat.dvd_trans (Nat.gcd_dvd_left _ _) (Nat.gcd_dvd_left _ _)
 have d2:Nat.gcd (Nat.gcd a.natAbs b.natAbs) c.natAbs∣b.natAbs:=Nat.dvd_trans (Nat.gcd_dvd_left _ _) (Nat.gcd_dvd_right _ _)
 have d3:Nat.gcd (Nat.gcd a.natAbs b.natAbs) c.natAbs∣c.natAbs:=Nat.gcd_dvd_right _ _
 unfold prim
 rw [g3_ints]
 generalize Nat.gcd (Nat.gcd a.natAbs b.natAbs) c.natAbs=g at *
 rw [mul_inv_int hg d1,mul_inv_int hg d2,mul_inv_int hg d3]
theorem prim_abs {a b:Int}(c:Int) (h:a≠0∨b≠0):(prim a b c).a.natAbs≤a.natAbs∧(prim a b c).b.natAbs≤b.natAbs∧(prim a b c).c.natAbs≤c.natAbs:=by
 rw [prim_ints c h]
 simp only [sv_abs]
 exact⟨Nat.div_le_self _ _,Nat.div_le_self _ _,Nat.div_le_self _ _⟩
def thr (x y u v:Rat):Li:=prim (-(v-y)) (u-x) (-(-(v-y)*x+(u-x)*y))
theorem Li.n_pos {l:Li}(hl:l.ok):(0:Rat)<l.b*l.b + -l.a * -l.a:=by
 have h:0<l.b*l.b + -l.a * -l.a:=by
  have h1:0≤l.b*l.b:=by rcases Int.le_total 0 l.b with h|h;exact Int.mul_nonneg h h;exact Int.mul_nonneg_of_nonpos_of_nonpos h h
  have h2:0≤-l.a * -l.a:=by rcases Int.le_total 0 (-l.a)with h|h;exact Int.mul_nonneg h h;exact Int.mul_nonneg_of_nonpos_of_nonpos h h
  rcases hl.2 with h|h
  ·have : -l.a * -l.a≠0:=fun e=>by rcases Int.mul_eq_zero.1 e with e|e <;> omega
   omega
  ·have:l.b*l.b≠0:=fun e=>by rcases Int.mul_eq_zero.1 e with e|e <;> omega
   omega
 exact_mod_cast h
def nrm (xs:List Nat):Bool:=decide (xs.length=0)||decide (xs.getD (xs.length-1) 0≠0)
theorem nrm_dgs (n:Nat):nrm (dgs n)=true:=by
 by_cases h:n=0
 ·subst h;rw [dgs_zero];rfl
 ·obtain⟨k,h1,h2,_⟩:=dgs_top h
  unfold nrm
  rw [h1,Nat.add_sub_cancel,decide_eq_true h2,Bool.or_true]
theorem natNormal_pu (xs:List Nat) (hl:xs.length≤1000000000):Pu Tryz.prog 274 [dg xs] (lit (.bool (nrm xs))):=by
 unfold nrm
 by_cases h:xs.length=0
 ·rw [decide_eq_true h,Bool.true_or]
  refine Pu.intro Tryz.func274 rfl (by kernel_rfl) fun C=>?_
  repeat(refine A1 ⟨?_⟩;intros)
  exact E1
 ·rw [decide_eq_false h,Bool.false_or]
  by_cases h1:xs.getD (xs.length-1) 0=0
  ·rw [decide_eq_false (fun e=>e h1)]
   refine Pu.intro Tryz.func274 rfl (by kernel_rfl) fun C=>?_
   repeat(refine A1 ⟨?_⟩;intros)
   exact E1
  ·rw [decide_eq_true h1]
   refine Pu.intro Tryz.func274 rfl (by kernel_rfl) fun C=>?_
   repeat(refine A1 ⟨?_⟩;intros)
   exact E1
def nrmI (s:Bool) (xs:List Nat):Bool:=nrm xs&&(!s||decide (0<xs.length))
theorem nrmI_int (z:Int):nrmI (decide (z<0)) (dgs z.natAbs)=true:=by
 unfold nrmI
 rw [nrm_dgs,Bool.true_and]
 by_cases h:z<0
 ·rw [decide_eq_true h,decide_eq_true (dgs_len_pos (by omega)),Bool.or_true]
 ·rw [decide_eq_false h];rfl
theorem intNormal_pu (s:Bool) (xs:List Nat) (hl:xs.length≤1000000000):Pu Tryz.prog 233 [raw s xs] (lit (.bool (nrmI s xs))):=by
 have hn:=natNormal_pu xs hl
 unfold nrmI
 cases hx:nrm xs with
 |false =>
  rw [hx]at hn
  refine Pu.intro Tryz.func233 rfl (by kernel_rfl) fun C=>?_
  repeat(first|(refine A1 ⟨?_⟩;intros)|refine W4 hn ⟨?_⟩)
  exact E1
 |true =>
  rw [hx]at hn
  cases s with
  |false =>
   refine Pu.intro Tryz.func233 rfl (by kernel_rfl) fun C=>?_
   repeat(first|(refine A1 ⟨?_⟩;intros)|refine W4 hn ⟨?_⟩)
   exact E1
  |true =>
   by_cases h:0<xs.length
   ·rw [decide_eq_true h]
    refine Pu.intro Tryz.func233 rfl (by kernel_rfl) fun C=>?_
    repeat(first|(refine A1 ⟨?_⟩;intros)|refine W4 hn ⟨?_⟩)
    exact E1
   ·rw [decide_eq_false h]
    refine Pu.intro Tryz.func233 rfl (by kernel_rfl) fun C=>?_
    repeat(first|(refine A1 ⟨?_⟩;intros)|refine W4 hn ⟨?_⟩)
    exact E1
theorem intNormal_z (z:Int) (hl:il z≤1000000000):Pu Tryz.prog 233 [int z] (lit (.bool true)):=by
 have:=intNormal_pu (decide (z<0)) (dgs z.natAbs) hl
 rwa [nrmI_int]at this
theorem whole_pu (z:Int) (hl:il z≤10000000):Pu Tryz.prog 234 [int z] (fr (z:Rat)):=by
 have r:=reduce_pu (decide (z<0)) (dgs z.natAbs) [1] hl (by decide) (D_dgs _) (D.cons (by omega) D.nil)
 rw [val_dgs,sv_int,show val [1]=1 from rfl,Rat.mkRat_one]at r
 refine Pu.intro Tryz.func234 rfl (by kernel_rfl) fun C=>?_
 repeat(refine A1 ⟨?_⟩;intros)
 refine WpubD (ds:=[1]) 4 rfl (HDel.here _) rfl (by omega) (by omega) ?_
 repeat(first|(refine A1 ⟨?_⟩;intros)|refine W4 r ⟨?_⟩)
 ((first|refine endR ?_|refine endN ?_);refine end1 RVa (Le.refl _))
theorem gcd_n (a b:Nat) (h1:(dgs a).length≤10000000) (h2:(dgs b).length≤10000000):Pu Tryz.prog 219 [nat a,nat b] (nat (Nat.gcd a b)):=by
 have:=gcd_nat (dgs a) (dgs b) h1 h2 (D_dgs _) (D_dgs _)
 rwa [val_dgs,val_dgs]at this
theorem dlen_gcd_le {a b n:Nat}(ha:(dgs a).length≤n) (hb:(dgs b).length≤n):(dgs (Nat.gcd a b)).length≤n:=by
 by_cases h:a=0
 ·subst h;rw [Nat.gcd_zero_left];exact hb
 ·exact Nat.le_trans (len_mono (Nat.gcd_le_left b (by omega))) ha
theorem ht_rgcd (x y:Rat):ht (rgcd x y)≤ht x+ht y+1:=by
 have h1:=ht_num x
 have h2:=ht_den x
 have h3:=ht_num y
 have h4:=ht_den y
 have e1:il x.num=(dgs x.num.natAbs).length:=rfl
 have e2:il y.num=(dgs y.num.natAbs).length:=rfl
 have m1:=dlen_mul x.num.natAbs y.den
 have m2:=dlen_mul y.num.natAbs x.den
 have m3:=dlen_mul x.den y.den
 have m4:=dlen_gcd_le (n:=ht x+ht y) (a:=x.num.natAbs*y.den) (b:=y.num.natAbs*x.den) (by omega) (by omega)
 have:=ht_mk ((Nat.gcd (x.num.natAbs*y.den) (y.num.natAbs*x.den):Nat):Int) (x.den*y.den)
 rw [il_nat]at this
 unfold rgcd;omega
theorem eq_int {x:Rat}(h:x.den=1):x=(x.num:Rat):=(num_int h).symm
set_option maxHeartbeats 1000000 in
theorem frgcd_pu (x y:Rat) (hx:ht x≤3000000) (hy:ht y≤3000000):Pu Tryz.prog 235 [fr x,fr y] (fr (rgcd x y)):=by
 have d1:=x.den_pos
 have d2:=y.den_pos
 by_cases h:(small x∧small y)∧x.den=1∧y.den=1
 ·obtain⟨⟨hsx,hsy⟩,h1,h2⟩:=h
  have e:rgcd x y=((Nat.gcd x.num.natAbs y.num.natAbs:Nat):Rat):=by
   have:=rgcd_ints x.num y.num
   rwa [←eq_int h1,←eq_int h2]at this
  have bx:=hsx.1
  have byy:=hsy.1
  have hg:Nat.gcd x.num.natAbs y.num.natAbs<4611686018427387904:=by
   by_cases h0:x.num.natAbs=0
   ·rw [h0,Nat.gcd_zero_left];exact byy
   ·exact Nat.lt_of_le_of_lt (Nat.gcd_le_left _ (by omega)) bx
  have hs:small ((Nat.gcd x.num.natAbs y.num.natAbs:Nat):Rat):=by
   unfold small;rw [Rat.num_natCast,Rat.den_natCast];omega
  rw [e,fr_s hsx,fr_s hsy,fr_s hs,Rat.num_natCast,Rat.den_natCast]
  have g:=fgcd_pu x.num.natAbs y.num.natAbs (by omega) (by omega)
  have a1:=abs_pu x.num (by omega) (by omega)
  have a2:=abs_pu y.num (by omega) (by omega)
  generalize Nat.gcd x.num.natAbs y.num.natAbs=k at *
  refine Pu.intro Tryz.func235 rfl (by kernel_rfl) fun C=>?_
  repeat(first|(refine A1 ⟨?_⟩;intros)|refine W4 a1 ⟨?_⟩|refine W4 a2 ⟨?_⟩|refine W4 g ⟨?_⟩)
  refine endR (end1 (RV.cellA rfl List.mem_cons_self rfl rfl) (Le.ag ⟨Le.refl _,Le.int (by omega),Le.refl _,trivial⟩))
 ·have h1:=ht_num x
  have h2:=ht_den x
  have h3:=ht_num y
  have h4:=ht_den y
  have e1:il x.num=(dgs x.num.natAbs).length:=rfl
  have e2:il y.num=(dgs y.num.natAbs).length:=rfl
  have m1:=dlen_mul x.num.natAbs y.den
  have m2:=dlen_mul y.num.natAbs x.den
  have m3:=dlen_mul x.den y.den
  have m4:=dlen_gcd_le (n:=ht x+ht y) (a:=x.num.natAbs*y.den) (b:=y.num.natAbs*x.den) (by omega) (by omega)
  have c1:=den_pu x (by omega)
  have c2:=den_pu y (by omega)
  have c3:=mul_n x.den y.den (by omega) (by omega)
  have c4:=num_pu x (by omega)
  have c5:=num_pu y (by omega)
  have c6:=mul_n x.num.natAbs y.den (by omega) (by omega)
  have c7:=mul_n y.num.natAbs x.den (by omega) (by omega)
  have c8:=gcd_n (x.num.natAbs*y.den) (y.num.natAbs*x.den) (by omega) (by omega)
  have c9:=reduce_int ((Nat.gcd (x.num.natAbs*y.den) (y.num.natAbs*x.den):Nat):Int) (x.den*y.den) (by rw [il_nat];omega) (by omega)
  rw [int_nat]at c9
  clear m1 m2 m3 m4 h1 h2 h3 h4 e1 e2
  by_cases hsx:small x
  ·by_cases hsy:small y
   ·by_cases hx1:x.den=1
    ·have hy1:y.den≠1:=fun e=>h ⟨⟨hsx,hsy⟩,hx1,e⟩
     clear h
     rw [fr_s hsx,fr_s hsy]
     rw [fr_s hsx]at c1 c4
     rw [fr_s hsy]at c2 c5
     refine Pu.intro Tryz.func235 rfl (by kernel_rfl) fun C=>?_
     repeat(first|(refine A1 ⟨?_⟩;intros)|refine W4 c1 ⟨?_⟩|refine W4 c2 ⟨?_⟩|refine W4 c3 ⟨?_⟩|refine W4 c4 ⟨?_⟩|refine W4 c6 ⟨?_⟩|refine W4 c5 ⟨?_⟩|refine W4 c7 ⟨?_⟩|refine W4 c8 ⟨?_⟩|refine W4 c9 ⟨?_⟩)
     ((first|refine endR ?_|refine endN ?_);refine end1 RVa (Le.refl _))
    ·clear h
     rw [fr_s hsx,fr_s hsy]
     rw [fr_s hsx]at c1 c4
     rw [fr_s hsy]at c2 c5
     refine Pu.intro Tryz.func235 rfl (by kernel_rfl) fun C=>?_
     repeat(first|(refine A1 ⟨?_⟩;intros)|refine W4 c1 ⟨?_⟩|refine W4 c2 ⟨?_⟩|refine W4 c3 ⟨?_⟩|refine W4 c4 ⟨?_⟩|refine W4 c6 ⟨?_⟩|refine W4 c5 ⟨?_⟩|refine W4 c7 ⟨?_⟩|refine W4 c8 ⟨?_⟩|refine W4 c9 ⟨?_⟩)
     ((first|refine endR ?_|refine endN ?_);refine end1 RVa (Le.refl _))
   ·clear h
    rw [fr_s hsx,fr_b hsy]
    rw [fr_s hsx]at c1 c4
    rw [fr_b hsy]at c2 c5
    refine Pu.intro Tryz.func235 rfl (by kernel_rfl) fun C=>?_
    repeat(first|(refine A1 ⟨?_⟩;intros)|refine W4 c1 ⟨?_⟩|refine W4 c2 ⟨?_⟩|refine W4 c3 ⟨?_⟩|refine W4 c4 ⟨?_⟩|refine W4 c6 ⟨?_⟩|refine W4 c5 ⟨?_⟩|refine W4 c7 ⟨?_⟩|refine W4 c8 ⟨?_⟩|refine W4 c9 ⟨?_⟩)
    ((first|refine endR ?_|refine endN ?_);refine end1 RVa (Le.refl _))
  ·clear h
   rw [fr_b hsx]
   rw [fr_b hsx]at c1 c4
   refine Pu.intro Tryz.func235 rfl (by kernel_rfl) fun C=>?_
   repeat(first|(refine A1 ⟨?_⟩;intros)|refine W4 c1 ⟨?_⟩|refine W4 c2 ⟨?_⟩|refine W4 c3 ⟨?_⟩|refine W4 c4 ⟨?_⟩|refine W4 c6 ⟨?_⟩|refine W4 c5 ⟨?_⟩|refine W4 c7 ⟨?_⟩|refine W4 c8 ⟨?_⟩|refine W4 c9 ⟨?_⟩)
   ((first|refine endR ?_|refine endN ?_);refine end1 RVa (Le.refl _))
theorem fsign_pu (x:Rat) (h:ht x≤10000000):Pu Tryz.prog 185 [fr x] (lit (.int .i64 x.num.sign)):=by
 by_cases hs:small x
 ·rw [fr_s hs]
  rcases Int.lt_trichotomy x.num 0 with h0|h0|h0
  ·rw [Int.sign_eq_neg_one_of_neg h0]
   refine Pu.intro Tryz.func185 rfl (by kernel_rfl) fun C=>?_
   repeat(refine A1 ⟨?_⟩;intros)
   exact E1
  ·rw [h0]
   refine Pu.intro Tryz.func185 rfl (by kernel_rfl) fun C=>?_
   repeat(refine A1 ⟨?_⟩;intros)
   exact E1
  ·rw [Int.sign_eq_one_of_pos h0]
   refine Pu.intro Tryz.func185 rfl (by kernel_rfl) fun C=>?_
   repeat(refine A1 ⟨?_⟩;intros)
   exact E1
 ·have h1:=ht_num x
  have e1:il x.num=(dgs x.num.natAbs).length:=rfl
  have c:=sign_raw (decide (x.num<0)) (dgs x.num.natAbs) (by omega) (D_dgs _)
  rw [val_dgs,sv_int]at c
  rw [fr_b hs]
  refine Pu.intro Tryz.func185 rfl (by kernel_rfl) fun C=>?_
  repeat(first|(refine A1 ⟨?_⟩;intros)|refine W4 c ⟨?_⟩)
  exact E1
theorem mk_sign (a:Int){d:Nat}(hd:d≠0):(mkRat a d).num.sign=a.sign:=by
 rw [(mk_num a hd).1]
 have hg:0<Int.gcd a d:=Nat.pos_of_ne_zero (fun e=>by have:=(Int.gcd_eq_zero_iff.1 e).2;omega)
 obtain⟨q,hq⟩:=Int.gcd_dvd_left a d
 generalize Int.gcd a d=g at *
 subst hq
 have h1:((g:Nat):Int).sign=1:=Int.sign_eq_one_of_pos (by omega)
 rw [Int.mul_ediv_cancel_left _ (by omega),Int.sign_mul,h1,Int.one_mul]
theorem sub_sign {x y:Rat}(h:x.den=y.den):(x-y).num.sign=(x.num-y.num).sign:=by
 have hd:y.den≠0:=y.den_nz
 have h1:((y.den:Nat):Int).sign=1:=Int.sign_eq_one_of_pos (by omega)
 rw [Rat.sub_def',h,←Int.sub_mul,mk_sign _ (Nat.mul_ne_zero hd hd),Int.sign_mul,h1,Int.mul_one]
theorem fcmp_pu (x y:Rat) (hx:ht x≤3000000) (hy:ht y≤3000000):Pu Tryz.prog 277 [fr x,fr y] (lit (.int .i64 (x-y).num.sign)):=by
 have hb:=ht_sub x y
 have c1:=rsub_pu x y hx hy
 have c2:=fsign_pu (x-y) (by omega)
 by_cases h:(small x∧small y)∧x.den=y.den
 ·obtain⟨⟨hsx,hsy⟩,hd⟩:=h
  rw [fr_s hsx,fr_s hsy,sub_sign hd,hd]
  rcases Int.lt_trichotomy x.num y.num with h0|h0|h0
  ·rw [Int.sign_eq_neg_one_of_neg (by omega)]
   refine Pu.intro Tryz.func277 rfl (by kernel_rfl) fun C=>?_
   repeat(refine A1 ⟨?_⟩;intros)
   exact E1
  ·rw [h0,Int.sub_self]
   refine Pu.intro Tryz.func277 rfl (by kernel_rfl) fun C=>?_
   repeat(refine A1 ⟨?_⟩;intros)
   exact E1
  ·rw [Int.sign_eq_one_of_pos (by omega)]
   refine Pu.intro Tryz.func277 rfl (by kernel_rfl) fun C=>?_
   repeat(refine A1 ⟨?_⟩;intros)
   exact E1
 ·clear hb
  by_cases hsx:small x
  ·by_cases hsy:small y
   ·have hd:x.den≠y.den:=fun e=>h ⟨⟨hsx,hsy⟩,e⟩
    clear h
    rw [fr_s hsx,fr_s hsy]at c1⊢
    refine Pu.intro Tryz.func277 rfl (by kernel_rfl) fun C=>?_
    repeat(first|(refine A1 ⟨?_⟩;intros)|refine W4 c1 ⟨?_⟩|refine W4 c2 ⟨?_⟩)
    exact E1
   ·clear h
    rw [fr_s hsx,fr_b hsy]at c1⊢
    refine Pu.intro Tryz.func277 rfl (by kernel_rfl) fun C=>?_
    repeat(first|(refine A1 ⟨?_⟩;intros)|refine W4 c1 ⟨?_⟩|refine W4 c2 ⟨?_⟩)
    exact E1
  ·clear h
   rw [fr_b hsx]at c1⊢
   refine Pu.intro Tryz.func277 rfl (by kernel_rfl) fun C=>?_
   repeat(first|(refine A1 ⟨?_⟩;intros)|refine W4 c1 ⟨?_⟩|refine W4 c2 ⟨?_⟩)
   exact E1
theorem sub_sign_zero {x y:Rat}:(x-y).num.sign=0↔x=y:=by
 rw [Int.sign_eq_zero_iff_zero,Rat.num_eq_zero]
 constructor
 ·intro h;have:=congrArg (· + y) h;simp only [Rat.sub_eq_add_neg,Rat.add_assoc,Rat.neg_add_cancel,Rat.add_zero,Rat.zero_add]at this;exact this
 ·intro h;rw [h,Rat.sub_self]
theorem fequal_pu (x y:Rat) (hx:ht x≤3000000) (hy:ht y≤3000000):Pu Tryz.prog 236 [fr x,fr y] (lit (.bool (decide (x=y)))):=by
 have c:=fcmp_pu x y hx hy
 have e:=@sub_sign_zero _ x y
 by_cases h:x=y
 ·rw [decide_eq_true h]
  rw [e.2 h]at c
  refine Pu.intro Tryz.func236 rfl (by kernel_rfl) fun C=>?_
  repeat(first|(refine A1 ⟨?_⟩;intros)|refine W4 c ⟨?_⟩)
  exact E1
 ·rw [decide_eq_false h]
  have e':(x-y).num.sign≠0:=fun k=>h (e.1 k)
  clear e
  generalize(x-y).num.sign=s at *
  refine Pu.intro Tryz.func236 rfl (by kernel_rfl) fun C=>?_
  repeat(first|(refine A1 ⟨?_⟩;intros)|refine W4 c ⟨?_⟩)
  exact E1
abbrev lf (a b c:Rat):SV:=ag [lit (.int .i64 (r0 a)),lit (.int .i64 (r1 a)),r2 a,lit (.int .i64 (r0 b)),lit (.int .i64 (r1 b)),r2 b,lit (.int .i64 (r0 c)),lit (.int .i64 (r1 c)),r2 c]
abbrev lq (l:Li):SV:=ag [lit (.bool (decide (l.a<0))),nat l.a.natAbs,lit (.bool (decide (l.b<0))),nat l.b.natAbs,lit (.bool (decide (l.c<0))),nat l.c.natAbs]
structure Li.le (l:Li) (L:Nat):Prop where
 a:il l.a≤L
 b:il l.b≤L
 c:il l.c≤L
theorem lnormal_pu (a b c:Rat):Pu Tryz.prog 179 [lf a b c] (pp a b):=by
 refine Pu.intro Tryz.func179 rfl (by kernel_rfl) fun C=>?_
 repeat(refine A1 ⟨?_⟩;intros)
 ((first|refine endR ?_|refine endN ?_);refine end1 RVa (Le.refl _))
theorem pdot_pu (x y u v:Rat) (hx:ht x≤1000000) (hy:ht y≤1000000) (hu:ht u≤1000000) (hv:ht v≤1000000):Pu Tryz.prog 181 [pp x y,pp u v] (fr (x*u+y*v)):=by
 have h1:=ht_mul x u
 have h2:=ht_mul y v
 refine Pu.intro Tryz.func181 rfl (by kernel_rfl) fun C=>?_
 repeat(first|(refine A1 ⟨?_⟩;intros)|refine W4 (rmul_pu x u (by omega) (by omega)) ⟨?_⟩|refine W4 (rmul_pu y v (by omega) (by omega)) ⟨?_⟩|refine W4 (radd_pu (x*u) (y*v) (by omega) (by omega)) ⟨?_⟩)
 ((first|refine endR ?_|refine endN ?_);refine end1 RVa (Le.refl _))
theorem lvalue_pu (a b c x y:Rat) (ha:ht a≤100000) (hb:ht b≤100000) (hc:ht c≤100000) (hx:ht x≤100000) (hy:ht y≤100000):Pu Tryz.prog 182 [lf a b c,pp x y] (fr (a*x+b*y+c)):=by
 have h1:=ht_mul a x
 have h2:=ht_mul b y
 have h3:=ht_add (a*x) (b*y)
 have c1:=lnormal_pu a b c
 have c2:=pdot_pu a b x y (by omega) (by omega) (by omega) (by omega)
 have c3:=radd_pu (a*x+b*y) c (by omega) (by omega)
 refine Pu.intro Tryz.func182 rfl (by kernel_rfl) fun C=>?_
 repeat(first|(refine A1 ⟨?_⟩;intros)|refine W4 c1 ⟨?_⟩|refine W4 c2 ⟨?_⟩|refine W4 c3 ⟨?_⟩)
 ((first|refine endR ?_|refine endN ?_);refine end1 RVa (Le.refl _))
theorem ht_of_int (z:Int):ht (z:Rat)=max (il z) 1:=by
 unfold ht
 rw [Rat.num_intCast,Rat.den_intCast,dgs_one];rfl
theorem lapi_pu (l:Li) (h:l.le 1000000):Pu Tryz.prog 112 [lf l.a l.b l.c] (lq l):=by
 obtain⟨ha,hb,hc⟩:=h
 have e1:=ht_of_int l.a
 have e2:=ht_of_int l.b
 have e3:=ht_of_int l.c
 have c1:=num_pu (l.a:Rat) (by omega)
 have c2:=num_pu (l.b:Rat) (by omega)
 have c3:=num_pu (l.c:Rat) (by omega)
 rw [Rat.num_intCast]at c1 c2 c3
 refine Pu.intro Tryz.func112 rfl (by kernel_rfl) fun C=>?_
 repeat(first|(refine A1 ⟨?_⟩;intros)|refine W4 c1 ⟨?_⟩|refine W4 c2 ⟨?_⟩|refine W4 c3 ⟨?_⟩)
 ((first|refine endR ?_|refine endN ?_);refine end1 RVa (Le.refl _))
theorem mulM (v:Value) (w:World):(Go.method ((Tryz.prog).types.size+Made.depth) 112 v "Mul").run Tryz.prog w = .ok (226,v) w:=by kernel_rfl
abbrev fr3 (a b c:Rat):List SV:=[lit (.int .i64 (r0 a)),lit (.int .i64 (r1 a)),r2 a,lit (.int .i64 (r0 b)),lit (.int .i64 (r1 b)),r2 b,lit (.int .i64 (r0 c)),lit (.int .i64 (r1 c)),r2 c]
set_option maxRecDepth 20000 in
set_option maxHeartbeats 1000000 in
theorem scaled_pu (b0:Nat) (f a b c:Rat) (hf:ht f≤1000000) (ha:ht a≤1000000) (hb:ht b≤1000000) (hc:ht c≤1000000) :
  PuH Tryz.prog 244 [fr f,lit (.slice (some ⟨b0,0,none⟩) 3 3)] [(b0,112,fr3 a b c)] (fun r H=>r=lit (.slice (some ⟨b0,0,none⟩) 3 3)∧H=[(b0,112,fr3 (a*f) (b*f) (c*f))]) noX:=by
 have m1:=rmul_pu a f (by omega) (by omega)
 have m2:=rmul_pu b f (by omega) (by omega)
 have m3:=rmul_pu c f (by omega) (by omega)
 refine PuH.intro Tryz.func244 rfl (by kernel_rfl) fun C hC=>?_
 repeat(refine A1 ⟨?_⟩;intros)
 refine WP.unroll 4 ?_
 repeat(refine A1 ⟨?_⟩;intros)
 refine Wdo (ov_invoke mulM m1 rfl rfl) ?_
 repeat(refine A1 ⟨?_⟩;intros)
 refine Wdo (ov_invoke mulM m2 rfl rfl) ?_
 repeat(refine A1 ⟨?_⟩;intros)
 refine Wdo (ov_invoke mulM m3 rfl rfl) ?_
 repeat(refine A1 ⟨?_⟩;intros)
 exact endHR _ _ (end1 (RV.tmp rfl) (Le.refl _)) (List.Sublist.cons _ (List.Sublist.refl _)) ⟨rfl,rfl⟩
end Go.Ab
