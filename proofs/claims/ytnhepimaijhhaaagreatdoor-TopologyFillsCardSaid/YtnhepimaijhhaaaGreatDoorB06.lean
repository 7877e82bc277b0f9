/- Texts laid one behind the other: Div, FracB, FracC. -/
import Derived.Test.YtnhepimaijhhaaaGreatDoorLong
set_option linter.all false
set_option maxHeartbeats 16000000
namespace Go.Ab
open Go.Proofs
variable [Base]
theorem HO {q:List Nat}(h:q.length=1):val q=q.getD 0 0:=by
 match q,h with
 | [d],_=>simp [val]
theorem nF (xs ys:List Nat) (hla:xs.length≤10000000) (hlb:ys.length≤10000000) (hA:D xs) (hB:D ys) (h0:val ys≠0):Pu Tryz.prog 220 [dg xs,dg ys] (tup [nat (val xs/val ys),nat (val xs%val ys),lit (.bool true)]):=by
 obtain⟨p,t1,h1,hP,hva,hpd⟩:=kD xs hla om hA;obtain⟨q,t2,h2,hQ,hvb,hqd⟩:=kD ys hlb om hB;rw [←hva]at hpd;rw [←hvb]at hqd h0;rw [←hva,←hvb];have hqp:0<q.length:=by rw [hqd];exact ci h0
 refine Pi Tryz.func220 fun C=>?_
 repeat(refine A1 ⟨?_⟩;intros)
 refine Wc t1 ?_;repeat(refine A1 ⟨?_⟩;intros)
 refine Wc t2 ?_;repeat(refine A1 ⟨?_⟩;intros)
 refine Wc (Ci p q om om hP hQ) ?_;by_cases hlt:val p<val q
 ·rw [iR hlt,Nat.div_eq_of_lt hlt,Nat.mod_eq_of_lt hlt];repeat(refine A1 ⟨?_⟩;intros)
  refine Wc (zh p om) ?_;repeat(refine A1 ⟨?_⟩;intros)
  refine aS (JF (RV.tmp rfl) (RV.tmp rfl) (RV.tmp rfl) ?_);show Le (tup [lit (.slice none 0 0),dg p,lit (.bool true)]) (tup [dg (dgs 0),dg (dgs (val p)),lit (.bool true)])
  rw [←hpd,aT];exact Le.tup3 eM Lr Lr
 ·have hc:=wZ (val p) (val q);by_cases hq1:q.length=1
  ·have hd:=HO hq1;have hdb:val q<4294967296:=by rw [hd];exact hQ.get 0
   repeat(refine A1 ⟨?_⟩;intros)
   rw [←hd];refine Wc (CC p (val q) om hP h0 hdb) ?_;have hm:val p%val q<val q:=Nat.mod_lt _ om;generalize val p%val q=m at *;generalize val p/val q=e at *;repeat(refine A1 ⟨?_⟩;intros)
   refine Wc (gm m om) ?_;repeat(refine A1 ⟨?_⟩;intros)
   ((first|refine aS ?_|refine eV ?_);exact JF (RV.tmp rfl) (RV.tmp rfl) (RV.tmp rfl) Lr)
  ·repeat(refine A1 ⟨?_⟩;intros)
   refine Wc (G0 p q hpd hqd om om om) ?_;repeat(refine A1 ⟨?_⟩;intros)
   ((first|refine aS ?_|refine eV ?_);exact JF (RV.tmp rfl) (RV.tmp rfl) (RV.tmp rfl) Lr)
theorem FY {n:Nat}(h:(dgs n).length≤2):n<18446744073709551616:=Nat.lt_of_lt_of_le (jD n) (Nat.le_trans (Nat.pow_le_pow_right om h) (by decide))
theorem BY (xs ys:List Nat) (hla:xs.length≤10000000) (hlb:ys.length≤10000000) (hA:D xs) (hB:D ys):Pu Tryz.prog 203 [dg xs,dg ys] (nat (Nat.gcd (val xs) (val ys))):=by
 have la:∀{k},k≤val xs→(dgs k).length≤10000000:=fun h=>by have:=bS (Nat.lt_of_le_of_lt h (bQ hA));omega
 have lb:∀{k},k≤val ys→(dgs k).length≤10000000:=fun h=>by have:=bS (Nat.lt_of_le_of_lt h (bQ hB));omega
 refine Pi Tryz.func203 fun C=>?_
 repeat(refine A1 ⟨?_⟩;intros)
 refine Wc (jZ xs om hA) ?_;repeat(refine A1 ⟨?_⟩;intros)
 refine Wc (jZ ys om hB) ?_;repeat(refine A1 ⟨?_⟩;intros)
 refine WP.loop (ι:=Nat×Nat) (fun s=>Nat.gcd s.1 s.2=Nat.gcd (val xs) (val ys)∧(dgs s.1).length≤10000000∧(dgs s.2).length≤10000000) (fun s=>s.2)
  (fun s=>fm [(0,nat s.1),(1,nat s.2)]) (fun _=>[]) (val xs,val ys) ⟨rfl,la (Nat.le_refl _),lb (Nat.le_refl _)⟩ lfA rfl ?_
 rintro ⟨a,b⟩ ⟨hg,hla,hlb⟩ K hK;simp only at hg hla hlb⊢;by_cases hs:(dgs a).length≤2∧(dgs b).length≤2
 ·have ba:=FY hs.1;have bb:=FY hs.2;have u1:=nX (dgs a) om (aO a);have u2:=nX (dgs b) om (aO b);rw [an,if_pos ba]at u1;rw [an,if_pos bb]at u2;repeat(refine A1 ⟨?_⟩;intros)
  refine Wc u1 ?_;repeat(refine A1 ⟨?_⟩;intros)
  refine Wc u2 ?_;repeat(refine A1 ⟨?_⟩;intros)
  rw [←hg]
  refine WP.loop (ι:=Nat×Nat) (fun s=>Nat.gcd s.1 s.2=Nat.gcd a b∧s.1<18446744073709551616∧s.2<18446744073709551616) (fun s=>s.2)
   (fun s=>fm [(8,lit (.int .u64 s.1)),(10,lit (.int .u64 s.2))]) (fun _=>[]) (a,b) ⟨rfl,ba,bb⟩ lfA rfl ?_
  rintro ⟨c,d⟩ ⟨hg',hc,hd⟩ K hK;simp only at hg' hc hd⊢;by_cases h0:d=0
  ·subst h0;rw [Nat.gcd_zero_right]at hg';rw [←hg'];repeat(refine A1 ⟨?_⟩;intros)
   refine Wc (gm c hc) ?_;exact Z1
  ·have hm:c%d<d:=Nat.mod_lt _ om;have hgg:Nat.gcd d (c%d)=Nat.gcd a b:=by rw [←hg',Nat.gcd_comm c d,Nat.gcd_rec d c,Nat.gcd_comm]
   repeat(refine A1 ⟨?_⟩;intros)
   exact hK _ _ (d,c%d) ⟨hgg,hd,by simp only;omega⟩ hm lfA rfl
 ·by_cases h0:b=0
  ·subst h0;rw [Nat.gcd_zero_right]at hg;rw [←hg];have hl:(dgs 0).length=0:=by rw [aT];rfl
   exact Z1
  ·have hp:=ci h0;have hm:a%b<b:=Nat.mod_lt _ om;have hgg:Nat.gcd b (a%b)=Nat.gcd (val xs) (val ys):=by rw [←hg,Nat.gcd_comm a b,Nat.gcd_rec b a,Nat.gcd_comm]
   have dm:=nF (dgs a) (dgs b) hla hlb (aO a) (aO b) (by rw [an];exact h0);rw [an,an]at dm;have hlm:=aQ (Nat.le_of_lt hm);by_cases ha:(dgs a).length≤2
   ·repeat(refine A1 ⟨?_⟩;intros)
    refine Wc dm ?_;repeat(refine A1 ⟨?_⟩;intros)
    exact hK _ _ (b,a%b) ⟨hgg,hlb,by simp only;omega⟩ hm lfA rfl
   ·repeat(refine A1 ⟨?_⟩;intros)
    refine Wc dm ?_;repeat(refine A1 ⟨?_⟩;intros)
    exact hK _ _ (b,a%b) ⟨hgg,hlb,by simp only;omega⟩ hm lfA rfl
theorem rP:bB 0:=by unfold bB;decide
theorem Kx (s:Bool){a g:Nat}(h:g∣a):sv s a/(g:Int)=sv s (a/g):=by
 obtain⟨k,rfl⟩:=h;by_cases h0:g=0
 ·subst h0;cases s <;> simp [sv]
 ·rw [Nat.mul_div_cancel_left _ om];cases s
  ·simp only [sv,cond_false];rw [Int.natCast_mul,Int.mul_ediv_cancel_left _ om]
  ·simp only [sv,cond_true];rw [Int.natCast_mul,←Int.mul_neg,Int.mul_ediv_cancel_left _ om]
theorem Kh (s:Bool) (a:Nat){d:Nat}(h:d≠0):(mkRat (sv s a) d).num=sv s (a/Nat.gcd a d)∧(mkRat (sv s a) d).den=d/Nat.gcd a d:=by
 have h:=wy (sv s a) h;rw [show Int.gcd (sv s a) d=Nat.gcd a d from by unfold Int.gcd;rw [gC];rfl]at h;rw [Kx s (Nat.gcd_dvd_left a d)]at h;exact h
theorem Ht {n:Nat}:cE n≤62↔n<4611686018427387904:=eA
theorem Kn {n:Nat}:cE n=0↔n=0:=by have:=eA (n:=n) (k:=0);simp only [Nat.pow_zero]at this;omega
theorem M7 {n:Nat}:1<cE n↔1<n:=by have:=eA (n:=n) (k:=1);simp only [Nat.pow_one]at this;omega
theorem lV {xs:List Nat}(hD:D xs) (h:xs.length≤1000000000):cE (val xs)≤32000000000:=by
 have:=zr hD;omega
theorem mj (s:Bool) (xs ys:List Nat) (hlx:xs.length≤10000000) (hly:ys.length≤10000000) (hX:D xs) (hY:D ys):Pu Tryz.prog 198 [raw s xs,dg ys] (fr (mkRat (sv s (val xs)) (val ys))):=by
 have bx:=lV hX om;have bY:=lV hY om;by_cases h0:val ys=0
 ·rw [h0,Rat.mkRat_zero,fP rP];have b0:=Kn.2 h0;refine Pi Tryz.func198 fun C=>?_
  repeat(refine A1 ⟨?_⟩;intros)
  refine Wc (gt ys om hY) ?_;exact Z2
 ·have b0:cE (val ys)≠0:=fun h=>h0 (Kn.1 h)
  by_cases hx0:val xs=0
  ·rw [hx0,show sv s 0=0 from by cases s <;> rfl,Rat.zero_mkRat,fP rP];have sg:=rS s xs om hX;rw [hx0,show sv s 0=0 from by cases s <;> rfl,Int.sign_zero]at sg;refine Pi Tryz.func198 fun C=>?_
   repeat(refine A1 ⟨?_⟩;intros)
   refine Wc (gt ys om hY) ?_;repeat(refine A1 ⟨?_⟩;intros)
   refine Wcg sg ?_;exact Z2
  ·have hg0:Nat.gcd (val xs) (val ys)≠0:=fun h=>h0 (Nat.gcd_eq_zero_iff.1 h).2
   have gd1:=Nat.gcd_dvd_left (val xs) (val ys);have gd2:=Nat.gcd_dvd_right (val xs) (val ys);have gl:=Nat.le_of_dvd (Nat.pos_of_ne_zero h0) gd2;have gx:=Nat.le_of_dvd (Nat.pos_of_ne_zero hx0) gd1;have dx:=jd hX;have dy:=jd hY;have hgl:=aQ gl;obtain⟨e1,e2⟩:=Kh s (val xs) h0;have g1:=BY xs ys hlx hly hX hY;generalize hx:mkRat (sv s (val xs)) (val ys)=x at *;generalize Nat.gcd (val xs) (val ys)=g at *;have bg:=gt (dgs g) om (aO g);rw [an]at bg;have bgb:cE g≤32000000000:=by have:=lV (aO g) om;rwa [an]at this
   have d1:=nF xs (dgs g) hlx om hX (aO g) (by rw [an];exact hg0);have d2:=nF ys (dgs g) hly om hY (aO g) (by rw [an];exact hg0);rw [an]at d1 d2;have sg:=rS s xs om hX;have sgn:(sv s (val xs)).sign≠0:=fun h=>hx0 (by have:=Int.sign_eq_zero_iff_zero.1 h;have:=congrArg Int.natAbs this;rw [gC]at this;exact this)
   have sgb : -1≤(sv s (val xs)).sign∧(sv s (val xs)).sign≤1:=by
    rcases Int.lt_trichotomy (sv s (val xs)) 0 with h|h|h
    ·rw [Int.sign_eq_neg_one_of_neg h];omega
    ·rw [h];decide
    ·rw [Int.sign_eq_one_of_pos h];omega
   generalize(sv s (val xs)).sign=sx at *;refine Pi Tryz.func198 fun C=>?_
   repeat(refine A1 ⟨?_⟩;intros)
   refine Wc (gt ys om hY) ?_;repeat(refine A1 ⟨?_⟩;intros)
   refine Wcg sg ?_;repeat(refine A1 ⟨?_⟩;intros)
   refine Wc g1 ?_;repeat(refine A1 ⟨?_⟩;intros)
   refine Wc bg ?_;repeat(refine A1 ⟨?_⟩;intros)
   rename_i b2 b4
   refine WP.via (fun F H=>∃us vs,us.length≤10000000∧vs.length≤10000000∧D us∧D vs∧val us=val xs/g∧val vs=val ys/g∧
    LeF F (fm [(1,dg vs),(2,lit (.pointer (some ⟨b2,0,none⟩))),(4,lit (.pointer (some ⟨b4,0,none⟩)))])∧
    H=[(b4,136,[lit (.int .i64 0),lit (.int .i64 0),lit (.pointer none)]),(b2,92,[lit (.bool s),dg us])]) ?_ ?_
   ·refine WPd (fun h=>?_) (fun h=>?_)
    ·have l1:=aQ (Nat.div_le_self (val xs) g);have l2:=aQ (Nat.div_le_self (val ys) g);repeat(refine A1 ⟨?_⟩;intros)
     refine Wc d1 ?_;repeat(refine A1 ⟨?_⟩;intros)
     refine Wc d2 ?_;repeat(refine A1 ⟨?_⟩;intros)
     exact⟨dgs (val xs/g),dgs (val ys/g),om,om,aO _,aO _,an _,an _,lfA,rfl⟩
    ·have hg1:g=1:=by have:=M7 (n:=g);omega
     subst hg1;repeat(refine A1 ⟨?_⟩;intros)
     exact⟨xs,ys,om,om,hX,hY,(Nat.div_one _).symm,(Nat.div_one _).symm,lfA,rfl⟩
   ·rintro F H ⟨us,vs,lu,lv,hU,hV,eu,ev,hF,rfl⟩;rw [←eu]at e1;rw [←ev]at e2;refine WP.le hF ?_;have bu:=gt us om hU;have bv:=gt vs om hV;have bub:=lV hU om;have bvb:=lV hV om;have c1:=Ht (n:=val us);have c2:=Ht (n:=val vs);have hv0:val vs≠0:=by rw [←e2];exact x.den_nz
    have hna:x.num.natAbs=val us:=by rw [e1,gC]
    have nr:=sR s us om hU;have nn:=jZ vs om hV;by_cases hs1:val us<4611686018427387904
    ·by_cases hs2:val vs<4611686018427387904
     ·rw [fP ⟨om,om⟩,e1,e2];have i6:=Dn s us om hU hs1;have u6:=nX vs om hV;rw [if_pos om]at u6;have hsb : -4611686018427387904<sv s (val us)∧sv s (val us)<4611686018427387904:=by have:=gC s (val us);omega
      generalize sv s (val us)=z at *;repeat(refine A1 ⟨?_⟩;intros)
      refine Wc bu ?_;repeat(refine A1 ⟨?_⟩;intros)
      refine Wcg bv ?_;repeat(refine A1 ⟨?_⟩;intros)
      refine Wc i6 ?_;repeat(refine A1 ⟨?_⟩;intros)
      refine Wc u6 ?_;exact Z2
     ·rw [nC (fun h=>hs2 (e2▸h.2)),e1,e2,gC];simp only [int,gC]at nr;repeat(refine A1 ⟨?_⟩;intros)
      refine Wc bu ?_;repeat(refine A1 ⟨?_⟩;intros)
      refine Wcg bv ?_;repeat(refine A1 ⟨?_⟩;intros)
      refine Wc nr ?_;repeat(refine A1 ⟨?_⟩;intros)
      refine Wc nn ?_;iterate 2 (refine O1 ⟨?_⟩;intros)
      refine Kr 71 rfl (ac.here _) ?_;exact Z2
    ·rw [nC (fun h=>hs1 (hna▸h.1)),e1,e2,gC];simp only [int,gC]at nr;repeat(refine A1 ⟨?_⟩;intros)
     refine Wc bu ?_;repeat(refine A1 ⟨?_⟩;intros)
     refine Wc nr ?_;repeat(refine A1 ⟨?_⟩;intros)
     refine Wc nn ?_;iterate 2 (refine O1 ⟨?_⟩;intros)
     refine Kr 71 rfl (ac.here _) ?_;exact Z2
theorem kV:dgs 1=[1]:=by rw [dgs];simp [aT]
def il (a:Int):Nat:=(dgs a.natAbs).length
def ht (x:Rat):Nat:=max (il x.num) (dgs x.den).length
theorem jG (a b:Int):il (a*b)≤il a+il b:=by unfold il;rw [Int.natAbs_mul];exact cg _ _
theorem th (n:Nat):il (n:Int)=(dgs n).length:=rfl
theorem wN (a b:Int):il (a+b)≤max (il a) (il b)+1:=Nat.le_trans (aQ (Int.natAbs_add_le a b)) (tE _ _)
theorem cw (a:Int):il (-a)=il a:=by unfold il;rw [Int.natAbs_neg]
theorem cJ (x:Rat):il x.num≤ht x:=Nat.le_max_left _ _
theorem cS (x:Rat):(dgs x.den).length≤ht x:=Nat.le_max_right _ _
theorem cz (x:Rat):ht (-x)=ht x:=by unfold ht;rw [Rat.neg_num,Rat.neg_den,cw]
theorem BU (a:Int) (d:Nat):ht (mkRat a d)≤max (il a) (max (dgs d).length 1):=by
 by_cases h:d=0
 ·subst h;rw [Rat.mkRat_zero];refine Nat.le_trans (Nat.max_le.2 ⟨?_,?_⟩) (Nat.le_trans (Nat.le_max_right _ _) (Nat.le_max_right _ _))
  ·show(dgs 0).length≤1;rw [aT];decide
  ·exact bS (by decide)
 ·obtain⟨e1,e2⟩:=wy a h
  have h1:il (mkRat a d).num≤il a:=by
   rw [e1];refine aQ ?_;have hga:((Int.gcd a d:Nat):Int)∣a:=Int.gcd_dvd_left a (d:Int);rw [←Int.tdiv_eq_ediv_of_dvd hga,Int.natAbs_tdiv];exact Nat.div_le_self _ _
  have h2:(dgs (mkRat a d).den).length≤(dgs d).length:=by rw [e2];exact aQ (Nat.div_le_self _ _)
  unfold ht;omega
theorem dp (x y:Rat):ht (x+y)≤ht x+ht y+1:=by
 rw [Rat.add_def'];refine Nat.le_trans (BU _ _) ?_;have a1:=wN (x.num*y.den) (y.num*x.den);have a2:=jG x.num y.den;have a3:=jG y.num x.den;have a4:=cg x.den y.den;rw [th]at a2 a3;have b1:=cJ x;have b2:=cS x;have b3:=cJ y;have b4:=cS y;omega
theorem aA (x y:Rat):ht (x*y)≤ht x+ht y+1:=by
 rw [Rat.mul_def'];refine Nat.le_trans (BU _ _) ?_;have a1:=jG x.num y.num;have a4:=cg x.den y.den;have b1:=cJ x;have b2:=cS x;have b3:=cJ y;have b4:=cS y;omega
theorem ef (x y:Rat):ht (x-y)≤ht x+ht y+1:=by
 rw [Rat.sub_eq_add_neg];have:=dp x (-y);rwa [cz]at this
abbrev Mw (s:Bool) (xs ys:List Nat):SV:=ag [lit (.bool s),dg xs,dg ys]
abbrev q (x:Rat):SV:=ag [lit (.bool (decide (x.num<0))),nat x.num.natAbs,nat x.den]
theorem FL (a:Int) (h:il a≤1000000000):Pu Tryz.prog 147 [int a] (int a):=by
 have:=sR (decide (a<0)) (dgs a.natAbs) h (aO _);rwa [an,eK]at this
theorem J6 (a:Int) (h:il a≤1000000000):Pu Tryz.prog 238 [int a] (int (-a)):=by
 have:=J5 (decide (a<0)) (dgs a.natAbs) h (aO _);rwa [an,eK]at this
theorem L6 (n:Nat) (h:(dgs n).length≤1000000000):Pu Tryz.prog 188 [nat n] (nat n):=by
 have:=jZ (dgs n) h (aO _);rwa [an]at this
theorem yo (a b:Nat) (h1:(dgs a).length≤100000000) (h2:(dgs b).length≤100000000):Pu Tryz.prog 201 [nat a,nat b] (nat (a*b)):=by
 have:=BD (dgs a) (dgs b) h1 h2 (aO _) (aO _);rwa [an,an]at this
theorem BE (a b:Int) (h1:il a≤100000000) (h2:il b≤100000000):Pu Tryz.prog 255 [int a,int b] (int (a*b)):=by
 have:=Jb (decide (a<0)) (decide (b<0)) (dgs a.natAbs) (dgs b.natAbs) h1 h2 (aO _) (aO _);rwa [an,an,eK,eK]at this
theorem yp (a:Int) (n:Nat) (h1:il a≤100000000) (h2:(dgs n).length≤100000000):Pu Tryz.prog 255 [int a,raw false (dgs n)] (int (a*n)):=by
 have:=BE a n h1 h2;rwa [wH]at this
theorem K5 (a b:Int) (h1:il a≤100000000) (h2:il b≤100000000):Pu Tryz.prog 254 [int a,int b] (int (a+b)):=by
 have:=JZ (decide (a<0)) (decide (b<0)) (dgs a.natAbs) (dgs b.natAbs) h1 h2 (aO _) (aO _);rwa [an,an,eK,eK]at this
theorem mV (a:Int) (n:Nat) (h1:il a≤10000000) (h2:(dgs n).length≤10000000):Pu Tryz.prog 198 [int a,nat n] (fr (mkRat a n)):=by
 have:=mj (decide (a<0)) (dgs a.natAbs) (dgs n) h1 h2 (aO _) (aO _);rwa [an,an,eK]at this
theorem wT (z:Int) (h0 : -9223372036854775808≤z) (h1:z≤9223372036854775807):Pu Tryz.prog 180 [lit (.int .i64 z)] (fr (z:Rat)):=by
 have hil:il z≤10000000:=Nat.le_trans (bS (n:=z.natAbs) (k:=2) om) om;have r:=mj (decide (z<0)) (dgs z.natAbs) [1] hil (by decide) (aO _) (D.cons om D.nil);rw [an,eK,show val [1]=1 from rfl,Rat.mkRat_one]at r;by_cases ha:z≤-4611686018427387904
 ·refine Pi Tryz.func180 fun C=>?_
  repeat(refine A1 ⟨?_⟩;intros)
  refine Wc (nB z h0 h1) ?_;repeat(refine A1 ⟨?_⟩;intros)
  refine gA (ds:=[1]) 11 rfl (ac.here _) rfl om om ?_;refine Wc r ?_;exact Z2
 ·by_cases hb:4611686018427387904≤z
  ·refine Pi Tryz.func180 fun C=>?_
   repeat(refine A1 ⟨?_⟩;intros)
   refine Wc (nB z h0 h1) ?_;repeat(refine A1 ⟨?_⟩;intros)
   refine gA (ds:=[1]) 11 rfl (ac.here _) rfl om om ?_;refine Wc r ?_;exact Z2
  ·have hs:bB (z:Rat):=by unfold bB;rw [Rat.num_intCast,Rat.den_intCast];omega
   rw [fP hs,Rat.num_intCast,Rat.den_intCast];refine Pi Tryz.func180 fun C=>?_
   exact Z2
theorem kK (x:Rat) (h:ht x≤10000000):Pu Tryz.prog 105 [fr x] (int x.num):=by
 have b1:=cJ x;by_cases hs:bB x
 ·rw [fP hs];have:=hs.1;refine Pi Tryz.func105 fun C=>?_
  repeat(refine A1 ⟨?_⟩;intros)
  refine Wc (nB x.num om om) ?_;exact Z2
 ·rw [nC hs];refine Pi Tryz.func105 fun C=>?_
  repeat(refine A1 ⟨?_⟩;intros)
  refine Wc (FL x.num om) ?_;exact Z2
theorem lU (x:Rat) (h:ht x≤10000000):Pu Tryz.prog 202 [fr x] (nat x.den):=by
 have b1:=cS x;by_cases hs:bB x
 ·rw [fP hs];have:=hs.2;refine Pi Tryz.func202 fun C=>?_
  repeat(refine A1 ⟨?_⟩;intros)
  rw [Int.sub_add_cancel];refine Wc (gm x.den om) ?_;exact Z1
 ·rw [nC hs];refine Pi Tryz.func202 fun C=>?_
  repeat(refine A1 ⟨?_⟩;intros)
  refine Wc (L6 x.den om) ?_;exact Z1
theorem un {x:Rat}:bB (-x)↔bB x:=by unfold bB;rw [Rat.neg_num,Rat.neg_den,Int.natAbs_neg]
theorem iN (x:Rat) (h:ht x≤10000000):Pu Tryz.prog 213 [fr x] (fr (-x)):=by
 have b1:=cJ x;by_cases hs:bB x
 ·rw [fP hs,fP (un.2 hs),Rat.neg_num,Rat.neg_den];have h1:=hs.1;have h2:=hs.2;refine Pi Tryz.func213 fun C=>?_
  exact Z2
 ·rw [nC hs,nC (fun h=>hs (un.1 h)),Rat.neg_num,Rat.neg_den];refine Pi Tryz.func213 fun C=>?_
  repeat(refine A1 ⟨?_⟩;intros)
  refine Wdc (J6 x.num om) ?_;repeat(refine A1 ⟨?_⟩;intros)
  refine Wdo (aB (by exact Eq.refl (ag _))) ?_;exact Z2
end Go.Ab
