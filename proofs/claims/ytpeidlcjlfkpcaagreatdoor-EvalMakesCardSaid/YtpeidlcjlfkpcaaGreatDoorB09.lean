/- Texts laid one behind the other: Div, FracB, FracC, RefE. -/
import Derived.Test.YtpeidlcjlfkpcaaGreatDoorLong
import Derived.Test.YtpeidlcjlfkpcaaGreatDoorB07
import Derived.Test.YtpeidlcjlfkpcaaGreatDoorRefL
set_option linter.all false
set_option maxHeartbeats 16000000
namespace Go.Ab
open Go.Proofs
variable [Base]
theorem Nw {q:List Nat}(h:q.length=1):val q=q.getD 0 0:=by
 match q,h with
 | [d],_=>simp [val]
theorem tU (xs ys:List Nat) (hla:xs.length≤10000000) (hlb:ys.length≤10000000) (hA:D xs) (hB:D ys) (h0:val ys≠0):Pu Tryz.prog 251 [dg xs,dg ys] (tup [nat (val xs/val ys),nat (val xs%val ys),lit (.bool true)]):=by
 obtain⟨p,t1,h1,hP,hva,hpd⟩:=ql xs hla om hA;obtain⟨q,t2,h2,hQ,hvb,hqd⟩:=ql ys hlb om hB;rw [←hva]at hpd;rw [←hvb]at hqd h0;rw [←hva,←hvb];have hqp:0<q.length:=by rw [hqd];exact f0 h0
 refine Pi Tryz.func251 fun C=>?_
 refine A2 ⟨?_⟩;intros;refine Wc t1 ?_;refine A2 ⟨?_⟩;intros;refine Wc t2 ?_;refine A2 ⟨?_⟩;intros;refine Wc (HS p q om om hP hQ) ?_;by_cases hlt:val p<val q
 ·rw [mT hlt,iw hlt,eN hlt];refine A2 ⟨?_⟩;intros;refine Wc (Eh p om) ?_;refine A2 ⟨?_⟩;intros;refine cV (RS (RV.tmp rfl) (RV.tmp rfl) (RV.tmp rfl) ?_);show Le (tup [lit (.slice none 0 0),dg p,lit (.bool true)]) (tup [dg (dgs 0),dg (dgs (val p)),lit (.bool true)])
  rw [←hpd,bW];exact Le.tup3 gz Lr Lr
 ·have hc:=Ce (val p) (val q);by_cases hq1:q.length=1
  ·have hd:=Nw hq1;have hdb:val q<4294967296:=by rw [hd];exact hQ.get 0
   refine A2 ⟨?_⟩;intros;rw [←hd];refine Wc (A4 p (val q) om hP h0 hdb) ?_;have hm:val p%val q<val q:=cS _ om;generalize val p%val q=m at *;generalize val p/val q=e at *;refine A2 ⟨?_⟩;intros;refine Wc (lj m om) ?_;refine A2 ⟨?_⟩;intros;((first|refine cV ?_|refine jK ?_);exact RS (RV.tmp rfl) (RV.tmp rfl) (RV.tmp rfl) Lr)
  ·refine A2 ⟨?_⟩;intros;refine Wc (LW p q hpd hqd om om om) ?_;refine A2 ⟨?_⟩;intros;((first|refine cV ?_|refine jK ?_);exact RS (RV.tmp rfl) (RV.tmp rfl) (RV.tmp rfl) Lr)
theorem LU {n:Nat}(h:(dgs n).length≤2):n<18446744073709551616:=cQ (o5 n) (aU (gN om h) (by decide))
theorem Hu (xs ys:List Nat) (hla:xs.length≤10000000) (hlb:ys.length≤10000000) (hA:D xs) (hB:D ys):Pu Tryz.prog 212 [dg xs,dg ys] (nat (Nat.gcd (val xs) (val ys))):=by
 have la:∀{k},k≤val xs→(dgs k).length≤10000000:=fun h=>by have:=dU (kL h (eQ hA));omega
 have lb:∀{k},k≤val ys→(dgs k).length≤10000000:=fun h=>by have:=dU (kL h (eQ hB));omega
 refine Pi Tryz.func212 fun C=>?_
 refine A2 ⟨?_⟩;intros;refine Wc (pu xs om hA) ?_;refine A2 ⟨?_⟩;intros;refine Wc (pu ys om hB) ?_;refine A2 ⟨?_⟩;intros
 refine WP.loop (ι:=Nat×Nat) (fun s=>Nat.gcd s.1 s.2=Nat.gcd (val xs) (val ys)∧(dgs s.1).length≤10000000∧(dgs s.2).length≤10000000) (fun s=>s.2)
  (fun s=>fm [(0,nat s.1),(1,nat s.2)]) (fun _=>[]) (val xs,val ys) ⟨rfl,la (au _),lb (au _)⟩ lfA rfl ?_
 rintro ⟨a,b⟩ ⟨hg,hla,hlb⟩ K hK;simp only at hg hla hlb⊢;by_cases hs:(dgs a).length≤2∧(dgs b).length≤2
 ·have ba:=LU hs.1;have bb:=LU hs.2;have u1:=ue (dgs a) om (cu a);have u2:=ue (dgs b) om (cu b);rw [aK,if_pos ba]at u1;rw [aK,if_pos bb]at u2;refine A2 ⟨?_⟩;intros;refine Wc u1 ?_;refine A2 ⟨?_⟩;intros;refine Wc u2 ?_;refine A2 ⟨?_⟩;intros;rw [←hg]
  refine WP.loop (ι:=Nat×Nat) (fun s=>Nat.gcd s.1 s.2=Nat.gcd a b∧s.1<18446744073709551616∧s.2<18446744073709551616) (fun s=>s.2)
   (fun s=>fm [(8,lit (.int .u64 s.1)),(10,lit (.int .u64 s.2))]) (fun _=>[]) (a,b) ⟨rfl,ba,bb⟩ lfA rfl ?_
  rintro ⟨c,d⟩ ⟨hg',hc,hd⟩ K hK;simp only at hg' hc hd⊢;by_cases h0:d=0
  ·subst h0;rw [lD]at hg';rw [←hg'];refine A2 ⟨?_⟩;intros;refine Wc (lj c hc) ?_;exact Z1
  ·have hm:c%d<d:=cS _ om;have hgg:Nat.gcd d (c%d)=Nat.gcd a b:=by rw [←hg',ge c d,lC d c,ge]
   refine A2 ⟨?_⟩;intros;exact hK _ _ (d,c%d) ⟨hgg,hd,by simp only;omega⟩ hm lfA rfl
 ·by_cases h0:b=0
  ·subst h0;rw [lD]at hg;rw [←hg];have hl:(dgs 0).length=0:=by rw [bW];rfl
   exact Z1
  ·have hp:=f0 h0;have hm:a%b<b:=cS _ om;have hgg:Nat.gcd b (a%b)=Nat.gcd (val xs) (val ys):=by rw [←hg,ge a b,lC b a,ge]
   have dm:=tU (dgs a) (dgs b) hla hlb (cu a) (cu b) (by rw [aK];exact h0);rw [aK,aK]at dm;have hlm:=cI (Nat.le_of_lt hm);by_cases ha:(dgs a).length≤2
   ·refine A2 ⟨?_⟩;intros;refine Wc dm ?_;refine A2 ⟨?_⟩;intros;exact hK _ _ (b,a%b) ⟨hgg,hlb,by simp only;omega⟩ hm lfA rfl
   ·refine A2 ⟨?_⟩;intros;refine Wc dm ?_;refine A2 ⟨?_⟩;intros;exact hK _ _ (b,a%b) ⟨hgg,hlb,by simp only;omega⟩ hm lfA rfl
theorem xY:dW 0:=by unfold dW;decide
theorem QH (s:Bool){a g:Nat}(h:g∣a):sv s a/(g:Int)=sv s (a/g):=by
 obtain⟨k,rfl⟩:=h;by_cases h0:g=0
 ·subst h0;cases s <;> simp [sv]
 ·rw [xC _ om];cases s
  ·simp only [sv,kK];rw [cX,tf _ om]
  ·simp only [sv,iB];rw [cX,←qd,tf _ om]
theorem LQ (s:Bool) (a:Nat){d:Nat}(h:d≠0):(mkRat (sv s a) d).num=sv s (a/Nat.gcd a d)∧(mkRat (sv s a) d).den=d/Nat.gcd a d:=by
 have h:=BO (sv s a) h;rw [show Int.gcd (sv s a) d=Nat.gcd a d from by unfold Int.gcd;rw [l7];rfl]at h;rw [QH s (lB a d)]at h;exact h
theorem N8 {n:Nat}:f5 n≤62↔n<4611686018427387904:=j7
theorem N9 {n:Nat}:f5 n=0↔n=0:=by have:=j7 (n:=n) (k:=0);simp only [jH]at this;omega
theorem Qv {n:Nat}:1<f5 n↔1<n:=by have:=j7 (n:=n) (k:=1);simp only [Nat.pow_one]at this;omega
theorem rH {xs:List Nat}(hD:D xs) (h:xs.length≤1000000000):f5 (val xs)≤32000000000:=by
 have:=zw hD;omega
theorem pm (s:Bool) (xs ys:List Nat) (hlx:xs.length≤10000000) (hly:ys.length≤10000000) (hX:D xs) (hY:D ys):Pu Tryz.prog 207 [raw s xs,dg ys] (fr (mkRat (sv s (val xs)) (val ys))):=by
 have bx:=rH hX om;have bY:=rH hY om;by_cases h0:val ys=0
 ·rw [h0,td,kh xY];have b0:=N9.2 h0;refine Pi Tryz.func207 fun C=>?_
  refine A2 ⟨?_⟩;intros;refine Wc (jf ys om hY) ?_;exact Z2
 ·have b0:f5 (val ys)≠0:=fun h=>h0 (N9.1 h)
  by_cases hx0:val xs=0
  ·rw [hx0,show sv s 0=0 from by cases s <;> rfl,Rat.zero_mkRat,kh xY];have sg:=uh s xs om hX;rw [hx0,show sv s 0=0 from by cases s <;> rfl,Int.sign_zero]at sg;refine Pi Tryz.func207 fun C=>?_
   refine A2 ⟨?_⟩;intros;refine Wc (jf ys om hY) ?_;refine A2 ⟨?_⟩;intros;refine Wcg sg ?_;exact Z2
  ·have hg0:Nat.gcd (val xs) (val ys)≠0:=fun h=>h0 (nH.1 h).2
   have gd1:=lB (val xs) (val ys);have gd2:=nG (val xs) (val ys);have gl:=q7 (f9 h0) gd2;have gx:=q7 (f9 hx0) gd1;have dx:=mq hX;have dy:=mq hY;have hgl:=cI gl;obtain⟨e1,e2⟩:=LQ s (val xs) h0;have g1:=Hu xs ys hlx hly hX hY;generalize hx:mkRat (sv s (val xs)) (val ys)=x at *;generalize Nat.gcd (val xs) (val ys)=g at *;have bg:=jf (dgs g) om (cu g);rw [aK]at bg;have bgb:f5 g≤32000000000:=by have:=rH (cu g) om;rwa [aK]at this
   have d1:=tU xs (dgs g) hlx om hX (cu g) (by rw [aK];exact hg0);have d2:=tU ys (dgs g) hly om hY (cu g) (by rw [aK];exact hg0);rw [aK]at d1 d2;have sg:=uh s xs om hX;have sgn:(sv s (val xs)).sign≠0:=fun h=>hx0 (by have:=gc.1 h;have:=congrArg Int.natAbs this;rw [l7]at this;exact this)
   have sgb : -1≤(sv s (val xs)).sign∧(sv s (val xs)).sign≤1:=by
    rcases iy (sv s (val xs)) 0 with h|h|h
    ·rw [gf h];omega
    ·rw [h];decide
    ·rw [fy h];omega
   generalize(sv s (val xs)).sign=sx at *;refine Pi Tryz.func207 fun C=>?_
   refine A2 ⟨?_⟩;intros;refine Wc (jf ys om hY) ?_;refine A2 ⟨?_⟩;intros;refine Wcg sg ?_;refine A2 ⟨?_⟩;intros;refine Wc g1 ?_;refine A2 ⟨?_⟩;intros;refine Wc bg ?_;refine A2 ⟨?_⟩;intros;rename_i b2 b4
   refine WP.via (fun F H=>∃us vs,us.length≤10000000∧vs.length≤10000000∧D us∧D vs∧val us=val xs/g∧val vs=val ys/g∧
    LeF F (fm [(1,dg vs),(2,lit (.pointer (some ⟨b2,0,none⟩))),(4,lit (.pointer (some ⟨b4,0,none⟩)))])∧
    H=[(b4,126,[lit (.int .i64 0),lit (.int .i64 0),lit (.pointer none)]),(b2,62,[lit (.bool s),dg us])]) ?_ ?_
   ·refine WPd (fun h=>?_) (fun h=>?_)
    ·have l1:=cI (dw (val xs) g);have l2:=cI (dw (val ys) g);refine A2 ⟨?_⟩;intros;refine Wc d1 ?_;refine A2 ⟨?_⟩;intros;refine Wc d2 ?_;refine A2 ⟨?_⟩;intros;exact⟨dgs (val xs/g),dgs (val ys/g),om,om,cu _,cu _,aK _,aK _,lfA,rfl⟩
    ·have hg1:g=1:=by have:=Qv (n:=g);omega
     subst hg1;refine A2 ⟨?_⟩;intros;exact⟨xs,ys,om,om,hX,hY,(kF _).symm,(kF _).symm,lfA,rfl⟩
   ·rintro F H ⟨us,vs,lu,lv,hU,hV,eu,ev,hF,rfl⟩;rw [←eu]at e1;rw [←ev]at e2;refine WP.le hF ?_;have bu:=jf us om hU;have bv:=jf vs om hV;have bub:=rH hU om;have bvb:=rH hV om;have c1:=N8 (n:=val us);have c2:=N8 (n:=val vs);have hv0:val vs≠0:=by rw [←e2];exact x.den_nz
    have hna:x.num.natAbs=val us:=by rw [e1,l7]
    have nr:=yt s us om hU;have nn:=pu vs om hV;by_cases hs1:val us<4611686018427387904
    ·by_cases hs2:val vs<4611686018427387904
     ·rw [kh ⟨om,om⟩,e1,e2];have i6:=Jd s us om hU hs1;have u6:=ue vs om hV;rw [if_pos om]at u6;have hsb : -4611686018427387904<sv s (val us)∧sv s (val us)<4611686018427387904:=by have:=l7 s (val us);omega
      generalize sv s (val us)=z at *;refine A2 ⟨?_⟩;intros;refine Wc bu ?_;refine A2 ⟨?_⟩;intros;refine Wcg bv ?_;refine A2 ⟨?_⟩;intros;refine Wc i6 ?_;refine A2 ⟨?_⟩;intros;refine Wc u6 ?_;exact Z2
     ·rw [sK (fun h=>hs2 (e2▸h.2)),e1,e2,l7];simp only [int,l7]at nr;refine A2 ⟨?_⟩;intros;refine Wc bu ?_;refine A2 ⟨?_⟩;intros;refine Wcg bv ?_;refine A2 ⟨?_⟩;intros;refine Wc nr ?_;refine A2 ⟨?_⟩;intros;refine Wc nn ?_;iterate 2 (refine O1 ⟨?_⟩;intros)
      refine Qy 71 rfl (aq.here _) ?_;exact Z2
    ·rw [sK (fun h=>hs1 (hna▸h.1)),e1,e2,l7];simp only [int,l7]at nr;refine A2 ⟨?_⟩;intros;refine Wc bu ?_;refine A2 ⟨?_⟩;intros;refine Wc nr ?_;refine A2 ⟨?_⟩;intros;refine Wc nn ?_;iterate 2 (refine O1 ⟨?_⟩;intros)
     refine Qy 71 rfl (aq.here _) ?_;exact Z2
def il (a:Int):Nat:=(dgs a.natAbs).length
def ht (x:Rat):Nat:=max (il x.num) (dgs x.den).length
theorem oV (a b:Int):il (a*b)≤il a+il b:=by unfold il;rw [fx];exact ew _ _
theorem yL (n:Nat):il (n:Int)=(dgs n).length:=rfl
theorem BZ (a b:Int):il (a+b)≤max (il a) (il b)+1:=aU (cI (Int.natAbs_add_le a b)) (zf _ _)
theorem iP (a:Int):il (-a)=il a:=by unfold il;rw [jC]
theorem ef (x:Rat):il x.num≤ht x:=Nat.le_max_left _ _
theorem eh (x:Rat):(dgs x.den).length≤ht x:=pZ _ _
theorem fI (x:Rat):ht (-x)=ht x:=by unfold ht;rw [jB,nF,iP]
theorem AJ (a:Int) (d:Nat):ht (mkRat a d)≤max (il a) (max (dgs d).length 1):=by
 by_cases h:d=0
 ·subst h;rw [td];refine aU (Nat.max_le.2 ⟨?_,?_⟩) (aU (pZ _ _) (pZ _ _))
  ·show(dgs 0).length≤1;rw [bW];decide
  ·exact dU (by decide)
 ·obtain⟨e1,e2⟩:=BO a h
  have h1:il (mkRat a d).num≤il a:=by
   rw [e1];refine cI ?_;have hga:((Int.gcd a d:Nat):Int)∣a:=tg a (d:Int);rw [←xD hga,Int.natAbs_tdiv];exact dw _ _
  have h2:(dgs (mkRat a d).den).length≤(dgs d).length:=by rw [e2];exact cI (dw _ _)
  unfold ht;omega
theorem fo (x y:Rat):ht (x+y)≤ht x+ht y+1:=by
 rw [nE];refine aU (AJ _ _) ?_;have a1:=BZ (x.num*y.den) (y.num*x.den);have a2:=oV x.num y.den;have a3:=oV y.num x.den;have a4:=ew x.den y.den;rw [yL]at a2 a3;have b1:=ef x;have b2:=eh x;have b3:=ef y;have b4:=eh y;omega
theorem be (x y:Rat):ht (x*y)≤ht x+ht y+1:=by
 rw [nD];refine aU (AJ _ _) ?_;have a1:=oV x.num y.num;have a4:=ew x.den y.den;have b1:=ef x;have b2:=eh x;have b3:=ef y;have b4:=eh y;omega
theorem gh (x y:Rat):ht (x-y)≤ht x+ht y+1:=by
 rw [pY];have:=fo x (-y);rwa [fI]at this
abbrev SD (s:Bool) (xs ys:List Nat):SV:=ag [lit (.bool s),dg xs,dg ys]
abbrev q (x:Rat):SV:=ag [lit (.bool (decide (x.num<0))),nat x.num.natAbs,nat x.den]
theorem LG (a:Int) (h:il a≤1000000000):Pu Tryz.prog 131 [int a] (int a):=by
 have:=yt (decide (a<0)) (dgs a.natAbs) h (cu _);rwa [aK,iM]at this
theorem OU (a:Int) (h:il a≤1000000000):Pu Tryz.prog 230 [int a] (int (-a)):=by
 have:=OT (decide (a<0)) (dgs a.natAbs) h (cu _);rwa [aK,iM]at this
theorem Rl (n:Nat) (h:(dgs n).length≤1000000000):Pu Tryz.prog 177 [nat n] (nat n):=by
 have:=pu (dgs n) h (cu _);rwa [aK]at this
theorem DA (a b:Nat) (h1:(dgs a).length≤100000000) (h2:(dgs b).length≤100000000):Pu Tryz.prog 210 [nat a,nat b] (nat (a*b)):=by
 have:=He (dgs a) (dgs b) h1 h2 (cu _) (cu _);rwa [aK,aK]at this
theorem Hg (a b:Int) (h1:il a≤100000000) (h2:il b≤100000000):Pu Tryz.prog 265 [int a,int b] (int (a*b)):=by
 have:=OY (decide (a<0)) (decide (b<0)) (dgs a.natAbs) (dgs b.natAbs) h1 h2 (cu _) (cu _);rwa [aK,aK,iM,iM]at this
theorem DB (a:Int) (n:Nat) (h1:il a≤100000000) (h2:(dgs n).length≤100000000):Pu Tryz.prog 265 [int a,raw false (dgs n)] (int (a*n)):=by
 have:=Hg a n h1 h2;rwa [xf]at this
theorem Qa (a b:Int) (h1:il a≤100000000) (h2:il b≤100000000):Pu Tryz.prog 266 [int a,int b] (int (a+b)):=by
 have:=Q7 (decide (a<0)) (decide (b<0)) (dgs a.natAbs) (dgs b.natAbs) h1 h2 (cu _) (cu _);rwa [aK,aK,iM,iM]at this
theorem tI (a:Int) (n:Nat) (h1:il a≤10000000) (h2:(dgs n).length≤10000000):Pu Tryz.prog 207 [int a,nat n] (fr (mkRat a n)):=by
 have:=pm (decide (a<0)) (dgs a.natAbs) (dgs n) h1 h2 (cu _) (cu _);rwa [aK,aK,iM]at this
theorem LD (s:Bool) (xs ys:List Nat) (hlx:xs.length≤10000000) (hly:ys.length≤10000000) (hX:D xs) (hY:D ys):Pu Tryz.prog 175 [SD s xs ys] (fr (mkRat (sv s (val xs)) (val ys))):=by
 refine Pi Tryz.func175 fun C=>?_
 refine A2 ⟨?_⟩;intros;refine Wc (pm s xs ys hlx hly hX hY) ?_;exact Z2
theorem C6 (z:Int) (h0 : -9223372036854775808≤z) (h1:z≤9223372036854775807):Pu Tryz.prog 163 [lit (.int .i64 z)] (fr (z:Rat)):=by
 have hil:il z≤10000000:=aU (dU (n:=z.natAbs) (k:=2) om) om;have r:=pm (decide (z<0)) (dgs z.natAbs) [1] hil (by decide) (cu _) (D.cons om D.nil);rw [aK,iM,show val [1]=1 from rfl,jA]at r;by_cases ha:z≤-4611686018427387904
 ·refine Pi Tryz.func163 fun C=>?_
  refine A2 ⟨?_⟩;intros;refine Wc (tT z h0 h1) ?_;refine A2 ⟨?_⟩;intros;refine lr (ds:=[1]) 11 rfl (aq.here _) rfl om om ?_;refine Wc r ?_;exact Z2
 ·by_cases hb:4611686018427387904≤z
  ·refine Pi Tryz.func163 fun C=>?_
   refine A2 ⟨?_⟩;intros;refine Wc (tT z h0 h1) ?_;refine A2 ⟨?_⟩;intros;refine lr (ds:=[1]) 11 rfl (aq.here _) rfl om om ?_;refine Wc r ?_;exact Z2
  ·have hs:dW (z:Rat):=by unfold dW;rw [eA,jy];omega
   rw [kh hs,eA,jy];refine Pi Tryz.func163 fun C=>?_
   exact Z2
theorem oS (x:Rat) (h:ht x≤10000000):Pu Tryz.prog 87 [fr x] (int x.num):=by
 have b1:=ef x;by_cases hs:dW x
 ·rw [kh hs];have:=hs.1;refine Pi Tryz.func87 fun C=>?_
  refine A2 ⟨?_⟩;intros;refine Wc (tT x.num om om) ?_;exact Z2
 ·rw [sK hs];refine Pi Tryz.func87 fun C=>?_
  refine A2 ⟨?_⟩;intros;refine Wc (LG x.num om) ?_;exact Z2
theorem qM (x:Rat) (h:ht x≤10000000):Pu Tryz.prog 211 [fr x] (nat x.den):=by
 have b1:=eh x;by_cases hs:dW x
 ·rw [kh hs];have:=hs.2;refine Pi Tryz.func211 fun C=>?_
  refine A2 ⟨?_⟩;intros;rw [gI];refine Wc (lj x.den om) ?_;exact Z1
 ·rw [sK hs];refine Pi Tryz.func211 fun C=>?_
  refine A2 ⟨?_⟩;intros;refine Wc (Rl x.den om) ?_;exact Z1
theorem zX {x:Rat}:dW (-x)↔dW x:=by unfold dW;rw [jB,nF,jC]
theorem lZ (x:Rat) (h:ht x≤10000000):Pu Tryz.prog 174 [fr x] (fr (-x)):=by
 have b1:=ef x;by_cases hs:dW x
 ·rw [kh hs,kh (zX.2 hs),jB,nF];have h1:=hs.1;have h2:=hs.2;refine Pi Tryz.func174 fun C=>?_
  exact Z2
 ·rw [sK hs,sK (fun h=>hs (zX.1 h)),jB,nF];refine Pi Tryz.func174 fun C=>?_
  refine A2 ⟨?_⟩;intros;refine Wdc (OU x.num om) ?_;refine A2 ⟨?_⟩;intros;refine Wdo (cF (by exact Eq.refl (ag _))) ?_;exact Z2
theorem qo (a b:Nat) (ha:(dgs a).length≤10000000) (hb:(dgs b).length≤10000000):Pu Tryz.prog 95 [nat a,nat b] (nat (Nat.gcd a b)):=by
 have w1:=ui a om;have w2:=ui b om;by_cases hs:(dgs a).length≤2∧(dgs b).length≤2
 ·rw [if_pos hs.1]at w1;rw [if_pos hs.2]at w2;have la:=xd hs.1;have lb:=xd hs.2;refine Pi Tryz.func95 fun C=>?_
  refine A2 ⟨?_⟩;intros;refine Wc w1 ?_;refine A2 ⟨?_⟩;intros;refine Wc w2 ?_;refine A2 ⟨?_⟩;intros
  refine WP.loop (ι:=Nat×Nat) (fun s=>Nat.gcd s.1 s.2=Nat.gcd a b∧s.1<18446744073709551616∧s.2<18446744073709551616) (fun s=>s.2)
   (fun s=>fm [(5,lit (.int .u64 s.1)),(7,lit (.int .u64 s.2))]) (fun _=>[]) (a,b) ⟨rfl,la,lb⟩ lfA rfl ?_
  rintro ⟨c,d⟩ ⟨hg',hc,hd⟩ K hK;simp only at hg' hc hd⊢;by_cases h0:d=0
  ·subst h0;rw [lD]at hg';rw [←hg'];refine A2 ⟨?_⟩;intros;refine Wc (mG c hc) ?_;exact Z1
  ·have hm:c%d<d:=cS _ om;have hgg:Nat.gcd d (c%d)=Nat.gcd a b:=by rw [←hg',ge c d,lC d c,ge]
   refine A2 ⟨?_⟩;intros;exact hK _ _ (d,c%d) ⟨hgg,hd,by simp only;omega⟩ hm lfA rfl
 ·have h12:(dgs a).length≤2→¬(dgs b).length≤2:=fun x y=>hs ⟨x,y⟩
  clear hs;by_cases la:(dgs a).length≤2
  ·have lb:=h12 la;clear h12;rw [if_pos la]at w1;rw [if_neg lb]at w2;refine Pi Tryz.func95 fun C=>?_
   refine A2 ⟨?_⟩;intros;refine Wc w1 ?_;refine A2 ⟨?_⟩;intros;refine Wc w2 ?_;refine A2 ⟨?_⟩;intros
   refine WP.loop (ι:=Nat×Nat) (fun s=>Nat.gcd s.1 s.2=Nat.gcd a b∧(dgs s.1).length≤10000000∧(dgs s.2).length≤10000000) (fun s=>s.2)
    (fun s=>fm [(0,nat s.1),(1,nat s.2)]) (fun _=>[]) (a,b) ⟨rfl,ha,hb⟩ lfA rfl ?_
   rintro ⟨c,d⟩ ⟨hg',hc,hd⟩ K hK;simp only at hg' hc hd⊢;by_cases h0:d=0
   ·subst h0;rw [lD]at hg';rw [←hg'];have hl:(dgs 0).length=0:=by rw [bW];rfl
    exact Z1
   ·have hl:=f0 h0;have hm:c%d<d:=cS _ om;have hgg:Nat.gcd d (c%d)=Nat.gcd a b:=by rw [←hg',ge c d,lC d c,ge]
    have hlm:=cI (Nat.le_of_lt hm);refine A2 ⟨?_⟩;intros;refine Wc (kR c d h0 hc hd) ?_;refine A2 ⟨?_⟩;intros;exact hK _ _ (d,c%d) ⟨hgg,hd,by simp only;omega⟩ hm lfA rfl
  ·clear h12;rw [if_neg la]at w1;refine Pi Tryz.func95 fun C=>?_
   refine A2 ⟨?_⟩;intros;refine Wc w1 ?_;refine A2 ⟨?_⟩;intros
   refine WP.loop (ι:=Nat×Nat) (fun s=>Nat.gcd s.1 s.2=Nat.gcd a b∧(dgs s.1).length≤10000000∧(dgs s.2).length≤10000000) (fun s=>s.2)
    (fun s=>fm [(0,nat s.1),(1,nat s.2)]) (fun _=>[]) (a,b) ⟨rfl,ha,hb⟩ lfA rfl ?_
   rintro ⟨c,d⟩ ⟨hg',hc,hd⟩ K hK;simp only at hg' hc hd⊢;by_cases h0:d=0
   ·subst h0;rw [lD]at hg';rw [←hg'];have hl:(dgs 0).length=0:=by rw [bW];rfl
    exact Z1
   ·have hl:=f0 h0;have hm:c%d<d:=cS _ om;have hgg:Nat.gcd d (c%d)=Nat.gcd a b:=by rw [←hg',ge c d,lC d c,ge]
    have hlm:=cI (Nat.le_of_lt hm);refine A2 ⟨?_⟩;intros;refine Wc (kR c d h0 hc hd) ?_;refine A2 ⟨?_⟩;intros;exact hK _ _ (d,c%d) ⟨hgg,hd,by simp only;omega⟩ hm lfA rfl
def oX (d:Nat):List Nat:=if d=1 then []else dgs d
abbrev rq (x:Rat):SV:=ag [lit (.bool (decide (x.num<0))),nat x.num.natAbs,dg (oX x.den)]
theorem pJ:oX 1=[]:=rfl
theorem Cb {d:Nat}(h:d≠1):oX d=dgs d:=if_neg h
theorem lV {d:Nat}(h:d≠0):(dgs d).length≠0:=by have:=f0 h;omega
theorem fh (x:Rat):Pu Tryz.prog 57 [rq x] (nat x.den):=by
 by_cases h:x.den=1
 ·show Pu _ _ [ag [lit (.bool (decide (x.num<0))),nat x.num.natAbs,dg (oX x.den)]] _
  rw [h,pJ];refine Pi Tryz.func57 fun C=>?_
  refine A2 ⟨?_⟩;intros;refine Wc Fb ?_;exact Z1
 ·show Pu _ _ [ag [lit (.bool (decide (x.num<0))),nat x.num.natAbs,dg (oX x.den)]] _
  rw [Cb h];have hl:=lV x.den_nz;refine Pi Tryz.func57 fun C=>?_
  exact Z1
theorem mj (a:Int) (d:Nat) (ha:il a≤10000000) (hd:(dgs d).length≤10000000) (h0:d≠0):Pu Tryz.prog 90 [int a,nat d] (rq (mkRat a d)):=by
  have hmk:=LQ (decide (a<0)) a.natAbs h0;rw [iM]at hmk;obtain⟨e1,e2⟩:=hmk;have hg0:Nat.gcd a.natAbs d≠0:=fun h=>h0 (nH.1 h).2
  have gd2:=nG a.natAbs d;have gl:=q7 (f9 h0) gd2;have hgl:=cI gl;have l1:=cI (dw a.natAbs (Nat.gcd a.natAbs d));have l2:=cI (dw d (Nat.gcd a.natAbs d));have cm:=qo a.natAbs d ha hd;have ha':(dgs a.natAbs).length≤10000000:=ha;generalize hx:mkRat a d=x at *;generalize hg:Nat.gcd a.natAbs d=g at *;have hlg:(dgs g).length≤10000000:=by omega
  have lden:(dgs x.den).length≤10000000:=by rw [e2];omega
  have ho:(dgs 1).length=1:=by rw [qL];rfl
  have cmp1:=uu g 1 om om;have cmp2:=uu x.den 1 om om;refine Pi Tryz.func90 fun C=>?_
  refine A2 ⟨?_⟩;intros;rename_i b2 b4;refine Wc cm ?_;refine A2 ⟨?_⟩;intros;refine Wc Fb ?_;refine Wc cmp1 ?_;refine A2 ⟨?_⟩;intros
  refine WP.via (fun F H => LeF F (fm [(1, nat x.den), (2, lit (.pointer (some ⟨b2, 0, none⟩))), (4, lit (.pointer (some ⟨b4, 0, none⟩)))]) ∧
        H=[(b4,87,[lit (.bool false),lit (.slice none 0 0),lit (.slice none 0 0)]),(b2,81,[lit (.bool (decide (x.num<0))),nat x.num.natAbs])]) ?_ ?_
  · refine WPd (fun h=>?_) (fun h=>?_)
    · rw [e1,e2]
      refine A2 ⟨?_⟩;intros;refine Wc (kR a.natAbs g hg0 ha' hlg) ?_;refine A2 ⟨?_⟩;intros;refine Wc (dH (decide (a<0)) (a.natAbs/g) om) ?_;refine A2 ⟨?_⟩;intros;refine Wc (kR d g hg0 hd hlg) ?_;refine A2 ⟨?_⟩;intros;exact⟨lfA,rfl⟩
    · have hg1:g=1:=by
        rcases gQ g 1 with h'|h'|h'
        · omega
        · exact h'
        · rw [oH h']at h;exact absurd (by decide) h
      rw [hg1,kF,iM]at e1;rw [hg1,kF]at e2;rw [e1,e2];refine A2 ⟨?_⟩;intros;exact⟨lfA,rfl⟩
  · rintro F H ⟨hF,rfl⟩
    refine WP.le hF ?_;refine A2 ⟨?_⟩;intros;refine Wc Fb ?_;refine Wc cmp2 ?_;by_cases h1:x.den=1
    · rw [show rq x=ag [lit (.bool (decide (x.num<0))),nat x.num.natAbs,dg []]from by rw [rq,h1,pJ],h1,vd]
      refine A2 ⟨?_⟩;intros;refine cV (bJ (RV.cellA rfl cL rfl rfl) (Le.ag ⟨Le.refl _,Le.refl _,gz,trivial⟩))
    · have hc:pL x.den 1=1:=oH (by have:=x.den_nz;omega)
      rw [show rq x=ag [lit (.bool (decide (x.num<0))),nat x.num.natAbs,nat x.den]from by rw [rq,Cb h1],hc];exact Z2
end Go.Ab
