/- Texts laid one behind the other: Div, FracB, FracC, RefE. -/
import Derived.Test.YtjopjomoejfehaaGreatDoorLong
import Derived.Test.YtjopjomoejfehaaGreatDoorB07
import Derived.Test.YtjopjomoejfehaaGreatDoorRefL
set_option linter.all false
set_option maxHeartbeats 16000000
namespace Go.Ab
open Go.Proofs
variable [Base]
theorem MO {q:List Nat}(h:q.length=1):val q=q.getD 0 0:=by
 match q,h with
 | [d],_=>simp [val]
theorem tD (xs ys:List Nat) (hla:xs.length≤10000000) (hlb:ys.length≤10000000) (hA:D xs) (hB:D ys) (h0:val ys≠0):Pu Tryz.prog 241 [dg xs,dg ys] (tup [nat (val xs/val ys),nat (val xs%val ys),lit (.bool true)]):=by
 obtain⟨p,t1,h1,hP,hva,hpd⟩:=qg xs hla om hA;obtain⟨q,t2,h2,hQ,hvb,hqd⟩:=qg ys hlb om hB;rw [←hva]at hpd;rw [←hvb]at hqd h0;rw [←hva,←hvb];have hqp:0<q.length:=by rw [hqd];exact eW h0
 refine Pi Tryz.func241 fun C=>?_
 refine A2 ⟨?_⟩;intros;refine Wc t1 ?_;refine A2 ⟨?_⟩;intros;refine Wc t2 ?_;refine A2 ⟨?_⟩;intros;refine Wc (Hy p q om om hP hQ) ?_;by_cases hlt:val p<val q
 ·rw [mS hlt,ft hlt,dP hlt];refine A2 ⟨?_⟩;intros;refine Wc (E7 p om) ?_;refine A2 ⟨?_⟩;intros;refine db (R3 (RV.tmp rfl) (RV.tmp rfl) (RV.tmp rfl) ?_);show Le (tup [lit (.slice none 0 0),dg p,lit (.bool true)]) (tup [dg (dgs 0),dg (dgs (val p)),lit (.bool true)])
  rw [←hpd,cI];exact Le.tup3 gC Lr Lr
 ·have hc:=BY (val p) (val q);by_cases hq1:q.length=1
  ·have hd:=MO hq1;have hdb:val q<4294967296:=by rw [hd];exact hQ.get 0
   refine A2 ⟨?_⟩;intros;rw [←hd];refine Wc (zU p (val q) om hP h0 hdb) ?_;have hm:val p%val q<val q:=cT _ om;generalize val p%val q=m at *;generalize val p/val q=e at *;refine A2 ⟨?_⟩;intros;refine Wc (lh m om) ?_;refine A2 ⟨?_⟩;intros;((first|refine db ?_|refine jc ?_);exact R3 (RV.tmp rfl) (RV.tmp rfl) (RV.tmp rfl) Lr)
  ·refine A2 ⟨?_⟩;intros;refine Wc (Lg p q hpd hqd om om om) ?_;refine A2 ⟨?_⟩;intros;((first|refine db ?_|refine jc ?_);exact R3 (RV.tmp rfl) (RV.tmp rfl) (RV.tmp rfl) Lr)
theorem Ld {n:Nat}(h:(dgs n).length≤2):n<18446744073709551616:=cR (o6 n) (aO (gQ om h) (by decide))
theorem H7 (xs ys:List Nat) (hla:xs.length≤10000000) (hlb:ys.length≤10000000) (hA:D xs) (hB:D ys):Pu Tryz.prog 198 [dg xs,dg ys] (nat (Nat.gcd (val xs) (val ys))):=by
 have la:∀{k},k≤val xs→(dgs k).length≤10000000:=fun h=>by have:=dU (kJ h (eO hA));omega
 have lb:∀{k},k≤val ys→(dgs k).length≤10000000:=fun h=>by have:=dU (kJ h (eO hB));omega
 refine Pi Tryz.func198 fun C=>?_
 refine A2 ⟨?_⟩;intros;refine Wc (pg xs om hA) ?_;refine A2 ⟨?_⟩;intros;refine Wc (pg ys om hB) ?_;refine A2 ⟨?_⟩;intros
 refine WP.loop (ι:=Nat×Nat) (fun s=>Nat.gcd s.1 s.2=Nat.gcd (val xs) (val ys)∧(dgs s.1).length≤10000000∧(dgs s.2).length≤10000000) (fun s=>s.2)
  (fun s=>fm [(0,nat s.1),(1,nat s.2)]) (fun _=>[]) (val xs,val ys) ⟨rfl,la (ar _),lb (ar _)⟩ lfA rfl ?_
 rintro ⟨a,b⟩ ⟨hg,hla,hlb⟩ K hK;simp only at hg hla hlb⊢;by_cases hs:(dgs a).length≤2∧(dgs b).length≤2
 ·have ba:=Ld hs.1;have bb:=Ld hs.2;have u1:=tT (dgs a) om (cE a);have u2:=tT (dgs b) om (cE b);rw [aK,if_pos ba]at u1;rw [aK,if_pos bb]at u2;refine A2 ⟨?_⟩;intros;refine Wc u1 ?_;refine A2 ⟨?_⟩;intros;refine Wc u2 ?_;refine A2 ⟨?_⟩;intros;rw [←hg]
  refine WP.loop (ι:=Nat×Nat) (fun s=>Nat.gcd s.1 s.2=Nat.gcd a b∧s.1<18446744073709551616∧s.2<18446744073709551616) (fun s=>s.2)
   (fun s=>fm [(8,lit (.int .u64 s.1)),(10,lit (.int .u64 s.2))]) (fun _=>[]) (a,b) ⟨rfl,ba,bb⟩ lfA rfl ?_
  rintro ⟨c,d⟩ ⟨hg',hc,hd⟩ K hK;simp only at hg' hc hd⊢;by_cases h0:d=0
  ·subst h0;rw [lD]at hg';rw [←hg'];refine A2 ⟨?_⟩;intros;refine Wc (lh c hc) ?_;exact Z1
  ·have hm:c%d<d:=cT _ om;have hgg:Nat.gcd d (c%d)=Nat.gcd a b:=by rw [←hg',gf c d,lC d c,gf]
   refine A2 ⟨?_⟩;intros;exact hK _ _ (d,c%d) ⟨hgg,hd,by simp only;omega⟩ hm lfA rfl
 ·by_cases h0:b=0
  ·subst h0;rw [lD]at hg;rw [←hg];have hl:(dgs 0).length=0:=by rw [cI];rfl
   exact Z1
  ·have hp:=eW h0;have hm:a%b<b:=cT _ om;have hgg:Nat.gcd b (a%b)=Nat.gcd (val xs) (val ys):=by rw [←hg,gf a b,lC b a,gf]
   have dm:=tD (dgs a) (dgs b) hla hlb (cE a) (cE b) (by rw [aK];exact h0);rw [aK,aK]at dm;have hlm:=cH (Nat.le_of_lt hm);by_cases ha:(dgs a).length≤2
   ·refine A2 ⟨?_⟩;intros;refine Wc dm ?_;refine A2 ⟨?_⟩;intros;exact hK _ _ (b,a%b) ⟨hgg,hlb,by simp only;omega⟩ hm lfA rfl
   ·refine A2 ⟨?_⟩;intros;refine Wc dm ?_;refine A2 ⟨?_⟩;intros;exact hK _ _ (b,a%b) ⟨hgg,hlb,by simp only;omega⟩ hm lfA rfl
theorem xG:dW 0:=by unfold dW;decide
theorem PY (s:Bool){a g:Nat}(h:g∣a):sv s a/(g:Int)=sv s (a/g):=by
 obtain⟨k,rfl⟩:=h;by_cases h0:g=0
 ·subst h0;cases s <;> simp [sv]
 ·rw [xj _ om];cases s
  ·simp only [sv,kI];rw [cW,sR _ om]
  ·simp only [sv,je];rw [cW,←q7,sR _ om]
theorem La (s:Bool) (a:Nat){d:Nat}(h:d≠0):(mkRat (sv s a) d).num=sv s (a/Nat.gcd a d)∧(mkRat (sv s a) d).den=d/Nat.gcd a d:=by
 have h:=Bw (sv s a) h;rw [show Int.gcd (sv s a) d=Nat.gcd a d from by unfold Int.gcd;rw [kY];rfl]at h;rw [PY s (lB a d)]at h;exact h
theorem Mr {n:Nat}:f4 n≤62↔n<4611686018427387904:=j4
theorem Mt {n:Nat}:f4 n=0↔n=0:=by have:=j4 (n:=n) (k:=0);simp only [jK]at this;omega
theorem PN {n:Nat}:1<f4 n↔1<n:=by have:=j4 (n:=n) (k:=1);simp only [Nat.pow_one]at this;omega
theorem rn {xs:List Nat}(hD:D xs) (h:xs.length≤1000000000):f4 (val xs)≤32000000000:=by
 have:=zd hD;omega
theorem pd (s:Bool) (xs ys:List Nat) (hlx:xs.length≤10000000) (hly:ys.length≤10000000) (hX:D xs) (hY:D ys):Pu Tryz.prog 193 [raw s xs,dg ys] (fr (mkRat (sv s (val xs)) (val ys))):=by
 have bx:=rn hX om;have bY:=rn hY om;by_cases h0:val ys=0
 ·rw [h0,sQ,ko xG];have b0:=Mt.2 h0;refine Pi Tryz.func193 fun C=>?_
  refine A2 ⟨?_⟩;intros;refine Wc (jd ys om hY) ?_;exact Z2
 ·have b0:f4 (val ys)≠0:=fun h=>h0 (Mt.1 h)
  by_cases hx0:val xs=0
  ·rw [hx0,show sv s 0=0 from by cases s <;> rfl,Rat.zero_mkRat,ko xG];have sg:=tV s xs om hX;rw [hx0,show sv s 0=0 from by cases s <;> rfl,Int.sign_zero]at sg;refine Pi Tryz.func193 fun C=>?_
   refine A2 ⟨?_⟩;intros;refine Wc (jd ys om hY) ?_;refine A2 ⟨?_⟩;intros;refine Wcg sg ?_;exact Z2
  ·have hg0:Nat.gcd (val xs) (val ys)≠0:=fun h=>h0 (nI.1 h).2
   have gd1:=lB (val xs) (val ys);have gd2:=nH (val xs) (val ys);have gl:=pU (f7 h0) gd2;have gx:=pU (f7 hx0) gd1;have dx:=mv hX;have dy:=mv hY;have hgl:=cH gl;obtain⟨e1,e2⟩:=La s (val xs) h0;have g1:=H7 xs ys hlx hly hX hY;generalize hx:mkRat (sv s (val xs)) (val ys)=x at *;generalize Nat.gcd (val xs) (val ys)=g at *;have bg:=jd (dgs g) om (cE g);rw [aK]at bg;have bgb:f4 g≤32000000000:=by have:=rn (cE g) om;rwa [aK]at this
   have d1:=tD xs (dgs g) hlx om hX (cE g) (by rw [aK];exact hg0);have d2:=tD ys (dgs g) hly om hY (cE g) (by rw [aK];exact hg0);rw [aK]at d1 d2;have sg:=tV s xs om hX;have sgn:(sv s (val xs)).sign≠0:=fun h=>hx0 (by have:=ge.1 h;have:=congrArg Int.natAbs this;rw [kY]at this;exact this)
   have sgb : -1≤(sv s (val xs)).sign∧(sv s (val xs)).sign≤1:=by
    rcases iw (sv s (val xs)) 0 with h|h|h
    ·rw [gg h];omega
    ·rw [h];decide
    ·rw [fu h];omega
   generalize(sv s (val xs)).sign=sx at *;refine Pi Tryz.func193 fun C=>?_
   refine A2 ⟨?_⟩;intros;refine Wc (jd ys om hY) ?_;refine A2 ⟨?_⟩;intros;refine Wcg sg ?_;refine A2 ⟨?_⟩;intros;refine Wc g1 ?_;refine A2 ⟨?_⟩;intros;refine Wc bg ?_;refine A2 ⟨?_⟩;intros;rename_i b2 b4
   refine WP.via (fun F H=>∃us vs,us.length≤10000000∧vs.length≤10000000∧D us∧D vs∧val us=val xs/g∧val vs=val ys/g∧
    LeF F (fm [(1,dg vs),(2,lit (.pointer (some ⟨b2,0,none⟩))),(4,lit (.pointer (some ⟨b4,0,none⟩)))])∧
    H=[(b4,126,[lit (.int .i64 0),lit (.int .i64 0),lit (.pointer none)]),(b2,86,[lit (.bool s),dg us])]) ?_ ?_
   ·refine WPd (fun h=>?_) (fun h=>?_)
    ·have l1:=cH (dw (val xs) g);have l2:=cH (dw (val ys) g);refine A2 ⟨?_⟩;intros;refine Wc d1 ?_;refine A2 ⟨?_⟩;intros;refine Wc d2 ?_;refine A2 ⟨?_⟩;intros;exact⟨dgs (val xs/g),dgs (val ys/g),om,om,cE _,cE _,aK _,aK _,lfA,rfl⟩
    ·have hg1:g=1:=by have:=PN (n:=g);omega
     subst hg1;refine A2 ⟨?_⟩;intros;exact⟨xs,ys,om,om,hX,hY,(kE _).symm,(kE _).symm,lfA,rfl⟩
   ·rintro F H ⟨us,vs,lu,lv,hU,hV,eu,ev,hF,rfl⟩;rw [←eu]at e1;rw [←ev]at e2;refine WP.le hF ?_;have bu:=jd us om hU;have bv:=jd vs om hV;have bub:=rn hU om;have bvb:=rn hV om;have c1:=Mr (n:=val us);have c2:=Mr (n:=val vs);have hv0:val vs≠0:=by rw [←e2];exact x.den_nz
    have hna:x.num.natAbs=val us:=by rw [e1,kY]
    have nr:=yb s us om hU;have nn:=pg vs om hV;by_cases hs1:val us<4611686018427387904
    ·by_cases hs2:val vs<4611686018427387904
     ·rw [ko ⟨om,om⟩,e1,e2];have i6:=IR s us om hU hs1;have u6:=tT vs om hV;rw [if_pos om]at u6;have hsb : -4611686018427387904<sv s (val us)∧sv s (val us)<4611686018427387904:=by have:=kY s (val us);omega
      generalize sv s (val us)=z at *;refine A2 ⟨?_⟩;intros;refine Wc bu ?_;refine A2 ⟨?_⟩;intros;refine Wcg bv ?_;refine A2 ⟨?_⟩;intros;refine Wc i6 ?_;refine A2 ⟨?_⟩;intros;refine Wc u6 ?_;exact Z2
     ·rw [sw (fun h=>hs2 (e2▸h.2)),e1,e2,kY];simp only [int,kY]at nr;refine A2 ⟨?_⟩;intros;refine Wc bu ?_;refine A2 ⟨?_⟩;intros;refine Wcg bv ?_;refine A2 ⟨?_⟩;intros;refine Wc nr ?_;refine A2 ⟨?_⟩;intros;refine Wc nn ?_;iterate 2 (refine O1 ⟨?_⟩;intros)
      refine PQ 71 rfl (aq.here _) ?_;exact Z2
    ·rw [sw (fun h=>hs1 (hna▸h.1)),e1,e2,kY];simp only [int,kY]at nr;refine A2 ⟨?_⟩;intros;refine Wc bu ?_;refine A2 ⟨?_⟩;intros;refine Wc nr ?_;refine A2 ⟨?_⟩;intros;refine Wc nn ?_;iterate 2 (refine O1 ⟨?_⟩;intros)
     refine PQ 71 rfl (aq.here _) ?_;exact Z2
def il (a:Int):Nat:=(dgs a.natAbs).length
def ht (x:Rat):Nat:=max (il x.num) (dgs x.den).length
theorem oS (a b:Int):il (a*b)≤il a+il b:=by unfold il;rw [fq];exact eV _ _
theorem yx (n:Nat):il (n:Int)=(dgs n).length:=rfl
theorem BJ (a b:Int):il (a+b)≤max (il a) (il b)+1:=aO (cH (Int.natAbs_add_le a b)) (yO _ _)
theorem iK (a:Int):il (-a)=il a:=by unfold il;rw [jF]
theorem eh (x:Rat):il x.num≤ht x:=sP _ _
theorem eP (x:Rat):(dgs x.den).length≤ht x:=nG _ _
theorem gq (x:Rat):ht (-x)=ht x:=by unfold ht;rw [jE,nF,iK]
theorem Av (a:Int) (d:Nat):ht (mkRat a d)≤max (il a) (max (dgs d).length 1):=by
 by_cases h:d=0
 ·subst h;rw [sQ];refine aO (Nat.max_le.2 ⟨?_,?_⟩) (aO (nG _ _) (nG _ _))
  ·show(dgs 0).length≤1;rw [cI];decide
  ·exact dU (by decide)
 ·obtain⟨e1,e2⟩:=Bw a h
  have h1:il (mkRat a d).num≤il a:=by
   rw [e1];refine cH ?_;have hga:((Int.gcd a d:Nat):Int)∣a:=sS a (d:Int);rw [←xk hga,Int.natAbs_tdiv];exact dw _ _
  have h2:(dgs (mkRat a d).den).length≤(dgs d).length:=by rw [e2];exact cH (dw _ _)
  unfold ht;omega
theorem fh (x y:Rat):ht (x+y)≤ht x+ht y+1:=by
 rw [nE];refine aO (Av _ _) ?_;have a1:=BJ (x.num*y.den) (y.num*x.den);have a2:=oS x.num y.den;have a3:=oS y.num x.den;have a4:=eV x.den y.den;rw [yx]at a2 a3;have b1:=eh x;have b2:=eP x;have b3:=eh y;have b4:=eP y;omega
theorem bF (x y:Rat):ht (x*y)≤ht x+ht y+1:=by
 rw [nD];refine aO (Av _ _) ?_;have a1:=oS x.num y.num;have a4:=eV x.den y.den;have b1:=eh x;have b2:=eP x;have b3:=eh y;have b4:=eP y;omega
theorem gU (x y:Rat):ht (x-y)≤ht x+ht y+1:=by
 rw [pS];have:=fh x (-y);rwa [gq]at this
abbrev Ry (s:Bool) (xs ys:List Nat):SV:=ag [lit (.bool s),dg xs,dg ys]
abbrev q (x:Rat):SV:=ag [lit (.bool (decide (x.num<0))),nat x.num.natAbs,nat x.den]
theorem L3 (a:Int) (h:il a≤1000000000):Pu Tryz.prog 119 [int a] (int a):=by
 have:=yb (decide (a<0)) (dgs a.natAbs) h (cE _);rwa [aK,iH]at this
theorem Od (a:Int) (h:il a≤1000000000):Pu Tryz.prog 216 [int a] (int (-a)):=by
 have:=Oc (decide (a<0)) (dgs a.natAbs) h (cE _);rwa [aK,iH]at this
theorem QA (n:Nat) (h:(dgs n).length≤1000000000):Pu Tryz.prog 167 [nat n] (nat n):=by
 have:=pg (dgs n) h (cE _);rwa [aK]at this
theorem Dl (a b:Nat) (h1:(dgs a).length≤100000000) (h2:(dgs b).length≤100000000):Pu Tryz.prog 196 [nat a,nat b] (nat (a*b)):=by
 have:=GP (dgs a) (dgs b) h1 h2 (cE _) (cE _);rwa [aK,aK]at this
theorem GQ (a b:Int) (h1:il a≤100000000) (h2:il b≤100000000):Pu Tryz.prog 255 [int a,int b] (int (a*b)):=by
 have:=Oh (decide (a<0)) (decide (b<0)) (dgs a.natAbs) (dgs b.natAbs) h1 h2 (cE _) (cE _);rwa [aK,aK,iH,iH]at this
theorem Dm (a:Int) (n:Nat) (h1:il a≤100000000) (h2:(dgs n).length≤100000000):Pu Tryz.prog 255 [int a,raw false (dgs n)] (int (a*n)):=by
 have:=GQ a n h1 h2;rwa [BH]at this
theorem Pn (a b:Int) (h1:il a≤100000000) (h2:il b≤100000000):Pu Tryz.prog 256 [int a,int b] (int (a+b)):=by
 have:=Pj (decide (a<0)) (decide (b<0)) (dgs a.natAbs) (dgs b.natAbs) h1 h2 (cE _) (cE _);rwa [aK,aK,iH,iH]at this
theorem tj (a:Int) (n:Nat) (h1:il a≤10000000) (h2:(dgs n).length≤10000000):Pu Tryz.prog 193 [int a,nat n] (fr (mkRat a n)):=by
 have:=pd (decide (a<0)) (dgs a.natAbs) (dgs n) h1 h2 (cE _) (cE _);rwa [aK,aK,iH]at this
theorem KZ (s:Bool) (xs ys:List Nat) (hlx:xs.length≤10000000) (hly:ys.length≤10000000) (hX:D xs) (hY:D ys):Pu Tryz.prog 160 [Ry s xs ys] (fr (mkRat (sv s (val xs)) (val ys))):=by
 refine Pi Tryz.func160 fun C=>?_
 refine A2 ⟨?_⟩;intros;refine Wc (pd s xs ys hlx hly hX hY) ?_;exact Z2
theorem BP (z:Int) (h0 : -9223372036854775808≤z) (h1:z≤9223372036854775807):Pu Tryz.prog 148 [lit (.int .i64 z)] (fr (z:Rat)):=by
 have hil:il z≤10000000:=aO (dU (n:=z.natAbs) (k:=2) om) om;have r:=pd (decide (z<0)) (dgs z.natAbs) [1] hil (by decide) (cE _) (D.cons om D.nil);rw [aK,iH,show val [1]=1 from rfl,jD]at r;by_cases ha:z≤-4611686018427387904
 ·refine Pi Tryz.func148 fun C=>?_
  refine A2 ⟨?_⟩;intros;refine Wc (tz z h0 h1) ?_;refine A2 ⟨?_⟩;intros;refine lm (ds:=[1]) 11 rfl (aq.here _) rfl om om ?_;refine Wc r ?_;exact Z2
 ·by_cases hb:4611686018427387904≤z
  ·refine Pi Tryz.func148 fun C=>?_
   refine A2 ⟨?_⟩;intros;refine Wc (tz z h0 h1) ?_;refine A2 ⟨?_⟩;intros;refine lm (ds:=[1]) 11 rfl (aq.here _) rfl om om ?_;refine Wc r ?_;exact Z2
  ·have hs:dW (z:Rat):=by unfold dW;rw [ew,jC];omega
   rw [ko hs,ew,jC];refine Pi Tryz.func148 fun C=>?_
   exact Z2
theorem oQ (x:Rat) (h:ht x≤10000000):Pu Tryz.prog 76 [fr x] (int x.num):=by
 have b1:=eh x;by_cases hs:dW x
 ·rw [ko hs];have:=hs.1;refine Pi Tryz.func76 fun C=>?_
  refine A2 ⟨?_⟩;intros;refine Wc (tz x.num om om) ?_;exact Z2
 ·rw [sw hs];refine Pi Tryz.func76 fun C=>?_
  refine A2 ⟨?_⟩;intros;refine Wc (L3 x.num om) ?_;exact Z2
theorem qG (x:Rat) (h:ht x≤10000000):Pu Tryz.prog 197 [fr x] (nat x.den):=by
 have b1:=eP x;by_cases hs:dW x
 ·rw [ko hs];have:=hs.2;refine Pi Tryz.func197 fun C=>?_
  refine A2 ⟨?_⟩;intros;rw [gM];refine Wc (lh x.den om) ?_;exact Z1
 ·rw [sw hs];refine Pi Tryz.func197 fun C=>?_
  refine A2 ⟨?_⟩;intros;refine Wc (QA x.den om) ?_;exact Z1
theorem zP {x:Rat}:dW (-x)↔dW x:=by unfold dW;rw [jE,nF,jF]
theorem m7 (x:Rat) (h:ht x≤10000000):Pu Tryz.prog 159 [fr x] (fr (-x)):=by
 have b1:=eh x;by_cases hs:dW x
 ·rw [ko hs,ko (zP.2 hs),jE,nF];have h1:=hs.1;have h2:=hs.2;refine Pi Tryz.func159 fun C=>?_
  exact Z2
 ·rw [sw hs,sw (fun h=>hs (zP.1 h)),jE,nF];refine Pi Tryz.func159 fun C=>?_
  refine A2 ⟨?_⟩;intros;refine Wdc (Od x.num om) ?_;refine A2 ⟨?_⟩;intros;refine Wdo (cQ (by exact Eq.refl (ag _))) ?_;exact Z2
theorem tm (a b:Nat) (ha:(dgs a).length≤10000000) (hb:(dgs b).length≤10000000):Pu Tryz.prog 130 [nat a,nat b] (nat (Nat.gcd a b)):=by
 have w1:=tW a om;have w2:=tW b om;by_cases hs:(dgs a).length≤2∧(dgs b).length≤2
 ·rw [if_pos hs.1]at w1;rw [if_pos hs.2]at w2;have la:=wR hs.1;have lb:=wR hs.2;refine Pi Tryz.func130 fun C=>?_
  refine A2 ⟨?_⟩;intros;refine Wc w1 ?_;refine A2 ⟨?_⟩;intros;refine Wc w2 ?_;refine A2 ⟨?_⟩;intros
  refine WP.loop (ι:=Nat×Nat) (fun s=>Nat.gcd s.1 s.2=Nat.gcd a b∧s.1<18446744073709551616∧s.2<18446744073709551616) (fun s=>s.2)
   (fun s=>fm [(5,lit (.int .u64 s.1)),(7,lit (.int .u64 s.2))]) (fun _=>[]) (a,b) ⟨rfl,la,lb⟩ lfA rfl ?_
  rintro ⟨c,d⟩ ⟨hg',hc,hd⟩ K hK;simp only at hg' hc hd⊢;by_cases h0:d=0
  ·subst h0;rw [lD]at hg';rw [←hg'];refine A2 ⟨?_⟩;intros;refine Wc (mI c hc) ?_;exact Z1
  ·have hm:c%d<d:=cT _ om;have hgg:Nat.gcd d (c%d)=Nat.gcd a b:=by rw [←hg',gf c d,lC d c,gf]
   refine A2 ⟨?_⟩;intros;exact hK _ _ (d,c%d) ⟨hgg,hd,by simp only;omega⟩ hm lfA rfl
 ·have h12:(dgs a).length≤2→¬(dgs b).length≤2:=fun x y=>hs ⟨x,y⟩
  clear hs;by_cases la:(dgs a).length≤2
  ·have lb:=h12 la;clear h12;rw [if_pos la]at w1;rw [if_neg lb]at w2;refine Pi Tryz.func130 fun C=>?_
   refine A2 ⟨?_⟩;intros;refine Wc w1 ?_;refine A2 ⟨?_⟩;intros;refine Wc w2 ?_;refine A2 ⟨?_⟩;intros
   refine WP.loop (ι:=Nat×Nat) (fun s=>Nat.gcd s.1 s.2=Nat.gcd a b∧(dgs s.1).length≤10000000∧(dgs s.2).length≤10000000) (fun s=>s.2)
    (fun s=>fm [(0,nat s.1),(1,nat s.2)]) (fun _=>[]) (a,b) ⟨rfl,ha,hb⟩ lfA rfl ?_
   rintro ⟨c,d⟩ ⟨hg',hc,hd⟩ K hK;simp only at hg' hc hd⊢;by_cases h0:d=0
   ·subst h0;rw [lD]at hg';rw [←hg'];have hl:(dgs 0).length=0:=by rw [cI];rfl
    exact Z1
   ·have hl:=eW h0;have hm:c%d<d:=cT _ om;have hgg:Nat.gcd d (c%d)=Nat.gcd a b:=by rw [←hg',gf c d,lC d c,gf]
    have hlm:=cH (Nat.le_of_lt hm);refine A2 ⟨?_⟩;intros;refine Wc (kP c d h0 hc hd) ?_;refine A2 ⟨?_⟩;intros;exact hK _ _ (d,c%d) ⟨hgg,hd,by simp only;omega⟩ hm lfA rfl
  ·clear h12;rw [if_neg la]at w1;refine Pi Tryz.func130 fun C=>?_
   refine A2 ⟨?_⟩;intros;refine Wc w1 ?_;refine A2 ⟨?_⟩;intros
   refine WP.loop (ι:=Nat×Nat) (fun s=>Nat.gcd s.1 s.2=Nat.gcd a b∧(dgs s.1).length≤10000000∧(dgs s.2).length≤10000000) (fun s=>s.2)
    (fun s=>fm [(0,nat s.1),(1,nat s.2)]) (fun _=>[]) (a,b) ⟨rfl,ha,hb⟩ lfA rfl ?_
   rintro ⟨c,d⟩ ⟨hg',hc,hd⟩ K hK;simp only at hg' hc hd⊢;by_cases h0:d=0
   ·subst h0;rw [lD]at hg';rw [←hg'];have hl:(dgs 0).length=0:=by rw [cI];rfl
    exact Z1
   ·have hl:=eW h0;have hm:c%d<d:=cT _ om;have hgg:Nat.gcd d (c%d)=Nat.gcd a b:=by rw [←hg',gf c d,lC d c,gf]
    have hlm:=cH (Nat.le_of_lt hm);refine A2 ⟨?_⟩;intros;refine Wc (kP c d h0 hc hd) ?_;refine A2 ⟨?_⟩;intros;exact hK _ _ (d,c%d) ⟨hgg,hd,by simp only;omega⟩ hm lfA rfl
def pD (d:Nat):List Nat:=if d=1 then []else dgs d
abbrev rq (x:Rat):SV:=ag [lit (.bool (decide (x.num<0))),nat x.num.natAbs,dg (pD x.den)]
theorem pC:pD 1=[]:=rfl
theorem BV {d:Nat}(h:d≠1):pD d=dgs d:=if_neg h
theorem lW {d:Nat}(h:d≠0):(dgs d).length≠0:=by have:=eW h;omega
theorem fU (x:Rat):Pu Tryz.prog 83 [rq x] (nat x.den):=by
 by_cases h:x.den=1
 ·show Pu _ _ [ag [lit (.bool (decide (x.num<0))),nat x.num.natAbs,dg (pD x.den)]] _
  rw [h,pC];refine Pi Tryz.func83 fun C=>?_
  refine A2 ⟨?_⟩;intros;refine Wc EW ?_;exact Z1
 ·show Pu _ _ [ag [lit (.bool (decide (x.num<0))),nat x.num.natAbs,dg (pD x.den)]] _
  rw [BV h];have hl:=lW x.den_nz;refine Pi Tryz.func83 fun C=>?_
  exact Z1
theorem ml (a:Int) (d:Nat) (ha:il a≤10000000) (hd:(dgs d).length≤10000000) (h0:d≠0):Pu Tryz.prog 98 [int a,nat d] (rq (mkRat a d)):=by
  have hmk:=La (decide (a<0)) a.natAbs h0;rw [iH]at hmk;obtain⟨e1,e2⟩:=hmk;have hg0:Nat.gcd a.natAbs d≠0:=fun h=>h0 (nI.1 h).2
  have gd2:=nH a.natAbs d;have gl:=pU (f7 h0) gd2;have hgl:=cH gl;have l1:=cH (dw a.natAbs (Nat.gcd a.natAbs d));have l2:=cH (dw d (Nat.gcd a.natAbs d));have cm:=tm a.natAbs d ha hd;have ha':(dgs a.natAbs).length≤10000000:=ha;generalize hx:mkRat a d=x at *;generalize hg:Nat.gcd a.natAbs d=g at *;have hlg:(dgs g).length≤10000000:=by omega
  have lden:(dgs x.den).length≤10000000:=by rw [e2];omega
  have ho:(dgs 1).length=1:=by rw [qF];rfl
  have cmp1:=uc g 1 om om;have cmp2:=uc x.den 1 om om;refine Pi Tryz.func98 fun C=>?_
  refine A2 ⟨?_⟩;intros;rename_i b2 b4;refine Wc cm ?_;refine A2 ⟨?_⟩;intros;refine Wc EW ?_;refine Wc cmp1 ?_;refine A2 ⟨?_⟩;intros
  refine WP.via (fun F H => LeF F (fm [(1, nat x.den), (2, lit (.pointer (some ⟨b2, 0, none⟩))), (4, lit (.pointer (some ⟨b4, 0, none⟩)))]) ∧
        H=[(b4,94,[lit (.bool false),lit (.slice none 0 0),lit (.slice none 0 0)]),(b2,74,[lit (.bool (decide (x.num<0))),nat x.num.natAbs])]) ?_ ?_
  · refine WPd (fun h=>?_) (fun h=>?_)
    · rw [e1,e2]
      refine A2 ⟨?_⟩;intros;refine Wc (kP a.natAbs g hg0 ha' hlg) ?_;refine A2 ⟨?_⟩;intros;refine Wc (dR (decide (a<0)) (a.natAbs/g) om) ?_;refine A2 ⟨?_⟩;intros;refine Wc (kP d g hg0 hd hlg) ?_;refine A2 ⟨?_⟩;intros;exact⟨lfA,rfl⟩
    · have hg1:g=1:=by
        rcases gR g 1 with h'|h'|h'
        · omega
        · exact h'
        · rw [oF h']at h;exact absurd (by decide) h
      rw [hg1,kE,iH]at e1;rw [hg1,kE]at e2;rw [e1,e2];refine A2 ⟨?_⟩;intros;exact⟨lfA,rfl⟩
  · rintro F H ⟨hF,rfl⟩
    refine WP.le hF ?_;refine A2 ⟨?_⟩;intros;refine Wc EW ?_;refine Wc cmp2 ?_;by_cases h1:x.den=1
    · rw [show rq x=ag [lit (.bool (decide (x.num<0))),nat x.num.natAbs,dg []]from by rw [rq,h1,pC],h1,uU]
      refine A2 ⟨?_⟩;intros;refine db (bO (RV.cellA rfl cN rfl rfl) (Le.ag ⟨Le.refl _,Le.refl _,gC,trivial⟩))
    · have hc:pF x.den 1=1:=oF (by have:=x.den_nz;omega)
      rw [show rq x=ag [lit (.bool (decide (x.num<0))),nat x.num.natAbs,nat x.den]from by rw [rq,BV h1],hc];exact Z2
end Go.Ab
