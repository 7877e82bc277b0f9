/- Texts laid one behind the other: Div, FracB, FracC. -/
import Derived.Test.YtbcojehfealiaaaGreatDoorLong
set_option linter.all false
set_option maxHeartbeats 16000000
namespace Go.Ab
open Go.Proofs
variable [Base]
theorem GD {q:List Nat}(h:q.length=1):val q=q.getD 0 0:=by
 match q,h with
 | [d],_=>simp [val]
theorem n6 (xs ys:List Nat) (hla:xs.length≤10000000) (hlb:ys.length≤10000000) (hA:D xs) (hB:D ys) (h0:val ys≠0):Pu Tryz.prog 172 [dg xs,dg ys] (tup [nat (val xs/val ys),nat (val xs%val ys),lit (.bool true)]):=by
 obtain⟨p,t1,h1,hP,hva,hpd⟩:=jV xs hla om hA;obtain⟨q,t2,h2,hQ,hvb,hqd⟩:=jV ys hlb om hB;rw [←hva]at hpd;rw [←hvb]at hqd h0;rw [←hva,←hvb];have hqp:0<q.length:=by rw [hqd];exact bX h0
 refine Pi Tryz.func172 fun C=>?_
 repeat(refine A1 ⟨?_⟩;intros)
 refine Wc t1 ?_;repeat(refine A1 ⟨?_⟩;intros)
 refine Wc t2 ?_;repeat(refine A1 ⟨?_⟩;intros)
 refine Wc (Bp p q om om hP hQ) ?_;by_cases hlt:val p<val q
 ·rw [ib hlt,Nat.div_eq_of_lt hlt,Nat.mod_eq_of_lt hlt];repeat(refine A1 ⟨?_⟩;intros)
  refine Wc (y6 p om) ?_;repeat(refine A1 ⟨?_⟩;intros)
  refine aS (Kx (RV.tmp rfl) (RV.tmp rfl) (RV.tmp rfl) ?_);show Le (tup [lit (.slice none 0 0),dg p,lit (.bool true)]) (tup [dg (dgs 0),dg (dgs (val p)),lit (.bool true)])
  rw [←hpd,aT];exact Le.tup3 eC Lr Lr
 ·have hc:=vX (val p) (val q);by_cases hq1:q.length=1
  ·have hd:=GD hq1;have hdb:val q<4294967296:=by rw [hd];exact hQ.get 0
   repeat(refine A1 ⟨?_⟩;intros)
   rw [←hd];refine Wc (BO p (val q) om hP h0 hdb) ?_;have hm:val p%val q<val q:=Nat.mod_lt _ om;generalize val p%val q=m at *;generalize val p/val q=e at *;repeat(refine A1 ⟨?_⟩;intros)
   refine Wc (fR m om) ?_;repeat(refine A1 ⟨?_⟩;intros)
   ((first|refine aS ?_|refine eV ?_);exact Kx (RV.tmp rfl) (RV.tmp rfl) (RV.tmp rfl) Lr)
  ·repeat(refine A1 ⟨?_⟩;intros)
   refine Wc (Fb p q hpd hqd om om om) ?_;repeat(refine A1 ⟨?_⟩;intros)
   ((first|refine aS ?_|refine eV ?_);exact Kx (RV.tmp rfl) (RV.tmp rfl) (RV.tmp rfl) Lr)
theorem F9 {n:Nat}(h:(dgs n).length≤2):n<18446744073709551616:=Nat.lt_of_lt_of_le (jp n) (Nat.le_trans (Nat.pow_le_pow_right om h) (by decide))
theorem B7 (xs ys:List Nat) (hla:xs.length≤10000000) (hlb:ys.length≤10000000) (hA:D xs) (hB:D ys):Pu Tryz.prog 171 [dg xs,dg ys] (nat (Nat.gcd (val xs) (val ys))):=by
 have la:∀{k},k≤val xs→(dgs k).length≤10000000:=fun h=>by have:=bC (Nat.lt_of_le_of_lt h (bP hA));omega
 have lb:∀{k},k≤val ys→(dgs k).length≤10000000:=fun h=>by have:=bC (Nat.lt_of_le_of_lt h (bP hB));omega
 refine Pi Tryz.func171 fun C=>?_
 repeat(refine A1 ⟨?_⟩;intros)
 refine Wc (jF xs om hA) ?_;repeat(refine A1 ⟨?_⟩;intros)
 refine Wc (jF ys om hB) ?_;repeat(refine A1 ⟨?_⟩;intros)
 refine WP.loop (ι:=Nat×Nat) (fun s=>Nat.gcd s.1 s.2=Nat.gcd (val xs) (val ys)∧(dgs s.1).length≤10000000∧(dgs s.2).length≤10000000) (fun s=>s.2)
  (fun s=>fm [(0,nat s.1),(1,nat s.2)]) (fun _=>[]) (val xs,val ys) ⟨rfl,la (Nat.le_refl _),lb (Nat.le_refl _)⟩ lfA rfl ?_
 rintro ⟨a,b⟩ ⟨hg,hla,hlb⟩ K hK;simp only at hg hla hlb⊢;by_cases hs:(dgs a).length≤2∧(dgs b).length≤2
 ·have ba:=F9 hs.1;have bb:=F9 hs.2;have u1:=nF (dgs a) om (aR a);have u2:=nF (dgs b) om (aR b);rw [au,if_pos ba]at u1;rw [au,if_pos bb]at u2;repeat(refine A1 ⟨?_⟩;intros)
  refine Wc u1 ?_;repeat(refine A1 ⟨?_⟩;intros)
  refine Wc u2 ?_;repeat(refine A1 ⟨?_⟩;intros)
  rw [←hg]
  refine WP.loop (ι:=Nat×Nat) (fun s=>Nat.gcd s.1 s.2=Nat.gcd a b∧s.1<18446744073709551616∧s.2<18446744073709551616) (fun s=>s.2)
   (fun s=>fm [(8,lit (.int .u64 s.1)),(10,lit (.int .u64 s.2))]) (fun _=>[]) (a,b) ⟨rfl,ba,bb⟩ lfA rfl ?_
  rintro ⟨c,d⟩ ⟨hg',hc,hd⟩ K hK;simp only at hg' hc hd⊢;by_cases h0:d=0
  ·subst h0;rw [Nat.gcd_zero_right]at hg';rw [←hg'];repeat(refine A1 ⟨?_⟩;intros)
   refine Wc (fR c hc) ?_;exact Z1
  ·have hm:c%d<d:=Nat.mod_lt _ om;have hgg:Nat.gcd d (c%d)=Nat.gcd a b:=by rw [←hg',Nat.gcd_comm c d,Nat.gcd_rec d c,Nat.gcd_comm]
   repeat(refine A1 ⟨?_⟩;intros)
   exact hK _ _ (d,c%d) ⟨hgg,hd,by simp only;omega⟩ hm lfA rfl
 ·by_cases h0:b=0
  ·subst h0;rw [Nat.gcd_zero_right]at hg;rw [←hg];have hl:(dgs 0).length=0:=by rw [aT];rfl
   exact Z1
  ·have hp:=bX h0;have hm:a%b<b:=Nat.mod_lt _ om;have hgg:Nat.gcd b (a%b)=Nat.gcd (val xs) (val ys):=by rw [←hg,Nat.gcd_comm a b,Nat.gcd_rec b a,Nat.gcd_comm]
   have dm:=n6 (dgs a) (dgs b) hla hlb (aR a) (aR b) (by rw [au];exact h0);rw [au,au]at dm;have hlm:=aM (Nat.le_of_lt hm);by_cases ha:(dgs a).length≤2
   ·repeat(refine A1 ⟨?_⟩;intros)
    refine Wc dm ?_;repeat(refine A1 ⟨?_⟩;intros)
    exact hK _ _ (b,a%b) ⟨hgg,hlb,by simp only;omega⟩ hm lfA rfl
   ·repeat(refine A1 ⟨?_⟩;intros)
    refine Wc dm ?_;repeat(refine A1 ⟨?_⟩;intros)
    exact hK _ _ (b,a%b) ⟨hgg,hlb,by simp only;omega⟩ hm lfA rfl
theorem qP:bz 0:=by unfold bz;decide
theorem JD (s:Bool){a g:Nat}(h:g∣a):sv s a/(g:Int)=sv s (a/g):=by
 obtain⟨k,rfl⟩:=h;by_cases h0:g=0
 ·subst h0;cases s <;> simp [sv]
 ·rw [Nat.mul_div_cancel_left _ om];cases s
  ·simp only [sv,cond_false];rw [Int.natCast_mul,Int.mul_ediv_cancel_left _ om]
  ·simp only [sv,cond_true];rw [Int.natCast_mul,←Int.mul_neg,Int.mul_ediv_cancel_left _ om]
theorem Jj (s:Bool) (a:Nat){d:Nat}(h:d≠0):(mkRat (sv s a) d).num=sv s (a/Nat.gcd a d)∧(mkRat (sv s a) d).den=d/Nat.gcd a d:=by
 have h:=vk (sv s a) h;rw [show Int.gcd (sv s a) d=Nat.gcd a d from by unfold Int.gcd;rw [gb];rfl]at h;rw [JD s (Nat.gcd_dvd_left a d)]at h;exact h
theorem Ga {n:Nat}:cq n≤62↔n<4611686018427387904:=e7
theorem Js {n:Nat}:cq n=0↔n=0:=by have:=e7 (n:=n) (k:=0);simp only [Nat.pow_zero]at this;omega
theorem Lq {n:Nat}:1<cq n↔1<n:=by have:=e7 (n:=n) (k:=1);simp only [Nat.pow_one]at this;omega
theorem kZ {xs:List Nat}(hD:D xs) (h:xs.length≤1000000000):cq (val xs)≤32000000000:=by
 have:=yc hD;omega
theorem jC (s:Bool) (xs ys:List Nat) (hlx:xs.length≤10000000) (hly:ys.length≤10000000) (hX:D xs) (hY:D ys):Pu Tryz.prog 112 [raw s xs,dg ys] (fr (mkRat (sv s (val xs)) (val ys))):=by
 have bx:=kZ hX om;have bY:=kZ hY om;by_cases h0:val ys=0
 ·rw [h0,Rat.mkRat_zero,fE qP];have b0:=Js.2 h0;refine Pi Tryz.func112 fun C=>?_
  repeat(refine A1 ⟨?_⟩;intros)
  refine Wc (fZ ys om hY) ?_;exact Z2
 ·have b0:cq (val ys)≠0:=fun h=>h0 (Js.1 h)
  by_cases hx0:val xs=0
  ·rw [hx0,show sv s 0=0 from by cases s <;> rfl,Rat.zero_mkRat,fE qP];have sg:=qR s xs om hX;rw [hx0,show sv s 0=0 from by cases s <;> rfl,Int.sign_zero]at sg;refine Pi Tryz.func112 fun C=>?_
   repeat(refine A1 ⟨?_⟩;intros)
   refine Wc (fZ ys om hY) ?_;repeat(refine A1 ⟨?_⟩;intros)
   refine Wcg sg ?_;exact Z2
  ·have hg0:Nat.gcd (val xs) (val ys)≠0:=fun h=>h0 (Nat.gcd_eq_zero_iff.1 h).2
   have gd1:=Nat.gcd_dvd_left (val xs) (val ys);have gd2:=Nat.gcd_dvd_right (val xs) (val ys);have gl:=Nat.le_of_dvd (Nat.pos_of_ne_zero h0) gd2;have gx:=Nat.le_of_dvd (Nat.pos_of_ne_zero hx0) gd1;have dx:=gN hX;have dy:=gN hY;have hgl:=aM gl;obtain⟨e1,e2⟩:=Jj s (val xs) h0;have g1:=B7 xs ys hlx hly hX hY;generalize hx:mkRat (sv s (val xs)) (val ys)=x at *;generalize Nat.gcd (val xs) (val ys)=g at *;have bg:=fZ (dgs g) om (aR g);rw [au]at bg;have bgb:cq g≤32000000000:=by have:=kZ (aR g) om;rwa [au]at this
   have d1:=n6 xs (dgs g) hlx om hX (aR g) (by rw [au];exact hg0);have d2:=n6 ys (dgs g) hly om hY (aR g) (by rw [au];exact hg0);rw [au]at d1 d2;have sg:=qR s xs om hX;have sgn:(sv s (val xs)).sign≠0:=fun h=>hx0 (by have:=Int.sign_eq_zero_iff_zero.1 h;have:=congrArg Int.natAbs this;rw [gb]at this;exact this)
   have sgb : -1≤(sv s (val xs)).sign∧(sv s (val xs)).sign≤1:=by
    rcases Int.lt_trichotomy (sv s (val xs)) 0 with h|h|h
    ·rw [Int.sign_eq_neg_one_of_neg h];omega
    ·rw [h];decide
    ·rw [Int.sign_eq_one_of_pos h];omega
   generalize(sv s (val xs)).sign=sx at *;refine Pi Tryz.func112 fun C=>?_
   repeat(refine A1 ⟨?_⟩;intros)
   refine Wc (fZ ys om hY) ?_;repeat(refine A1 ⟨?_⟩;intros)
   refine Wcg sg ?_;repeat(refine A1 ⟨?_⟩;intros)
   refine Wc g1 ?_;repeat(refine A1 ⟨?_⟩;intros)
   refine Wc bg ?_;repeat(refine A1 ⟨?_⟩;intros)
   rename_i b2 b4
   refine WP.via (fun F H=>∃us vs,us.length≤10000000∧vs.length≤10000000∧D us∧D vs∧val us=val xs/g∧val vs=val ys/g∧
    LeF F (fm [(1,dg vs),(2,lit (.pointer (some ⟨b2,0,none⟩))),(4,lit (.pointer (some ⟨b4,0,none⟩)))])∧
    H=[(b4,92,[lit (.int .i64 0),lit (.int .i64 0),lit (.pointer none)]),(b2,39,[lit (.bool s),dg us])]) ?_ ?_
   ·refine WPd (fun h=>?_) (fun h=>?_)
    ·have l1:=aM (Nat.div_le_self (val xs) g);have l2:=aM (Nat.div_le_self (val ys) g);repeat(refine A1 ⟨?_⟩;intros)
     refine Wc d1 ?_;repeat(refine A1 ⟨?_⟩;intros)
     refine Wc d2 ?_;repeat(refine A1 ⟨?_⟩;intros)
     exact⟨dgs (val xs/g),dgs (val ys/g),om,om,aR _,aR _,au _,au _,lfA,rfl⟩
    ·have hg1:g=1:=by have:=Lq (n:=g);omega
     subst hg1;repeat(refine A1 ⟨?_⟩;intros)
     exact⟨xs,ys,om,om,hX,hY,(Nat.div_one _).symm,(Nat.div_one _).symm,lfA,rfl⟩
   ·rintro F H ⟨us,vs,lu,lv,hU,hV,eu,ev,hF,rfl⟩;rw [←eu]at e1;rw [←ev]at e2;refine WP.le hF ?_;have bu:=fZ us om hU;have bv:=fZ vs om hV;have bub:=kZ hU om;have bvb:=kZ hV om;have c1:=Ga (n:=val us);have c2:=Ga (n:=val vs);have hv0:val vs≠0:=by rw [←e2];exact x.den_nz
    have hna:x.num.natAbs=val us:=by rw [e1,gb]
    have nr:=rE s us om hU;have nn:=jF vs om hV;by_cases hs1:val us<4611686018427387904
    ·by_cases hs2:val vs<4611686018427387904
     ·rw [fE ⟨om,om⟩,e1,e2];have i6:=CF s us om hU hs1;have u6:=nF vs om hV;rw [if_pos om]at u6;have hsb : -4611686018427387904<sv s (val us)∧sv s (val us)<4611686018427387904:=by have:=gb s (val us);omega
      generalize sv s (val us)=z at *;repeat(refine A1 ⟨?_⟩;intros)
      refine Wc bu ?_;repeat(refine A1 ⟨?_⟩;intros)
      refine Wcg bv ?_;repeat(refine A1 ⟨?_⟩;intros)
      refine Wc i6 ?_;repeat(refine A1 ⟨?_⟩;intros)
      refine Wc u6 ?_;exact Z2
     ·rw [mS (fun h=>hs2 (e2▸h.2)),e1,e2,gb];simp only [int,gb]at nr;repeat(refine A1 ⟨?_⟩;intros)
      refine Wc bu ?_;repeat(refine A1 ⟨?_⟩;intros)
      refine Wcg bv ?_;repeat(refine A1 ⟨?_⟩;intros)
      refine Wc nr ?_;repeat(refine A1 ⟨?_⟩;intros)
      refine Wc nn ?_;iterate 2 (refine O1 ⟨?_⟩;intros)
      refine Gw 71 rfl (ak.here _) ?_;exact Z2
    ·rw [mS (fun h=>hs1 (hna▸h.1)),e1,e2,gb];simp only [int,gb]at nr;repeat(refine A1 ⟨?_⟩;intros)
     refine Wc bu ?_;repeat(refine A1 ⟨?_⟩;intros)
     refine Wc nr ?_;repeat(refine A1 ⟨?_⟩;intros)
     refine Wc nn ?_;iterate 2 (refine O1 ⟨?_⟩;intros)
     refine Gw 71 rfl (ak.here _) ?_;exact Z2
theorem kt:dgs 1=[1]:=by rw [dgs];simp [aT]
def il (a:Int):Nat:=(dgs a.natAbs).length
def ht (x:Rat):Nat:=max (il x.num) (dgs x.den).length
theorem bG (a b:Int):il (a*b)≤il a+il b:=by unfold il;rw [Int.natAbs_mul];exact bW _ _
theorem mQ (n:Nat):il (n:Int)=(dgs n).length:=rfl
theorem pm (a b:Int):il (a+b)≤max (il a) (il b)+1:=Nat.le_trans (aM (Int.natAbs_add_le a b)) (sj _ _)
theorem cH (a:Int):il (-a)=il a:=by unfold il;rw [Int.natAbs_neg]
theorem bQ (x:Rat):il x.num≤ht x:=Nat.le_max_left _ _
theorem cB (x:Rat):(dgs x.den).length≤ht x:=Nat.le_max_right _ _
theorem ck (x:Rat):ht (-x)=ht x:=by unfold ht;rw [Rat.neg_num,Rat.neg_den,cH]
theorem rX (a:Int) (d:Nat):ht (mkRat a d)≤max (il a) (max (dgs d).length 1):=by
 by_cases h:d=0
 ·subst h;rw [Rat.mkRat_zero];refine Nat.le_trans (Nat.max_le.2 ⟨?_,?_⟩) (Nat.le_trans (Nat.le_max_right _ _) (Nat.le_max_right _ _))
  ·show(dgs 0).length≤1;rw [aT];decide
  ·exact bC (by decide)
 ·obtain⟨e1,e2⟩:=vk a h
  have h1:il (mkRat a d).num≤il a:=by
   rw [e1];refine aM ?_;have hga:((Int.gcd a d:Nat):Int)∣a:=Int.gcd_dvd_left a (d:Int);rw [←Int.tdiv_eq_ediv_of_dvd hga,Int.natAbs_tdiv];exact Nat.div_le_self _ _
  have h2:(dgs (mkRat a d).den).length≤(dgs d).length:=by rw [e2];exact aM (Nat.div_le_self _ _)
  unfold ht;omega
theorem aI (x y:Rat):ht (x+y)≤ht x+ht y+1:=by
 rw [Rat.add_def'];refine Nat.le_trans (rX _ _) ?_;have a1:=pm (x.num*y.den) (y.num*x.den);have a2:=bG x.num y.den;have a3:=bG y.num x.den;have a4:=bW x.den y.den;rw [mQ]at a2 a3;have b1:=bQ x;have b2:=cB x;have b3:=bQ y;have b4:=cB y;omega
theorem ae (x y:Rat):ht (x*y)≤ht x+ht y+1:=by
 rw [Rat.mul_def'];refine Nat.le_trans (rX _ _) ?_;have a1:=bG x.num y.num;have a4:=bW x.den y.den;have b1:=bQ x;have b2:=cB x;have b3:=bQ y;have b4:=cB y;omega
theorem cI (x y:Rat):ht (x-y)≤ht x+ht y+1:=by
 rw [Rat.sub_eq_add_neg];have:=aI x (-y);rwa [ck]at this
abbrev H8 (s:Bool) (xs ys:List Nat):SV:=ag [lit (.bool s),dg xs,dg ys]
abbrev q (x:Rat):SV:=ag [lit (.bool (decide (x.num<0))),nat x.num.natAbs,nat x.den]
theorem ER (a:Int) (h:il a≤1000000000):Pu Tryz.prog 161 [int a] (int a):=by
 have:=rE (decide (a<0)) (dgs a.natAbs) h (aR _);rwa [au,eB]at this
theorem I8 (a:Int) (h:il a≤1000000000):Pu Tryz.prog 243 [int a] (int (-a)):=by
 have:=I7 (decide (a<0)) (dgs a.natAbs) h (aR _);rwa [au,eB]at this
theorem Kg (n:Nat) (h:(dgs n).length≤1000000000):Pu Tryz.prog 162 [nat n] (nat n):=by
 have:=jF (dgs n) h (aR _);rwa [au]at this
theorem xq (a b:Nat) (h1:(dgs a).length≤100000000) (h2:(dgs b).length≤100000000):Pu Tryz.prog 160 [nat a,nat b] (nat (a*b)):=by
 have:=AM (dgs a) (dgs b) h1 h2 (aR _) (aR _);rwa [au,au]at this
theorem AO (a b:Int) (h1:il a≤100000000) (h2:il b≤100000000):Pu Tryz.prog 159 [int a,int b] (int (a*b)):=by
 have:=Ia (decide (a<0)) (decide (b<0)) (dgs a.natAbs) (dgs b.natAbs) h1 h2 (aR _) (aR _);rwa [au,au,eB,eB]at this
theorem xr (a:Int) (n:Nat) (h1:il a≤100000000) (h2:(dgs n).length≤100000000):Pu Tryz.prog 159 [int a,raw false (dgs n)] (int (a*n)):=by
 have:=AO a n h1 h2;rwa [vG]at this
theorem J0 (a b:Int) (h1:il a≤100000000) (h2:il b≤100000000):Pu Tryz.prog 158 [int a,int b] (int (a+b)):=by
 have:=IX (decide (a<0)) (decide (b<0)) (dgs a.natAbs) (dgs b.natAbs) h1 h2 (aR _) (aR _);rwa [au,au,eB,eB]at this
theorem mI (a:Int) (n:Nat) (h1:il a≤10000000) (h2:(dgs n).length≤10000000):Pu Tryz.prog 112 [int a,nat n] (fr (mkRat a n)):=by
 have:=jC (decide (a<0)) (dgs a.natAbs) (dgs n) h1 h2 (aR _) (aR _);rwa [au,au,eB]at this
theorem Kf (s:Bool) (xs ys:List Nat) (hlx:xs.length≤10000000) (hly:ys.length≤10000000) (hX:D xs) (hY:D ys):Pu Tryz.prog 115 [H8 s xs ys] (fr (mkRat (sv s (val xs)) (val ys))):=by
 refine Pi Tryz.func115 fun C=>?_
 repeat(refine A1 ⟨?_⟩;intros)
 refine Wc (jC s xs ys hlx hly hX hY) ?_;exact Z2
theorem lP (z:Int) (h0 : -9223372036854775808≤z) (h1:z≤9223372036854775807):Pu Tryz.prog 73 [lit (.int .i64 z)] (fr (z:Rat)):=by
 have hil:il z≤10000000:=Nat.le_trans (bC (n:=z.natAbs) (k:=2) om) om;have r:=jC (decide (z<0)) (dgs z.natAbs) [1] hil (by decide) (aR _) (D.cons om D.nil);rw [au,eB,show val [1]=1 from rfl,Rat.mkRat_one]at r;by_cases ha:z≤-4611686018427387904
 ·refine Pi Tryz.func73 fun C=>?_
  repeat(refine A1 ⟨?_⟩;intros)
  refine Wc (mR z h0 h1) ?_;repeat(refine A1 ⟨?_⟩;intros)
  refine g9 (ds:=[1]) 11 rfl (ak.here _) rfl om om ?_;refine Wc r ?_;exact Z2
 ·by_cases hb:4611686018427387904≤z
  ·refine Pi Tryz.func73 fun C=>?_
   repeat(refine A1 ⟨?_⟩;intros)
   refine Wc (mR z h0 h1) ?_;repeat(refine A1 ⟨?_⟩;intros)
   refine g9 (ds:=[1]) 11 rfl (ak.here _) rfl om om ?_;refine Wc r ?_;exact Z2
  ·have hs:bz (z:Rat):=by unfold bz;rw [Rat.num_intCast,Rat.den_intCast];omega
   rw [fE hs,Rat.num_intCast,Rat.den_intCast];refine Pi Tryz.func73 fun C=>?_
   exact Z2
theorem jo (x:Rat) (h:ht x≤10000000):Pu Tryz.prog 100 [fr x] (int x.num):=by
 have b1:=bQ x;by_cases hs:bz x
 ·rw [fE hs];have:=hs.1;refine Pi Tryz.func100 fun C=>?_
  repeat(refine A1 ⟨?_⟩;intros)
  refine Wc (mR x.num om om) ?_;exact Z2
 ·rw [mS hs];refine Pi Tryz.func100 fun C=>?_
  repeat(refine A1 ⟨?_⟩;intros)
  refine Wc (ER x.num om) ?_;exact Z2
theorem ku (x:Rat) (h:ht x≤10000000):Pu Tryz.prog 101 [fr x] (nat x.den):=by
 have b1:=cB x;by_cases hs:bz x
 ·rw [fE hs];have:=hs.2;refine Pi Tryz.func101 fun C=>?_
  repeat(refine A1 ⟨?_⟩;intros)
  rw [Int.sub_add_cancel];refine Wc (fR x.den om) ?_;exact Z1
 ·rw [mS hs];refine Pi Tryz.func101 fun C=>?_
  repeat(refine A1 ⟨?_⟩;intros)
  refine Wc (Kg x.den om) ?_;exact Z1
theorem jr (x:Rat) (h:ht x≤10000000):Pu Tryz.prog 44 [fr x] (q x):=by
 refine Pi Tryz.func44 fun C=>?_
 repeat(refine A1 ⟨?_⟩;intros)
 refine Wdc (jo x h) ?_;repeat(refine A1 ⟨?_⟩;intros)
 refine Wdc (ku x h) ?_;exact Z2
theorem tc {x:Rat}:bz (-x)↔bz x:=by unfold bz;rw [Rat.neg_num,Rat.neg_den,Int.natAbs_neg]
theorem fK (x:Rat) (h:ht x≤10000000):Pu Tryz.prog 206 [fr x] (fr (-x)):=by
 have b1:=bQ x;by_cases hs:bz x
 ·rw [fE hs,fE (tc.2 hs),Rat.neg_num,Rat.neg_den];have h1:=hs.1;have h2:=hs.2;refine Pi Tryz.func206 fun C=>?_
  exact Z2
 ·rw [mS hs,mS (fun h=>hs (tc.1 h)),Rat.neg_num,Rat.neg_den];refine Pi Tryz.func206 fun C=>?_
  repeat(refine A1 ⟨?_⟩;intros)
  refine Wdc (I8 x.num om) ?_;repeat(refine A1 ⟨?_⟩;intros)
  refine Wdo (bh (by exact Eq.refl (ag _))) ?_;exact Z2
end Go.Ab
