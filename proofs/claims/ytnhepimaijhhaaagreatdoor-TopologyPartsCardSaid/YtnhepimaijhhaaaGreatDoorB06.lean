/- Texts laid one behind the other: Div, FracB, FracC. -/
import Derived.Test.YtnhepimaijhhaaaGreatDoorB04
import Derived.Test.YtnhepimaijhhaaaGreatDoorLong
import Derived.Test.YtnhepimaijhhaaaGreatDoorB03
set_option linter.all false
set_option maxHeartbeats 16000000
namespace Go.Ab
open Go.Proofs
variable [Base]
theorem FY {q:List Nat}(h:q.length=1):val q=q.getD 0 0:=by
 match q,h with
 | [d],_=>simp [val]
theorem mF (xs ys:List Nat) (hla:xs.length≤10000000) (hlb:ys.length≤10000000) (hA:D xs) (hB:D ys) (h0:val ys≠0):Pu Tryz.prog 220 [dg xs,dg ys] (tup [nat (val xs/val ys),nat (val xs%val ys),lit (.bool true)]):=by
 obtain⟨p,t1,h1,hP,hva,hpd⟩:=jU xs hla om hA
 obtain⟨q,t2,h2,hQ,hvb,hqd⟩:=jU ys hlb om hB
 rw [←hva]at hpd
 rw [←hvb]at hqd h0
 rw [←hva,←hvb]
 have hqp:0<q.length:=by rw [hqd];exact bW h0
 refine Pi Tryz.func220 fun C=>?_
 repeat(refine A1 ⟨?_⟩;intros)
 refine Wc t1 ?_
 repeat(refine A1 ⟨?_⟩;intros)
 refine Wc t2 ?_
 repeat(refine A1 ⟨?_⟩;intros)
 refine Wc (AP p q om om hP hQ) ?_
 by_cases hlt:val p<val q
 ·rw [i9 hlt,Nat.div_eq_of_lt hlt,Nat.mod_eq_of_lt hlt]
  repeat(refine A1 ⟨?_⟩;intros)
  refine Wc (xz p om) ?_
  repeat(refine A1 ⟨?_⟩;intros)
  refine aQ (I8 (RV.tmp rfl) (RV.tmp rfl) (RV.tmp rfl) ?_)
  show Le (tup [lit (.slice none 0 0),dg p,lit (.bool true)]) (tup [dg (dgs 0),dg (dgs (val p)),lit (.bool true)])
  rw [←hpd,aR]
  exact Le.tup3 ee Lr Lr
 ·have hc:=vE (val p) (val q)
  by_cases hq1:q.length=1
  ·have hd:=FY hq1
   have hdb:val q<4294967296:=by rw [hd];exact hQ.get 0
   repeat(refine A1 ⟨?_⟩;intros)
   rw [←hd]
   refine Wc (Bf p (val q) om hP h0 hdb) ?_
   have hm:val p%val q<val q:=Nat.mod_lt _ om
   generalize val p%val q=m at *
   generalize val p/val q=e at *
   repeat(refine A1 ⟨?_⟩;intros)
   refine Wc (fN m om) ?_
   repeat(refine A1 ⟨?_⟩;intros)
   ((first|refine aQ ?_|refine eB ?_);exact I8 (RV.tmp rfl) (RV.tmp rfl) (RV.tmp rfl) Lr)
  ·repeat(refine A1 ⟨?_⟩;intros)
   refine Wc (Em p q hpd hqd om om om) ?_
   repeat(refine A1 ⟨?_⟩;intros)
   ((first|refine aQ ?_|refine eB ?_);exact I8 (RV.tmp rfl) (RV.tmp rfl) (RV.tmp rfl) Lr)
theorem Ek {n:Nat}(h:(dgs n).length≤2):n<18446744073709551616:=Nat.lt_of_lt_of_le (jg n) (Nat.le_trans (Nat.pow_le_pow_right om h) (by decide))
theorem Av (xs ys:List Nat) (hla:xs.length≤10000000) (hlb:ys.length≤10000000) (hA:D xs) (hB:D ys):Pu Tryz.prog 203 [dg xs,dg ys] (nat (Nat.gcd (val xs) (val ys))):=by
 have la:∀{k},k≤val xs→(dgs k).length≤10000000:=fun h=>by have:=bO (Nat.lt_of_le_of_lt h (bN hA));omega
 have lb:∀{k},k≤val ys→(dgs k).length≤10000000:=fun h=>by have:=bO (Nat.lt_of_le_of_lt h (bN hB));omega
 refine Pi Tryz.func203 fun C=>?_
 repeat(refine A1 ⟨?_⟩;intros)
 refine Wc (jy xs om hA) ?_
 repeat(refine A1 ⟨?_⟩;intros)
 refine Wc (jy ys om hB) ?_
 repeat(refine A1 ⟨?_⟩;intros)
 refine WP.loop (ι:=Nat×Nat) (fun s=>Nat.gcd s.1 s.2=Nat.gcd (val xs) (val ys)∧(dgs s.1).length≤10000000∧(dgs s.2).length≤10000000) (fun s=>s.2)
  (fun s=>fm [(0,nat s.1),(1,nat s.2)]) (fun _=>[]) (val xs,val ys) ⟨rfl,la (Nat.le_refl _),lb (Nat.le_refl _)⟩ lfA rfl ?_
 rintro ⟨a,b⟩ ⟨hg,hla,hlb⟩ K hK
 simp only at hg hla hlb⊢
 by_cases hs:(dgs a).length≤2∧(dgs b).length≤2
 ·have ba:=Ek hs.1
  have bb:=Ek hs.2
  have u1:=mT (dgs a) om (aM a)
  have u2:=mT (dgs b) om (aM b)
  rw [af,if_pos ba]at u1
  rw [af,if_pos bb]at u2
  repeat(refine A1 ⟨?_⟩;intros)
  refine Wc u1 ?_
  repeat(refine A1 ⟨?_⟩;intros)
  refine Wc u2 ?_
  repeat(refine A1 ⟨?_⟩;intros)
  rw [←hg]
  refine WP.loop (ι:=Nat×Nat) (fun s=>Nat.gcd s.1 s.2=Nat.gcd a b∧s.1<18446744073709551616∧s.2<18446744073709551616) (fun s=>s.2)
   (fun s=>fm [(8,lit (.int .u64 s.1)),(10,lit (.int .u64 s.2))]) (fun _=>[]) (a,b) ⟨rfl,ba,bb⟩ lfA rfl ?_
  rintro ⟨c,d⟩ ⟨hg',hc,hd⟩ K hK
  simp only at hg' hc hd⊢
  by_cases h0:d=0
  ·subst h0
   rw [Nat.gcd_zero_right]at hg'
   rw [←hg']
   repeat(refine A1 ⟨?_⟩;intros)
   refine Wc (fN c hc) ?_
   exact Z1
  ·have hm:c%d<d:=Nat.mod_lt _ om
   have hgg:Nat.gcd d (c%d)=Nat.gcd a b:=by rw [←hg',Nat.gcd_comm c d,Nat.gcd_rec d c,Nat.gcd_comm]
   repeat(refine A1 ⟨?_⟩;intros)
   exact hK _ _ (d,c%d) ⟨hgg,hd,by simp only;omega⟩ hm lfA rfl
 ·by_cases h0:b=0
  ·subst h0
   rw [Nat.gcd_zero_right]at hg
   rw [←hg]
   have hl:(dgs 0).length=0:=by rw [aR];rfl
   exact Z1
  ·have hp:=bW h0
   have hm:a%b<b:=Nat.mod_lt _ om
   have hgg:Nat.gcd b (a%b)=Nat.gcd (val xs) (val ys):=by rw [←hg,Nat.gcd_comm a b,Nat.gcd_rec b a,Nat.gcd_comm]
   have dm:=mF (dgs a) (dgs b) hla hlb (aM a) (aM b) (by rw [af];exact h0)
   rw [af,af]at dm
   have hlm:=aO (Nat.le_of_lt hm)
   by_cases ha:(dgs a).length≤2
   ·repeat(refine A1 ⟨?_⟩;intros)
    refine Wc dm ?_
    repeat(refine A1 ⟨?_⟩;intros)
    exact hK _ _ (b,a%b) ⟨hgg,hlb,by simp only;omega⟩ hm lfA rfl
   ·repeat(refine A1 ⟨?_⟩;intros)
    refine Wc dm ?_
    repeat(refine A1 ⟨?_⟩;intros)
    exact hK _ _ (b,a%b) ⟨hgg,hlb,by simp only;omega⟩ hm lfA rfl
theorem qA:bz 0:=by unfold bz;decide
theorem IX (s:Bool){a g:Nat}(h:g∣a):sv s a/(g:Int)=sv s (a/g):=by
 obtain⟨k,rfl⟩:=h
 by_cases h0:g=0
 ·subst h0;cases s <;> simp [sv]
 ·rw [Nat.mul_div_cancel_left _ om]
  cases s
  ·simp only [sv,cond_false];rw [Int.natCast_mul,Int.mul_ediv_cancel_left _ om]
  ·simp only [sv,cond_true];rw [Int.natCast_mul,←Int.mul_neg,Int.mul_ediv_cancel_left _ om]
theorem IG (s:Bool) (a:Nat){d:Nat}(h:d≠0):(mkRat (sv s a) d).num=sv s (a/Nat.gcd a d)∧(mkRat (sv s a) d).den=d/Nat.gcd a d:=by
 have h:=uY (sv s a) h
 rw [show Int.gcd (sv s a) d=Nat.gcd a d from by unfold Int.gcd;rw [fX];rfl]at h
 rw [IX s (Nat.gcd_dvd_left a d)]at h
 exact h
theorem FG {n:Nat}:cq n≤62↔n<4611686018427387904:=dU
theorem IM {n:Nat}:cq n=0↔n=0:=by have:=dU (n:=n) (k:=0);simp only [Nat.pow_zero]at this;omega
theorem Ku {n:Nat}:1<cq n↔1<n:=by have:=dU (n:=n) (k:=1);simp only [Nat.pow_one]at this;omega
theorem lh {xs:List Nat}(hD:D xs) (h:xs.length≤1000000000):cq (val xs)≤32000000000:=by
 have:=xH hD;omega
theorem lE (s:Bool) (xs ys:List Nat) (hlx:xs.length≤10000000) (hly:ys.length≤10000000) (hX:D xs) (hY:D ys):Pu Tryz.prog 198 [raw s xs,dg ys] (fr (mkRat (sv s (val xs)) (val ys))):=by
 have bx:=lh hX om
 have bY:=lh hY om
 by_cases h0:val ys=0
 ·rw [h0,Rat.mkRat_zero,fv qA]
  have b0:=IM.2 h0
  refine Pi Tryz.func198 fun C=>?_
  repeat(refine A1 ⟨?_⟩;intros)
  refine Wc (fQ ys om hY) ?_
  exact Z2
 ·have b0:cq (val ys)≠0:=fun h=>h0 (IM.1 h)
  by_cases hx0:val xs=0
  ·rw [hx0,show sv s 0=0 from by cases s <;> rfl,Rat.zero_mkRat,fv qA]
   have sg:=qC s xs om hX
   rw [hx0,show sv s 0=0 from by cases s <;> rfl,Int.sign_zero]at sg
   refine Pi Tryz.func198 fun C=>?_
   repeat(refine A1 ⟨?_⟩;intros)
   refine Wc (fQ ys om hY) ?_
   repeat(refine A1 ⟨?_⟩;intros)
   refine Wcg sg ?_
   exact Z2
  ·have hg0:Nat.gcd (val xs) (val ys)≠0:=fun h=>h0 (Nat.gcd_eq_zero_iff.1 h).2
   have gd1:=Nat.gcd_dvd_left (val xs) (val ys)
   have gd2:=Nat.gcd_dvd_right (val xs) (val ys)
   have gl:=Nat.le_of_dvd (Nat.pos_of_ne_zero h0) gd2
   have gx:=Nat.le_of_dvd (Nat.pos_of_ne_zero hx0) gd1
   have dx:=iI hX
   have dy:=iI hY
   have hgl:=aO gl
   obtain⟨e1,e2⟩:=IG s (val xs) h0
   have g1:=Av xs ys hlx hly hX hY
   generalize hx:mkRat (sv s (val xs)) (val ys)=x at *
   generalize Nat.gcd (val xs) (val ys)=g at *
   have bg:=fQ (dgs g) om (aM g)
   rw [af]at bg
   have bgb:cq g≤32000000000:=by have:=lh (aM g) om;rwa [af]at this
   have d1:=mF xs (dgs g) hlx om hX (aM g) (by rw [af];exact hg0)
   have d2:=mF ys (dgs g) hly om hY (aM g) (by rw [af];exact hg0)
   rw [af]at d1 d2
   have sg:=qC s xs om hX
   have sgn:(sv s (val xs)).sign≠0:=fun h=>hx0 (by have:=Int.sign_eq_zero_iff_zero.1 h;have:=congrArg Int.natAbs this;rw [fX]at this;exact this)
   have sgb : -1≤(sv s (val xs)).sign∧(sv s (val xs)).sign≤1:=by
    rcases Int.lt_trichotomy (sv s (val xs)) 0 with h|h|h
    ·rw [Int.sign_eq_neg_one_of_neg h];omega
    ·rw [h];decide
    ·rw [Int.sign_eq_one_of_pos h];omega
   generalize(sv s (val xs)).sign=sx at *
   refine Pi Tryz.func198 fun C=>?_
   repeat(refine A1 ⟨?_⟩;intros)
   refine Wc (fQ ys om hY) ?_
   repeat(refine A1 ⟨?_⟩;intros)
   refine Wcg sg ?_
   repeat(refine A1 ⟨?_⟩;intros)
   refine Wc g1 ?_
   repeat(refine A1 ⟨?_⟩;intros)
   refine Wc bg ?_
   repeat(refine A1 ⟨?_⟩;intros)
   rename_i b2 b4
   refine WP.via (fun F H=>∃us vs,us.length≤10000000∧vs.length≤10000000∧D us∧D vs∧val us=val xs/g∧val vs=val ys/g∧
    LeF F (fm [(1,dg vs),(2,lit (.pointer (some ⟨b2,0,none⟩))),(4,lit (.pointer (some ⟨b4,0,none⟩)))])∧
    H=[(b4,136,[lit (.int .i64 0),lit (.int .i64 0),lit (.pointer none)]),(b2,92,[lit (.bool s),dg us])]) ?_ ?_
   ·refine WPd (fun h=>?_) (fun h=>?_)
    ·have l1:=aO (Nat.div_le_self (val xs) g)
     have l2:=aO (Nat.div_le_self (val ys) g)
     repeat(refine A1 ⟨?_⟩;intros)
     refine Wc d1 ?_
     repeat(refine A1 ⟨?_⟩;intros)
     refine Wc d2 ?_
     repeat(refine A1 ⟨?_⟩;intros)
     exact⟨dgs (val xs/g),dgs (val ys/g),om,om,aM _,aM _,af _,af _,lfA,rfl⟩
    ·have hg1:g=1:=by have:=Ku (n:=g);omega
     subst hg1
     repeat(refine A1 ⟨?_⟩;intros)
     exact⟨xs,ys,om,om,hX,hY,(Nat.div_one _).symm,(Nat.div_one _).symm,lfA,rfl⟩
   ·rintro F H ⟨us,vs,lu,lv,hU,hV,eu,ev,hF,rfl⟩
    rw [←eu]at e1
    rw [←ev]at e2
    refine WP.le hF ?_
    have bu:=fQ us om hU
    have bv:=fQ vs om hV
    have bub:=lh hU om
    have bvb:=lh hV om
    have c1:=FG (n:=val us)
    have c2:=FG (n:=val vs)
    have hv0:val vs≠0:=by rw [←e2];exact x.den_nz
    have hna:x.num.natAbs=val us:=by rw [e1,fX]
    have nr:=rx s us om hU
    have nn:=jy vs om hV
    by_cases hs1:val us<4611686018427387904
    ·by_cases hs2:val vs<4611686018427387904
     ·rw [fv ⟨om,om⟩,e1,e2]
      have i6:=BW s us om hU hs1
      have u6:=mT vs om hV
      rw [if_pos om]at u6
      have hsb : -4611686018427387904<sv s (val us)∧sv s (val us)<4611686018427387904:=by have:=fX s (val us);omega
      generalize sv s (val us)=z at *
      repeat(refine A1 ⟨?_⟩;intros)
      refine Wc bu ?_
      repeat(refine A1 ⟨?_⟩;intros)
      refine Wcg bv ?_
      repeat(refine A1 ⟨?_⟩;intros)
      refine Wc i6 ?_
      repeat(refine A1 ⟨?_⟩;intros)
      refine Wc u6 ?_
      exact Z2
     ·rw [mC (fun h=>hs2 (e2▸h.2)),e1,e2,fX]
      simp only [int,fX]at nr
      repeat(refine A1 ⟨?_⟩;intros)
      refine Wc bu ?_
      repeat(refine A1 ⟨?_⟩;intros)
      refine Wcg bv ?_
      repeat(refine A1 ⟨?_⟩;intros)
      refine Wc nr ?_
      repeat(refine A1 ⟨?_⟩;intros)
      refine Wc nn ?_
      iterate 2 (refine O1 ⟨?_⟩;intros)
      refine IR 71 rfl (a9.here _) ?_
      exact Z2
    ·rw [mC (fun h=>hs1 (hna▸h.1)),e1,e2,fX]
     simp only [int,fX]at nr
     repeat(refine A1 ⟨?_⟩;intros)
     refine Wc bu ?_
     repeat(refine A1 ⟨?_⟩;intros)
     refine Wc nr ?_
     repeat(refine A1 ⟨?_⟩;intros)
     refine Wc nn ?_
     iterate 2 (refine O1 ⟨?_⟩;intros)
     refine IR 71 rfl (a9.here _) ?_
     exact Z2
theorem ku:dgs 1=[1]:=by rw [dgs];simp [aR]
def il (a:Int):Nat:=(dgs a.natAbs).length
def ht (x:Rat):Nat:=max (il x.num) (dgs x.den).length
theorem ji (a b:Int):il (a*b)≤il a+il b:=by unfold il;rw [Int.natAbs_mul];exact bV _ _
theorem rL (n:Nat):il (n:Int)=(dgs n).length:=rfl
theorem vk (a b:Int):il (a+b)≤max (il a) (il b)+1:=Nat.le_trans (aO (Int.natAbs_add_le a b)) (rZ _ _)
theorem cG (a:Int):il (-a)=il a:=by unfold il;rw [Int.natAbs_neg]
theorem cz (x:Rat):il x.num≤ht x:=Nat.le_max_left _ _
theorem cH (x:Rat):(dgs x.den).length≤ht x:=Nat.le_max_right _ _
theorem ci (x:Rat):ht (-x)=ht x:=by unfold ht;rw [Rat.neg_num,Rat.neg_den,cG]
theorem Aq (a:Int) (d:Nat):ht (mkRat a d)≤max (il a) (max (dgs d).length 1):=by
 by_cases h:d=0
 ·subst h;rw [Rat.mkRat_zero]
  refine Nat.le_trans (Nat.max_le.2 ⟨?_,?_⟩) (Nat.le_trans (Nat.le_max_right _ _) (Nat.le_max_right _ _))
  ·show(dgs 0).length≤1;rw [aR];decide
  ·exact bO (by decide)
 ·obtain⟨e1,e2⟩:=uY a h
  have h1:il (mkRat a d).num≤il a:=by
   rw [e1];refine aO ?_
   have hga:((Int.gcd a d:Nat):Int)∣a:=Int.gcd_dvd_left a (d:Int)
   rw [←Int.tdiv_eq_ediv_of_dvd hga,Int.natAbs_tdiv];exact Nat.div_le_self _ _
  have h2:(dgs (mkRat a d).den).length≤(dgs d).length:=by rw [e2];exact aO (Nat.div_le_self _ _)
  unfold ht;omega
theorem cU (x y:Rat):ht (x+y)≤ht x+ht y+1:=by
 rw [Rat.add_def']
 refine Nat.le_trans (Aq _ _) ?_
 have a1:=vk (x.num*y.den) (y.num*x.den)
 have a2:=ji x.num y.den
 have a3:=ji y.num x.den
 have a4:=bV x.den y.den
 rw [rL]at a2 a3
 have b1:=cz x
 have b2:=cH x
 have b3:=cz y
 have b4:=cH y
 omega
theorem ax (x y:Rat):ht (x*y)≤ht x+ht y+1:=by
 rw [Rat.mul_def']
 refine Nat.le_trans (Aq _ _) ?_
 have a1:=ji x.num y.num
 have a4:=bV x.den y.den
 have b1:=cz x
 have b2:=cH x
 have b3:=cz y
 have b4:=cH y
 omega
theorem dM (x y:Rat):ht (x-y)≤ht x+ht y+1:=by
 rw [Rat.sub_eq_add_neg];have:=cU x (-y);rwa [ci]at this
abbrev KQ (s:Bool) (xs ys:List Nat):SV:=ag [lit (.bool s),dg xs,dg ys]
abbrev q (x:Rat):SV:=ag [lit (.bool (decide (x.num<0))),nat x.num.natAbs,nat x.den]
theorem E8 (a:Int) (h:il a≤1000000000):Pu Tryz.prog 147 [int a] (int a):=by
 have:=rx (decide (a<0)) (dgs a.natAbs) h (aM _)
 rwa [af,ed]at this
theorem HB (a:Int) (h:il a≤1000000000):Pu Tryz.prog 238 [int a] (int (-a)):=by
 have:=Hy (decide (a<0)) (dgs a.natAbs) h (aM _)
 rwa [af,ed]at this
theorem Jx (n:Nat) (h:(dgs n).length≤1000000000):Pu Tryz.prog 188 [nat n] (nat n):=by
 have:=jy (dgs n) h (aM _)
 rwa [af]at this
theorem wN (a b:Nat) (h1:(dgs a).length≤100000000) (h2:(dgs b).length≤100000000):Pu Tryz.prog 201 [nat a,nat b] (nat (a*b)):=by
 have:=Ac (dgs a) (dgs b) h1 h2 (aM _) (aM _)
 rwa [af,af]at this
theorem Ad (a b:Int) (h1:il a≤100000000) (h2:il b≤100000000):Pu Tryz.prog 255 [int a,int b] (int (a*b)):=by
 have:=HG (decide (a<0)) (decide (b<0)) (dgs a.natAbs) (dgs b.natAbs) h1 h2 (aM _) (aM _)
 rwa [af,af,ed,ed]at this
theorem wO (a:Int) (n:Nat) (h1:il a≤100000000) (h2:(dgs n).length≤100000000):Pu Tryz.prog 255 [int a,raw false (dgs n)] (int (a*n)):=by
 have:=Ad a n h1 h2
 rwa [ve]at this
theorem Iu (a b:Int) (h1:il a≤100000000) (h2:il b≤100000000):Pu Tryz.prog 254 [int a,int b] (int (a+b)):=by
 have:=Ir (decide (a<0)) (decide (b<0)) (dgs a.natAbs) (dgs b.natAbs) h1 h2 (aM _) (aM _)
 rwa [af,af,ed,ed]at this
theorem mg (a:Int) (n:Nat) (h1:il a≤10000000) (h2:(dgs n).length≤10000000):Pu Tryz.prog 198 [int a,nat n] (fr (mkRat a n)):=by
 have:=lE (decide (a<0)) (dgs a.natAbs) (dgs n) h1 h2 (aM _) (aM _)
 rwa [af,af,ed]at this
theorem vw (z:Int) (h0 : -9223372036854775808≤z) (h1:z≤9223372036854775807):Pu Tryz.prog 180 [lit (.int .i64 z)] (fr (z:Rat)):=by
 have hil:il z≤10000000:=Nat.le_trans (bO (n:=z.natAbs) (k:=2) om) om
 have r:=lE (decide (z<0)) (dgs z.natAbs) [1] hil (by decide) (aM _) (D.cons om D.nil)
 rw [af,ed,show val [1]=1 from rfl,Rat.mkRat_one]at r
 by_cases ha:z≤-4611686018427387904
 ·refine Pi Tryz.func180 fun C=>?_
  repeat(refine A1 ⟨?_⟩;intros)
  refine Wc (mB z h0 h1) ?_
  repeat(refine A1 ⟨?_⟩;intros)
  refine fV (ds:=[1]) 11 rfl (a9.here _) rfl om om ?_
  refine Wc r ?_
  exact Z2
 ·by_cases hb:4611686018427387904≤z
  ·refine Pi Tryz.func180 fun C=>?_
   repeat(refine A1 ⟨?_⟩;intros)
   refine Wc (mB z h0 h1) ?_
   repeat(refine A1 ⟨?_⟩;intros)
   refine fV (ds:=[1]) 11 rfl (a9.here _) rfl om om ?_
   refine Wc r ?_
   exact Z2
  ·have hs:bz (z:Rat):=by unfold bz;rw [Rat.num_intCast,Rat.den_intCast];omega
   rw [fv hs,Rat.num_intCast,Rat.den_intCast]
   refine Pi Tryz.func180 fun C=>?_
   exact Z2
theorem k9 (x:Rat) (h:ht x≤10000000):Pu Tryz.prog 105 [fr x] (int x.num):=by
 have b1:=cz x
 by_cases hs:bz x
 ·rw [fv hs]
  have:=hs.1
  refine Pi Tryz.func105 fun C=>?_
  repeat(refine A1 ⟨?_⟩;intros)
  refine Wc (mB x.num om om) ?_
  exact Z2
 ·rw [mC hs]
  refine Pi Tryz.func105 fun C=>?_
  repeat(refine A1 ⟨?_⟩;intros)
  refine Wc (E8 x.num om) ?_
  exact Z2
theorem lg (x:Rat) (h:ht x≤10000000):Pu Tryz.prog 202 [fr x] (nat x.den):=by
 have b1:=cH x
 by_cases hs:bz x
 ·rw [fv hs]
  have:=hs.2
  refine Pi Tryz.func202 fun C=>?_
  repeat(refine A1 ⟨?_⟩;intros)
  rw [Int.sub_add_cancel]
  refine Wc (fN x.den om) ?_
  exact Z1
 ·rw [mC hs]
  refine Pi Tryz.func202 fun C=>?_
  repeat(refine A1 ⟨?_⟩;intros)
  refine Wc (Jx x.den om) ?_
  exact Z1
theorem sS {x:Rat}:bz (-x)↔bz x:=by unfold bz;rw [Rat.neg_num,Rat.neg_den,Int.natAbs_neg]
theorem hZ (x:Rat) (h:ht x≤10000000):Pu Tryz.prog 213 [fr x] (fr (-x)):=by
 have b1:=cz x
 by_cases hs:bz x
 ·rw [fv hs,fv (sS.2 hs),Rat.neg_num,Rat.neg_den]
  have h1:=hs.1
  have h2:=hs.2
  refine Pi Tryz.func213 fun C=>?_
  exact Z2
 ·rw [mC hs,mC (fun h=>hs (sS.1 h)),Rat.neg_num,Rat.neg_den]
  refine Pi Tryz.func213 fun C=>?_
  repeat(refine A1 ⟨?_⟩;intros)
  refine Wdc (HB x.num om) ?_
  repeat(refine A1 ⟨?_⟩;intros)
  refine Wdo (aC (by exact Eq.refl (ag _))) ?_
  exact Z2
end Go.Ab
