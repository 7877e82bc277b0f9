/- Texts laid one behind the other: Div, FracB, FracC, RefE. -/
import Derived.Test.YtgiifnbebppbgaaGreatDoorB05
import Derived.Test.YtgiifnbebppbgaaGreatDoorLong
import Derived.Test.YtgiifnbebppbgaaGreatDoorB03
import Derived.Test.YtgiifnbebppbgaaGreatDoorB04
import Derived.Test.YtgiifnbebppbgaaGreatDoorB07
import Derived.Test.YtgiifnbebppbgaaGreatDoorRefL
set_option linter.unusedSectionVars false
set_option linter.unusedVariables false
set_option linter.unusedSimpArgs false
namespace Go.Ab
open Go.Proofs
variable [Base]
theorem val_one {q:List Nat}(h:q.length=1):val q=q.getD 0 0:=by
 match q,h with
 | [d],_=>simp [val]
set_option maxHeartbeats 1000000 in
theorem divMod_nat (xs ys:List Nat) (hla:xs.length≤10000000) (hlb:ys.length≤10000000) (hA:D xs) (hB:D ys) (h0:val ys≠0):Pu Tryz.prog 220 [dg xs,dg ys] (tup [nat (val xs/val ys),nat (val xs%val ys),lit (.bool true)]):=by
 obtain⟨p,t1,h1,hP,hva,hpd⟩:=trimmed xs hla (by omega) hA
 obtain⟨q,t2,h2,hQ,hvb,hqd⟩:=trimmed ys hlb (by omega) hB
 rw [←hva]at hpd
 rw [←hvb]at hqd h0
 rw [←hva,←hvb]
 have hqp:0<q.length:=by rw [hqd];exact dgs_len_pos h0
 refine Pu.intro Tryz.func220 rfl (by kernel_rfl) fun C=>?_
 repeat(refine A1 ⟨?_⟩;intros)
 refine Wc t1 ?_
 repeat(refine A1 ⟨?_⟩;intros)
 refine Wc t2 ?_
 repeat(refine A1 ⟨?_⟩;intros)
 refine Wc (cmp_nat p q (by omega) (by omega) hP hQ) ?_
 by_cases hlt:val p<val q
 ·rw [cmpN_lt hlt,Nat.div_eq_of_lt hlt,Nat.mod_eq_of_lt hlt]
  repeat(refine A1 ⟨?_⟩;intros)
  refine Wc (clone_pu p (by omega)) ?_
  repeat(refine A1 ⟨?_⟩;intros)
  refine endR (end3 (RV.tmp rfl) (RV.tmp rfl) (RV.tmp rfl) ?_)
  show Le (tup [lit (.slice none 0 0),dg p,lit (.bool true)]) (tup [dg (dgs 0),dg (dgs (val p)),lit (.bool true)])
  rw [←hpd,dgs_zero]
  exact Le.tup3 le_nil (Le.refl _) (Le.refl _)
 ·have hc:=cmpN_bd (val p) (val q)
  by_cases hq1:q.length=1
  ·have hd:=val_one hq1
   have hdb:val q<4294967296:=by rw [hd];exact hQ.get 0
   repeat(refine A1 ⟨?_⟩;intros)
   rw [←hd]
   refine Wc (short_nat p (val q) (by omega) hP h0 hdb) ?_
   have hm:val p%val q<val q:=Nat.mod_lt _ (by omega)
   generalize val p%val q=m at *
   generalize val p/val q=e at *
   repeat(refine A1 ⟨?_⟩;intros)
   refine Wc (fromUint_nat m (by omega)) ?_
   repeat(refine A1 ⟨?_⟩;intros)
   ((first|refine endR ?_|refine endN ?_);exact end3 (RV.tmp rfl) (RV.tmp rfl) (RV.tmp rfl) (Le.refl _))
  ·repeat(refine A1 ⟨?_⟩;intros)
   refine Wc (long_nat p q hpd hqd (by omega) (by omega) (by omega)) ?_
   repeat(refine A1 ⟨?_⟩;intros)
   ((first|refine endR ?_|refine endN ?_);exact end3 (RV.tmp rfl) (RV.tmp rfl) (RV.tmp rfl) (Le.refl _))
theorem lt_two {n:Nat}(h:(dgs n).length≤2):n<18446744073709551616:=Nat.lt_of_lt_of_le (lt_pow n) (Nat.le_trans (Nat.pow_le_pow_right (by omega) h) (by decide))
set_option maxHeartbeats 1000000 in
theorem gcd_nat (xs ys:List Nat) (hla:xs.length≤10000000) (hlb:ys.length≤10000000) (hA:D xs) (hB:D ys):Pu Tryz.prog 219 [dg xs,dg ys] (nat (Nat.gcd (val xs) (val ys))):=by
 have la:∀{k},k≤val xs→(dgs k).length≤10000000:=fun h=>by have:=len_le (Nat.lt_of_le_of_lt h (val_lt hA));omega
 have lb:∀{k},k≤val ys→(dgs k).length≤10000000:=fun h=>by have:=len_le (Nat.lt_of_le_of_lt h (val_lt hB));omega
 refine Pu.intro Tryz.func219 rfl (by kernel_rfl) fun C=>?_
 repeat(refine A1 ⟨?_⟩;intros)
 refine Wc (norm_nat xs (by omega) hA) ?_
 repeat(refine A1 ⟨?_⟩;intros)
 refine Wc (norm_nat ys (by omega) hB) ?_
 repeat(refine A1 ⟨?_⟩;intros)
 refine WP.loop (ι:=Nat×Nat) (fun s=>Nat.gcd s.1 s.2=Nat.gcd (val xs) (val ys)∧(dgs s.1).length≤10000000∧(dgs s.2).length≤10000000) (fun s=>s.2)
  (fun s=>fm [(0,nat s.1),(1,nat s.2)]) (fun _=>[]) (val xs,val ys) ⟨rfl,la (Nat.le_refl _),lb (Nat.le_refl _)⟩ lfA rfl ?_
 rintro ⟨a,b⟩ ⟨hg,hla,hlb⟩ K hK
 simp only at hg hla hlb⊢
 by_cases hs:(dgs a).length≤2∧(dgs b).length≤2
 ·have ba:=lt_two hs.1
  have bb:=lt_two hs.2
  have u1:=uint_nat (dgs a) (by omega) (D_dgs a)
  have u2:=uint_nat (dgs b) (by omega) (D_dgs b)
  rw [val_dgs,if_pos ba]at u1
  rw [val_dgs,if_pos bb]at u2
  repeat(refine A1 ⟨?_⟩;intros)
  refine Wc u1 ?_
  repeat(refine A1 ⟨?_⟩;intros)
  refine Wc u2 ?_
  repeat(refine A1 ⟨?_⟩;intros)
  rw [←hg]
  refine WP.loop (ι:=Nat×Nat) (fun s=>Nat.gcd s.1 s.2=Nat.gcd a b∧s.1<18446744073709551616∧s.2<18446744073709551616) (fun s=>s.2)
   (fun s=>fm [(8,lit (.int .u64 s.1)),(10,lit (.int .u64 s.2))]) (fun _=>[]) (a,b) ⟨rfl,ba,bb⟩ lfA rfl ?_
  rintro ⟨c,d⟩ ⟨hg',hc,hd⟩ K hK
  simp only at hg' hc hd⊢
  by_cases h0:d=0
  ·subst h0
   rw [Nat.gcd_zero_right]at hg'
   rw [←hg']
   repeat(refine A1 ⟨?_⟩;intros)
   refine Wc (fromUint_nat c hc) ?_
   repeat(refine A1 ⟨?_⟩;intros)
   exact E1
  ·have hm:c%d<d:=Nat.mod_lt _ (by omega)
   have hgg:Nat.gcd d (c%d)=Nat.gcd a b:=by rw [←hg',Nat.gcd_comm c d,Nat.gcd_rec d c,Nat.gcd_comm]
   repeat(refine A1 ⟨?_⟩;intros)
   exact hK _ _ (d,c%d) ⟨hgg,hd,by simp only;omega⟩ hm lfA rfl
 ·by_cases h0:b=0
  ·subst h0
   rw [Nat.gcd_zero_right]at hg
   rw [←hg]
   have hl:(dgs 0).length=0:=by rw [dgs_zero];rfl
   repeat(refine A1 ⟨?_⟩;intros)
   exact E1
  ·have hp:=dgs_len_pos h0
   have hm:a%b<b:=Nat.mod_lt _ (by omega)
   have hgg:Nat.gcd b (a%b)=Nat.gcd (val xs) (val ys):=by rw [←hg,Nat.gcd_comm a b,Nat.gcd_rec b a,Nat.gcd_comm]
   have dm:=divMod_nat (dgs a) (dgs b) hla hlb (D_dgs a) (D_dgs b) (by rw [val_dgs];exact h0)
   rw [val_dgs,val_dgs]at dm
   have hlm:=len_mono (Nat.le_of_lt hm)
   by_cases ha:(dgs a).length≤2
   ·repeat(refine A1 ⟨?_⟩;intros)
    refine Wc dm ?_
    repeat(refine A1 ⟨?_⟩;intros)
    exact hK _ _ (b,a%b) ⟨hgg,hlb,by simp only;omega⟩ hm lfA rfl
   ·repeat(refine A1 ⟨?_⟩;intros)
    refine Wc dm ?_
    repeat(refine A1 ⟨?_⟩;intros)
    exact hK _ _ (b,a%b) ⟨hgg,hlb,by simp only;omega⟩ hm lfA rfl
theorem small_zero:small 0:=by unfold small;decide
theorem sv_div (s:Bool){a g:Nat}(h:g∣a):sv s a/(g:Int)=sv s (a/g):=by
 obtain⟨k,rfl⟩:=h
 by_cases h0:g=0
 ·subst h0;cases s <;> simp [sv]
 ·rw [Nat.mul_div_cancel_left _ (by omega)]
  cases s
  ·simp only [sv,cond_false];rw [Int.natCast_mul,Int.mul_ediv_cancel_left _ (by omega)]
  ·simp only [sv,cond_true];rw [Int.natCast_mul,←Int.mul_neg,Int.mul_ediv_cancel_left _ (by omega)]
theorem mk_sv (s:Bool) (a:Nat){d:Nat}(h:d≠0):(mkRat (sv s a) d).num=sv s (a/Nat.gcd a d)∧(mkRat (sv s a) d).den=d/Nat.gcd a d:=by
 have h:=mk_num (sv s a) h
 rw [show Int.gcd (sv s a) d=Nat.gcd a d from by unfold Int.gcd;rw [sv_abs];rfl]at h
 rw [sv_div s (Nat.gcd_dvd_left a d)]at h
 exact h
theorem blen62 {n:Nat}:blen n≤62↔n<4611686018427387904:=blen_le
theorem blen0 {n:Nat}:blen n=0↔n=0:=by have:=blen_le (n:=n) (k:=0);simp only [Nat.pow_zero]at this;omega
theorem blen1 {n:Nat}:1<blen n↔1<n:=by have:=blen_le (n:=n) (k:=1);simp only [Nat.pow_one]at this;omega
theorem blen_big {xs:List Nat}(hD:D xs) (h:xs.length≤1000000000):blen (val xs)≤32000000000:=by
 have:=blen_val hD;omega
set_option maxHeartbeats 2000000 in
theorem reduce_pu (s:Bool) (xs ys:List Nat) (hlx:xs.length≤10000000) (hly:ys.length≤10000000) (hX:D xs) (hY:D ys):Pu Tryz.prog 164 [raw s xs,dg ys] (fr (mkRat (sv s (val xs)) (val ys))):=by
 have bx:=blen_big hX (by omega)
 have bY:=blen_big hY (by omega)
 by_cases h0:val ys=0
 ·rw [h0,Rat.mkRat_zero,fr_s small_zero]
  have b0:=blen0.2 h0
  refine Pu.intro Tryz.func164 rfl (by kernel_rfl) fun C=>?_
  repeat(refine A1 ⟨?_⟩;intros)
  refine Wc (bits_nat ys (by omega) hY) ?_
  repeat(refine A1 ⟨?_⟩;intros)
  ((first|refine endR ?_|refine endN ?_);refine end1 RVa (Le.refl _))
 ·have b0:blen (val ys)≠0:=fun h=>h0 (blen0.1 h)
  by_cases hx0:val xs=0
  ·rw [hx0,show sv s 0=0 from by cases s <;> rfl,Rat.zero_mkRat,fr_s small_zero]
   have sg:=sign_raw s xs (by omega) hX
   rw [hx0,show sv s 0=0 from by cases s <;> rfl,Int.sign_zero]at sg
   refine Pu.intro Tryz.func164 rfl (by kernel_rfl) fun C=>?_
   repeat(refine A1 ⟨?_⟩;intros)
   refine Wc (bits_nat ys (by omega) hY) ?_
   repeat(refine A1 ⟨?_⟩;intros)
   refine Wcg sg ?_
   repeat(refine A1 ⟨?_⟩;intros)
   ((first|refine endR ?_|refine endN ?_);refine end1 RVa (Le.refl _))
  ·have hg0:Nat.gcd (val xs) (val ys)≠0:=fun h=>h0 (Nat.gcd_eq_zero_iff.1 h).2
   have gd1:=Nat.gcd_dvd_left (val xs) (val ys)
   have gd2:=Nat.gcd_dvd_right (val xs) (val ys)
   have gl:=Nat.le_of_dvd (Nat.pos_of_ne_zero h0) gd2
   have gx:=Nat.le_of_dvd (Nat.pos_of_ne_zero hx0) gd1
   have dx:=dlen_val hX
   have dy:=dlen_val hY
   have hgl:=len_mono gl
   obtain⟨e1,e2⟩:=mk_sv s (val xs) h0
   have g1:=gcd_nat xs ys hlx hly hX hY
   generalize hx:mkRat (sv s (val xs)) (val ys)=x at *
   generalize Nat.gcd (val xs) (val ys)=g at *
   have bg:=bits_nat (dgs g) (by omega) (D_dgs g)
   rw [val_dgs]at bg
   have bgb:blen g≤32000000000:=by have:=blen_big (D_dgs g) (by omega);rwa [val_dgs]at this
   have d1:=divMod_nat xs (dgs g) hlx (by omega) hX (D_dgs g) (by rw [val_dgs];exact hg0)
   have d2:=divMod_nat ys (dgs g) hly (by omega) hY (D_dgs g) (by rw [val_dgs];exact hg0)
   rw [val_dgs]at d1 d2
   have sg:=sign_raw s xs (by omega) hX
   have sgn:(sv s (val xs)).sign≠0:=fun h=>hx0 (by have:=Int.sign_eq_zero_iff_zero.1 h;have:=congrArg Int.natAbs this;rw [sv_abs]at this;exact this)
   have sgb : -1≤(sv s (val xs)).sign∧(sv s (val xs)).sign≤1:=by
    rcases Int.lt_trichotomy (sv s (val xs)) 0 with h|h|h
    ·rw [Int.sign_eq_neg_one_of_neg h];omega
    ·rw [h];decide
    ·rw [Int.sign_eq_one_of_pos h];omega
   generalize(sv s (val xs)).sign=sx at *
   refine Pu.intro Tryz.func164 rfl (by kernel_rfl) fun C=>?_
   repeat(refine A1 ⟨?_⟩;intros)
   refine Wc (bits_nat ys (by omega) hY) ?_
   repeat(refine A1 ⟨?_⟩;intros)
   refine Wcg sg ?_
   repeat(refine A1 ⟨?_⟩;intros)
   refine Wc g1 ?_
   repeat(refine A1 ⟨?_⟩;intros)
   refine Wc bg ?_
   repeat(refine A1 ⟨?_⟩;intros)
   rename_i b2 b4
   refine WP.via (fun F H=>∃us vs,us.length≤10000000∧vs.length≤10000000∧D us∧D vs∧val us=val xs/g∧val vs=val ys/g∧
    LeF F (fm [(1,dg vs),(2,lit (.pointer (some ⟨b2,0,none⟩))),(4,lit (.pointer (some ⟨b4,0,none⟩)))])∧
    H=[(b4,112,[lit (.int .i64 0),lit (.int .i64 0),lit (.pointer none)]),(b2,39,[lit (.bool s),dg us])]) ?_ ?_
   ·refine WPd (fun h=>?_) (fun h=>?_)
    ·have l1:=len_mono (Nat.div_le_self (val xs) g)
     have l2:=len_mono (Nat.div_le_self (val ys) g)
     repeat(refine A1 ⟨?_⟩;intros)
     refine Wc d1 ?_
     repeat(refine A1 ⟨?_⟩;intros)
     refine Wc d2 ?_
     repeat(refine A1 ⟨?_⟩;intros)
     exact⟨dgs (val xs/g),dgs (val ys/g),by omega,by omega,D_dgs _,D_dgs _,val_dgs _,val_dgs _,lfA,rfl⟩
    ·have hg1:g=1:=by have:=blen1 (n:=g);omega
     subst hg1
     repeat(refine A1 ⟨?_⟩;intros)
     exact⟨xs,ys,by omega,by omega,hX,hY,(Nat.div_one _).symm,(Nat.div_one _).symm,lfA,rfl⟩
   ·rintro F H ⟨us,vs,lu,lv,hU,hV,eu,ev,hF,rfl⟩
    rw [←eu]at e1
    rw [←ev]at e2
    refine WP.le hF ?_
    have bu:=bits_nat us (by omega) hU
    have bv:=bits_nat vs (by omega) hV
    have bub:=blen_big hU (by omega)
    have bvb:=blen_big hV (by omega)
    have c1:=blen62 (n:=val us)
    have c2:=blen62 (n:=val vs)
    have hv0:val vs≠0:=by rw [←e2];exact x.den_nz
    have hna:x.num.natAbs=val us:=by rw [e1,sv_abs]
    have nr:=norm_raw s us (by omega) hU
    have nn:=norm_nat vs (by omega) hV
    by_cases hs1:val us<4611686018427387904
    ·by_cases hs2:val vs<4611686018427387904
     ·rw [fr_s ⟨by omega,by omega⟩,e1,e2]
      have i6:=int64_raw s us (by omega) hU hs1
      have u6:=uint_nat vs (by omega) hV
      rw [if_pos (by omega)]at u6
      have hsb : -4611686018427387904<sv s (val us)∧sv s (val us)<4611686018427387904:=by have:=sv_abs s (val us);omega
      generalize sv s (val us)=z at *
      repeat(refine A1 ⟨?_⟩;intros)
      refine Wc bu ?_
      repeat(refine A1 ⟨?_⟩;intros)
      refine Wcg bv ?_
      repeat(refine A1 ⟨?_⟩;intros)
      refine Wc i6 ?_
      repeat(refine A1 ⟨?_⟩;intros)
      refine Wc u6 ?_
      repeat(refine A1 ⟨?_⟩;intros)
      ((first|refine endR ?_|refine endN ?_);refine end1 RVa (Le.refl _))
     ·rw [fr_b (fun h=>hs2 (e2▸h.2)),e1,e2,sv_abs]
      simp only [int,sv_abs]at nr
      repeat(refine A1 ⟨?_⟩;intros)
      refine Wc bu ?_
      repeat(refine A1 ⟨?_⟩;intros)
      refine Wcg bv ?_
      repeat(refine A1 ⟨?_⟩;intros)
      refine Wc nr ?_
      repeat(refine A1 ⟨?_⟩;intros)
      refine Wc nn ?_
      iterate 2 (refine O1 ⟨?_⟩;intros)
      refine WpubP 71 rfl (HDel.here _) ?_
      repeat(refine A1 ⟨?_⟩;intros)
      ((first|refine endR ?_|refine endN ?_);refine end1 RVa (Le.refl _))
    ·rw [fr_b (fun h=>hs1 (hna▸h.1)),e1,e2,sv_abs]
     simp only [int,sv_abs]at nr
     repeat(refine A1 ⟨?_⟩;intros)
     refine Wc bu ?_
     repeat(refine A1 ⟨?_⟩;intros)
     refine Wc nr ?_
     repeat(refine A1 ⟨?_⟩;intros)
     refine Wc nn ?_
     iterate 2 (refine O1 ⟨?_⟩;intros)
     refine WpubP 71 rfl (HDel.here _) ?_
     repeat(refine A1 ⟨?_⟩;intros)
     ((first|refine endR ?_|refine endN ?_);refine end1 RVa (Le.refl _))
def il (a:Int):Nat:=(dgs a.natAbs).length
def ht (x:Rat):Nat:=max (il x.num) (dgs x.den).length
theorem il_mul (a b:Int):il (a*b)≤il a+il b:=by unfold il;rw [Int.natAbs_mul];exact dlen_mul _ _
theorem il_nat (n:Nat):il (n:Int)=(dgs n).length:=rfl
theorem il_add (a b:Int):il (a+b)≤max (il a) (il b)+1:=Nat.le_trans (len_mono (Int.natAbs_add_le a b)) (dlen_add _ _)
theorem il_neg (a:Int):il (-a)=il a:=by unfold il;rw [Int.natAbs_neg]
theorem ht_num (x:Rat):il x.num≤ht x:=Nat.le_max_left _ _
theorem ht_den (x:Rat):(dgs x.den).length≤ht x:=Nat.le_max_right _ _
theorem ht_neg (x:Rat):ht (-x)=ht x:=by unfold ht;rw [Rat.neg_num,Rat.neg_den,il_neg]
theorem ht_mk (a:Int) (d:Nat):ht (mkRat a d)≤max (il a) (max (dgs d).length 1):=by
 by_cases h:d=0
 ·subst h;rw [Rat.mkRat_zero]
  refine Nat.le_trans (Nat.max_le.2 ⟨?_,?_⟩) (Nat.le_trans (Nat.le_max_right _ _) (Nat.le_max_right _ _))
  ·show(dgs 0).length≤1;rw [dgs_zero];decide
  ·exact len_le (by decide)
 ·obtain⟨e1,e2⟩:=mk_num a h
  have h1:il (mkRat a d).num≤il a:=by
   rw [e1];refine len_mono ?_
   have hga:((Int.gcd a d:Nat):Int)∣a:=Int.gcd_dvd_left a (d:Int)
   rw [←Int.tdiv_eq_ediv_of_dvd hga,Int.natAbs_tdiv];exact Nat.div_le_self _ _
  have h2:(dgs (mkRat a d).den).length≤(dgs d).length:=by rw [e2];exact len_mono (Nat.div_le_self _ _)
  unfold ht;omega
theorem ht_add (x y:Rat):ht (x+y)≤ht x+ht y+1:=by
 rw [Rat.add_def']
 refine Nat.le_trans (ht_mk _ _) ?_
 have a1:=il_add (x.num*y.den) (y.num*x.den)
 have a2:=il_mul x.num y.den
 have a3:=il_mul y.num x.den
 have a4:=dlen_mul x.den y.den
 rw [il_nat]at a2 a3
 have b1:=ht_num x
 have b2:=ht_den x
 have b3:=ht_num y
 have b4:=ht_den y
 omega
theorem ht_mul (x y:Rat):ht (x*y)≤ht x+ht y+1:=by
 rw [Rat.mul_def']
 refine Nat.le_trans (ht_mk _ _) ?_
 have a1:=il_mul x.num y.num
 have a4:=dlen_mul x.den y.den
 have b1:=ht_num x
 have b2:=ht_den x
 have b3:=ht_num y
 have b4:=ht_den y
 omega
theorem ht_sub (x y:Rat):ht (x-y)≤ht x+ht y+1:=by
 rw [Rat.sub_eq_add_neg];have:=ht_add x (-y);rwa [ht_neg]at this
abbrev qraw (s:Bool) (xs ys:List Nat):SV:=ag [lit (.bool s),dg xs,dg ys]
abbrev q (x:Rat):SV:=ag [lit (.bool (decide (x.num<0))),nat x.num.natAbs,nat x.den]
theorem norm_int (a:Int) (h:il a≤1000000000):Pu Tryz.prog 223 [int a] (int a):=by
 have:=norm_raw (decide (a<0)) (dgs a.natAbs) h (D_dgs _)
 rwa [val_dgs,sv_int]at this
theorem neg_int (a:Int) (h:il a≤1000000000):Pu Tryz.prog 280 [int a] (int (-a)):=by
 have:=neg_raw (decide (a<0)) (dgs a.natAbs) h (D_dgs _)
 rwa [val_dgs,sv_int]at this
theorem norm_n (n:Nat) (h:(dgs n).length≤1000000000):Pu Tryz.prog 224 [nat n] (nat n):=by
 have:=norm_nat (dgs n) h (D_dgs _)
 rwa [val_dgs]at this
theorem mul_n (a b:Nat) (h1:(dgs a).length≤100000000) (h2:(dgs b).length≤100000000):Pu Tryz.prog 252 [nat a,nat b] (nat (a*b)):=by
 have:=mul_nat (dgs a) (dgs b) h1 h2 (D_dgs _) (D_dgs _)
 rwa [val_dgs,val_dgs]at this
theorem mul_int (a b:Int) (h1:il a≤100000000) (h2:il b≤100000000):Pu Tryz.prog 251 [int a,int b] (int (a*b)):=by
 have:=mul_raw (decide (a<0)) (decide (b<0)) (dgs a.natAbs) (dgs b.natAbs) h1 h2 (D_dgs _) (D_dgs _)
 rwa [val_dgs,val_dgs,sv_int,sv_int]at this
theorem mul_inat (a:Int) (n:Nat) (h1:il a≤100000000) (h2:(dgs n).length≤100000000):Pu Tryz.prog 251 [int a,raw false (dgs n)] (int (a*n)):=by
 have:=mul_int a n h1 h2
 rwa [int_nat]at this
theorem add_int (a b:Int) (h1:il a≤100000000) (h2:il b≤100000000):Pu Tryz.prog 250 [int a,int b] (int (a+b)):=by
 have:=add_raw (decide (a<0)) (decide (b<0)) (dgs a.natAbs) (dgs b.natAbs) h1 h2 (D_dgs _) (D_dgs _)
 rwa [val_dgs,val_dgs,sv_int,sv_int]at this
theorem reduce_int (a:Int) (n:Nat) (h1:il a≤10000000) (h2:(dgs n).length≤10000000):Pu Tryz.prog 164 [int a,nat n] (fr (mkRat a n)):=by
 have:=reduce_pu (decide (a<0)) (dgs a.natAbs) (dgs n) h1 h2 (D_dgs _) (D_dgs _)
 rwa [val_dgs,val_dgs,sv_int]at this
theorem of_raw (s:Bool) (xs ys:List Nat) (hlx:xs.length≤10000000) (hly:ys.length≤10000000) (hX:D xs) (hY:D ys):Pu Tryz.prog 128 [qraw s xs ys] (fr (mkRat (sv s (val xs)) (val ys))):=by
 refine Pu.intro Tryz.func128 rfl (by kernel_rfl) fun C=>?_
 repeat(refine A1 ⟨?_⟩;intros)
 refine Wc (reduce_pu s xs ys hlx hly hX hY) ?_
 repeat(refine A1 ⟨?_⟩;intros)
 ((first|refine endR ?_|refine endN ?_);refine end1 RVa (Le.refl _))
theorem fint_pu (z:Int) (h0 : -9223372036854775808≤z) (h1:z≤9223372036854775807):Pu Tryz.prog 92 [lit (.int .i64 z)] (fr (z:Rat)):=by
 have hil:il z≤10000000:=Nat.le_trans (len_le (n:=z.natAbs) (k:=2) (by omega)) (by omega)
 have r:=reduce_pu (decide (z<0)) (dgs z.natAbs) [1] hil (by decide) (D_dgs _) (D.cons (by omega) D.nil)
 rw [val_dgs,sv_int,show val [1]=1 from rfl,Rat.mkRat_one]at r
 by_cases ha:z≤-4611686018427387904
 ·refine Pu.intro Tryz.func92 rfl (by kernel_rfl) fun C=>?_
  repeat(refine A1 ⟨?_⟩;intros)
  refine Wc (fromInt_pu z h0 h1) ?_
  repeat(refine A1 ⟨?_⟩;intros)
  refine WpubD (ds:=[1]) 11 rfl (HDel.here _) rfl (by omega) (by omega) ?_
  refine Wc r ?_
  repeat(refine A1 ⟨?_⟩;intros)
  ((first|refine endR ?_|refine endN ?_);refine end1 RVa (Le.refl _))
 ·by_cases hb:4611686018427387904≤z
  ·refine Pu.intro Tryz.func92 rfl (by kernel_rfl) fun C=>?_
   repeat(refine A1 ⟨?_⟩;intros)
   refine Wc (fromInt_pu z h0 h1) ?_
   repeat(refine A1 ⟨?_⟩;intros)
   refine WpubD (ds:=[1]) 11 rfl (HDel.here _) rfl (by omega) (by omega) ?_
   refine Wc r ?_
   repeat(refine A1 ⟨?_⟩;intros)
   ((first|refine endR ?_|refine endN ?_);refine end1 RVa (Le.refl _))
  ·have hs:small (z:Rat):=by unfold small;rw [Rat.num_intCast,Rat.den_intCast];omega
   rw [fr_s hs,Rat.num_intCast,Rat.den_intCast]
   refine Pu.intro Tryz.func92 rfl (by kernel_rfl) fun C=>?_
   repeat(refine A1 ⟨?_⟩;intros)
   ((first|refine endR ?_|refine endN ?_);refine end1 RVa (Le.refl _))
theorem num_pu (x:Rat) (h:ht x≤10000000):Pu Tryz.prog 167 [fr x] (int x.num):=by
 have b1:=ht_num x
 by_cases hs:small x
 ·rw [fr_s hs]
  have:=hs.1
  refine Pu.intro Tryz.func167 rfl (by kernel_rfl) fun C=>?_
  repeat(refine A1 ⟨?_⟩;intros)
  refine Wc (fromInt_pu x.num (by omega) (by omega)) ?_
  repeat(refine A1 ⟨?_⟩;intros)
  ((first|refine endR ?_|refine endN ?_);refine end1 RVa (Le.refl _))
 ·rw [fr_b hs]
  refine Pu.intro Tryz.func167 rfl (by kernel_rfl) fun C=>?_
  repeat(refine A1 ⟨?_⟩;intros)
  refine Wc (norm_int x.num (by omega)) ?_
  repeat(refine A1 ⟨?_⟩;intros)
  ((first|refine endR ?_|refine endN ?_);refine end1 RVa (Le.refl _))
theorem den_pu (x:Rat) (h:ht x≤10000000):Pu Tryz.prog 168 [fr x] (nat x.den):=by
 have b1:=ht_den x
 by_cases hs:small x
 ·rw [fr_s hs]
  have:=hs.2
  refine Pu.intro Tryz.func168 rfl (by kernel_rfl) fun C=>?_
  repeat(refine A1 ⟨?_⟩;intros)
  rw [Int.sub_add_cancel]
  refine Wc (fromUint_nat x.den (by omega)) ?_
  repeat(refine A1 ⟨?_⟩;intros)
  exact E1
 ·rw [fr_b hs]
  refine Pu.intro Tryz.func168 rfl (by kernel_rfl) fun C=>?_
  repeat(refine A1 ⟨?_⟩;intros)
  refine Wc (norm_n x.den (by omega)) ?_
  repeat(refine A1 ⟨?_⟩;intros)
  exact E1
theorem api_pu (x:Rat) (h:ht x≤10000000):Pu Tryz.prog 97 [fr x] (q x):=by
 refine Pu.intro Tryz.func97 rfl (by kernel_rfl) fun C=>?_
 repeat(refine A1 ⟨?_⟩;intros)
 refine Wdc (num_pu x h) ?_
 repeat(refine A1 ⟨?_⟩;intros)
 refine Wdc (den_pu x h) ?_
 repeat(refine A1 ⟨?_⟩;intros)
 ((first|refine endR ?_|refine endN ?_);refine end1 RVa (Le.refl _))
theorem small_neg {x:Rat}:small (-x)↔small x:=by unfold small;rw [Rat.neg_num,Rat.neg_den,Int.natAbs_neg]
theorem rneg_pu (x:Rat) (h:ht x≤10000000):Pu Tryz.prog 243 [fr x] (fr (-x)):=by
 have b1:=ht_num x
 by_cases hs:small x
 ·rw [fr_s hs,fr_s (small_neg.2 hs),Rat.neg_num,Rat.neg_den]
  have h1:=hs.1
  have h2:=hs.2
  refine Pu.intro Tryz.func243 rfl (by kernel_rfl) fun C=>?_
  repeat(refine A1 ⟨?_⟩;intros)
  ((first|refine endR ?_|refine endN ?_);refine end1 RVa (Le.refl _))
 ·rw [fr_b hs,fr_b (fun h=>hs (small_neg.1 h)),Rat.neg_num,Rat.neg_den]
  refine Pu.intro Tryz.func243 rfl (by kernel_rfl) fun C=>?_
  repeat(refine A1 ⟨?_⟩;intros)
  refine Wdc (neg_int x.num (by omega)) ?_
  repeat(refine A1 ⟨?_⟩;intros)
  refine Wdo (ov_boxP (by exact Eq.refl (ag _))) ?_
  repeat(refine A1 ⟨?_⟩;intros)
  ((first|refine endR ?_|refine endN ?_);refine end1 RVa (Le.refl _))
set_option maxHeartbeats 1000000 in
theorem rcommon_pu (a b:Nat) (ha:(dgs a).length≤10000000) (hb:(dgs b).length≤10000000):Pu Tryz.prog 159 [nat a,nat b] (nat (Nat.gcd a b)):=by
 have w1:=rword_pu a (by omega)
 have w2:=rword_pu b (by omega)
 by_cases hs:(dgs a).length≤2∧(dgs b).length≤2
 ·rw [if_pos hs.1]at w1
  rw [if_pos hs.2]at w2
  have la:=len_le2 hs.1
  have lb:=len_le2 hs.2
  refine Pu.intro Tryz.func159 rfl (by kernel_rfl) fun C=>?_
  repeat(refine A1 ⟨?_⟩;intros)
  refine Wc w1 ?_
  repeat(refine A1 ⟨?_⟩;intros)
  refine Wc w2 ?_
  repeat(refine A1 ⟨?_⟩;intros)
  refine WP.loop (ι:=Nat×Nat) (fun s=>Nat.gcd s.1 s.2=Nat.gcd a b∧s.1<18446744073709551616∧s.2<18446744073709551616) (fun s=>s.2)
   (fun s=>fm [(5,lit (.int .u64 s.1)),(7,lit (.int .u64 s.2))]) (fun _=>[]) (a,b) ⟨rfl,la,lb⟩ lfA rfl ?_
  rintro ⟨c,d⟩ ⟨hg',hc,hd⟩ K hK
  simp only at hg' hc hd⊢
  by_cases h0:d=0
  ·subst h0
   rw [Nat.gcd_zero_right]at hg'
   rw [←hg']
   repeat(refine A1 ⟨?_⟩;intros)
   refine Wc (word_pu c hc) ?_
   repeat(refine A1 ⟨?_⟩;intros)
   exact E1
  ·have hm:c%d<d:=Nat.mod_lt _ (by omega)
   have hgg:Nat.gcd d (c%d)=Nat.gcd a b:=by rw [←hg',Nat.gcd_comm c d,Nat.gcd_rec d c,Nat.gcd_comm]
   repeat(refine A1 ⟨?_⟩;intros)
   exact hK _ _ (d,c%d) ⟨hgg,hd,by simp only;omega⟩ hm lfA rfl
 ·have h12:(dgs a).length≤2→¬(dgs b).length≤2:=fun x y=>hs ⟨x,y⟩
  clear hs
  by_cases la:(dgs a).length≤2
  ·have lb:=h12 la
   clear h12
   rw [if_pos la]at w1
   rw [if_neg lb]at w2
   refine Pu.intro Tryz.func159 rfl (by kernel_rfl) fun C=>?_
   repeat(refine A1 ⟨?_⟩;intros)
   refine Wc w1 ?_
   repeat(refine A1 ⟨?_⟩;intros)
   refine Wc w2 ?_
   repeat(refine A1 ⟨?_⟩;intros)
   refine WP.loop (ι:=Nat×Nat) (fun s=>Nat.gcd s.1 s.2=Nat.gcd a b∧(dgs s.1).length≤10000000∧(dgs s.2).length≤10000000) (fun s=>s.2)
    (fun s=>fm [(0,nat s.1),(1,nat s.2)]) (fun _=>[]) (a,b) ⟨rfl,ha,hb⟩ lfA rfl ?_
   rintro ⟨c,d⟩ ⟨hg',hc,hd⟩ K hK
   simp only at hg' hc hd⊢
   by_cases h0:d=0
   ·subst h0
    rw [Nat.gcd_zero_right]at hg'
    rw [←hg']
    have hl:(dgs 0).length=0:=by rw [dgs_zero];rfl
    repeat(refine A1 ⟨?_⟩;intros)
    exact E1
   ·have hl:=dgs_len_pos h0
    have hm:c%d<d:=Nat.mod_lt _ (by omega)
    have hgg:Nat.gcd d (c%d)=Nat.gcd a b:=by rw [←hg',Nat.gcd_comm c d,Nat.gcd_rec d c,Nat.gcd_comm]
    have hlm:=len_mono (Nat.le_of_lt hm)
    repeat(refine A1 ⟨?_⟩;intros)
    refine Wc (rdivide_pu c d h0 hc hd) ?_
    repeat(refine A1 ⟨?_⟩;intros)
    exact hK _ _ (d,c%d) ⟨hgg,hd,by simp only;omega⟩ hm lfA rfl
  ·clear h12
   rw [if_neg la]at w1
   refine Pu.intro Tryz.func159 rfl (by kernel_rfl) fun C=>?_
   repeat(refine A1 ⟨?_⟩;intros)
   refine Wc w1 ?_
   repeat(refine A1 ⟨?_⟩;intros)
   refine WP.loop (ι:=Nat×Nat) (fun s=>Nat.gcd s.1 s.2=Nat.gcd a b∧(dgs s.1).length≤10000000∧(dgs s.2).length≤10000000) (fun s=>s.2)
    (fun s=>fm [(0,nat s.1),(1,nat s.2)]) (fun _=>[]) (a,b) ⟨rfl,ha,hb⟩ lfA rfl ?_
   rintro ⟨c,d⟩ ⟨hg',hc,hd⟩ K hK
   simp only at hg' hc hd⊢
   by_cases h0:d=0
   ·subst h0
    rw [Nat.gcd_zero_right]at hg'
    rw [←hg']
    have hl:(dgs 0).length=0:=by rw [dgs_zero];rfl
    repeat(refine A1 ⟨?_⟩;intros)
    exact E1
   ·have hl:=dgs_len_pos h0
    have hm:c%d<d:=Nat.mod_lt _ (by omega)
    have hgg:Nat.gcd d (c%d)=Nat.gcd a b:=by rw [←hg',Nat.gcd_comm c d,Nat.gcd_rec d c,Nat.gcd_comm]
    have hlm:=len_mono (Nat.le_of_lt hm)
    repeat(refine A1 ⟨?_⟩;intros)
    refine Wc (rdivide_pu c d h0 hc hd) ?_
    repeat(refine A1 ⟨?_⟩;intros)
    exact hK _ _ (d,c%d) ⟨hgg,hd,by simp only;omega⟩ hm lfA rfl
def dden (d:Nat):List Nat:=if d=1 then []else dgs d
abbrev rq (x:Rat):SV:=ag [lit (.bool (decide (x.num<0))),nat x.num.natAbs,dg (dden x.den)]
theorem dden_one:dden 1=[]:=rfl
theorem dden_ne {d:Nat}(h:d≠1):dden d=dgs d:=if_neg h
theorem dgs_ne_nil {d:Nat}(h:d≠0):(dgs d).length≠0:=by have:=dgs_len_pos h;omega
theorem rden_pu (x:Rat):Pu Tryz.prog 91 [rq x] (nat x.den):=by
 by_cases h:x.den=1
 ·show Pu _ _ [ag [lit (.bool (decide (x.num<0))),nat x.num.natAbs,dg (dden x.den)]] _
  rw [h,dden_one]
  refine Pu.intro Tryz.func91 rfl (by kernel_rfl) fun C=>?_
  repeat(refine A1 ⟨?_⟩;intros)
  refine Wc one_pu ?_
  repeat(refine A1 ⟨?_⟩;intros)
  exact E1
 ·show Pu _ _ [ag [lit (.bool (decide (x.num<0))),nat x.num.natAbs,dg (dden x.den)]] _
  rw [dden_ne h]
  have hl:=dgs_ne_nil x.den_nz
  refine Pu.intro Tryz.func91 rfl (by kernel_rfl) fun C=>?_
  repeat(refine A1 ⟨?_⟩;intros)
  exact E1
set_option maxHeartbeats 1000000 in
theorem rfrac_pu (a:Int) (d:Nat) (ha:il a≤10000000) (hd:(dgs d).length≤10000000) (h0:d≠0):Pu Tryz.prog 89 [int a,nat d] (rq (mkRat a d)):=by
  have hmk:=mk_sv (decide (a<0)) a.natAbs h0
  rw [sv_int]at hmk
  obtain⟨e1,e2⟩:=hmk
  have hg0:Nat.gcd a.natAbs d≠0:=fun h=>h0 (Nat.gcd_eq_zero_iff.1 h).2
  have gd2:=Nat.gcd_dvd_right a.natAbs d
  have gl:=Nat.le_of_dvd (Nat.pos_of_ne_zero h0) gd2
  have hgl:=len_mono gl
  have l1:=len_mono (Nat.div_le_self a.natAbs (Nat.gcd a.natAbs d))
  have l2:=len_mono (Nat.div_le_self d (Nat.gcd a.natAbs d))
  have cm:=rcommon_pu a.natAbs d ha hd
  have ha':(dgs a.natAbs).length≤10000000:=ha
  generalize hx:mkRat a d=x at *
  generalize hg:Nat.gcd a.natAbs d=g at *
  have hlg:(dgs g).length≤10000000:=by omega
  have lden:(dgs x.den).length≤10000000:=by rw [e2];omega
  have ho:(dgs 1).length=1:=by rw [dgs_one];rfl
  have cmp1:=rcmp_pu g 1 (by omega) (by omega)
  have cmp2:=rcmp_pu x.den 1 (by omega) (by omega)
  refine Pu.intro Tryz.func89 rfl (by kernel_rfl) fun C=>?_
  repeat(refine A1 ⟨?_⟩;intros)
  rename_i b2 b4
  refine Wc cm ?_
  repeat(refine A1 ⟨?_⟩;intros)
  refine Wc one_pu ?_
  refine Wc cmp1 ?_
  repeat(refine A1 ⟨?_⟩;intros)
  refine WP.via (fun F H => LeF F (fm [(1, nat x.den), (2, lit (.pointer (some ⟨b2, 0, none⟩))), (4, lit (.pointer (some ⟨b4, 0, none⟩)))]) ∧
        H=[(b4,30,[lit (.bool false),lit (.slice none 0 0),lit (.slice none 0 0)]),(b2,28,[lit (.bool (decide (x.num<0))),nat x.num.natAbs])]) ?_ ?_
  · refine WPd (fun h=>?_) (fun h=>?_)
    · rw [e1,e2]
      repeat(refine A1 ⟨?_⟩;intros)
      refine Wc (rdivide_pu a.natAbs g hg0 ha' hlg) ?_
      repeat(refine A1 ⟨?_⟩;intros)
      refine Wc (rmake_pu (decide (a<0)) (a.natAbs/g) (by omega)) ?_
      repeat(refine A1 ⟨?_⟩;intros)
      refine Wc (rdivide_pu d g hg0 hd hlg) ?_
      repeat(refine A1 ⟨?_⟩;intros)
      exact⟨lfA,rfl⟩
    · have hg1:g=1:=by
        rcases Nat.lt_trichotomy g 1 with h'|h'|h'
        · omega
        · exact h'
        · rw [cmpN_gt h']at h;exact absurd (by decide) h
      rw [hg1,Nat.div_one,sv_int]at e1
      rw [hg1,Nat.div_one]at e2
      rw [e1,e2]
      repeat(refine A1 ⟨?_⟩;intros)
      exact⟨lfA,rfl⟩
  · rintro F H ⟨hF,rfl⟩
    refine WP.le hF ?_
    repeat(refine A1 ⟨?_⟩;intros)
    refine Wc one_pu ?_
    refine Wc cmp2 ?_
    by_cases h1:x.den=1
    · rw [show rq x=ag [lit (.bool (decide (x.num<0))),nat x.num.natAbs,dg []]from by rw [rq,h1,dden_one],h1,cmpN_eq]
      repeat(refine A1 ⟨?_⟩;intros)
      refine endR (end1 (RV.cellA rfl List.mem_cons_self rfl rfl) (Le.ag ⟨Le.refl _,Le.refl _,le_nil,trivial⟩))
    · have hc:cmpN x.den 1=1:=cmpN_gt (by have:=x.den_nz;omega)
      rw [show rq x=ag [lit (.bool (decide (x.num<0))),nat x.num.natAbs,nat x.den]from by rw [rq,dden_ne h1],hc]
      repeat(refine A1 ⟨?_⟩;intros)
      ((first|refine endR ?_|refine endN ?_);refine end1 RVa (Le.refl _))
end Go.Ab
