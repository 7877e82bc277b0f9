/- Texts laid one behind the other: RefE, RefF, Geo, Ref1, Ref4, Scene1, Law26A, RefH, AffB, LnM. -/
import Derived.Test.YtnhepimaijhhaaaGreatDoorRefL
set_option linter.all false
set_option maxHeartbeats 16000000
namespace Go.Ab
open Go.Proofs
variable [Base]
theorem mW (a b:Nat) (ha:(dgs a).length≤10000000) (hb:(dgs b).length≤10000000):Pu Tryz.prog 128 [nat a,nat b] (nat (Nat.gcd a b)):=by
 have w1:=o7 a om;have w2:=o7 b om;by_cases hs:(dgs a).length≤2∧(dgs b).length≤2
 ·rw [if_pos hs.1]at w1;rw [if_pos hs.2]at w2;have la:=rd hs.1;have lb:=rd hs.2;refine Pi Tryz.func128 fun C=>?_
  repeat(refine A1 ⟨?_⟩;intros)
  refine Wc w1 ?_;repeat(refine A1 ⟨?_⟩;intros)
  refine Wc w2 ?_;repeat(refine A1 ⟨?_⟩;intros)
  refine WP.loop (ι:=Nat×Nat) (fun s=>Nat.gcd s.1 s.2=Nat.gcd a b∧s.1<18446744073709551616∧s.2<18446744073709551616) (fun s=>s.2)
   (fun s=>fm [(5,lit (.int .u64 s.1)),(7,lit (.int .u64 s.2))]) (fun _=>[]) (a,b) ⟨rfl,la,lb⟩ lfA rfl ?_
  rintro ⟨c,d⟩ ⟨hg',hc,hd⟩ K hK;simp only at hg' hc hd⊢;by_cases h0:d=0
  ·subst h0;rw [Nat.gcd_zero_right]at hg';rw [←hg'];repeat(refine A1 ⟨?_⟩;intros)
   refine Wc (ji c hc) ?_;exact Z1
  ·have hm:c%d<d:=Nat.mod_lt _ om;have hgg:Nat.gcd d (c%d)=Nat.gcd a b:=by rw [←hg',Nat.gcd_comm c d,Nat.gcd_rec d c,Nat.gcd_comm]
   repeat(refine A1 ⟨?_⟩;intros)
   exact hK _ _ (d,c%d) ⟨hgg,hd,by simp only;omega⟩ hm lfA rfl
 ·have h12:(dgs a).length≤2→¬(dgs b).length≤2:=fun x y=>hs ⟨x,y⟩
  clear hs;by_cases la:(dgs a).length≤2
  ·have lb:=h12 la;clear h12;rw [if_pos la]at w1;rw [if_neg lb]at w2;refine Pi Tryz.func128 fun C=>?_
   repeat(refine A1 ⟨?_⟩;intros)
   refine Wc w1 ?_;repeat(refine A1 ⟨?_⟩;intros)
   refine Wc w2 ?_;repeat(refine A1 ⟨?_⟩;intros)
   refine WP.loop (ι:=Nat×Nat) (fun s=>Nat.gcd s.1 s.2=Nat.gcd a b∧(dgs s.1).length≤10000000∧(dgs s.2).length≤10000000) (fun s=>s.2)
    (fun s=>fm [(0,nat s.1),(1,nat s.2)]) (fun _=>[]) (a,b) ⟨rfl,ha,hb⟩ lfA rfl ?_
   rintro ⟨c,d⟩ ⟨hg',hc,hd⟩ K hK;simp only at hg' hc hd⊢;by_cases h0:d=0
   ·subst h0;rw [Nat.gcd_zero_right]at hg';rw [←hg'];have hl:(dgs 0).length=0:=by rw [aT];rfl
    exact Z1
   ·have hl:=ci h0;have hm:c%d<d:=Nat.mod_lt _ om;have hgg:Nat.gcd d (c%d)=Nat.gcd a b:=by rw [←hg',Nat.gcd_comm c d,Nat.gcd_rec d c,Nat.gcd_comm]
    have hlm:=aQ (Nat.le_of_lt hm);repeat(refine A1 ⟨?_⟩;intros)
    refine Wc (fO c d h0 hc hd) ?_;repeat(refine A1 ⟨?_⟩;intros)
    exact hK _ _ (d,c%d) ⟨hgg,hd,by simp only;omega⟩ hm lfA rfl
  ·clear h12;rw [if_neg la]at w1;refine Pi Tryz.func128 fun C=>?_
   repeat(refine A1 ⟨?_⟩;intros)
   refine Wc w1 ?_;repeat(refine A1 ⟨?_⟩;intros)
   refine WP.loop (ι:=Nat×Nat) (fun s=>Nat.gcd s.1 s.2=Nat.gcd a b∧(dgs s.1).length≤10000000∧(dgs s.2).length≤10000000) (fun s=>s.2)
    (fun s=>fm [(0,nat s.1),(1,nat s.2)]) (fun _=>[]) (a,b) ⟨rfl,ha,hb⟩ lfA rfl ?_
   rintro ⟨c,d⟩ ⟨hg',hc,hd⟩ K hK;simp only at hg' hc hd⊢;by_cases h0:d=0
   ·subst h0;rw [Nat.gcd_zero_right]at hg';rw [←hg'];have hl:(dgs 0).length=0:=by rw [aT];rfl
    exact Z1
   ·have hl:=ci h0;have hm:c%d<d:=Nat.mod_lt _ om;have hgg:Nat.gcd d (c%d)=Nat.gcd a b:=by rw [←hg',Nat.gcd_comm c d,Nat.gcd_rec d c,Nat.gcd_comm]
    have hlm:=aQ (Nat.le_of_lt hm);repeat(refine A1 ⟨?_⟩;intros)
    refine Wc (fO c d h0 hc hd) ?_;repeat(refine A1 ⟨?_⟩;intros)
    exact hK _ _ (d,c%d) ⟨hgg,hd,by simp only;omega⟩ hm lfA rfl
def kW (d:Nat):List Nat:=if d=1 then []else dgs d
abbrev rq (x:Rat):SV:=ag [lit (.bool (decide (x.num<0))),nat x.num.natAbs,dg (kW x.den)]
theorem ku:kW 1=[]:=rfl
theorem wW {d:Nat}(h:d≠1):kW d=dgs d:=if_neg h
theorem nG {d:Nat}(h:d≠0):(dgs d).length≠0:=by have:=ci h;omega
theorem cX (x:Rat):Pu Tryz.prog 86 [rq x] (nat x.den):=by
 by_cases h:x.den=1
 ·show Pu _ _ [ag [lit (.bool (decide (x.num<0))),nat x.num.natAbs,dg (kW x.den)]] _
  rw [h,ku];refine Pi Tryz.func86 fun C=>?_
  repeat(refine A1 ⟨?_⟩;intros)
  refine Wc Ag ?_;exact Z1
 ·show Pu _ _ [ag [lit (.bool (decide (x.num<0))),nat x.num.natAbs,dg (kW x.den)]] _
  rw [wW h];have hl:=nG x.den_nz;refine Pi Tryz.func86 fun C=>?_
  exact Z1
theorem j0 (a:Int) (d:Nat) (ha:il a≤10000000) (hd:(dgs d).length≤10000000) (h0:d≠0):Pu Tryz.prog 123 [int a,nat d] (rq (mkRat a d)):=by
  have hmk:=Kh (decide (a<0)) a.natAbs h0;rw [eK]at hmk;obtain⟨e1,e2⟩:=hmk;have hg0:Nat.gcd a.natAbs d≠0:=fun h=>h0 (Nat.gcd_eq_zero_iff.1 h).2
  have gd2:=Nat.gcd_dvd_right a.natAbs d;have gl:=Nat.le_of_dvd (Nat.pos_of_ne_zero h0) gd2;have hgl:=aQ gl;have l1:=aQ (Nat.div_le_self a.natAbs (Nat.gcd a.natAbs d));have l2:=aQ (Nat.div_le_self d (Nat.gcd a.natAbs d));have cm:=mW a.natAbs d ha hd;have ha':(dgs a.natAbs).length≤10000000:=ha;generalize hx:mkRat a d=x at *;generalize hg:Nat.gcd a.natAbs d=g at *;have hlg:(dgs g).length≤10000000:=by omega
  have lden:(dgs x.den).length≤10000000:=by rw [e2];omega
  have ho:(dgs 1).length=1:=by rw [kV];rfl
  have cmp1:=ot g 1 om om;have cmp2:=ot x.den 1 om om;refine Pi Tryz.func123 fun C=>?_
  repeat(refine A1 ⟨?_⟩;intros)
  rename_i b2 b4;refine Wc cm ?_;repeat(refine A1 ⟨?_⟩;intros)
  refine Wc Ag ?_;refine Wc cmp1 ?_;repeat(refine A1 ⟨?_⟩;intros)
  refine WP.via (fun F H => LeF F (fm [(1, nat x.den), (2, lit (.pointer (some ⟨b2, 0, none⟩))), (4, lit (.pointer (some ⟨b4, 0, none⟩)))]) ∧
        H=[(b4,101,[lit (.bool false),lit (.slice none 0 0),lit (.slice none 0 0)]),(b2,51,[lit (.bool (decide (x.num<0))),nat x.num.natAbs])]) ?_ ?_
  · refine WPd (fun h=>?_) (fun h=>?_)
    · rw [e1,e2]
      repeat(refine A1 ⟨?_⟩;intros)
      refine Wc (fO a.natAbs g hg0 ha' hlg) ?_;repeat(refine A1 ⟨?_⟩;intros)
      refine Wc (br (decide (a<0)) (a.natAbs/g) om) ?_;repeat(refine A1 ⟨?_⟩;intros)
      refine Wc (fO d g hg0 hd hlg) ?_;repeat(refine A1 ⟨?_⟩;intros)
      exact⟨lfA,rfl⟩
    · have hg1:g=1:=by
        rcases Nat.lt_trichotomy g 1 with h'|h'|h'
        · omega
        · exact h'
        · rw [ju h']at h;exact absurd (by decide) h
      rw [hg1,Nat.div_one,eK]at e1;rw [hg1,Nat.div_one]at e2;rw [e1,e2];repeat(refine A1 ⟨?_⟩;intros)
      exact⟨lfA,rfl⟩
  · rintro F H ⟨hF,rfl⟩
    refine WP.le hF ?_;repeat(refine A1 ⟨?_⟩;intros)
    refine Wc Ag ?_;refine Wc cmp2 ?_;by_cases h1:x.den=1
    · rw [show rq x=ag [lit (.bool (decide (x.num<0))),nat x.num.natAbs,dg []]from by rw [rq,h1,ku],h1,p6]
      repeat(refine A1 ⟨?_⟩;intros)
      refine aS (aC (RV.cellA rfl List.mem_cons_self rfl rfl) (Le.ag ⟨Le.refl _,Le.refl _,eM,trivial⟩))
    · have hc:ky x.den 1=1:=ju (by have:=x.den_nz;omega)
      rw [show rq x=ag [lit (.bool (decide (x.num<0))),nat x.num.natAbs,nat x.den]from by rw [rq,wW h1],hc];exact Z2
theorem pC (z:Int):rq (z:Rat)=ag [lit (.bool (decide (z<0))),nat z.natAbs,dg []]:=by
 rw [rq,Rat.num_intCast,Rat.den_intCast,ku]
theorem se (z:Int) (h0 : -9223372036854775808≤z) (h1:z≤9223372036854775807):Pu Tryz.prog 42 [lit (.int .i64 z)] (rq (z:Rat)):=by
 rw [pC];refine Pi Tryz.func42 fun C=>?_
 repeat(refine A1 ⟨?_⟩;intros)
 refine Wc (Ia z h0 h1) ?_;repeat(refine A1 ⟨?_⟩;intros)
 refine aS (aC (RV.cellA rfl List.mem_cons_self rfl rfl) (Le.ag ⟨Le.refl _,Le.refl _,eM,trivial⟩))
theorem l7 (x:Rat) (h:ht x≤10000000):Pu Tryz.prog 117 [rq x] (lit (.int .i64 x.num.sign)):=by
 have b1:=cJ x;have hb:(dgs x.num.natAbs).length≤1000000000:=by have:il x.num=(dgs x.num.natAbs).length:=rfl;omega
 refine Pi Tryz.func117 fun C=>?_
 repeat(refine A1 ⟨?_⟩;intros)
 refine Wc (mf x.num hb) ?_;exact Z1
theorem iM (x:Rat) (h:ht x≤10000000):Pu Tryz.prog 82 [rq x] (rq (-x)):=by
 have b1:=cJ x;have hb:(dgs x.num.natAbs).length≤1000000000:=by have:il x.num=(dgs x.num.natAbs).length:=rfl;omega
 rw [show rq (-x)=ag [lit (.bool (decide (-x.num<0))),nat (-x.num).natAbs,dg (kW x.den)]from by rw [rq,Rat.neg_num,Rat.neg_den]];refine Pi Tryz.func82 fun C=>?_
 repeat(refine A1 ⟨?_⟩;intros)
 refine Wdc (iY x.num hb) ?_;exact Z2
theorem oY {d:Nat}(h:d≠0):d≠1→(kW d).length≠0:=fun h1=>by rw [wW h1];exact nG h
theorem mG {d:Nat}(h:d=1):(kW d).length=0:=by rw [h,ku];rfl
theorem ru (d:Nat):(kW d).length≤(dgs d).length:=by unfold kW;split <;> simp
theorem xv {x y:Rat}(h1:x.den=1) (h2:y.den=1):x*y=((x.num*y.num:Int):Rat):=by
 rw [Rat.mul_def',h1,h2,Nat.mul_one,Rat.mkRat_one]
theorem bp (x y:Rat) (hx:ht x≤3000000) (hy:ht y≤3000000):Pu Tryz.prog 84 [rq x,rq y] (rq (x*y)):=by
 have n1:=cJ x;have n2:=cJ y;have d1:=cS x;have d2:=cS y;have m1:=jG x.num y.num;have m2:=cg x.den y.den;have l1:=ru x.den;have l2:=ru y.den;have mi:=ol x.num y.num (show il x.num≤100000000 by omega) (show il y.num≤100000000 by omega);have fr:=j0 (x.num*y.num) (x.den*y.den) om om (Nat.mul_ne_zero x.den_nz y.den_nz);by_cases hx1:x.den=1
 ·have k1:=mG hx1;by_cases hy1:y.den=1
  ·have k2:=mG hy1;rw [xv hx1 hy1,pC];refine Pi Tryz.func84 fun C=>?_
   repeat(refine A1 ⟨?_⟩;intros)
   refine Wc mi ?_;repeat(refine A1 ⟨?_⟩;intros)
   refine aS (aC (RV.cellA rfl List.mem_cons_self rfl rfl) (Le.ag ⟨Le.refl _,Le.refl _,eM,trivial⟩))
  ·have k2:=oY y.den_nz hy1;rw [Rat.mul_def'];refine Pi Tryz.func84 fun C=>?_
   repeat(refine A1 ⟨?_⟩;intros)
   refine Wdc mi ?_;repeat(refine A1 ⟨?_⟩;intros)
   refine Wdc (cX x) ?_;repeat(refine A1 ⟨?_⟩;intros)
   refine Wdc (cX y) ?_;repeat(refine A1 ⟨?_⟩;intros)
   refine Wdc (eC x.den y.den om om) ?_;repeat(refine A1 ⟨?_⟩;intros)
   refine Wdc fr ?_;exact Z2
 ·have k1:=oY x.den_nz hx1;rw [Rat.mul_def'];refine Pi Tryz.func84 fun C=>?_
  repeat(refine A1 ⟨?_⟩;intros)
  refine Wdc mi ?_;repeat(refine A1 ⟨?_⟩;intros)
  refine Wdc (cX x) ?_;repeat(refine A1 ⟨?_⟩;intros)
  refine Wdc (cX y) ?_;repeat(refine A1 ⟨?_⟩;intros)
  refine Wdc (eC x.den y.den om om) ?_;repeat(refine A1 ⟨?_⟩;intros)
  refine Wdc fr ?_;exact Z2
theorem eQ (x y:Rat) (hx:ht x≤3000000) (hy:ht y≤3000000):Pu Tryz.prog 83 [rq x,rq y] (rq (x+y)):=by
 have n1:=cJ x;have n2:=cJ y;have d1:=cS x;have d2:=cS y;have m1:=jG x.num y.den;have m2:=jG y.num x.den;have m3:=wN (x.num*y.den) (y.num*x.den);have m4:=cg x.den y.den;rw [th]at m1 m2;have l1:=ru x.den;have l2:=ru y.den;have mi1:=ol x.num y.den (show il x.num≤100000000 by omega) (show(dgs y.den).length≤100000000 by omega);have mi2:=ol y.num x.den (show il y.num≤100000000 by omega) (show(dgs x.den).length≤100000000 by omega);rw [←zE]at mi1 mi2;have ai:=sB (x.num*y.den) (y.num*x.den) (show il _≤100000000 by omega) (show il _≤100000000 by omega);have aw:=sB x.num y.num (show il _≤100000000 by omega) (show il _≤100000000 by omega);have fr:=j0 (x.num*y.den+y.num*x.den) (x.den*y.den) om om (Nat.mul_ne_zero x.den_nz y.den_nz);by_cases hx1:x.den=1
 ·have k1:=mG hx1;by_cases hy1:y.den=1
  ·have k2:=mG hy1;rw [vJ hx1 hy1,pC];refine Pi Tryz.func83 fun C=>?_
   repeat(refine A1 ⟨?_⟩;intros)
   refine Wc aw ?_;repeat(refine A1 ⟨?_⟩;intros)
   refine aS (aC (RV.cellA rfl List.mem_cons_self rfl rfl) (Le.ag ⟨Le.refl _,Le.refl _,eM,trivial⟩))
  ·have k2:=oY y.den_nz hy1;rw [Rat.add_def'];refine Pi Tryz.func83 fun C=>?_
   repeat(refine A1 ⟨?_⟩;intros)
   refine Wdc (cX y) ?_;repeat(refine A1 ⟨?_⟩;intros)
   refine Wdc (br false y.den om) ?_;repeat(refine A1 ⟨?_⟩;intros)
   refine Wdc mi1 ?_;repeat(refine A1 ⟨?_⟩;intros)
   refine Wdc (cX x) ?_;repeat(refine A1 ⟨?_⟩;intros)
   refine Wdc (br false x.den om) ?_;repeat(refine A1 ⟨?_⟩;intros)
   refine Wdc mi2 ?_;repeat(refine A1 ⟨?_⟩;intros)
   refine Wdc ai ?_;repeat(refine A1 ⟨?_⟩;intros)
   refine Wdc (cX x) ?_;repeat(refine A1 ⟨?_⟩;intros)
   refine Wdc (cX y) ?_;repeat(refine A1 ⟨?_⟩;intros)
   refine Wdc (eC x.den y.den om om) ?_;repeat(refine A1 ⟨?_⟩;intros)
   refine Wdc fr ?_;exact Z2
 ·have k1:=oY x.den_nz hx1;rw [Rat.add_def'];refine Pi Tryz.func83 fun C=>?_
  repeat(refine A1 ⟨?_⟩;intros)
  refine Wdc (cX y) ?_;repeat(refine A1 ⟨?_⟩;intros)
  refine Wdc (br false y.den om) ?_;repeat(refine A1 ⟨?_⟩;intros)
  refine Wdc mi1 ?_;repeat(refine A1 ⟨?_⟩;intros)
  refine Wdc (cX x) ?_;repeat(refine A1 ⟨?_⟩;intros)
  refine Wdc (br false x.den om) ?_;repeat(refine A1 ⟨?_⟩;intros)
  refine Wdc mi2 ?_;repeat(refine A1 ⟨?_⟩;intros)
  refine Wdc ai ?_;repeat(refine A1 ⟨?_⟩;intros)
  refine Wdc (cX x) ?_;repeat(refine A1 ⟨?_⟩;intros)
  refine Wdc (cX y) ?_;repeat(refine A1 ⟨?_⟩;intros)
  refine Wdc (eC x.den y.den om om) ?_;repeat(refine A1 ⟨?_⟩;intros)
  refine Wdc fr ?_;exact Z2
theorem i9 (x y:Rat) (hx:ht x≤3000000) (hy:ht y≤3000000):Pu Tryz.prog 154 [rq x,rq y] (rq (x-y)):=by
 rw [Rat.sub_eq_add_neg];refine Pi Tryz.func154 fun C=>?_
 repeat(refine A1 ⟨?_⟩;intros)
 refine Wdc (iM y om) ?_;repeat(refine A1 ⟨?_⟩;intros)
 refine Wdc (eQ x (-y) hx (by rw [cz];exact hy)) ?_;exact Z2
theorem jm (x y:Rat) (hx:ht x≤3000000) (hy:ht y≤3000000):Pu Tryz.prog 130 [rq x,rq y] (lit (.int .i64 (x-y).num.sign)):=by
 have h:=ef x y;refine Pi Tryz.func130 fun C=>?_
 repeat(refine A1 ⟨?_⟩;intros)
 refine Wc (i9 x y hx hy) ?_;repeat(refine A1 ⟨?_⟩;intros)
 refine Wc (l7 (x-y) om) ?_;exact Z1
abbrev pp (x y:Rat):SV:=ag [lit (.int .i64 (r0 x)),lit (.int .i64 (r1 x)),r2 x,lit (.int .i64 (r0 y)),lit (.int .i64 (r1 y)),r2 y]
structure RQ where
 s:Bool
 n:List Nat
 d:List Nat
def RQ.v (r:RQ):Rat:=mkRat (sv r.s (val r.n)) (val r.d)
def RQ.ok (L:Nat) (r:RQ):Prop:=D r.n∧D r.d∧r.n.length≤L∧r.d.length≤L
abbrev qr (r:RQ):SV:=Mw r.s r.n r.d
abbrev pr (a b:RQ):SV:=ag [lit (.bool a.s),dg a.n,dg a.d,lit (.bool b.s),dg b.n,dg b.d]
abbrev pq (x y:Rat):SV:=ag [lit (.bool (decide (x.num<0))),nat x.num.natAbs,nat x.den,lit (.bool (decide (y.num<0))),nat y.num.natAbs,nat y.den]
def RQ.of (x:Rat):RQ:=⟨decide (x.num<0),dgs x.num.natAbs,dgs x.den⟩
theorem RQ.of_v (x:Rat):(RQ.of x).v=x:=by
 unfold RQ.v RQ.of;simp only [an,eK];exact Rat.mkRat_self x
theorem RQ.of_ok {x:Rat}{L:Nat}(h:ht x≤L):(RQ.of x).ok L :=
 ⟨aO _,aO _,Nat.le_trans (cJ x) h,Nat.le_trans (cS x) h⟩
theorem LT {s:Bool}{xs:List Nat}(h:D xs):il (sv s (val xs))≤xs.length:=by unfold il;rw [gC];exact jd h
theorem Im (x y u v:Rat) (hx:ht x≤1000000) (hy:ht y≤1000000) (hu:ht u≤1000000) (hv:ht v≤1000000):Pu Tryz.prog 244 [pp x y,pp u v] (pp (x+u) (y+v)):=by
 refine Pi Tryz.func244 fun C=>?_
 repeat(refine A1 ⟨?_⟩;intros)
 refine Wdc (kF x u om om) ?_;repeat(refine A1 ⟨?_⟩;intros)
 refine Wdc (kF y v om om) ?_;exact Z2
theorem uI (x y u:Rat) (hx:ht x≤1000000) (hy:ht y≤1000000) (hu:ht u≤1000000):Pu Tryz.prog 245 [pp x y,fr u] (pp (x*u) (y*u)):=by
 refine Pi Tryz.func245 fun C=>?_
 repeat(refine A1 ⟨?_⟩;intros)
 refine Wdc (jl x u om om) ?_;repeat(refine A1 ⟨?_⟩;intros)
 refine Wdc (jl y u om om) ?_;exact Z2
theorem CT (x y u v:Rat) (hx:ht x≤1000000) (hy:ht y≤1000000) (hu:ht u≤1000000) (hv:ht v≤1000000):Pu Tryz.prog 235 [pp x y,pp u v] (fr (x*v-y*u)):=by
 have h1:=aA x v;have h2:=aA y u;refine Pi Tryz.func235 fun C=>?_
 repeat(refine A1 ⟨?_⟩;intros)
 refine Wdc (jl x v om om) ?_;repeat(refine A1 ⟨?_⟩;intros)
 refine Wdc (jl y u om om) ?_;repeat(refine A1 ⟨?_⟩;intros)
 refine Wdc (vY (x*v) (y*u) om om) ?_;exact Z2
structure M6 (α:Type) where
 a:α
 b:α
 c:α
 d:α
 e:α
 f:α
structure M6.ok (L:Nat) (m:M6 RQ):Prop where
 a:m.a.ok L
 b:m.b.ok L
 c:m.c.ok L
 d:m.d.ok L
 e:m.e.ok L
 f:m.f.ok L
structure M6.le (L:Nat) (m:M6 Rat):Prop where
 a:ht m.a≤L
 b:ht m.b≤L
 c:ht m.c≤L
 d:ht m.d≤L
 e:ht m.e≤L
 f:ht m.f≤L
theorem BL {p:Prop} [Decidable p] (h:¬p):Le (lit (.bool false)) (lit (.bool (decide p))):=by rw [decide_eq_false h];exact Le.refl _
theorem Jo {p:Prop} [Decidable p] (h:p):Le (lit (.bool true)) (lit (.bool (decide p))):=by rw [decide_eq_true h];exact Le.refl _
theorem dh (xs ys:List Nat) (hx:xs.length≤1000000000) (hy:ys.length≤1000000000):Pu Tryz.prog 119 [dg xs,dg ys] (lit (.bool (decide (xs=ys)))):=by
 by_cases hl:xs.length=ys.length
 ·refine Pi Tryz.func119 fun C=>?_
  repeat(refine A1 ⟨?_⟩;intros)
  refine WP.loop (ι:=Nat) (fun k=>k≤xs.length∧xs.take k=ys.take k) (fun k=>xs.length-k) (fun k=>fm [(0,dg xs),(1,dg ys),(11,dg xs),(12,lit (.int .i64 xs.length)),(13,lit (.int .i64 k))]) (fun _=>[]) 0
   ⟨Nat.zero_le _,rfl⟩ lfA rfl ?_
  rintro k ⟨hk,he⟩ K hK;by_cases hkl:k<xs.length
  ·by_cases hd:xs.getD k 0=ys.getD k 0
   ·repeat(refine A1 ⟨?_⟩;intros)
    exact hK _ _ (k+1) ⟨om,by rw [aY xs k hkl,aY ys k om,he,hd]⟩ om lfA rfl
   ·repeat(refine A1 ⟨?_⟩;intros)
    exact aS (aC (RV.tmp rfl) (BL fun e=>hd (by rw [e])))
  ·have hke:k=xs.length:=by omega
   subst hke;rw [List.take_length,hl,List.take_length]at he;repeat(refine A1 ⟨?_⟩;intros)
   exact aS (aC (RV.tmp rfl) (Jo he))
 ·refine Pi Tryz.func119 fun C=>?_
  repeat(refine A1 ⟨?_⟩;intros)
  exact aS (aC (RV.tmp rfl) (BL fun e=>hl (by rw [e])))
theorem lj (xs:List Nat) (h:xs.length≤1000000000):Pu Tryz.prog 149 [dg xs] (dg xs):=by
 refine Pi Tryz.func149 fun C=>?_
 exact Z1
theorem Db (xs:List Nat) (h:xs.length≤1000000000) (hD:D xs):Pu Tryz.prog 173 [dg xs] (nat (val xs)):=by
 refine Pi Tryz.func173 fun C=>?_
 repeat(first|(refine A1 ⟨?_⟩;intros)|(refine Wcx (dq _ h hD) ?_)|(refine jg (dq _ h hD) ?_)|(refine eB (dq _ h hD) ?_)|(refine g8 (dq _ h hD) ?_))
 exact E1
theorem Jw (s:Bool) (xs:List Nat) (h:xs.length≤1000000000) (hD:D xs):Pu Tryz.prog 174 [raw s xs] (int (sv s (val xs))):=by
 have hl:=jd hD;refine Pi Tryz.func174 fun C=>?_
 repeat(first|(refine A1 ⟨?_⟩;intros)|(refine Wcx (Db _ h hD) ?_)|(refine jg (Db _ h hD) ?_)|(refine eB (Db _ h hD) ?_)|(refine g8 (Db _ h hD) ?_)|(refine Wcx (br _ _ om) ?_)|(refine jg (br _ _ om) ?_)|(refine eB (br _ _ om) ?_)|(refine g8 (br _ _ om) ?_))
 exact G1
theorem mS (z:Int) (h:il z≤1000000000):Pu Tryz.prog 106 [int z] (int z):=by
 have h':(dgs z.natAbs).length≤1000000000:=h;refine Pi Tryz.func106 fun C=>?_
 repeat(first|(refine A1 ⟨?_⟩;intros)|(refine Wcx (lj _ h') ?_)|(refine jg (lj _ h') ?_)|(refine eB (lj _ h') ?_)|(refine g8 (lj _ h') ?_))
 exact G1
theorem EH (s t:Bool) (xs ys:List Nat) (hx:xs.length≤1000000000) (hy:ys.length≤1000000000):Pu Tryz.prog 76 [raw s xs,raw t ys] (lit (.bool (decide (s=t∧xs=ys)))):=by
 cases s <;> cases t
 ·refine Pi Tryz.func76 fun C=>?_
  repeat(first|(refine A1 ⟨?_⟩;intros)|(refine Wcx (dh _ _ hx hy) ?_)|(refine jg (dh _ _ hx hy) ?_)|(refine eB (dh _ _ hx hy) ?_)|(refine g8 (dh _ _ hx hy) ?_))
  refine aS (aC (RV.tmp rfl) (Le.bool ?_));simp
 ·refine Pi Tryz.func76 fun C=>?_
  repeat(first|(refine A1 ⟨?_⟩;intros)|(refine Wcx (dh _ _ hx hy) ?_)|(refine jg (dh _ _ hx hy) ?_)|(refine eB (dh _ _ hx hy) ?_)|(refine g8 (dh _ _ hx hy) ?_))
  refine aS (aC (RV.tmp rfl) (Le.bool ?_));simp
 ·refine Pi Tryz.func76 fun C=>?_
  repeat(first|(refine A1 ⟨?_⟩;intros)|(refine Wcx (dh _ _ hx hy) ?_)|(refine jg (dh _ _ hx hy) ?_)|(refine eB (dh _ _ hx hy) ?_)|(refine g8 (dh _ _ hx hy) ?_))
  refine aS (aC (RV.tmp rfl) (Le.bool ?_));simp
 ·refine Pi Tryz.func76 fun C=>?_
  repeat(first|(refine A1 ⟨?_⟩;intros)|(refine Wcx (dh _ _ hx hy) ?_)|(refine jg (dh _ _ hx hy) ?_)|(refine eB (dh _ _ hx hy) ?_)|(refine g8 (dh _ _ hx hy) ?_))
  refine aS (aC (RV.tmp rfl) (Le.bool ?_));simp
theorem Jl {p:Prop} [Decidable p] (h:p):lit (.bool (decide p))=lit (.bool true):=by rw [decide_eq_true h]
theorem vW (s:Bool) (xs:List Nat) (hx:xs.length≤1000000000):Pu Tryz.prog 76 [raw s xs,raw s xs] (lit (.bool true)):=Jl (p:=s=s∧xs=xs) ⟨rfl,rfl⟩▸EH s s xs xs hx hx
theorem lh (x:Rat) (h:ht x≤100000000):Pu Tryz.prog 141 [rq x] (q x):=by
 have h1:=cJ x;have h2:=cS x;refine Pi Tryz.func141 fun C=>?_
 repeat(first|(refine A1 ⟨?_⟩;intros)|(refine Wcx (mS _ om) ?_)|(refine jg (mS _ om) ?_)|(refine eB (mS _ om) ?_)|(refine g8 (mS _ om) ?_)|refine W4 (cX x) ⟨?_⟩|(refine Wcx (lj _ om) ?_)|(refine jg (lj _ om) ?_)|(refine eB (lj _ om) ?_)|(refine g8 (lj _ om) ?_))
 exact G1
theorem I8:rq 0=ag [lit (.bool false),nat 0,dg []]:=by rw [rq,show(0:Rat).num=0 from rfl,show(0:Rat).den=1 from rfl,ku];rfl
theorem LO {r:RQ}{L:Nat}(h:r.ok L) (hL:L≤1000000):Pu Tryz.prog 139 [qr r] (rq r.v):=by
 obtain⟨h1,h2,h3,h4⟩:=h;have hl:=jd h2;have hi:=LT (s:=r.s) h1;by_cases h0:val r.d=0
 ·have hv:r.v=0:=by unfold RQ.v;rw [h0];exact Rat.mkRat_zero _
  rw [hv,I8];have hn:=Db r.d om h2;rw [h0]at hn;have hl0:(dgs 0).length=0:=by rw [aT];rfl
  refine Pi Tryz.func139 fun C=>?_
  repeat(first|(refine A1 ⟨?_⟩;intros)|refine W4 hn ⟨?_⟩)
  refine aS (aC (RV.cellA rfl List.mem_cons_self rfl rfl) (Le.ag ⟨Le.refl _,?_,eM,trivial⟩));rw [show nat 0=dg []from by show dg (dgs 0)=_;rw [aT]];exact eM
 ·have hp:=ci h0;refine Pi Tryz.func139 fun C=>?_
  repeat(first|(refine A1 ⟨?_⟩;intros)|refine W4 (Db r.d om h2) ⟨?_⟩|(refine Wcx (Jw _ _ om h1) ?_)|(refine jg (Jw _ _ om h1) ?_)|(refine eB (Jw _ _ om h1) ?_)|(refine g8 (Jw _ _ om h1) ?_)|(refine Wcx (j0 _ _ om om h0) ?_)|(refine jg (j0 _ _ om om h0) ?_)|(refine eB (j0 _ _ om om h0) ?_)|(refine g8 (j0 _ _ om om h0) ?_))
  exact G1
abbrev rp (x y:Rat):SV:=ag [lit (.bool (decide (x.num<0))),nat x.num.natAbs,dg (kW x.den),lit (.bool (decide (y.num<0))),nat y.num.natAbs,dg (kW y.den)]
theorem Ku (x y:Rat) (hx:ht x≤100000000) (hy:ht y≤100000000):Pu Tryz.prog 97 [rp x y] (pq x y):=by
 refine Pi Tryz.func97 fun C=>?_
 repeat(first|(refine A1 ⟨?_⟩;intros)|(refine Wcx (lh _ hx) ?_)|(refine jg (lh _ hx) ?_)|(refine eB (lh _ hx) ?_)|(refine g8 (lh _ hx) ?_)|(refine Wcx (lh _ hy) ?_)|(refine jg (lh _ hy) ?_)|(refine eB (lh _ hy) ?_)|(refine g8 (lh _ hy) ?_))
 exact G1
theorem LP {a b:RQ}{L:Nat}(ha:a.ok L) (hb:b.ok L) (hL:L≤1000000):Pu Tryz.prog 95 [pr a b] (rp a.v b.v):=by
 refine Pi Tryz.func95 fun C=>?_
 exact X2 (LO ha hL) (LO hb hL)
theorem jL (a b:Int) (ha : -9223372036854775808≤a) (ha':a≤9223372036854775807) (hb : -9223372036854775808≤b) (hb':b≤9223372036854775807):Pu Tryz.prog 47 [lit (.int .i64 a),lit (.int .i64 b)] (rp (a:Rat) (b:Rat)):=by
 refine Pi Tryz.func47 fun C=>?_
 exact X2 (se a ha ha') (se b hb hb')
theorem mA (x y k u v:Rat) (hx:ht x≤1000000) (hy:ht y≤1000000) (hk:ht k≤1000000) (hu:ht u≤1000000) (hv:ht v≤1000000):Pu Tryz.prog 41 [rp x y,rq k,rp u v] (rp (x+k*u) (y+k*v)):=by
 have h1:=aA k u;have h2:=aA k v;refine Pi Tryz.func41 fun C=>?_
 repeat(first|(refine A1 ⟨?_⟩;intros)|refine W4 (bp k u om om) ⟨?_⟩|refine W4 (eQ x (k*u) om om) ⟨?_⟩|refine W4 (bp k v om om) ⟨?_⟩|refine W4 (eQ y (k*v) om om) ⟨?_⟩)
 exact G1
theorem gP:ht 1=1:=by
 unfold ht;rw [show(1:Rat).num=1 from rfl,show(1:Rat).den=1 from rfl];unfold il;rw [show(1:Int).natAbs=1 from rfl,kV];rfl
theorem oh:Pu Tryz.prog 42 [lit (.int .i64 1)] (rq 1):=se 1 om om
def RQ.short (n:Nat) (r:RQ):Prop:=r.n.length≤n∧r.d.length≤n
instance (n:Nat) (r:RQ):Decidable (r.short n):=by unfold RQ.short;infer_instance
theorem bV {α:Type}{l:List α}{k:Nat}{a:α}(h:l[k]? = some a):l.take (k+1)=l.take k++[a]:=by
 obtain⟨h1,h2⟩:=List.getElem?_eq_some_iff.1 h;rw [List.take_succ_eq_append_getElem h1,h2]
abbrev pH (p:RQ×RQ):List SV:=[lit (.bool p.1.s),dg p.1.n,dg p.1.d,lit (.bool p.2.s),dg p.2.n,dg p.2.d]
theorem sH (p:RQ×RQ):(pH p).length=6:=rfl
theorem gZ:ht 0=1:=by
 unfold ht il;rw [show(0:Rat).num=0 from rfl,show(0:Rat).den=1 from rfl,show(0:Int).natAbs=0 from rfl,aT,kV];rfl
theorem oQ (z:Int) (h:z.natAbs<4294967296):ht (z:Rat)≤1:=by
 unfold ht;rw [Rat.num_intCast,Rat.den_intCast,kV];have:il z≤1:=bS (k:=1) (by simpa using h);simp;omega
theorem Iu (x y:Rat):mkRat (x.num*sv (decide (y.num<0)) y.den) (x.den*y.num.natAbs)=x/y:=by
 rw [Rat.div_def,←Av];conv=>rhs;rw [←Rat.mkRat_self x]
 rw [Rat.mkRat_mul_mkRat]
theorem jQ (x y:Rat) (hx:ht x≤3000000) (hy:ht y≤3000000) (h0:y.num≠0):Pu Tryz.prog 168 [rq x,rq y] (rq (x/y)):=by
 have n1:=cJ x;have n2:=cJ y;have d1:=cS x;have d2:=cS y;have e2:il y.num=(dgs y.num.natAbs).length:=rfl;have m1:=jG x.num (sv (decide (y.num<0)) y.den);have e1:il (sv (decide (y.num<0)) y.den)=(dgs y.den).length:=by unfold il;rw [gC]
 have m4:=cg x.den y.num.natAbs;have mi:=ol x.num (sv (decide (y.num<0)) y.den) (show il x.num≤100000000 by omega) (show il _≤100000000 by omega);have fr:=j0 (x.num*sv (decide (y.num<0)) y.den) (x.den*y.num.natAbs) om om (Nat.mul_ne_zero x.den_nz om);rw [Iu]at fr;refine Pi Tryz.func168 fun C=>?_
 repeat(first|(refine A1 ⟨?_⟩;intros)|(refine Wcx (cX _) ?_)|(refine jg (cX _) ?_)|(refine eB (cX _) ?_)|(refine g8 (cX _) ?_)|(refine Wcx (br _ _ om) ?_)|(refine jg (br _ _ om) ?_)|(refine eB (br _ _ om) ?_)|(refine g8 (br _ _ om) ?_)|refine W4 mi ⟨?_⟩|(refine Wcx (eC _ _ om om) ?_)|(refine jg (eC _ _ om om) ?_)|(refine eB (eC _ _ om om) ?_)|(refine g8 (eC _ _ om om) ?_)|refine W4 fr ⟨?_⟩)
 exact G1
def iZ (x y:Rat):Rat:=mkRat (Nat.gcd (x.num.natAbs*y.den) (y.num.natAbs*x.den):Nat) (x.den*y.den)
theorem yZ {x:Rat}{p:Int}{d:Nat}(hd:d≠0) (h:x=mkRat p d):x.num*d=p*x.den:=by
 have h1:=Rat.mkRat_self x;rw [←h1]at h;conv at h=>lhs;rw [h1]
 have:=(Rat.mkRat_eq_iff (n₁:=x.num) (n₂:=p) x.den_nz hd).1 (by rw [Rat.mkRat_self];exact h);rw [this]
theorem w6 {x y:Rat}{p q:Int}{d:Nat}(hd:d≠0) (hx:x=mkRat p d) (hy:y=mkRat q d):iZ x y=mkRat (Nat.gcd p.natAbs q.natAbs:Nat) d:=by
 have cx:=congrArg Int.natAbs (yZ hd hx);have cy:=congrArg Int.natAbs (yZ hd hy);rw [Int.natAbs_mul,Int.natAbs_mul,Int.natAbs_natCast,Int.natAbs_natCast]at cx cy;unfold iZ;rw [Rat.mkRat_eq_iff (Nat.mul_ne_zero x.den_nz y.den_nz) hd]
 have:Nat.gcd (x.num.natAbs*y.den) (y.num.natAbs*x.den)*d=Nat.gcd p.natAbs q.natAbs*(x.den*y.den):=by
  rw [←Nat.gcd_mul_right,←Nat.gcd_mul_right];congr 1
  ·rw [Nat.mul_right_comm,cx,Nat.mul_assoc]
  ·rw [Nat.mul_right_comm,cy,Nat.mul_assoc,Nat.mul_comm y.den]
 exact_mod_cast this
theorem Hb (x y:Rat):∃(p q:Int) (d:Nat),d≠0∧x=mkRat p d∧y=mkRat q d:=by
 refine⟨x.num*y.den,y.num*x.den,x.den*y.den,Nat.mul_ne_zero x.den_nz y.den_nz,?_,?_⟩
 ·rw [Rat.mkRat_mul_right y.den_nz,Rat.mkRat_self]
 ·rw [Nat.mul_comm x.den,Rat.mkRat_mul_right x.den_nz,Rat.mkRat_self]
theorem xP (t x y:Rat) (ht:0<t):iZ (t*x) (t*y)=t*iZ x y:=by
 obtain⟨p,q,d,hd,hx,hy⟩:=Hb x y
 have hn:0<t.num:=by
  have h0:=Rat.num_nonneg.2 (Rat.le_of_lt ht);have h1:t.num≠0:=fun e=>by rw [Rat.num_eq_zero.1 e]at ht;exact absurd ht (by decide)
  omega
 have e:t=mkRat t.num t.den:=(Rat.mkRat_self t).symm;have hx':t*x=mkRat (t.num*p) (t.den*d):=by conv=>lhs;rw [e,hx,Rat.mkRat_mul_mkRat]
 have hy':t*y=mkRat (t.num*q) (t.den*d):=by conv=>lhs;rw [e,hy,Rat.mkRat_mul_mkRat]
 rw [w6 (Nat.mul_ne_zero t.den_nz hd) hx' hy',w6 hd hx hy,Int.natAbs_mul,Int.natAbs_mul,Nat.gcd_mul_left];conv=>rhs;rw [e,Rat.mkRat_mul_mkRat]
 congr 1
 rw [Int.natCast_mul,Int.natAbs_of_nonneg (Int.le_of_lt hn)]
theorem xO (x y:Rat):0≤iZ x y:=by
 unfold iZ;rw [←Rat.num_nonneg,Rat.num_mkRat];rw [if_neg (Nat.mul_ne_zero x.den_nz y.den_nz)];exact Int.ediv_nonneg (Int.natCast_nonneg _) (Int.natCast_nonneg _)
theorem sn (x y:Rat):∃k l:Int,x=k*iZ x y∧y=l*iZ x y:=by
 obtain⟨p,q,d,hd,hx,hy⟩:=Hb x y;rw [w6 hd hx hy];have h1:(Nat.gcd p.natAbs q.natAbs:Int)∣p:=Int.ofNat_dvd_left.2 (Nat.gcd_dvd_left _ _);have h2:(Nat.gcd p.natAbs q.natAbs:Int)∣q:=Int.ofNat_dvd_left.2 (Nat.gcd_dvd_right _ _);obtain⟨k,hk⟩:=h1;obtain⟨l,hl⟩:=h2
 have key:∀(z k:Int),z=(Nat.gcd p.natAbs q.natAbs:Int)*k→mkRat z d=(k:Rat)*mkRat (Nat.gcd p.natAbs q.natAbs:Nat) d:=fun z k h=>by
  have e:(k:Rat)=mkRat k 1:=(Rat.mkRat_one k).symm;rw [e,Rat.mkRat_mul_mkRat,Nat.one_mul,h,Int.mul_comm]
 exact⟨k,l,by rw [hx];exact key p k hk,by rw [hy];exact key q l hl⟩
theorem uF {x y:Rat}(h:iZ x y=0):x=0∧y=0:=by
 obtain⟨k,l,h1,h2⟩:=sn x y;rw [h,Rat.mul_zero]at h1 h2;exact⟨h1,h2⟩
theorem gF (a b:Int):iZ a b=((Nat.gcd a.natAbs b.natAbs:Nat):Rat):=by
 unfold iZ;rw [Rat.num_intCast,Rat.num_intCast,Rat.den_intCast,Rat.den_intCast,Nat.mul_one,Nat.mul_one,Nat.mul_one,Rat.mkRat_one];rfl
structure Li where
 a:Int
 b:Int
 c:Int
def Li.ok (l:Li):Prop:=Nat.gcd (Nat.gcd l.a.natAbs l.b.natAbs) l.c.natAbs=1∧(l.a≠0∨l.b≠0)
def g3 (a b c:Rat):Rat:=iZ (iZ a b) c
def gw (a b c:Rat):Li:=⟨(a*(g3 a b c)⁻¹).num,(b*(g3 a b c)⁻¹).num,(c*(g3 a b c)⁻¹).num⟩
theorem GE (t a b c:Rat) (ht:0<t):g3 (t*a) (t*b) (t*c)=t*g3 a b c:=by unfold g3;rw [xP t a b ht,xP t _ c ht]
theorem AC {a b c:Rat}(h:a≠0∨b≠0):0<g3 a b c:=by
 have h0:=xO (iZ a b) c;rcases Rat.le_iff_lt_or_eq.1 h0 with h1|h1
 ·exact h1
 ·exfalso;have h2:=(uF h1.symm).1;have h3:=uF h2;rcases h with h|h
  ·exact h h3.1
  ·exact h h3.2
theorem J0 {x:Rat}(h:x.den=1):(x.num:Rat)=x:=by
 apply Rat.ext <;> simp [h]
theorem Bm {a b c:Rat}(h:a≠0∨b≠0):a*(g3 a b c)⁻¹=((gw a b c).a:Rat)∧b*(g3 a b c)⁻¹=((gw a b c).b:Rat)∧c*(g3 a b c)⁻¹=((gw a b c).c:Rat):=by
 have hg:=AC (c:=c) h;have hne:g3 a b c≠0:=fun e=>by rw [e]at hg;exact absurd hg (by decide)
 obtain⟨k,l,h1,h2⟩:=sn a b;obtain⟨u,v,h3,h4⟩:=sn (iZ a b) c
 have ea:a*(g3 a b c)⁻¹=((k*u:Int):Rat):=by
  have:a=((k*u:Int):Rat)*g3 a b c:=by rw [Rat.intCast_mul,Rat.mul_assoc];unfold g3;rw [←h3];exact h1
  generalize g3 a b c=g at *;rw [this,Rat.mul_assoc,Rat.mul_inv_cancel _ hne,Rat.mul_one]
 have eb:b*(g3 a b c)⁻¹=((l*u:Int):Rat):=by
  have:b=((l*u:Int):Rat)*g3 a b c:=by rw [Rat.intCast_mul,Rat.mul_assoc];unfold g3;rw [←h3];exact h2
  generalize g3 a b c=g at *;rw [this,Rat.mul_assoc,Rat.mul_inv_cancel _ hne,Rat.mul_one]
 have ec:c*(g3 a b c)⁻¹=((v:Int):Rat):=by
  have:c=((v:Int):Rat)*g3 a b c:=h4;generalize g3 a b c=g at *;rw [this,Rat.mul_assoc,Rat.mul_inv_cancel _ hne,Rat.mul_one]
 unfold gw;simp only [];rw [ea,eb,ec,Rat.num_intCast,Rat.num_intCast,Rat.num_intCast];exact⟨rfl,rfl,rfl⟩
theorem Bl {a b c:Rat}(h:a≠0∨b≠0):(gw a b c).ok:=by
 have hg:=AC (c:=c) h;have hne:g3 a b c≠0:=fun e=>by rw [e]at hg;exact absurd hg (by decide)
 obtain⟨e1,e2,e3⟩:=Bm (c:=c) h;have hi:0<(g3 a b c)⁻¹:=Rat.inv_pos.2 hg;have h1:=GE (g3 a b c)⁻¹ a b c hi;rw [Rat.inv_mul_cancel _ hne,Rat.mul_comm _ a,Rat.mul_comm _ b,Rat.mul_comm _ c,e1,e2,e3]at h1;unfold g3 at h1;rw [gF,show((Nat.gcd (gw a b c).a.natAbs (gw a b c).b.natAbs:Nat):Rat)=(((Nat.gcd (gw a b c).a.natAbs (gw a b c).b.natAbs:Nat):Int):Rat)from rfl,gF,Int.natAbs_natCast]at h1;refine⟨by exact_mod_cast h1,?_⟩;rcases h with h|h
 ·left;intro e;rw [e]at e1;rcases Rat.mul_eq_zero.1 (e1.trans rfl)with h5|h5
  ·exact h h5
  ·rw [h5]at hi;exact absurd hi (by decide)
 ·right;intro e;rw [e]at e2;rcases Rat.mul_eq_zero.1 (e2.trans rfl)with h5|h5
  ·exact h h5
  ·rw [h5]at hi;exact absurd hi (by decide)
theorem F9 (t a b c:Rat) (ht:0<t):gw (t*a) (t*b) (t*c)=gw a b c:=by
 have hne:t≠0:=fun e=>by rw [e]at ht;exact absurd ht (by decide)
 have key:∀x:Rat,t*x*(t*g3 a b c)⁻¹=x*(g3 a b c)⁻¹:=fun x=>by
  rw [Rat.inv_mul_rev,Rat.mul_comm t x,Rat.mul_assoc,←Rat.mul_assoc t,Rat.mul_comm t,Rat.mul_assoc (g3 a b c)⁻¹,Rat.mul_inv_cancel _ hne,Rat.mul_one]
 unfold gw;rw [GE t a b c ht,key,key,key]
end Go.Ab
