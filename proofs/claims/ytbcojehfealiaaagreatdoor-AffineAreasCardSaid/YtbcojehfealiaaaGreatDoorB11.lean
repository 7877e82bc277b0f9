/- Texts laid one behind the other: RefE, RefF, Geo, Ref1, Ref4, Scene1. -/
import Derived.Test.YtbcojehfealiaaaGreatDoorRefL
set_option linter.all false
set_option maxHeartbeats 16000000
namespace Go.Ab
open Go.Proofs
variable [Base]
theorem mJ (a b:Nat) (ha:(dgs a).length≤10000000) (hb:(dgs b).length≤10000000):Pu Tryz.prog 103 [nat a,nat b] (nat (Nat.gcd a b)):=by
 have w1:=nL a om;have w2:=nL b om;by_cases hs:(dgs a).length≤2∧(dgs b).length≤2
 ·rw [if_pos hs.1]at w1;rw [if_pos hs.2]at w2;have la:=qk hs.1;have lb:=qk hs.2;refine Pi Tryz.func103 fun C=>?_
  repeat(refine A1 ⟨?_⟩;intros)
  refine Wc w1 ?_;repeat(refine A1 ⟨?_⟩;intros)
  refine Wc w2 ?_;repeat(refine A1 ⟨?_⟩;intros)
  refine WP.loop (ι:=Nat×Nat) (fun s=>Nat.gcd s.1 s.2=Nat.gcd a b∧s.1<18446744073709551616∧s.2<18446744073709551616) (fun s=>s.2)
   (fun s=>fm [(5,lit (.int .u64 s.1)),(7,lit (.int .u64 s.2))]) (fun _=>[]) (a,b) ⟨rfl,la,lb⟩ lfA rfl ?_
  rintro ⟨c,d⟩ ⟨hg',hc,hd⟩ K hK;simp only at hg' hc hd⊢;by_cases h0:d=0
  ·subst h0;rw [Nat.gcd_zero_right]at hg';rw [←hg'];repeat(refine A1 ⟨?_⟩;intros)
   refine Wc (gW c hc) ?_;exact Z1
  ·have hm:c%d<d:=Nat.mod_lt _ om;have hgg:Nat.gcd d (c%d)=Nat.gcd a b:=by rw [←hg',Nat.gcd_comm c d,Nat.gcd_rec d c,Nat.gcd_comm]
   repeat(refine A1 ⟨?_⟩;intros)
   exact hK _ _ (d,c%d) ⟨hgg,hd,by simp only;omega⟩ hm lfA rfl
 ·have h12:(dgs a).length≤2→¬(dgs b).length≤2:=fun x y=>hs ⟨x,y⟩
  clear hs;by_cases la:(dgs a).length≤2
  ·have lb:=h12 la;clear h12;rw [if_pos la]at w1;rw [if_neg lb]at w2;refine Pi Tryz.func103 fun C=>?_
   repeat(refine A1 ⟨?_⟩;intros)
   refine Wc w1 ?_;repeat(refine A1 ⟨?_⟩;intros)
   refine Wc w2 ?_;repeat(refine A1 ⟨?_⟩;intros)
   refine WP.loop (ι:=Nat×Nat) (fun s=>Nat.gcd s.1 s.2=Nat.gcd a b∧(dgs s.1).length≤10000000∧(dgs s.2).length≤10000000) (fun s=>s.2)
    (fun s=>fm [(0,nat s.1),(1,nat s.2)]) (fun _=>[]) (a,b) ⟨rfl,ha,hb⟩ lfA rfl ?_
   rintro ⟨c,d⟩ ⟨hg',hc,hd⟩ K hK;simp only at hg' hc hd⊢;by_cases h0:d=0
   ·subst h0;rw [Nat.gcd_zero_right]at hg';rw [←hg'];have hl:(dgs 0).length=0:=by rw [aT];rfl
    exact Z1
   ·have hl:=bX h0;have hm:c%d<d:=Nat.mod_lt _ om;have hgg:Nat.gcd d (c%d)=Nat.gcd a b:=by rw [←hg',Nat.gcd_comm c d,Nat.gcd_rec d c,Nat.gcd_comm]
    have hlm:=aM (Nat.le_of_lt hm);repeat(refine A1 ⟨?_⟩;intros)
    refine Wc (fB c d h0 hc hd) ?_;repeat(refine A1 ⟨?_⟩;intros)
    exact hK _ _ (d,c%d) ⟨hgg,hd,by simp only;omega⟩ hm lfA rfl
  ·clear h12;rw [if_neg la]at w1;refine Pi Tryz.func103 fun C=>?_
   repeat(refine A1 ⟨?_⟩;intros)
   refine Wc w1 ?_;repeat(refine A1 ⟨?_⟩;intros)
   refine WP.loop (ι:=Nat×Nat) (fun s=>Nat.gcd s.1 s.2=Nat.gcd a b∧(dgs s.1).length≤10000000∧(dgs s.2).length≤10000000) (fun s=>s.2)
    (fun s=>fm [(0,nat s.1),(1,nat s.2)]) (fun _=>[]) (a,b) ⟨rfl,ha,hb⟩ lfA rfl ?_
   rintro ⟨c,d⟩ ⟨hg',hc,hd⟩ K hK;simp only at hg' hc hd⊢;by_cases h0:d=0
   ·subst h0;rw [Nat.gcd_zero_right]at hg';rw [←hg'];have hl:(dgs 0).length=0:=by rw [aT];rfl
    exact Z1
   ·have hl:=bX h0;have hm:c%d<d:=Nat.mod_lt _ om;have hgg:Nat.gcd d (c%d)=Nat.gcd a b:=by rw [←hg',Nat.gcd_comm c d,Nat.gcd_rec d c,Nat.gcd_comm]
    have hlm:=aM (Nat.le_of_lt hm);repeat(refine A1 ⟨?_⟩;intros)
    refine Wc (fB c d h0 hc hd) ?_;repeat(refine A1 ⟨?_⟩;intros)
    exact hK _ _ (d,c%d) ⟨hgg,hd,by simp only;omega⟩ hm lfA rfl
def gO (d:Nat):List Nat:=if d=1 then []else dgs d
abbrev rq (x:Rat):SV:=ag [lit (.bool (decide (x.num<0))),nat x.num.natAbs,dg (gO x.den)]
theorem jP:gO 1=[]:=rfl
theorem vU {d:Nat}(h:d≠1):gO d=dgs d:=if_neg h
theorem n8 {d:Nat}(h:d≠0):(dgs d).length≠0:=by have:=bX h;omega
theorem cK (x:Rat):Pu Tryz.prog 49 [rq x] (nat x.den):=by
 by_cases h:x.den=1
 ·show Pu _ _ [ag [lit (.bool (decide (x.num<0))),nat x.num.natAbs,dg (gO x.den)]] _
  rw [h,jP];refine Pi Tryz.func49 fun C=>?_
  repeat(refine A1 ⟨?_⟩;intros)
  refine Wc zg ?_;exact Z1
 ·show Pu _ _ [ag [lit (.bool (decide (x.num<0))),nat x.num.natAbs,dg (gO x.den)]] _
  rw [vU h];have hl:=n8 x.den_nz;refine Pi Tryz.func49 fun C=>?_
  exact Z1
theorem gG (a:Int) (d:Nat) (ha:il a≤10000000) (hd:(dgs d).length≤10000000) (h0:d≠0):Pu Tryz.prog 47 [int a,nat d] (rq (mkRat a d)):=by
  have hmk:=Jj (decide (a<0)) a.natAbs h0;rw [eB]at hmk;obtain⟨e1,e2⟩:=hmk;have hg0:Nat.gcd a.natAbs d≠0:=fun h=>h0 (Nat.gcd_eq_zero_iff.1 h).2
  have gd2:=Nat.gcd_dvd_right a.natAbs d;have gl:=Nat.le_of_dvd (Nat.pos_of_ne_zero h0) gd2;have hgl:=aM gl;have l1:=aM (Nat.div_le_self a.natAbs (Nat.gcd a.natAbs d));have l2:=aM (Nat.div_le_self d (Nat.gcd a.natAbs d));have cm:=mJ a.natAbs d ha hd;have ha':(dgs a.natAbs).length≤10000000:=ha;generalize hx:mkRat a d=x at *;generalize hg:Nat.gcd a.natAbs d=g at *;have hlg:(dgs g).length≤10000000:=by omega
  have lden:(dgs x.den).length≤10000000:=by rw [e2];omega
  have ho:(dgs 1).length=1:=by rw [kt];rfl
  have cmp1:=nR g 1 om om;have cmp2:=nR x.den 1 om om;refine Pi Tryz.func47 fun C=>?_
  repeat(refine A1 ⟨?_⟩;intros)
  rename_i b2 b4;refine Wc cm ?_;repeat(refine A1 ⟨?_⟩;intros)
  refine Wc zg ?_;refine Wc cmp1 ?_;repeat(refine A1 ⟨?_⟩;intros)
  refine WP.via (fun F H => LeF F (fm [(1, nat x.den), (2, lit (.pointer (some ⟨b2, 0, none⟩))), (4, lit (.pointer (some ⟨b4, 0, none⟩)))]) ∧
        H=[(b4,30,[lit (.bool false),lit (.slice none 0 0),lit (.slice none 0 0)]),(b2,28,[lit (.bool (decide (x.num<0))),nat x.num.natAbs])]) ?_ ?_
  · refine WPd (fun h=>?_) (fun h=>?_)
    · rw [e1,e2]
      repeat(refine A1 ⟨?_⟩;intros)
      refine Wc (fB a.natAbs g hg0 ha' hlg) ?_;repeat(refine A1 ⟨?_⟩;intros)
      refine Wc (bA (decide (a<0)) (a.natAbs/g) om) ?_;repeat(refine A1 ⟨?_⟩;intros)
      refine Wc (fB d g hg0 hd hlg) ?_;repeat(refine A1 ⟨?_⟩;intros)
      exact⟨lfA,rfl⟩
    · have hg1:g=1:=by
        rcases Nat.lt_trichotomy g 1 with h'|h'|h'
        · omega
        · exact h'
        · rw [jd h']at h;exact absurd (by decide) h
      rw [hg1,Nat.div_one,eB]at e1;rw [hg1,Nat.div_one]at e2;rw [e1,e2];repeat(refine A1 ⟨?_⟩;intros)
      exact⟨lfA,rfl⟩
  · rintro F H ⟨hF,rfl⟩
    refine WP.le hF ?_;repeat(refine A1 ⟨?_⟩;intros)
    refine Wc zg ?_;refine Wc cmp2 ?_;by_cases h1:x.den=1
    · rw [show rq x=ag [lit (.bool (decide (x.num<0))),nat x.num.natAbs,dg []]from by rw [rq,h1,jP],h1,oE]
      repeat(refine A1 ⟨?_⟩;intros)
      refine aS (aJ (RV.cellA rfl List.mem_cons_self rfl rfl) (Le.ag ⟨Le.refl _,Le.refl _,eC,trivial⟩))
    · have hc:jR x.den 1=1:=jd (by have:=x.den_nz;omega)
      rw [show rq x=ag [lit (.bool (decide (x.num<0))),nat x.num.natAbs,nat x.den]from by rw [rq,vU h1],hc];exact Z2
theorem oW (z:Int):rq (z:Rat)=ag [lit (.bool (decide (z<0))),nat z.natAbs,dg []]:=by
 rw [rq,Rat.num_intCast,Rat.den_intCast,jP]
theorem oX (z:Int) (h0 : -9223372036854775808≤z) (h1:z≤9223372036854775807):Pu Tryz.prog 26 [lit (.int .i64 z)] (rq (z:Rat)):=by
 rw [oW];refine Pi Tryz.func26 fun C=>?_
 repeat(refine A1 ⟨?_⟩;intros)
 refine Wc (Al z h0 h1) ?_;repeat(refine A1 ⟨?_⟩;intros)
 refine aS (aJ (RV.cellA rfl List.mem_cons_self rfl rfl) (Le.ag ⟨Le.refl _,Le.refl _,eC,trivial⟩))
theorem kD (x:Rat) (h:ht x≤10000000):Pu Tryz.prog 7 [rq x] (lit (.int .i64 x.num.sign)):=by
 have b1:=bQ x;have hb:(dgs x.num.natAbs).length≤1000000000:=by have:il x.num=(dgs x.num.natAbs).length:=rfl;omega
 refine Pi Tryz.func7 fun C=>?_
 repeat(refine A1 ⟨?_⟩;intros)
 refine Wc (lp x.num hb) ?_;exact Z1
theorem iP (x:Rat) (h:ht x≤10000000):Pu Tryz.prog 15 [rq x] (rq (-x)):=by
 have b1:=bQ x;have hb:(dgs x.num.natAbs).length≤1000000000:=by have:il x.num=(dgs x.num.natAbs).length:=rfl;omega
 rw [show rq (-x)=ag [lit (.bool (decide (-x.num<0))),nat (-x.num).natAbs,dg (gO x.den)]from by rw [rq,Rat.neg_num,Rat.neg_den]];refine Pi Tryz.func15 fun C=>?_
 repeat(refine A1 ⟨?_⟩;intros)
 refine Wdc (io x.num hb) ?_;exact Z2
theorem oC {d:Nat}(h:d≠0):d≠1→(gO d).length≠0:=fun h1=>by rw [vU h1];exact n8 h
theorem lU {d:Nat}(h:d=1):(gO d).length=0:=by rw [h,jP];rfl
theorem qu (d:Nat):(gO d).length≤(dgs d).length:=by unfold gO;split <;> simp
theorem wo {x y:Rat}(h1:x.den=1) (h2:y.den=1):x*y=((x.num*y.num:Int):Rat):=by
 rw [Rat.mul_def',h1,h2,Nat.mul_one,Rat.mkRat_one]
theorem aX (x y:Rat) (hx:ht x≤3000000) (hy:ht y≤3000000):Pu Tryz.prog 17 [rq x,rq y] (rq (x*y)):=by
 have n1:=bQ x;have n2:=bQ y;have d1:=cB x;have d2:=cB y;have m1:=bG x.num y.num;have m2:=bW x.den y.den;have l1:=qu x.den;have l2:=qu y.den;have mi:=nP x.num y.num (show il x.num≤100000000 by omega) (show il y.num≤100000000 by omega);have fr:=gG (x.num*y.num) (x.den*y.den) om om (Nat.mul_ne_zero x.den_nz y.den_nz);by_cases hx1:x.den=1
 ·have k1:=lU hx1;by_cases hy1:y.den=1
  ·have k2:=lU hy1;rw [wo hx1 hy1,oW];refine Pi Tryz.func17 fun C=>?_
   repeat(refine A1 ⟨?_⟩;intros)
   refine Wc mi ?_;repeat(refine A1 ⟨?_⟩;intros)
   refine aS (aJ (RV.cellA rfl List.mem_cons_self rfl rfl) (Le.ag ⟨Le.refl _,Le.refl _,eC,trivial⟩))
  ·have k2:=oC y.den_nz hy1;rw [Rat.mul_def'];refine Pi Tryz.func17 fun C=>?_
   repeat(refine A1 ⟨?_⟩;intros)
   refine Wdc mi ?_;repeat(refine A1 ⟨?_⟩;intros)
   refine Wdc (cK x) ?_;repeat(refine A1 ⟨?_⟩;intros)
   refine Wdc (cK y) ?_;repeat(refine A1 ⟨?_⟩;intros)
   refine Wdc (ej x.den y.den om om) ?_;repeat(refine A1 ⟨?_⟩;intros)
   refine Wdc fr ?_;exact Z2
 ·have k1:=oC x.den_nz hx1;rw [Rat.mul_def'];refine Pi Tryz.func17 fun C=>?_
  repeat(refine A1 ⟨?_⟩;intros)
  refine Wdc mi ?_;repeat(refine A1 ⟨?_⟩;intros)
  refine Wdc (cK x) ?_;repeat(refine A1 ⟨?_⟩;intros)
  refine Wdc (cK y) ?_;repeat(refine A1 ⟨?_⟩;intros)
  refine Wdc (ej x.den y.den om om) ?_;repeat(refine A1 ⟨?_⟩;intros)
  refine Wdc fr ?_;exact Z2
theorem eK (x y:Rat) (hx:ht x≤3000000) (hy:ht y≤3000000):Pu Tryz.prog 72 [rq x,rq y] (rq (x+y)):=by
 have n1:=bQ x;have n2:=bQ y;have d1:=cB x;have d2:=cB y;have m1:=bG x.num y.den;have m2:=bG y.num x.den;have m3:=pm (x.num*y.den) (y.num*x.den);have m4:=bW x.den y.den;rw [mQ]at m1 m2;have l1:=qu x.den;have l2:=qu y.den;have mi1:=nP x.num y.den (show il x.num≤100000000 by omega) (show(dgs y.den).length≤100000000 by omega);have mi2:=nP y.num x.den (show il y.num≤100000000 by omega) (show(dgs x.den).length≤100000000 by omega);rw [←yp]at mi1 mi2;have ai:=re (x.num*y.den) (y.num*x.den) (show il _≤100000000 by omega) (show il _≤100000000 by omega);have aw:=re x.num y.num (show il _≤100000000 by omega) (show il _≤100000000 by omega);have fr:=gG (x.num*y.den+y.num*x.den) (x.den*y.den) om om (Nat.mul_ne_zero x.den_nz y.den_nz);by_cases hx1:x.den=1
 ·have k1:=lU hx1;by_cases hy1:y.den=1
  ·have k2:=lU hy1;rw [uo hx1 hy1,oW];refine Pi Tryz.func72 fun C=>?_
   repeat(refine A1 ⟨?_⟩;intros)
   refine Wc aw ?_;repeat(refine A1 ⟨?_⟩;intros)
   refine aS (aJ (RV.cellA rfl List.mem_cons_self rfl rfl) (Le.ag ⟨Le.refl _,Le.refl _,eC,trivial⟩))
  ·have k2:=oC y.den_nz hy1;rw [Rat.add_def'];refine Pi Tryz.func72 fun C=>?_
   repeat(refine A1 ⟨?_⟩;intros)
   refine Wdc (cK y) ?_;repeat(refine A1 ⟨?_⟩;intros)
   refine Wdc (bA false y.den om) ?_;repeat(refine A1 ⟨?_⟩;intros)
   refine Wdc mi1 ?_;repeat(refine A1 ⟨?_⟩;intros)
   refine Wdc (cK x) ?_;repeat(refine A1 ⟨?_⟩;intros)
   refine Wdc (bA false x.den om) ?_;repeat(refine A1 ⟨?_⟩;intros)
   refine Wdc mi2 ?_;repeat(refine A1 ⟨?_⟩;intros)
   refine Wdc ai ?_;repeat(refine A1 ⟨?_⟩;intros)
   refine Wdc (cK x) ?_;repeat(refine A1 ⟨?_⟩;intros)
   refine Wdc (cK y) ?_;repeat(refine A1 ⟨?_⟩;intros)
   refine Wdc (ej x.den y.den om om) ?_;repeat(refine A1 ⟨?_⟩;intros)
   refine Wdc fr ?_;exact Z2
 ·have k1:=oC x.den_nz hx1;rw [Rat.add_def'];refine Pi Tryz.func72 fun C=>?_
  repeat(refine A1 ⟨?_⟩;intros)
  refine Wdc (cK y) ?_;repeat(refine A1 ⟨?_⟩;intros)
  refine Wdc (bA false y.den om) ?_;repeat(refine A1 ⟨?_⟩;intros)
  refine Wdc mi1 ?_;repeat(refine A1 ⟨?_⟩;intros)
  refine Wdc (cK x) ?_;repeat(refine A1 ⟨?_⟩;intros)
  refine Wdc (bA false x.den om) ?_;repeat(refine A1 ⟨?_⟩;intros)
  refine Wdc mi2 ?_;repeat(refine A1 ⟨?_⟩;intros)
  refine Wdc ai ?_;repeat(refine A1 ⟨?_⟩;intros)
  refine Wdc (cK x) ?_;repeat(refine A1 ⟨?_⟩;intros)
  refine Wdc (cK y) ?_;repeat(refine A1 ⟨?_⟩;intros)
  refine Wdc (ej x.den y.den om om) ?_;repeat(refine A1 ⟨?_⟩;intros)
  refine Wdc fr ?_;exact Z2
theorem eh (x y:Rat) (hx:ht x≤3000000) (hy:ht y≤3000000):Pu Tryz.prog 30 [rq x,rq y] (rq (x-y)):=by
 rw [Rat.sub_eq_add_neg];refine Pi Tryz.func30 fun C=>?_
 repeat(refine A1 ⟨?_⟩;intros)
 refine Wdc (iP y om) ?_;repeat(refine A1 ⟨?_⟩;intros)
 refine Wdc (eK x (-y) hx (by rw [ck];exact hy)) ?_;exact Z2
theorem gT (x y:Rat) (hx:ht x≤3000000) (hy:ht y≤3000000):Pu Tryz.prog 16 [rq x,rq y] (lit (.int .i64 (x-y).num.sign)):=by
 have h:=cI x y;refine Pi Tryz.func16 fun C=>?_
 repeat(refine A1 ⟨?_⟩;intros)
 refine Wc (eh x y hx hy) ?_;repeat(refine A1 ⟨?_⟩;intros)
 refine Wc (kD (x-y) om) ?_;exact Z1
abbrev pp (x y:Rat):SV:=ag [lit (.int .i64 (r0 x)),lit (.int .i64 (r1 x)),r2 x,lit (.int .i64 (r0 y)),lit (.int .i64 (r1 y)),r2 y]
structure RQ where
 s:Bool
 n:List Nat
 d:List Nat
def RQ.v (r:RQ):Rat:=mkRat (sv r.s (val r.n)) (val r.d)
def RQ.ok (L:Nat) (r:RQ):Prop:=D r.n∧D r.d∧r.n.length≤L∧r.d.length≤L
abbrev qr (r:RQ):SV:=H8 r.s r.n r.d
abbrev pr (a b:RQ):SV:=ag [lit (.bool a.s),dg a.n,dg a.d,lit (.bool b.s),dg b.n,dg b.d]
abbrev pq (x y:Rat):SV:=ag [lit (.bool (decide (x.num<0))),nat x.num.natAbs,nat x.den,lit (.bool (decide (y.num<0))),nat y.num.natAbs,nat y.den]
def RQ.of (x:Rat):RQ:=⟨decide (x.num<0),dgs x.num.natAbs,dgs x.den⟩
theorem RQ.of_v (x:Rat):(RQ.of x).v=x:=by
 unfold RQ.v RQ.of;simp only [au,eB];exact Rat.mkRat_self x
theorem RQ.of_ok {x:Rat}{L:Nat}(h:ht x≤L):(RQ.of x).ok L :=
 ⟨aR _,aR _,Nat.le_trans (bQ x) h,Nat.le_trans (cB x) h⟩
theorem Jl {s:Bool}{xs:List Nat}(h:D xs):il (sv s (val xs))≤xs.length:=by unfold il;rw [gb];exact gN h
theorem sO {r:RQ}{L:Nat}(h:r.ok L):ht r.v≤L+1:=by
 obtain⟨h1,h2,h3,h4⟩:=h;have:=rX (sv r.s (val r.n)) (val r.d);have a1:=Jl (s:=r.s) h1;have a2:=gN h2;unfold RQ.v;omega
theorem pQ {r:RQ}{L:Nat}(h:r.ok L) (hL:L≤1000000):Pu Tryz.prog 115 [qr r] (fr r.v) :=
 Kf r.s r.n r.d (by have:=h.2.2.1;omega) (by have:=h.2.2.2;omega) h.1 h.2.1
theorem Aw {a b:RQ}{L:Nat}(ha:a.ok L) (hb:b.ok L) (hL:L≤1000000):Pu Tryz.prog 59 [pr a b] (pp a.v b.v):=by
 refine Pi Tryz.func59 fun C=>?_
 repeat(refine A1 ⟨?_⟩;intros)
 refine Wdc (pQ ha hL) ?_;repeat(refine A1 ⟨?_⟩;intros)
 refine Wdc (pQ hb hL) ?_;exact Z2
theorem uY (x y:Rat) (hx:ht x≤1000000) (hy:ht y≤1000000):Pu Tryz.prog 55 [pp x y] (pq x y):=by
 refine Pi Tryz.func55 fun C=>?_
 repeat(refine A1 ⟨?_⟩;intros)
 refine Wdc (jr x om) ?_;repeat(refine A1 ⟨?_⟩;intros)
 refine Wdc (jr y om) ?_;exact Z2
theorem nV (x y u v:Rat) (hx:ht x≤1000000) (hy:ht y≤1000000) (hu:ht u≤1000000) (hv:ht v≤1000000):Pu Tryz.prog 109 [pp x y,pp u v] (pp (x+u) (y+v)):=by
 refine Pi Tryz.func109 fun C=>?_
 repeat(refine A1 ⟨?_⟩;intros)
 refine Wdc (iR x u om om) ?_;repeat(refine A1 ⟨?_⟩;intros)
 refine Wdc (iR y v om om) ?_;exact Z2
theorem eR (x y u:Rat) (hx:ht x≤1000000) (hy:ht y≤1000000) (hu:ht u≤1000000):Pu Tryz.prog 53 [pp x y,fr u] (pp (x*u) (y*u)):=by
 refine Pi Tryz.func53 fun C=>?_
 repeat(refine A1 ⟨?_⟩;intros)
 refine Wdc (dY x u om om) ?_;repeat(refine A1 ⟨?_⟩;intros)
 refine Wdc (dY y u om om) ?_;exact Z2
theorem jD (x y u v:Rat) (hx:ht x≤1000000) (hy:ht y≤1000000) (hu:ht u≤1000000) (hv:ht v≤1000000):Pu Tryz.prog 134 [pp x y,pp u v] (fr (x*v-y*u)):=by
 have h1:=ae x v;have h2:=ae y u;refine Pi Tryz.func134 fun C=>?_
 repeat(refine A1 ⟨?_⟩;intros)
 refine Wdc (dY x v om om) ?_;repeat(refine A1 ⟨?_⟩;intros)
 refine Wdc (dY y u om om) ?_;repeat(refine A1 ⟨?_⟩;intros)
 refine Wdc (nN (x*v) (y*u) om om) ?_;exact Z2
structure M6 (α:Type) where
 a:α
 b:α
 c:α
 d:α
 e:α
 f:α
abbrev mf (m:M6 Rat):SV:=ag [lit (.int .i64 (r0 m.a)),lit (.int .i64 (r1 m.a)),r2 m.a,lit (.int .i64 (r0 m.d)),lit (.int .i64 (r1 m.d)),r2 m.d,
 lit (.int .i64 (r0 m.b)),lit (.int .i64 (r1 m.b)),r2 m.b,lit (.int .i64 (r0 m.e)),lit (.int .i64 (r1 m.e)),r2 m.e,
 lit (.int .i64 (r0 m.c)),lit (.int .i64 (r1 m.c)),r2 m.c,lit (.int .i64 (r0 m.f)),lit (.int .i64 (r1 m.f)),r2 m.f]
abbrev mr (m:M6 RQ):SV:=ag [lit (.bool m.a.s),dg m.a.n,dg m.a.d,lit (.bool m.b.s),dg m.b.n,dg m.b.d,lit (.bool m.c.s),dg m.c.n,dg m.c.d,
 lit (.bool m.d.s),dg m.d.n,dg m.d.d,lit (.bool m.e.s),dg m.e.n,dg m.e.d,lit (.bool m.f.s),dg m.f.n,dg m.f.d]
abbrev mq (m:M6 Rat):SV:=ag [lit (.bool (decide (m.a.num<0))),nat m.a.num.natAbs,nat m.a.den,lit (.bool (decide (m.b.num<0))),nat m.b.num.natAbs,nat m.b.den,lit (.bool (decide (m.c.num<0))),nat m.c.num.natAbs,nat m.c.den,
 lit (.bool (decide (m.d.num<0))),nat m.d.num.natAbs,nat m.d.den,lit (.bool (decide (m.e.num<0))),nat m.e.num.natAbs,nat m.e.den,lit (.bool (decide (m.f.num<0))),nat m.f.num.natAbs,nat m.f.den]
structure M6.ok (L:Nat) (m:M6 RQ):Prop where
 a:m.a.ok L
 b:m.b.ok L
 c:m.c.ok L
 d:m.d.ok L
 e:m.e.ok L
 f:m.f.ok L
structure M6.le (L:Nat) (m:M6 Rat):Prop where
 a:ht m.a≤L
 b:ht m.b≤L
 c:ht m.c≤L
 d:ht m.d≤L
 e:ht m.e≤L
 f:ht m.f≤L
def M6.v (m:M6 RQ):M6 Rat:=⟨m.a.v,m.b.v,m.c.v,m.d.v,m.e.v,m.f.v⟩
theorem M6.v_le {m:M6 RQ}{L:Nat}(h:m.ok L):m.v.le (L+1):=⟨sO h.a,sO h.b,sO h.c,sO h.d,sO h.e,sO h.f⟩
theorem zW {m:M6 RQ}{L:Nat}(h:m.ok L) (hL:L≤1000000):Pu Tryz.prog 57 [mr m] (mf m.v):=by
 refine Pi Tryz.func57 fun C=>?_
 repeat(refine A1 ⟨?_⟩;intros)
 refine Wdc (pQ h.a hL) ?_;repeat(refine A1 ⟨?_⟩;intros)
 refine Wdc (pQ h.d hL) ?_;repeat(refine A1 ⟨?_⟩;intros)
 refine Wdc (pQ h.b hL) ?_;repeat(refine A1 ⟨?_⟩;intros)
 refine Wdc (pQ h.e hL) ?_;repeat(refine A1 ⟨?_⟩;intros)
 refine Wdc (pQ h.c hL) ?_;repeat(refine A1 ⟨?_⟩;intros)
 refine Wdc (pQ h.f hL) ?_;exact Z2
theorem Dc {m:M6 Rat}{L:Nat}(h:m.le L) (hL:L≤1000000):Pu Tryz.prog 74 [mf m] (mq m):=by
 obtain⟨ha,hb,hc,hd,he,hf⟩:=h;refine Pi Tryz.func74 fun C=>?_
 repeat(refine A1 ⟨?_⟩;intros)
 refine Wdc (jr m.a om) ?_;repeat(refine A1 ⟨?_⟩;intros)
 refine Wdc (jr m.b om) ?_;repeat(refine A1 ⟨?_⟩;intros)
 refine Wdc (jr m.c om) ?_;repeat(refine A1 ⟨?_⟩;intros)
 refine Wdc (jr m.d om) ?_;repeat(refine A1 ⟨?_⟩;intros)
 refine Wdc (jr m.e om) ?_;repeat(refine A1 ⟨?_⟩;intros)
 refine Wdc (jr m.f om) ?_;exact Z2
theorem qA {m:M6 Rat}{L:Nat}(h:m.le L) (hL:L≤1000000):Pu Tryz.prog 75 [mf m] (fr (m.a*m.e-m.d*m.b)):=by
 obtain⟨ha,hb,hc,hd,he,hf⟩:=h;refine Pi Tryz.func75 fun C=>?_
 repeat(refine A1 ⟨?_⟩;intros)
 refine Wc (jD m.a m.d m.b m.e om om om om) ?_;exact Z2
theorem sE {m:M6 Rat}{L:Nat}(h:m.le L) (hL:L≤100000) (x y:Rat) (hx:ht x≤L) (hy:ht y≤L):Pu Tryz.prog 116 [mf m,pp x y] (pp (m.a*x+m.b*y) (m.d*x+m.e*y)):=by
 obtain⟨ha,hb,hc,hd,he,hf⟩:=h;have h1:=ae m.a x;have h2:=ae m.b y;have h3:=ae m.d x;have h4:=ae m.e y;refine Pi Tryz.func116 fun C=>?_
 repeat(refine A1 ⟨?_⟩;intros)
 refine Wdc (eR m.a m.d x om om om) ?_;repeat(refine A1 ⟨?_⟩;intros)
 refine Wdc (eR m.b m.e y om om om) ?_;repeat(refine A1 ⟨?_⟩;intros)
 refine Wdc (nV (m.a*x) (m.d*x) (m.b*y) (m.e*y) om om om om) ?_;exact Z2
theorem ur {m:M6 Rat}{L:Nat}(h:m.le L) (hL:L≤100000) (x y:Rat) (hx:ht x≤L) (hy:ht y≤L):Pu Tryz.prog 58 [mf m,pp x y] (pp (m.a*x+m.b*y+m.c) (m.d*x+m.e*y+m.f)):=by
 have hv:=sE h hL x y hx hy;obtain⟨ha,hb,hc,hd,he,hf⟩:=h;have h1:=ae m.a x;have h2:=ae m.b y;have h3:=ae m.d x;have h4:=ae m.e y;have h5:=aI (m.a*x) (m.b*y);have h6:=aI (m.d*x) (m.e*y);refine Pi Tryz.func58 fun C=>?_
 repeat(refine A1 ⟨?_⟩;intros)
 refine Wdc hv ?_;repeat(refine A1 ⟨?_⟩;intros)
 refine Wdc (nV (m.a*x+m.b*y) (m.d*x+m.e*y) m.c m.f om om om om) ?_;exact Z2
theorem J4 {m:M6 RQ}{L:Nat}(h:m.ok L) (hL:L≤10000):Pu Tryz.prog 33 [mr m] (q (m.v.a*m.v.e-m.v.d*m.v.b)):=by
 have hd:=qA (M6.v_le h) om;obtain⟨ha,hb,hc,hd,he,hf⟩:=M6.v_le h;have h1:=ae m.v.a m.v.e;have h2:=ae m.v.d m.v.b;have h3:=cI (m.v.a*m.v.e) (m.v.d*m.v.b);refine Pi Tryz.func33 fun C=>?_
 repeat(refine A1 ⟨?_⟩;intros)
 refine Wc (zW h om) ?_;repeat(refine A1 ⟨?_⟩;intros)
 refine Wc (qA (M6.v_le h) om) ?_;repeat(refine A1 ⟨?_⟩;intros)
 refine Wc (jr (m.v.a*m.v.e-m.v.d*m.v.b) om) ?_;exact Z2
theorem Di {m:M6 RQ}{L:Nat}(h:m.ok L) (hL:L≤10000){x y:RQ}(hx:x.ok L) (hy:y.ok L):Pu Tryz.prog 21 [mr m,pr x y] (pq (m.v.a*x.v+m.v.b*y.v+m.v.c) (m.v.d*x.v+m.v.e*y.v+m.v.f)):=by
 have hap:=ur (M6.v_le h) om x.v y.v (sO hx) (sO hy);have kx:=sO hx;have ky:=sO hy;obtain⟨ha,hb,hc,hd,he,hf⟩:=M6.v_le h;have h1:=ae m.v.a x.v;have h2:=ae m.v.b y.v;have h3:=ae m.v.d x.v;have h4:=ae m.v.e y.v;have h5:=aI (m.v.a*x.v) (m.v.b*y.v);have h6:=aI (m.v.d*x.v) (m.v.e*y.v);have h7:=aI (m.v.a*x.v+m.v.b*y.v) m.v.c;have h8:=aI (m.v.d*x.v+m.v.e*y.v) m.v.f;refine Pi Tryz.func21 fun C=>?_
 repeat(refine A1 ⟨?_⟩;intros)
 refine Wdc (zW h om) ?_;repeat(refine A1 ⟨?_⟩;intros)
 refine Wdc (Aw hx hy om) ?_;repeat(refine A1 ⟨?_⟩;intros)
 refine Wdc hap ?_;repeat(refine A1 ⟨?_⟩;intros)
 refine Wdc (uY (m.v.a*x.v+m.v.b*y.v+m.v.c) (m.v.d*x.v+m.v.e*y.v+m.v.f) om om) ?_;exact Z2
theorem AY {p:Prop} [Decidable p] (h:¬p):Le (lit (.bool false)) (lit (.bool (decide p))):=by rw [decide_eq_false h];exact Le.refl _
theorem Ir {p:Prop} [Decidable p] (h:p):Le (lit (.bool true)) (lit (.bool (decide p))):=by rw [decide_eq_true h];exact Le.refl _
theorem cF (xs ys:List Nat) (hx:xs.length≤1000000000) (hy:ys.length≤1000000000):Pu Tryz.prog 114 [dg xs,dg ys] (lit (.bool (decide (xs=ys)))):=by
 by_cases hl:xs.length=ys.length
 ·refine Pi Tryz.func114 fun C=>?_
  repeat(refine A1 ⟨?_⟩;intros)
  refine WP.loop (ι:=Nat) (fun k=>k≤xs.length∧xs.take k=ys.take k) (fun k=>xs.length-k) (fun k=>fm [(0,dg xs),(1,dg ys),(11,dg xs),(12,lit (.int .i64 xs.length)),(13,lit (.int .i64 k))]) (fun _=>[]) 0
   ⟨Nat.zero_le _,rfl⟩ lfA rfl ?_
  rintro k ⟨hk,he⟩ K hK;by_cases hkl:k<xs.length
  ·by_cases hd:xs.getD k 0=ys.getD k 0
   ·repeat(refine A1 ⟨?_⟩;intros)
    exact hK _ _ (k+1) ⟨om,by rw [bk xs k hkl,bk ys k om,he,hd]⟩ om lfA rfl
   ·repeat(refine A1 ⟨?_⟩;intros)
    exact aS (aJ (RV.tmp rfl) (AY fun e=>hd (by rw [e])))
  ·have hke:k=xs.length:=by omega
   subst hke;rw [List.take_length,hl,List.take_length]at he;repeat(refine A1 ⟨?_⟩;intros)
   exact aS (aJ (RV.tmp rfl) (Ir he))
 ·refine Pi Tryz.func114 fun C=>?_
  repeat(refine A1 ⟨?_⟩;intros)
  exact aS (aJ (RV.tmp rfl) (AY fun e=>hl (by rw [e])))
theorem kH (xs:List Nat) (h:xs.length≤1000000000):Pu Tryz.prog 77 [dg xs] (dg xs):=by
 refine Pi Tryz.func77 fun C=>?_
 exact Z1
theorem Cs (xs:List Nat) (h:xs.length≤1000000000) (hD:D xs):Pu Tryz.prog 50 [dg xs] (nat (val xs)):=by
 refine Pi Tryz.func50 fun C=>?_
 repeat(first|(refine A1 ⟨?_⟩;intros)|(refine Wcx (cS _ h hD) ?_)|(refine gQ (cS _ h hD) ?_)|(refine dH (cS _ h hD) ?_)|(refine cZ (cS _ h hD) ?_))
 exact E1
theorem Iy (s:Bool) (xs:List Nat) (h:xs.length≤1000000000) (hD:D xs):Pu Tryz.prog 51 [raw s xs] (int (sv s (val xs))):=by
 have hl:=gN hD;refine Pi Tryz.func51 fun C=>?_
 repeat(first|(refine A1 ⟨?_⟩;intros)|(refine Wcx (Cs _ h hD) ?_)|(refine gQ (Cs _ h hD) ?_)|(refine dH (Cs _ h hD) ?_)|(refine cZ (Cs _ h hD) ?_)|(refine Wcx (bA _ _ om) ?_)|(refine gQ (bA _ _ om) ?_)|(refine dH (bA _ _ om) ?_)|(refine cZ (bA _ _ om) ?_))
 exact G1
theorem mD (z:Int) (h:il z≤1000000000):Pu Tryz.prog 76 [int z] (int z):=by
 have h':(dgs z.natAbs).length≤1000000000:=h;refine Pi Tryz.func76 fun C=>?_
 repeat(first|(refine A1 ⟨?_⟩;intros)|(refine Wcx (kH _ h') ?_)|(refine gQ (kH _ h') ?_)|(refine dH (kH _ h') ?_)|(refine cZ (kH _ h') ?_))
 exact G1
theorem DU (s t:Bool) (xs ys:List Nat) (hx:xs.length≤1000000000) (hy:ys.length≤1000000000):Pu Tryz.prog 113 [raw s xs,raw t ys] (lit (.bool (decide (s=t∧xs=ys)))):=by
 cases s <;> cases t
 ·refine Pi Tryz.func113 fun C=>?_
  repeat(first|(refine A1 ⟨?_⟩;intros)|(refine Wcx (cF _ _ hx hy) ?_)|(refine gQ (cF _ _ hx hy) ?_)|(refine dH (cF _ _ hx hy) ?_)|(refine cZ (cF _ _ hx hy) ?_))
  refine aS (aJ (RV.tmp rfl) (Le.bool ?_));simp
 ·refine Pi Tryz.func113 fun C=>?_
  repeat(first|(refine A1 ⟨?_⟩;intros)|(refine Wcx (cF _ _ hx hy) ?_)|(refine gQ (cF _ _ hx hy) ?_)|(refine dH (cF _ _ hx hy) ?_)|(refine cZ (cF _ _ hx hy) ?_))
  refine aS (aJ (RV.tmp rfl) (Le.bool ?_));simp
 ·refine Pi Tryz.func113 fun C=>?_
  repeat(first|(refine A1 ⟨?_⟩;intros)|(refine Wcx (cF _ _ hx hy) ?_)|(refine gQ (cF _ _ hx hy) ?_)|(refine dH (cF _ _ hx hy) ?_)|(refine cZ (cF _ _ hx hy) ?_))
  refine aS (aJ (RV.tmp rfl) (Le.bool ?_));simp
 ·refine Pi Tryz.func113 fun C=>?_
  repeat(first|(refine A1 ⟨?_⟩;intros)|(refine Wcx (cF _ _ hx hy) ?_)|(refine gQ (cF _ _ hx hy) ?_)|(refine dH (cF _ _ hx hy) ?_)|(refine cZ (cF _ _ hx hy) ?_))
  refine aS (aJ (RV.tmp rfl) (Le.bool ?_));simp
theorem AW {p:Prop} [Decidable p] (h:p):lit (.bool (decide p))=lit (.bool true):=by rw [decide_eq_true h]
theorem qc (xs:List Nat) (hx:xs.length≤1000000000):Pu Tryz.prog 114 [dg xs,dg xs] (lit (.bool true)):=AW (p:=xs=xs) rfl▸cF xs xs hx hx
theorem qd (s:Bool) (xs:List Nat) (hx:xs.length≤1000000000):Pu Tryz.prog 113 [raw s xs,raw s xs] (lit (.bool true)):=AW (p:=s=s∧xs=xs) ⟨rfl,rfl⟩▸DU s s xs xs hx hx
theorem GT (s:Bool) (xs ys:List Nat) (hx:xs.length≤1000000000) (hy:ys.length≤1000000000):Pu Tryz.prog 56 [H8 s xs ys,H8 s xs ys] (lit (.bool true)):=by
 refine Pi Tryz.func56 fun C=>?_
 repeat(first|(refine A1 ⟨?_⟩;intros)|(refine Wcx (qc _ hy) ?_)|(refine gQ (qc _ hy) ?_)|(refine dH (qc _ hy) ?_)|(refine cZ (qc _ hy) ?_)|(refine Wcx (qd _ _ hx) ?_)|(refine gQ (qd _ _ hx) ?_)|(refine dH (qd _ _ hx) ?_)|(refine cZ (qd _ _ hx) ?_))
 exact E1
theorem gF (x:Rat) (h:ht x≤1000000000):Pu Tryz.prog 56 [q x,q x] (lit (.bool true)):=by
 have h1:=bQ x;have h2:=cB x;exact GT _ _ _ (by have:il x.num=(dgs x.num.natAbs).length:=rfl;omega) om
theorem fJ (x:Rat) (h:ht x≤100000000):Pu Tryz.prog 34 [rq x] (q x):=by
 have h1:=bQ x;have h2:=cB x;refine Pi Tryz.func34 fun C=>?_
 repeat(first|(refine A1 ⟨?_⟩;intros)|(refine Wcx (mD _ om) ?_)|(refine gQ (mD _ om) ?_)|(refine dH (mD _ om) ?_)|(refine cZ (mD _ om) ?_)|refine W4 (cK x) ⟨?_⟩|(refine Wcx (kH _ om) ?_)|(refine gQ (kH _ om) ?_)|(refine dH (kH _ om) ?_)|(refine cZ (kH _ om) ?_))
 exact G1
theorem GX:rq 0=ag [lit (.bool false),nat 0,dg []]:=by rw [rq,show(0:Rat).num=0 from rfl,show(0:Rat).den=1 from rfl,jP];rfl
theorem H9 {r:RQ}{L:Nat}(h:r.ok L) (hL:L≤1000000):Pu Tryz.prog 18 [qr r] (rq r.v):=by
 obtain⟨h1,h2,h3,h4⟩:=h;have hl:=gN h2;have hi:=Jl (s:=r.s) h1;by_cases h0:val r.d=0
 ·have hv:r.v=0:=by unfold RQ.v;rw [h0];exact Rat.mkRat_zero _
  rw [hv,GX];have hn:=Cs r.d om h2;rw [h0]at hn;have hl0:(dgs 0).length=0:=by rw [aT];rfl
  refine Pi Tryz.func18 fun C=>?_
  repeat(first|(refine A1 ⟨?_⟩;intros)|refine W4 hn ⟨?_⟩)
  refine aS (aJ (RV.cellA rfl List.mem_cons_self rfl rfl) (Le.ag ⟨Le.refl _,?_,eC,trivial⟩));rw [show nat 0=dg []from by show dg (dgs 0)=_;rw [aT]];exact eC
 ·have hp:=bX h0;refine Pi Tryz.func18 fun C=>?_
  repeat(first|(refine A1 ⟨?_⟩;intros)|refine W4 (Cs r.d om h2) ⟨?_⟩|(refine Wcx (Iy _ _ om h1) ?_)|(refine gQ (Iy _ _ om h1) ?_)|(refine dH (Iy _ _ om h1) ?_)|(refine cZ (Iy _ _ om h1) ?_)|(refine Wcx (gG _ _ om om h0) ?_)|(refine gQ (gG _ _ om om h0) ?_)|(refine dH (gG _ _ om om h0) ?_)|(refine cZ (gG _ _ om om h0) ?_))
  exact G1
abbrev rp (x y:Rat):SV:=ag [lit (.bool (decide (x.num<0))),nat x.num.natAbs,dg (gO x.den),lit (.bool (decide (y.num<0))),nat y.num.natAbs,dg (gO y.den)]
theorem uD (x y:Rat) (hx:ht x≤100000000) (hy:ht y≤100000000):Pu Tryz.prog 23 [rp x y] (pq x y):=by
 refine Pi Tryz.func23 fun C=>?_
 repeat(first|(refine A1 ⟨?_⟩;intros)|(refine Wcx (fJ _ hx) ?_)|(refine gQ (fJ _ hx) ?_)|(refine dH (fJ _ hx) ?_)|(refine cZ (fJ _ hx) ?_)|(refine Wcx (fJ _ hy) ?_)|(refine gQ (fJ _ hy) ?_)|(refine dH (fJ _ hy) ?_)|(refine cZ (fJ _ hy) ?_))
 exact G1
theorem L5 {a b:RQ}{L:Nat}(ha:a.ok L) (hb:b.ok L) (hL:L≤1000000):Pu Tryz.prog 201 [pr a b] (rp a.v b.v):=by
 refine Pi Tryz.func201 fun C=>?_
 exact X2 (H9 ha hL) (H9 hb hL)
theorem wA (x y:Rat) (hx:ht x≤100000000) (hy:ht y≤100000000):Pu Tryz.prog 20 [pq x y,pq x y] (lit (.bool true)):=by
 refine Pi Tryz.func20 fun C=>?_
 repeat(first|(refine A1 ⟨?_⟩;intros)|(refine Wcx (gF _ (Nat.le_trans hx om)) ?_)|(refine gQ (gF _ (Nat.le_trans hx om)) ?_)|(refine dH (gF _ (Nat.le_trans hx om)) ?_)|(refine cZ (gF _ (Nat.le_trans hx om)) ?_)|(refine Wcx (gF _ (Nat.le_trans hy om)) ?_)|(refine gQ (gF _ (Nat.le_trans hy om)) ?_)|(refine dH (gF _ (Nat.le_trans hy om)) ?_)|(refine cZ (gF _ (Nat.le_trans hy om)) ?_))
 exact E1
theorem kC (a b:Int) (ha : -9223372036854775808≤a) (ha':a≤9223372036854775807) (hb : -9223372036854775808≤b) (hb':b≤9223372036854775807):Pu Tryz.prog 32 [lit (.int .i64 a),lit (.int .i64 b)] (rp (a:Rat) (b:Rat)):=by
 refine Pi Tryz.func32 fun C=>?_
 exact X2 (oX a ha ha') (oX b hb hb')
theorem ot (x y k u v:Rat) (hx:ht x≤1000000) (hy:ht y≤1000000) (hk:ht k≤1000000) (hu:ht u≤1000000) (hv:ht v≤1000000):Pu Tryz.prog 119 [rp x y,rq k,rp u v] (rp (x+k*u) (y+k*v)):=by
 have h1:=ae k u;have h2:=ae k v;refine Pi Tryz.func119 fun C=>?_
 repeat(first|(refine A1 ⟨?_⟩;intros)|refine W4 (aX k u om om) ⟨?_⟩|refine W4 (eK x (k*u) om om) ⟨?_⟩|refine W4 (aX k v om om) ⟨?_⟩|refine W4 (eK y (k*v) om om) ⟨?_⟩)
 exact G1
abbrev rm (m:M6 Rat):SV:=ag [lit (.bool (decide (m.a.num<0))),nat m.a.num.natAbs,dg (gO m.a.den),lit (.bool (decide (m.b.num<0))),nat m.b.num.natAbs,dg (gO m.b.den),lit (.bool (decide (m.c.num<0))),nat m.c.num.natAbs,dg (gO m.c.den),
 lit (.bool (decide (m.d.num<0))),nat m.d.num.natAbs,dg (gO m.d.den),lit (.bool (decide (m.e.num<0))),nat m.e.num.natAbs,dg (gO m.e.den),lit (.bool (decide (m.f.num<0))),nat m.f.num.natAbs,dg (gO m.f.den)]
theorem BA {m:M6 Rat}{L:Nat}(h:m.le L) (hL:L≤1000000):Pu Tryz.prog 10 [rm m] (mq m):=by
 obtain⟨ha,hb,hc,hd,he,hf⟩:=h;refine Pi Tryz.func10 fun C=>?_
 repeat(first|(refine A1 ⟨?_⟩;intros)|refine W4 (fJ m.a om) ⟨?_⟩|refine W4 (fJ m.b om) ⟨?_⟩|refine W4 (fJ m.c om) ⟨?_⟩|refine W4 (fJ m.d om) ⟨?_⟩|refine W4 (fJ m.e om) ⟨?_⟩|refine W4 (fJ m.f om) ⟨?_⟩)
 exact G1
theorem Ig {m:M6 Rat}{L:Nat}(h:m.le L) (hL:L≤1000000):Pu Tryz.prog 8 [rm m] (rq (m.a*m.e-m.b*m.d)):=by
 obtain⟨ha,hb,hc,hd,he,hf⟩:=h;have h1:=ae m.a m.e;have h2:=ae m.b m.d;refine Pi Tryz.func8 fun C=>?_
 repeat(first|(refine A1 ⟨?_⟩;intros)|refine W4 (aX m.a m.e om om) ⟨?_⟩|refine W4 (aX m.b m.d om om) ⟨?_⟩|(refine Wcx (eh _ _ om om) ?_)|(refine gQ (eh _ _ om om) ?_)|(refine dH (eh _ _ om om) ?_)|(refine cZ (eh _ _ om om) ?_))
 exact G1
theorem fD:ht 1=1:=by
 unfold ht;rw [show(1:Rat).num=1 from rfl,show(1:Rat).den=1 from rfl];unfold il;rw [show(1:Int).natAbs=1 from rfl,kt];rfl
theorem mn:Pu Tryz.prog 26 [lit (.int .i64 1)] (rq 1):=oX 1 om om
def RQ.short (n:Nat) (r:RQ):Prop:=r.n.length≤n∧r.d.length≤n
instance (n:Nat) (r:RQ):Decidable (r.short n):=by unfold RQ.short;infer_instance
theorem dM {α:Type}{l:List α}{k:Nat}{a:α}(h:l[k]? = some a):l.take (k+1)=l.take k++[a]:=by
 obtain⟨h1,h2⟩:=List.getElem?_eq_some_iff.1 h;rw [List.take_succ_eq_append_getElem h1,h2]
abbrev p8 (p:RQ×RQ):List SV:=[lit (.bool p.1.s),dg p.1.n,dg p.1.d,lit (.bool p.2.s),dg p.2.n,dg p.2.d]
theorem rh (p:RQ×RQ):(p8 p).length=6:=rfl
end Go.Ab
