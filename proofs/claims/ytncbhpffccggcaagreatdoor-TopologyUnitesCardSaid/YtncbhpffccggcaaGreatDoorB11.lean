/- Texts laid one behind the other: RefE, RefF, Geo, Ref1, Ref4, Scene1, Law26A, RefH, AffB, LnM. -/
import Derived.Test.YtncbhpffccggcaaGreatDoorRefL
set_option linter.all false
set_option maxHeartbeats 16000000
namespace Go.Ab
open Go.Proofs
variable [Base]
theorem m9 (a b:Nat) (ha:(dgs a).length≤10000000) (hb:(dgs b).length≤10000000):Pu Tryz.prog 147 [nat a,nat b] (nat (Nat.gcd a b)):=by
 have w1:=mS a om;have w2:=mS b om;by_cases hs:(dgs a).length≤2∧(dgs b).length≤2
 ·rw [if_pos hs.1]at w1;rw [if_pos hs.2]at w2;have la:=pZ hs.1;have lb:=pZ hs.2;refine Pi Tryz.func147 fun C=>?_
  repeat(refine A1 ⟨?_⟩;intros)
  refine Wc w1 ?_;repeat(refine A1 ⟨?_⟩;intros)
  refine Wc w2 ?_;repeat(refine A1 ⟨?_⟩;intros)
  refine WP.loop (ι:=Nat×Nat) (fun s=>Nat.gcd s.1 s.2=Nat.gcd a b∧s.1<18446744073709551616∧s.2<18446744073709551616) (fun s=>s.2)
   (fun s=>fm [(5,lit (.int .u64 s.1)),(7,lit (.int .u64 s.2))]) (fun _=>[]) (a,b) ⟨rfl,la,lb⟩ lfA rfl ?_
  rintro ⟨c,d⟩ ⟨hg',hc,hd⟩ K hK;simp only at hg' hc hd⊢;by_cases h0:d=0
  ·subst h0;rw [Nat.gcd_zero_right]at hg';rw [←hg'];repeat(refine A1 ⟨?_⟩;intros)
   refine Wc (iI c hc) ?_;exact Z1
  ·have hm:c%d<d:=Nat.mod_lt _ om;have hgg:Nat.gcd d (c%d)=Nat.gcd a b:=by rw [←hg',Nat.gcd_comm c d,Nat.gcd_rec d c,Nat.gcd_comm]
   repeat(refine A1 ⟨?_⟩;intros)
   exact hK _ _ (d,c%d) ⟨hgg,hd,by simp only;omega⟩ hm lfA rfl
 ·have h12:(dgs a).length≤2→¬(dgs b).length≤2:=fun x y=>hs ⟨x,y⟩
  clear hs;by_cases la:(dgs a).length≤2
  ·have lb:=h12 la;clear h12;rw [if_pos la]at w1;rw [if_neg lb]at w2;refine Pi Tryz.func147 fun C=>?_
   repeat(refine A1 ⟨?_⟩;intros)
   refine Wc w1 ?_;repeat(refine A1 ⟨?_⟩;intros)
   refine Wc w2 ?_;repeat(refine A1 ⟨?_⟩;intros)
   refine WP.loop (ι:=Nat×Nat) (fun s=>Nat.gcd s.1 s.2=Nat.gcd a b∧(dgs s.1).length≤10000000∧(dgs s.2).length≤10000000) (fun s=>s.2)
    (fun s=>fm [(0,nat s.1),(1,nat s.2)]) (fun _=>[]) (a,b) ⟨rfl,ha,hb⟩ lfA rfl ?_
   rintro ⟨c,d⟩ ⟨hg',hc,hd⟩ K hK;simp only at hg' hc hd⊢;by_cases h0:d=0
   ·subst h0;rw [Nat.gcd_zero_right]at hg';rw [←hg'];have hl:(dgs 0).length=0:=by rw [aO];rfl
    exact Z1
   ·have hl:=bV h0;have hm:c%d<d:=Nat.mod_lt _ om;have hgg:Nat.gcd d (c%d)=Nat.gcd a b:=by rw [←hg',Nat.gcd_comm c d,Nat.gcd_rec d c,Nat.gcd_comm]
    have hlm:=aM (Nat.le_of_lt hm);repeat(refine A1 ⟨?_⟩;intros)
    refine Wc (fu c d h0 hc hd) ?_;repeat(refine A1 ⟨?_⟩;intros)
    exact hK _ _ (d,c%d) ⟨hgg,hd,by simp only;omega⟩ hm lfA rfl
  ·clear h12;rw [if_neg la]at w1;refine Pi Tryz.func147 fun C=>?_
   repeat(refine A1 ⟨?_⟩;intros)
   refine Wc w1 ?_;repeat(refine A1 ⟨?_⟩;intros)
   refine WP.loop (ι:=Nat×Nat) (fun s=>Nat.gcd s.1 s.2=Nat.gcd a b∧(dgs s.1).length≤10000000∧(dgs s.2).length≤10000000) (fun s=>s.2)
    (fun s=>fm [(0,nat s.1),(1,nat s.2)]) (fun _=>[]) (a,b) ⟨rfl,ha,hb⟩ lfA rfl ?_
   rintro ⟨c,d⟩ ⟨hg',hc,hd⟩ K hK;simp only at hg' hc hd⊢;by_cases h0:d=0
   ·subst h0;rw [Nat.gcd_zero_right]at hg';rw [←hg'];have hl:(dgs 0).length=0:=by rw [aO];rfl
    exact Z1
   ·have hl:=bV h0;have hm:c%d<d:=Nat.mod_lt _ om;have hgg:Nat.gcd d (c%d)=Nat.gcd a b:=by rw [←hg',Nat.gcd_comm c d,Nat.gcd_rec d c,Nat.gcd_comm]
    have hlm:=aM (Nat.le_of_lt hm);repeat(refine A1 ⟨?_⟩;intros)
    refine Wc (fu c d h0 hc hd) ?_;repeat(refine A1 ⟨?_⟩;intros)
    exact hK _ _ (d,c%d) ⟨hgg,hd,by simp only;omega⟩ hm lfA rfl
def kv (d:Nat):List Nat:=if d=1 then []else dgs d
abbrev rq (x:Rat):SV:=ag [lit (.bool (decide (x.num<0))),nat x.num.natAbs,dg (kv x.den)]
theorem jI:kv 1=[]:=rfl
theorem vL {d:Nat}(h:d≠1):kv d=dgs d:=if_neg h
theorem mu {d:Nat}(h:d≠0):(dgs d).length≠0:=by have:=bV h;omega
theorem cI (x:Rat):Pu Tryz.prog 103 [rq x] (nat x.den):=by
 by_cases h:x.den=1
 ·show Pu _ _ [ag [lit (.bool (decide (x.num<0))),nat x.num.natAbs,dg (kv x.den)]] _
  rw [h,jI];refine Pi Tryz.func103 fun C=>?_
  repeat(refine A1 ⟨?_⟩;intros)
  refine Wc yX ?_;exact Z1
 ·show Pu _ _ [ag [lit (.bool (decide (x.num<0))),nat x.num.natAbs,dg (kv x.den)]] _
  rw [vL h];have hl:=mu x.den_nz;refine Pi Tryz.func103 fun C=>?_
  exact Z1
theorem im (a:Int) (d:Nat) (ha:il a≤10000000) (hd:(dgs d).length≤10000000) (h0:d≠0):Pu Tryz.prog 142 [int a,nat d] (rq (mkRat a d)):=by
  have hmk:=IB (decide (a<0)) a.natAbs h0;rw [ej]at hmk;obtain⟨e1,e2⟩:=hmk;have hg0:Nat.gcd a.natAbs d≠0:=fun h=>h0 (Nat.gcd_eq_zero_iff.1 h).2
  have gd2:=Nat.gcd_dvd_right a.natAbs d;have gl:=Nat.le_of_dvd (Nat.pos_of_ne_zero h0) gd2;have hgl:=aM gl;have l1:=aM (Nat.div_le_self a.natAbs (Nat.gcd a.natAbs d));have l2:=aM (Nat.div_le_self d (Nat.gcd a.natAbs d));have cm:=m9 a.natAbs d ha hd;have ha':(dgs a.natAbs).length≤10000000:=ha;generalize hx:mkRat a d=x at *;generalize hg:Nat.gcd a.natAbs d=g at *;have hlg:(dgs g).length≤10000000:=by omega
  have lden:(dgs x.den).length≤10000000:=by rw [e2];omega
  have ho:(dgs 1).length=1:=by rw [ku];rfl
  have cmp1:=nc g 1 om om;have cmp2:=nc x.den 1 om om;refine Pi Tryz.func142 fun C=>?_
  repeat(refine A1 ⟨?_⟩;intros)
  rename_i b2 b4;refine Wc cm ?_;repeat(refine A1 ⟨?_⟩;intros)
  refine Wc yX ?_;refine Wc cmp1 ?_;repeat(refine A1 ⟨?_⟩;intros)
  refine WP.via (fun F H => LeF F (fm [(1, nat x.den), (2, lit (.pointer (some ⟨b2, 0, none⟩))), (4, lit (.pointer (some ⟨b4, 0, none⟩)))]) ∧
        H=[(b4,104,[lit (.bool false),lit (.slice none 0 0),lit (.slice none 0 0)]),(b2,85,[lit (.bool (decide (x.num<0))),nat x.num.natAbs])]) ?_ ?_
  · refine WPd (fun h=>?_) (fun h=>?_)
    · rw [e1,e2]
      repeat(refine A1 ⟨?_⟩;intros)
      refine Wc (fu a.natAbs g hg0 ha' hlg) ?_;repeat(refine A1 ⟨?_⟩;intros)
      refine Wc (bd (decide (a<0)) (a.natAbs/g) om) ?_;repeat(refine A1 ⟨?_⟩;intros)
      refine Wc (fu d g hg0 hd hlg) ?_;repeat(refine A1 ⟨?_⟩;intros)
      exact⟨lfA,rfl⟩
    · have hg1:g=1:=by
        rcases Nat.lt_trichotomy g 1 with h'|h'|h'
        · omega
        · exact h'
        · rw [iU h']at h;exact absurd (by decide) h
      rw [hg1,Nat.div_one,ej]at e1;rw [hg1,Nat.div_one]at e2;rw [e1,e2];repeat(refine A1 ⟨?_⟩;intros)
      exact⟨lfA,rfl⟩
  · rintro F H ⟨hF,rfl⟩
    refine WP.le hF ?_;repeat(refine A1 ⟨?_⟩;intros)
    refine Wc yX ?_;refine Wc cmp2 ?_;by_cases h1:x.den=1
    · rw [show rq x=ag [lit (.bool (decide (x.num<0))),nat x.num.natAbs,dg []]from by rw [rq,h1,jI],h1,nV]
      repeat(refine A1 ⟨?_⟩;intros)
      refine aS (aF (RV.cellA rfl List.mem_cons_self rfl rfl) (Le.ag ⟨Le.refl _,Le.refl _,el,trivial⟩))
    · have hc:jK x.den 1=1:=iU (by have:=x.den_nz;omega)
      rw [show rq x=ag [lit (.bool (decide (x.num<0))),nat x.num.natAbs,nat x.den]from by rw [rq,vL h1],hc];exact Z2
theorem oz (z:Int):rq (z:Rat)=ag [lit (.bool (decide (z<0))),nat z.natAbs,dg []]:=by
 rw [rq,Rat.num_intCast,Rat.den_intCast,jI]
theorem qS (z:Int) (h0 : -9223372036854775808≤z) (h1:z≤9223372036854775807):Pu Tryz.prog 74 [lit (.int .i64 z)] (rq (z:Rat)):=by
 rw [oz];refine Pi Tryz.func74 fun C=>?_
 repeat(refine A1 ⟨?_⟩;intros)
 refine Wc (Gw z h0 h1) ?_;repeat(refine A1 ⟨?_⟩;intros)
 refine aS (aF (RV.cellA rfl List.mem_cons_self rfl rfl) (Le.ag ⟨Le.refl _,Le.refl _,el,trivial⟩))
theorem kM (x:Rat) (h:ht x≤10000000):Pu Tryz.prog 108 [rq x] (lit (.int .i64 x.num.sign)):=by
 have b1:=cA x;have hb:(dgs x.num.natAbs).length≤1000000000:=by have:il x.num=(dgs x.num.natAbs).length:=rfl;omega
 refine Pi Tryz.func108 fun C=>?_
 repeat(refine A1 ⟨?_⟩;intros)
 refine Wc (lx x.num hb) ?_;exact Z1
theorem jS (x:Rat) (h:ht x≤10000000):Pu Tryz.prog 99 [rq x] (rq (-x)):=by
 have b1:=cA x;have hb:(dgs x.num.natAbs).length≤1000000000:=by have:il x.num=(dgs x.num.natAbs).length:=rfl;omega
 rw [show rq (-x)=ag [lit (.bool (decide (-x.num<0))),nat (-x.num).natAbs,dg (kv x.den)]from by rw [rq,Rat.neg_num,Rat.neg_den]];refine Pi Tryz.func99 fun C=>?_
 repeat(refine A1 ⟨?_⟩;intros)
 refine Wdc (ii x.num hb) ?_;exact Z2
theorem nT {d:Nat}(h:d≠0):d≠1→(kv d).length≠0:=fun h1=>by rw [vL h1];exact mu h
theorem lJ {d:Nat}(h:d=1):(kv d).length=0:=by rw [h,jI];rfl
theorem qk (d:Nat):(kv d).length≤(dgs d).length:=by unfold kv;split <;> simp
theorem w8 {x y:Rat}(h1:x.den=1) (h2:y.den=1):x*y=((x.num*y.num:Int):Rat):=by
 rw [Rat.mul_def',h1,h2,Nat.mul_one,Rat.mkRat_one]
theorem aY (x y:Rat) (hx:ht x≤3000000) (hy:ht y≤3000000):Pu Tryz.prog 101 [rq x,rq y] (rq (x*y)):=by
 have n1:=cA x;have n2:=cA y;have d1:=cF x;have d2:=cF y;have m1:=j8 x.num y.num;have m2:=bU x.den y.den;have l1:=qk x.den;have l2:=qk y.den;have mi:=n8 x.num y.num (show il x.num≤100000000 by omega) (show il y.num≤100000000 by omega);have fr:=im (x.num*y.num) (x.den*y.den) om om (Nat.mul_ne_zero x.den_nz y.den_nz);by_cases hx1:x.den=1
 ·have k1:=lJ hx1;by_cases hy1:y.den=1
  ·have k2:=lJ hy1;rw [w8 hx1 hy1,oz];refine Pi Tryz.func101 fun C=>?_
   repeat(refine A1 ⟨?_⟩;intros)
   refine Wc mi ?_;repeat(refine A1 ⟨?_⟩;intros)
   refine aS (aF (RV.cellA rfl List.mem_cons_self rfl rfl) (Le.ag ⟨Le.refl _,Le.refl _,el,trivial⟩))
  ·have k2:=nT y.den_nz hy1;rw [Rat.mul_def'];refine Pi Tryz.func101 fun C=>?_
   repeat(refine A1 ⟨?_⟩;intros)
   refine Wdc mi ?_;repeat(refine A1 ⟨?_⟩;intros)
   refine Wdc (cI x) ?_;repeat(refine A1 ⟨?_⟩;intros)
   refine Wdc (cI y) ?_;repeat(refine A1 ⟨?_⟩;intros)
   refine Wdc (dZ x.den y.den om om) ?_;repeat(refine A1 ⟨?_⟩;intros)
   refine Wdc fr ?_;exact Z2
 ·have k1:=nT x.den_nz hx1;rw [Rat.mul_def'];refine Pi Tryz.func101 fun C=>?_
  repeat(refine A1 ⟨?_⟩;intros)
  refine Wdc mi ?_;repeat(refine A1 ⟨?_⟩;intros)
  refine Wdc (cI x) ?_;repeat(refine A1 ⟨?_⟩;intros)
  refine Wdc (cI y) ?_;repeat(refine A1 ⟨?_⟩;intros)
  refine Wdc (dZ x.den y.den om om) ?_;repeat(refine A1 ⟨?_⟩;intros)
  refine Wdc fr ?_;exact Z2
theorem eE (x y:Rat) (hx:ht x≤3000000) (hy:ht y≤3000000):Pu Tryz.prog 100 [rq x,rq y] (rq (x+y)):=by
 have n1:=cA x;have n2:=cA y;have d1:=cF x;have d2:=cF y;have m1:=j8 x.num y.den;have m2:=j8 y.num x.den;have m3:=vB (x.num*y.den) (y.num*x.den);have m4:=bU x.den y.den;rw [rM]at m1 m2;have l1:=qk x.den;have l2:=qk y.den;have mi1:=n8 x.num y.den (show il x.num≤100000000 by omega) (show(dgs y.den).length≤100000000 by omega);have mi2:=n8 y.num x.den (show il y.num≤100000000 by omega) (show(dgs x.den).length≤100000000 by omega);rw [←yn]at mi1 mi2;have ai:=r9 (x.num*y.den) (y.num*x.den) (show il _≤100000000 by omega) (show il _≤100000000 by omega);have aw:=r9 x.num y.num (show il _≤100000000 by omega) (show il _≤100000000 by omega);have fr:=im (x.num*y.den+y.num*x.den) (x.den*y.den) om om (Nat.mul_ne_zero x.den_nz y.den_nz);by_cases hx1:x.den=1
 ·have k1:=lJ hx1;by_cases hy1:y.den=1
  ·have k2:=lJ hy1;rw [ue hx1 hy1,oz];refine Pi Tryz.func100 fun C=>?_
   repeat(refine A1 ⟨?_⟩;intros)
   refine Wc aw ?_;repeat(refine A1 ⟨?_⟩;intros)
   refine aS (aF (RV.cellA rfl List.mem_cons_self rfl rfl) (Le.ag ⟨Le.refl _,Le.refl _,el,trivial⟩))
  ·have k2:=nT y.den_nz hy1;rw [Rat.add_def'];refine Pi Tryz.func100 fun C=>?_
   repeat(refine A1 ⟨?_⟩;intros)
   refine Wdc (cI y) ?_;repeat(refine A1 ⟨?_⟩;intros)
   refine Wdc (bd false y.den om) ?_;repeat(refine A1 ⟨?_⟩;intros)
   refine Wdc mi1 ?_;repeat(refine A1 ⟨?_⟩;intros)
   refine Wdc (cI x) ?_;repeat(refine A1 ⟨?_⟩;intros)
   refine Wdc (bd false x.den om) ?_;repeat(refine A1 ⟨?_⟩;intros)
   refine Wdc mi2 ?_;repeat(refine A1 ⟨?_⟩;intros)
   refine Wdc ai ?_;repeat(refine A1 ⟨?_⟩;intros)
   refine Wdc (cI x) ?_;repeat(refine A1 ⟨?_⟩;intros)
   refine Wdc (cI y) ?_;repeat(refine A1 ⟨?_⟩;intros)
   refine Wdc (dZ x.den y.den om om) ?_;repeat(refine A1 ⟨?_⟩;intros)
   refine Wdc fr ?_;exact Z2
 ·have k1:=nT x.den_nz hx1;rw [Rat.add_def'];refine Pi Tryz.func100 fun C=>?_
  repeat(refine A1 ⟨?_⟩;intros)
  refine Wdc (cI y) ?_;repeat(refine A1 ⟨?_⟩;intros)
  refine Wdc (bd false y.den om) ?_;repeat(refine A1 ⟨?_⟩;intros)
  refine Wdc mi1 ?_;repeat(refine A1 ⟨?_⟩;intros)
  refine Wdc (cI x) ?_;repeat(refine A1 ⟨?_⟩;intros)
  refine Wdc (bd false x.den om) ?_;repeat(refine A1 ⟨?_⟩;intros)
  refine Wdc mi2 ?_;repeat(refine A1 ⟨?_⟩;intros)
  refine Wdc ai ?_;repeat(refine A1 ⟨?_⟩;intros)
  refine Wdc (cI x) ?_;repeat(refine A1 ⟨?_⟩;intros)
  refine Wdc (cI y) ?_;repeat(refine A1 ⟨?_⟩;intros)
  refine Wdc (dZ x.den y.den om om) ?_;repeat(refine A1 ⟨?_⟩;intros)
  refine Wdc fr ?_;exact Z2
theorem gE (x y:Rat) (hx:ht x≤3000000) (hy:ht y≤3000000):Pu Tryz.prog 150 [rq x,rq y] (rq (x-y)):=by
 rw [Rat.sub_eq_add_neg];refine Pi Tryz.func150 fun C=>?_
 repeat(refine A1 ⟨?_⟩;intros)
 refine Wdc (jS y om) ?_;repeat(refine A1 ⟨?_⟩;intros)
 refine Wdc (eE x (-y) hx (by rw [dc];exact hy)) ?_;exact Z2
theorem iM (x y:Rat) (hx:ht x≤3000000) (hy:ht y≤3000000):Pu Tryz.prog 149 [rq x,rq y] (lit (.int .i64 (x-y).num.sign)):=by
 have h:=dX x y;refine Pi Tryz.func149 fun C=>?_
 repeat(refine A1 ⟨?_⟩;intros)
 refine Wc (gE x y hx hy) ?_;repeat(refine A1 ⟨?_⟩;intros)
 refine Wc (kM (x-y) om) ?_;exact Z1
abbrev pp (x y:Rat):SV:=ag [lit (.int .i64 (r0 x)),lit (.int .i64 (r1 x)),r2 x,lit (.int .i64 (r0 y)),lit (.int .i64 (r1 y)),r2 y]
structure RQ where
 s:Bool
 n:List Nat
 d:List Nat
def RQ.v (r:RQ):Rat:=mkRat (sv r.s (val r.n)) (val r.d)
def RQ.ok (L:Nat) (r:RQ):Prop:=D r.n∧D r.d∧r.n.length≤L∧r.d.length≤L
abbrev qr (r:RQ):SV:=KI r.s r.n r.d
abbrev pr (a b:RQ):SV:=ag [lit (.bool a.s),dg a.n,dg a.d,lit (.bool b.s),dg b.n,dg b.d]
abbrev pq (x y:Rat):SV:=ag [lit (.bool (decide (x.num<0))),nat x.num.natAbs,nat x.den,lit (.bool (decide (y.num<0))),nat y.num.natAbs,nat y.den]
def RQ.of (x:Rat):RQ:=⟨decide (x.num<0),dgs x.num.natAbs,dgs x.den⟩
theorem RQ.of_v (x:Rat):(RQ.of x).v=x:=by
 unfold RQ.v RQ.of;simp only [ak,ej];exact Rat.mkRat_self x
theorem RQ.of_ok {x:Rat}{L:Nat}(h:ht x≤L):(RQ.of x).ok L :=
 ⟨aJ _,aJ _,Nat.le_trans (cA x) h,Nat.le_trans (cF x) h⟩
theorem Ka {s:Bool}{xs:List Nat}(h:D xs):il (sv s (val xs))≤xs.length:=by unfold il;rw [fU];exact iF h
theorem GH (x y u v:Rat) (hx:ht x≤1000000) (hy:ht y≤1000000) (hu:ht u≤1000000) (hv:ht v≤1000000):Pu Tryz.prog 239 [pp x y,pp u v] (pp (x+u) (y+v)):=by
 refine Pi Tryz.func239 fun C=>?_
 repeat(refine A1 ⟨?_⟩;intros)
 refine Wdc (jU x u om om) ?_;repeat(refine A1 ⟨?_⟩;intros)
 refine Wdc (jU y v om om) ?_;exact Z2
theorem te (x y u:Rat) (hx:ht x≤1000000) (hy:ht y≤1000000) (hu:ht u≤1000000):Pu Tryz.prog 240 [pp x y,fr u] (pp (x*u) (y*u)):=by
 refine Pi Tryz.func240 fun C=>?_
 repeat(refine A1 ⟨?_⟩;intros)
 refine Wdc (iK x u om om) ?_;repeat(refine A1 ⟨?_⟩;intros)
 refine Wdc (iK y u om om) ?_;exact Z2
theorem BO (x y u v:Rat) (hx:ht x≤1000000) (hy:ht y≤1000000) (hu:ht u≤1000000) (hv:ht v≤1000000):Pu Tryz.prog 229 [pp x y,pp u v] (fr (x*v-y*u)):=by
 have h1:=ax x v;have h2:=ax y u;refine Pi Tryz.func229 fun C=>?_
 repeat(refine A1 ⟨?_⟩;intros)
 refine Wdc (iK x v om om) ?_;repeat(refine A1 ⟨?_⟩;intros)
 refine Wdc (iK y u om om) ?_;repeat(refine A1 ⟨?_⟩;intros)
 refine Wdc (uC (x*v) (y*u) om om) ?_;exact Z2
structure M6 (α:Type) where
 a:α
 b:α
 c:α
 d:α
 e:α
 f:α
structure M6.ok (L:Nat) (m:M6 RQ):Prop where
 a:m.a.ok L
 b:m.b.ok L
 c:m.c.ok L
 d:m.d.ok L
 e:m.e.ok L
 f:m.f.ok L
structure M6.le (L:Nat) (m:M6 Rat):Prop where
 a:ht m.a≤L
 b:ht m.b≤L
 c:ht m.c≤L
 d:ht m.d≤L
 e:ht m.e≤L
 f:ht m.f≤L
def M6.v (m:M6 RQ):M6 Rat:=⟨m.a.v,m.b.v,m.c.v,m.d.v,m.e.v,m.f.v⟩
theorem kJ (xs:List Nat) (h:xs.length≤1000000000):Pu Tryz.prog 95 [dg xs] (dg xs):=by
 refine Pi Tryz.func95 fun C=>?_
 exact Z1
theorem C8 (xs:List Nat) (h:xs.length≤1000000000) (hD:D xs):Pu Tryz.prog 167 [dg xs] (nat (val xs)):=by
 refine Pi Tryz.func167 fun C=>?_
 repeat(first|(refine A1 ⟨?_⟩;intros)|(refine Wcx (cV _ h hD) ?_)|(refine kB (cV _ h hD) ?_)|(refine eQ (cV _ h hD) ?_)|(refine gT (cV _ h hD) ?_))
 exact E1
theorem HW (s:Bool) (xs:List Nat) (h:xs.length≤1000000000) (hD:D xs):Pu Tryz.prog 168 [raw s xs] (int (sv s (val xs))):=by
 have hl:=iF hD;refine Pi Tryz.func168 fun C=>?_
 repeat(first|(refine A1 ⟨?_⟩;intros)|(refine Wcx (C8 _ h hD) ?_)|(refine kB (C8 _ h hD) ?_)|(refine eQ (C8 _ h hD) ?_)|(refine gT (C8 _ h hD) ?_)|(refine Wcx (bd _ _ om) ?_)|(refine kB (bd _ _ om) ?_)|(refine eQ (bd _ _ om) ?_)|(refine gT (bd _ _ om) ?_))
 exact G1
theorem lX (z:Int) (h:il z≤1000000000):Pu Tryz.prog 65 [int z] (int z):=by
 have h':(dgs z.natAbs).length≤1000000000:=h;refine Pi Tryz.func65 fun C=>?_
 repeat(first|(refine A1 ⟨?_⟩;intros)|(refine Wcx (kJ _ h') ?_)|(refine kB (kJ _ h') ?_)|(refine eQ (kJ _ h') ?_)|(refine gT (kJ _ h') ?_))
 exact G1
theorem kI (x:Rat) (h:ht x≤100000000):Pu Tryz.prog 124 [rq x] (q x):=by
 have h1:=cA x;have h2:=cF x;refine Pi Tryz.func124 fun C=>?_
 repeat(first|(refine A1 ⟨?_⟩;intros)|(refine Wcx (lX _ om) ?_)|(refine kB (lX _ om) ?_)|(refine eQ (lX _ om) ?_)|(refine gT (lX _ om) ?_)|refine W4 (cI x) ⟨?_⟩|(refine Wcx (kJ _ om) ?_)|(refine kB (kJ _ om) ?_)|(refine eQ (kJ _ om) ?_)|(refine gT (kJ _ om) ?_))
 exact G1
theorem Gt:rq 0=ag [lit (.bool false),nat 0,dg []]:=by rw [rq,show(0:Rat).num=0 from rfl,show(0:Rat).den=1 from rfl,jI];rfl
theorem K5 {r:RQ}{L:Nat}(h:r.ok L) (hL:L≤1000000):Pu Tryz.prog 121 [qr r] (rq r.v):=by
 obtain⟨h1,h2,h3,h4⟩:=h;have hl:=iF h2;have hi:=Ka (s:=r.s) h1;by_cases h0:val r.d=0
 ·have hv:r.v=0:=by unfold RQ.v;rw [h0];exact Rat.mkRat_zero _
  rw [hv,Gt];have hn:=C8 r.d om h2;rw [h0]at hn;have hl0:(dgs 0).length=0:=by rw [aO];rfl
  refine Pi Tryz.func121 fun C=>?_
  repeat(first|(refine A1 ⟨?_⟩;intros)|refine W4 hn ⟨?_⟩)
  refine aS (aF (RV.cellA rfl List.mem_cons_self rfl rfl) (Le.ag ⟨Le.refl _,?_,el,trivial⟩));rw [show nat 0=dg []from by show dg (dgs 0)=_;rw [aO]];exact el
 ·have hp:=bV h0;refine Pi Tryz.func121 fun C=>?_
  repeat(first|(refine A1 ⟨?_⟩;intros)|refine W4 (C8 r.d om h2) ⟨?_⟩|(refine Wcx (HW _ _ om h1) ?_)|(refine kB (HW _ _ om h1) ?_)|(refine eQ (HW _ _ om h1) ?_)|(refine gT (HW _ _ om h1) ?_)|(refine Wcx (im _ _ om om h0) ?_)|(refine kB (im _ _ om om h0) ?_)|(refine eQ (im _ _ om om h0) ?_)|(refine gT (im _ _ om om h0) ?_))
  exact G1
abbrev rp (x y:Rat):SV:=ag [lit (.bool (decide (x.num<0))),nat x.num.natAbs,dg (kv x.den),lit (.bool (decide (y.num<0))),nat y.num.natAbs,dg (kv y.den)]
theorem IQ (x y:Rat) (hx:ht x≤100000000) (hy:ht y≤100000000):Pu Tryz.prog 84 [rp x y] (pq x y):=by
 refine Pi Tryz.func84 fun C=>?_
 repeat(first|(refine A1 ⟨?_⟩;intros)|(refine Wcx (kI _ hx) ?_)|(refine kB (kI _ hx) ?_)|(refine eQ (kI _ hx) ?_)|(refine gT (kI _ hx) ?_)|(refine Wcx (kI _ hy) ?_)|(refine kB (kI _ hy) ?_)|(refine eQ (kI _ hy) ?_)|(refine gT (kI _ hy) ?_))
 exact G1
theorem K6 {a b:RQ}{L:Nat}(ha:a.ok L) (hb:b.ok L) (hL:L≤1000000):Pu Tryz.prog 81 [pr a b] (rp a.v b.v):=by
 refine Pi Tryz.func81 fun C=>?_
 exact X2 (K5 ha hL) (K5 hb hL)
theorem je (a b:Int) (ha : -9223372036854775808≤a) (ha':a≤9223372036854775807) (hb : -9223372036854775808≤b) (hb':b≤9223372036854775807):Pu Tryz.prog 44 [lit (.int .i64 a),lit (.int .i64 b)] (rp (a:Rat) (b:Rat)):=by
 refine Pi Tryz.func44 fun C=>?_
 exact X2 (qS a ha ha') (qS b hb hb')
theorem lG (x y k u v:Rat) (hx:ht x≤1000000) (hy:ht y≤1000000) (hk:ht k≤1000000) (hu:ht u≤1000000) (hv:ht v≤1000000):Pu Tryz.prog 73 [rp x y,rq k,rp u v] (rp (x+k*u) (y+k*v)):=by
 have h1:=ax k u;have h2:=ax k v;refine Pi Tryz.func73 fun C=>?_
 repeat(first|(refine A1 ⟨?_⟩;intros)|refine W4 (aY k u om om) ⟨?_⟩|refine W4 (eE x (k*u) om om) ⟨?_⟩|refine W4 (aY k v om om) ⟨?_⟩|refine W4 (eE y (k*v) om om) ⟨?_⟩)
 exact G1
theorem gb:ht 1=1:=by
 unfold ht;rw [show(1:Rat).num=1 from rfl,show(1:Rat).den=1 from rfl];unfold il;rw [show(1:Int).natAbs=1 from rfl,ku];rfl
theorem n6:Pu Tryz.prog 74 [lit (.int .i64 1)] (rq 1):=qS 1 om om
def RQ.short (n:Nat) (r:RQ):Prop:=r.n.length≤n∧r.d.length≤n
instance (n:Nat) (r:RQ):Decidable (r.short n):=by unfold RQ.short;infer_instance
theorem dQ {α:Type}{l:List α}{k:Nat}{a:α}(h:l[k]? = some a):l.take (k+1)=l.take k++[a]:=by
 obtain⟨h1,h2⟩:=List.getElem?_eq_some_iff.1 h;rw [List.take_succ_eq_append_getElem h1,h2]
abbrev oC (p:RQ×RQ):List SV:=[lit (.bool p.1.s),dg p.1.n,dg p.1.d,lit (.bool p.2.s),dg p.2.n,dg p.2.d]
theorem rh (p:RQ×RQ):(oC p).length=6:=rfl
theorem gt:ht 0=1:=by
 unfold ht il;rw [show(0:Rat).num=0 from rfl,show(0:Rat).den=1 from rfl,show(0:Int).natAbs=0 from rfl,aO,ku];rfl
def M6.of (m:M6 Rat):M6 RQ:=⟨RQ.of m.a,RQ.of m.b,RQ.of m.c,RQ.of m.d,RQ.of m.e,RQ.of m.f⟩
theorem M6.of_v (m:M6 Rat):m.of.v=m:=by
 unfold M6.of M6.v;simp only [RQ.of_v]
theorem M6.of_ok {m:M6 Rat}{L:Nat}(h:m.le L):m.of.ok L:=⟨RQ.of_ok h.a,RQ.of_ok h.b,RQ.of_ok h.c,RQ.of_ok h.d,RQ.of_ok h.e,RQ.of_ok h.f⟩
theorem nM (z:Int) (h:z.natAbs<4294967296):ht (z:Rat)≤1:=by
 unfold ht;rw [Rat.num_intCast,Rat.den_intCast,ku];have:il z≤1:=bM (k:=1) (by simpa using h);simp;omega
theorem GN (x y:Rat):mkRat (x.num*sv (decide (y.num<0)) y.den) (x.den*y.num.natAbs)=x/y:=by
 rw [Rat.div_def,←zk];conv=>rhs;rw [←Rat.mkRat_self x]
 rw [Rat.mkRat_mul_mkRat]
theorem jj (x y:Rat) (hx:ht x≤3000000) (hy:ht y≤3000000) (h0:y.num≠0):Pu Tryz.prog 152 [rq x,rq y] (rq (x/y)):=by
 have n1:=cA x;have n2:=cA y;have d1:=cF x;have d2:=cF y;have e2:il y.num=(dgs y.num.natAbs).length:=rfl;have m1:=j8 x.num (sv (decide (y.num<0)) y.den);have e1:il (sv (decide (y.num<0)) y.den)=(dgs y.den).length:=by unfold il;rw [fU]
 have m4:=bU x.den y.num.natAbs;have mi:=n8 x.num (sv (decide (y.num<0)) y.den) (show il x.num≤100000000 by omega) (show il _≤100000000 by omega);have fr:=im (x.num*sv (decide (y.num<0)) y.den) (x.den*y.num.natAbs) om om (Nat.mul_ne_zero x.den_nz om);rw [GN]at fr;refine Pi Tryz.func152 fun C=>?_
 repeat(first|(refine A1 ⟨?_⟩;intros)|(refine Wcx (cI _) ?_)|(refine kB (cI _) ?_)|(refine eQ (cI _) ?_)|(refine gT (cI _) ?_)|(refine Wcx (bd _ _ om) ?_)|(refine kB (bd _ _ om) ?_)|(refine eQ (bd _ _ om) ?_)|(refine gT (bd _ _ om) ?_)|refine W4 mi ⟨?_⟩|(refine Wcx (dZ _ _ om om) ?_)|(refine kB (dZ _ _ om om) ?_)|(refine eQ (dZ _ _ om om) ?_)|(refine gT (dZ _ _ om om) ?_)|refine W4 fr ⟨?_⟩)
 exact G1
def M6.det (m:M6 Rat):Rat:=m.a*m.e-m.d*m.b
def M6.inv (m:M6 Rat):M6 Rat :=
 ⟨m.e*m.det⁻¹,-m.b*m.det⁻¹,-(m.e*m.det⁻¹*m.c + -m.b*m.det⁻¹*m.f),-m.d*m.det⁻¹,m.a*m.det⁻¹,-(-m.d*m.det⁻¹*m.c+m.a*m.det⁻¹*m.f)⟩
def ik (x y:Rat):Rat:=mkRat (Nat.gcd (x.num.natAbs*y.den) (y.num.natAbs*x.den):Nat) (x.den*y.den)
theorem xQ {x:Rat}{p:Int}{d:Nat}(hd:d≠0) (h:x=mkRat p d):x.num*d=p*x.den:=by
 have h1:=Rat.mkRat_self x;rw [←h1]at h;conv at h=>lhs;rw [h1]
 have:=(Rat.mkRat_eq_iff (n₁:=x.num) (n₂:=p) x.den_nz hd).1 (by rw [Rat.mkRat_self];exact h);rw [this]
theorem uG {x y:Rat}{p q:Int}{d:Nat}(hd:d≠0) (hx:x=mkRat p d) (hy:y=mkRat q d):ik x y=mkRat (Nat.gcd p.natAbs q.natAbs:Nat) d:=by
 have cx:=congrArg Int.natAbs (xQ hd hx);have cy:=congrArg Int.natAbs (xQ hd hy);rw [Int.natAbs_mul,Int.natAbs_mul,Int.natAbs_natCast,Int.natAbs_natCast]at cx cy;unfold ik;rw [Rat.mkRat_eq_iff (Nat.mul_ne_zero x.den_nz y.den_nz) hd]
 have:Nat.gcd (x.num.natAbs*y.den) (y.num.natAbs*x.den)*d=Nat.gcd p.natAbs q.natAbs*(x.den*y.den):=by
  rw [←Nat.gcd_mul_right,←Nat.gcd_mul_right];congr 1
  ·rw [Nat.mul_right_comm,cx,Nat.mul_assoc]
  ·rw [Nat.mul_right_comm,cy,Nat.mul_assoc,Nat.mul_comm y.den]
 exact_mod_cast this
theorem FC (x y:Rat):∃(p q:Int) (d:Nat),d≠0∧x=mkRat p d∧y=mkRat q d:=by
 refine⟨x.num*y.den,y.num*x.den,x.den*y.den,Nat.mul_ne_zero x.den_nz y.den_nz,?_,?_⟩
 ·rw [Rat.mkRat_mul_right y.den_nz,Rat.mkRat_self]
 ·rw [Nat.mul_comm x.den,Rat.mkRat_mul_right x.den_nz,Rat.mkRat_self]
theorem wB (t x y:Rat) (ht:0<t):ik (t*x) (t*y)=t*ik x y:=by
 obtain⟨p,q,d,hd,hx,hy⟩:=FC x y
 have hn:0<t.num:=by
  have h0:=Rat.num_nonneg.2 (Rat.le_of_lt ht);have h1:t.num≠0:=fun e=>by rw [Rat.num_eq_zero.1 e]at ht;exact absurd ht (by decide)
  omega
 have e:t=mkRat t.num t.den:=(Rat.mkRat_self t).symm;have hx':t*x=mkRat (t.num*p) (t.den*d):=by conv=>lhs;rw [e,hx,Rat.mkRat_mul_mkRat]
 have hy':t*y=mkRat (t.num*q) (t.den*d):=by conv=>lhs;rw [e,hy,Rat.mkRat_mul_mkRat]
 rw [uG (Nat.mul_ne_zero t.den_nz hd) hx' hy',uG hd hx hy,Int.natAbs_mul,Int.natAbs_mul,Nat.gcd_mul_left];conv=>rhs;rw [e,Rat.mkRat_mul_mkRat]
 congr 1
 rw [Int.natCast_mul,Int.natAbs_of_nonneg (Int.le_of_lt hn)]
theorem wA (x y:Rat):0≤ik x y:=by
 unfold ik;rw [←Rat.num_nonneg,Rat.num_mkRat];rw [if_neg (Nat.mul_ne_zero x.den_nz y.den_nz)];exact Int.ediv_nonneg (Int.natCast_nonneg _) (Int.natCast_nonneg _)
theorem qY (x y:Rat):∃k l:Int,x=k*ik x y∧y=l*ik x y:=by
 obtain⟨p,q,d,hd,hx,hy⟩:=FC x y;rw [uG hd hx hy];have h1:(Nat.gcd p.natAbs q.natAbs:Int)∣p:=Int.ofNat_dvd_left.2 (Nat.gcd_dvd_left _ _);have h2:(Nat.gcd p.natAbs q.natAbs:Int)∣q:=Int.ofNat_dvd_left.2 (Nat.gcd_dvd_right _ _);obtain⟨k,hk⟩:=h1;obtain⟨l,hl⟩:=h2
 have key:∀(z k:Int),z=(Nat.gcd p.natAbs q.natAbs:Int)*k→mkRat z d=(k:Rat)*mkRat (Nat.gcd p.natAbs q.natAbs:Nat) d:=fun z k h=>by
  have e:(k:Rat)=mkRat k 1:=(Rat.mkRat_one k).symm;rw [e,Rat.mkRat_mul_mkRat,Nat.one_mul,h,Int.mul_comm]
 exact⟨k,l,by rw [hx];exact key p k hk,by rw [hy];exact key q l hl⟩
theorem t9 {x y:Rat}(h:ik x y=0):x=0∧y=0:=by
 obtain⟨k,l,h1,h2⟩:=qY x y;rw [h,Rat.mul_zero]at h1 h2;exact⟨h1,h2⟩
theorem fW (a b:Int):ik a b=((Nat.gcd a.natAbs b.natAbs:Nat):Rat):=by
 unfold ik;rw [Rat.num_intCast,Rat.num_intCast,Rat.den_intCast,Rat.den_intCast,Nat.mul_one,Nat.mul_one,Nat.mul_one,Rat.mkRat_one];rfl
structure Li where
 a:Int
 b:Int
 c:Int
def Li.ok (l:Li):Prop:=Nat.gcd (Nat.gcd l.a.natAbs l.b.natAbs) l.c.natAbs=1∧(l.a≠0∨l.b≠0)
def g3 (a b c:Rat):Rat:=ik (ik a b) c
def fO (a b c:Rat):Li:=⟨(a*(g3 a b c)⁻¹).num,(b*(g3 a b c)⁻¹).num,(c*(g3 a b c)⁻¹).num⟩
theorem F8 (t a b c:Rat) (ht:0<t):g3 (t*a) (t*b) (t*c)=t*g3 a b c:=by unfold g3;rw [wB t a b ht,wB t _ c ht]
theorem zt {a b c:Rat}(h:a≠0∨b≠0):0<g3 a b c:=by
 have h0:=wA (ik a b) c;rcases Rat.le_iff_lt_or_eq.1 h0 with h1|h1
 ·exact h1
 ·exfalso;have h2:=(t9 h1.symm).1;have h3:=t9 h2;rcases h with h|h
  ·exact h h3.1
  ·exact h h3.2
theorem Hr {x:Rat}(h:x.den=1):(x.num:Rat)=x:=by
 apply Rat.ext <;> simp [h]
theorem Ah {a b c:Rat}(h:a≠0∨b≠0):a*(g3 a b c)⁻¹=((fO a b c).a:Rat)∧b*(g3 a b c)⁻¹=((fO a b c).b:Rat)∧c*(g3 a b c)⁻¹=((fO a b c).c:Rat):=by
 have hg:=zt (c:=c) h;have hne:g3 a b c≠0:=fun e=>by rw [e]at hg;exact absurd hg (by decide)
 obtain⟨k,l,h1,h2⟩:=qY a b;obtain⟨u,v,h3,h4⟩:=qY (ik a b) c
 have ea:a*(g3 a b c)⁻¹=((k*u:Int):Rat):=by
  have:a=((k*u:Int):Rat)*g3 a b c:=by rw [Rat.intCast_mul,Rat.mul_assoc];unfold g3;rw [←h3];exact h1
  generalize g3 a b c=g at *;rw [this,Rat.mul_assoc,Rat.mul_inv_cancel _ hne,Rat.mul_one]
 have eb:b*(g3 a b c)⁻¹=((l*u:Int):Rat):=by
  have:b=((l*u:Int):Rat)*g3 a b c:=by rw [Rat.intCast_mul,Rat.mul_assoc];unfold g3;rw [←h3];exact h2
  generalize g3 a b c=g at *;rw [this,Rat.mul_assoc,Rat.mul_inv_cancel _ hne,Rat.mul_one]
 have ec:c*(g3 a b c)⁻¹=((v:Int):Rat):=by
  have:c=((v:Int):Rat)*g3 a b c:=h4;generalize g3 a b c=g at *;rw [this,Rat.mul_assoc,Rat.mul_inv_cancel _ hne,Rat.mul_one]
 unfold fO;simp only [];rw [ea,eb,ec,Rat.num_intCast,Rat.num_intCast,Rat.num_intCast];exact⟨rfl,rfl,rfl⟩
theorem Ag {a b c:Rat}(h:a≠0∨b≠0):(fO a b c).ok:=by
 have hg:=zt (c:=c) h;have hne:g3 a b c≠0:=fun e=>by rw [e]at hg;exact absurd hg (by decide)
 obtain⟨e1,e2,e3⟩:=Ah (c:=c) h;have hi:0<(g3 a b c)⁻¹:=Rat.inv_pos.2 hg;have h1:=F8 (g3 a b c)⁻¹ a b c hi;rw [Rat.inv_mul_cancel _ hne,Rat.mul_comm _ a,Rat.mul_comm _ b,Rat.mul_comm _ c,e1,e2,e3]at h1;unfold g3 at h1;rw [fW,show((Nat.gcd (fO a b c).a.natAbs (fO a b c).b.natAbs:Nat):Rat)=(((Nat.gcd (fO a b c).a.natAbs (fO a b c).b.natAbs:Nat):Int):Rat)from rfl,fW,Int.natAbs_natCast]at h1;refine⟨by exact_mod_cast h1,?_⟩;rcases h with h|h
 ·left;intro e;rw [e]at e1;rcases Rat.mul_eq_zero.1 (e1.trans rfl)with h5|h5
  ·exact h h5
  ·rw [h5]at hi;exact absurd hi (by decide)
 ·right;intro e;rw [e]at e2;rcases Rat.mul_eq_zero.1 (e2.trans rfl)with h5|h5
  ·exact h h5
  ·rw [h5]at hi;exact absurd hi (by decide)
theorem DV (t a b c:Rat) (ht:0<t):fO (t*a) (t*b) (t*c)=fO a b c:=by
 have hne:t≠0:=fun e=>by rw [e]at ht;exact absurd ht (by decide)
 have key:∀x:Rat,t*x*(t*g3 a b c)⁻¹=x*(g3 a b c)⁻¹:=fun x=>by
  rw [Rat.inv_mul_rev,Rat.mul_comm t x,Rat.mul_assoc,←Rat.mul_assoc t,Rat.mul_comm t,Rat.mul_assoc (g3 a b c)⁻¹,Rat.mul_inv_cancel _ hne,Rat.mul_one]
 unfold fO;rw [F8 t a b c ht,key,key,key]
end Go.Ab
