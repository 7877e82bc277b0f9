/- Texts laid one behind the other: Bits, FracA. -/
import Derived.Test.YtgiifnbebppbgaaGreatDoorB04
import Derived.Test.YtgiifnbebppbgaaGreatDoorB03
set_option linter.unusedSectionVars false
set_option linter.unusedVariables false
set_option linter.unusedSimpArgs false
namespace Go.Ab
open Go.Proofs
variable [Base]
theorem mul64_eq {x0 x1 y0 y1:Nat}{a b:Nat}(ha:a=x0+4294967296*x1) (hb:b=y0+4294967296*y1) :
  a*b=x0*y0+4294967296*(x1*y0)+4294967296*(x0*y1)+18446744073709551616*(x1*y1):=by
 subst ha;subst hb
 rw [Nat.add_mul,Nat.mul_add,Nat.mul_add,Nat.mul_assoc,Nat.mul_assoc,Nat.mul_left_comm x0]
 rw [Nat.mul_left_comm x1 4294967296,←Nat.mul_assoc 4294967296 4294967296]
 omega
set_option maxHeartbeats 1000000 in
theorem mul64_pu (a b:Nat) (ha:a<18446744073709551616) (hb:b<18446744073709551616):Pu Tryz.prog 291 [lit (.int .u64 a),lit (.int .u64 b)] (tup [lit (.int .u64 (a*b/18446744073709551616:Nat)),lit (.int .u64 (a*b%18446744073709551616:Nat))]):=by
 obtain⟨x0,hx0⟩:∃x,x=a%4294967296:=⟨_,rfl⟩
 obtain⟨x1,hx1⟩:∃x,x=a/4294967296:=⟨_,rfl⟩
 obtain⟨y0,hy0⟩:∃x,x=b%4294967296:=⟨_,rfl⟩
 obtain⟨y1,hy1⟩:∃x,x=b/4294967296:=⟨_,rfl⟩
 have l1:x0<4294967296:=by omega
 have l2:x1<4294967296:=by omega
 have l3:y0<4294967296:=by omega
 have l4:y1<4294967296:=by omega
 have e:=mul64_eq (x0:=x0) (x1:=x1) (y0:=y0) (y1:=y1) (a:=a) (b:=b) (by omega) (by omega)
 have p1:=prod_bd l1 l3
 have p2:=prod_bd l2 l3
 have p3:=prod_bd l1 l4
 have p4:=prod_bd l2 l4
 have c1:=Int.natCast_mul x0 y0
 have c2:=Int.natCast_mul x1 y0
 have c3:=Int.natCast_mul x0 y1
 have c4:=Int.natCast_mul x1 y1
 have c5:=Int.natCast_mul a b
 have q1:(a:Int)/4294967296=(x1:Int):=by omega
 have q2:(b:Int)/4294967296=(y1:Int):=by omega
 refine Pu.intro Tryz.func291 rfl (by kernel_rfl) fun C=>?_
 repeat(refine A1 ⟨?_⟩;intros)
 refine Wo (ov_and rfl rfl (and_mask a rfl ha)) ?_
 rw [←hx0]
 repeat(refine A1 ⟨?_⟩;intros)
 refine Wo (ov_and rfl rfl (and_mask b rfl hb)) ?_
 rw [←hy0,q1]
 repeat(refine A1 ⟨?_⟩;intros)
 rw [q2]
 refine Wo (ov_and rfl rfl (and_mask (x1*y0+x0*y0/4294967296) (by omega) (by omega))) ?_
 repeat(refine A1 ⟨?_⟩;intros)
 refine endR (end2 (RV.tmp rfl) (RV.tmp rfl) (Le.tup2 (Le.int ?_) (Le.int ?_)))
 all_goals(clear q1 q2 hx0 hx1 hy0 hy1;omega)
theorem abs_pu (z:Int) (h0 : -9223372036854775807≤z) (h1:z≤9223372036854775807):Pu Tryz.prog 276 [lit (.int .i64 z)] (lit (.int .u64 z.natAbs)):=by
 by_cases h:z<0
 ·rw [show(z.natAbs:Int) = -z from by omega]
  refine Pu.intro Tryz.func276 rfl (by kernel_rfl) fun C=>?_
  repeat(refine A1 ⟨?_⟩;intros)
  ((first|refine endR ?_|refine endN ?_);refine end1 (RV.tmp rfl) (Le.int ?_))
  omega
 ·rw [show(z.natAbs:Int)=z from by omega]
  refine Pu.intro Tryz.func276 rfl (by kernel_rfl) fun C=>?_
  repeat(refine A1 ⟨?_⟩;intros)
  exact E1
theorem fgcd_pu (a b:Nat) (ha:a<18446744073709551616) (hb:b<18446744073709551616):Pu Tryz.prog 275 [lit (.int .u64 a),lit (.int .u64 b)] (lit (.int .u64 (Nat.gcd a b:Nat))):=by
 refine Pu.intro Tryz.func275 rfl (by kernel_rfl) fun C=>?_
 repeat(refine A1 ⟨?_⟩;intros)
 refine WP.loop (ι:=Nat×Nat) (fun s=>Nat.gcd s.1 s.2=Nat.gcd a b∧s.1<18446744073709551616∧s.2<18446744073709551616) (fun s=>s.2)
  (fun s=>fm [(0,lit (.int .u64 s.1)),(1,lit (.int .u64 s.2))]) (fun _=>[]) (a,b) ⟨rfl,ha,hb⟩ lfA rfl ?_
 rintro ⟨c,d⟩ ⟨hg',hc,hd⟩ K hK
 simp only at hg' hc hd⊢
 by_cases h0:d=0
 ·subst h0
  rw [Nat.gcd_zero_right]at hg'
  rw [←hg']
  repeat(refine A1 ⟨?_⟩;intros)
  exact E1
 ·have hm:c%d<d:=Nat.mod_lt _ (by omega)
  have hgg:Nat.gcd d (c%d)=Nat.gcd a b:=by rw [←hg',Nat.gcd_comm c d,Nat.gcd_rec d c,Nat.gcd_comm]
  repeat(refine A1 ⟨?_⟩;intros)
  exact hK _ _ (d,c%d) ⟨hgg,hd,by simp only;omega⟩ hm lfA rfl
theorem signs_eq {a b:Int}(h:decide (a<0)=decide (b<0)):a*b=((a.natAbs*b.natAbs:Nat):Int):=by
 by_cases h1:a<0 <;> by_cases h2:b<0 <;> simp [h1,h2]at h
 ·rw [Int.natCast_mul,Int.ofNat_natAbs_of_nonpos (by omega),Int.ofNat_natAbs_of_nonpos (by omega),Int.neg_mul_neg]
 ·rw [Int.natCast_mul,Int.natAbs_of_nonneg (by omega),Int.natAbs_of_nonneg (by omega)]
theorem signs_ne {a b:Int}(h:decide (a<0)≠decide (b<0)):a*b = -((a.natAbs*b.natAbs:Nat):Int):=by
 by_cases h1:a<0 <;> by_cases h2:b<0 <;> simp [h1,h2]at h
 ·rw [Int.natCast_mul,Int.ofNat_natAbs_of_nonpos (by omega),Int.natAbs_of_nonneg (by omega),Int.neg_mul,Int.neg_neg]
 ·rw [Int.natCast_mul,Int.natAbs_of_nonneg (by omega),Int.ofNat_natAbs_of_nonpos (by omega),Int.mul_neg,Int.neg_neg]
theorem times_pu (a b:Int) (ha0 : -9223372036854775807≤a) (ha1:a≤9223372036854775807) (hb0 : -9223372036854775807≤b) (hb1:b≤9223372036854775807) :
  Pu Tryz.prog 248 [lit (.int .i64 a),lit (.int .i64 b)] (if(a*b).natAbs<4611686018427387904 then tup [lit (.int .i64 (a*b)),lit (.bool true)]else tup [lit (.int .i64 0),lit (.bool false)]):=by
 have m:=mul64_pu a.natAbs b.natAbs (by omega) (by omega)
 have e:=Int.natAbs_mul a b
 rw [←e]at m
 have hs1:decide (a<0)=decide (b<0)→a*b=((a*b).natAbs:Int):=fun h=>e▸signs_eq h
 have hs2:decide (a<0)≠decide (b<0)→a*b = -((a*b).natAbs:Int):=fun h=>e▸signs_ne h
 generalize hn:(a*b).natAbs=n at *
 generalize a*b=z at *
 by_cases h:n<4611686018427387904
 ·rw [if_pos h]
  refine Pu.intro Tryz.func248 rfl (by kernel_rfl) fun C=>?_
  repeat(refine A1 ⟨?_⟩;intros)
  refine Wc (abs_pu a ha0 ha1) ?_
  repeat(refine A1 ⟨?_⟩;intros)
  refine Wc (abs_pu b hb0 hb1) ?_
  repeat(refine A1 ⟨?_⟩;intros)
  refine Wc m ?_
  repeat(refine A1 ⟨?_⟩;intros)
  refine WPc (fun hc=>?_) (fun hc=>?_)
  ·have hz:=hs2 (by simpa using hc)
   rw [hz]
   repeat(refine A1 ⟨?_⟩;intros)
   refine endR (end2 (RV.tmp rfl) (RV.tmp rfl) (Le.tup2 (Le.int (by omega)) (Le.refl _)))
  ·have hz:=hs1 (by simpa using hc)
   rw [hz]
   repeat(refine A1 ⟨?_⟩;intros)
   refine endR (end2 (RV.tmp rfl) (RV.tmp rfl) (Le.tup2 (Le.int (by omega)) (Le.refl _)))
 ·rw [if_neg h]
  by_cases hh:n/18446744073709551616=0
  all_goals
   refine Pu.intro Tryz.func248 rfl (by kernel_rfl) fun C=>?_
   repeat(refine A1 ⟨?_⟩;intros)
   refine Wc (abs_pu a ha0 ha1) ?_
   repeat(refine A1 ⟨?_⟩;intros)
   refine Wc (abs_pu b hb0 hb1) ?_
   repeat(refine A1 ⟨?_⟩;intros)
   refine Wc m ?_
   repeat(refine A1 ⟨?_⟩;intros)
   ((first|refine endR ?_|refine endN ?_);exact end2 (RV.tmp rfl) (RV.tmp rfl) (Le.refl _))
def small (x:Rat):Prop:=x.num.natAbs<4611686018427387904∧x.den<4611686018427387904
instance (x:Rat):Decidable (small x):=by unfold small;infer_instance
def r0 (x:Rat):Int:=if small x then x.num else 0
def r1 (x:Rat):Int:=if small x then x.den-1 else 0
def r2 (x:Rat):SV:=if small x then lit (.pointer none)else pt [lit (.bool (decide (x.num<0))),nat x.num.natAbs,nat x.den]
instance (x:Rat):CO (r2 x) [r2 x]:=by unfold r2;split <;> infer_instance
abbrev fr (x:Rat):SV:=ag [lit (.int .i64 (r0 x)),lit (.int .i64 (r1 x)),r2 x]
theorem r0_s {x:Rat}(h:small x):r0 x=x.num:=if_pos h
theorem r1_s {x:Rat}(h:small x):r1 x=x.den-1:=if_pos h
theorem r2_s {x:Rat}(h:small x):r2 x=lit (.pointer none):=if_pos h
theorem r0_b {x:Rat}(h:¬small x):r0 x=0:=if_neg h
theorem r1_b {x:Rat}(h:¬small x):r1 x=0:=if_neg h
theorem r2_b {x:Rat}(h:¬small x):r2 x=pt [lit (.bool (decide (x.num<0))),nat x.num.natAbs,nat x.den]:=if_neg h
theorem fr_s {x:Rat}(h:small x):fr x=ag [lit (.int .i64 x.num),lit (.int .i64 (x.den-1)),lit (.pointer none)]:=by rw [fr,r0_s h,r1_s h,r2_s h]
theorem fr_b {x:Rat}(h:¬small x):fr x=ag [lit (.int .i64 0),lit (.int .i64 0),pt [lit (.bool (decide (x.num<0))),nat x.num.natAbs,nat x.den]]:=by rw [fr,r0_b h,r1_b h,r2_b h]
theorem mk_num (a:Int){d:Nat}(h:d≠0):(mkRat a d).num=a/(Int.gcd a d:Nat)∧(mkRat a d).den=d/Int.gcd a d:=by
 rw [Rat.mkRat_def,dif_neg h,Rat.normalize_eq]
 exact⟨rfl,rfl⟩
set_option maxHeartbeats 1000000 in
theorem lowest_pu (a:Int) (d:Nat) (ha:a.natAbs<4611686018427387904) (hd0:d≠0) (hd:d<4611686018427387904):Pu Tryz.prog 249 [lit (.int .i64 a),lit (.int .i64 d)] (fr (mkRat a d)):=by
 obtain⟨e1,e2⟩:=mk_num a hd0
 have hg0:Int.gcd a d≠0:=fun h=>hd0 (by have:=Int.gcd_eq_zero_iff.1 h;omega)
 have hgd:Int.gcd a d∣d:=by have:=Int.gcd_dvd_right a (d:Int);exact Int.natCast_dvd_natCast.1 this
 have hga:(Int.gcd a d:Int)∣a:=Int.gcd_dvd_left a (d:Int)
 have hgl:Int.gcd a d≤d:=Nat.le_of_dvd (by omega) hgd
 have eg:Int.gcd a d=Nat.gcd a.natAbs d:=rfl
 have ht:a.tdiv (Int.gcd a d:Nat)=a/(Int.gcd a d:Nat):=Int.tdiv_eq_ediv_of_dvd hga
 have hta:(a/((Int.gcd a d:Nat):Int)).natAbs≤a.natAbs:=by rw [←ht,Int.natAbs_tdiv];exact Nat.div_le_self _ _
 have hdd:=Nat.div_le_self d (Int.gcd a d)
 have hd1:d/Int.gcd a d≠0:=fun h=>by have:=Nat.div_mul_cancel hgd;rw [h]at this;omega
 have hsm:small (mkRat a d):=by unfold small;rw [e1,e2];omega
 rw [fr_s hsm,e1,e2]
 have g:=fgcd_pu a.natAbs d (by omega) (by omega)
 rw [←eg]at g
 generalize Int.gcd a d=n at *
 have htd:(d:Int).tdiv (n:Int)=((d/n:Nat):Int):=rfl
 by_cases h1:1<n
 ·refine Pu.intro Tryz.func249 rfl (by kernel_rfl) fun C=>?_
  repeat(refine A1 ⟨?_⟩;intros)
  refine Wc (abs_pu a (by omega) (by omega)) ?_
  repeat(refine A1 ⟨?_⟩;intros)
  refine Wc g ?_
  repeat(refine A1 ⟨?_⟩;intros)
  rw [ht]
  generalize a/(n:Int)=u at *
  generalize d/n=v at *
  ((first|refine endR ?_|refine endN ?_);refine end1 RVa (Le.refl _))
 ·have hn:n=1:=by omega
  subst hn
  rw [Nat.div_one,Int.natCast_one,Int.ediv_one]
  refine Pu.intro Tryz.func249 rfl (by kernel_rfl) fun C=>?_
  repeat(refine A1 ⟨?_⟩;intros)
  refine Wc (abs_pu a (by omega) (by omega)) ?_
  repeat(refine A1 ⟨?_⟩;intros)
  refine Wc g ?_
  repeat(refine A1 ⟨?_⟩;intros)
  ((first|refine endR ?_|refine endN ?_);refine end1 RVa (Le.refl _))
end Go.Ab
