/- Texts laid one behind the other: Bits, FracA. -/
import Derived.Test.YtpeidlcjlfkpcaaGreatDoorB04
set_option linter.all false
set_option maxHeartbeats 16000000
namespace Go.Ab
open Go.Proofs
variable [Base]
theorem LP {x0 x1 y0 y1:Nat}{a b:Nat}(ha:a=x0+4294967296*x1) (hb:b=y0+4294967296*y1) :
  a*b=x0*y0+4294967296*(x1*y0)+4294967296*(x0*y1)+18446744073709551616*(x1*y1):=by
 subst ha;subst hb;rw [aT,aM,aM,aI,aI,qc x0];rw [qc x1 4294967296,←aI 4294967296 4294967296];omega
theorem LO (a b:Nat) (ha:a<18446744073709551616) (hb:b<18446744073709551616):Pu Tryz.prog 289 [lit (.int .u64 a),lit (.int .u64 b)] (tup [lit (.int .u64 (a*b/18446744073709551616:Nat)),lit (.int .u64 (a*b%18446744073709551616:Nat))]):=by
 obtain⟨x0,hx0⟩:∃x,x=a%4294967296:=⟨_,rfl⟩
 obtain⟨x1,hx1⟩:∃x,x=a/4294967296:=⟨_,rfl⟩
 obtain⟨y0,hy0⟩:∃x,x=b%4294967296:=⟨_,rfl⟩
 obtain⟨y1,hy1⟩:∃x,x=b/4294967296:=⟨_,rfl⟩
 have l1:x0<4294967296:=by omega
 have l2:x1<4294967296:=by omega
 have l3:y0<4294967296:=by omega
 have l4:y1<4294967296:=by omega
 have e:=LP (x0:=x0) (x1:=x1) (y0:=y0) (y1:=y1) (a:=a) (b:=b) om om;have p1:=mM l1 l3;have p2:=mM l2 l3;have p3:=mM l1 l4;have p4:=mM l2 l4;have c1:=cX x0 y0;have c2:=cX x1 y0;have c3:=cX x0 y1;have c4:=cX x1 y1;have c5:=cX a b;have q1:(a:Int)/4294967296=(x1:Int):=by omega
 have q2:(b:Int)/4294967296=(y1:Int):=by omega
 refine Pi Tryz.func289 fun C=>?_
 refine A2 ⟨?_⟩;intros;refine Wo (yo rfl rfl (rI a rfl ha)) ?_;rw [←hx0];refine A2 ⟨?_⟩;intros;refine Wo (yo rfl rfl (rI b rfl hb)) ?_;rw [←hy0,q1];refine A2 ⟨?_⟩;intros;rw [q2];refine Wo (yo rfl rfl (rI (x1*y0+x0*y0/4294967296) om om)) ?_;refine A2 ⟨?_⟩;intros;refine cV (eJ (RV.tmp rfl) (RV.tmp rfl) (Le.tup2 (Le.int ?_) (Le.int ?_)));all_goals(clear q1 q2 hx0 hx1 hy0 hy1;omega)
theorem rK (z:Int) (h0 : -9223372036854775807≤z) (h1:z≤9223372036854775807):Pu Tryz.prog 209 [lit (.int .i64 z)] (lit (.int .u64 z.natAbs)):=by
 by_cases h:z<0
 ·rw [show(z.natAbs:Int) = -z from by omega];refine Pi Tryz.func209 fun C=>?_
  refine A2 ⟨?_⟩;intros;((first|refine cV ?_|refine jK ?_);refine bJ (RV.tmp rfl) (Le.int ?_))
  omega
 ·rw [show(z.natAbs:Int)=z from by omega];refine Pi Tryz.func209 fun C=>?_
  exact Z1
theorem HB (a b:Nat) (ha:a<18446744073709551616) (hb:b<18446744073709551616):Pu Tryz.prog 208 [lit (.int .u64 a),lit (.int .u64 b)] (lit (.int .u64 (Nat.gcd a b:Nat))):=by
 refine Pi Tryz.func208 fun C=>?_
 refine A2 ⟨?_⟩;intros
 refine WP.loop (ι:=Nat×Nat) (fun s=>Nat.gcd s.1 s.2=Nat.gcd a b∧s.1<18446744073709551616∧s.2<18446744073709551616) (fun s=>s.2)
  (fun s=>fm [(0,lit (.int .u64 s.1)),(1,lit (.int .u64 s.2))]) (fun _=>[]) (a,b) ⟨rfl,ha,hb⟩ lfA rfl ?_
 rintro ⟨c,d⟩ ⟨hg',hc,hd⟩ K hK;simp only at hg' hc hd⊢;by_cases h0:d=0
 ·subst h0;rw [lD]at hg';rw [←hg'];exact Z1
 ·have hm:c%d<d:=cS _ om;have hgg:Nat.gcd d (c%d)=Nat.gcd a b:=by rw [←hg',ge c d,lC d c,ge]
  refine A2 ⟨?_⟩;intros;exact hK _ _ (d,c%d) ⟨hgg,hd,by simp only;omega⟩ hm lfA rfl
theorem Ks {a b:Int}(h:decide (a<0)=decide (b<0)):a*b=((a.natAbs*b.natAbs:Nat):Int):=by
 by_cases h1:a<0 <;> by_cases h2:b<0 <;> simp [h1,h2]at h
 ·rw [cX,q8 om,q8 om,Int.neg_mul_neg]
 ·rw [cX,nI om,nI om]
theorem Kr {a b:Int}(h:decide (a<0)≠decide (b<0)):a*b = -((a.natAbs*b.natAbs:Nat):Int):=by
 by_cases h1:a<0 <;> by_cases h2:b<0 <;> simp [h1,h2]at h
 ·rw [cX,q8 om,nI om,Int.neg_mul,Int.neg_neg]
 ·rw [cX,nI om,q8 om,qd,Int.neg_neg]
theorem xV (a b:Int) (ha0 : -9223372036854775807≤a) (ha1:a≤9223372036854775807) (hb0 : -9223372036854775807≤b) (hb1:b≤9223372036854775807) :
  Pu Tryz.prog 263 [lit (.int .i64 a),lit (.int .i64 b)] (if(a*b).natAbs<4611686018427387904 then tup [lit (.int .i64 (a*b)),lit (.bool true)]else tup [lit (.int .i64 0),lit (.bool false)]):=by
 have m:=LO a.natAbs b.natAbs om om;have e:=fx a b;rw [←e]at m;have hs1:decide (a<0)=decide (b<0)→a*b=((a*b).natAbs:Int):=fun h=>e▸Ks h
 have hs2:decide (a<0)≠decide (b<0)→a*b = -((a*b).natAbs:Int):=fun h=>e▸Kr h
 generalize hn:(a*b).natAbs=n at *;generalize a*b=z at *;by_cases h:n<4611686018427387904
 ·rw [if_pos h];refine Pi Tryz.func263 fun C=>?_
  refine A2 ⟨?_⟩;intros;refine Wc (rK a ha0 ha1) ?_;refine A2 ⟨?_⟩;intros;refine Wc (rK b hb0 hb1) ?_;refine A2 ⟨?_⟩;intros;refine Wc m ?_;refine A2 ⟨?_⟩;intros;refine WPc (fun hc=>?_) (fun hc=>?_)
  ·have hz:=hs2 (by simpa using hc);rw [hz];refine A2 ⟨?_⟩;intros;refine cV (eJ (RV.tmp rfl) (RV.tmp rfl) (Le.tup2 (Le.int om) Lr))
  ·have hz:=hs1 (by simpa using hc);rw [hz];refine A2 ⟨?_⟩;intros;refine cV (eJ (RV.tmp rfl) (RV.tmp rfl) (Le.tup2 (Le.int om) Lr))
 ·rw [if_neg h];by_cases hh:n/18446744073709551616=0
  all_goals
   refine Pi Tryz.func263 fun C=>?_
   refine A2 ⟨?_⟩;intros;refine Wc (rK a ha0 ha1) ?_;refine A2 ⟨?_⟩;intros;refine Wc (rK b hb0 hb1) ?_;refine A2 ⟨?_⟩;intros;refine Wc m ?_;refine A2 ⟨?_⟩;intros;exact G2
def dW (x:Rat):Prop:=x.num.natAbs<4611686018427387904∧x.den<4611686018427387904
instance (x:Rat):Decidable (dW x):=by unfold dW;infer_instance
def r0 (x:Rat):Int:=if dW x then x.num else 0
def r1 (x:Rat):Int:=if dW x then x.den-1 else 0
def r2 (x:Rat):SV:=if dW x then lit (.pointer none)else pt [lit (.bool (decide (x.num<0))),nat x.num.natAbs,nat x.den]
instance (x:Rat):CO (r2 x) [r2 x]:=by unfold r2;split <;> infer_instance
abbrev fr (x:Rat):SV:=ag [lit (.int .i64 (r0 x)),lit (.int .i64 (r1 x)),r2 x]
theorem EX {x:Rat}(h:dW x):r0 x=x.num:=if_pos h
theorem EW {x:Rat}(h:dW x):r1 x=x.den-1:=if_pos h
theorem EV {x:Rat}(h:dW x):r2 x=lit (.pointer none):=if_pos h
theorem KS {x:Rat}(h:¬dW x):r0 x=0:=if_neg h
theorem KR {x:Rat}(h:¬dW x):r1 x=0:=if_neg h
theorem KQ {x:Rat}(h:¬dW x):r2 x=pt [lit (.bool (decide (x.num<0))),nat x.num.natAbs,nat x.den]:=if_neg h
theorem kh {x:Rat}(h:dW x):fr x=ag [lit (.int .i64 x.num),lit (.int .i64 (x.den-1)),lit (.pointer none)]:=by rw [fr,EX h,EW h,EV h]
theorem sK {x:Rat}(h:¬dW x):fr x=ag [lit (.int .i64 0),lit (.int .i64 0),pt [lit (.bool (decide (x.num<0))),nat x.num.natAbs,nat x.den]]:=by rw [fr,KS h,KR h,KQ h]
theorem BO (a:Int){d:Nat}(h:d≠0):(mkRat a d).num=a/(Int.gcd a d:Nat)∧(mkRat a d).den=d/Int.gcd a d:=by
 rw [Rat.mkRat_def,dif_neg h,Rat.normalize_eq];exact⟨rfl,rfl⟩
theorem AC (a:Int) (d:Nat) (ha:a.natAbs<4611686018427387904) (hd0:d≠0) (hd:d<4611686018427387904):Pu Tryz.prog 264 [lit (.int .i64 a),lit (.int .i64 d)] (fr (mkRat a d)):=by
 obtain⟨e1,e2⟩:=BO a hd0;have hg0:Int.gcd a d≠0:=fun h=>hd0 (by have:=Int.gcd_eq_zero_iff.1 h;omega)
 have hgd:Int.gcd a d∣d:=by have:=Int.gcd_dvd_right a (d:Int);exact Int.natCast_dvd_natCast.1 this
 have hga:(Int.gcd a d:Int)∣a:=tg a (d:Int);have hgl:Int.gcd a d≤d:=q7 om hgd;have eg:Int.gcd a d=Nat.gcd a.natAbs d:=rfl;have ht:a.tdiv (Int.gcd a d:Nat)=a/(Int.gcd a d:Nat):=xD hga;have hta:(a/((Int.gcd a d:Nat):Int)).natAbs≤a.natAbs:=by rw [←ht,Int.natAbs_tdiv];exact dw _ _
 have hdd:=dw d (Int.gcd a d);have hd1:d/Int.gcd a d≠0:=fun h=>by have:=Nat.div_mul_cancel hgd;rw [h]at this;omega
 have hsm:dW (mkRat a d):=by unfold dW;rw [e1,e2];omega
 rw [kh hsm,e1,e2];have g:=HB a.natAbs d om om;rw [←eg]at g;generalize Int.gcd a d=n at *;have htd:(d:Int).tdiv (n:Int)=((d/n:Nat):Int):=rfl;by_cases h1:1<n
 ·refine Pi Tryz.func264 fun C=>?_
  refine A2 ⟨?_⟩;intros;refine Wc (rK a om om) ?_;refine A2 ⟨?_⟩;intros;refine Wc g ?_;refine A2 ⟨?_⟩;intros;rw [ht];generalize a/(n:Int)=u at *;generalize d/n=v at *;exact G1
 ·have hn:n=1:=by omega
  subst hn;rw [kF,Int.natCast_one,Int.ediv_one];refine Pi Tryz.func264 fun C=>?_
  refine A2 ⟨?_⟩;intros;refine Wc (rK a om om) ?_;refine A2 ⟨?_⟩;intros;refine Wc g ?_;exact Z2
end Go.Ab
