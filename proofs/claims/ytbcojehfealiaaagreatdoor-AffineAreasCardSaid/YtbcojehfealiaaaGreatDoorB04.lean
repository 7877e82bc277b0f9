/- Texts laid one behind the other: FracA, NatG, Cap, NatH, NatI, LongA. -/
import Derived.Test.YtbcojehfealiaaaGreatDoorB03
set_option linter.all false
set_option maxHeartbeats 16000000
namespace Go.Ab
open Go.Proofs
variable [Base]
theorem l7 (z:Int) (h0 : -9223372036854775807≤z) (h1:z≤9223372036854775807):Pu Tryz.prog 211 [lit (.int .i64 z)] (lit (.int .u64 z.natAbs)):=by
 by_cases h:z<0
 ·rw [show(z.natAbs:Int) = -z from by omega];refine Pi Tryz.func211 fun C=>?_
  repeat(refine A1 ⟨?_⟩;intros)
  ((first|refine aS ?_|refine eV ?_);refine aJ (RV.tmp rfl) (Le.int ?_))
  omega
 ·rw [show(z.natAbs:Int)=z from by omega];refine Pi Tryz.func211 fun C=>?_
  exact Z1
theorem Bb (a b:Nat) (ha:a<18446744073709551616) (hb:b<18446744073709551616):Pu Tryz.prog 212 [lit (.int .u64 a),lit (.int .u64 b)] (lit (.int .u64 (Nat.gcd a b:Nat))):=by
 refine Pi Tryz.func212 fun C=>?_
 repeat(refine A1 ⟨?_⟩;intros)
 refine WP.loop (ι:=Nat×Nat) (fun s=>Nat.gcd s.1 s.2=Nat.gcd a b∧s.1<18446744073709551616∧s.2<18446744073709551616) (fun s=>s.2)
  (fun s=>fm [(0,lit (.int .u64 s.1)),(1,lit (.int .u64 s.2))]) (fun _=>[]) (a,b) ⟨rfl,ha,hb⟩ lfA rfl ?_
 rintro ⟨c,d⟩ ⟨hg',hc,hd⟩ K hK;simp only at hg' hc hd⊢;by_cases h0:d=0
 ·subst h0;rw [Nat.gcd_zero_right]at hg';rw [←hg'];exact Z1
 ·have hm:c%d<d:=Nat.mod_lt _ om;have hgg:Nat.gcd d (c%d)=Nat.gcd a b:=by rw [←hg',Nat.gcd_comm c d,Nat.gcd_rec d c,Nat.gcd_comm]
  repeat(refine A1 ⟨?_⟩;intros)
  exact hK _ _ (d,c%d) ⟨hgg,hd,by simp only;omega⟩ hm lfA rfl
theorem DT {a b:Int}(h:decide (a<0)=decide (b<0)):a*b=((a.natAbs*b.natAbs:Nat):Int):=by
 by_cases h1:a<0 <;> by_cases h2:b<0 <;> simp [h1,h2]at h
 ·rw [Int.natCast_mul,Int.ofNat_natAbs_of_nonpos om,Int.ofNat_natAbs_of_nonpos om,Int.neg_mul_neg]
 ·rw [Int.natCast_mul,Int.natAbs_of_nonneg om,Int.natAbs_of_nonneg om]
theorem DR {a b:Int}(h:decide (a<0)≠decide (b<0)):a*b = -((a.natAbs*b.natAbs:Nat):Int):=by
 by_cases h1:a<0 <;> by_cases h2:b<0 <;> simp [h1,h2]at h
 ·rw [Int.natCast_mul,Int.ofNat_natAbs_of_nonpos om,Int.natAbs_of_nonneg om,Int.neg_mul,Int.neg_neg]
 ·rw [Int.natCast_mul,Int.natAbs_of_nonneg om,Int.ofNat_natAbs_of_nonpos om,Int.mul_neg,Int.neg_neg]
theorem qK (a b:Int) (ha0 : -9223372036854775807≤a) (ha1:a≤9223372036854775807) (hb0 : -9223372036854775807≤b) (hb1:b≤9223372036854775807) :
  Pu Tryz.prog 156 [lit (.int .i64 a),lit (.int .i64 b)] (if(a*b).natAbs<4611686018427387904 then tup [lit (.int .i64 (a*b)),lit (.bool true)]else tup [lit (.int .i64 0),lit (.bool false)]):=by
 have m:=EY a.natAbs b.natAbs om om;have e:=Int.natAbs_mul a b;rw [←e]at m;have hs1:decide (a<0)=decide (b<0)→a*b=((a*b).natAbs:Int):=fun h=>e▸DT h
 have hs2:decide (a<0)≠decide (b<0)→a*b = -((a*b).natAbs:Int):=fun h=>e▸DR h
 generalize hn:(a*b).natAbs=n at *;generalize a*b=z at *;by_cases h:n<4611686018427387904
 ·rw [if_pos h];refine Pi Tryz.func156 fun C=>?_
  repeat(refine A1 ⟨?_⟩;intros)
  refine Wc (l7 a ha0 ha1) ?_;repeat(refine A1 ⟨?_⟩;intros)
  refine Wc (l7 b hb0 hb1) ?_;repeat(refine A1 ⟨?_⟩;intros)
  refine Wc m ?_;repeat(refine A1 ⟨?_⟩;intros)
  refine WPc (fun hc=>?_) (fun hc=>?_)
  ·have hz:=hs2 (by simpa using hc);rw [hz];repeat(refine A1 ⟨?_⟩;intros)
   refine aS (fF (RV.tmp rfl) (RV.tmp rfl) (Le.tup2 (Le.int om) Lr))
  ·have hz:=hs1 (by simpa using hc);rw [hz];repeat(refine A1 ⟨?_⟩;intros)
   refine aS (fF (RV.tmp rfl) (RV.tmp rfl) (Le.tup2 (Le.int om) Lr))
 ·rw [if_neg h];by_cases hh:n/18446744073709551616=0
  all_goals
   refine Pi Tryz.func156 fun C=>?_
   repeat(refine A1 ⟨?_⟩;intros)
   refine Wc (l7 a ha0 ha1) ?_;repeat(refine A1 ⟨?_⟩;intros)
   refine Wc (l7 b hb0 hb1) ?_;repeat(refine A1 ⟨?_⟩;intros)
   refine Wc m ?_;repeat(refine A1 ⟨?_⟩;intros)
   exact G2
def bz (x:Rat):Prop:=x.num.natAbs<4611686018427387904∧x.den<4611686018427387904
instance (x:Rat):Decidable (bz x):=by unfold bz;infer_instance
def r0 (x:Rat):Int:=if bz x then x.num else 0
def r1 (x:Rat):Int:=if bz x then x.den-1 else 0
def r2 (x:Rat):SV:=if bz x then lit (.pointer none)else pt [lit (.bool (decide (x.num<0))),nat x.num.natAbs,nat x.den]
instance (x:Rat):CO (r2 x) [r2 x]:=by unfold r2;split <;> infer_instance
abbrev fr (x:Rat):SV:=ag [lit (.int .i64 (r0 x)),lit (.int .i64 (r1 x)),r2 x]
theorem wP {x:Rat}(h:bz x):r0 x=x.num:=if_pos h
theorem yQ {x:Rat}(h:bz x):r1 x=x.den-1:=if_pos h
theorem yP {x:Rat}(h:bz x):r2 x=lit (.pointer none):=if_pos h
theorem Ee {x:Rat}(h:¬bz x):r0 x=0:=if_neg h
theorem Ed {x:Rat}(h:¬bz x):r1 x=0:=if_neg h
theorem Ec {x:Rat}(h:¬bz x):r2 x=pt [lit (.bool (decide (x.num<0))),nat x.num.natAbs,nat x.den]:=if_neg h
theorem fE {x:Rat}(h:bz x):fr x=ag [lit (.int .i64 x.num),lit (.int .i64 (x.den-1)),lit (.pointer none)]:=by rw [fr,wP h,yQ h,yP h]
theorem mS {x:Rat}(h:¬bz x):fr x=ag [lit (.int .i64 0),lit (.int .i64 0),pt [lit (.bool (decide (x.num<0))),nat x.num.natAbs,nat x.den]]:=by rw [fr,Ee h,Ed h,Ec h]
theorem vk (a:Int){d:Nat}(h:d≠0):(mkRat a d).num=a/(Int.gcd a d:Nat)∧(mkRat a d).den=d/Int.gcd a d:=by
 rw [Rat.mkRat_def,dif_neg h,Rat.normalize_eq];exact⟨rfl,rfl⟩
theorem tQ (a:Int) (d:Nat) (ha:a.natAbs<4611686018427387904) (hd0:d≠0) (hd:d<4611686018427387904):Pu Tryz.prog 157 [lit (.int .i64 a),lit (.int .i64 d)] (fr (mkRat a d)):=by
 obtain⟨e1,e2⟩:=vk a hd0;have hg0:Int.gcd a d≠0:=fun h=>hd0 (by have:=Int.gcd_eq_zero_iff.1 h;omega)
 have hgd:Int.gcd a d∣d:=by have:=Int.gcd_dvd_right a (d:Int);exact Int.natCast_dvd_natCast.1 this
 have hga:(Int.gcd a d:Int)∣a:=Int.gcd_dvd_left a (d:Int);have hgl:Int.gcd a d≤d:=Nat.le_of_dvd om hgd;have eg:Int.gcd a d=Nat.gcd a.natAbs d:=rfl;have ht:a.tdiv (Int.gcd a d:Nat)=a/(Int.gcd a d:Nat):=Int.tdiv_eq_ediv_of_dvd hga;have hta:(a/((Int.gcd a d:Nat):Int)).natAbs≤a.natAbs:=by rw [←ht,Int.natAbs_tdiv];exact Nat.div_le_self _ _
 have hdd:=Nat.div_le_self d (Int.gcd a d);have hd1:d/Int.gcd a d≠0:=fun h=>by have:=Nat.div_mul_cancel hgd;rw [h]at this;omega
 have hsm:bz (mkRat a d):=by unfold bz;rw [e1,e2];omega
 rw [fE hsm,e1,e2];have g:=Bb a.natAbs d om om;rw [←eg]at g;generalize Int.gcd a d=n at *;have htd:(d:Int).tdiv (n:Int)=((d/n:Nat):Int):=rfl;by_cases h1:1<n
 ·refine Pi Tryz.func157 fun C=>?_
  repeat(refine A1 ⟨?_⟩;intros)
  refine Wc (l7 a om om) ?_;repeat(refine A1 ⟨?_⟩;intros)
  refine Wc g ?_;repeat(refine A1 ⟨?_⟩;intros)
  rw [ht];generalize a/(n:Int)=u at *;generalize d/n=v at *;exact G1
 ·have hn:n=1:=by omega
  subst hn;rw [Nat.div_one,Int.natCast_one,Int.ediv_one];refine Pi Tryz.func157 fun C=>?_
  repeat(refine A1 ⟨?_⟩;intros)
  refine Wc (l7 a om om) ?_;repeat(refine A1 ⟨?_⟩;intros)
  refine Wc g ?_;exact Z2
theorem pL {vp vo d r x v q r':Nat}(h:vp=vo*d+r) (hv:v=r*4294967296+x) (hq:q=v/d) (hr:r'=v%d):x+4294967296*vp=(q+4294967296*vo)*d+r':=by
 subst hq;subst hr;subst h;have e:=Nat.div_add_mod v d;rw [Nat.add_mul,Nat.mul_comm (v/d) d,Nat.mul_add,←Nat.mul_assoc];omega
theorem j8 (ds:List Nat) (j x:Nat) (h:j<ds.length):(ds.set j x).drop j=x::ds.drop (j+1):=by
 rw [cM _ j (by simpa using h),show(ds.set j x).getD j 0=x from by simp [List.getD,h]];congr 1
 rw [List.drop_set];simp
theorem BO (xs:List Nat) (d:Nat) (hla:xs.length≤100000000) (hP:D xs) (hd0:d≠0) (hd:d<4294967296):Pu Tryz.prog 222 [dg xs,lit (.int .u32 d)] (tup [nat (val xs/d),lit (.int .u32 (val xs%d:Nat))]):=by
 refine Pi Tryz.func222 fun C=>?_
 repeat(refine A1 ⟨?_⟩;intros)
 refine oM xs.length rfl rfl om om fun bb=>?_
 repeat(refine A1 ⟨?_⟩;intros)
 refine WP.loop (ι:=Nat×Nat×List Nat) (fun s=>s.1≤xs.length∧s.2.1<d∧s.2.2.length=xs.length∧D s.2.2∧val (xs.drop s.1)=val (s.2.2.drop s.1)*d+s.2.1) (fun s=>s.1)
  (fun s=>fm [(0,dg xs),(1,lit (.int .u32 d)),(6,lit (.slice (some ⟨bb,0,none⟩) xs.length xs.length)),(7,lit (.int .u64 s.2.1)),(8,lit (.int .i64 ((s.1:Int)-1)))])
  (fun s=>[(bb,188,ax s.2.2)]) (xs.length,0,List.replicate xs.length 0) ⟨Nat.le_refl _,by simp only;omega,by simp,D.rep _,by simp [val]⟩ lfA rfl ?_
 rintro ⟨k,r,os⟩ ⟨hk,hr,hol,hO,hval⟩ K hK;simp only at hk hr hol hO hval⊢;rcases k with _|j
 ·repeat(refine A1 ⟨?_⟩;intros)
  refine g9 (ds:=os) 40 rfl (ak.here _) hol om om ?_;refine Wc (cU os om hO) ?_;simp only [List.drop_zero]at hval
  have hq:val os=val xs/d:=by
   rw [hval,Nat.mul_comm,Nat.mul_add_div om,Nat.div_eq_of_lt hr,Nat.add_zero]
  have hm:r=val xs%d:=by
   rw [hval,Nat.mul_comm,Nat.mul_add_mod,Nat.mod_eq_of_lt hr]
  rw [hq];repeat(refine A1 ⟨?_⟩;intros)
  rw [hm];exact G2
 ·rw [show(((j+1:Nat):Int)-1)=(j:Int)from by omega];have hx:=hP.get j
  have hlt:(r*4294967296+xs.getD j 0)/d<4294967296:=by
   rw [Nat.div_lt_iff_lt_mul om];have:(r+1)*4294967296≤d*4294967296:=Nat.mul_le_mul_right _ hr;rw [Nat.mul_comm 4294967296];omega
  have hrm:(r*4294967296+xs.getD j 0)%d<d:=Nat.mod_lt _ om;repeat(refine A1 ⟨?_⟩;intros)
  refine Wo (kE rfl rfl (zf r (xs.getD j 0) rfl rfl om hx)) ?_;generalize hv:r*4294967296+xs.getD j 0=v at *;have hvb:v≤18446744073709551615:=by omega
  repeat(refine A1 ⟨?_⟩;intros)
  generalize hq:v/d=q at *;refine f8 q rfl rfl om (ay.here _) om ?_;repeat(refine A1 ⟨?_⟩;intros)
  refine hK _ _ (j,v%d,os.set j q) ⟨by simp only;omega,hrm,by simpa using hol,hO.set _ hlt,?_⟩ (by simp only;omega) lfA rfl;simp only;rw [cM xs j om,j8 os j _ om,du,du];exact pL hval hv.symm hq.symm rfl
@[irreducible] def dgc (ds:List Nat) (c:Nat):SV:=⟨fun m v=>∃a,v = .slice a ds.length c∧ds.length≤c∧c≤maxLen∧(ds=[]∨∃b off,a=some ⟨b,off,none⟩∧dD m b off (ax ds)),
 fun h ⟨a,e,x,y,k⟩=>⟨a,e,x,y,k.imp id fun⟨b,off,e,k⟩=>⟨b,off,e,k.mono h⟩⟩⟩
theorem zN (ds:List Nat) (c:Nat):Le (dgc ds c) (dg ds):=fun m v h=>by
 unfold dgc at h;obtain⟨a,rfl,h1,h2,h3⟩:=h;rw [pX];exact f4 h1 h2 (h3.imp (fun e=>by rw [e];rfl) id)
instance (ds:List Nat) (c:Nat):CO (dgc ds c) [dgc ds c]:=fX fun m v h=>by unfold dgc at h;obtain⟨a,rfl,_⟩:=h;exact⟨rfl,rfl⟩
section
variable {P:Program}{C:Ctx}{n:Nat}{F:Fr}{H:LH}{ops:Array Oper}{K:Fr→LH→Prop}{rest:List Oper}{ty:TypeId}{pos:String}{aft:Array Edge}
theorem OpV.low {op:Op}{sv s:SV}(t:Nat) (hle:Le (F t) s) (h:OpV P op ty (upd F t s) H sv):OpV P op ty F H sv:=by
 unfold OpV at *;exact fun m w o a ho hty h1 h2 h3=>h m w o a ho hty h1 h2 fun t' ht=>LeF.upd hle (LeF.refl F) t' m _ (h3 t' ht)
theorem qi {t:Nat}{T e:TypeId} [TSl P T e]{ds:List Nat}{c:Nat}(hx:F t=dgc ds c):OpV P (.call ⟨.builtin .len,#[.tmp t],#[T]⟩) ty F H (lit (.int .i64 ds.length)) :=
 OpV.low t (hx▸zN ds c) (AD (x := .tmp t) aF)
theorem HN {t t':Nat}(hne:t'≠t){T e:TypeId}{by_:Nat}{z:List SV}{g:Bool} [TSl P T e] [TY P e 1 by_ z g]{ki:IntKind}{ds:List Nat}{c i:Nat}
  (hx:F t=dgc ds c) (hi:F t'=lit (.int ki i)) (h1:i<ds.length):OpV P (.indexAddr T (.tmp t) (.tmp t')) ty F H (pt [lit (.int .u32 (ds.getD i 0:Nat))]) :=
 OpV.low t (hx▸zN ds c) (lK (x := .tmp t) (ix := .tmp t') aF ((av hne).trans hi) h1)
theorem JV {x y:Operand}{T e:TypeId}{by_:Nat}{z:List SV}{g:Bool} [hT:TSl P T e] [hE:TY P e 1 by_ z g]{ds:List Nat}{ki:IntKind}{v:Int}{c:Nat}(j:Nat)
  (hx:ev F x=dgc ds c) (hy:ev F y=lit (.int ki v)) (hv:v=(j:Int)) (hj:j≤ds.length):OpV P (.slice T x none (some y) none) ty F H (dgc (ds.take j) c) :=
 OpV.pure fun m w o a ho _ _ _ h=>by
  have e0:=h x (by simp [Op.operands]);rw [hx]at e0;have e1:=h y (by simp [Op.operands]);rw [hy,aq]at e1;subst hv;unfold dgc at e0;obtain⟨ad,e0,h1,h2,h3⟩:=e0;have hjc:(j:Int)≤(c:Int):=by omega
  have hjn:¬c<j:=by omega
  have hlen:(ds.take j).length=j:=by rw [List.length_take];omega
  refine⟨.slice (if c=0 then ad else ad.map (·.add 0)) j c,?_,?_⟩
  ·simp [execOp,ho,Instr.sliceAt,Instr.slice,underlying,hT.h,e0,e1,Instr.sliceBounds,Instr.sliceBound,asIntOf,hjc,hjn,hE.run_size]
  ·unfold dgc;refine⟨_,by rw [hlen],om,h2,?_⟩;rcases h3 with h3|⟨b,off,rfl,h3⟩
   ·left;rw [h3,List.take_nil]
   ·right;refine⟨b,off,by simp [aO],?_⟩;have:=h3.take j;rwa [show(ax ds).take j=ax (ds.take j)from by simp [ax,List.map_take]]at this
theorem Lx {l:List Oper}{b:Nat}{T:TypeId}{ds:List Nat}{H':LH}{k c:Nat}(d:Nat) (hv:F d=lit (.slice (some ⟨b,0,none⟩) k c)) (hdel:ak b T (ax ds) H H') (hk:ds.length=k) (hc:k≤c) (hc':c≤1000000000)
  (h:WPL P C n ops l K (upd F d (dgc ds c)) H'):WPL P C n ops l K F H:=by
 subst hk;refine WPL.pub hdel hv (fun m arr hm ha=>?_) h;unfold dgc;exact⟨_,rfl,hc,by simp only [maxLen];omega, .inr ⟨b,0,rfl,arr,T,(0,0),hm,by rw [List.drop_zero,←ha.length,List.take_length];exact ha⟩⟩
theorem Ha {b:Nat}{T:TypeId}{ds:List Nat}{k c:Nat}(h0:k≤ds.length) (h1:k≤c) (h2:c≤maxLen) (m:Mem) (arr:Array Value) (hm:m b=some (.cells arr T (0,0))) (ha:az m (ax ds) arr.toList) :
  (dg (ds.take k)).p m (.slice (some ⟨b,0,none⟩) k c):=by
 rw [pX,show(ds.take k).length=k from by rw [List.length_take];omega];refine f4 h1 h2 (.inr ⟨b,0,rfl,arr,T,(0,0),hm,?_⟩);have:=ha.take k;rw [List.drop_zero,List.length_map,show(ds.take k).length=k from by rw [List.length_take];omega];rwa [show(ax ds).take k=ax (ds.take k)from by simp [ax,List.map_take]]at this
theorem JU {x y:Operand}{T e:TypeId}{by_:Nat}{z:List SV}{g:Bool} [hT:TSl P T e] [hE:TY P e 1 by_ z g]{ki:IntKind}{v:Int}{b k c:Nat}(j:Nat)
  (hx:ev F x=lit (.slice (some ⟨b,0,none⟩) k c)) (hy:ev F y=lit (.int ki v)) (hv:v=(j:Int)) (hj:j≤c):OpV P (.slice T x none (some y) none) ty F H (lit (.slice (some ⟨b,0,none⟩) j c)) :=
 OpV.pure fun m w o a ho _ _ _ h=>by
  have e0:=h x (by simp [Op.operands]);rw [hx,aq]at e0;have e1:=h y (by simp [Op.operands]);rw [hy,aq]at e1;subst hv;have hjc:(j:Int)≤(c:Int):=by omega
  have hjn:¬c<j:=by omega
  refine⟨_,?_,aq.2 rfl⟩;simp [execOp,ho,Instr.sliceAt,Instr.slice,underlying,hT.h,e0,e1,Instr.sliceBounds,Instr.sliceBound,asIntOf,hjc,hjn,hE.run_size,aO]
theorem St.pushD {a:Act}{w:World}{d:Nat}{T:TypeId}{arr:Array Value}{cs:List SV}{v:Value}(hd:d<n) (hs:St C n F H a w)
  (hcs:∀m,aU m w→HOk m w H→(∀x,(ev F x).p m (a.eval x))→az m cs arr.toList) :
  St C n (upd F d (lit v)) ((w.heap.size,T,cs)::H) (a.put (some d) v) (w.drew.alloc (.cells arr T)):=by
 obtain⟨hdef,hn,m,h1,h2,h3,h4,h5⟩:=hs
 have hp:∀x,(ev F x).p m (a.eval x):=fun x=>by
  cases x with
  |tmp t=>exact h5 t
  |const v=>unfold ev lit;rfl
  |global g=>unfold ev lit;rfl
  |func f=>unfold ev lit;rfl
 have hnone:m w.heap.size=none:=by
  cases hmm:m w.heap.size with
  |none=>rfl
  |some o=>have:=h1 _ _ hmm;rw [Array.getElem?_eq_none (Nat.le_refl _)]at this;cases this
 have hsize:(w.drew.alloc (.cells arr T)).heap.size=w.heap.size+1:=World.size_alloc ..;have hold:∀b,b<w.heap.size→(w.drew.alloc (.cells arr T)).heap[b]? = w.heap[b]?:=fun b hb=>@heap_alloc_old w.drew _ b hb
 have rel:Rel [] m w m (w.drew.alloc (.cells arr T)):=⟨Mem.le_refl m,fun _ _ _=>rfl,rfl,rfl,⟨rfl,Nat.le_succ _⟩,om,fun b hb _=>hold b hb⟩
 refine⟨hdef,by simpa [Act.put] using hn,m,⟨fun b o hb=>?_,h1.base⟩,⟨?_,?_⟩,h3.trans rel (fun b hb h=>by cases h),?_,fun t=>?_⟩
 ·have:=h1 b o hb;rw [hold b (Array.getElem?_eq_some_iff.1 this).1];exact this
 ·simp only [List.map_cons,List.nodup_cons];refine⟨fun hm=>?_,h2.1⟩;obtain⟨e,he,hk⟩:=List.mem_map.1 hm;have:=(h2.2 e he).2.lt;omega
 ·intro e he;rcases List.mem_cons.1 he with rfl|he
  ·exact⟨hnone,arr,heap_alloc_new w.drew _,hcs m h1 h2 hp⟩
  ·have hh:=h2.rel rel (fun _ _=>by simp);exact hh.2 e he
 ·intro e he;rcases List.mem_cons.1 he with rfl|he
  ·exact .inr h3.size
  ·exact h4 e he
 ·rw [dw (Nat.lt_of_lt_of_le hd hn)];unfold upd;by_cases ht:t=d
  ·subst ht;rw [if_pos rfl,Nat.beq_refl];exact aq.2 rfl
  ·rw [if_neg ht]
   have:Nat.beq t d=false:=by
    cases hb:Nat.beq t d with
    |false=>rfl
    |true=>exact absurd (Nat.eq_of_beq_eq_true hb) ht
   rw [this];exact h5 t
theorem az.dcz {m:Mem}:∀(k:Nat),az m (ax (List.replicate k 0)) (List.replicate k (Value.int .u32 0)):=fun k=>by
 rw [←sr];exact az.replicate (aq.2 rfl) rfl k
theorem LA {T e:TypeId} [hS:TSl P T e]{g:Bool} [hT:TY P e 1 4 [lit (.int .u32 0)] g]{d:Nat}{x y:Operand}{ds es:List Nat}{c b2 c2:Nat}{T':TypeId}
  (hx:ev F x=dgc ds c) (hy:ev F y=lit (.slice (some ⟨b2,0,none⟩) es.length c2)) (hm:(b2,T',ax es)∈H) (hne:ds≠[]) (hroom:c<ds.length+es.length) (hl:ds.length+es.length≤1000000000)
  (h:∀b k,k≤maxLen→∀j,k=ds.length+es.length+j→WPL P C n ops rest K (upd F d (lit (.slice (some ⟨b,0,none⟩) (ds.length+es.length) k))) ((b,e,ax (ds++es++List.replicate j 0))::H)) (hd:Nat.blt d n=true:=by exact rfl) :
  WPL P C n ops (⟨some d, .call ⟨.builtin .append,#[x,y],#[T,T]⟩,ty,pos,aft,none⟩::rest) K F H:=by
 unfold WPL;intro a w hs Q hq;refine wpList_plain rfl fun K' hK'=>?_
 obtain⟨m0,h10,h20,hp0⟩:∃m,aU m w∧HOk m w H∧∀x,(ev F x).p m (a.eval x):=by
  obtain⟨_,_,m,h1,h2,_,_,h5⟩:=hs;refine⟨m,h1,h2,fun x=>?_⟩;cases x with
  |tmp t=>exact h5 t
  |const v=>unfold ev lit;rfl
  |global g=>unfold ev lit;rfl
  |func f=>unfold ev lit;rfl
 have e0:=hp0 x;rw [hx]at e0;have e1:=hp0 y;rw [hy,aq]at e1;unfold dgc at e0;obtain⟨ad,e0,hc1,hc2,hca⟩:=e0;obtain⟨b1,off,rfl,arr1,T1,fz1,hb1,hall1⟩:=hca.resolve_left hne;obtain⟨_,arr2,hb2,hall2⟩:=h20.2 _ hm;obtain⟨i,v,hi,hsz,hby,hz,hzl,hfl,hvs⟩:=hT.run_bytes;simp only [gD]at hall1;have hlen1:=hall1.length;have hlen2:=hall2.length;simp only [gD,Array.length_toList]at hlen1 hlen2;have hw1:=h10 _ _ hb1
 have hxs:∀j u,((arr1.toList.drop off).take ds.length)[j]? = some u→w.cell? ((⟨b1,off,none⟩:Addr).add j)=some u:=fun j u hj=>by
  rw [aO,cu w b1 _ arr1 _ _ hw1];rw [List.getElem?_take]at hj;split at hj
  ·rw [List.getElem?_drop]at hj;simpa using hj
  ·cases hj
 have hys:∀j u,arr2.toList[j]? = some u→w.cell? ((⟨b2,0,none⟩:Addr).add j)=some u:=fun j u hj=>by
  rw [aO,cu w b2 _ arr2 _ _ hb2];simpa using hj
 have hrun:=run_append_grow (P:=P) w T ty e i v hS.h hi hz ⟨b1,off,none⟩ ds.length c ((arr1.toList.drop off).take ds.length) (by rw [hlen1,hsz,Nat.mul_one]) hxs
  ⟨b2,0,none⟩ es.length c2 arr2.toList (by rw [Array.length_toList,hlen2,hsz,Nat.mul_one]) hys om om (growslice_fits om (by rw [hby];omega))
 have hexec:execOp a.eval (⟨some d, .call ⟨.builtin .append,#[x,y],#[T,T]⟩,ty,pos,aft,none⟩:Oper)=(do let v←Builtin.append_ #[T,T] ty #[a.eval x,a.eval y];pure (.value v)):=by
  simp [execOp,resolve,invoke,builtin]
 unfold Oper.wp;rw [hexec,e0,e1];simp only [Sem.run_bind,hrun,Result.andThen_ok,Sem.run_pure];have hge:=grownCap_ge w (ds.length+es.length) c e;have hle:=grownCap_le_maxLen w (ds.length+es.length) c e (by simp only [maxLen];omega);have h:=h w.heap.size _ hle (grownCap w (ds.length+es.length) c e-(ds.length+es.length)) om;unfold WPL at h;refine hK' _ _ (h _ _ (St.pushD (Nat.blt_eq.mp hd) hs fun m h1 h2 hp=>?_) Q hq);have e0':=hp x;rw [hx]at e0';unfold dgc at e0';obtain⟨ad',e0',_,_,hca'⟩:=e0';rw [e0]at e0';simp only [Value.slice.injEq]at e0';obtain⟨b1',off',hbe,arr1',T1',fz1',hb1',hall1'⟩:=hca'.resolve_left hne;rw [←e0'.1]at hbe;simp only [Option.some.injEq,Addr.mk.injEq]at hbe;obtain⟨rfl,rfl,_⟩:=hbe;have hw1':=h1 _ _ hb1';rw [hw1]at hw1';simp only [Option.some.injEq,Obj.cells.injEq]at hw1';obtain⟨rfl,_,_⟩:=hw1';obtain⟨_,arr2',hb2',hall2'⟩:=h2.2 _ hm;rw [hb2]at hb2';simp only [Option.some.injEq,Obj.cells.injEq]at hb2';obtain⟨rfl,_⟩:=hb2';rw [show ax (ds++es++List.replicate (grownCap w (ds.length+es.length) c e-(ds.length+es.length)) 0)=ax ds++ax es++ax (List.replicate (grownCap w (ds.length+es.length) c e-(ds.length+es.length)) 0)from by simp [ax]];simp only [Array.toList_append,List.toList_toArray];refine((by simpa [gD] using hall1':az m (ax ds) _).append hall2').append ?_
 have hv1:v.cells.toList=[Value.int .u32 0]:=by
  have h1:v.cells.toList.length=1:=by simpa using hvs
  match hv:v.cells.toList,h1 with
  | [u],_ =>
   rw [hv]at hzl;simp only [List.map_cons,List.map_nil,List.cons.injEq,and_true]at hzl;have:(lit u).p (fun _=>none) u:=aq.2 rfl;rw [hzl,aq]at this;rw [this]
 have hzc:∀k,(Builtin.zeroCells v.cells k).toList=List.replicate k (Value.int .u32 0):=fun k=>by
  have hs1:v.cells.size=1:=hvs
  have hg0:v.cells = #[Value.int .u32 0]:=by
   apply Array.ext';rw [hv1]
  rw [hg0];simp only [Builtin.zeroCells,List.size_toArray,List.length_cons,List.length_nil,Nat.zero_add,Nat.mul_one,Nat.mod_one,Array.toList_map,Array.toList_range];rw [List.map_const'];simp
 rw [hzc];exact az.dcz _
end
theorem DA (ds:List Nat) (c:Nat) (hl:ds.length≤1000000000):Pu Tryz.prog 216 [dgc ds c] (dgc (f9 ds) c):=by
 refine Pi Tryz.func216 fun C=>?_
 repeat(refine A1 ⟨?_⟩;intros)
 refine WP.loop (ι:=Nat) (fun k=>k≤ds.length∧f9 (ds.take k)=f9 ds) (fun k=>k) (fun k=>fm [(0,dgc (ds.take k) c)]) (fun _=>[]) ds.length ⟨Nat.le_refl _,by rw [List.take_length]⟩ (LeF.cons (by rw [List.take_length];exact Le.refl _) (LeF.nil _)) rfl ?_;rintro k ⟨hk,ht⟩ K hK;have hlen:(ds.take k).length=k:=by rw [List.length_take];omega
 rcases k with _|j
 ·iterate 2 refine WP.seq' ?_
  refine WP.reg ?_;(refine O1 ⟨?_⟩;intros)
  refine Wo (qi rfl) ?_;repeat(refine A1 ⟨?_⟩;intros)
  exact aS (aJ (RV.tmp (s:=dgc (List.take 0 ds) c) rfl) (Le.of_eq (by rw [←ht];rfl)))
 ·have hg:(List.take (j+1) ds).getD j 0=ds.getD j 0:=by simp [List.getD]
  iterate 2 refine WP.seq' ?_
  refine WP.reg ?_;(refine O1 ⟨?_⟩;intros)
  refine Wo (qi rfl) ?_;iterate 4 (refine O1 ⟨?_⟩;intros)
  refine Wog (qi rfl) ?_;refine Wog (v7 (r:=(j:Int)) rfl rfl (Dt om om om)) ?_;refine Wog (HN (i:=j) (by decide) rfl rfl om) ?_;rw [hg];by_cases hd:ds.getD j 0=0
  ·repeat(refine A1 ⟨?_⟩;intros)
   refine Wo (qi rfl) ?_;repeat(refine A1 ⟨?_⟩;intros)
   refine Wo (JV j rfl rfl om om) ?_;rw [List.take_take,Nat.min_eq_left om];repeat(refine A1 ⟨?_⟩;intros)
   refine hK _ _ j ⟨om,?_⟩ om (LeF.cons Lr (LeF.nil _)) rfl;rw [bk ds j om,hd,fo]at ht;exact ht
  ·rw [bk ds j om,gz _ _ hd,←bk ds j om]at ht;repeat(refine A1 ⟨?_⟩;intros)
   exact aS (aJ (RV.tmp (s:=dgc (List.take (j+1) ds) c) rfl) (Le.of_eq (by rw [ht])))
theorem tu {s:Nat}(h:s<32):2^s≤2147483648∧0<2^s∧2^s*2^(32-s)=4294967296:=by
 refine⟨?_,Nat.pow_pos om,?_⟩
 ·have:=Nat.pow_le_pow_right (n:=2) om (show s≤31 by omega);simpa using this
 ·rw [←Nat.pow_add,show s+(32-s)=32 by omega]
theorem qU {d s:Nat}(hs:s<32) (hd:d<4294967296):d*2^s≤18446744073709551615∧d*2^s/4294967296<2^s∧∃y,d*2^s%4294967296=2^s*y∧2^s*y+2^s≤4294967296:=by
 obtain⟨h1,h2,h3⟩:=tu hs;have hm:d*2^s≤4294967295*2^s:=Nat.mul_le_mul_right _ om;refine⟨om,?_,d%2^(32-s),?_,?_⟩
 ·rw [Nat.div_lt_iff_lt_mul om];have:d*2^s<4294967296*2^s:=Nat.mul_lt_mul_of_pos_right hd h2;rw [Nat.mul_comm (2^s)];exact this
 ·rw [←h3,Nat.mul_comm d,Nat.mul_mod_mul_left]
 ·have:d%2^(32-s)<2^(32-s):=Nat.mod_lt _ (Nat.pow_pos om);have h4:2^s*(d%2^(32-s)+1)≤2^s*2^(32-s):=Nat.mul_le_mul_left _ this;rw [h3,Nat.mul_add,Nat.mul_one]at h4;exact h4
theorem Ai (xs:List Nat) (s:Nat) (hla:xs.length≤100000000) (hA:D xs) (hs:s<32) (h0:val xs≠0):Pu Tryz.prog 247 [dg xs,lit (.int .u64 s)] (dgc (dgs (val xs*2^s)) ((dgs (val xs)).length+1)):=by
 obtain⟨p,t1,h1,hP,hva,hpd⟩:=jV xs hla om hA;rw [←hva]at h0;rw [←hpd,←hva];obtain⟨w1,w2,w3⟩:=tu hs;refine Pi Tryz.func247 fun C=>?_
 repeat(refine A1 ⟨?_⟩;intros)
 refine Wc t1 ?_;have hpos:0<p.length:=List.length_pos_iff.2 fun e=>h0 (by rw [e];rfl)
 repeat(refine A1 ⟨?_⟩;intros)
 refine oM (p.length+1) rfl rfl om om fun bb=>?_
 repeat(refine A1 ⟨?_⟩;intros)
 refine WP.loop (ι:=Nat×List Nat) (fun st=>st.1≤p.length∧st.2.length=p.length+1∧D st.2∧val st.2=val (p.take st.1)*2^s∧st.2.getD st.1 0<2^s∧∀j,st.1<j→st.2.getD j 0=0) (fun st=>p.length-st.1)
  (fun st=>fm [(5,lit (.int .i64 0)),(6,lit (.int .u64 s)),(7,lit (.slice (some ⟨bb,0,none⟩) (p.length+1) (p.length+1))),(29,dg p),(30,lit (.int .i64 p.length)),(31,lit (.int .i64 st.1))])
  (fun st=>[(bb,188,ax st.2)]) (0,List.replicate (p.length+1) 0) ⟨Nat.zero_le _,by simp,D.rep _,by simp [val,nA],by simp [List.getD];omega,fun j _=>by simp [List.getD,List.getElem?_replicate];split <;> simp⟩ lfA rfl ?_
 rintro ⟨k,os⟩ ⟨hk,hol,hO,hval,hlo,hz⟩ K hK;simp only at hk hol hO hval hlo hz⊢;by_cases hkl:k<p.length
 ·have hx:=hP.get k;obtain⟨a1,a2,y,a3,a4⟩:=qU (d:=p.getD k 0) hs hx;have hz1:=hz (k+1) om;repeat(refine A1 ⟨?_⟩;intros)
  rw [KZ (p.getD k 0) s om a1];repeat(refine A1 ⟨?_⟩;intros)
  refine Wo (kE rfl rfl (Ke (os.getD k 0) y s rfl (by rw [←a3,Int.natCast_emod];rfl) hlo om)) ?_;repeat(refine A1 ⟨?_⟩;intros)
  refine f8 (2^s*y+os.getD k 0) rfl rfl rfl (ay.here _) om ?_;repeat(refine A1 ⟨?_⟩;intros)
  refine f8 (p.getD k 0*2^s/4294967296) rfl rfl om (ay.here _) (by simp;omega) ?_;repeat(refine A1 ⟨?_⟩;intros)
  refine hK _ _ (k+1,(os.set k (2^s*y+os.getD k 0)).set (k+1) (p.getD k 0*2^s/4294967296)) ⟨by simp only;omega,by simpa using hol,(hO.set _ om).set _ om,?_,?_,?_⟩ (by simp only;omega) lfA rfl
  ·simp only;have e1:=eP os k (2^s*y+os.getD k 0) om;have e2:=eP (os.set k (2^s*y+os.getD k 0)) (k+1) (p.getD k 0*2^s/4294967296) (by simp;omega);rw [bq _ _ _ _ om,hz1,Nat.mul_zero,Nat.add_zero]at e2;rw [e2,aA,Nat.add_mul,←hval,Nat.mul_assoc (4294967296^k)];have e3:=Nat.div_add_mod (p.getD k 0*2^s) 4294967296
   have e4:4294967296^k*(p.getD k 0*2^s)=4294967296^(k+1)*(p.getD k 0*2^s/4294967296)+4294967296^k*(2^s*y):=by
    conv=>lhs;rw [←e3]
    rw [Nat.mul_add,a3,Nat.pow_succ,Nat.mul_assoc]
   rw [e4];rw [Nat.mul_add]at e1;omega
  ·simp only
   rw [show((os.set k (2^s*y+os.getD k 0)).set (k+1) (p.getD k 0*2^s/4294967296)).getD (k+1) 0=p.getD k 0*2^s/4294967296 from by
    have:k+1<os.length:=by omega
    simp [List.getD,this]]
   exact a2
  ·intro j hj;simp only at hj⊢;rw [bq _ _ _ _ om,bq _ _ _ _ om];exact hz j om
 ·have hke:k=p.length:=by omega
  subst hke;rw [List.take_length]at hval;repeat(refine A1 ⟨?_⟩;intros)
  refine Lx (ds:=os) 60 rfl (ak.here _) hol om om ?_;refine Wc (DA os _ om) ?_;rw [nH hO,hval];exact Z1
theorem GS (xs:List Nat) (s:Nat) (hla:xs.length≤100000000) (hA:D xs) (hs:s<32):Pu Tryz.prog 247 [dg xs,lit (.int .u64 s)] (nat (val xs*2^s)):=by
 by_cases h0:val xs=0
 ·obtain⟨p,t1,h1,hP,hva,hpd⟩:=jV xs hla om hA;have hp:p=[]:=by rw [hpd,h0,aT]
  subst hp;rw [h0];refine Pi Tryz.func247 fun C=>?_
  repeat(refine A1 ⟨?_⟩;intros)
  refine Wc t1 ?_;repeat(refine A1 ⟨?_⟩;intros)
  refine aS (aJ (RV.tmp rfl) ?_);simp only [Nat.zero_mul];rw [show nat 0=dg []from by show dg (dgs 0)=_;rw [aT]];exact eC
 ·exact(Ai xs s hla hA hs h0).le (zN _ _)
theorem ti {V p q r s:Nat}(k:Nat) (hs:s<32) (h:V/4294967296^k=p+4294967296*(q+4294967296*r)):V/2^s/4294967296^k%4294967296=(p+q*4294967296)/2^s%4294967296:=by
 obtain⟨w1,w2,w3⟩:=tu hs;rw [Nat.div_div_eq_div_mul,Nat.mul_comm,←Nat.div_div_eq_div_mul,h]
 have e:p+4294967296*(q+4294967296*r)=(p+q*4294967296)+2^s*(4294967296*(2^(32-s)*r)):=by
  rw [←Nat.mul_assoc (2^s),Nat.mul_comm (2^s),Nat.mul_assoc,←Nat.mul_assoc (2^s),w3,Nat.mul_add,Nat.mul_comm q];omega
 rw [e,Nat.add_mul_div_left _ _ w2,Nat.add_mul_mod_self_left]
theorem pI (ds:List Nat) (hD:D ds) (k:Nat) (hk:k≤ds.length):val ds/4294967296^k=val (ds.drop k):=by
 rw [ga ds k hk,Nat.add_mul_div_left _ _ (Nat.pow_pos om),Nat.div_eq_of_lt,Nat.zero_add];have h:=bP (hD.take k);rw [List.length_take,Nat.min_eq_left hk]at h;exact h
theorem si (ds:List Nat) (k:Nat) (hk:k<ds.length):val (ds.drop k)=ds.getD k 0+4294967296*(ds.getD (k+1) 0+4294967296*val (ds.drop (k+2))):=by
 rw [cM ds k hk,du];by_cases h:k+1<ds.length
 ·rw [cM ds (k+1) h,du]
 ·rw [List.drop_eq_nil_of_le om,List.drop_eq_nil_of_le om,show ds.getD (k+1) 0=0 from by simp [List.getD,List.getElem?_eq_none (show ds.length≤k+1 by omega)]];simp [val]
theorem GR (xs:List Nat) (s:Nat) (hla:xs.length≤100000000) (hA:D xs) (hs:s<32):Pu Tryz.prog 248 [dg xs,lit (.int .u64 s)] (nat (val xs/2^s)):=by
 obtain⟨p,t1,h1,hP,hva,hpd⟩:=jV xs hla om hA;rw [←hva];obtain⟨w1,w2,w3⟩:=tu hs;refine Pi Tryz.func248 fun C=>?_
 repeat(refine A1 ⟨?_⟩;intros)
 refine Wc t1 ?_;by_cases h0:p=[]
 ·subst h0;repeat(refine A1 ⟨?_⟩;intros)
  refine aS (aJ (RV.tmp rfl) ?_);simp only [val,Nat.zero_div];rw [show nat 0=dg []from by show dg (dgs 0)=_;rw [aT]];exact eC
 ·have hpos:=List.length_pos_iff.2 h0;repeat(refine A1 ⟨?_⟩;intros)
  refine oM p.length rfl rfl om om fun bb=>?_
  repeat(refine A1 ⟨?_⟩;intros)
  refine WP.loop (ι:=Nat×List Nat) (fun st=>st.1≤p.length∧st.2.length=p.length∧D st.2∧val (st.2.take st.1)=val p/2^s%4294967296^st.1) (fun st=>p.length-st.1)
   (fun st=>fm [(0,dg p),(5,lit (.int .i64 0)),(6,lit (.int .u64 s)),(7,lit (.slice (some ⟨bb,0,none⟩) p.length p.length)),(29,lit (.int .i64 p.length)),(30,lit (.int .i64 st.1))])
   (fun st=>[(bb,188,ax st.2)]) (0,List.replicate p.length 0) ⟨Nat.zero_le _,by simp,D.rep _,by simp [val,Nat.mod_one]⟩ lfA rfl ?_
  rintro ⟨k,os⟩ ⟨hk,hol,hO,hval⟩ K hK;simp only at hk hol hO hval⊢;by_cases hkl:k<p.length
  ·have hx:=hP.get k;have hx1:=hP.get (k+1);repeat(refine A1 ⟨?_⟩;intros)
   refine WP.via (fun F H=>LeF F (fm [(0,dg p),(5,lit (.int .i64 0)),(6,lit (.int .u64 s)),(7,lit (.slice (some ⟨bb,0,none⟩) p.length p.length)),(8,lit (.int .i64 k)),(9,lit (.int .u64 (p.getD k 0+p.getD (k+1) 0*4294967296:Nat))),(29,lit (.int .i64 p.length)),(30,lit (.int .i64 k))])∧H=[(bb,188,ax os)]) ?_ ?_
   ·refine WPd (fun h=>?_) (fun h=>?_)
    ·repeat(refine A1 ⟨?_⟩;intros)
     refine Wo (kE rfl rfl (EI (p.getD (k+1) 0) (p.getD k 0) rfl rfl hx1 hx)) ?_;repeat(refine A1 ⟨?_⟩;intros)
     exact⟨lfA,rfl⟩
    ·have h0:p.getD (k+1) 0=0:=by simp [List.getD,List.getElem?_eq_none (show p.length≤k+1 by omega)]
     repeat(refine A1 ⟨?_⟩;intros)
     exact⟨lfA,rfl⟩
   ·rintro F H ⟨hF,rfl⟩;refine WP.le hF ?_;repeat(refine A1 ⟨?_⟩;intros)
    rw [KU _ s om];refine f8 ((p.getD k 0+p.getD (k+1) 0*4294967296)/2^s%4294967296) rfl rfl (by rw [Int.natCast_emod];rfl) (ay.here _) om ?_;repeat(refine A1 ⟨?_⟩;intros)
    refine hK _ _ (k+1,os.set k ((p.getD k 0+p.getD (k+1) 0*4294967296)/2^s%4294967296)) ⟨by simp only;omega,by simpa using hol,hO.set _ om,?_⟩ (by simp only;omega) lfA rfl;simp only;rw [dr _ _ _ om,hval,Nat.mod_pow_succ,ti k hs ((pI p hP k hk).trans (si p k hkl))]
  ·have hke:k=p.length:=by omega
   subst hke;rw [Nat.mod_eq_of_lt (Nat.lt_of_le_of_lt (Nat.div_le_self _ _) (bP hP)),List.take_of_length_le om]at hval;repeat(refine A1 ⟨?_⟩;intros)
   refine g9 (ds:=os) 66 rfl (ak.here _) hol om om ?_;refine Wc (cU os om hO) ?_;rw [hval];exact Z1
section
variable {B top sec third first rest g V W P vl wl:Nat}
theorem zC (hV:V=(top*B+sec)*P+vl) (hW:W=(first*B+third)*P+wl) (hw:wl<P) (hg:g*top+rest=first) (h:rest*B+third<g*sec):W<g*V:=by
 have h1:first*B+third+1≤g*(top*B+sec):=by
  rw [←hg,Nat.mul_add,Nat.add_mul,←Nat.mul_assoc];omega
 have h2:=Nat.mul_le_mul_right P h1;rw [hW,hV,Nat.mul_add,←Nat.mul_assoc];rw [Nat.add_mul,Nat.one_mul]at h2;omega
theorem xH (hV:V=(top*B+sec)*P+vl) (hW:W=(first*B+third)*P+wl) (hw:wl<P) (ht:third<B) (hg:first<(g+1)*top):W<(g+1)*V:=by
 have h1:(first+1)*B≤(g+1)*top*B:=Nat.mul_le_mul_right B hg
 have h2:first*B+third+1≤(g+1)*(top*B+sec):=by
  rw [Nat.mul_add,←Nat.mul_assoc];rw [Nat.add_mul,Nat.one_mul]at h1;omega
 have h3:=Nat.mul_le_mul_right P h2;rw [hW,hV,Nat.mul_add (g+1),←Nat.mul_assoc];rw [Nat.add_mul,Nat.one_mul]at h3;omega
theorem zD (hV:V=(top*B+sec)*P+vl) (hW:W=(first*B+third)*P+wl) (hv:vl<P) (hg:g*top+rest=first) (h:g*sec≤rest*B+third) (hB:g<B) (ht:1≤top):g*V≤W+V:=by
 have h1:g*(top*B+sec)≤first*B+third:=by
  rw [←hg,Nat.mul_add,Nat.add_mul,←Nat.mul_assoc];omega
 have h2:=Nat.mul_le_mul_right P h1;have h3:g*vl≤B*P:=Nat.mul_le_mul om om;have h4:B*P≤(top*B+sec)*P:=Nat.mul_le_mul_right P (by have:=Nat.mul_le_mul_right B ht;omega);rw [Nat.mul_assoc]at h2;rw [hW,hV,Nat.mul_add];omega
theorem xG (hV:V=(top*B+sec)*P+vl) (hW:W=(first*B+third)*P+wl) (hv:vl<P) (hs:sec<B) (hWV:W<B*V) (hg:g*top≤first) (ht:B≤2*top) (h0:0<B):g≤B+1∧first<B*top+B:=by
 have h1:V<(top+1)*B*P:=by
  have:=Nat.mul_le_mul_right P (show top*B+sec+1≤(top+1)*B by rw [Nat.add_mul,Nat.one_mul];omega);rw [Nat.add_mul _ 1,Nat.one_mul]at this;omega
 have h2:first*B*P≤W:=by rw [hW,Nat.add_mul];omega
 have h3:first*B*P<B*((top+1)*B*P):=Nat.lt_of_le_of_lt h2 (Nat.lt_trans hWV (Nat.mul_lt_mul_of_pos_left h1 h0))
 have h4:first*(B*P)<B*(top+1)*(B*P):=by simpa only [Nat.mul_assoc] using h3
 have h5:=Nat.lt_of_mul_lt_mul_right h4;rw [Nat.mul_add,Nat.mul_one]at h5;refine⟨?_,h5⟩;rcases Nat.lt_or_ge (B+1) g with h|h
 ·exfalso;have h6:=Nat.mul_le_mul_right top h;simp only [Nat.succ_eq_add_one,Nat.add_mul,Nat.one_mul]at h6;omega
 ·exact h
end
theorem zh {vo vs va c w d u t:Nat}{p B1 g:Nat}(h:vs+p*(g*va)=vo+p*(B1*(c+w))) (ht:t=c+g*d){x' w':Nat}(hx:x'+t%4294967296+w=u+4294967296*w'){vs':Nat}(hs:vs'+p*B1*u=vs+p*B1*x') :
  vs'+p*(g*(va+B1*d))=vo+p*(B1*4294967296*(t/4294967296+w')):=by
 have e:=Nat.div_add_mod t 4294967296;have e1:=congrArg (fun z=>p*B1*z) e;have e2:=congrArg (fun z=>p*B1*z) hx;rw [ht]at e1;simp only [Nat.mul_add,←Nat.mul_assoc]at h e1 e2 hs⊢;rw [←ht]at e1;rw [show p*g*B1*d=p*B1*g*d from by rw [Nat.mul_right_comm p g B1]];omega
theorem zp {vo vs va c d u t:Nat}{p B1:Nat}(h:vs+p*(B1*c)=vo+p*va) (ht:t=c+(u+d)){vs':Nat}(hs:vs'+p*B1*u=vs+p*B1*(t%4294967296)) :
  vs'+p*(B1*4294967296*(t/4294967296))=vo+p*(va+B1*d):=by
 have e:=Nat.div_add_mod t 4294967296;have e1:=congrArg (fun z=>p*B1*z) e;rw [ht]at e1;simp only [Nat.mul_add,←Nat.mul_assoc]at h e1 hs⊢;rw [←ht]at e1;omega
theorem jh {us:List Nat}{n:Nat}(h:val us<4294967296^n) (hn:n≤us.length):val us=val (us.take n)∧∀j,n≤j→us.getD j 0=0:=by
 have hs:=ga us n hn
 have h0:val (us.drop n)=0:=by
  rcases Nat.eq_zero_or_pos (val (us.drop n))with h1|h1
  ·exact h1
  ·have:=Nat.mul_le_mul_left (4294967296^n) h1;rw [Nat.mul_one]at this;omega
 refine⟨by rw [hs,h0,Nat.mul_zero,Nat.add_zero],fun j hj=>?_⟩
 have hz:∀l:List Nat,val l=0→∀i,l.getD i 0=0:=by
  intro l;induction l with
  |nil=>intro _ i;simp
  |cons d l ih =>
   intro hv i;rw [du]at hv;cases i with
   |zero=>simpa using (show d=0 by omega)
   |succ i=>simpa using ih om i
 have:=hz (us.drop n) h0 (j-n);rw [List.getD,List.getElem?_drop,show n+(j-n)=j from by omega]at this;exact this
theorem oN {us:List Nat}{j:Nat}(hD:D us) (hj:j≤us.length):val us/4294967296^j=val (us.drop j):=by
 rw [ga us j hj,Nat.add_mul_div_left _ _ (Nat.pow_pos om),Nat.div_eq_of_lt,Nat.zero_add];have h:=bP (hD.take j);rw [List.length_take,Nat.min_eq_left hj]at h;exact h
theorem yG {us us':List Nat}{j g V W:Nat}(hD:D us) (hD':D us') (hj:j≤us.length) (hj':j≤us'.length) (hW:val (us.drop j)=W) (h:val us'+4294967296^j*(g*V)=val us) (hg:W<(g+1)*V) :
  val (us'.drop j)<V:=by
 rw [←oN hD' hj',Nat.div_lt_iff_lt_mul (Nat.pow_pos om)];have hs:=ga us j hj;have hl:=bP (hD.take j);rw [List.length_take,Nat.min_eq_left hj]at hl;rw [hW]at hs;have h2:4294967296^j*(W+1)≤4294967296^j*((g+1)*V):=Nat.mul_le_mul_left _ hg;rw [Nat.add_mul,Nat.one_mul,Nat.mul_add,Nat.mul_add]at h2;rw [Nat.mul_comm V];omega
theorem BD {us:List Nat}{j n:Nat}(hD:D us) (hn:2≤n) (hl:j+n<us.length) (hz:val (us.drop (j+1))<4294967296^n) :
  ∃wl,wl<4294967296^(n-2)∧val (us.drop j)=((us.getD (j+n) 0*4294967296+us.getD (j+n-1) 0)*4294967296+us.getD (j+n-2) 0)*4294967296^(n-2)+wl:=by
 have hD':=hD.drop j;have hlen:(us.drop j).length=us.length-j:=List.length_drop
 have hlt:val (us.drop j)<4294967296^(n+1):=by
  rw [cM us j om,du,Nat.pow_succ,Nat.mul_comm];have:=hD.get j;have:=Nat.mul_le_mul_right 4294967296 hz;omega
 have e:=(jh hlt om).1;have g0:∀i,(us.drop j).getD i 0=us.getD (j+i) 0:=fun i=>by rw [List.getD,List.getElem?_drop];rfl
 have hw:=bP (hD'.take (n-2));rw [List.length_take,Nat.min_eq_left om]at hw;refine⟨_,hw,?_⟩;obtain⟨k,rfl⟩:∃k,n=k+2:=⟨n-2,om⟩
 rw [e,aA,aA,aA,g0,g0,g0];rw [show j+(k+2)-1=j+(k+1)from by omega,show j+(k+2)-2=j+k from by omega,show k+2-2=k from by omega];simp only [Nat.pow_succ,Nat.add_mul];rw [Nat.mul_comm (4294967296^k) (us.getD (j+k) 0),Nat.mul_comm (4294967296^k*4294967296) _,Nat.mul_comm (4294967296^k*4294967296*4294967296) _,Nat.mul_comm (4294967296^k) 4294967296];simp only [Nat.mul_assoc];rw [Nat.mul_comm (4294967296^k) 4294967296];omega
theorem Fl {v:List Nat}{n:Nat}(hD:D v) (hn:2≤n) (hl:v.length=n):∃vl,vl<4294967296^(n-2)∧val v=(v.getD (n-1) 0*4294967296+v.getD (n-2) 0)*4294967296^(n-2)+vl:=by
 have hw:=bP (hD.take (n-2));rw [List.length_take,Nat.min_eq_left om]at hw;refine⟨_,hw,?_⟩;obtain⟨k,rfl⟩:∃k,n=k+2:=⟨n-2,om⟩
 conv=>lhs;rw [←List.take_of_length_le (Nat.le_of_eq hl)]
 rw [aA,aA,show k+2-1=k+1 from rfl,show k+2-2=k from by omega];simp only [Nat.pow_succ,Nat.add_mul];rw [Nat.mul_comm (4294967296^k) (v.getD k 0),Nat.mul_comm (4294967296^k*4294967296) _,Nat.mul_comm (4294967296^k) 4294967296];simp only [Nat.mul_assoc];omega
theorem rD {y k s:Nat}(hk:(dgs y).length=k+1) (hs:s+cq ((dgs y).getD k 0)=32):s<32∧(dgs (y*2^s)).length=k+1∧2147483648≤(dgs (y*2^s)).getD k 0∧4294967296^k≤y:=by
 have hy0:y≠0:=fun e=>by rw [e,aT]at hk;simp at hk
 obtain⟨k',h1,h2,h3,h4,h5⟩:=vT hy0;obtain rfl:k'=k:=by omega
 generalize(dgs y).getD k' 0=t at *;generalize val ((dgs y).take k')=low at *
 have hb:1≤cq t:=by
  have:=(kA (n:=t) (k:=0)).2 (by simp;omega);omega
 have q1:2^(cq t-1)≤t:=kA.1 om;have q2:t<2^cq t:=e7.1 (Nat.le_refl _);have p1:2^(cq t-1)*2^s=2147483648:=by rw [←Nat.pow_add,show cq t-1+s=31 from by omega]
 have p2:2^cq t*2^s=4294967296:=by rw [←Nat.pow_add,show cq t+s=32 from by omega]
 have pp:0<4294967296^k':=Nat.pow_pos om;have hs0:0<2^s:=Nat.pow_pos om
 have lo:2147483648*4294967296^k'≤y*2^s:=by
  have e1:=Nat.mul_le_mul_right (4294967296^k') (Nat.mul_le_mul_right (2^s) q1);rw [p1]at e1;refine Nat.le_trans e1 ?_;rw [Nat.mul_right_comm];refine Nat.mul_le_mul_right _ ?_;rw [h5,Nat.mul_comm t];omega
 have hi:y*2^s<4294967296^(k'+1):=by
  have e0:y<(t+1)*4294967296^k':=by rw [h5,Nat.add_mul,Nat.mul_comm t];omega
  have e1:=Nat.mul_lt_mul_of_pos_right e0 hs0;refine Nat.lt_of_lt_of_le e1 ?_;have e2:=Nat.mul_le_mul_right (4294967296^k') (Nat.mul_le_mul_right (2^s) (show t+1≤2^cq t by omega));rw [p2]at e2;rw [Nat.mul_right_comm,Nat.pow_succ,Nat.mul_comm (4294967296^k') 4294967296];exact e2
 have hlen:(dgs (y*2^s)).length=k'+1:=by
  have a1:=bC hi;rcases Nat.lt_or_ge k' (dgs (y*2^s)).length with h|h
  ·omega
  ·have:=vA h;omega
 refine⟨om,hlen,?_,?_⟩
 ·have hd:=oN (j:=k') (aR (y*2^s)) om;rw [au,cM _ k' om,List.drop_eq_nil_of_le om]at hd;simp only [val,Nat.mul_zero,Nat.add_zero]at hd;rw [←hd,Nat.le_div_iff_mul_le pp];exact lo
 ·rw [h5];have:=Nat.mul_le_mul_left (4294967296^k') (Nat.one_le_iff_ne_zero.2 h2);omega
theorem sY:∀l:List Nat,(∀i,l.getD i 0=0)→val l=0
 | [],_=>rfl
 |d::l,h=>by
  have h0:d=0:=by simpa using h 0
  have h1:=sY l fun i=>by simpa using h (i+1)
  rw [du,h0,h1]
theorem sZ {us:List Nat}{k:Nat}(hD:D us) (hk:k≤us.length) (h:∀p,k≤p→us.getD p 0=0):val us<4294967296^k:=by
 have h0:val (us.drop k)=0:=sY _ fun i=>by
  have:=h (k+i) om;rwa [List.getD,List.getElem?_drop]
 have h1:=bP (hD.take k);rw [List.length_take,Nat.min_eq_left hk]at h1;rw [ga us k hk,h0];simpa using h1
theorem CK {vu v2 v3 p q c w u x gv:Nat}(h2:v2+p*gv=vu+p*(q*(c+w))) (h3:v3+p*q*u=v2+p*q*x) (hx:x+c+w=u):v3+p*gv=vu:=by
 have e:=congrArg (fun z=>p*q*z) hx;simp only [Nat.mul_add,←Nat.mul_assoc]at e h2 h3;omega
theorem FH {vu v2 v3 p q c w u x gv:Nat}(h2:v2+p*gv=vu+p*(q*(c+w))) (h3:v3+p*q*u=v2+p*q*x) (hx:x+c+w=u+4294967296):v3+p*gv=vu+p*q*4294967296:=by
 have e:=congrArg (fun z=>p*q*z) hx;simp only [Nat.mul_add,←Nat.mul_assoc]at e h2 h3;omega
theorem Ht {vu v3 p q gv low W:Nat}(h:v3+p*gv=vu+p*q*4294967296) (hl:v3<p*q*4294967296) (hu:vu=low+p*W):W<gv:=by
 have:p*W<p*gv:=by omega
 exact Nat.lt_of_mul_lt_mul_left this
theorem FI {vu v3 v4 v5 p q c t gv V low W:Nat}(h3:v3+p*gv=vu+p*q*4294967296) (h4:v4+p*(q*c)=v3+p*V) (h5:v5+p*q*t=v4+p*q*((t+c)%4294967296)) (hl:v5<p*q*4294967296)
  (hc:c≤1) (ht:t<4294967296) (hg:gv≤W+V) (hu:vu=low+p*W):v5+p*gv=vu+p*V:=by
 have e:=Nat.mul_le_mul_left p hg;rcases Nat.lt_or_ge (t+c) 4294967296 with hlt|hge
 ·exfalso;rw [Nat.mod_eq_of_lt hlt]at h5;simp only [Nat.mul_add,←Nat.mul_assoc]at e h3 h4 h5 hl;omega
 ·have hm:(t+c)%4294967296+4294967296=t+c:=by omega
  have e2:=congrArg (fun z=>p*q*z) hm;simp only [Nat.mul_add,←Nat.mul_assoc]at e2 h3 h4 h5;omega
end Go.Ab
