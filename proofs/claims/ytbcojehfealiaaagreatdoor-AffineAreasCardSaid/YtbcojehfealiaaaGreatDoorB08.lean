/- Texts laid one behind the other: FracE, Loop, Err, RefA, RefB, RefC, RefD. -/
import Derived.Test.YtbcojehfealiaaaGreatDoorFracD
import Derived.Laws.Externs
set_option linter.all false
set_option maxHeartbeats 16000000
namespace Go.Ab
open Go.Proofs
variable [Base]
theorem I2 {x:Rat}(h:¬bz x):x.num≠0:=fun e=>h (by
 have hx:x=0:=Rat.num_eq_zero.1 e;subst hx;unfold bz;rw [show(0:Rat).num=0 from rfl,show(0:Rat).den=1 from rfl];omega)
theorem l9 (x:Rat):Pu Tryz.prog 89 [fr x] (lit (.bool (decide (x.num=0)))):=by
 by_cases h:bz x
 ·rw [fE h];by_cases h0:x.num=0
  ·rw [decide_eq_true h0,h0];refine Pi Tryz.func89 fun C=>?_
   exact Z1
  ·rw [decide_eq_false h0];refine Pi Tryz.func89 fun C=>?_
   exact Z1
 ·rw [mS h,decide_eq_false (I2 h)];refine Pi Tryz.func89 fun C=>?_
  exact Z1
theorem zx (x:Rat):mkRat (sv (decide (x.num<0)) x.den) x.num.natAbs=x⁻¹:=by
 rw [Rat.inv_def];by_cases h:x.num<0
 ·rw [decide_eq_true h];have e:x.num = -((x.num.natAbs:Nat):Int):=by omega
  conv=>rhs;rw [e,Rat.divInt_neg',Rat.divInt_ofNat]
  rfl
 ·rw [decide_eq_false h];have e:x.num=((x.num.natAbs:Nat):Int):=by omega
  conv=>rhs;rw [e,Rat.divInt_ofNat]
  rfl
theorem kh (x:Rat):ht x⁻¹≤ht x+1:=by
 have h:=rX (sv (decide (x.num<0)) x.den) x.num.natAbs;rw [zx]at h;have h1:=bQ x;have h2:=cB x;have h3:il (sv (decide (x.num<0)) x.den)=(dgs x.den).length:=by unfold il;rw [gb]
 have h4:il x.num=(dgs x.num.natAbs).length:=rfl;omega
theorem vE (x:Rat) (h:ht x≤10000000):Pu Tryz.prog 54 [fr x] (fr x⁻¹):=by
 have hn:=Rat.num_inv x;have hd:=Rat.den_inv x;have hp:=x.den_pos;by_cases hs:bz x
 ·have hsm:bz x⁻¹:=by
   unfold bz at *;rw [hn,hd,Int.natAbs_mul];refine⟨?_,by split <;> omega⟩;have:x.num.sign.natAbs≤1:=by rcases Int.lt_trichotomy x.num 0 with h|h|h <;> simp [Int.sign_eq_neg_one_of_neg,Int.sign_eq_one_of_pos,h]
   have h2:=Nat.mul_le_mul_right ((x.den:Int).natAbs) this;rw [Nat.one_mul,Int.natAbs_natCast]at h2;have:=hs.2;rw [Int.natAbs_natCast];omega
  rw [fE hs,fE hsm,hn,hd];unfold bz at hs;rcases Int.lt_trichotomy x.num 0 with h0|h0|h0
  ·rw [Int.sign_eq_neg_one_of_neg h0,if_neg om];refine Pi Tryz.func54 fun C=>?_
   repeat(refine A1 ⟨?_⟩;intros)
   refine aS (aJ (RV.cellA rfl List.mem_cons_self rfl rfl) (Le.ag ⟨Le.int om,Le.int om,Le.refl _,trivial⟩))
  ·rw [h0];refine Pi Tryz.func54 fun C=>?_
   repeat(refine A1 ⟨?_⟩;intros)
   refine aS (aJ (RV.cellA rfl List.mem_cons_self rfl rfl) (Le.ag ⟨Le.int (by simp),Le.int (by simp),Le.refl _,trivial⟩))
  ·rw [Int.sign_eq_one_of_pos h0,if_neg om];refine Pi Tryz.func54 fun C=>?_
   repeat(refine A1 ⟨?_⟩;intros)
   refine aS (aJ (RV.cellA rfl List.mem_cons_self rfl rfl) (Le.ag ⟨Le.int om,Le.int om,Le.refl _,trivial⟩))
 ·have h1:=bQ x;have h2:=cB x;have h4:il x.num=(dgs x.num.natAbs).length:=rfl;have hr:=jC (decide (x.num<0)) (dgs x.den) (dgs x.num.natAbs) om om (aR _) (aR _);rw [au,au,zx]at hr;rw [mS hs];refine Pi Tryz.func54 fun C=>?_
  repeat(first|(refine A1 ⟨?_⟩;intros)|refine W4 hr ⟨?_⟩)
  refine aS (aJ (RV.cellA rfl (by first|exact Ms|exact Mc Ms) rfl rfl) Lr)
section
variable {P:Program}{C:Ctx}{n:Nat}{F:Fr}{H:LH}{ops:Array Oper}{K:Fr→LH→Prop}{Q:Exit→Fr→LH→Prop}
theorem St.sub {H':LH}{a:Act}{w:World}(hs:St C n F H a w) (h:H'.Sublist H):St C n F H' a w:=by
 obtain⟨hdef,hn,m,h1,h2,h3,h4,h5⟩:=hs;exact⟨hdef,hn,m,h1,⟨(h.map _).nodup h2.1,fun e he=>h2.2 e (h.subset he)⟩,h3,fun e he=>h4 e (h.subset he),h5⟩
theorem WP.sub {c:Code}{H':LH}(h:H'.Sublist H) (k:WP P C n c Q F H'):WP P C n c Q F H:=by
 unfold WP at *;exact fun a w hs=>k a w (hs.sub h)
theorem WP.loopS {ι:Type}{c:Code}(J:ι→Prop) (μ:ι→Nat) (G:ι→Fr) (L:ι→LH) (x0:ι) (h0:J x0) (hF:LeF F (G x0)) (hH:(L x0).Sublist H)
  (round:∀x,J x→∀K:Fr→LH→Prop,(∀F' H' x',J x'→μ x'<μ x→LeF F' (G x')→(L x').Sublist H'→K F' H')→WP P C n c (dW K Q) (G x) (L x)) :
  WP P C n (.loop c) Q F H:=by
 refine WP.sub hH (WP.le hF ?_);unfold WP;intro a w hs;refine wp_loop_ghost (fun k a w=>∃x,μ x=k∧J x∧St C n (G x) (L x) a w) (μ x0) ⟨x0,rfl,h0,hs⟩ ?_;rintro k a w ⟨x,rfl,hJ,hs⟩;have hr:=round x hJ (fun F' H'=>∃x',J x'∧μ x'<μ x∧LeF F' (G x')∧(L x').Sublist H') (fun F' H' x' a b c d=>⟨x',a,b,c,d⟩);unfold WP at hr;refine wp_mono (hr a w hs) ?_;rintro e a' w' (⟨F',H',hs',hq⟩|⟨ch,rfl,hp⟩)
 ·unfold dW at hq;cases e with
  |normal =>
   obtain⟨x',hJ',hμ,hF',hH'⟩:=hq;exact⟨μ x',hμ,x',rfl,hJ',(hs'.le hF').sub hH'⟩
  |_=>exact .inl ⟨F',H',hs',hq⟩
 ·exact .inr ⟨ch,rfl,hp⟩
theorem WgE {d:Option Nat}{op:Op}{ty:TypeId}{pos:String}{aft:Array Edge}{rest:List Oper}{K:Fr→LH→Prop}{j:Nat}{t:Bool}{oj:Oper}{dj:Nat}(k:WPL P C n ops (⟨d,op,ty,pos,aft,none⟩::rest) K F H)
  (hj:ops[j]? = some oj:=by exact rfl) (hdj:oj.dst=some dj:=by exact rfl) (hf:F dj=lit (.bool t):=by exact rfl) (hdn:Nat.blt dj n=true:=by exact rfl):WPL P C n ops (⟨d,op,ty,pos,aft,some (j,t)⟩::rest) K F H:=by
 unfold WPL at *;intro a w hs Q hq;have hy:=mC hs hj hdj hf hdn;have h:=k a w hs Q hq;unfold wpList at h⊢;have h1:Region.wanted (⟨d,op,ty,pos,aft,none⟩:Oper) (yielded ops a.tmps)=true:=rfl;have h2:Region.wanted (⟨d,op,ty,pos,aft,some (j,t)⟩:Oper) (yielded ops a.tmps)=true:=by simp [Region.wanted,hy]
 rw [if_pos h1]at h;rw [if_pos h2];exact h
end
theorem dJ {α β:Type}{f:α→List β}{n:Nat}(hf:∀a,(f a).length=n):∀{l:List α}{k:Nat}{a:α},l[k]? = some a→(((l.map f).flatten).drop (k*n)).take n=f a
 | [],_,_,h=>by simp at h
 |x::l,0,a,h=>by
  simp at h;subst h;simp [hf x]
 |x::l,k+1,a,h=>by
  have:=dJ hf (l:=l) (k:=k) (a:=a) (by simpa using h);rw [List.map_cons,List.flatten_cons,show(k+1)*n=(f x).length+k*n from by rw [hf,Nat.add_mul,Nat.one_mul,Nat.add_comm],List.drop_append,List.drop_eq_nil_of_le (Nat.le_add_right _ _),List.nil_append,Nat.add_sub_cancel_left];exact this
theorem eI {α β:Type}{f:α→List β}{n:Nat}(hf:∀a,(f a).length=n) (hn:0<n){l:List α}(h:l≠[]):(l.map f).flatten≠[]:=by
 cases l with
 |nil=>exact absurd rfl h
 |cons x l =>
  intro e;have:=congrArg List.length e;simp [hf x]at this;omega
def KI:Option Value→Addr
 |some (.iface _ (.pointer (some a)))=>a
 |_=>⟨0,0,none⟩
def Jn (g:Nat):Addr:=match Base.mem g with
 |some (.cells arr _ _)=>KI arr[0]?
 |_=>⟨0,0,none⟩
abbrev JH (g:Nat):Value := .iface 369 (.pointer (some (Jn g)))
class J6 (g:Nat):Prop where
 h:∃(a:Addr) (T:TypeId) (fz:Nat×Nat),Base.mem g=some (.cells #[.iface 369 (.pointer (some a))] T fz)
instance (g:Nat) [s:J6 g]:GV g (JH g):=⟨by
 obtain⟨a,T,fz,h⟩:=s.h;refine⟨T,fz,?_⟩;unfold JH Jn;rw [h];rfl⟩
section
variable {F:Fr}{H:LH}{ty:TypeId}
end
theorem DV (ds:List Nat) (hl:ds.length≤1000000000):Pu Tryz.prog 108 [dg ds] (dg (f9 ds)):=by
 refine Pi Tryz.func108 fun C=>?_
 repeat(refine A1 ⟨?_⟩;intros)
 refine WP.loop (ι:=Nat) (fun k=>k≤ds.length∧f9 (ds.take k)=f9 ds) (fun k=>k) (fun k=>fm [(0,dg ds),(3,lit (.int .i64 k))]) (fun _=>[]) ds.length ⟨Nat.le_refl _,by rw [List.take_length]⟩ lfA rfl ?_;rintro k ⟨hk,ht⟩ K hK;rcases k with _|j
 ·repeat(refine A1 ⟨?_⟩;intros)
  refine Wo (uZ 0 rfl rfl om om) ?_;repeat(refine A1 ⟨?_⟩;intros)
  exact aS (aJ (RV.tmp rfl) (Le.of_eq (by rw [←ht];rfl)))
 ·repeat(refine AS ⟨?_⟩;intros)
  iterate 5 (refine O1 ⟨?_⟩;intros)
  refine Wog (v7 (r:=(j:Int)) rfl rfl (Dt om om om)) ?_;refine Wog (lK (i:=j) rfl rfl om) ?_;by_cases hd:ds.getD j 0=0
  ·repeat(refine A1 ⟨?_⟩;intros)
   refine hK _ _ j ⟨om,?_⟩ om lfA rfl;rw [bk ds j om,hd,fo]at ht;exact ht
  ·rw [bk ds j om,gz _ _ hd,←bk ds j om]at ht;repeat(refine A1 ⟨?_⟩;intros)
   refine Wo (uZ (j+1) rfl rfl om om) ?_;repeat(refine A1 ⟨?_⟩;intros)
   exact aS (aJ (RV.tmp (s:=dg (List.take (j+1) ds)) rfl) (Le.of_eq (by rw [ht])))
theorem cS (ds:List Nat) (hl:ds.length≤1000000000) (hD:D ds):Pu Tryz.prog 108 [dg ds] (nat (val ds)):=by
 have:=DV ds hl;rwa [nH hD]at this
theorem gW (u:Nat) (hu:u<18446744073709551616):Pu Tryz.prog 107 [lit (.int .u64 u)] (nat u):=by
 have hD:D [u%4294967296,u/4294967296]:=D.cons om (D.cons om D.nil);have hv:val [u%4294967296,u/4294967296]=u:=by simp [val];omega
 refine Pi Tryz.func107 fun C=>?_
 repeat(refine A1 ⟨?_⟩;intros)
 refine g9 (ds:=[u%4294967296,u/4294967296]) 8 rfl (ak.here _) rfl om om ?_;refine Wc (cS _ (by simp) hD) ?_;rw [hv];exact Z1
theorem zg:Pu Tryz.prog 105 [] (nat 1):=by
 rw [nat,kt];refine Pi Tryz.func105 fun C=>?_
 repeat(refine AS ⟨?_⟩;intros)
 (refine O1 ⟨?_⟩;intros)
 repeat(refine AS ⟨?_⟩;intros)
 iterate 1 (refine O1 ⟨?_⟩;intros)
 refine g9 (ds:=[1]) 1 rfl (ak.here _) rfl om om ?_;exact Z1
theorem Ae (z:Int):Pu Tryz.prog 165 [lit (.int .i64 z)] (lit (.int .i64 z.sign)):=by
 rcases Int.lt_trichotomy z 0 with h|h|h
 ·rw [Int.sign_eq_neg_one_of_neg h];refine Pi Tryz.func165 fun C=>?_
  exact Z1
 ·subst h;refine Pi Tryz.func165 fun C=>?_
  exact Z1
 ·rw [Int.sign_eq_one_of_pos h];refine Pi Tryz.func165 fun C=>?_
  exact Z1
theorem nR (a b:Nat) (h1:(dgs a).length≤1000000000) (h2:(dgs b).length≤1000000000):Pu Tryz.prog 104 [nat a,nat b] (lit (.int .i64 (jR a b))):=by
 have hxa:=au a;have hxb:=au b;have hDa:=aR a;have hDb:=aR b;by_cases hlen:(dgs a).length=(dgs b).length
 ·refine Pi Tryz.func104 fun C=>?_
  repeat(refine A1 ⟨?_⟩;intros)
  refine WP.loop (ι:=Nat) (fun k=>k≤(dgs a).length∧(dgs a).drop k=(dgs b).drop k) (fun k=>k) (fun k=>fm [(0,dg (dgs a)),(1,dg (dgs b)),(5,lit (.int .i64 ((k:Int)-1)))]) (fun _=>[]) (dgs a).length
   ⟨Nat.le_refl _,by rw [List.drop_length,hlen,List.drop_length]⟩ lfA rfl ?_
  rintro k ⟨hk,hd⟩ K hK;rcases k with _|j
  ·repeat(refine A1 ⟨?_⟩;intros)
   ((first|refine aS ?_|refine eV ?_);refine aJ (RV.tmp rfl) (Le.int ?_))
   simp only [List.drop_zero]at hd;rw [Bi hd,oE]
  ·rw [show(((j+1:Nat):Int)-1)=(j:Int)from by omega];rcases Nat.lt_trichotomy ((dgs a).getD j 0) ((dgs b).getD j 0)with hlt|heq|hgt
   ·have hlt':=ld j hDa om om hd hlt;rw [hxa,hxb]at hlt';repeat(refine A1 ⟨?_⟩;intros)
    ((first|refine aS ?_|refine eV ?_);refine aJ (RV.tmp rfl) (Le.int ?_))
    rw [ib hlt']
   ·repeat(refine A1 ⟨?_⟩;intros)
    refine hK _ _ j ⟨om,?_⟩ om lfA rfl;rw [cM _ j om,cM (dgs b) j om,hd,heq]
   ·have hlt':=ld j hDb om om hd.symm hgt;rw [hxa,hxb]at hlt';repeat(refine A1 ⟨?_⟩;intros)
    ((first|refine aS ?_|refine eV ?_);refine aJ (RV.tmp rfl) (Le.int ?_))
    rw [jd hlt']
 ·rcases Nat.lt_or_gt_of_ne hlen with hlt|hgt
  ·have hab:a<b:=by
    rcases Nat.lt_or_ge a b with h|h
    ·exact h
    ·have:=aM h;omega
   refine Pi Tryz.func104 fun C=>?_
   repeat(refine A1 ⟨?_⟩;intros)
   refine Wc (Ae _) ?_;rw [Int.sign_eq_neg_one_of_neg om];repeat(refine A1 ⟨?_⟩;intros)
   ((first|refine aS ?_|refine eV ?_);refine aJ (RV.tmp rfl) (Le.int ?_))
   rw [ib hab]
  ·have hab:b<a:=by
    rcases Nat.lt_or_ge b a with h|h
    ·exact h
    ·have:=aM h;omega
   refine Pi Tryz.func104 fun C=>?_
   repeat(refine A1 ⟨?_⟩;intros)
   refine Wc (Ae _) ?_;rw [Int.sign_eq_one_of_pos om];repeat(refine A1 ⟨?_⟩;intros)
   ((first|refine aS ?_|refine eV ?_);refine aJ (RV.tmp rfl) (Le.int ?_))
   rw [jd hab]
theorem IG {n:Nat}(h:(dgs n).length=2):n=(dgs n).getD 0 0+(dgs n).getD 1 0*4294967296:=by
 have hv:=au n;generalize dgs n=l at *;match l,h with
 | [a,b],_=>simp [val]at hv⊢;omega
theorem Bj {n:Nat}(h:(dgs n).length=1):n=(dgs n).getD 0 0:=by
 have hv:=au n;generalize dgs n=l at *;match l,h with
 | [a],_=>simp [val]at hv⊢;omega
theorem Lj {n:Nat}(h:(dgs n).length=0):n=0:=by
 have hv:=au n;rw [List.length_eq_zero_iff.1 h]at hv;exact hv.symm
theorem qk {n:Nat}(h:(dgs n).length≤2):n<18446744073709551616:=Nat.lt_of_lt_of_le (jp n) (Nat.le_trans (Nat.pow_le_pow_right om h) (by decide))
theorem nL (n:Nat) (h:(dgs n).length≤1000000000):Pu Tryz.prog 164 [nat n] (if(dgs n).length≤2 then tup [lit (.int .u64 n),lit (.bool true)]else tup [lit (.int .u64 0),lit (.bool false)]):=by
 have hD:=aR n;by_cases h0:(dgs n).length=0
 ·rw [if_pos om];have e:=Lj h0;refine Pi Tryz.func164 fun C=>?_
  repeat(refine A1 ⟨?_⟩;intros)
  refine aS (fF (RV.tmp rfl) (RV.tmp rfl) (Le.tup2 (Le.int om) Lr))
 ·by_cases h1:(dgs n).length=1
  ·rw [if_pos om];have e:n=(dgs n).getD (Int.toNat 0) 0:=Bj h1;have b:(dgs n).getD (Int.toNat 0) 0<4294967296:=hD.get 0;refine Pi Tryz.func164 fun C=>?_
   repeat(refine A1 ⟨?_⟩;intros)
   refine aS (fF (RV.tmp rfl) (RV.tmp rfl) (Le.tup2 (Le.int om) Lr))
  ·by_cases h2:(dgs n).length=2
   ·rw [if_pos om];have e:n=(dgs n).getD (Int.toNat 0) 0+(dgs n).getD (0+1) 0*4294967296:=IG h2;have b0:(dgs n).getD (Int.toNat 0) 0<4294967296:=hD.get 0;have b1:(dgs n).getD (0+1) 0<4294967296:=hD.get 1;refine Pi Tryz.func164 fun C=>?_
    repeat(refine A1 ⟨?_⟩;intros)
    refine Wdo (kE rfl rfl (zf ((dgs n).getD (0+1) 0) ((dgs n).getD (Int.toNat 0) 0) rfl rfl b1 b0)) ?_;repeat(refine A1 ⟨?_⟩;intros)
    refine aS (fF (RV.tmp rfl) (RV.tmp rfl) (Le.tup2 (Le.int om) Lr))
   ·rw [if_neg om];refine Pi Tryz.func164 fun C=>?_
    repeat(refine A1 ⟨?_⟩;intros)
    exact G2
theorem Gq (a b c:Nat) (ha:a<4294967296) (hb:b<4294967296) (hc:c≤1):Pu Tryz.prog 228 [lit (.int .u32 a),lit (.int .u32 b),lit (.int .u32 c)] (tup [lit (.int .u32 ((a+b+c)%4294967296:Nat)),lit (.int .u32 ((a+b+c)/4294967296:Nat))]):=by
 refine Pi Tryz.func228 fun C=>?_
 repeat(refine A1 ⟨?_⟩;intros)
 refine aS (fF (RV.tmp rfl) (RV.tmp rfl) (Le.tup2 (Le.int om) (Le.int om)))
section
variable {P:Program}{F:Fr}{H:LH}{ty:TypeId}
theorem nX (X:BitVec 32):BitVec.ofInt (IntKind.bits .u32) (X.toNat:Int)=X:=by
 show BitVec.ofInt 32 (X.toNat:Int)=X
 rw [BitVec.ofInt_natCast,BitVec.ofNat_toNat,BitVec.setWidth_eq]
theorem q8 (X:BitVec 32):IntKind.u32.wrap (X.toNat:Int)=(X.toNat:Int):=yn om (by have:=X.isLt;omega)
theorem Hu {T T':TypeId}{x y:Operand}(X Y:BitVec 32) (hx:ev F x=lit (.int .u32 X.toNat)) (hy:ev F y=lit (.int .u32 Y.toNat)):OpV P (.binOp .xor T x y T') ty F H (lit (.int .u32 (X ^^^ Y).toNat)) :=
 cj hx hy (fun w=>by simp only [Go.binOp,ne_eq,not_true_eq_false,if_false,Op.intBits,Sem.run_pure,nX];exact congrArg (fun z=>Result.ok (Value.int .u32 z) w) (q8 _)) bJ
theorem AG {T T':TypeId}{x y:Operand}(X Y:BitVec 32) (hx:ev F x=lit (.int .u32 X.toNat)) (hy:ev F y=lit (.int .u32 Y.toNat)):OpV P (.binOp .and T x y T') ty F H (lit (.int .u32 (X &&& Y).toNat)) :=
 cj hx hy (fun w=>by simp only [Go.binOp,ne_eq,not_true_eq_false,if_false,Op.intBits,Sem.run_pure,nX];exact congrArg (fun z=>Result.ok (Value.int .u32 z) w) (q8 _)) bJ
theorem K1 {T T':TypeId}{x y:Operand}(X Y:BitVec 32) (hx:ev F x=lit (.int .u32 X.toNat)) (hy:ev F y=lit (.int .u32 Y.toNat)):OpV P (.binOp .or T x y T') ty F H (lit (.int .u32 (X ||| Y).toNat)) :=
 cj hx hy (fun w=>by simp only [Go.binOp,ne_eq,not_true_eq_false,if_false,Op.intBits,Sem.run_pure,nX];exact congrArg (fun z=>Result.ok (Value.int .u32 z) w) (q8 _)) bJ
theorem xf {T:TypeId}{x:Operand}(X:BitVec 32) (hx:ev F x=lit (.int .u32 X.toNat)):OpV P (.unOp .xor T x) ty F H (lit (.int .u32 (~~~X).toNat)) :=
 OpV.pure fun m w o a ho _ _ _ h=>by
  have h0:=h x (by simp [Op.operands]);rw [hx,aq]at h0;refine⟨.int .u32 (~~~X).toNat,?_,aq.2 rfl⟩
  have e:BitVec.ofInt (IntKind.bits .u32) (IntKind.max .u32)=BitVec.allOnes 32:=by
   show BitVec.ofInt 32 4294967295=BitVec.allOnes 32
   decide
  have e2:IntKind.u32.wrap ((BitVec.allOnes 32 ^^^ X).toNat:Int)=((~~~X).toNat:Int):=by rw [BitVec.allOnes_xor];exact q8 _
  simp only [execOp,ho,h0,Op.unary,Op.intBits,IntKind.signed,Bool.false_eq_true,if_false,e,nX,Sem.run_bind,Sem.run_pure,Result.andThen_ok];exact congrArg (fun z=>Result.ok (Next.value (Value.int .u32 z)) w) e2
end
theorem vY (X:BitVec 32):X.toNat/2147483648=X.msb.toNat:=by
 have h:=X.isLt;rw [BitVec.msb_eq_decide];by_cases hc:2^(32-1)≤X.toNat <;> simp [hc] <;> omega
theorem yC {vo va vb p c c' x y d:Nat}(h:vo+vb=va+p*c) (hd:x+4294967296*c'=d+c+y):vo+p*d+(vb+p*y)=va+p*x+p*4294967296*c':=by
 have:=congrArg (fun t=>p*t) hd;simp only [Nat.mul_add,←Nat.mul_assoc]at this;omega
theorem yN {vo va vb p c s x y:Nat}(h:vo+p*c=va+vb) (hs:s=x+y+c):vo+p*(s%4294967296)+p*4294967296*(s/4294967296)=va+p*x+(vb+p*y):=by
 subst hs;have e:=Nat.div_add_mod (x+y+c) 4294967296;rw [Nat.mul_assoc,Nat.add_assoc,←Nat.mul_add,Nat.add_comm ((x+y+c)%4294967296),e,Nat.mul_add,Nat.mul_add];omega
theorem DI (x y b:Nat) (hx:x<4294967296) (hy:y<4294967296) (hb:b≤1):Pu Tryz.prog 229 [lit (.int .u32 x),lit (.int .u32 y),lit (.int .u32 b)] (tup [lit (.int .u32 ((x+8589934592-y-b)%4294967296:Nat)),lit (.int .u32 (if x<y+b then 1 else 0))]):=by
 obtain⟨X,eX⟩:∃X:BitVec 32,x=X.toNat:=⟨BitVec.ofNat 32 x,by rw [BitVec.toNat_ofNat,Nat.mod_eq_of_lt hx]⟩
 obtain⟨Y,eY⟩:∃X:BitVec 32,y=X.toNat:=⟨BitVec.ofNat 32 y,by rw [BitVec.toNat_ofNat,Nat.mod_eq_of_lt hy]⟩
 obtain⟨Z,eZ⟩:∃X:BitVec 32,(x+8589934592-y-b)%4294967296=X.toNat:=⟨BitVec.ofNat 32 ((x+8589934592-y-b)%4294967296),by rw [BitVec.toNat_ofNat,Nat.mod_mod]⟩
 have fin:(((~~~X &&& Y) ||| (~~~(X ^^^ Y) &&& Z)).toNat:Int)/2147483648=if x<y+b then 1 else 0:=by
  have e:(((~~~X &&& Y) ||| (~~~(X ^^^ Y) &&& Z)).toNat:Int)/2147483648=((((~~~X &&& Y) ||| (~~~(X ^^^ Y) &&& Z)).toNat/2147483648:Nat):Int):=rfl;rw [e,vY];have mX:=vY X;have mY:=vY Y;have mZ:=vY Z;rw [←eX]at mX;rw [←eY]at mY;rw [←eZ]at mZ;have mm:((~~~X &&& Y) ||| (~~~(X ^^^ Y) &&& Z)).msb=(((!X.msb)&&Y.msb)||((!(X.msb ^^ Y.msb))&&Z.msb)):=by simp [BitVec.msb_or,BitVec.msb_and,BitVec.msb_xor,BitVec.msb_not]
  rw [mm];clear mm e eX eY eZ;generalize X.msb=p at *;generalize Y.msb=q at *;generalize Z.msb=r at *;by_cases hlt:x<y+b
  ·rw [if_pos hlt];cases p <;> cases q <;> cases r <;> simp only [Bool.toNat_true,Bool.toNat_false]at mX mY mZ <;> first|rfl|(exfalso;omega)
  ·rw [if_neg hlt];cases p <;> cases q <;> cases r <;> simp only [Bool.toNat_true,Bool.toNat_false]at mX mY mZ <;> first|rfl|(exfalso;omega)
 rw [eZ];refine Pi Tryz.func229 fun C=>?_
 repeat(refine A1 ⟨?_⟩;intros)
 rw [show(((x:Int)-y)%4294967296-b)%4294967296=(Z.toNat:Int)from by rw [←eZ];omega];rw [eX,eY]at *;refine Wo (xf X rfl) ?_;repeat(refine A1 ⟨?_⟩;intros)
 refine Wo (AG (~~~X) Y rfl rfl) ?_;repeat(refine A1 ⟨?_⟩;intros)
 refine Wo (Hu X Y rfl rfl) ?_;refine Wo (xf (X ^^^ Y) rfl) ?_;repeat(refine A1 ⟨?_⟩;intros)
 refine Wo (AG (~~~(X ^^^ Y)) Z rfl rfl) ?_;refine Wo (K1 (~~~X &&& Y) (~~~(X ^^^ Y) &&& Z) rfl rfl) ?_;repeat(refine A1 ⟨?_⟩;intros)
 rw [fin];exact G2
theorem GW (a b:Nat) (ha:(dgs a).length≤100000000) (hb:(dgs b).length≤100000000):Pu Tryz.prog 190 [nat a,nat b] (nat (a+b)):=by
 have hP:=aR a;have hQ:=aR b;have hva:=au a;have hvb:=au b;show Pu _ _ [dg (dgs a),dg (dgs b)] _
 generalize dgs a=p at *;generalize dgs b=q at *;obtain⟨n,hn⟩:∃n,n=max p.length q.length:=⟨_,rfl⟩
 refine Pi Tryz.func190 fun C=>?_
 repeat(refine A1 ⟨?_⟩;intros)
 refine Wo (zd rfl rfl (r:=(n:Int)) (by split <;> omega)) ?_;repeat(refine A1 ⟨?_⟩;intros)
 refine oM (n+1) rfl rfl om om fun bb=>?_
 repeat(refine A1 ⟨?_⟩;intros)
 refine WP.loop (ι:=Nat×Nat×List Nat) (fun s=>s.1≤n∧s.2.1≤1∧s.2.2.length=n+1∧D s.2.2∧val (s.2.2.take s.1)+4294967296^s.1*s.2.1=val (p.take s.1)+val (q.take s.1)) (fun s=>n-s.1)
  (fun s=>fm [(0,dg p),(1,dg q),(5,lit (.int .i64 n)),(6,lit (.slice (some ⟨bb,0,none⟩) (n+1) (n+1))),(7,lit (.int .u32 s.2.1)),(8,lit (.int .i64 s.1))])
  (fun s=>[(bb,188,ax s.2.2)]) (0,0,List.replicate (n+1) 0) ⟨Nat.zero_le _,Nat.zero_le _,by simp,D.rep _,by simp [val]⟩ lfA rfl ?_
 rintro ⟨k,c,os⟩ ⟨hk,hc,hol,hO,hval⟩ K hK;simp only at hk hc hol hO hval⊢;by_cases hkl:k<n
 ·have hp:=hP.get k;have hq:=hQ.get k;repeat(refine A1 ⟨?_⟩;intros)
  refine WP.via (fun F H=>LeF F (fm [(0,dg p),(1,dg q),(5,lit (.int .i64 n)),(6,lit (.slice (some ⟨bb,0,none⟩) (n+1) (n+1))),(7,lit (.int .u32 c)),(8,lit (.int .i64 k)),(9,lit (.int .u32 (p.getD k 0:Nat))),(10,lit (.int .u32 0))])∧H=[(bb,188,ax os)]) ?_ ?_
  ·refine WPd (fun h=>?_) (fun h=>?_)
   ·repeat(refine A1 ⟨?_⟩;intros)
    exact⟨lfA,rfl⟩
   ·have h0:p.getD k 0=0:=by simp [List.getD,List.getElem?_eq_none (show p.length≤k by omega)]
    repeat(refine A1 ⟨?_⟩;intros)
    exact⟨lfA,rfl⟩
  rintro F H ⟨hF,rfl⟩;refine WP.le hF ?_;repeat(refine A1 ⟨?_⟩;intros)
  refine WP.via (fun F H=>LeF F (fm [(0,dg p),(1,dg q),(5,lit (.int .i64 n)),(6,lit (.slice (some ⟨bb,0,none⟩) (n+1) (n+1))),(7,lit (.int .u32 c)),(8,lit (.int .i64 k)),(9,lit (.int .u32 (p.getD k 0:Nat))),(10,lit (.int .u32 (q.getD k 0:Nat)))])∧H=[(bb,188,ax os)]) ?_ ?_
  ·refine WPd (fun h=>?_) (fun h=>?_)
   ·repeat(refine A1 ⟨?_⟩;intros)
    exact⟨lfA,rfl⟩
   ·have h0:q.getD k 0=0:=by simp [List.getD,List.getElem?_eq_none (show q.length≤k by omega)]
    repeat(refine A1 ⟨?_⟩;intros)
    exact⟨lfA,rfl⟩
  rintro F H ⟨hF,rfl⟩;refine WP.le hF ?_;repeat(refine A1 ⟨?_⟩;intros)
  refine Wc (Gq (p.getD k 0) (q.getD k 0) c hp hq hc) ?_;repeat(refine A1 ⟨?_⟩;intros)
  refine f8 ((p.getD k 0+q.getD k 0+c)%4294967296) rfl rfl rfl (ay.here _) om ?_;repeat(refine A1 ⟨?_⟩;intros)
  refine hK _ _ (k+1,(p.getD k 0+q.getD k 0+c)/4294967296,os.set k ((p.getD k 0+q.getD k 0+c)%4294967296)) ⟨by simp only;omega,by simp only;omega,by simpa using hol,hO.set k om,?_⟩ (by simp only;omega) lfA rfl;simp only;rw [dr os k _ om,aA,aA,Nat.pow_succ];exact yN hval rfl
 ·have hke:k=n:=by omega
  subst hke;repeat(refine A1 ⟨?_⟩;intros)
  refine f8 c rfl rfl om (ay.here _) om ?_;repeat(refine A1 ⟨?_⟩;intros)
  refine g9 (ds:=os.set k c) 54 rfl (ak.here _) (by simpa using hol) om om ?_;refine Wc (cS (os.set k c) (by simp;omega) (hO.set _ om)) ?_
  have hfull:val (os.set k c)=a+b:=by
   have h1:=dr os k c om;rw [List.take_of_length_le (by simp;omega)]at h1;rw [h1,hval,List.take_of_length_le om,List.take_of_length_le om,hva,hvb]
  rw [hfull];exact Z1
theorem r5 (a b:Nat) (hab:b≤a) (hl:(dgs a).length≤100000000):Pu Tryz.prog 191 [nat a,nat b] (nat (a-b)):=by
 have hP:=aR a;have hQ:=aR b;have hqp:=aM hab;have hva:=au a;have hvb:=au b;show Pu _ _ [dg (dgs a),dg (dgs b)] _
 generalize dgs a=p at *;generalize dgs b=q at *;refine Pi Tryz.func191 fun C=>?_
 repeat(refine A1 ⟨?_⟩;intros)
 refine oM p.length rfl rfl om om fun bb=>?_
 repeat(refine A1 ⟨?_⟩;intros)
 refine WP.loop (ι:=Nat×Nat×List Nat) (fun s=>s.1≤p.length∧s.2.1≤1∧s.2.2.length=p.length∧D s.2.2∧val (s.2.2.take s.1)+val (q.take s.1)=val (p.take s.1)+4294967296^s.1*s.2.1) (fun s=>p.length-s.1)
  (fun s=>fm [(0,dg p),(1,dg q),(5,lit (.slice (some ⟨bb,0,none⟩) p.length p.length)),(6,lit (.int .u32 s.2.1)),(13,lit (.int .i64 p.length)),(14,lit (.int .i64 s.1))])
  (fun s=>[(bb,188,ax s.2.2)]) (0,0,List.replicate p.length 0) ⟨Nat.zero_le _,Nat.zero_le _,by simp,D.rep _,by simp [val]⟩ lfA rfl ?_
 rintro ⟨k,c,os⟩ ⟨hk,hc,hol,hO,hval⟩ K hK;simp only at hk hc hol hO hval⊢;by_cases hkl:k<p.length
 ·have hp:=hP.get k;have hq:=hQ.get k;repeat(refine A1 ⟨?_⟩;intros)
  refine WP.via (fun F H=>LeF F (fm [(0,dg p),(1,dg q),(5,lit (.slice (some ⟨bb,0,none⟩) p.length p.length)),(6,lit (.int .u32 c)),(7,lit (.int .i64 k)),(8,lit (.int .u32 (q.getD k 0:Nat))),(13,lit (.int .i64 p.length)),(14,lit (.int .i64 k))])∧H=[(bb,188,ax os)]) ?_ ?_
  ·refine WPd (fun h=>?_) (fun h=>?_)
   ·repeat(refine A1 ⟨?_⟩;intros)
    exact⟨lfA,rfl⟩
   ·have h0:q.getD k 0=0:=by simp [List.getD,List.getElem?_eq_none (show q.length≤k by omega)]
    repeat(refine A1 ⟨?_⟩;intros)
    exact⟨lfA,rfl⟩
  rintro F H ⟨hF,rfl⟩;refine WP.le hF ?_;repeat(refine A1 ⟨?_⟩;intros)
  refine Wc (DI (p.getD k 0) (q.getD k 0) c hp hq hc) ?_
  have fin:∀x c',c'≤1→x<4294967296→p.getD k 0+4294967296*c'=x+c+q.getD k 0→∀F' H',LeF F' (fm [(0,dg p),(1,dg q),(5,lit (.slice (some ⟨bb,0,none⟩) p.length p.length)),(6,lit (.int .u32 c')),(13,lit (.int .i64 p.length)),(14,lit (.int .i64 ((k+1:Nat):Int)))])→
    H'=[(bb,188,ax (os.set k x))]→K F' H':=fun x c' hc' hx hd F' H' hF hH=>by
   refine hK F' H' (k+1,c',os.set k x) ⟨by simp only;omega,hc',by simpa using hol,hO.set k hx,?_⟩ (by simp only;omega) hF hH;simp only;rw [dr os k _ om,aA,aA,Nat.pow_succ];exact yC hval hd
  by_cases hb:p.getD k 0<q.getD k 0+c
  ·rw [if_pos hb];repeat(refine A1 ⟨?_⟩;intros)
   refine f8 ((p.getD k 0+8589934592-q.getD k 0-c)%4294967296) rfl rfl rfl (ay.here _) om ?_;repeat(refine A1 ⟨?_⟩;intros)
   exact fin _ 1 om om om _ _ lfA rfl
  ·rw [if_neg hb];repeat(refine A1 ⟨?_⟩;intros)
   refine f8 ((p.getD k 0+8589934592-q.getD k 0-c)%4294967296) rfl rfl rfl (ay.here _) om ?_;repeat(refine A1 ⟨?_⟩;intros)
   exact fin _ 0 om om om _ _ lfA rfl
 ·have hke:k=p.length:=by omega
  subst hke;repeat(refine A1 ⟨?_⟩;intros)
  refine g9 (ds:=os) 39 rfl (ak.here _) hol om om ?_;refine Wc (cS os om hO) ?_
  have hfull:val os=a-b:=by
   rw [List.take_length,List.take_of_length_le hqp,List.take_of_length_le om,hva,hvb]at hval;have h1:=bP hO;rw [hol]at h1;rcases Nat.lt_or_ge 0 c with h|h
   ·have:c=1:=by omega
    subst this;omega
   ·have:c=0:=by omega
    subst this;omega
  rw [hfull];exact Z1
theorem ej (a b:Nat) (hla:(dgs a).length≤100000000) (hlb:(dgs b).length≤100000000):Pu Tryz.prog 48 [nat a,nat b] (nat (a*b)):=by
 by_cases h11:(dgs a).length=1∧(dgs b).length=1
 ·have ea:a=(dgs a).getD (Int.toNat 0) 0:=Bj h11.1;have eb:b=(dgs b).getD (Int.toNat 0) 0:=Bj h11.2;have b0:(dgs a).getD (Int.toNat 0) 0<4294967296:=(aR a).get 0;have b1:(dgs b).getD (Int.toNat 0) 0<4294967296:=(aR b).get 0;have hp:=i0 b0 b1;have hq:=hp;rw [←ea,←eb]at hq;have hw:=gW (a*b) (by rw [←ea]at b0;rw [←eb]at b1;have:=Nat.mul_le_mul (Nat.le_of_lt_succ (Nat.lt_succ_of_le (Nat.le_pred_of_lt b0))) (Nat.le_of_lt_succ (Nat.lt_succ_of_le (Nat.le_pred_of_lt b1)));simp at this;omega);rw [Int.natCast_mul]at hw;refine Pi Tryz.func48 fun C=>?_
  repeat(refine A1 ⟨?_⟩;intros)
  rw [←ea,←eb];refine Wdc hw ?_;exact Z1
 ·have hP:=aR a;have hQ:=aR b;have hva:=au a;have hvb:=au b;show Pu _ _ [dg (dgs a),dg (dgs b)] _
  generalize dgs a=p at *;generalize dgs b=q at *;subst hva;subst hvb;have h12:p.length=1→q.length≠1:=fun a b=>h11 ⟨a,b⟩
  clear h11;refine Pi Tryz.func48 fun C=>?_
  repeat(refine AS ⟨?_⟩;intros)
  iterate 1 (refine O1 ⟨?_⟩;intros)
  refine WPL.nil ?_;refine t8 ?_;refine WP.seq' ?_;refine WP.via (fun F H=>LeF F (fm [(0,dg p),(1,dg q)])∧H=[]) ?_ ?_
  ·by_cases h1:p.length=1
   ·have h2:=h12 h1;clear h12;repeat(refine A1 ⟨?_⟩;intros)
    exact⟨lfA,rfl⟩
   ·clear h12;repeat(refine A1 ⟨?_⟩;intros)
    exact⟨lfA,rfl⟩
  ·rintro F H ⟨hF,rfl⟩;refine WP.le hF ?_;clear h12;repeat(refine A1 ⟨?_⟩;intros)
   refine oM (p.length+q.length) rfl rfl om om fun bb=>?_
   repeat(refine A1 ⟨?_⟩;intros)
   refine WP.loop (ι:=Nat×List Nat) (fun s=>s.1≤p.length∧s.2.length=p.length+q.length∧D s.2∧val s.2=val (p.take s.1)*val q∧∀j,s.1+q.length≤j→s.2.getD j 0=0) (fun s=>p.length-s.1)
    (fun s=>fm [(1,dg q),(5,lit (.slice (some ⟨bb,0,none⟩) (p.length+q.length) (p.length+q.length))),(36,dg p),(37,lit (.int .i64 p.length)),(38,lit (.int .i64 s.1))])
    (fun s=>[(bb,188,ax s.2)]) (0,List.replicate (p.length+q.length) 0) ⟨Nat.zero_le _,by simp,D.rep _,by simp [val,nA],fun j _=>by simp [List.getD,List.getElem?_replicate];split <;> simp⟩ lfA rfl ?_
   rintro ⟨i,os⟩ ⟨hi,hol,hO,hval,hz⟩ K hK;simp only at hi hol hO hval hz⊢;by_cases hil:i<p.length
   ·have hx:=hP.get i;repeat(refine A1 ⟨?_⟩;intros)
    refine WP.loop (ι:=Nat×Nat×List Nat) (fun s=>s.1≤q.length∧s.2.1<4294967296∧s.2.2.length=p.length+q.length∧D s.2.2∧val s.2.2+4294967296^i*4294967296^s.1*s.2.1=val os+4294967296^i*p.getD i 0*val (q.take s.1)∧∀j,i+q.length≤j→s.2.2.getD j 0=0) (fun s=>q.length-s.1)
     (fun s=>fm [(1,dg q),(5,lit (.slice (some ⟨bb,0,none⟩) (p.length+q.length) (p.length+q.length))),(6,lit (.int .i64 i)),(7,lit (.int .u32 (p.getD i 0:Nat))),(8,lit (.int .u64 s.2.1)),(36,dg p),(37,lit (.int .i64 p.length)),(38,lit (.int .i64 i)),(43,dg q),(44,lit (.int .i64 q.length)),(45,lit (.int .i64 s.1))])
     (fun s=>[(bb,188,ax s.2.2)]) (0,0,os) ⟨Nat.zero_le _,by simp,hol,hO,by simp [val],hz⟩ lfA rfl ?_
    rintro ⟨k,c,us⟩ ⟨hk,hc,hul,hU,hvu,hzu⟩ K2 hK2;simp only at hk hc hul hU hvu hzu⊢;by_cases hkl:k<q.length
    ·have hy:=hQ.get k;have ho:=hU.get (i+k);have hb:=i0 hx hy;have hcast:((p.getD i 0*q.getD k 0:Nat):Int)=(p.getD i 0:Int)*(q.getD k 0:Int):=Int.natCast_mul _ _;repeat(refine A1 ⟨?_⟩;intros)
     refine f8 ((p.getD i 0*q.getD k 0+us.getD (i+k) 0+c)%4294967296) rfl rfl om (ay.here _) om ?_;repeat(refine A1 ⟨?_⟩;intros)
     refine hK2 _ _ (k+1,(p.getD i 0*q.getD k 0+us.getD (i+k) 0+c)/4294967296,us.set (i+k) ((p.getD i 0*q.getD k 0+us.getD (i+k) 0+c)%4294967296))
      ⟨by simp only;omega,by simp only;omega,by simpa using hul,hU.set _ om,?_,fun j hj=>by rw [bq _ _ _ _ (by(try simp only at hj);omega)];exact hzu j hj⟩ (by simp only;omega) lfA rfl
     simp only;rw [aA,Nat.pow_succ];have hs:=eP us (i+k) ((p.getD i 0*q.getD k 0+us.getD (i+k) 0+c)%4294967296) om;rw [Nat.pow_add]at hs;exact tJ _ hvu om hs
    ·have hke:k=q.length:=by omega
     subst hke;have hz0:=hzu (i+q.length) om;repeat(refine A1 ⟨?_⟩;intros)
     refine f8 c rfl rfl om (ay.here _) om ?_;repeat(refine A1 ⟨?_⟩;intros)
     refine hK _ _ (i+1,us.set (i+q.length) c) ⟨by simp only;omega,by simpa using hul,hU.set _ hc,?_,fun j hj=>by rw [bq _ _ _ _ (by(try simp only at hj);omega)];exact hzu j (by(try simp only at hj);omega)⟩ (by simp only;omega) lfA rfl;simp only;have hs:=eP us (i+q.length) c om;rw [hz0,Nat.mul_zero,Nat.add_zero,Nat.pow_add]at hs;rw [hs,hvu,List.take_length,hval,aA,Nat.add_mul]
   ·have hie:i=p.length:=by omega
    subst hie;rw [List.take_length]at hval;repeat(refine A1 ⟨?_⟩;intros)
    refine g9 (ds:=os) 84 rfl (ak.here _) hol om om ?_;refine Wc (cS os om hO) ?_;rw [hval];exact Z1
theorem bA (s:Bool) (n:Nat) (h:(dgs n).length≤1000000000):Pu Tryz.prog 102 [lit (.bool s),nat n] (int (sv s n)):=by
 rw [vF];by_cases h0:n=0
 ·subst h0;have hl:(dgs 0).length=0:=by rw [aT];rfl
  cases s <;> simp only [Nat.lt_irrefl,decide_false,Bool.and_false]
  all_goals
   refine Pi Tryz.func102 fun C=>?_
   exact Z2
 ·have hl:=bX h0;cases s <;> simp only [Bool.false_and,Bool.true_and,decide_eq_true (Nat.pos_of_ne_zero h0)]
  all_goals
   refine Pi Tryz.func102 fun C=>?_
   exact Z2
theorem lp (z:Int) (h:(dgs z.natAbs).length≤1000000000):Pu Tryz.prog 29 [int z] (lit (.int .i64 z.sign)):=by
 rcases Int.lt_trichotomy z 0 with h0|h0|h0
 ·have hl:=bX (n:=z.natAbs) om;rw [Int.sign_eq_neg_one_of_neg h0,int,decide_eq_true h0];refine Pi Tryz.func29 fun C=>?_
  exact Z1
 ·subst h0;have hl:(dgs (Int.natAbs 0)).length=0:=by rw [show Int.natAbs 0=0 from rfl,aT];rfl
  refine Pi Tryz.func29 fun C=>?_
  exact Z1
 ·have hl:=bX (n:=z.natAbs) om;rw [Int.sign_eq_one_of_pos h0,int,decide_eq_false om];refine Pi Tryz.func29 fun C=>?_
  exact Z1
theorem io (z:Int) (h:(dgs z.natAbs).length≤1000000000):Pu Tryz.prog 45 [int z] (int (-z)):=by
 have m:=bA (!decide (z<0)) z.natAbs h;rw [show sv (!decide (z<0)) z.natAbs = -z from by by_cases h:z<0 <;> simp [sv,h] <;> omega]at m;refine Pi Tryz.func45 fun C=>?_
 repeat(refine A1 ⟨?_⟩;intros)
 refine Wc m ?_;exact Z2
theorem nP (a b:Int) (h1:(dgs a.natAbs).length≤100000000) (h2:(dgs b.natAbs).length≤100000000):Pu Tryz.prog 46 [int a,int b] (int (a*b)):=by
 have hl:=bW a.natAbs b.natAbs;have m:=bA (decide (a<0) != decide (b<0)) (a.natAbs*b.natAbs) om;rw [DF,eB,eB]at m;refine Pi Tryz.func46 fun C=>?_
 repeat(refine A1 ⟨?_⟩;intros)
 refine Wdc (ej a.natAbs b.natAbs h1 h2) ?_;repeat(refine A1 ⟨?_⟩;intros)
 refine Wdc m ?_;exact Z2
theorem re (a b:Int) (h1:(dgs a.natAbs).length≤100000000) (h2:(dgs b.natAbs).length≤100000000):Pu Tryz.prog 132 [int a,int b] (int (a+b)):=by
 have key:∀(s t:Bool) (x y:Nat),(dgs x).length≤100000000→(dgs y).length≤100000000→Pu Tryz.prog 132 [raw s (dgs x),raw t (dgs y)] (int (sv s x+sv t y)):=by
  intro s t x y hx hy;have cm:=nR x y om om;have cb:=vX x y;by_cases hst:s=t
  ·subst hst;have hl:=sj x y;rw [←DG];cases s
   all_goals
    refine Pi Tryz.func132 fun C=>?_
    repeat(refine A1 ⟨?_⟩;intros)
    refine Wdc (GW x y hx hy) ?_;repeat(refine A1 ⟨?_⟩;intros)
    refine Wdc (bA _ (x+y) om) ?_;exact Z2
  ·by_cases hlt:x<y
   ·have hl:=aM (Nat.sub_le y x);rw [ib hlt]at cm;clear cb;rw [Int.add_comm,←uF t s (Ne.symm hst) om];cases s <;> cases t <;> first|exact absurd rfl hst|skip
    all_goals
     refine Pi Tryz.func132 fun C=>?_
     repeat(refine A1 ⟨?_⟩;intros)
     refine Wc cm ?_;repeat(refine A1 ⟨?_⟩;intros)
     refine Wdc (r5 y x om hy) ?_;repeat(refine A1 ⟨?_⟩;intros)
     refine Wdc (bA _ (y-x) om) ?_;exact Z2
   ·have hl:=aM (Nat.sub_le x y);have hc:0≤jR x y:=by omega
    generalize jR x y=c at *;have hc2:c≤1:=cb.2.1;clear cb;rw [←uF s t hst om];cases s <;> cases t <;> first|exact absurd rfl hst|skip
    all_goals
     refine Pi Tryz.func132 fun C=>?_
     repeat(refine A1 ⟨?_⟩;intros)
     refine Wc cm ?_;repeat(refine A1 ⟨?_⟩;intros)
     refine Wdc (r5 x y om hx) ?_;repeat(refine A1 ⟨?_⟩;intros)
     refine Wdc (bA _ (x-y) om) ?_;exact Z2
 have k:=key (decide (a<0)) (decide (b<0)) a.natAbs b.natAbs h1 h2;rwa [eB,eB]at k
theorem Al (z:Int) (h0 : -9223372036854775808≤z) (h1:z≤9223372036854775807):Pu Tryz.prog 70 [lit (.int .i64 z)] (int z):=by
 have hl:=bC (n:=z.natAbs) (k:=2) om;have m1:=bA true z.natAbs om;have m2:=bA false z.natAbs om;by_cases h:z<0
 ·rw [show sv true z.natAbs=z from by simp only [sv,cond_true];omega]at m1;refine Pi Tryz.func70 fun C=>?_
  repeat(refine A1 ⟨?_⟩;intros)
  rw [show -(z%18446744073709551616)%18446744073709551616=(z.natAbs:Int)from by omega];refine Wc (gW z.natAbs om) ?_;repeat(refine A1 ⟨?_⟩;intros)
  refine Wc m1 ?_;exact Z2
 ·rw [show sv false z.natAbs=z from by simp only [sv,cond_false];omega]at m2;have wp:=gW z.natAbs om;rw [show(z.natAbs:Int)=z from by omega]at wp;refine Pi Tryz.func70 fun C=>?_
  repeat(refine A1 ⟨?_⟩;intros)
  refine Wc wp ?_;repeat(refine A1 ⟨?_⟩;intros)
  refine Wc m2 ?_;exact Z2
end Go.Ab
