/- Texts laid one behind the other: LnC, Fld, Late. -/
import Derived.Test.YtpeidlcjlfkpcaaGreatDoorB12
set_option linter.all false
set_option maxHeartbeats 16000000
namespace Go.Ab
open Go.Proofs
variable [Base]
theorem Qo {a b c:Rat}{L:Nat}(ha:ht a≤L) (hb:ht b≤L) (hc:ht c≤L):ht (kb a b)≤2*L+1∧ht (g3 a b c)≤3*L+2∧ht (g3 a b c)⁻¹≤3*L+3:=by
 have h1:=C0 a b;have h2:=C0 (kb a b) c;have h3:=yN (g3 a b c);have e:g3 a b c=kb (kb a b) c:=rfl;rw [←e]at h2;omega
set_option maxRecDepth 20000 in
theorem P9 (a b c:Rat){L:Nat}(hL:L≤100000) (ha:ht a≤L) (hb:ht b≤L) (hc:ht c≤L) (h:a≠0∨b≠0):Pu Tryz.prog 172 [fr a,fr b,fr c] (Ab.tup [lf (ju a b c).a (ju a b c).b (ju a b c).c,lit (.bool true)]):=by
 obtain⟨h1,h2,h3⟩:=Qo ha hb hc;have c1:=rU a;have c2:=rU b;have c3:=uW a b om om;have c4:=uW (kb a b) c om om;have c5:Pu Tryz.prog 227 [fr (kb (kb a b) c)] (fr (g3 a b c)⁻¹):=Me (g3 a b c) om;obtain⟨e1,e2,e3⟩:=Bv (c:=c) h;have c6:=fun b0=>Im b0 (g3 a b c)⁻¹ a b c om om om om
 rw [e1,e2,e3]at c6;generalize(g3 a b c)⁻¹=q at *;generalize kb a b=r1 at *;generalize kb r1 c=r2 at *;clear e1 e2 e3;by_cases h0:a.num=0
 ·have h9:b.num≠0:=fun e=>by
   rcases h with h|h
   ·exact h (ga.1 h0)
   ·exact h (ga.1 e)
  rw [a9 h0]at c1;rw [aa h9]at c2;clear h0 h9 h;refine Pi Tryz.func172 fun C=>?_
  repeat(first|(refine AS ⟨?_⟩;intros)|(refine O1 ⟨?_⟩;intros)|(refine Wcx (c1) ?_)|(refine iE (c1) ?_)|(refine Wcx (c2) ?_)|(refine iE (c2) ?_))
  refine WdN 10 ?_;refine D3 c3 c4 c5 ⟨?_⟩;intros;simp only [eM,bD];refine WfT (c6 _) ?_;rintro _ _ ⟨rfl,rfl⟩;refine A2 ⟨?_⟩;intros;exact G3
 ·rw [aa h0]at c1;clear h0 h;refine Pi Tryz.func172 fun C=>?_
  repeat(first|(refine AS ⟨?_⟩;intros)|(refine O1 ⟨?_⟩;intros)|(refine Wcx (c1) ?_)|(refine iE (c1) ?_))
  refine WdN 10 ?_;refine D3 c3 c4 c5 ⟨?_⟩;intros;simp only [eM,bD];refine WfT (c6 _) ?_;rintro _ _ ⟨rfl,rfl⟩;refine A2 ⟨?_⟩;intros;exact G3
theorem O4 {a b c:Rat}{L:Nat}(ha:ht a≤L) (hb:ht b≤L) (hc:ht c≤L):(ju a b c).le (4*L+4):=by
 obtain⟨_,_,h3⟩:=Qo ha hb hc;have k1:=be a (g3 a b c)⁻¹;have k2:=be b (g3 a b c)⁻¹;have k3:=be c (g3 a b c)⁻¹;have n1:=ef (a*(g3 a b c)⁻¹);have n2:=ef (b*(g3 a b c)⁻¹);have n3:=ef (c*(g3 a b c)⁻¹);unfold ju;constructor <;> simp only <;> omega
theorem Pc {l:Li}(hl:l.ok) (h:l.le 100000):Pu Tryz.prog 119 [lq l] (Ab.tup [lf l.a l.b l.c,lit (.bool true)]):=by
 obtain⟨ha,hb,hc⟩:=h;have e1:=gZ l.a;have e2:=gZ l.b;have e3:=gZ l.c;have n1:=rA l.a om;have n2:=rA l.b om;have n3:=rA l.c om;have w1:=xQ l.a om;have w2:=xQ l.b om;have w3:=xQ l.c om;have z1:=rU (l.a:Rat);have z2:=rU (l.b:Rat);rw [eA]at z1 z2;have hg1:=C0 (l.a:Rat) (l.b:Rat);have g1:=uW (l.a:Rat) (l.b:Rat) om om;have g2:=uW (kb l.a l.b) (l.c:Rat) om om
 have hg:kb (kb l.a l.b) l.c=1:=by
  rw [lP,show((Nat.gcd l.a.natAbs l.b.natAbs:Nat):Rat)=(((Nat.gcd l.a.natAbs l.b.natAbs:Nat):Int):Rat)from rfl,lP,im,hl.1];rfl
 rw [hg]at g2;generalize kb (l.a:Rat) (l.b:Rat)=G at *;have f1:Pu Tryz.prog 163 [lit (.int .i64 1)] (fr 1):=C6 1 om om;have q:=Jm 1 1 (by decide +kernel) (by decide +kernel);rw [a9 rfl]at q;have hne:=hl.2;clear hg hg1 e1 e2 e3 ha hb hc hl;by_cases h0:l.a=0
 ·have h9:l.b≠0:=by
   rcases hne with h|h
   ·exact absurd h0 h
   ·exact h
  rw [a9 h0]at z1;rw [aa h9]at z2;clear hne h9 h0;refine Pi Tryz.func119 fun C=>?_
  repeat(first|(refine A1 ⟨?_⟩;intros)|refine W4 n1 ⟨?_⟩|refine W4 n2 ⟨?_⟩|refine W4 n3 ⟨?_⟩|refine W4 w1 ⟨?_⟩|refine W4 w2 ⟨?_⟩|refine W4 w3 ⟨?_⟩|refine W4 z1 ⟨?_⟩|refine W4 z2 ⟨?_⟩|refine W4 g1 ⟨?_⟩|refine W4 g2 ⟨?_⟩|refine W4 f1 ⟨?_⟩|refine W4 q ⟨?_⟩)
  exact G3
 ·rw [aa h0]at z1;clear hne h0 z2;refine Pi Tryz.func119 fun C=>?_
  repeat(first|(refine A1 ⟨?_⟩;intros)|refine W4 n1 ⟨?_⟩|refine W4 n2 ⟨?_⟩|refine W4 n3 ⟨?_⟩|refine W4 w1 ⟨?_⟩|refine W4 w2 ⟨?_⟩|refine W4 w3 ⟨?_⟩|refine W4 z1 ⟨?_⟩|refine W4 g1 ⟨?_⟩|refine W4 g2 ⟨?_⟩|refine W4 f1 ⟨?_⟩|refine W4 q ⟨?_⟩)
  exact G3
section
variable {P:Program}{F:Fr}{H:LH}{ty:TypeId}
theorem dX {S:TypeId}{fs:List (Nat×Nat)} [TSt P S fs]{x:Operand}{f off sz:Nat}{cs cs':List SV}(hx:ev F x=ag cs) (_hf:fs[f]? = some (off,sz)) (hk:C7 P S f=some (off,true,sz)) (hc:(cs.drop off).take sz=cs'):OpV P (.field S x f) ty F H (ag cs') :=
 OpV.pure fun m w o a ho _ _ _ h=>by
  have h0:=h x (by simp [Op.operands]);rw [hx]at h0;unfold ag at h0;obtain⟨arr,h0,hall⟩:=h0;have hall':=(hall.drop off).take sz;rw [hc]at hall';unfold C7 at hk;cases hu:P.underlying S with
  |none=>rw [hu]at hk;cases hk
  |some d =>
   rw [hu]at hk;cases d with
   |struct A =>
    simp only [xF,gC,cP]at hk;obtain⟨fl,hfl,d,hd,i,hi,e1,e2,e3⟩:=hk
    have hg:(isAgg fl.type).run P w = .ok true w:=by
     cases d <;> first|(cases e2;done)|simp [isAgg,underlying,hd]
    have hs:(sizeOf fl.type).run P w = .ok i.size w:=by
     simp [sizeOf,typeInfo,hi]
    refine⟨.agg (arr.extract off (off+sz)),?_,by unfold ag;exact⟨_,rfl,by
     have e:(arr.extract off (off+sz)).toList=(arr.toList.drop off).take sz:=by
      simp [List.take_drop,kJ]
     rw [e];exact hall'⟩⟩
    simp [execOp,ho,h0,Instr.field,underlying,hu,hfl,asAgg,part,hg,hs,e1,e3]
   |_=>cases hk
theorem OS {T e:TypeId}{by_:Nat}{z0:SV}{g:Bool} [hS:TSl P T e] [hT:TY P e 1 by_ [z0] g]{x y:Operand}{k:Nat}
  (hx:ev F x=lit (.int .i64 k)) (hy:ev F y=lit (.int .i64 k)) (hk:k*by_≤140737488355328) (hk':k≤9223372036854775807):rM P (.makeSlice T x y) F e (List.replicate k z0) (mkS k):=by
 intro w o a ho ⟨m0,hm0⟩;obtain⟨v,hz,hall⟩:=hT.run_zero w;obtain⟨i,v',hi,hsz,hby,hz',_,hfl,hvs⟩:=hT.run_bytes;have hvv:v=v':=by simp [zeroValue,typeInfo,hi,hz']at hz;exact hz.symm
 subst hvv;have e0:=evN hm0 (x:=x) (by simp [Op.operands]);rw [hx,ap]at e0;have e1:=evN hm0 (x:=y) (by simp [Op.operands]);rw [hy,ap]at e1
 have hw:IntKind.i64.wrap (k:Int)=k:=by
  simp only [IntKind.wrap,IntKind.bits,IntKind.signed,aX];have h1:¬(9223372036854775808:Int)≤(k:Int)%18446744073709551616:=by omega
  simp [h1];omega
 obtain⟨c0,hc0⟩:∃c0,v.cells = #[c0]:=by
  have:v.cells.size=1:=hvs;rcases hvc:v.cells with⟨l⟩
  rw [hvc]at this;match l,this with
  | [c0],_=>exact⟨c0,rfl⟩
 have hrun:(execOp a.eval o).run P w = .ok (.value (.slice (some ⟨w.heap.size,0,none⟩) k k)) (w.alloc (.cells (List.replicate k c0).toArray e)):=by
  have hb:¬((by_:Int)*(k:Int)>281474976710656):=by
   have:(by_*k:Nat)≤281474976710656:=by rw [aE];omega
   have h2:((by_*k:Nat):Int)≤281474976710656:=by omega
   rw [cX]at h2;omega
  have hk0:¬((k:Int)<0):=by omega
  have harr:(Array.range k).map (fun j=>v.cells[j%v.cells.size]!)=(List.replicate k c0).toArray:=by
   rw [hc0];apply Array.ext
   ·simp
   ·intro j h1 h2;simp [p6]
  simp only [execOp,ho,Instr.makeSlice,e0,e1,Sem.run_bind,underlying,run_program,hS.h,Result.andThen_ok,Sem.run_pure,asInt,asIntOf,typeInfo,hi,hw,hby]
  have hcond:((decide ((k:Int)<0)||decide ((by_:Int)*(k:Int)>2^48))||decide ((k:Int)<0)||decide ((k:Int)>(k:Int)))=false:=by
   simp only [cg,vz];refine⟨⟨⟨hk0,?_⟩,hk0⟩,om⟩;have:(2:Int)^48=281474976710656:=by decide
   rw [this];exact hb
  simp only [hcond,bE,aO,dN,Sem.run_bind,run_askRoom,Result.andThen_ok,hT.run_size,cB,newRow];by_cases hk:k=0
  ·subst hk;simp [show(Array.range 0) = #[]from rfl]
  ·simp only [hk,aO,Sem.run_bind,hz,Result.andThen_ok,Sem.run_pure,harr,run_newObj,World.alloc_eq]
 refine⟨_,hrun,fun m _=>?_⟩;have:=hall m;rw [hc0]at this;exact bk.replicate this.1.1 this.1.2 k
end
section
variable {P:Program}{C:Ctx}{n:Nat}{F F':Fr}{H:LH}{ops:Array Oper}{Q:Exit→Fr→LH→Prop}
def jJ (ops:Array Oper) (k q j:Nat):Bool:=(List.range q).any fun s => !da ops (k+s) j
def et (ops:Array Oper) (i:Nat):Option Nat:=match ops[i]? with
 |some o=>o.dst
 |none=>none
def dJ (ops:Array Oper) (i d:Nat):Bool:=match ops[i]? with
 |some o=>(o.looksAt ops).contains d
 |none=>false
def Bw (ops:Array Oper) (i:Nat):Bool:=match ops[i]? with
 |some o=>o.guard.isNone&&o.dst.isSome
 |none=>false
def uK (ops:Array Oper) (j j':Nat):Bool:=match et ops j' with
 |some d => !dJ ops j d&&(Nat.beq j j' || !(et ops j==some d))
 |none=>true
def vY (ops:Array Oper) (k q:Nat):Bool :=
 Nat.ble (k+q) ops.size &&
 ((List.range ops.size).all fun i=>lY ops i) &&
 ((List.range k).all fun i=>(List.range i).all fun j=>da ops i j||oK ops i j) &&
 ((List.range ops.size).all fun i=>Nat.blt i k||(List.range i).all fun j=>da ops i j||(Nat.blt j k&&Nat.blt i (k+q))) &&
 ((List.range k).all fun j => !jJ ops k q j||(Bw ops j&&((List.range q).all fun s=>oK ops j (k+s))&&((List.range k).all fun j' => !jJ ops k q j'||(Nat.blt j' j&&(da ops j j' || !(dJ ops j ((et ops j').getD 0)))&&(!(et ops j==et ops j')))||(Nat.ble j j'&&uK ops j j'))))
def er (r:List NO') (t:Nat):Bool:=r.any fun x=>x.2.dst==some t
def rC (r:List NO') (F:Fr):Fr:=fun t=>if er r t=true then top else F t
inductive LOk (P:Program) (ops:Array Oper) (k q n:Nat) (H:LH) (F:Fr):List NO'→Prop
 |nil:LOk P ops k q n H F []
 |skip {i:Nat}{o:Oper}{r:List NO'}(hl:jJ ops k q i=false) (h:LOk P ops k q n H F r):LOk P ops k q n H F ((i,o)::r)
 |cons {i d:Nat}{o:Oper}{sv:SV}{r:List NO'}(hd:o.dst=some d) (hdn:Nat.blt d n=true) (hop:OpV P o.op o.type F H sv) (hsv:F d=sv) (h:LOk P ops k q n H F r):LOk P ops k q n H F ((i,o)::r)
theorem LOk.mem {k q:Nat}{r:List NO'}(h:LOk P ops k q n H F r):∀x∈r,jJ ops k q x.1=true→∃d,x.2.dst=some d∧Nat.blt d n=true∧OpV P x.2.op x.2.type F H (F d):=by
 induction h with
 |nil=>intro x hx;cases hx
 |skip hl _ ih =>
  intro x hx hlx;rcases ak.1 hx with rfl|hx
  ·rw [hl]at hlx;cases hlx
  ·exact ih x hx hlx
 |cons hd hdn hop hsv _ ih =>
  intro x hx hlx;rcases ak.1 hx with rfl|hx
  ·exact⟨_,hd,hdn,hsv▸hop⟩
  ·exact ih x hx hlx
def ib (o:Oper) (F:Fr) (sv:SV):Fr:=match o.dst with
 |some d=>upd F d sv
 |none=>F
def TS (P:Program) (C:Ctx) (n:Nat) (ops:Array Oper) (i:Nat) (o:Oper) (Fe:Fr) (H:LH) (sv:SV) (H':LH):Prop :=
 ∀F,(∀t,t∈o.looksAt ops→Fe t=F t)→∀a w,St C n F H a w→∀(Q':Exit→Act→World→Prop) (K':Act→World→Prop),(∀a' w',St C n (ib o F sv) H' a' w'→K' a' w')→wpOp P ops Q' i K' a w
def TSR (P:Program) (C:Ctx) (n:Nat) (ops:Array Oper) (i:Nat) (o:Oper) (Fe:Fr) (H:LH) (Post:SV→LH→Prop):Prop :=
 ∀F,(∀t,t∈o.looksAt ops→Fe t=F t)→∀a w,St C n F H a w→∀(Q':Exit→Act→World→Prop) (K':Act→World→Prop),(∀sv H',Post sv H'→∀a' w',St C n (ib o F sv) H' a' w'→K' a' w')→wpOp P ops Q' i K' a w
theorem TS.toR {i:Nat}{o:Oper}{Fe:Fr}{sv:SV}{H':LH}(h:TS P C n ops i o Fe H sv H'):TSR P C n ops i o Fe H (fun s H2=>s=sv∧H2=H') :=
 fun F hF a w hst Q' K' hK=>h F hF a w hst Q' K' fun a' w' h'=>hK sv H' ⟨rfl,rfl⟩ a' w' h'
def Stg (P:Program) (C:Ctx) (n:Nat) (ops:Array Oper) (k q:Nat) (late:List NO') (K:Fr→LH→Prop):Nat→List Oper→Fr→LH→Prop
 |_,[],F,H=>LOk P ops k q n H F late∧K F H
 |i,o::r,F,H=>LOk P ops k q n H F late∧∃Post:SV→LH→Prop,TSR P C n ops i o F H Post∧∀sv H',Post sv H'→Stg P C n ops k q late K (i+1) r (ib o F sv) H'
theorem Mr:rC [] F=F:=by funext t;simp [rC,er]
theorem eI {r:List NO'}{t:Nat}:er r t=true↔∃x∈r,x.2.dst=some t:=by simp [er]
theorem Mq {r:List NO'}{d:Nat}{sv:SV}(h:er r d=false):upd (rC r F) d sv=rC r (upd F d sv):=by
 funext t
 by_cases ht:t=d
 ·subst ht;rw [bS];unfold rC;rw [h];simp [bS]
 ·rw [bz ht];unfold rC;rw [bz ht]
theorem Jh {l1 l2:List NO'}{i d:Nat}{o:Oper}(hd:o.dst=some d) (h:er (l1++l2) d=false):upd (rC (l1++(i,o)::l2) F) d (F d)=rC (l1++l2) F:=by
 funext t
 by_cases ht:t=d
 ·subst ht;rw [bS];unfold rC;rw [h];rfl
 ·rw [bz ht];unfold rC
  have:er (l1++(i,o)::l2) t=er (l1++l2) t:=by
   unfold er;rw [pS,pS,nP];have:(o.dst==some t)=false:=by rw [hd];simpa using fun e=>ht e.symm
   simp only [this,aW]
  rw [this]
theorem TS.val {i d:Nat}{o:Oper}{sv:SV}(ho:ops[i]? = some o) (hd:o.dst=some d) (hdn:Nat.blt d n=true) (h:DS P ops n H o F sv):TS P C n ops i o F H sv H:=by
 intro F1 hF a w hst Q' K' hK;have h':=h.frame hF;obtain⟨hdef,hn,m,h1,h2,h3,h4,h5⟩:=hst;refine h'.wp ho hd hn h1 h2 h5 fun v m' w' hv hm' hH' r=>hK _ _ ?_
 unfold ib;rw [hd];exact St.put (ay.mp hdn) hdef hn h2 h3 h4 h5 hv hm' hH' r
theorem fu {o:Oper}{F1:Fr}{x:Operand}(hx:x∈o.op.operands) (h:∀t,t∈o.looksAt ops→F t=F1 t):ev F1 x=ev F x:=by
 cases x with
 |tmp t=>exact(h t (ry hx)).symm
 |const v=>rfl
 |global g=>rfl
 |func f=>rfl
theorem TS.store {i:Nat}{T T':TypeId}{sz by_:Nat}{z:List SV}{g:Bool} [hT:TY P T sz by_ z g]{x v:Operand}{b o:Nat}{sv s0:SV}{cs cs' ds:List SV}{H':LH}{ty:TypeId}{pos:String}{aft:Array Edge}
  (ho:ops[i]? = some ⟨none, .store T x v,ty,pos,aft,none⟩) (hx:ev F x=lit (.pointer (some ⟨b,o,none⟩))) (hv:ev F v=sv) [hco:CO sv ds] (hlen:Nat.beq ds.length sz=true)
  (hu:br b T' cs cs' H H') (hsp:spl cs o ds=cs') (hle:Nat.ble (o+sz) cs.length=true):TS P C n ops i ⟨none, .store T x v,ty,pos,aft,none⟩ F H s0 H':=by
 intro F1 hF a w hst Q' K' hK;rw [←fu (o:=⟨none, .store T x v,ty,pos,aft,none⟩) (x:=x) (by simp [Op.operands]) hF]at hx;rw [←fu (o:=⟨none, .store T x v,ty,pos,aft,none⟩) (x:=v) (by simp [Op.operands]) hF]at hv;obtain⟨hdef,hn,m,h1,h2,h3,h4,h5⟩:=hst
 have hp:∀x,(ev F1 x).p m (a.eval x):=fun x=>by
  cases x with
  |tmp t=>exact h5 t
  |const v=>unfold ev lit;rfl
  |global g=>unfold ev lit;rfl
  |func f=>unfold ev lit;rfl
 have e0:=hp x;rw [hx,ap]at e0;have e1:=hp v;rw [hv]at e1;have hds:=hco.h m _ e1;obtain⟨_,arr,hb,hall⟩:=h2.2 _ hu.mem;have hsz:=bA hlen;have hlv:=hds.length;have hle':=gY hle;have hla:=hall.length;simp only [aN]at hlv hla;obtain⟨w',arr',hr,g1,g2,g3,g4,g5,g6,g7⟩:=kN (P:=P) (b:=b) (T:=T') (o:=o) (a.eval v).cells.toList 0 w arr hb (by simp only [aN];omega) hds.flat;unfold wpOp;rw [ho];simp only [Region.wanted,aV];left;unfold Oper.wp
 have hrun:(execOp a.eval (⟨none, .store T x v,ty,pos,aft,none⟩:Oper)).run P w = .ok .skip w':=by
  simp only [execOp,Instr.storeAt,e0,Instr.sureAddr,Sem.run_bind,Sem.run_pure,Result.andThen_ok,storeVar,hT.run_size,hlv,hsz];simp [hr]
 rw [hrun];have hfin:=g7 m cs ds hall hds;rw [cj,hsp]at hfin;obtain⟨q1,q2,q3,q4⟩:=mf h1 h2 h3 h4 hu g1 g2 g3 g4 g5 g6 hfin;exact hK _ _ ⟨hdef,hn,m,q1,q2,q3,q4,h5⟩
theorem rz {k q:Nat}(h:vY ops k q=true):k+q≤ops.size∧(∀i,i<ops.size→lY ops i=true)∧(∀i,i<k→∀j,j<i→da ops i j=true∨oK ops i j=true)∧
  (∀i,i<ops.size→k≤i→∀j,j<i→da ops i j=true∨(j<k∧i<k+q))∧
  ∀j,j<k→jJ ops k q j=true→Bw ops j=true∧(∀s,s<q→oK ops j (k+s)=true)∧
   ∀j',j'<k→jJ ops k q j'=true→(j'<j∧(da ops j j'=true∨dJ ops j ((et ops j').getD 0)=false)∧et ops j≠et ops j')∨(j≤j'∧uK ops j j'=true):=by
 simp only [vY,bG,fQ,dE,bO,fw,ay]at h;obtain⟨⟨⟨⟨h1,hb⟩,h2⟩,h3⟩,h4⟩:=h;refine⟨gY h1,hb,fun i hi j hj=>h2 i hi j hj,fun i hi hk j hj=>?_,fun j hj hl=>?_⟩
 ·rcases h3 i hi with h|h
  ·omega
  ·exact h j hj
 ·rcases h4 j hj with h|h
  ·rw [hl]at h;cases h
  ·refine⟨h.1.1,h.1.2,fun j' hj' hl'=>?_⟩;rcases h.2 j' hj' with(h|⟨⟨a,b⟩,c⟩)|⟨a,b⟩
   ·rw [hl']at h;cases h
   ·exact .inl ⟨a,b,by simpa using c⟩
   ·exact .inr ⟨gY a,b⟩
theorem Bf {Q':Exit→Act→World→Prop}{t0:Nat}(hback:∀i,i<ops.size→lY ops i=true) (htail:∀i,i<ops.size→t0≤i→∀j,j<i→da ops i j=true) :
  ∀(fuel t:Nat) (listed:Array Bool) (a:Act) (w:World),t0≤t→listed.size=ops.size→jZ ops listed→ops.size-t≤fuel→(∀j,j<t→listed.getD j true=true)→(∀j,t≤j→j<ops.size→listed.getD j true=false)→
   wpList P ops Q' (ops.toList.drop t) a w→wpAny P .any ops Q' fuel listed a w:=by
 intro fuel;induction fuel with
 |zero =>
  intro t listed a w hkt hs hcl hfu h1 h2 h;have ht:ops.size≤t:=by omega
  refine⟨?_,?_⟩
  ·cases hr:Region.ready .any ops listed with
   |nil=>rfl
   |cons x xs =>
    have hx:x∈Region.ready .any ops listed:=by rw [hr];simp
    obtain⟨h0,o,ho,_⟩:=mem_ready.1 hx;have:=(dt.1 ho).1;rw [h1 x om]at h0;cases h0
  ·rw [fR (by simpa using ht)]at h;exact h
 |succ fuel ih =>
  intro t listed a w hkt hs hcl hfu h1 h2 h
  have only:∀i∈Region.ready .any ops listed,i=t∧t<ops.size:=fun i hi=>by
   obtain⟨h0,o,ho,_⟩:=mem_ready.1 hi;have hlt:=(dt.1 ho).1
   have hge:t≤i:=by
    rcases aJ i t with h|h
    ·rw [h1 i h]at h0;cases h0
    ·exact h
   rcases aJ t i with hlt'|hle
   ·have:=bV hcl hi (htail i hlt om t hlt');have:=ee hs (by omega:t<ops.size) this;rw [h2 t (au _) om]at this;cases this
   ·exact⟨om,om⟩
  refine⟨fun hr=>?_,fun i hi=>?_⟩
  ·rcases aJ t ops.size with hlt|hge
   ·exfalso
    have hmem:t∈Region.ready .any ops listed:=by
     rw [mem_ready];refine⟨h2 t (au _) hlt,ops[t],by simp [hlt],fun e he hb=>?_⟩;have hlt':=jT (hback t hlt) (by simp [hlt]:ops[t]? = some ops[t]) e he hb;have:=h1 e.on hlt';have hsz:e.on<listed.size:=by omega
     simp [hsz]at this⊢;exact this
    rw [hr]at hmem;cases hmem
   ·rw [fR (by simpa using hge)]at h;exact h
  ·obtain⟨rfl,hlt⟩:=only i hi;have ho:ops[i]? = some ops[i]:=by simp [hlt]
   have hd:ops.toList.drop i=ops[i]::ops.toList.drop (i+1):=by
    rw [jO (by simpa using hlt)];simp
   rw [hd]at h
   have hstep:wpOp P ops Q' i (fun a w=>wpList P ops Q' (ops.toList.drop (i+1)) a w) a w:=by
    unfold wpOp;rw [ho];exact h
   refine wpOp_mono (fun a' w' h'=>ih (i+1) (listed.setIfInBounds i true) a' w' om (by simpa using hs) (hcl.step hi) om (fun j hj=>?_) (fun j hj hjs=>?_) h') hstep
   ·by_cases hji:i=j
    ·subst hji;simp [hs,hlt]
    ·rw [getD_set_ne true hji];exact h1 j om
   ·rw [getD_set_ne true om];exact h2 j om hjs
theorem BU {k i:Nat}{listed:Array Bool}(h:k≤i):left ops k (listed.setIfInBounds i true)=left ops k listed:=by
 unfold left;refine List.filter_congr fun x hx=>?_
 have:=(qz (o:=x.2)).1 hx;rw [getD_set_ne true om]
theorem Stg.lok {k q:Nat}{late:List NO'}{K:Fr→LH→Prop}{i:Nat}:∀{l:List Oper},Stg P C n ops k q late K i l F H→LOk P ops k q n H F late
 | [],h=>h.1
 |_::_,h=>h.1
theorem Pk {Q':Exit→Act→World→Prop}{k q:Nat}{late:List NO'}{K:Fr→LH→Prop}(hchk:vY ops k q=true) (hlate:∀x:NO',x.1<k→ops[x.1]? = some x.2→jJ ops k q x.1=true→x∈late)
  (fin:∀a w F H,K F H→St C n F H a w→wpList P ops Q' (ops.toList.drop (k+q)) a w) :
  ∀(fuel s:Nat) (listed:Array Bool) (a:Act) (w:World) (Fe:Fr) (H:LH),s≤q→(left ops k listed).length+(ops.size-(k+s))≤fuel→listed.size=ops.size→jZ ops listed→
   (∀x∈left ops k listed,jJ ops k q x.1=true)→(∀j,k≤j→j<k+s→listed.getD j true=true)→(∀j,k+s≤j→j<ops.size→listed.getD j true=false)→
   Stg P C n ops k q late K (k+s) ((ops.toList.drop (k+s)).take (q-s)) Fe H→St C n (rC (left ops k listed) Fe) H a w→wpAny P .any ops Q' fuel listed a w:=by
 obtain⟨hk,hback,hpre,htail,hl⟩:=rz hchk
 have done:∀(fuel:Nat) (listed:Array Bool) (a:Act) (w:World) (Fe:Fr) (H:LH),ops.size-(k+q)≤fuel→listed.size=ops.size→jZ ops listed→left ops k listed=[]→
   (∀j,k≤j→j<k+q→listed.getD j true=true)→(∀j,k+q≤j→j<ops.size→listed.getD j true=false)→
   Stg P C n ops k q late K (k+q) ((ops.toList.drop (k+q)).take (q-q)) Fe H→St C n (rC (left ops k listed) Fe) H a w→wpAny P .any ops Q' fuel listed a w:=by
  intro fuel listed a w Fe H hfu hs hcl hnil h1 h2 hst hw;rw [iV,jF]at hst;rw [hnil,Mr]at hw;refine Bf hback (t0:=k+q) (fun i hi hki j hj=>?_) fuel (k+q) listed a w (au _) hs hcl hfu (fun j hj=>?_) h2 (fin a w Fe H hst.2 hw)
  ·rcases htail i hi om j hj with h|h
   ·exact h
   ·omega
  ·rcases aJ j k with hjk|hjk
   ·cases hb:listed.getD j true with
    |true=>rfl
    |false =>
     have:(j,ops[j]' om)∈left ops k listed:=cq.2 ⟨hjk,by simp,hb⟩;rw [hnil]at this;cases this
   ·exact h1 j hjk hj
 intro fuel;induction fuel with
 |zero =>
  intro s listed a w Fe H hsq hfu hs hcl hlt h1 h2 hst hw;obtain rfl:s=q:=by omega
  exact done 0 listed a w Fe H om hs hcl (cT om) h1 h2 hst hw
 |succ fuel ih =>
  intro s listed a w Fe H hsq hfu hs hcl hlt h1 h2 hst hw;by_cases hfin:left ops k listed=[]∧s=q
  ·obtain⟨hnil,rfl⟩:=hfin;exact done (fuel+1) listed a w Fe H (by rw [hnil]at hfu;simpa using hfu) hs hcl hnil h1 h2 hst hw
  have low:∀i (hi:i<ops.size),i≤k+s→(∀j,j<i→j<k→listed.getD j true=true)→listed.getD i true=false→i∈Region.ready .any ops listed:=fun i hi his hj hun=>by
   rw [mem_ready];refine⟨hun,ops[i],by simp [hi],fun e he hb=>?_⟩;have hlt':=jT (hback i hi) (by simp [hi]:ops[i]? = some ops[i]) e he hb
   have:listed.getD e.on true=true:=by
    rcases aJ e.on k with h|h
    ·exact hj e.on hlt' h
    ·exact h1 e.on h om
   have hsz:e.on<listed.size:=by omega
   simp [hsz]at this⊢;exact this
  refine⟨fun hr=>?_,fun i hi=>?_⟩
  ·exfalso;by_cases hnil:left ops k listed=[]
   ·have hsq':s<q:=by
     rcases aJ s q with h|h
     ·exact h
     ·exact absurd ⟨hnil,om⟩ hfin
    have:=low (k+s) om (au _) (fun j _ hjk=>by
     cases hb:listed.getD j true with
     |true=>rfl
     |false =>
      have:(j,ops[j]' om)∈left ops k listed:=cq.2 ⟨hjk,by simp,hb⟩;rw [hnil]at this;cases this) (h2 _ (au _) om)
    rw [hr]at this;cases this
   ·obtain⟨⟨i,o⟩,l',hcons⟩:=qi hnil;obtain⟨g1,g2,g3⟩:=cq.1 (by rw [hcons];simp:(i,o)∈left ops k listed);simp only at g1 g2 g3
    have:=low i om om (fun j hj hjk=>by
     cases hb:listed.getD j true with
     |true=>rfl
     |false =>
      have hm2:(j,ops[j]' om)∈left ops k listed:=cq.2 ⟨hjk,by simp,hb⟩;have hsort:=fO (ops:=ops) k listed;rw [hcons]at hsort hm2;rcases ak.1 hm2 with h|h
      ·simp only [cP]at h;omega
      ·have:=(eC.1 hsort).1 _ h;simp at this;omega) g3
    rw [hr]at this;cases this
  ·obtain⟨hun,o,ho,_⟩:=mem_ready.1 hi;have hio:=(dt.1 ho).1;rcases aJ i k with hik|hki
   ·have hmem:(i,o)∈left ops k listed:=cq.2 ⟨hik,ho,hun⟩;have hli:=hlt _ hmem;obtain⟨hpl,hap,hpair⟩:=hl i hik hli;obtain⟨d,hd,hdn,hop⟩:=hst.lok.mem _ (hlate (i,o) hik ho hli) hli;simp only at hd hop
    have hg:o.guard=none:=by
     unfold Bw at hpl;rw [ho]at hpl;simp only [bG,xK]at hpl;exact hpl.1
    obtain⟨l1,l2,hl12⟩:=dA hmem;have hset:=pD hs hio hl12;have hlen:(l1++l2).length+1=(left ops k listed).length:=by rw [hl12];simp;omega
    have hsort:=fO (ops:=ops) k listed
    have hlook:∀t∈o.looksAt ops,er (left ops k listed) t=false:=fun t ht=>by
     cases hb:er (left ops k listed) t with
     |false=>rfl
     |true =>
      exfalso;obtain⟨x,hx,hxd⟩:=eI.1 hb;obtain⟨x1,x2,x3⟩:=cq.1 hx;have hlk:dJ ops i t=true:=by unfold dJ;rw [ho];simpa using ht
      have hdx:et ops x.1=some t:=by unfold et;rw [x2];exact hxd
      rcases hpair x.1 x1 (hlt x hx)with⟨_,h|h,_⟩|⟨_,h⟩
      ·have:=ee hs om (bV hcl hi h);rw [x3]at this;cases this
      ·rw [hdx]at h;simp only [kW]at h;rw [hlk]at h;cases h
      ·unfold uK at h;rw [hdx]at h;simp only [hlk,kU,aZ]at h;cases h
    have hdst:er (l1++l2) d=false:=by
     cases hb:er (l1++l2) d with
     |false=>rfl
     |true =>
      exfalso;obtain⟨x,hx,hxd⟩:=eI.1 hb;have hx':x∈left ops k listed:=by rw [hl12];rcases az.1 hx with h|h <;> simp [h]
      obtain⟨x1,x2,x3⟩:=cq.1 hx'
      have hne:x.1≠i:=fun e=>by
       rw [hl12,jM]at hsort;rcases az.1 hx with h|h
       ·have:=hsort.2.2 x h (i,o) (by simp);simp at this;omega
       ·have:=(eC.1 hsort.2.1).1 x h;simp at this;omega
      have hdx:et ops x.1=some d:=by unfold et;rw [x2];exact hxd
      have hdi:et ops i=some d:=by unfold et;rw [ho];exact hd
      rcases hpair x.1 x1 (hlt x hx')with⟨_,_,h⟩|⟨_,h⟩
      ·exact h (by rw [hdx,hdi])
      ·unfold uK at h;rw [hdx]at h;simp only [hdi,bG,bO,nf,kU]at h;rcases h.2 with h|h
       ·exact hne (bA h).symm
       ·cases h
    have hds:DS P ops n H o (rC (left ops k listed) Fe) (Fe d):=(DS.plain hg hop).frame fun t ht=>by unfold rC;rw [hlook t ht];rfl
    obtain⟨hdef,hn,m,q1,q2,q3,q4,q5⟩:=hw;refine hds.wp ho hd hn q1 q2 q5 fun v m' w' hv hm' hH' r=>?_
    refine ih s _ _ _ Fe H hsq (by rw [hset];omega) (by simpa using hs) (hcl.step hi) (fun x hx=>?_) (fun j hj hjs=>?_) (fun j hj hjs=>?_) hst ?_
    ·rw [hset]at hx;exact hlt x (by rw [hl12];rcases az.1 hx with h|h <;> simp [h])
    ·rw [getD_set_ne true om];exact h1 j hj hjs
    ·rw [getD_set_ne true om];exact h2 j hj hjs
    ·rw [hset,←Jh (F:=Fe) hd hdst,←hl12];exact St.put (ay.mp hdn) hdef hn q2 q3 q4 q5 hv hm' hH' r
   ·have hge:k+s≤i:=by
     rcases aJ i (k+s)with h|h
     ·rw [h1 i hki h]at hun;cases hun
     ·exact h
    have hieq:i=k+s:=by
     rcases aJ (k+s) i with h|h
     ·exfalso;rcases htail i hio hki (k+s) h with he|⟨he,_⟩
      ·have:=ee hs om (bV hcl hi he);rw [h2 (k+s) (au _) om]at this;cases this
      ·omega
     ·omega
    subst hieq
    have hsq':s<q:=by
     rcases aJ s q with h|h
     ·exact h
     ·exfalso;refine hfin ⟨?_,om⟩;cases hlf:left ops k listed with
      |nil=>rfl
      |cons x l' =>
       obtain⟨x1,x2,x3⟩:=cq.1 (by rw [hlf];simp:x∈left ops k listed);rcases htail (k+s) hio hki x.1 om with he|⟨_,he⟩
       ·have:=ee hs om (bV hcl hi he);rw [x3]at this;cases this
       ·omega
    have hdrop:(ops.toList.drop (k+s)).take (q-s)=o::(ops.toList.drop (k+(s+1))).take (q-(s+1)):=by
     rw [jO (by simpa using hio),show q-s=(q-(s+1))+1 from by omega,gL];congr 1
     have:=(dt.1 ho).2;simpa using this
    rw [hdrop]at hst;obtain⟨_,Post,hts,hrest⟩:=hst
    have hfree:∀x∈left ops k listed,∀d,x.2.dst=some d→d∉o.looksAt ops∧o.dst≠some d:=fun x hx d hxd=>by
     obtain⟨x1,x2,x3⟩:=cq.1 hx;obtain⟨_,hap,_⟩:=hl x.1 x1 (hlt x hx);obtain⟨a1,a2,a3⟩:=Oper.apart_spec (zz x2 ho (hap s hsq'));exact⟨a1 d hxd,a2 d hxd⟩
    refine hts (rC (left ops k listed) Fe) (fun t ht=>?_) a w hw Q' _ fun sv H' hP a' w' hst'=>?_
    ·have:er (left ops k listed) t=false:=by
      cases hb:er (left ops k listed) t with
      |false=>rfl
      |true =>
       obtain⟨x,hx,hxd⟩:=eI.1 hb;exact absurd ht (hfree x hx t hxd).1
     unfold rC;rw [this];rfl
    ·refine ih (s+1) _ _ _ (ib o Fe sv) H' om (by rw [BU hki];omega) (by simpa using hs) (hcl.step hi) (fun x hx=>?_) (fun j hj hjs=>?_) (fun j hj hjs=>?_) (hrest sv H' hP) ?_
     ·rw [BU hki]at hx;exact hlt x hx
     ·by_cases hji:k+s=j
      ·subst hji;simp [hs,hio]
      ·rw [getD_set_ne true hji];exact h1 j hj om
     ·rw [getD_set_ne true om];exact h2 j om hjs
     ·rw [BU hki];unfold ib at hst'⊢;cases hod:o.dst with
      |none=>rw [hod]at hst';exact hst'
      |some d =>
       rw [hod]at hst';simp only at hst'⊢;rwa [Mq]at hst';cases hb:er (left ops k listed) d with
       |false=>rfl
       |true =>
        obtain⟨x,hx,hxd⟩:=eI.1 hb;exact absurd hod (hfree x hx d hxd).2
theorem Dr.same {l:List NO'}{N:List NW}{F F':Fr}(h:Dr P ops n H l N F F'):∀t,er l t=false→F' t=F t:=by
 induction h with
 |nil=>intro t _;rfl
 |val hd _ _ _ ih =>
  intro t ht;unfold er at ht ih;rw [nP]at ht;simp only [cg]at ht;rw [ih t ht.2];exact bz fun e=>by have:=ht.1;rw [hd,e]at this;simp at this
 |new hd _ _ _ _ _ ih =>
  intro t ht;unfold er at ht ih;rw [nP]at ht;simp only [cg]at ht;exact ih t ht.2
theorem Nz {E:List NW}{nm:Nat→Nat}{F F':Fr}{t:Nat}(h:F t=F' t):iR E nm F t=iR E nm F' t:=by
 induction E with
 |nil=>exact h
 |cons e E ih =>
  simp only [iR];by_cases ht:t=e.d
  ·subst ht;rw [bS,bS]
  ·rw [bz ht,bz ht];exact ih
theorem Jx {Q':Exit→Act→World→Prop}{k q:Nat}{late:List NO'}{K:Fr→LH→Prop}{N0:List NW}(hchk:vY ops k q=true) (hlate:∀x:NO',x.1<k→ops[x.1]? = some x.2→jJ ops k q x.1=true→x∈late)
  (fin:∀a w F H,K F H→St C n F H a w→wpList P ops Q' (ops.toList.drop (k+q)) a w)
  (hN:∀e∈N0,∃o,ops[e.idx]? = some o∧e.idx<k∧o.dst=some e.d∧o6 ops k e.idx=true∧jJ ops k q e.idx=false)
  (hd0:N0.Pairwise fun a b=>a.d≠b.d) (hstg:∀nm,Stg P C n ops k q late K k ((ops.toList.drop k).take q) (iR N0 nm F') (oW N0 nm++H)) :
  ∀(fuel:Nat) (listed:Array Bool) (a:Act) (w:World) (Nr E:List NW) (nm:Nat→Nat) (F:Fr),(left ops k listed).length+(ops.size-k)≤fuel→listed.size=ops.size→jZ ops listed→
   (∀j,k≤j→j<ops.size→listed.getD j true=false)→Dr P ops n H (left ops k listed) Nr F F'→(E++Nr).Perm N0→(∀e∈E,listed.getD e.idx true=true)→St C n (iR E nm F) (oW E nm++H) a w→
   wpAny P .any ops Q' fuel listed a w:=by
 obtain⟨hk,hback,hpre,htail,hl0⟩:=rz hchk
 have over:∀(fuel:Nat) (listed:Array Bool) (a:Act) (w:World) (Nr E:List NW) (nm:Nat→Nat) (F:Fr),(left ops k listed).length+(ops.size-k)≤fuel→listed.size=ops.size→jZ ops listed→
   (∀j,k≤j→j<ops.size→listed.getD j true=false)→Dr P ops n H (left ops k listed) Nr F F'→(E++Nr).Perm N0→St C n (iR E nm F) (oW E nm++H) a w→(∀x∈left ops k listed,jJ ops k q x.1=true)→
   wpAny P .any ops Q' fuel listed a w:=by
  intro fuel listed a w Nr E nm F hfu hs hcl hl hdr hp hst hall
  have hNr:Nr=[]:=by
   cases Nr with
   |nil=>rfl
   |cons e Nr =>
    obtain⟨o,h1,_⟩:=hdr.nw e (by simp);obtain⟨_,_,_,_,_,h2⟩:=hN e (hp.mem_iff.1 (by simp));have:=hall _ h1;rw [h2]at this;cases this
  subst hNr;rw [bd]at hp;have hpw:E.Pairwise fun a b=>a.d≠b.d:=(hp.pairwise_iff (fun h=>h.symm)).2 hd0
  refine Pk hchk hlate fin fuel 0 listed a w (iR N0 nm F') (oW N0 nm++H) (an _) hfu hs hcl hall (fun j h1 h2=>by omega) hl (hstg nm) ?_;refine(hst.perm ((hp.map _).append_right _)).le fun t=>?_
  unfold rC;cases hb:er (left ops k listed) t with
  |true=>simp only [aV];intro m v _;unfold top;trivial
  |false =>
   simp only [bE,aO];rw [←vI hp hpw,Nz (F:=F') (F':=F) (hdr.same t hb)];exact Le.refl _
 intro fuel;induction fuel with
 |zero =>
  intro listed a w Nr E nm F hfu hs hcl hl hdr hp hEl hst;have hnil:left ops k listed=[]:=cT om;exact over 0 listed a w Nr E nm F hfu hs hcl hl hdr hp hst (by rw [hnil];intro x hx;cases hx)
 |succ fuel ih =>
  intro listed a w Nr E nm F hfu hs hcl hl hdr hp hEl hst;by_cases hall:∀x∈left ops k listed,jJ ops k q x.1=true
  ·exact over (fuel+1) listed a w Nr E nm F hfu hs hcl hl hdr hp hst hall
  have hnil:left ops k listed≠[]:=fun h=>hall (by rw [h];intro x hx;cases hx)
  obtain⟨x0,hx0,hx0l⟩:∃x∈left ops k listed,jJ ops k q x.1=false:=by
   refine xJ fun hne=>hall fun x hx=>?_
   cases hb:jJ ops k q x.1 with
   |true=>rfl
   |false=>exact absurd ⟨x,hx,hb⟩ hne
  have hEN:∀e∈E,e∈N0:=fun e he=>hp.mem_iff.1 (by simp [he])
  refine⟨fun hr=>?_,fun i hi=>?_⟩
  ·exfalso;obtain⟨⟨i,o⟩,l',hcons⟩:=qi hnil;have hmem:(i,o)∈left ops k listed:=by rw [hcons];simp
   obtain⟨h1,h2,h3⟩:=cq.1 hmem
   have hready:i∈Region.ready .any ops listed:=by
    rw [mem_ready];refine⟨h3,o,h2,fun e he hb=>?_⟩;have hlt:=jT (hback i (by simp only at h1;omega)) h2 e he hb;cases hle:listed.getD e.on false with
    |true=>rfl
    |false =>
     have hsz:e.on<listed.size:=by simp only at h1;omega
     have h4:listed.getD e.on true=false:=by simp [hsz]at hle⊢;exact hle
     have hm2:(e.on,ops[e.on]' om)∈left ops k listed:=cq.2 ⟨by simp only at h1⊢;omega,by simp,h4⟩;have hsort:=fO (ops:=ops) k listed;rw [hcons]at hsort hm2;rcases ak.1 hm2 with h|h
     ·simp only [cP]at h;omega
     ·have:=(eC.1 hsort).1 _ h;simp at this;omega
   rw [hr]at hready;cases hready
  ·obtain⟨hun,o,ho,_⟩:=mem_ready.1 hi;have hlt:=(dt.1 ho).1
   have hik:i<k:=by
    rcases aJ i k with h|hki
    ·exact h
    ·exfalso;obtain⟨y1,y2,y3⟩:=cq.1 hx0
     have he:da ops i x0.1=true:=by
      rcases aJ i (k+q)with h|h
      ·cases hb:da ops i x0.1 with
       |true=>rfl
       |false =>
        have:jJ ops k q x0.1=true:=by
         unfold jJ;rw [lz];exact⟨i-k,by rw [dE];omega,by rw [show k+(i-k)=i from by omega,hb];rfl⟩
        rw [hx0l]at this;cases this
      ·rcases htail i hlt hki x0.1 om with he|⟨_,he⟩
       ·exact he
       ·omega
     have:=ee hs om (bV hcl hi he);rw [y3]at this;cases this
   have hmem:(i,o)∈left ops k listed:=cq.2 ⟨hik,ho,hun⟩;obtain⟨l1,l2,hl12⟩:=dA hmem;have hset:=pD hs hlt hl12;have hlen:(l1++l2).length+1=(left ops k listed).length:=by rw [hl12];simp;omega
   have hsort:=fO (ops:=ops) k listed;rw [hl12]at hsort
   have hbefore:∀y∈l1,o.apart ops y.2=true:=fun y hy=>by
    obtain⟨y1,y2,y3⟩:=cq.1 (by rw [hl12];simp [hy]:y∈left ops k listed)
    have hyi:y.1<i:=by
     rw [jM]at hsort;exact hsort.2.2 y hy (i,o) (by simp)
    rcases hpre i hik y.1 hyi with h|h
    ·have:=ee hs om (bV hcl hi h);rw [y3]at this;cases this
    ·exact zz ho y2 h
   have hEi:∀e∈E,e.idx≠i:=fun e he hei=>by
    have:=hEl e he;rw [hei,hun]at this;cases this
   have apartE:∀e∈E,e.d∉o.looksAt ops∧o.dst≠some e.d:=fun e he=>by
    obtain⟨oe,e1,e2,e3,e4,_⟩:=hN e (hEN e he);exact pB e4 e1 e3 ho hik (fun h=>hEi e he h.symm)
   have hEl':∀e∈E,(listed.setIfInBounds i true).getD e.idx true=true:=fun e he=>by
    rw [getD_set_ne true (fun h=>hEi e he h.symm)];exact hEl e he
   rw [hl12]at hdr
   have hl':∀j,k≤j→j<ops.size→(listed.setIfInBounds i true).getD j true=false:=fun j hj hjs=>by
    rw [getD_set_ne true om];exact hl j hj hjs
   obtain⟨d,hd⟩:=hdr.dst (i,o) (by simp);have hfr:∀t∈o.looksAt ops,F t=iR E nm F t:=fun t ht=>(Be fun e he hed=>(apartE e he).1 (hed▸ht)).symm
   have hdd:∀e∈E,e.d≠d:=fun e he hed=>(apartE e he).2 (by rw [hd,hed])
   rcases hdr.pick (x:=(i,o)) hd hbefore with⟨sv,hdn,hds,hdr'⟩|⟨N1,N2,e,hNr,hei,hed,hguard,hdn,hT,hdr'⟩
   ·have hds':=hds.frame hfr;obtain⟨hdef,hn,m,h1,h2,h3,h4,h5⟩:=hst;refine hds'.wp ho hd hn h1 h2.tail h5 fun v m' w' hv hm' hH' r=>?_
    refine ih _ _ _ Nr E nm (upd F d sv) (by rw [hset];omega) (by simpa using hs) (hcl.step hi) hl' (by rw [hset];exact hdr') hp hEl' ?_;rw [xT hdd];exact St.put (ay.mp hdn) hdef hn h2 h3 h4 h5 hv hm' (h2.beside hH' r) (r.mono fun b hb=>by unfold keys at *;rw [aH];exact cN _ hb)
   ·have hw:Region.wanted o (yielded ops a.tmps)=true:=by simp only [Region.wanted,(show o.guard=none from hguard)]
    unfold wpOp;simp only [ho,hw,aV];left;subst hNr;simp only at hei
    have hp':(e::E++(N1++N2)).Perm N0:=by
     refine List.Perm.trans ?_ hp;exact(lL (a:=e) (l₁:=E) (l₂:=N1++N2)).symm.trans ((lL (a:=e) (l₁:=N1) (l₂:=N2)).symm.append_left E)
    have hT':=hT.congr fun t ht=>hfr t (ry ht)
    have hfacts:∃m:Mem,∀t, .tmp t∈o.op.operands→(iR E nm F t).p m (a.eval (.tmp t)):=by
     obtain⟨_,_,m,_,_,_,_,h5⟩:=hst;exact⟨m,fun t _=>h5 t⟩
    obtain⟨arr,hrun,hall'⟩:=hT' w o a rfl hfacts;unfold Oper.wp;rw [hrun];show wpAny P .any ops Q' fuel (listed.setIfInBounds i true) (a.put o.dst _) _
    rw [hd,←hed];have hpush:=St.push (T:=e.T) (arr:=arr) (v:=e.val w.heap.size) (ay.mp (hed▸hdn)) hst fun m hm=>hall' m fun t _=>hm (.tmp t)
    refine ih _ _ _ (N1++N2) (e::E) (fun x=>if x=i then w.heap.size else nm x) F (by rw [hset];omega) (by simpa using hs) (hcl.step hi) hl' (by rw [hset];exact hdr') hp' (fun x hx=>?_) ?_
    ·rcases ak.1 hx with rfl|hx
     ·rw [hei];simp [hs,hlt]
     ·exact hEl' x hx
    have hnm:∀x∈E,nm x.idx=(fun x=>if x=i then w.heap.size else nm x) x.idx:=fun x hx=>by simp [hEi x hx]
    rw [show iR (e::E) (fun x=>if x=i then w.heap.size else nm x) F=upd (iR E nm F) e.d (lit (e.val w.heap.size))from by
     simp only [iR,hei,aV];rw [←Ge hnm]]
    rw [show oW (e::E) (fun x=>if x=i then w.heap.size else nm x)=(w.heap.size,e.T,e.z)::oW E nm from by
     have:=HF (N:=E) (nm:=nm) (nm':=fun x=>if x=i then w.heap.size else nm x) hnm;unfold oW at this⊢;rw [aD,←this];simp only [hei,aV]]
    exact hpush
attribute [local semireducible] WP WPL Dk
theorem WP.drawL {id:Nat}{l:List Oper}(k q:Nat){N:List NW}(hm:P.follows .mixedOrders=true) (hchk:vY l.toArray k q=true)
  (hdr:Dr P l.toArray n H (qU 0 k l) N F F') (hlone:∀e∈N,o6 l.toArray k e.idx=true∧jJ l.toArray k q e.idx=false)
  (h:∀nm:Nat→Nat,Stg P C n l.toArray k q (qU 0 k l) (fun F H=>WPL P C n l.toArray (l.drop (k+q)) (fun F H=>Q .normal F H) F H) k ((l.drop k).take q) (iR N nm F') (oW N nm++H)) :
  WP P C n (.region id l.toArray true) Q F H:=by
 rw [wZ]at hdr;intro a w hs;obtain⟨hk,hback,hpre,_⟩:=rz hchk
 have hmem:∀e∈N,∃o,l.toArray[e.idx]? = some o∧e.idx<k∧o.dst=some e.d∧o6 l.toArray k e.idx=true∧jJ l.toArray k q e.idx=false:=fun e he=>by
  obtain⟨o,h1,h2⟩:=hdr.nw e he;have:=(qz (ops:=l.toArray)).1 (by simpa using h1);exact⟨o,this.2,this.1,h2,hlone e he⟩
 have hsort:(((l.zipIdx.map fun p=>(p.2,p.1)).take k).map (·.1)).Pairwise (· < ·):=by
  rw [qh];refine mV (rO _ _) ?_;rw [p5];intro i j hi hj hij;simpa using hij
 have hidx:N.Pairwise fun a b=>a.idx<b.idx:=by
  have:=mV hdr.sub hsort;rwa [qh]at this
 refine wp_mono (Q:=oE C n (fun e F H=>e = .normal∧Q .normal F H)) (wp_region_any hm ?_) (fun e a w h=>h.imp (fun⟨F,H,hs,he,hq⟩=>⟨F,H,hs,he▸hq⟩) fun h=>h);refine Jx (C:=C) (n:=n) (H:=H) (F':=F') (N0:=N) (k:=k) (q:=q) (late:=qU 0 k l) (K:=fun F H=>WPL P C n l.toArray (l.drop (k+q)) (fun F H=>Q .normal F H) F H) hchk ?_ ?_ hmem ?_ h l.toArray.size (Array.replicate l.toArray.size false) a {w with drawn:=w.drawn+1} N [] (fun _=>0) F ?_ (by simp) (fun m j hm=>by by_cases hlt:m<l.length <;> simp [hlt]at hm) ?_ ?_ (by simp) (fun e he=>by cases he) ?_
 ·intro x hx ho _;rw [wZ];have:=(qz (ops:=l.toArray) (o:=x.2) (i:=x.1) (k:=k)).2 ⟨hx,ho⟩;simpa using this
 ·intro a' w' F1 H1 hK hst;exact hK a' w' hst _ ⟨fun a2 w2 F2 H2 hs2 hq => .mk hs2 ⟨rfl,hq⟩,fun ch _ _ hp => .inr ⟨ch,rfl,hp⟩⟩
 ·refine xI (R:=fun a b=>a.idx<b.idx) ?_ hidx;intro x y hx hy hlt hxy;obtain⟨ox,x1,x2,x3,x4,_⟩:=hmem x hx;obtain⟨oy,y1,y2,y3,y4,_⟩:=hmem y hy;exact(pB y4 y1 y3 x1 x2 om).2 (by rw [x3,hxy])
 ·have:(left l.toArray k (Array.replicate l.toArray.size false)).length≤k:=by
   unfold left;refine aU (lK _ _) ?_;simp;omega
  omega
 ·intro j _ hj;have hj':j<l.length:=by simpa using hj
  simp [hj']
 ·have:left l.toArray k (Array.replicate l.toArray.size false)=(l.zipIdx.map fun p=>(p.2,p.1)).take k:=by
   unfold left;rw [rN.2];intro x hx;obtain⟨h1,h2⟩:=(qz (ops:=l.toArray)).1 hx;have:=(dt.1 h2).1;have hj':x.1<l.length:=by simpa using this
   simp [hj']
  rw [this];exact hdr
 ·obtain⟨hdef,hn,m,h1,h2,h3,h4,h5⟩:=hs;exact⟨hdef,hn,m,⟨h1.at',h1.base⟩,⟨h2.1,h2.2⟩,h3.drw,h4,h5⟩
def dL (P:Program) (C:Ctx) (n k q:Nat) (l:List Oper) (Q:Exit→Fr→LH→Prop) (H:LH):List NW→Fr→Prop:=fun N F' =>
 (∀e∈N,o6 l.toArray k e.idx=true∧jJ l.toArray k q e.idx=false)∧
 ∀nm:Nat→Nat,Stg P C n l.toArray k q (qU 0 k l) (fun F H=>WPL P C n l.toArray (l.drop (k+q)) (fun F H=>Q .normal F H) F H) k ((l.drop k).take q) (iR N nm F') (oW N nm++H)
theorem WdL {id:Nat}{l:List Oper}(k q:Nat) (h:Dk P l.toArray n H (qU 0 k l) (dL P C n k q l Q H) F) (hm:P.follows .mixedOrders=true:=by kernel_rfl) (hchk:vY l.toArray k q=true:=by decide +kernel):WP P C n (.region id l.toArray true) Q F H:=by
 obtain⟨N,F',h1,h2⟩:=h;exact WP.drawL k q hm hchk h1 h2.1 h2.2
section
variable {k q:Nat}{l:List Oper}{e1 e2:NW}
theorem dL0 (h:Stg P C n l.toArray k q (qU 0 k l) (fun F H=>WPL P C n l.toArray (l.drop (k+q)) (fun F H=>Q .normal F H) F H) k ((l.drop k).take q) F H):dL P C n k q l Q H [] F:=⟨(fun e he=>by cases he),fun _=>h⟩
theorem dL1 (h:∀b,Stg P C n l.toArray k q (qU 0 k l) (fun F H=>WPL P C n l.toArray (l.drop (k+q)) (fun F H=>Q .normal F H) F H) k ((l.drop k).take q) (upd F e1.d (lit (e1.val b))) ((b,e1.T,e1.z)::H))
  (h1:o6 l.toArray k e1.idx=true:=by kernel_rfl) (h2:jJ l.toArray k q e1.idx=false:=by kernel_rfl):dL P C n k q l Q H [e1] F :=
 ⟨(fun e he=>by obtain rfl:=ar.1 he;exact⟨h1,h2⟩),fun nm=>h (nm e1.idx)⟩
theorem dL2 (h : ∀ b c, Stg P C n l.toArray k q (qU 0 k l) (fun F H => WPL P C n l.toArray (l.drop (k + q)) (fun F H => Q .normal F H) F H) k ((l.drop k).take q) (upd (upd F e2.d (lit (e2.val c))) e1.d (lit (e1.val b))) ((b, e1.T, e1.z) :: (c, e2.T, e2.z) :: H))
    (h1:o6 l.toArray k e1.idx=true:=by kernel_rfl) (h2:jJ l.toArray k q e1.idx=false:=by kernel_rfl) (h3:o6 l.toArray k e2.idx=true:=by kernel_rfl) (h4:jJ l.toArray k q e2.idx=false:=by kernel_rfl):dL P C n k q l Q H [e1,e2] F :=
  ⟨(fun e he=>by
    rcases ak.1 he with rfl|he
    · exact⟨h1,h2⟩
    · obtain rfl:=ar.1 he;exact⟨h3,h4⟩),fun nm=>h (nm e1.idx) (nm e2.idx)⟩
variable {late:List NO'}{K:Fr→LH→Prop}{i d:Nat}{ty:TypeId}{pos:String}{aft:Array Edge}
theorem Lsk {o:Oper}{r:List NO'}(h:LOk P ops k q n H F r) (hl:jJ ops k q i=false:=by decide +kernel):LOk P ops k q n H F ((i,o)::r) := .skip hl h
theorem Lcv {op:Op}{sv:SV}{r:List NO'}(h:LOk P ops k q n H F r) (hop:OpV P op ty F H sv:=by exact Ov0) (hsv:F d=sv:=by exact rfl) (hd:Nat.blt d n=true:=by exact rfl):LOk P ops k q n H F ((i,⟨some d,op,ty,pos,aft,none⟩)::r) := .cons rfl hd hop hsv h
theorem Gv {op:Op}{sv:SV}{r:List Oper}(hl:LOk P ops k q n H F late) (h:Stg P C n ops k q late K (i+1) r (upd F d sv) H) (hop:OpV P op ty F H sv:=by exact Ov0) (ho:ops[i]? = some ⟨some d,op,ty,pos,aft,none⟩:=by exact rfl) (hd:Nat.blt d n=true:=by exact rfl) :
  Stg P C n ops k q late K i (⟨some d,op,ty,pos,aft,none⟩::r) F H:=⟨hl,_,(TS.val ho rfl hd (.plain rfl hop)).toR,fun _ _ ⟨e1,e2⟩=>by subst e1;subst e2;exact h⟩
theorem Gs {T T':TypeId}{sz by_:Nat}{z:List SV}{g:Bool} [hT:TY P T sz by_ z g]{x v:Operand}{b o:Nat}{sv:SV}{cs cs' ds:List SV}{H':LH}{r:List Oper}
  (hx:ev F x=lit (.pointer (some ⟨b,o,none⟩))) (hv:ev F v=sv) [hco:CO sv ds] (hlen:Nat.beq ds.length sz=true) (hu:br b T' cs cs' H H') (hsp:spl cs o ds=cs') (hle:Nat.ble (o+sz) cs.length=true)
  (hl:LOk P ops k q n H F late) (h:Stg P C n ops k q late K (i+1) r F H') (ho:ops[i]? = some ⟨none, .store T x v,ty,pos,aft,none⟩:=by exact rfl):Stg P C n ops k q late K i (⟨none, .store T x v,ty,pos,aft,none⟩::r) F H :=
 ⟨hl,_,(TS.store (s0:=lit undef) ho hx hv hlen hu hsp hle).toR,fun _ _ ⟨e1,e2⟩=>by subst e1;subst e2;exact h⟩
theorem Gn (hl:LOk P ops k q n H F late) (h:K F H):Stg P C n ops k q late K i [] F H:=⟨hl,h⟩
end
end
end Go.Ab
