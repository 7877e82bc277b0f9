/- Texts laid one behind the other: Util, Loop, Err, NatA, NatB, NatC, RefA, RefB, NatD. -/
import Derived.Test.YtpeidlcjlfkpcaaGreatDoorTy
import Derived.Laws.Externs
set_option linter.all false
set_option maxHeartbeats 16000000
namespace Go.Ab
open Go.Proofs
variable [Base]
def Hid (p:Prop):Prop:=p
theorem Hid.out {p:Prop}(h:Hid p):p:=h
theorem Le.tup {a b:List SV}(h:LeL a b):Le (Ab.tup a) (Ab.tup b):=fun m v hv=>by
 unfold Ab.tup at *;obtain⟨arr,e,k⟩:=hv;exact⟨arr,e,k.le h⟩
theorem Le.tup2 {a b a' b':SV}(h1:Le a a') (h2:Le b b'):Le (Ab.tup [a,b]) (Ab.tup [a',b']):=Le.tup ⟨h1,h2,trivial⟩
theorem Le.tup3 {a b c a' b' c':SV}(h1:Le a a') (h2:Le b b') (h3:Le c c'):Le (Ab.tup [a,b,c]) (Ab.tup [a',b',c']):=Le.tup ⟨h1,h2,h3,trivial⟩
theorem Le.ag {a b:List SV}(h:LeL a b):Le (Ab.ag a) (Ab.ag b):=fun m v hv=>by
 unfold Ab.ag at *;obtain⟨arr,e,k⟩:=hv;exact⟨arr,e,k.le h⟩
section
variable {P:Program}{C:Ctx}{n:Nat}{F:Fr}{H:LH}{ops:Array Oper}{K:Fr→LH→Prop}{Q:Exit→Fr→LH→Prop}
theorem WPL.low {l:List Oper}{s s':SV}(d:Nat) (hf:F d=s) (h:Le s s') (k:WPL P C n ops l K (upd F d s') H):WPL P C n ops l K F H:=WPL.le (LeF.upd (hf▸h) (LeF.refl F)) k
theorem LT {m:Mem}{w:World}(hm:dD m w){o:Obj}:dD (uJ m w.heap.size o) (w.alloc o)∧Rel [] m w (uJ m w.heap.size o) (w.alloc o):=by
 have hold:∀b,b<w.heap.size→(w.alloc o).heap[b]? = w.heap[b]?:=fun b hb=>@heap_alloc_old w o b hb
 have hlt:∀b o,m b=some o→b<w.heap.size:=fun b o hb=>(dt.1 (hm b o hb)).1
 have hle:m.le (uJ m w.heap.size o):=fun b x hx=>by unfold uJ;rw [if_neg (by have:=hlt b x hx;omega)];exact hx
 refine⟨⟨fun b x hx=>?_,Mem.le_trans hm.base hle⟩,⟨hle,fun b hb _=>?_,rfl,rfl,⟨rfl,au _⟩,?_,fun b hb _=>hold b hb⟩⟩
 ·unfold uJ at hx;split at hx
  ·rename_i e;subst e;cases hx;exact heap_alloc_new w o
  ·rw [hold b (hlt b x hx)];exact hm b x hx
 ·unfold uJ;rw [if_neg om]
 ·have:(w.alloc o).heap.size=w.heap.size+1:=World.size_alloc ..;rw [this];exact np _
theorem cF {T ty:TypeId}{x:Operand}{sv:SV}{cs:List SV}(hx:ev F x=sv) [hco:CO sv cs]:OpV P (.box T x) ty F H (pt cs):=by
 refine OpV.of0 ?_;intro m w o a ho hty h1 h2 h3 K Q hK;have e0:=evA h3 (x:=x) (by simp [Op.operands]);rw [hx]at e0;have hc:=hco.h m _ e0;unfold Oper.wp
 have hrun:(execOp a.eval o).run P w = .ok (.value (.pointer (some ⟨w.heap.size,0,none⟩))) (w.alloc (.cells (a.eval x).cells T)):=by
  simp [execOp,ho,Instr.box,newVar,newRow]
 rw [hrun];obtain⟨q1,q2⟩:=LT h1 (o := .cells (a.eval x).cells T);exact hK _ _ _ (F3 _ _ (by unfold uJ;rw [if_pos rfl]) (hc.mono q2.le)) q1 q2
theorem Wcg {d:Nat}{ty:TypeId}{pos:String}{aft:Array Edge}{rest:List Oper}{f:FuncId}{l:List Operand}{tys:Array TypeId}{svs:List SV}{res:SV}{j:Nat}{t:Bool}{oj:Oper}{dj:Nat}(hc:Pu P f svs res) (k:WPL P C n ops rest K (upd F d res) H)
  (ha:l.map (ev F)=svs:=by exact rfl) (hj:ops[j]? = some oj:=by exact rfl) (hdj:oj.dst=some dj:=by exact rfl) (hf:F dj=lit (.bool t):=by exact rfl)
  (hdn:Nat.blt dj n=true:=by exact rfl) (hd:Nat.blt d n=true:=by exact rfl):WPL P C n ops (⟨some d, .call ⟨.value (.func f),l.toArray,tys⟩,ty,pos,aft,some (j,t)⟩::rest) K F H :=
 Wog (qw hc ha) k hj hdj hf hdn hd
theorem Qy {l:List Oper}{b:Nat}{T:TypeId}{cs:List SV}{H':LH}(d:Nat) (hv:F d=lit (.pointer (some ⟨b,0,none⟩))) (hdel:aq b T cs H H')
  (h:WPL P C n ops l K (upd F d (pt cs)) H'):WPL P C n ops l K F H:=WPL.pub hdel hv (fun m arr hm ha=>F3 m arr hm ha) h
theorem Pu.le {f:FuncId}{l:List SV}{r r':SV}(h:Pu P f l r) (k:Le r r'):Pu P f l r':=by
 unfold Pu at *;exact⟨h.1,fun m w vs hm ha=>(h.2 m w vs hm ha).mono fun e w' ⟨v,m',e1,e2,e3,e4⟩=>⟨v,m',e1,k m' v e2,e3,e4⟩⟩
theorem Pu.arg {f:FuncId}{l l':List SV}{r:SV}(h:Pu P f l r) (k:LeL l' l):Pu P f l' r:=by
 unfold Pu at *;exact⟨h.1,fun m w vs hm ha=>h.2 m w vs hm (ha.le k)⟩
end
section
variable {P:Program}{C:Ctx}{n:Nat}{F:Fr}{H:LH}{ops:Array Oper}{K:Fr→LH→Prop}{Q:Exit→Fr→LH→Prop}
theorem St.sub {H':LH}{a:Act}{w:World}(hs:St C n F H a w) (h:H'.Sublist H):St C n F H' a w:=by
 obtain⟨hdef,hn,m,h1,h2,h3,h4,h5⟩:=hs;exact⟨hdef,hn,m,h1,⟨(h.map _).nodup h2.1,fun e he=>h2.2 e (h.subset he)⟩,h3,fun e he=>h4 e (h.subset he),h5⟩
theorem WP.sub {c:Code}{H':LH}(h:H'.Sublist H) (k:WP P C n c Q F H'):WP P C n c Q F H:=by
 unfold WP at *;exact fun a w hs=>k a w (hs.sub h)
theorem WP.loopS {ι:Type}{c:Code}(J:ι→Prop) (μ:ι→Nat) (G:ι→Fr) (L:ι→LH) (x0:ι) (h0:J x0) (hF:LeF F (G x0)) (hH:(L x0).Sublist H)
  (round:∀x,J x→∀K:Fr→LH→Prop,(∀F' H' x',J x'→μ x'<μ x→LeF F' (G x')→(L x').Sublist H'→K F' H')→WP P C n c (j8 K Q) (G x) (L x)) :
  WP P C n (.loop c) Q F H:=by
 refine WP.sub hH (WP.le hF ?_);unfold WP;intro a w hs;refine wp_loop_ghost (fun k a w=>∃x,μ x=k∧J x∧St C n (G x) (L x) a w) (μ x0) ⟨x0,rfl,h0,hs⟩ ?_;rintro k a w ⟨x,rfl,hJ,hs⟩;have hr:=round x hJ (fun F' H'=>∃x',J x'∧μ x'<μ x∧LeF F' (G x')∧(L x').Sublist H') (fun F' H' x' a b c d=>⟨x',a,b,c,d⟩);unfold WP at hr;refine wp_mono (hr a w hs) ?_;rintro e a' w' (⟨F',H',hs',hq⟩|⟨ch,rfl,hp⟩)
 ·unfold j8 at hq;cases e with
  |normal =>
   obtain⟨x',hJ',hμ,hF',hH'⟩:=hq;exact⟨μ x',hμ,x',rfl,hJ',(hs'.le hF').sub hH'⟩
  |_=>exact .inl ⟨F',H',hs',hq⟩
 ·exact .inr ⟨ch,rfl,hp⟩
theorem I1 {l:List Oper}{b:Nat}{T:TypeId}{cs:List SV}{H':LH}{k c:Nat}(d:Nat) (hv:F d=lit (.slice (some ⟨b,0,none⟩) k c)) (hdel:aq b T cs H H') (hc:k≤c) (hc':c≤1000000000)
  (h:WPL P C n ops l K (upd F d (sl cs k)) H'):WPL P C n ops l K F H :=
 WPL.pub hdel hv (fun m arr hm ha=>KU hc om m arr hm ha) h
theorem WgE {d:Option Nat}{op:Op}{ty:TypeId}{pos:String}{aft:Array Edge}{rest:List Oper}{K:Fr→LH→Prop}{j:Nat}{t:Bool}{oj:Oper}{dj:Nat}(k:WPL P C n ops (⟨d,op,ty,pos,aft,none⟩::rest) K F H)
  (hj:ops[j]? = some oj:=by exact rfl) (hdj:oj.dst=some dj:=by exact rfl) (hf:F dj=lit (.bool t):=by exact rfl) (hdn:Nat.blt dj n=true:=by exact rfl):WPL P C n ops (⟨d,op,ty,pos,aft,some (j,t)⟩::rest) K F H:=by
 unfold WPL at *;intro a w hs Q hq;have hy:=tz hs hj hdj hf hdn;have h:=k a w hs Q hq;unfold wpList at h⊢;have h1:Region.wanted (⟨d,op,ty,pos,aft,none⟩:Oper) (yielded ops a.tmps)=true:=rfl;have h2:Region.wanted (⟨d,op,ty,pos,aft,some (j,t)⟩:Oper) (yielded ops a.tmps)=true:=by simp [Region.wanted,hy]
 rw [if_pos h1]at h;rw [if_pos h2];exact h
end
theorem fV {α β:Type}{f:α→List β}{n:Nat}(hf:∀a,(f a).length=n):∀{l:List α}{k:Nat}{a:α},l[k]? = some a→(((l.map f).flatten).drop (k*n)).take n=f a
 | [],_,_,h=>by simp at h
 |x::l,0,a,h=>by
  simp at h;subst h;simp [hf x]
 |x::l,k+1,a,h=>by
  have:=fV hf (l:=l) (k:=k) (a:=a) (by simpa using h);rw [aD,bw,show(k+1)*n=(f x).length+k*n from by rw [hf,aT,aY,gM],List.drop_append,fR (Nat.le_add_right _ _),a8,kJ];exact this
theorem gA {α β:Type}{f:α→List β}{n:Nat}(hf:∀a,(f a).length=n) (hn:0<n){l:List α}(h:l≠[]):(l.map f).flatten≠[]:=by
 cases l with
 |nil=>exact absurd rfl h
 |cons x l =>
  intro e;have:=congrArg List.length e;simp [hf x]at this;omega
def S4:Option Value→Addr
 |some (.iface _ (.pointer (some a)))=>a
 |_=>⟨0,0,none⟩
def Qq (g:Nat):Addr:=match Base.mem g with
 |some (.cells arr _ _)=>S4 arr[0]?
 |_=>⟨0,0,none⟩
abbrev jV (g:Nat):Value := .iface 458 (.pointer (some (Qq g)))
class iF (g:Nat):Prop where
 h:∃(a:Addr) (T:TypeId) (fz:Nat×Nat),Base.mem g=some (.cells #[.iface 458 (.pointer (some a))] T fz)
instance (g:Nat) [s:iF g]:GV g (jV g):=⟨by
 obtain⟨a,T,fz,h⟩:=s.h;refine⟨T,fz,?_⟩;unfold jV Qq;rw [h];rfl⟩
theorem Mb (v:Value) (w:World):(Extern.ReflectliteType.typeOf #[.iface 458 v]).run Tryz.prog w = .ok (.iface 205 (.agg #[.pointer (some ⟨(Tryz.prog).globals.size,458,none⟩)])) w:=by kernel_rfl
theorem BV (w:World):((Extern.ReflectliteType.method fun t=>do Extern.Rtype.noPackHeld "Comparable" t;pure (.bool (←typeInfo t).comparable)) #[.agg #[.pointer (some ⟨(Tryz.prog).globals.size,458,none⟩)]]).run Tryz.prog w = .ok (.bool true) w:=by kernel_rfl
theorem Jc (v:Value) (w:World):(Go.method ((Tryz.prog).types.size+Made.depth) 205 v "Comparable").run Tryz.prog w = .ok (378,v) w:=by kernel_rfl
section
variable {F:Fr}{H:LH}{ty:TypeId}
theorem Ao {x:Operand}{v:Value}{tys:Array TypeId}(hx:ev F x=lit (.iface 458 v)):OpV Tryz.prog (.call ⟨.value (.func 69),[x].toArray,tys⟩) ty F H (lit (.iface 205 (.agg #[.pointer (some ⟨(Tryz.prog).globals.size,458,none⟩)]))) :=
 OpV.pure fun m w o a ho _ _ _ h=>by
  have h0:=h x (by simp [Op.operands,Call.operands]);rw [hx,ap]at h0;have h8:=@run_callFunc_extern Tryz.prog 69 _ Extern.ReflectliteType.typeOf Tryz.func69 kr kr kr kr;refine⟨_,?_,ap.2 rfl⟩;have:=h8 #[a.eval x] w;rw [h0,Mb,←h0]at this;simp only [execOp,ho,resolve,Sem.run_bind,Sem.run_pure,Result.andThen_ok];have e1:a.eval (.func 69) = .func (.func 69) #[] #[]:=rfl;simp only [e1,Deferred.ofValue,Sem.run_pure,Result.andThen_ok,invoke,iH,aD,iz,lF,nN,this]
theorem Aq {x:Operand}{tys:Array TypeId}(hx:ev F x=lit (.iface 205 (.agg #[.pointer (some ⟨(Tryz.prog).globals.size,458,none⟩)]))):OpV Tryz.prog (.call ⟨.invoke x "Comparable",#[],tys⟩) ty F H (lit (.bool true)) :=
 OpV.pure fun m w o a ho _ _ _ h=>by
  have h0:=h x (by simp [Op.operands,Call.operands]);rw [hx,ap]at h0;have h8:=@run_callFunc_extern Tryz.prog 378 _ (Extern.ReflectliteType.method fun t=>do Extern.Rtype.noPackHeld "Comparable" t;pure (.bool (←typeInfo t).comparable)) Tryz.func378 kr kr kr kr;refine⟨_,?_,ap.2 rfl⟩;have:=h8 #[.agg #[.pointer (some ⟨(Tryz.prog).globals.size,458,none⟩)]] w;have hc:=BV w;have hm:=Jc (.agg #[.pointer (some ⟨(Tryz.prog).globals.size,458,none⟩)]) w;rw [hc]at this
  have hz:(callMethod (.iface 205 (.agg #[.pointer (some ⟨(Tryz.prog).globals.size,458,none⟩)])) "Comparable" #[]).run Tryz.prog w = .ok (.value (.bool true)) w:=by
   simp only [callMethod,Sem.run_bind,run_program,Result.andThen_ok,hm,nN,this]
  have he:execOp a.eval o=callMethod (a.eval x) "Comparable" #[]:=by
   simp [execOp,ho,resolve,invoke]
  rw [he,h0,hz]
theorem Dg {g:Nat}{x y:Operand}{T':TypeId}(hx:ev F x=lit (jV g)) (hy:ev F y=lit (jV g)):OpV Tryz.prog (.binOp .eql 39 x y T') ty F H (lit (.bool true)) :=
 eH hx hy (fun w=>by
  obtain⟨i,hi,hc⟩:=gC.1 (show((Tryz.prog).info? 458).map (·.comparable)=some true by kernel_rfl);obtain⟨j,hj,_⟩:=gC.1 (show((Tryz.prog).info? 478).map (·.size)=some 1 by kernel_rfl);exact run_eql_iface_ptr_same w _ Tryz.underlying39 Tryz.underlying458 hi hc hj) (fun w=>by simp [Go.eqGuard])
end
theorem RE (g:Nat):Pu Tryz.prog 70 [lit (jV g),lit (jV g),lit (.bool true)] (lit (.bool true)):=by
 refine Pi Tryz.func70 fun C=>?_
 refine A2 ⟨?_⟩;intros;refine WP.loop (ι:=Unit) (fun _=>True) (fun _=>0) (fun _=>fm [(0,lit (jV g)),(1,lit (jV g)),(2,lit (.bool true))]) (fun _=>[]) () trivial lfA rfl ?_;rintro _ _ K hK;refine A2 ⟨?_⟩;intros;refine WgE ?_;refine Wo (Dg rfl rfl) ?_;exact Z1
theorem SK (g:Nat):Pu Tryz.prog 30 [lit (jV g),lit (jV g)] (lit (.bool true)):=by
 refine Pi Tryz.func30 fun C=>?_
 refine A2 ⟨?_⟩;intros;refine Wo (Ao rfl) ?_;refine Wo (Aq rfl) ?_;exact Y1 (RE g)
abbrev nat (n:Nat):SV:=dg (dgs n)
theorem NC (ds:List Nat) (hl:ds.length≤1000000000):Pu Tryz.prog 233 [dg ds] (dg (k9 ds)):=by
 refine Pi Tryz.func233 fun C=>?_
 refine A2 ⟨?_⟩;intros;refine WP.loop (ι:=Nat) (fun k=>k≤ds.length∧k9 (ds.take k)=k9 ds) (fun k=>k) (fun k=>fm [(0,dg (ds.take k))]) (fun _=>[]) ds.length ⟨au _,by rw [aP]⟩ (LeF.cons (by rw [aP];exact Le.refl _) (LeF.nil _)) rfl ?_;rintro k ⟨hk,ht⟩ K hK;have hlen:(ds.take k).length=k:=by rw [aC];omega
 rcases k with _|j
 ·refine A2 ⟨?_⟩;intros;exact cV (bJ (RV.tmp (s:=dg (List.take 0 ds)) rfl) (Le.of_eq (by rw [←ht];rfl)))
 ·have hg:(List.take (j+1) ds).getD j 0=ds.getD j 0:=by simp [List.getD]
  iterate 2 refine WP.seq' ?_
  refine WP.reg ?_;iterate 7 (refine O1 ⟨?_⟩;intros)
  refine Wog (BD (r:=(j:Int)) rfl rfl (JR om om om)) ?_;refine Wog (sh (i:=j) rfl rfl om) ?_;rw [hg];by_cases hd:ds.getD j 0=0
  ·refine A2 ⟨?_⟩;intros;refine Wo (BB j rfl rfl om om) ?_;rw [kV,dv om];refine A2 ⟨?_⟩;intros;refine hK _ _ j ⟨om,?_⟩ om (LeF.cons Lr (LeF.nil _)) rfl;rw [dB ds j om,hd,kj]at ht;exact ht
  ·rw [dB ds j om,k8 _ _ hd,←dB ds j om]at ht;refine A2 ⟨?_⟩;intros;exact cV (bJ (RV.tmp (s:=dg (List.take (j+1) ds)) rfl) (Le.of_eq (by rw [ht])))
theorem gj (ds:List Nat) (hl:ds.length≤1000000000) (hD:D ds):Pu Tryz.prog 233 [dg ds] (nat (val ds)):=by
 have:=NC ds hl;rwa [qY hD]at this
theorem gz:Le (lit (.slice none 0 0)) (dg []):=fun m v h=>by
 rw [ap]at h;subst h;rw [wK];exact jq (by simp) (by simp [maxLen]) (.inl rfl)
theorem Eh (ds:List Nat) (hl:ds.length≤1000000000):Pu Tryz.prog 232 [dg ds] (dg ds):=by
 refine Pi Tryz.func232 fun C=>?_
 refine A2 ⟨?_⟩;intros;refine WP.exd (d:=4) rfl fun b=>?_
 cases hb:b&&decide (ds=[])with
 |true =>
  have:ds=[]:=by simp at hb;exact hb.2
  subst this;refine A2 ⟨?_⟩;intros;exact cV (bJ (RV.tmp rfl) gz)
 |false =>
  exact Z1
theorem pu (ds:List Nat) (hl:ds.length≤1000000000) (hD:D ds):Pu Tryz.prog 177 [dg ds] (nat (val ds)):=by
 have hl':(dgs (val ds)).length≤1000000000:=by
  have:=dU (eQ hD);omega
 refine Pi Tryz.func177 fun C=>?_
 refine A2 ⟨?_⟩;intros;refine Wc (gj ds hl hD) ?_;refine Wc (Eh _ hl') ?_;exact Z1
theorem lj (u:Nat) (hu:u<18446744073709551616):Pu Tryz.prog 178 [lit (.int .u64 u)] (nat u):=by
 have hD:D [u%4294967296,u/4294967296]:=D.cons om (D.cons om D.nil);have hv:val [u%4294967296,u/4294967296]=u:=by simp [val];omega
 refine Pi Tryz.func178 fun C=>?_
 refine A2 ⟨?_⟩;intros;refine lr (ds:=[u%4294967296,u/4294967296]) 8 rfl (aq.here _) rfl om om ?_;refine Wc (gj _ (by simp) hD) ?_;rw [hv];exact Z1
theorem or0 {a:Int}(x:Nat) (ha:a=(x:Int)) (hx:x<18446744073709551616):IntKind.u64.wrap ((BitVec.ofInt (IntKind.bits .u64) 0 ||| BitVec.ofInt (IntKind.bits .u64) a).toNat:Int)=(x:Int):=by
 subst ha;rw [tt];simp only [IntKind.bits];rw [kY 64 _ om,show(0:Int)=((0:Nat):Int)from rfl,kY 64 0 om,Nat.zero_or];exact zQ .u64 rfl _ (by simp only [IntKind.bits];omega)
theorem NB (k c d:Nat) (hk:k<2) (hc:c<4294967296^k) (hd:d<4294967296) :
  IntKind.u64.wrap ((BitVec.ofInt (IntKind.bits .u64) (c:Int) ||| BitVec.ofInt (IntKind.bits .u64) (IntKind.u64.wrap ((d:Int)*2^(min (32*(k:Int)).toNat (IntKind.bits .u64))))).toNat:Int)=((c+4294967296^k*d:Nat):Int):=by
 match k,hk with
 |0,_ =>
  have:c=0:=by simpa using hc
  subst this;refine(or0 d ?_ om).trans (by simp);show IntKind.u64.wrap ((d:Int)*1)=d
  rw [qe];exact Ep om om
 |1,_ =>
  have hc':c<4294967296:=by simpa using hc
  refine(Lx d c rfl ?_ hd hc').trans (by simp;omega);exact Qi om om
theorem ue (ds:List Nat) (hl:ds.length≤1000000000) (hD:D ds):Pu Tryz.prog 253 [dg ds]
  (if val ds<18446744073709551616 then tup [lit (.int .u64 (val ds)),lit (.bool true)]else tup [lit (.int .u64 0),lit (.bool false)]):=by
 refine Pi Tryz.func253 fun C=>?_
 refine A2 ⟨?_⟩;intros;refine Wc (gj ds hl hD) ?_
 have hll:(dgs (val ds)).length≤1000000000:=by
  have:=dU (eQ hD);omega
 by_cases hlen:(dgs (val ds)).length≤2
 ·have hlt:val ds<18446744073709551616:=by have:=BT hlen;simpa using this
  rw [if_pos hlt];refine A2 ⟨?_⟩;intros;generalize hgen:dgs (val ds)=es at *;have hDe:D es:=hgen▸cu _
  have hve:val es=val ds:=by rw [←hgen,aK]
  refine WP.loop (ι:=Nat) (fun k=>k≤es.length) (fun k=>es.length-k) (fun k=>fm [(4,lit (.int .u64 (val (es.take k):Nat))),(12,dg es),(13,lit (.int .i64 es.length)),(14,lit (.int .i64 k))]) (fun _=>[]) 0 (an _)
   (LeF.cons Lr (LeF.cons Lr (LeF.cons Lr (LeF.cons Lr (LeF.nil _))))) rfl ?_
  intro k hk K hK;have hg:=hDe.get k;by_cases hlt2:k<es.length
  ·refine A2 ⟨?_⟩;intros;have hvt:=eQ (hDe.take k);rw [aC,dv hk]at hvt;refine Wo (qP rfl rfl (NB k _ _ om hvt hg)) ?_;rw [←oL es k hlt2];refine A2 ⟨?_⟩;intros;exact hK _ _ (k+1) om om (LeF.cons Lr (LeF.cons Lr (LeF.cons Lr (LeF.cons Lr (LeF.nil _))))) rfl
  ·have hke:k=es.length:=by omega
   subst hke;rw [aP,hve];refine A2 ⟨?_⟩;intros;exact G2
 ·have hge:¬val ds<18446744073709551616:=by
   have:=zH (n:=val ds) (k:=2) om;simp at this;omega
  rw [if_neg hge];refine A2 ⟨?_⟩;intros;exact G2
theorem LY (x:Nat) (hx:x<4294967296):Pu Tryz.prog 234 [lit (.int .u32 x)] (lit (.int .i64 (f5 x))):=by
 have fin:∀y,y<256→f5 y≤8:=fun y hy=>j7.2 hy
 refine Pi Tryz.func234 fun C=>?_
 by_cases h16:65536≤x
 ·have e16:=u0 x 16 h16;by_cases h8:256≤x/65536
  ·have e8:=u0 (x/65536) 8 h8;have f:=fin (x/65536/256) om;refine A2 ⟨?_⟩;intros;refine Wo (BC 256 (x/65536/256) f5 rfl rfl om om (by decide +kernel)) ?_;refine A2 ⟨?_⟩;intros;((first|refine cV ?_|refine jK ?_);refine bJ (RV.tmp rfl) (Le.int ?_))
   simp only [Nat.reducePow]at e16 e8;omega
  ·have f:=fin (x/65536) om;refine A2 ⟨?_⟩;intros;refine Wo (BC 256 (x/65536) f5 rfl rfl om om (by decide +kernel)) ?_;refine A2 ⟨?_⟩;intros;((first|refine cV ?_|refine jK ?_);refine bJ (RV.tmp rfl) (Le.int ?_))
   simp only [Nat.reducePow]at e16;omega
 ·by_cases h8:256≤x
  ·have e8:=u0 x 8 h8;have f:=fin (x/256) om;refine A2 ⟨?_⟩;intros;refine Wo (BC 256 (x/256) f5 rfl rfl om om (by decide +kernel)) ?_;refine A2 ⟨?_⟩;intros;((first|refine cV ?_|refine jK ?_);refine bJ (RV.tmp rfl) (Le.int ?_))
   simp only [Nat.reducePow]at e8;omega
  ·have f:=fin x om;refine A2 ⟨?_⟩;intros;refine Wo (BC 256 x f5 rfl rfl om om (by decide +kernel)) ?_;refine A2 ⟨?_⟩;intros;((first|refine cV ?_|refine jK ?_);refine bJ (RV.tmp rfl) (Le.int ?_))
   omega
theorem BQ (x:Nat) (hx:x<4294967296):Pu Tryz.prog 182 [lit (.int .u32 x)] (lit (.int .i64 (32-f5 x))):=by
 have f:f5 x≤32:=j7.2 hx;refine Pi Tryz.func182 fun C=>?_
 refine A2 ⟨?_⟩;intros;refine Wc (LY x hx) ?_;exact Z1
theorem Ca {n:Nat}(h:n≠0):∃k,(dgs n).length=k+1∧(dgs n).getD k 0≠0∧(dgs n).getD k 0<4294967296∧val ((dgs n).take k)<4294967296^k∧n=val ((dgs n).take k)+4294967296^k*(dgs n).getD k 0:=by
 have hne:dgs n≠[]:=fun e=>h (PS e)
 obtain⟨k,hk⟩:∃k,(dgs n).length=k+1:=⟨(dgs n).length-1,by have:=fE.2 hne;omega⟩
 refine⟨k,hk,?_,(cu n).get k,?_,?_⟩
 ·have hc:=(PT n).2;rw [List.getLast?_eq_getElem?,hk]at hc;intro h0;apply hc;have:k<(dgs n).length:=by omega
  simp [List.getD,this]at h0⊢;exact h0
 ·have:=eQ ((cu n).take k);rwa [aC,dv om]at this
 ·have:=oL (dgs n) k om;rw [←hk,aP,aK]at this;exact this
theorem jf (ds:List Nat) (hl:ds.length≤1000000000) (hD:D ds):Pu Tryz.prog 249 [dg ds] (lit (.int .i64 (f5 (val ds)))):=by
 have hll:(dgs (val ds)).length≤1000000000:=by have:=dU (eQ hD);omega
 refine Pi Tryz.func249 fun C=>?_
 refine A2 ⟨?_⟩;intros;refine Wc (gj ds hl hD) ?_;by_cases h0:val ds=0
 ·have hn:(dgs (val ds)).length=0:=by rw [h0,bW];rfl
  refine A2 ⟨?_⟩;intros;((first|refine cV ?_|refine jK ?_);refine bJ (RV.tmp rfl) (Le.int ?_))
  rw [h0];simp [f5]
 ·obtain⟨k,hk,ht,hd,hv,he⟩:=Ca h0;have hb:=N6 _ _ k hv ht;rw [←he]at hb;have f:f5 ((dgs (val ds)).getD k 0)≤32:=j7.2 hd;refine A2 ⟨?_⟩;intros;rw [show(dgs (val ds)).length-1=k from by omega];refine Wc (BQ _ hd) ?_;refine A2 ⟨?_⟩;intros;((first|refine cV ?_|refine jK ?_);refine bJ (RV.tmp rfl) (Le.int ?_))
  omega
def pL (a b:Nat):Int:=if a<b then -1 else if a=b then 0 else 1
theorem mT {a b:Nat}(h:a<b):pL a b = -1:=by unfold pL;rw [if_pos h]
theorem oH {a b:Nat}(h:b<a):pL a b=1:=by unfold pL;rw [if_neg om,if_neg om]
theorem vd (a:Nat):pL a a=0:=by unfold pL;rw [if_neg om,if_pos rfl]
theorem Ce (a b:Nat) : -1≤pL a b∧pL a b≤1∧(pL a b<0↔a<b):=by
 unfold pL;split
 ·simp;omega
 ·split <;> simp <;> omega
theorem Bc (ds:List Nat) (i:Nat) (h:i<ds.length):val ds=val (ds.take i)+4294967296^i*(ds.getD i 0+4294967296*val (ds.drop (i+1))):=by
 rw [lM ds i om,fX ds i h,i0]
theorem rW {xs ys:List Nat}(i:Nat) (ha:D xs) (hi:i<xs.length) (hj:i<ys.length) (hd:xs.drop (i+1)=ys.drop (i+1)) (hlt:xs.getD i 0<ys.getD i 0):val xs<val ys:=by
 rw [Bc xs i hi,Bc ys i hj,hd];have h1:=eQ (ha.take i);rw [aC,dv om]at h1;generalize 4294967296^i=p at *;have h2:p*(xs.getD i 0+1+4294967296*val (ys.drop (i+1)))≤p*(ys.getD i 0+4294967296*val (ys.drop (i+1))):=eO _ om;rw [show xs.getD i 0+1+4294967296*val (ys.drop (i+1))=(xs.getD i 0+4294967296*val (ys.drop (i+1)))+1 from by omega,aM,cB]at h2;omega
theorem HS (xs ys:List Nat) (hla:xs.length≤1000000000) (hlb:ys.length≤1000000000) (hA:D xs) (hB:D ys):Pu Tryz.prog 275 [dg xs,dg ys] (lit (.int .i64 (pL (val xs) (val ys)))):=by
 have h1:(dgs (val xs)).length≤1000000000:=by have:=dU (eQ hA);omega
 have h2:(dgs (val ys)).length≤1000000000:=by have:=dU (eQ hB);omega
 have hxa:=aK (val xs);have hxb:=aK (val ys);have hDa:=cu (val xs);have hDb:=cu (val ys);refine Pi Tryz.func275 fun C=>?_
 refine A2 ⟨?_⟩;intros;refine Wc (gj xs hla hA) ?_;refine A2 ⟨?_⟩;intros;refine Wc (gj ys hlb hB) ?_;generalize hav:val xs=a at *;generalize hbv:val ys=b at *;clear hav hbv hA hB hla hlb;by_cases hlen:(dgs a).length=(dgs b).length
 ·refine A2 ⟨?_⟩;intros
  refine WP.loop (ι:=Nat) (fun k=>k≤(dgs a).length∧(dgs a).drop k=(dgs b).drop k) (fun k=>k) (fun k=>fm [(0,dg (dgs a)),(1,dg (dgs b)),(5,lit (.int .i64 ((k:Int)-1)))]) (fun _=>[]) (dgs a).length
   ⟨au _,by rw [eL,hlen,eL]⟩ (LeF.cons Lr (LeF.cons Lr (LeF.cons Lr (LeF.nil _)))) rfl ?_
  rintro k ⟨hk,hd⟩ K hK;rcases k with _|j
  ·refine A2 ⟨?_⟩;intros;((first|refine cV ?_|refine jK ?_);refine bJ (RV.tmp rfl) (Le.int ?_))
   simp only [bD]at hd;rw [HJ hd,vd]
  ·rw [show(((j+1:Nat):Int)-1)=(j:Int)from by omega];rcases gQ ((dgs a).getD j 0) ((dgs b).getD j 0)with hlt|heq|hgt
   ·have hlt':=rW j hDa om om hd hlt;rw [hxa,hxb]at hlt';refine A2 ⟨?_⟩;intros;((first|refine cV ?_|refine jK ?_);refine bJ (RV.tmp rfl) (Le.int ?_))
    rw [mT hlt']
   ·refine A2 ⟨?_⟩;intros;refine hK _ _ j ⟨om,?_⟩ om (LeF.cons Lr (LeF.cons Lr (LeF.cons Lr (LeF.nil _)))) rfl;rw [fX _ j om,fX (dgs b) j om,hd,heq]
   ·have hlt':=rW j hDb om om hd.symm hgt;rw [hxa,hxb]at hlt';refine A2 ⟨?_⟩;intros;((first|refine cV ?_|refine jK ?_);refine bJ (RV.tmp rfl) (Le.int ?_))
    rw [oH hlt']
 ·rcases nM hlen with hlt|hgt
  ·have hab:a<b:=by
    rcases aJ a b with h|h
    ·exact h
    ·have:=cI h;omega
   refine A2 ⟨?_⟩;intros;((first|refine cV ?_|refine jK ?_);refine bJ (RV.tmp rfl) (Le.int ?_))
   rw [mT hab]
  ·have hab:b<a:=by
    rcases aJ b a with h|h
    ·exact h
    ·have:=cI h;omega
   refine A2 ⟨?_⟩;intros;((first|refine cV ?_|refine jK ?_);refine bJ (RV.tmp rfl) (Le.int ?_))
   rw [oH hab]
theorem KB (ds:List Nat) (hl:ds.length≤1000000000):Pu Tryz.prog 93 [dg ds] (dg (k9 ds)):=by
 refine Pi Tryz.func93 fun C=>?_
 refine A2 ⟨?_⟩;intros;refine WP.loop (ι:=Nat) (fun k=>k≤ds.length∧k9 (ds.take k)=k9 ds) (fun k=>k) (fun k=>fm [(0,dg ds),(3,lit (.int .i64 k))]) (fun _=>[]) ds.length ⟨au _,by rw [aP]⟩ lfA rfl ?_;rintro k ⟨hk,ht⟩ K hK;rcases k with _|j
 ·refine A2 ⟨?_⟩;intros;refine Wo (BB 0 rfl rfl om om) ?_;refine A2 ⟨?_⟩;intros;exact cV (bJ (RV.tmp rfl) (Le.of_eq (by rw [←ht];rfl)))
 ·repeat(refine AS ⟨?_⟩;intros)
  iterate 5 (refine O1 ⟨?_⟩;intros)
  refine Wog (BD (r:=(j:Int)) rfl rfl (JR om om om)) ?_;refine Wog (sh (i:=j) rfl rfl om) ?_;by_cases hd:ds.getD j 0=0
  ·refine A2 ⟨?_⟩;intros;refine hK _ _ j ⟨om,?_⟩ om lfA rfl;rw [dB ds j om,hd,kj]at ht;exact ht
  ·rw [dB ds j om,k8 _ _ hd,←dB ds j om]at ht;refine A2 ⟨?_⟩;intros;refine Wo (BB (j+1) rfl rfl om om) ?_;refine A2 ⟨?_⟩;intros;exact cV (bJ (RV.tmp (s:=dg (List.take (j+1) ds)) rfl) (Le.of_eq (by rw [ht])))
theorem gD (ds:List Nat) (hl:ds.length≤1000000000) (hD:D ds):Pu Tryz.prog 93 [dg ds] (nat (val ds)):=by
 have:=KB ds hl;rwa [qY hD]at this
theorem mG (u:Nat) (hu:u<18446744073709551616):Pu Tryz.prog 92 [lit (.int .u64 u)] (nat u):=by
 have hD:D [u%4294967296,u/4294967296]:=D.cons om (D.cons om D.nil);have hv:val [u%4294967296,u/4294967296]=u:=by simp [val];omega
 refine Pi Tryz.func92 fun C=>?_
 refine A2 ⟨?_⟩;intros;refine lr (ds:=[u%4294967296,u/4294967296]) 8 rfl (aq.here _) rfl om om ?_;refine Wc (gD _ (by simp) hD) ?_;rw [hv];exact Z1
theorem qL:dgs 1=[1]:=by rw [dgs];simp [bW]
theorem Fb:Pu Tryz.prog 94 [] (nat 1):=by
 rw [nat,qL];refine Pi Tryz.func94 fun C=>?_
 repeat(refine AS ⟨?_⟩;intros)
 (refine O1 ⟨?_⟩;intros)
 repeat(refine AS ⟨?_⟩;intros)
 iterate 1 (refine O1 ⟨?_⟩;intros)
 refine lr (ds:=[1]) 1 rfl (aq.here _) rfl om om ?_;exact Z1
theorem Gp (z:Int):Pu Tryz.prog 180 [lit (.int .i64 z)] (lit (.int .i64 z.sign)):=by
 rcases iy z 0 with h|h|h
 ·rw [gf h];refine Pi Tryz.func180 fun C=>?_
  exact Z1
 ·subst h;refine Pi Tryz.func180 fun C=>?_
  exact Z1
 ·rw [fy h];refine Pi Tryz.func180 fun C=>?_
  exact Z1
theorem uu (a b:Nat) (h1:(dgs a).length≤1000000000) (h2:(dgs b).length≤1000000000):Pu Tryz.prog 134 [nat a,nat b] (lit (.int .i64 (pL a b))):=by
 have hxa:=aK a;have hxb:=aK b;have hDa:=cu a;have hDb:=cu b;by_cases hlen:(dgs a).length=(dgs b).length
 ·refine Pi Tryz.func134 fun C=>?_
  refine A2 ⟨?_⟩;intros
  refine WP.loop (ι:=Nat) (fun k=>k≤(dgs a).length∧(dgs a).drop k=(dgs b).drop k) (fun k=>k) (fun k=>fm [(0,dg (dgs a)),(1,dg (dgs b)),(5,lit (.int .i64 ((k:Int)-1)))]) (fun _=>[]) (dgs a).length
   ⟨au _,by rw [eL,hlen,eL]⟩ lfA rfl ?_
  rintro k ⟨hk,hd⟩ K hK;rcases k with _|j
  ·refine A2 ⟨?_⟩;intros;((first|refine cV ?_|refine jK ?_);refine bJ (RV.tmp rfl) (Le.int ?_))
   simp only [bD]at hd;rw [HJ hd,vd]
  ·rw [show(((j+1:Nat):Int)-1)=(j:Int)from by omega];rcases gQ ((dgs a).getD j 0) ((dgs b).getD j 0)with hlt|heq|hgt
   ·have hlt':=rW j hDa om om hd hlt;rw [hxa,hxb]at hlt';refine A2 ⟨?_⟩;intros;((first|refine cV ?_|refine jK ?_);refine bJ (RV.tmp rfl) (Le.int ?_))
    rw [mT hlt']
   ·refine A2 ⟨?_⟩;intros;refine hK _ _ j ⟨om,?_⟩ om lfA rfl;rw [fX _ j om,fX (dgs b) j om,hd,heq]
   ·have hlt':=rW j hDb om om hd.symm hgt;rw [hxa,hxb]at hlt';refine A2 ⟨?_⟩;intros;((first|refine cV ?_|refine jK ?_);refine bJ (RV.tmp rfl) (Le.int ?_))
    rw [oH hlt']
 ·rcases nM hlen with hlt|hgt
  ·have hab:a<b:=by
    rcases aJ a b with h|h
    ·exact h
    ·have:=cI h;omega
   refine Pi Tryz.func134 fun C=>?_
   refine A2 ⟨?_⟩;intros;refine Wc (Gp _) ?_;rw [gf om];refine A2 ⟨?_⟩;intros;((first|refine cV ?_|refine jK ?_);refine bJ (RV.tmp rfl) (Le.int ?_))
   rw [mT hab]
  ·have hab:b<a:=by
    rcases aJ b a with h|h
    ·exact h
    ·have:=cI h;omega
   refine Pi Tryz.func134 fun C=>?_
   refine A2 ⟨?_⟩;intros;refine Wc (Gp _) ?_;rw [fy om];refine A2 ⟨?_⟩;intros;((first|refine cV ?_|refine jK ?_);refine bJ (RV.tmp rfl) (Le.int ?_))
   rw [oH hab]
theorem PR {n:Nat}(h:(dgs n).length=2):n=(dgs n).getD 0 0+(dgs n).getD 1 0*4294967296:=by
 have hv:=aK n;generalize dgs n=l at *;match l,h with
 | [a,b],_=>simp [val]at hv⊢;omega
theorem HK {n:Nat}(h:(dgs n).length=1):n=(dgs n).getD 0 0:=by
 have hv:=aK n;generalize dgs n=l at *;match l,h with
 | [a],_=>simp [val]at hv⊢;omega
theorem SR {n:Nat}(h:(dgs n).length=0):n=0:=by
 have hv:=aK n;rw [List.length_eq_zero_iff.1 h]at hv;exact hv.symm
theorem xd {n:Nat}(h:(dgs n).length≤2):n<18446744073709551616:=cQ (o5 n) (aU (gN om h) (by decide))
theorem ui (n:Nat) (h:(dgs n).length≤1000000000):Pu Tryz.prog 136 [nat n] (if(dgs n).length≤2 then tup [lit (.int .u64 n),lit (.bool true)]else tup [lit (.int .u64 0),lit (.bool false)]):=by
 have hD:=cu n;by_cases h0:(dgs n).length=0
 ·rw [if_pos om];have e:=SR h0;refine Pi Tryz.func136 fun C=>?_
  refine A2 ⟨?_⟩;intros;refine cV (eJ (RV.tmp rfl) (RV.tmp rfl) (Le.tup2 (Le.int om) Lr))
 ·by_cases h1:(dgs n).length=1
  ·rw [if_pos om];have e:n=(dgs n).getD (Int.toNat 0) 0:=HK h1;have b:(dgs n).getD (Int.toNat 0) 0<4294967296:=hD.get 0;refine Pi Tryz.func136 fun C=>?_
   refine A2 ⟨?_⟩;intros;refine cV (eJ (RV.tmp rfl) (RV.tmp rfl) (Le.tup2 (Le.int om) Lr))
  ·by_cases h2:(dgs n).length=2
   ·rw [if_pos om];have e:n=(dgs n).getD (Int.toNat 0) 0+(dgs n).getD (0+1) 0*4294967296:=PR h2;have b0:(dgs n).getD (Int.toNat 0) 0<4294967296:=hD.get 0;have b1:(dgs n).getD (0+1) 0<4294967296:=hD.get 1;refine Pi Tryz.func136 fun C=>?_
    refine A2 ⟨?_⟩;intros;refine Wdo (qP rfl rfl (Fa ((dgs n).getD (0+1) 0) ((dgs n).getD (Int.toNat 0) 0) rfl rfl b1 b0)) ?_;refine A2 ⟨?_⟩;intros;refine cV (eJ (RV.tmp rfl) (RV.tmp rfl) (Le.tup2 (Le.int om) Lr))
   ·rw [if_neg om];refine Pi Tryz.func136 fun C=>?_
    refine A2 ⟨?_⟩;intros;exact G2
theorem Nj (a b c:Nat) (ha:a<4294967296) (hb:b<4294967296) (hc:c≤1):Pu Tryz.prog 179 [lit (.int .u32 a),lit (.int .u32 b),lit (.int .u32 c)] (tup [lit (.int .u32 ((a+b+c)%4294967296:Nat)),lit (.int .u32 ((a+b+c)/4294967296:Nat))]):=by
 refine Pi Tryz.func179 fun C=>?_
 refine A2 ⟨?_⟩;intros;refine cV (eJ (RV.tmp rfl) (RV.tmp rfl) (Le.tup2 (Le.int om) (Le.int om)))
section
variable {P:Program}{F:Fr}{H:LH}{ty:TypeId}
theorem uD (X:BitVec 32):BitVec.ofInt (IntKind.bits .u32) (X.toNat:Int)=X:=by
 show BitVec.ofInt 32 (X.toNat:Int)=X
 rw [BitVec.ofInt_natCast,BitVec.ofNat_toNat,BitVec.setWidth_eq]
theorem wS (X:BitVec 32):IntKind.u32.wrap (X.toNat:Int)=(X.toNat:Int):=Es om (by have:=X.isLt;omega)
theorem Of {T T':TypeId}{x y:Operand}(X Y:BitVec 32) (hx:ev F x=lit (.int .u32 X.toNat)) (hy:ev F y=lit (.int .u32 Y.toNat)):OpV P (.binOp .xor T x y T') ty F H (lit (.int .u32 (X ^^^ Y).toNat)) :=
 eH hx hy (fun w=>by simp only [Go.binOp,ne_eq,n9,aO,Op.intBits,Sem.run_pure,uD];exact congrArg (fun z=>Result.ok (Value.int .u32 z) w) (wS _)) eF
theorem GX {T T':TypeId}{x y:Operand}(X Y:BitVec 32) (hx:ev F x=lit (.int .u32 X.toNat)) (hy:ev F y=lit (.int .u32 Y.toNat)):OpV P (.binOp .and T x y T') ty F H (lit (.int .u32 (X &&& Y).toNat)) :=
 eH hx hy (fun w=>by simp only [Go.binOp,ne_eq,n9,aO,Op.intBits,Sem.run_pure,uD];exact congrArg (fun z=>Result.ok (Value.int .u32 z) w) (wS _)) eF
theorem R6 {T T':TypeId}{x y:Operand}(X Y:BitVec 32) (hx:ev F x=lit (.int .u32 X.toNat)) (hy:ev F y=lit (.int .u32 Y.toNat)):OpV P (.binOp .or T x y T') ty F H (lit (.int .u32 (X ||| Y).toNat)) :=
 eH hx hy (fun w=>by simp only [Go.binOp,ne_eq,n9,aO,Op.intBits,Sem.run_pure,uD];exact congrArg (fun z=>Result.ok (Value.int .u32 z) w) (wS _)) eF
theorem Dh {T:TypeId}{x:Operand}(X:BitVec 32) (hx:ev F x=lit (.int .u32 X.toNat)):OpV P (.unOp .xor T x) ty F H (lit (.int .u32 (~~~X).toNat)) :=
 OpV.pure fun m w o a ho _ _ _ h=>by
  have h0:=h x (by simp [Op.operands]);rw [hx,ap]at h0;refine⟨.int .u32 (~~~X).toNat,?_,ap.2 rfl⟩
  have e:BitVec.ofInt (IntKind.bits .u32) (IntKind.max .u32)=BitVec.allOnes 32:=by
   show BitVec.ofInt 32 4294967295=BitVec.allOnes 32
   decide
  have e2:IntKind.u32.wrap ((BitVec.allOnes 32 ^^^ X).toNat:Int)=((~~~X).toNat:Int):=by rw [BitVec.allOnes_xor];exact wS _
  simp only [execOp,ho,h0,Op.unary,Op.intBits,IntKind.signed,bE,aO,e,uD,Sem.run_bind,Sem.run_pure,Result.andThen_ok];exact congrArg (fun z=>Result.ok (Next.value (Value.int .u32 z)) w) e2
end
theorem Cg (X:BitVec 32):X.toNat/2147483648=X.msb.toNat:=by
 have h:=X.isLt;rw [BitVec.msb_eq_decide];by_cases hc:2^(32-1)≤X.toNat <;> simp [hc] <;> omega
theorem EJ {vo va vb p c c' x y d:Nat}(h:vo+vb=va+p*c) (hd:x+4294967296*c'=d+c+y):vo+p*d+(vb+p*y)=va+p*x+p*4294967296*c':=by
 have:=congrArg (fun t=>p*t) hd;simp only [aM,←aI]at this;omega
theorem ET {vo va vb p c s x y:Nat}(h:vo+p*c=va+vb) (hs:s=x+y+c):vo+p*(s%4294967296)+p*4294967296*(s/4294967296)=va+p*x+(vb+p*y):=by
 subst hs;have e:=fC (x+y+c) 4294967296;rw [aI,jN,←aM,gM ((x+y+c)%4294967296),e,aM,aM];omega
theorem Ke (x y b:Nat) (hx:x<4294967296) (hy:y<4294967296) (hb:b≤1):Pu Tryz.prog 181 [lit (.int .u32 x),lit (.int .u32 y),lit (.int .u32 b)] (tup [lit (.int .u32 ((x+8589934592-y-b)%4294967296:Nat)),lit (.int .u32 (if x<y+b then 1 else 0))]):=by
 obtain⟨X,eX⟩:∃X:BitVec 32,x=X.toNat:=⟨BitVec.ofNat 32 x,by rw [qg,eN hx]⟩
 obtain⟨Y,eY⟩:∃X:BitVec 32,y=X.toNat:=⟨BitVec.ofNat 32 y,by rw [qg,eN hy]⟩
 obtain⟨Z,eZ⟩:∃X:BitVec 32,(x+8589934592-y-b)%4294967296=X.toNat:=⟨BitVec.ofNat 32 ((x+8589934592-y-b)%4294967296),by rw [qg,Nat.mod_mod]⟩
 have fin:(((~~~X &&& Y) ||| (~~~(X ^^^ Y) &&& Z)).toNat:Int)/2147483648=if x<y+b then 1 else 0:=by
  have e:(((~~~X &&& Y) ||| (~~~(X ^^^ Y) &&& Z)).toNat:Int)/2147483648=((((~~~X &&& Y) ||| (~~~(X ^^^ Y) &&& Z)).toNat/2147483648:Nat):Int):=rfl;rw [e,Cg];have mX:=Cg X;have mY:=Cg Y;have mZ:=Cg Z;rw [←eX]at mX;rw [←eY]at mY;rw [←eZ]at mZ;have mm:((~~~X &&& Y) ||| (~~~(X ^^^ Y) &&& Z)).msb=(((!X.msb)&&Y.msb)||((!(X.msb ^^ Y.msb))&&Z.msb)):=by simp [BitVec.msb_or,BitVec.msb_and,BitVec.msb_xor,BitVec.msb_not]
  rw [mm];clear mm e eX eY eZ;generalize X.msb=p at *;generalize Y.msb=q at *;generalize Z.msb=r at *;by_cases hlt:x<y+b
  ·rw [if_pos hlt];cases p <;> cases q <;> cases r <;> simp only [Bool.toNat_true,Bool.toNat_false]at mX mY mZ <;> first|rfl|(exfalso;omega)
  ·rw [if_neg hlt];cases p <;> cases q <;> cases r <;> simp only [Bool.toNat_true,Bool.toNat_false]at mX mY mZ <;> first|rfl|(exfalso;omega)
 rw [eZ];refine Pi Tryz.func181 fun C=>?_
 refine A2 ⟨?_⟩;intros;rw [show(((x:Int)-y)%4294967296-b)%4294967296=(Z.toNat:Int)from by rw [←eZ];omega];rw [eX,eY]at *;refine Wo (Dh X rfl) ?_;refine A2 ⟨?_⟩;intros;refine Wo (GX (~~~X) Y rfl rfl) ?_;refine A2 ⟨?_⟩;intros;refine Wo (Of X Y rfl rfl) ?_;refine Wo (Dh (X ^^^ Y) rfl) ?_;refine A2 ⟨?_⟩;intros;refine Wo (GX (~~~(X ^^^ Y)) Z rfl rfl) ?_;refine Wo (R6 (~~~X &&& Y) (~~~(X ^^^ Y) &&& Z) rfl rfl) ?_;refine A2 ⟨?_⟩;intros;rw [fin];exact G2
theorem NT (a b:Nat) (ha:(dgs a).length≤100000000) (hb:(dgs b).length≤100000000):Pu Tryz.prog 133 [nat a,nat b] (nat (a+b)):=by
 have hP:=cu a;have hQ:=cu b;have hva:=aK a;have hvb:=aK b;show Pu _ _ [dg (dgs a),dg (dgs b)] _
 generalize dgs a=p at *;generalize dgs b=q at *;obtain⟨n,hn⟩:∃n,n=max p.length q.length:=⟨_,rfl⟩
 refine Pi Tryz.func133 fun C=>?_
 refine A2 ⟨?_⟩;intros;refine Wo (F8 rfl rfl (r:=(n:Int)) (by split <;> omega)) ?_;refine A2 ⟨?_⟩;intros;refine vn (n+1) rfl rfl om om fun bb=>?_
 refine A2 ⟨?_⟩;intros
 refine WP.loop (ι:=Nat×Nat×List Nat) (fun s=>s.1≤n∧s.2.1≤1∧s.2.2.length=n+1∧D s.2.2∧val (s.2.2.take s.1)+4294967296^s.1*s.2.1=val (p.take s.1)+val (q.take s.1)) (fun s=>n-s.1)
  (fun s=>fm [(0,dg p),(1,dg q),(5,lit (.int .i64 n)),(6,lit (.slice (some ⟨bb,0,none⟩) (n+1) (n+1))),(7,lit (.int .u32 s.2.1)),(8,lit (.int .i64 s.1))])
  (fun s=>[(bb,192,bC s.2.2)]) (0,0,List.replicate (n+1) 0) ⟨an _,an _,by simp,D.rep _,by simp [val]⟩ lfA rfl ?_
 rintro ⟨k,c,os⟩ ⟨hk,hc,hol,hO,hval⟩ K hK;simp only at hk hc hol hO hval⊢;by_cases hkl:k<n
 ·have hp:=hP.get k;have hq:=hQ.get k;refine A2 ⟨?_⟩;intros;refine WP.via (fun F H=>LeF F (fm [(0,dg p),(1,dg q),(5,lit (.int .i64 n)),(6,lit (.slice (some ⟨bb,0,none⟩) (n+1) (n+1))),(7,lit (.int .u32 c)),(8,lit (.int .i64 k)),(9,lit (.int .u32 (p.getD k 0:Nat))),(10,lit (.int .u32 0))])∧H=[(bb,192,bC os)]) ?_ ?_
  ·refine WPd (fun h=>?_) (fun h=>?_)
   ·refine A2 ⟨?_⟩;intros;exact⟨lfA,rfl⟩
   ·have h0:p.getD k 0=0:=by simp [List.getD,df (show p.length≤k by omega)]
    refine A2 ⟨?_⟩;intros;exact⟨lfA,rfl⟩
  rintro F H ⟨hF,rfl⟩;refine WP.le hF ?_;refine A2 ⟨?_⟩;intros;refine WP.via (fun F H=>LeF F (fm [(0,dg p),(1,dg q),(5,lit (.int .i64 n)),(6,lit (.slice (some ⟨bb,0,none⟩) (n+1) (n+1))),(7,lit (.int .u32 c)),(8,lit (.int .i64 k)),(9,lit (.int .u32 (p.getD k 0:Nat))),(10,lit (.int .u32 (q.getD k 0:Nat)))])∧H=[(bb,192,bC os)]) ?_ ?_
  ·refine WPd (fun h=>?_) (fun h=>?_)
   ·refine A2 ⟨?_⟩;intros;exact⟨lfA,rfl⟩
   ·have h0:q.getD k 0=0:=by simp [List.getD,df (show q.length≤k by omega)]
    refine A2 ⟨?_⟩;intros;exact⟨lfA,rfl⟩
  rintro F H ⟨hF,rfl⟩;refine WP.le hF ?_;refine A2 ⟨?_⟩;intros;refine Wc (Nj (p.getD k 0) (q.getD k 0) c hp hq hc) ?_;refine A2 ⟨?_⟩;intros;refine jY ((p.getD k 0+q.getD k 0+c)%4294967296) rfl rfl rfl (br.here _) om ?_;refine A2 ⟨?_⟩;intros;refine hK _ _ (k+1,(p.getD k 0+q.getD k 0+c)/4294967296,os.set k ((p.getD k 0+q.getD k 0+c)%4294967296)) ⟨by simp only;omega,by simp only;omega,by simpa using hol,hO.set k om,?_⟩ (by simp only;omega) lfA rfl;simp only;rw [hZ os k _ om,bK,bK,bR];exact ET hval rfl
 ·have hke:k=n:=by omega
  subst hke;refine A2 ⟨?_⟩;intros;refine jY c rfl rfl om (br.here _) om ?_;refine A2 ⟨?_⟩;intros;refine lr (ds:=os.set k c) 54 rfl (aq.here _) (by simpa using hol) om om ?_;refine Wc (gD (os.set k c) (by simp;omega) (hO.set _ om)) ?_
  have hfull:val (os.set k c)=a+b:=by
   have h1:=hZ os k c om;rw [dz (by simp;omega)]at h1;rw [h1,hval,dz om,dz om,hva,hvb]
  rw [hfull];exact Z1
theorem JI {vo va vb p c s x y:Nat}(h:vo+p*c=va+vb) (hs:s=c+x+y):vo+p*(s%4294967296)+p*4294967296*(s/4294967296)=va+p*x+(vb+p*y):=by
 subst hs;have e:=fC (c+x+y) 4294967296;rw [aI,jN,←aM,gM ((c+x+y)%4294967296),e,aM,aM];omega
theorem Q8 (xs ys:List Nat) (hla:xs.length≤100000000) (hlb:ys.length≤100000000) (hA:D xs) (hB:D ys):Pu Tryz.prog 291 [dg xs,dg ys] (nat (val xs+val ys)):=by
 refine Pi Tryz.func291 fun C=>?_
 refine A2 ⟨?_⟩;intros;refine WP.via (fun F' H'=>∃p q:List Nat,q.length≤p.length∧p.length≤100000000∧D p∧D q∧val p+val q=val xs+val ys∧LeF F' (fm [(0,dg p),(1,dg q)])∧H'=[]) ?_ ?_
 ·refine WPd (fun hlt=>?_) (fun hlt=>?_)
  ·refine A2 ⟨?_⟩;intros;exact⟨ys,xs,om,hlb,hB,hA,om,LeF.cons Lr (LeF.cons Lr (LeF.nil _)),rfl⟩
  ·refine A2 ⟨?_⟩;intros;exact⟨xs,ys,om,hla,hA,hB,rfl,LeF.cons Lr (LeF.cons Lr (LeF.nil _)),rfl⟩
 ·rintro F' H' ⟨p,q,hqp,hpl,hP,hQ,hv,hF,rfl⟩;refine WP.le hF ?_;rw [←hv];clear hv hF hA hB hla hlb;refine A2 ⟨?_⟩;intros;refine vn (p.length+1) rfl rfl om om fun b=>?_
  refine A2 ⟨?_⟩;intros
  refine WP.loop (ι:=Nat×Nat×List Nat) (fun s=>s.1≤p.length∧s.2.1≤1∧s.2.2.length=p.length+1∧D s.2.2∧val (s.2.2.take s.1)+4294967296^s.1*s.2.1=val (p.take s.1)+val (q.take s.1)) (fun s=>p.length-s.1)
   (fun s=>fm [(0,dg p),(1,dg q),(5,lit (.slice (some ⟨b,0,none⟩) (p.length+1) (p.length+1))),(6,lit (.int .u64 s.2.1)),(20,dg p),(21,lit (.int .i64 p.length)),(22,lit (.int .i64 s.1))])
   (fun s=>[(b,192,bC s.2.2)]) (0,0,List.replicate (p.length+1) 0) ⟨an _,an _,by simp,D.rep _,by simp [val]⟩
   (by repeat(first|exact LeF.nil _|refine LeF.cons Lr ?_)) rfl ?_
  rintro ⟨k,c,os⟩ ⟨hk,hc,hol,hO,hval⟩ K hK;simp only at hk hc hol hO hval⊢;have hp:=hP.get k;have hq:=hQ.get k;by_cases hkl:k<p.length
  ·have fin:∀s,s=c+p.getD k 0+q.getD k 0→∀F' H',LeF F' (fm [(0,dg p),(1,dg q),(5,lit (.slice (some ⟨b,0,none⟩) (p.length+1) (p.length+1))),(6,lit (.int .u64 ((s/4294967296:Nat):Int))),(20,dg p),(21,lit (.int .i64 p.length)),(22,lit (.int .i64 ((k+1:Nat):Int)))])→
     H'=[(b,192,bC (os.set k (s%4294967296)))]→K F' H':=fun s hs F' H' hF hH=>by
    refine hK F' H' (k+1,s/4294967296,os.set k (s%4294967296)) ⟨by simp only;omega,by simp only;omega,by simpa using hol,hO.set k om,?_⟩ (by simp only;omega) hF hH;simp only;rw [hZ os k _ om,bK,bK,bR];exact JI hval hs
   by_cases hkq:k<q.length
   ·refine A2 ⟨?_⟩;intros;refine jY ((c+p.getD k 0+q.getD k 0)%4294967296) rfl rfl om (br.here _) om ?_;refine A2 ⟨?_⟩;intros;exact fin _ rfl _ _ lfA rfl
   ·have hq0:q.getD k 0=0:=by simp [List.getD,df (iK.1 hkq)]
    refine A2 ⟨?_⟩;intros;refine jY ((c+p.getD k 0+q.getD k 0)%4294967296) rfl rfl om (br.here _) om ?_;refine A2 ⟨?_⟩;intros;exact fin _ rfl _ _ lfA rfl
  ·have hke:k=p.length:=by omega
   subst hke;refine A2 ⟨?_⟩;intros;refine jY c rfl rfl om (br.here _) om ?_;refine A2 ⟨?_⟩;intros;refine lr (ds:=os.set p.length c) 56 rfl (aq.here _) (by simpa using hol) om om ?_;refine Wc (gj (os.set p.length c) (by simp;omega) (hO.set _ om)) ?_
   have hfull:val (os.set p.length c)=val p+val q:=by
    have h1:=hZ os p.length c om;rw [dz (by simp;omega)]at h1;rw [h1,hval,aP,dz hqp]
   rw [hfull];exact Z1
end Go.Ab
