/- Texts laid one behind the other: Util, Loop, Err, NatA, NatB, NatC, RefA, RefB, NatD. -/
import Derived.Test.YtgiifnbebppbgaaGreatDoorEng
import Derived.Test.YtgiifnbebppbgaaGreatDoorTy
import Derived.Laws.Externs
set_option linter.unusedSectionVars false
set_option linter.unusedVariables false
set_option linter.unusedSimpArgs false
namespace Go.Ab
open Go.Proofs
variable [Base]
def Hid (p:Prop):Prop:=p
theorem Hid.out {p:Prop}(h:Hid p):p:=h
theorem Le.tup {a b:List SV}(h:LeL a b):Le (Ab.tup a) (Ab.tup b):=fun m v hv=>by
 unfold Ab.tup at *
 obtain⟨arr,e,k⟩:=hv
 exact⟨arr,e,k.le h⟩
theorem Le.tup2 {a b a' b':SV}(h1:Le a a') (h2:Le b b'):Le (Ab.tup [a,b]) (Ab.tup [a',b']):=Le.tup ⟨h1,h2,trivial⟩
theorem Le.tup3 {a b c a' b' c':SV}(h1:Le a a') (h2:Le b b') (h3:Le c c'):Le (Ab.tup [a,b,c]) (Ab.tup [a',b',c']):=Le.tup ⟨h1,h2,h3,trivial⟩
theorem Le.ag {a b:List SV}(h:LeL a b):Le (Ab.ag a) (Ab.ag b):=fun m v hv=>by
 unfold Ab.ag at *
 obtain⟨arr,e,k⟩:=hv
 exact⟨arr,e,k.le h⟩
section
variable {P:Program}{C:Ctx}{n:Nat}{F:Fr}{H:LH}{ops:Array Oper}{K:Fr→LH→Prop}{Q:Exit→Fr→LH→Prop}
theorem WPL.low {l:List Oper}{s s':SV}(d:Nat) (hf:F d=s) (h:Le s s') (k:WPL P C n ops l K (upd F d s') H):WPL P C n ops l K F H:=WPL.le (LeF.upd (hf▸h) (LeF.refl F)) k
theorem WP.low {c:Code}{s s':SV}(d:Nat) (hf:F d=s) (h:Le s s') (k:WP P C n c Q (upd F d s') H):WP P C n c Q F H:=WP.le (LeF.upd (hf▸h) (LeF.refl F)) k
theorem madd_new {m:Mem}{w:World}(hm:MemIn m w){o:Obj}:MemIn (madd m w.heap.size o) (w.alloc o)∧Rel [] m w (madd m w.heap.size o) (w.alloc o):=by
 have hold:∀b,b<w.heap.size→(w.alloc o).heap[b]? = w.heap[b]?:=fun b hb=>heap_alloc_old w o b hb
 have hlt:∀b o,m b=some o→b<w.heap.size:=fun b o hb=>(Array.getElem?_eq_some_iff.1 (hm b o hb)).1
 have hle:m.le (madd m w.heap.size o):=fun b x hx=>by unfold madd;rw [if_neg (by have:=hlt b x hx;omega)];exact hx
 refine⟨⟨fun b x hx=>?_,Mem.le_trans hm.base hle⟩,⟨hle,fun b hb _=>?_,rfl,rfl,rfl,?_,fun b hb _=>hold b hb⟩⟩
 ·unfold madd at hx
  split at hx
  ·rename_i e;subst e;cases hx;exact heap_alloc_new w o
  ·rw [hold b (hlt b x hx)];exact hm b x hx
 ·unfold madd;rw [if_neg (by omega)]
 ·have:(w.alloc o).heap.size=w.heap.size+1:=World.size_alloc ..
  rw [this];exact Nat.le_succ _
theorem ov_boxP {T ty:TypeId}{x:Operand}{sv:SV}{cs:List SV}(hx:ev F x=sv) [hco:CO sv cs]:OpV P (.box T x) ty F H (pt cs):=by
 refine OpV.of0 ?_
 intro m w o a ho hty h1 h2 h3 K Q hK
 have e0:=evA h3 (x:=x) (by simp [Op.operands]);rw [hx]at e0
 have hc:=hco.h m _ e0
 unfold Oper.wp
 have hrun:(execOp a.eval o).run P w = .ok (.value (.pointer (some ⟨w.heap.size,0,none⟩))) (w.alloc (.cells (a.eval x).cells T)):=by
  simp [execOp,ho,Instr.box,newVar,newRow]
 rw [hrun]
 obtain⟨q1,q2⟩:=madd_new h1 (o := .cells (a.eval x).cells T)
 exact hK _ _ _ (pub_pt _ _ (by unfold madd;rw [if_pos rfl]) (hc.mono q2.le)) q1 q2
theorem Wcg {d:Nat}{ty:TypeId}{pos:String}{aft:Array Edge}{rest:List Oper}{f:FuncId}{l:List Operand}{tys:Array TypeId}{svs:List SV}{res:SV}{j:Nat}{t:Bool}{oj:Oper}{dj:Nat}(hc:Pu P f svs res) (k:WPL P C n ops rest K (upd F d res) H)
  (ha:l.map (ev F)=svs:=by exact rfl) (hj:ops[j]? = some oj:=by exact rfl) (hdj:oj.dst=some dj:=by exact rfl) (hf:F dj=lit (.bool t):=by exact rfl)
  (hdn:Nat.blt dj n=true:=by exact rfl) (hd:Nat.blt d n=true:=by exact rfl):WPL P C n ops (⟨some d, .call ⟨.value (.func f),l.toArray,tys⟩,ty,pos,aft,some (j,t)⟩::rest) K F H :=
 Wog (ov_call hc ha) k hj hdj hf hdn hd
theorem WpubP {l:List Oper}{b:Nat}{T:TypeId}{cs:List SV}{H':LH}(d:Nat) (hv:F d=lit (.pointer (some ⟨b,0,none⟩))) (hdel:HDel b T cs H H')
  (h:WPL P C n ops l K (upd F d (pt cs)) H'):WPL P C n ops l K F H:=WPL.pub hdel hv (fun m arr hm ha=>pub_pt m arr hm ha) h
theorem Pu.le {f:FuncId}{l:List SV}{r r':SV}(h:Pu P f l r) (k:Le r r'):Pu P f l r':=by
 unfold Pu at *
 exact⟨h.1,fun m w vs hm ha=>(h.2 m w vs hm ha).mono fun e w' ⟨v,m',e1,e2,e3,e4⟩=>⟨v,m',e1,k m' v e2,e3,e4⟩⟩
theorem Pu.arg {f:FuncId}{l l':List SV}{r:SV}(h:Pu P f l r) (k:LeL l' l):Pu P f l' r:=by
 unfold Pu at *
 exact⟨h.1,fun m w vs hm ha=>h.2 m w vs hm (ha.le k)⟩
end
section
variable {P:Program}{C:Ctx}{n:Nat}{F:Fr}{H:LH}{ops:Array Oper}{K:Fr→LH→Prop}{Q:Exit→Fr→LH→Prop}
theorem St.sub {H':LH}{a:Act}{w:World}(hs:St C n F H a w) (h:H'.Sublist H):St C n F H' a w:=by
 obtain⟨hdef,hn,m,h1,h2,h3,h4,h5⟩:=hs
 exact⟨hdef,hn,m,h1,⟨(h.map _).nodup h2.1,fun e he=>h2.2 e (h.subset he)⟩,h3,fun e he=>h4 e (h.subset he),h5⟩
theorem WP.sub {c:Code}{H':LH}(h:H'.Sublist H) (k:WP P C n c Q F H'):WP P C n c Q F H:=by
 unfold WP at *;exact fun a w hs=>k a w (hs.sub h)
theorem WP.loopS {ι:Type}{c:Code}(J:ι→Prop) (μ:ι→Nat) (G:ι→Fr) (L:ι→LH) (x0:ι) (h0:J x0) (hF:LeF F (G x0)) (hH:(L x0).Sublist H)
  (round:∀x,J x→∀K:Fr→LH→Prop,(∀F' H' x',J x'→μ x'<μ x→LeF F' (G x')→(L x').Sublist H'→K F' H')→WP P C n c (thenQ K Q) (G x) (L x)) :
  WP P C n (.loop c) Q F H:=by
 refine WP.sub hH (WP.le hF ?_)
 unfold WP
 intro a w hs
 refine wp_loop_ghost (fun k a w=>∃x,μ x=k∧J x∧St C n (G x) (L x) a w) (μ x0) ⟨x0,rfl,h0,hs⟩ ?_
 rintro k a w ⟨x,rfl,hJ,hs⟩
 have hr:=round x hJ (fun F' H'=>∃x',J x'∧μ x'<μ x∧LeF F' (G x')∧(L x').Sublist H') (fun F' H' x' a b c d=>⟨x',a,b,c,d⟩)
 unfold WP at hr
 refine wp_mono (hr a w hs) ?_
 rintro e a' w' (⟨F',H',hs',hq⟩|⟨ch,rfl,hp⟩)
 ·unfold thenQ at hq
  cases e with
  |normal =>
   obtain⟨x',hJ',hμ,hF',hH'⟩:=hq
   exact⟨μ x',hμ,x',rfl,hJ',(hs'.le hF').sub hH'⟩
  |_=>exact .inl ⟨F',H',hs',hq⟩
 ·exact .inr ⟨ch,rfl,hp⟩
theorem WgE {d:Option Nat}{op:Op}{ty:TypeId}{pos:String}{aft:Array Edge}{rest:List Oper}{K:Fr→LH→Prop}{j:Nat}{t:Bool}{oj:Oper}{dj:Nat}(k:WPL P C n ops (⟨d,op,ty,pos,aft,none⟩::rest) K F H)
  (hj:ops[j]? = some oj:=by exact rfl) (hdj:oj.dst=some dj:=by exact rfl) (hf:F dj=lit (.bool t):=by exact rfl) (hdn:Nat.blt dj n=true:=by exact rfl):WPL P C n ops (⟨d,op,ty,pos,aft,some (j,t)⟩::rest) K F H:=by
 unfold WPL at *
 intro a w hs Q hq
 have hy:=yielded_of hs hj hdj hf hdn
 have h:=k a w hs Q hq
 unfold wpList at h⊢
 have h1:Region.wanted (⟨d,op,ty,pos,aft,none⟩:Oper) (yielded ops a.tmps)=true:=rfl
 have h2:Region.wanted (⟨d,op,ty,pos,aft,some (j,t)⟩:Oper) (yielded ops a.tmps)=true:=by simp [Region.wanted,hy]
 rw [if_pos h1]at h
 rw [if_pos h2]
 exact h
end
theorem flat_at {α β:Type}{f:α→List β}{n:Nat}(hf:∀a,(f a).length=n):∀{l:List α}{k:Nat}{a:α},l[k]? = some a→(((l.map f).flatten).drop (k*n)).take n=f a
 | [],_,_,h=>by simp at h
 |x::l,0,a,h=>by
  simp at h;subst h
  simp [hf x]
 |x::l,k+1,a,h=>by
  have:=flat_at hf (l:=l) (k:=k) (a:=a) (by simpa using h)
  rw [List.map_cons,List.flatten_cons,show(k+1)*n=(f x).length+k*n from by rw [hf,Nat.add_mul,Nat.one_mul,Nat.add_comm],List.drop_append,List.drop_eq_nil_of_le (Nat.le_add_right _ _),List.nil_append,Nat.add_sub_cancel_left]
  exact this
theorem flat_ne {α β:Type}{f:α→List β}{n:Nat}(hf:∀a,(f a).length=n) (hn:0<n){l:List α}(h:l≠[]):(l.map f).flatten≠[]:=by
 cases l with
 |nil=>exact absurd rfl h
 |cons x l =>
  intro e
  have:=congrArg List.length e
  simp [hf x]at this;omega
def addrIn:Option Value→Addr
 |some (.iface _ (.pointer (some a)))=>a
 |_=>⟨0,0,none⟩
def gaddr (g:Nat):Addr:=match Base.mem g with
 |some (.cells arr _ _)=>addrIn arr[0]?
 |_=>⟨0,0,none⟩
abbrev sent (g:Nat):Value := .iface 404 (.pointer (some (gaddr g)))
class Sent (g:Nat):Prop where
 h:∃(a:Addr) (T:TypeId) (fz:Nat×Nat),Base.mem g=some (.cells #[.iface 404 (.pointer (some a))] T fz)
instance (g:Nat) [s:Sent g]:GV g (sent g):=⟨by
 obtain⟨a,T,fz,h⟩:=s.h
 refine⟨T,fz,?_⟩
 unfold sent gaddr
 rw [h];rfl⟩
section
variable {F:Fr}{H:LH}{ty:TypeId}
end
abbrev nat (n:Nat):SV:=dg (dgs n)
set_option maxHeartbeats 1000000000 in
theorem trim_pu (ds:List Nat) (hl:ds.length≤1000000000):Pu Tryz.prog 266 [dg ds] (dg (trimL ds)):=by
 refine Pu.intro Tryz.func266 rfl (by kernel_rfl) fun C=>?_
 repeat(refine A1 ⟨?_⟩;intros)
 refine WP.loop (ι:=Nat) (fun k=>k≤ds.length∧trimL (ds.take k)=trimL ds) (fun k=>k) (fun k=>fm [(0,dg (ds.take k))]) (fun _=>[]) ds.length ⟨Nat.le_refl _,by rw [List.take_length]⟩ (LeF.cons (by rw [List.take_length];exact Le.refl _) (LeF.nil _)) rfl ?_
 rintro k ⟨hk,ht⟩ K hK
 have hlen:(ds.take k).length=k:=by rw [List.length_take];omega
 rcases k with _|j
 ·repeat(refine A1 ⟨?_⟩;intros)
  exact endR (end1 (RV.tmp (s:=dg (List.take 0 ds)) rfl) (Le.of_eq (by rw [←ht];rfl)))
 ·have hg:(List.take (j+1) ds).getD j 0=ds.getD j 0:=by simp [List.getD]
  iterate 2 refine WP.seq' ?_
  refine WP.reg ?_
  iterate 7 (refine O1 ⟨?_⟩;intros)
  refine Wog (ov_sub (r:=(j:Int)) rfl rfl (wi64e (by omega) (by omega) (by omega))) ?_
  refine Wog (ov_idxD (i:=j) rfl rfl (by omega)) ?_
  rw [hg]
  by_cases hd:ds.getD j 0=0
  ·repeat(refine A1 ⟨?_⟩;intros)
   refine Wo (ov_toD j rfl rfl (by omega) (by omega)) ?_
   rw [List.take_take,Nat.min_eq_left (by omega)]
   repeat(refine A1 ⟨?_⟩;intros)
   refine hK _ _ j ⟨by omega,?_⟩ (by omega) (LeF.cons (Le.refl _) (LeF.nil _)) rfl
   rw [take_succ_getD ds j (by omega),hd,trimL_snoc_zero]at ht
   exact ht
  ·rw [take_succ_getD ds j (by omega),trimL_snoc_ne _ _ hd,←take_succ_getD ds j (by omega)]at ht
   repeat(refine A1 ⟨?_⟩;intros)
   exact endR (end1 (RV.tmp (s:=dg (List.take (j+1) ds)) rfl) (Le.of_eq (by rw [ht])))
theorem trim_nat (ds:List Nat) (hl:ds.length≤1000000000) (hD:D ds):Pu Tryz.prog 266 [dg ds] (nat (val ds)):=by
 have:=trim_pu ds hl;rwa [trimL_eq hD]at this
theorem le_nil:Le (lit (.slice none 0 0)) (dg []):=fun m v h=>by
 rw [lit_p]at h;subst h;rw [dg_sl]
 exact sl_mk (by simp) (by simp [maxLen]) (.inl rfl)
theorem clone_pu (ds:List Nat) (hl:ds.length≤1000000000):Pu Tryz.prog 268 [dg ds] (dg ds):=by
 refine Pu.intro Tryz.func268 rfl (by kernel_rfl) fun C=>?_
 repeat(refine A1 ⟨?_⟩;intros)
 refine WP.exd (d:=4) rfl fun b=>?_
 cases hb:b&&decide (ds=[])with
 |true =>
  have:ds=[]:=by simp at hb;exact hb.2
  subst this
  repeat(refine A1 ⟨?_⟩;intros)
  exact endR (end1 (RV.tmp rfl) le_nil)
 |false =>
  repeat(refine A1 ⟨?_⟩;intros)
  exact E1
theorem norm_nat (ds:List Nat) (hl:ds.length≤1000000000) (hD:D ds):Pu Tryz.prog 224 [dg ds] (nat (val ds)):=by
 have hl':(dgs (val ds)).length≤1000000000:=by
  have:=len_le (val_lt hD);omega
 refine Pu.intro Tryz.func224 rfl (by kernel_rfl) fun C=>?_
 repeat(refine A1 ⟨?_⟩;intros)
 refine Wc (trim_nat ds hl hD) ?_
 refine Wc (clone_pu _ hl') ?_
 repeat(refine A1 ⟨?_⟩;intros)
 exact E1
theorem fromUint_nat (u:Nat) (hu:u<18446744073709551616):Pu Tryz.prog 225 [lit (.int .u64 u)] (nat u):=by
 have hD:D [u%4294967296,u/4294967296]:=D.cons (by omega) (D.cons (by omega) D.nil)
 have hv:val [u%4294967296,u/4294967296]=u:=by simp [val];omega
 refine Pu.intro Tryz.func225 rfl (by kernel_rfl) fun C=>?_
 repeat(refine A1 ⟨?_⟩;intros)
 refine WpubD (ds:=[u%4294967296,u/4294967296]) 8 rfl (HDel.here _) rfl (by omega) (by omega) ?_
 refine Wc (trim_nat _ (by simp) hD) ?_
 rw [hv]
 repeat(refine A1 ⟨?_⟩;intros)
 exact E1
theorem or0 {a:Int}(x:Nat) (ha:a=(x:Int)) (hx:x<18446744073709551616):IntKind.u64.wrap ((BitVec.ofInt (IntKind.bits .u64) 0 ||| BitVec.ofInt (IntKind.bits .u64) a).toNat:Int)=(x:Int):=by
 subst ha
 rw [BitVec.toNat_or]
 simp only [IntKind.bits]
 rw [ofInt_nat 64 _ (by omega),show(0:Int)=((0:Nat):Int)from rfl,ofInt_nat 64 0 (by omega),Nat.zero_or]
 exact wrapn .u64 rfl _ (by simp only [IntKind.bits];omega)
theorem uint_or (k c d:Nat) (hk:k<2) (hc:c<4294967296^k) (hd:d<4294967296) :
  IntKind.u64.wrap ((BitVec.ofInt (IntKind.bits .u64) (c:Int) ||| BitVec.ofInt (IntKind.bits .u64) (IntKind.u64.wrap ((d:Int)*2^(min (32*(k:Int)).toNat (IntKind.bits .u64))))).toNat:Int)=((c+4294967296^k*d:Nat):Int):=by
 match k,hk with
 |0,_ =>
  have:c=0:=by simpa using hc
  subst this
  refine(or0 d ?_ (by omega)).trans (by simp)
  show IntKind.u64.wrap ((d:Int)*1)=d
  rw [Int.mul_one];exact wu64 (by omega) (by omega)
 |1,_ =>
  have hc':c<4294967296:=by simpa using hc
  refine(or64' d c rfl ?_ hd hc').trans (by simp;omega)
  exact shl32 (by omega) (by omega)
theorem uint_nat (ds:List Nat) (hl:ds.length≤1000000000) (hD:D ds):Pu Tryz.prog 222 [dg ds]
  (if val ds<18446744073709551616 then tup [lit (.int .u64 (val ds)),lit (.bool true)]else tup [lit (.int .u64 0),lit (.bool false)]):=by
 refine Pu.intro Tryz.func222 rfl (by kernel_rfl) fun C=>?_
 repeat(refine A1 ⟨?_⟩;intros)
 refine Wc (trim_nat ds hl hD) ?_
 have hll:(dgs (val ds)).length≤1000000000:=by
  have:=len_le (val_lt hD);omega
 by_cases hlen:(dgs (val ds)).length≤2
 ·have hlt:val ds<18446744073709551616:=by have:=len_lt hlen;simpa using this
  rw [if_pos hlt]
  repeat(refine A1 ⟨?_⟩;intros)
  generalize hgen:dgs (val ds)=es at *
  have hDe:D es:=hgen▸D_dgs _
  have hve:val es=val ds:=by rw [←hgen,val_dgs]
  refine WP.loop (ι:=Nat) (fun k=>k≤es.length) (fun k=>es.length-k) (fun k=>fm [(4,lit (.int .u64 (val (es.take k):Nat))),(12,dg es),(13,lit (.int .i64 es.length)),(14,lit (.int .i64 k))]) (fun _=>[]) 0 (Nat.zero_le _)
   (LeF.cons (Le.refl _) (LeF.cons (Le.refl _) (LeF.cons (Le.refl _) (LeF.cons (Le.refl _) (LeF.nil _))))) rfl ?_
  intro k hk K hK
  have hg:=hDe.get k
  by_cases hlt2:k<es.length
  ·repeat(refine A1 ⟨?_⟩;intros)
   have hvt:=val_lt (hDe.take k)
   rw [List.length_take,Nat.min_eq_left hk]at hvt
   refine Wo (ov_or rfl rfl (uint_or k _ _ (by omega) hvt hg)) ?_
   rw [←val_take_succ es k hlt2]
   repeat(refine A1 ⟨?_⟩;intros)
   exact hK _ _ (k+1) (by omega) (by omega) (LeF.cons (Le.refl _) (LeF.cons (Le.refl _) (LeF.cons (Le.refl _) (LeF.cons (Le.refl _) (LeF.nil _))))) rfl
  ·have hke:k=es.length:=by omega
   subst hke
   rw [List.take_length,hve]
   repeat(refine A1 ⟨?_⟩;intros)
   ((first|refine endR ?_|refine endN ?_);exact end2 (RV.tmp rfl) (RV.tmp rfl) (Le.refl _))
 ·have hge:¬val ds<18446744073709551616:=by
   have:=pow_le_of_len (n:=val ds) (k:=2) (by omega);simp at this;omega
  rw [if_neg hge]
  repeat(refine A1 ⟨?_⟩;intros)
  ((first|refine endR ?_|refine endN ?_);exact end2 (RV.tmp rfl) (RV.tmp rfl) (Le.refl _))
set_option maxHeartbeats 2000000 in
theorem len32_pu (x:Nat) (hx:x<4294967296):Pu Tryz.prog 289 [lit (.int .u32 x)] (lit (.int .i64 (blen x))):=by
 have fin:∀y,y<256→blen y≤8:=fun y hy=>blen_le.2 hy
 refine Pu.intro Tryz.func289 rfl (by kernel_rfl) fun C=>?_
 by_cases h16:65536≤x
 ·have e16:=blen_shift x 16 h16
  by_cases h8:256≤x/65536
  ·have e8:=blen_shift (x/65536) 8 h8
   have f:=fin (x/65536/256) (by omega)
   repeat(refine A1 ⟨?_⟩;intros)
   refine Wo (ov_tab 256 (x/65536/256) blen rfl rfl (by omega) (by omega) (by decide +kernel)) ?_
   repeat(refine A1 ⟨?_⟩;intros)
   ((first|refine endR ?_|refine endN ?_);refine end1 (RV.tmp rfl) (Le.int ?_))
   simp only [Nat.reducePow]at e16 e8;omega
  ·have f:=fin (x/65536) (by omega)
   repeat(refine A1 ⟨?_⟩;intros)
   refine Wo (ov_tab 256 (x/65536) blen rfl rfl (by omega) (by omega) (by decide +kernel)) ?_
   repeat(refine A1 ⟨?_⟩;intros)
   ((first|refine endR ?_|refine endN ?_);refine end1 (RV.tmp rfl) (Le.int ?_))
   simp only [Nat.reducePow]at e16;omega
 ·by_cases h8:256≤x
  ·have e8:=blen_shift x 8 h8
   have f:=fin (x/256) (by omega)
   repeat(refine A1 ⟨?_⟩;intros)
   refine Wo (ov_tab 256 (x/256) blen rfl rfl (by omega) (by omega) (by decide +kernel)) ?_
   repeat(refine A1 ⟨?_⟩;intros)
   ((first|refine endR ?_|refine endN ?_);refine end1 (RV.tmp rfl) (Le.int ?_))
   simp only [Nat.reducePow]at e8;omega
  ·have f:=fin x (by omega)
   repeat(refine A1 ⟨?_⟩;intros)
   refine Wo (ov_tab 256 x blen rfl rfl (by omega) (by omega) (by decide +kernel)) ?_
   repeat(refine A1 ⟨?_⟩;intros)
   ((first|refine endR ?_|refine endN ?_);refine end1 (RV.tmp rfl) (Le.int ?_))
   omega
theorem lz32_pu (x:Nat) (hx:x<4294967296):Pu Tryz.prog 263 [lit (.int .u32 x)] (lit (.int .i64 (32-blen x))):=by
 have f:blen x≤32:=blen_le.2 hx
 refine Pu.intro Tryz.func263 rfl (by kernel_rfl) fun C=>?_
 repeat(refine A1 ⟨?_⟩;intros)
 refine Wc (len32_pu x hx) ?_
 repeat(refine A1 ⟨?_⟩;intros)
 exact E1
theorem dgs_top {n:Nat}(h:n≠0):∃k,(dgs n).length=k+1∧(dgs n).getD k 0≠0∧(dgs n).getD k 0<4294967296∧val ((dgs n).take k)<4294967296^k∧n=val ((dgs n).take k)+4294967296^k*(dgs n).getD k 0:=by
 have hne:dgs n≠[]:=fun e=>h (dgs_nil e)
 obtain⟨k,hk⟩:∃k,(dgs n).length=k+1:=⟨(dgs n).length-1,by have:=List.length_pos_iff.2 hne;omega⟩
 refine⟨k,hk,?_,(D_dgs n).get k,?_,?_⟩
 ·have hc:=(dgs_can n).2
  rw [List.getLast?_eq_getElem?,hk]at hc
  intro h0
  apply hc
  have:k<(dgs n).length:=by omega
  simp [List.getD,this]at h0⊢
  exact h0
 ·have:=val_lt ((D_dgs n).take k)
  rwa [List.length_take,Nat.min_eq_left (by omega)]at this
 ·have:=val_take_succ (dgs n) k (by omega)
  rw [←hk,List.take_length,val_dgs]at this
  exact this
set_option maxHeartbeats 1000000000 in
theorem bits_nat (ds:List Nat) (hl:ds.length≤1000000000) (hD:D ds):Pu Tryz.prog 217 [dg ds] (lit (.int .i64 (blen (val ds)))):=by
 have hll:(dgs (val ds)).length≤1000000000:=by have:=len_le (val_lt hD);omega
 refine Pu.intro Tryz.func217 rfl (by kernel_rfl) fun C=>?_
 repeat(refine A1 ⟨?_⟩;intros)
 refine Wc (trim_nat ds hl hD) ?_
 by_cases h0:val ds=0
 ·have hn:(dgs (val ds)).length=0:=by rw [h0,dgs_zero];rfl
  repeat(refine A1 ⟨?_⟩;intros)
  ((first|refine endR ?_|refine endN ?_);refine end1 (RV.tmp rfl) (Le.int ?_))
  rw [h0];simp [blen]
 ·obtain⟨k,hk,ht,hd,hv,he⟩:=dgs_top h0
  have hb:=blen_top _ _ k hv ht
  rw [←he]at hb
  have f:blen ((dgs (val ds)).getD k 0)≤32:=blen_le.2 hd
  repeat(refine A1 ⟨?_⟩;intros)
  rw [show(dgs (val ds)).length-1=k from by omega]
  refine Wc (lz32_pu _ hd) ?_
  repeat(refine A1 ⟨?_⟩;intros)
  ((first|refine endR ?_|refine endN ?_);refine end1 (RV.tmp rfl) (Le.int ?_))
  omega
def cmpN (a b:Nat):Int:=if a<b then -1 else if a=b then 0 else 1
theorem cmpN_lt {a b:Nat}(h:a<b):cmpN a b = -1:=by unfold cmpN;rw [if_pos h]
theorem cmpN_gt {a b:Nat}(h:b<a):cmpN a b=1:=by unfold cmpN;rw [if_neg (by omega),if_neg (by omega)]
theorem cmpN_eq (a:Nat):cmpN a a=0:=by unfold cmpN;rw [if_neg (by omega),if_pos rfl]
theorem cmpN_bd (a b:Nat) : -1≤cmpN a b∧cmpN a b≤1∧(cmpN a b<0↔a<b):=by
 unfold cmpN
 split
 ·simp;omega
 ·split <;> simp <;> omega
theorem val_at (ds:List Nat) (i:Nat) (h:i<ds.length):val ds=val (ds.take i)+4294967296^i*(ds.getD i 0+4294967296*val (ds.drop (i+1))):=by
 rw [val_split ds i (by omega),drop_getD ds i h,val_cons]
theorem val_lt_at {xs ys:List Nat}(i:Nat) (ha:D xs) (hi:i<xs.length) (hj:i<ys.length) (hd:xs.drop (i+1)=ys.drop (i+1)) (hlt:xs.getD i 0<ys.getD i 0):val xs<val ys:=by
 rw [val_at xs i hi,val_at ys i hj,hd]
 have h1:=val_lt (ha.take i)
 rw [List.length_take,Nat.min_eq_left (by omega)]at h1
 generalize 4294967296^i=p at *
 have h2:p*(xs.getD i 0+1+4294967296*val (ys.drop (i+1)))≤p*(ys.getD i 0+4294967296*val (ys.drop (i+1))):=Nat.mul_le_mul_left _ (by omega)
 rw [show xs.getD i 0+1+4294967296*val (ys.drop (i+1))=(xs.getD i 0+4294967296*val (ys.drop (i+1)))+1 from by omega,Nat.mul_add,Nat.mul_one]at h2
 omega
set_option maxHeartbeats 1000000000 in
theorem cmp_nat (xs ys:List Nat) (hla:xs.length≤1000000000) (hlb:ys.length≤1000000000) (hA:D xs) (hB:D ys):Pu Tryz.prog 267 [dg xs,dg ys] (lit (.int .i64 (cmpN (val xs) (val ys)))):=by
 have h1:(dgs (val xs)).length≤1000000000:=by have:=len_le (val_lt hA);omega
 have h2:(dgs (val ys)).length≤1000000000:=by have:=len_le (val_lt hB);omega
 have hxa:=val_dgs (val xs)
 have hxb:=val_dgs (val ys)
 have hDa:=D_dgs (val xs)
 have hDb:=D_dgs (val ys)
 refine Pu.intro Tryz.func267 rfl (by kernel_rfl) fun C=>?_
 repeat(refine A1 ⟨?_⟩;intros)
 refine Wc (trim_nat xs hla hA) ?_
 repeat(refine A1 ⟨?_⟩;intros)
 refine Wc (trim_nat ys hlb hB) ?_
 generalize hav:val xs=a at *
 generalize hbv:val ys=b at *
 clear hav hbv hA hB hla hlb
 by_cases hlen:(dgs a).length=(dgs b).length
 ·repeat(refine A1 ⟨?_⟩;intros)
  refine WP.loop (ι:=Nat) (fun k=>k≤(dgs a).length∧(dgs a).drop k=(dgs b).drop k) (fun k=>k) (fun k=>fm [(0,dg (dgs a)),(1,dg (dgs b)),(5,lit (.int .i64 ((k:Int)-1)))]) (fun _=>[]) (dgs a).length
   ⟨Nat.le_refl _,by rw [List.drop_length,hlen,List.drop_length]⟩ (LeF.cons (Le.refl _) (LeF.cons (Le.refl _) (LeF.cons (Le.refl _) (LeF.nil _)))) rfl ?_
  rintro k ⟨hk,hd⟩ K hK
  rcases k with _|j
  ·repeat(refine A1 ⟨?_⟩;intros)
   ((first|refine endR ?_|refine endN ?_);refine end1 (RV.tmp rfl) (Le.int ?_))
   simp only [List.drop_zero]at hd
   rw [dgs_inj hd,cmpN_eq]
  ·rw [show(((j+1:Nat):Int)-1)=(j:Int)from by omega]
   rcases Nat.lt_trichotomy ((dgs a).getD j 0) ((dgs b).getD j 0)with hlt|heq|hgt
   ·have hlt':=val_lt_at j hDa (by omega) (by omega) hd hlt
    rw [hxa,hxb]at hlt'
    repeat(refine A1 ⟨?_⟩;intros)
    ((first|refine endR ?_|refine endN ?_);refine end1 (RV.tmp rfl) (Le.int ?_))
    rw [cmpN_lt hlt']
   ·repeat(refine A1 ⟨?_⟩;intros)
    refine hK _ _ j ⟨by omega,?_⟩ (by omega) (LeF.cons (Le.refl _) (LeF.cons (Le.refl _) (LeF.cons (Le.refl _) (LeF.nil _)))) rfl
    rw [drop_getD _ j (by omega),drop_getD (dgs b) j (by omega),hd,heq]
   ·have hlt':=val_lt_at j hDb (by omega) (by omega) hd.symm hgt
    rw [hxa,hxb]at hlt'
    repeat(refine A1 ⟨?_⟩;intros)
    ((first|refine endR ?_|refine endN ?_);refine end1 (RV.tmp rfl) (Le.int ?_))
    rw [cmpN_gt hlt']
 ·rcases Nat.lt_or_gt_of_ne hlen with hlt|hgt
  ·have hab:a<b:=by
    rcases Nat.lt_or_ge a b with h|h
    ·exact h
    ·have:=len_mono h;omega
   repeat(refine A1 ⟨?_⟩;intros)
   ((first|refine endR ?_|refine endN ?_);refine end1 (RV.tmp rfl) (Le.int ?_))
   rw [cmpN_lt hab]
  ·have hab:b<a:=by
    rcases Nat.lt_or_ge b a with h|h
    ·exact h
    ·have:=len_mono h;omega
   repeat(refine A1 ⟨?_⟩;intros)
   ((first|refine endR ?_|refine endN ?_);refine end1 (RV.tmp rfl) (Le.int ?_))
   rw [cmpN_gt hab]
theorem rtrim_pu (ds:List Nat) (hl:ds.length≤1000000000):Pu Tryz.prog 163 [dg ds] (dg (trimL ds)):=by
 refine Pu.intro Tryz.func163 rfl (by kernel_rfl) fun C=>?_
 repeat(refine A1 ⟨?_⟩;intros)
 refine WP.loop (ι:=Nat) (fun k=>k≤ds.length∧trimL (ds.take k)=trimL ds) (fun k=>k) (fun k=>fm [(0,dg ds),(3,lit (.int .i64 k))]) (fun _=>[]) ds.length ⟨Nat.le_refl _,by rw [List.take_length]⟩ lfA rfl ?_
 rintro k ⟨hk,ht⟩ K hK
 rcases k with _|j
 ·repeat(refine A1 ⟨?_⟩;intros)
  refine Wo (ov_toD 0 rfl rfl (by omega) (by omega)) ?_
  repeat(refine A1 ⟨?_⟩;intros)
  exact endR (end1 (RV.tmp rfl) (Le.of_eq (by rw [←ht];rfl)))
 ·repeat(refine AS ⟨?_⟩;intros)
  iterate 5 (refine O1 ⟨?_⟩;intros)
  refine Wog (ov_sub (r:=(j:Int)) rfl rfl (wi64e (by omega) (by omega) (by omega))) ?_
  refine Wog (ov_idxD (i:=j) rfl rfl (by omega)) ?_
  by_cases hd:ds.getD j 0=0
  ·repeat(refine A1 ⟨?_⟩;intros)
   refine hK _ _ j ⟨by omega,?_⟩ (by omega) lfA rfl
   rw [take_succ_getD ds j (by omega),hd,trimL_snoc_zero]at ht
   exact ht
  ·rw [take_succ_getD ds j (by omega),trimL_snoc_ne _ _ hd,←take_succ_getD ds j (by omega)]at ht
   repeat(refine A1 ⟨?_⟩;intros)
   refine Wo (ov_toD (j+1) rfl rfl (by omega) (by omega)) ?_
   repeat(refine A1 ⟨?_⟩;intros)
   exact endR (end1 (RV.tmp (s:=dg (List.take (j+1) ds)) rfl) (Le.of_eq (by rw [ht])))
theorem rtrim_nat (ds:List Nat) (hl:ds.length≤1000000000) (hD:D ds):Pu Tryz.prog 163 [dg ds] (nat (val ds)):=by
 have:=rtrim_pu ds hl;rwa [trimL_eq hD]at this
theorem word_pu (u:Nat) (hu:u<18446744073709551616):Pu Tryz.prog 156 [lit (.int .u64 u)] (nat u):=by
 have hD:D [u%4294967296,u/4294967296]:=D.cons (by omega) (D.cons (by omega) D.nil)
 have hv:val [u%4294967296,u/4294967296]=u:=by simp [val];omega
 refine Pu.intro Tryz.func156 rfl (by kernel_rfl) fun C=>?_
 repeat(refine A1 ⟨?_⟩;intros)
 refine WpubD (ds:=[u%4294967296,u/4294967296]) 8 rfl (HDel.here _) rfl (by omega) (by omega) ?_
 refine Wc (rtrim_nat _ (by simp) hD) ?_
 rw [hv]
 repeat(refine A1 ⟨?_⟩;intros)
 exact E1
theorem dgs_one:dgs 1=[1]:=by rw [dgs];simp [dgs_zero]
theorem one_pu:Pu Tryz.prog 161 [] (nat 1):=by
 rw [nat,dgs_one]
 refine Pu.intro Tryz.func161 rfl (by kernel_rfl) fun C=>?_
 repeat(refine AS ⟨?_⟩;intros)
 (refine O1 ⟨?_⟩;intros)
 repeat(refine AS ⟨?_⟩;intros)
 iterate 1 (refine O1 ⟨?_⟩;intros)
 refine WpubD (ds:=[1]) 1 rfl (HDel.here _) rfl (by omega) (by omega) ?_
 repeat(refine A1 ⟨?_⟩;intros)
 exact E1
theorem sign_pu (z:Int):Pu Tryz.prog 214 [lit (.int .i64 z)] (lit (.int .i64 z.sign)):=by
 rcases Int.lt_trichotomy z 0 with h|h|h
 ·rw [Int.sign_eq_neg_one_of_neg h]
  refine Pu.intro Tryz.func214 rfl (by kernel_rfl) fun C=>?_
  repeat(refine A1 ⟨?_⟩;intros)
  exact E1
 ·subst h
  refine Pu.intro Tryz.func214 rfl (by kernel_rfl) fun C=>?_
  repeat(refine A1 ⟨?_⟩;intros)
  exact E1
 ·rw [Int.sign_eq_one_of_pos h]
  refine Pu.intro Tryz.func214 rfl (by kernel_rfl) fun C=>?_
  repeat(refine A1 ⟨?_⟩;intros)
  exact E1
set_option maxHeartbeats 2000000 in
theorem rcmp_pu (a b:Nat) (h1:(dgs a).length≤1000000000) (h2:(dgs b).length≤1000000000):Pu Tryz.prog 160 [nat a,nat b] (lit (.int .i64 (cmpN a b))):=by
 have hxa:=val_dgs a
 have hxb:=val_dgs b
 have hDa:=D_dgs a
 have hDb:=D_dgs b
 by_cases hlen:(dgs a).length=(dgs b).length
 ·refine Pu.intro Tryz.func160 rfl (by kernel_rfl) fun C=>?_
  repeat(refine A1 ⟨?_⟩;intros)
  refine WP.loop (ι:=Nat) (fun k=>k≤(dgs a).length∧(dgs a).drop k=(dgs b).drop k) (fun k=>k) (fun k=>fm [(0,dg (dgs a)),(1,dg (dgs b)),(5,lit (.int .i64 ((k:Int)-1)))]) (fun _=>[]) (dgs a).length
   ⟨Nat.le_refl _,by rw [List.drop_length,hlen,List.drop_length]⟩ lfA rfl ?_
  rintro k ⟨hk,hd⟩ K hK
  rcases k with _|j
  ·repeat(refine A1 ⟨?_⟩;intros)
   ((first|refine endR ?_|refine endN ?_);refine end1 (RV.tmp rfl) (Le.int ?_))
   simp only [List.drop_zero]at hd
   rw [dgs_inj hd,cmpN_eq]
  ·rw [show(((j+1:Nat):Int)-1)=(j:Int)from by omega]
   rcases Nat.lt_trichotomy ((dgs a).getD j 0) ((dgs b).getD j 0)with hlt|heq|hgt
   ·have hlt':=val_lt_at j hDa (by omega) (by omega) hd hlt
    rw [hxa,hxb]at hlt'
    repeat(refine A1 ⟨?_⟩;intros)
    ((first|refine endR ?_|refine endN ?_);refine end1 (RV.tmp rfl) (Le.int ?_))
    rw [cmpN_lt hlt']
   ·repeat(refine A1 ⟨?_⟩;intros)
    refine hK _ _ j ⟨by omega,?_⟩ (by omega) lfA rfl
    rw [drop_getD _ j (by omega),drop_getD (dgs b) j (by omega),hd,heq]
   ·have hlt':=val_lt_at j hDb (by omega) (by omega) hd.symm hgt
    rw [hxa,hxb]at hlt'
    repeat(refine A1 ⟨?_⟩;intros)
    ((first|refine endR ?_|refine endN ?_);refine end1 (RV.tmp rfl) (Le.int ?_))
    rw [cmpN_gt hlt']
 ·rcases Nat.lt_or_gt_of_ne hlen with hlt|hgt
  ·have hab:a<b:=by
    rcases Nat.lt_or_ge a b with h|h
    ·exact h
    ·have:=len_mono h;omega
   refine Pu.intro Tryz.func160 rfl (by kernel_rfl) fun C=>?_
   repeat(refine A1 ⟨?_⟩;intros)
   refine Wc (sign_pu _) ?_
   rw [Int.sign_eq_neg_one_of_neg (by omega)]
   repeat(refine A1 ⟨?_⟩;intros)
   ((first|refine endR ?_|refine endN ?_);refine end1 (RV.tmp rfl) (Le.int ?_))
   rw [cmpN_lt hab]
  ·have hab:b<a:=by
    rcases Nat.lt_or_ge b a with h|h
    ·exact h
    ·have:=len_mono h;omega
   refine Pu.intro Tryz.func160 rfl (by kernel_rfl) fun C=>?_
   repeat(refine A1 ⟨?_⟩;intros)
   refine Wc (sign_pu _) ?_
   rw [Int.sign_eq_one_of_pos (by omega)]
   repeat(refine A1 ⟨?_⟩;intros)
   ((first|refine endR ?_|refine endN ?_);refine end1 (RV.tmp rfl) (Le.int ?_))
   rw [cmpN_gt hab]
theorem dgs_two {n:Nat}(h:(dgs n).length=2):n=(dgs n).getD 0 0+(dgs n).getD 1 0*4294967296:=by
 have hv:=val_dgs n
 generalize dgs n=l at *
 match l,h with
 | [a,b],_=>simp [val]at hv⊢;omega
theorem dgs_1 {n:Nat}(h:(dgs n).length=1):n=(dgs n).getD 0 0:=by
 have hv:=val_dgs n
 generalize dgs n=l at *
 match l,h with
 | [a],_=>simp [val]at hv⊢;omega
theorem dgs_0 {n:Nat}(h:(dgs n).length=0):n=0:=by
 have hv:=val_dgs n
 rw [List.length_eq_zero_iff.1 h]at hv;exact hv.symm
theorem len_le2 {n:Nat}(h:(dgs n).length≤2):n<18446744073709551616:=Nat.lt_of_lt_of_le (lt_pow n) (Nat.le_trans (Nat.pow_le_pow_right (by omega) h) (by decide))
theorem rword_pu (n:Nat) (h:(dgs n).length≤1000000000):Pu Tryz.prog 213 [nat n] (if(dgs n).length≤2 then tup [lit (.int .u64 n),lit (.bool true)]else tup [lit (.int .u64 0),lit (.bool false)]):=by
 have hD:=D_dgs n
 by_cases h0:(dgs n).length=0
 ·rw [if_pos (by omega)]
  have e:=dgs_0 h0
  refine Pu.intro Tryz.func213 rfl (by kernel_rfl) fun C=>?_
  repeat(refine A1 ⟨?_⟩;intros)
  refine endR (end2 (RV.tmp rfl) (RV.tmp rfl) (Le.tup2 (Le.int (by omega)) (Le.refl _)))
 ·by_cases h1:(dgs n).length=1
  ·rw [if_pos (by omega)]
   have e:n=(dgs n).getD (Int.toNat 0) 0:=dgs_1 h1
   have b:(dgs n).getD (Int.toNat 0) 0<4294967296:=hD.get 0
   refine Pu.intro Tryz.func213 rfl (by kernel_rfl) fun C=>?_
   repeat(refine A1 ⟨?_⟩;intros)
   refine endR (end2 (RV.tmp rfl) (RV.tmp rfl) (Le.tup2 (Le.int (by omega)) (Le.refl _)))
  ·by_cases h2:(dgs n).length=2
   ·rw [if_pos (by omega)]
    have e:n=(dgs n).getD (Int.toNat 0) 0+(dgs n).getD (0+1) 0*4294967296:=dgs_two h2
    have b0:(dgs n).getD (Int.toNat 0) 0<4294967296:=hD.get 0
    have b1:(dgs n).getD (0+1) 0<4294967296:=hD.get 1
    refine Pu.intro Tryz.func213 rfl (by kernel_rfl) fun C=>?_
    repeat(refine A1 ⟨?_⟩;intros)
    refine Wdo (ov_or rfl rfl (or64 ((dgs n).getD (0+1) 0) ((dgs n).getD (Int.toNat 0) 0) rfl rfl b1 b0)) ?_
    repeat(refine A1 ⟨?_⟩;intros)
    refine endR (end2 (RV.tmp rfl) (RV.tmp rfl) (Le.tup2 (Le.int (by omega)) (Le.refl _)))
   ·rw [if_neg (by omega)]
    refine Pu.intro Tryz.func213 rfl (by kernel_rfl) fun C=>?_
    repeat(refine A1 ⟨?_⟩;intros)
    ((first|refine endR ?_|refine endN ?_);exact end2 (RV.tmp rfl) (RV.tmp rfl) (Le.refl _))
theorem add32_pu (a b c:Nat) (ha:a<4294967296) (hb:b<4294967296) (hc:c≤1):Pu Tryz.prog 261 [lit (.int .u32 a),lit (.int .u32 b),lit (.int .u32 c)] (tup [lit (.int .u32 ((a+b+c)%4294967296:Nat)),lit (.int .u32 ((a+b+c)/4294967296:Nat))]):=by
 refine Pu.intro Tryz.func261 rfl (by kernel_rfl) fun C=>?_
 repeat(refine A1 ⟨?_⟩;intros)
 refine endR (end2 (RV.tmp rfl) (RV.tmp rfl) (Le.tup2 (Le.int (by omega)) (Le.int (by omega))))
section
variable {P:Program}{F:Fr}{H:LH}{ty:TypeId}
theorem ofInt_bv (X:BitVec 32):BitVec.ofInt (IntKind.bits .u32) (X.toNat:Int)=X:=by
 show BitVec.ofInt 32 (X.toNat:Int)=X
 rw [BitVec.ofInt_natCast,BitVec.ofNat_toNat,BitVec.setWidth_eq]
theorem wrap_bv (X:BitVec 32):IntKind.u32.wrap (X.toNat:Int)=(X.toNat:Int):=wu32 (by omega) (by have:=X.isLt;omega)
theorem ov_xorB {T T':TypeId}{x y:Operand}(X Y:BitVec 32) (hx:ev F x=lit (.int .u32 X.toNat)) (hy:ev F y=lit (.int .u32 Y.toNat)):OpV P (.binOp .xor T x y T') ty F H (lit (.int .u32 (X ^^^ Y).toNat)) :=
 ov_bin hx hy (fun w=>by simp only [Go.binOp,ne_eq,not_true_eq_false,if_false,Op.intBits,Sem.run_pure,ofInt_bv];exact congrArg (fun z=>Result.ok (Value.int .u32 z) w) (wrap_bv _)) guard_int
theorem ov_andB {T T':TypeId}{x y:Operand}(X Y:BitVec 32) (hx:ev F x=lit (.int .u32 X.toNat)) (hy:ev F y=lit (.int .u32 Y.toNat)):OpV P (.binOp .and T x y T') ty F H (lit (.int .u32 (X &&& Y).toNat)) :=
 ov_bin hx hy (fun w=>by simp only [Go.binOp,ne_eq,not_true_eq_false,if_false,Op.intBits,Sem.run_pure,ofInt_bv];exact congrArg (fun z=>Result.ok (Value.int .u32 z) w) (wrap_bv _)) guard_int
theorem ov_orB {T T':TypeId}{x y:Operand}(X Y:BitVec 32) (hx:ev F x=lit (.int .u32 X.toNat)) (hy:ev F y=lit (.int .u32 Y.toNat)):OpV P (.binOp .or T x y T') ty F H (lit (.int .u32 (X ||| Y).toNat)) :=
 ov_bin hx hy (fun w=>by simp only [Go.binOp,ne_eq,not_true_eq_false,if_false,Op.intBits,Sem.run_pure,ofInt_bv];exact congrArg (fun z=>Result.ok (Value.int .u32 z) w) (wrap_bv _)) guard_int
theorem ov_compB {T:TypeId}{x:Operand}(X:BitVec 32) (hx:ev F x=lit (.int .u32 X.toNat)):OpV P (.unOp .xor T x) ty F H (lit (.int .u32 (~~~X).toNat)) :=
 OpV.pure fun m w o a ho _ _ _ h=>by
  have h0:=h x (by simp [Op.operands]);rw [hx,lit_p]at h0
  refine⟨.int .u32 (~~~X).toNat,?_,lit_p.2 rfl⟩
  have e:BitVec.ofInt (IntKind.bits .u32) (IntKind.max .u32)=BitVec.allOnes 32:=by
   show BitVec.ofInt 32 4294967295=BitVec.allOnes 32
   decide
  have e2:IntKind.u32.wrap ((BitVec.allOnes 32 ^^^ X).toNat:Int)=((~~~X).toNat:Int):=by rw [BitVec.allOnes_xor];exact wrap_bv _
  simp only [execOp,ho,h0,Op.unary,Op.intBits,IntKind.signed,Bool.false_eq_true,if_false,e,ofInt_bv,Sem.run_bind,Sem.run_pure,Result.andThen_ok]
  exact congrArg (fun z=>Result.ok (Next.value (Value.int .u32 z)) w) e2
end
theorem bv_top (X:BitVec 32):X.toNat/2147483648=X.msb.toNat:=by
 have h:=X.isLt
 rw [BitVec.msb_eq_decide]
 by_cases hc:2^(32-1)≤X.toNat <;> simp [hc] <;> omega
theorem rsub_digit {vo va vb p c c' x y d:Nat}(h:vo+vb=va+p*c) (hd:x+4294967296*c'=d+c+y):vo+p*d+(vb+p*y)=va+p*x+p*4294967296*c':=by
 have:=congrArg (fun t=>p*t) hd
 simp only [Nat.mul_add,←Nat.mul_assoc]at this
 omega
theorem radd_digit {vo va vb p c s x y:Nat}(h:vo+p*c=va+vb) (hs:s=x+y+c):vo+p*(s%4294967296)+p*4294967296*(s/4294967296)=va+p*x+(vb+p*y):=by
 subst hs
 have e:=Nat.div_add_mod (x+y+c) 4294967296
 rw [Nat.mul_assoc,Nat.add_assoc,←Nat.mul_add,Nat.add_comm ((x+y+c)%4294967296),e,Nat.mul_add,Nat.mul_add]
 omega
set_option maxHeartbeats 2000000 in
theorem sub32_pu (x y b:Nat) (hx:x<4294967296) (hy:y<4294967296) (hb:b≤1):Pu Tryz.prog 262 [lit (.int .u32 x),lit (.int .u32 y),lit (.int .u32 b)] (tup [lit (.int .u32 ((x+8589934592-y-b)%4294967296:Nat)),lit (.int .u32 (if x<y+b then 1 else 0))]):=by
 obtain⟨X,eX⟩:∃X:BitVec 32,x=X.toNat:=⟨BitVec.ofNat 32 x,by rw [BitVec.toNat_ofNat,Nat.mod_eq_of_lt hx]⟩
 obtain⟨Y,eY⟩:∃X:BitVec 32,y=X.toNat:=⟨BitVec.ofNat 32 y,by rw [BitVec.toNat_ofNat,Nat.mod_eq_of_lt hy]⟩
 obtain⟨Z,eZ⟩:∃X:BitVec 32,(x+8589934592-y-b)%4294967296=X.toNat:=⟨BitVec.ofNat 32 ((x+8589934592-y-b)%4294967296),by rw [BitVec.toNat_ofNat,Nat.mod_mod]⟩
 have fin:(((~~~X &&& Y) ||| (~~~(X ^^^ Y) &&& Z)).toNat:Int)/2147483648=if x<y+b then 1 else 0:=by
  have e:(((~~~X &&& Y) ||| (~~~(X ^^^ Y) &&& Z)).toNat:Int)/2147483648=((((~~~X &&& Y) ||| (~~~(X ^^^ Y) &&& Z)).toNat/2147483648:Nat):Int):=rfl
  rw [e,bv_top]
  have mX:=bv_top X
  have mY:=bv_top Y
  have mZ:=bv_top Z
  rw [←eX]at mX
  rw [←eY]at mY
  rw [←eZ]at mZ
  have mm:((~~~X &&& Y) ||| (~~~(X ^^^ Y) &&& Z)).msb=(((!X.msb)&&Y.msb)||((!(X.msb ^^ Y.msb))&&Z.msb)):=by simp [BitVec.msb_or,BitVec.msb_and,BitVec.msb_xor,BitVec.msb_not]
  rw [mm]
  clear mm e eX eY eZ
  generalize X.msb=p at *
  generalize Y.msb=q at *
  generalize Z.msb=r at *
  by_cases hlt:x<y+b
  ·rw [if_pos hlt]
   cases p <;> cases q <;> cases r <;> simp only [Bool.toNat_true,Bool.toNat_false]at mX mY mZ <;> first|rfl|(exfalso;omega)
  ·rw [if_neg hlt]
   cases p <;> cases q <;> cases r <;> simp only [Bool.toNat_true,Bool.toNat_false]at mX mY mZ <;> first|rfl|(exfalso;omega)
 rw [eZ]
 refine Pu.intro Tryz.func262 rfl (by kernel_rfl) fun C=>?_
 repeat(refine A1 ⟨?_⟩;intros)
 rw [show(((x:Int)-y)%4294967296-b)%4294967296=(Z.toNat:Int)from by rw [←eZ];omega]
 rw [eX,eY]at *
 refine Wo (ov_compB X rfl) ?_
 repeat(refine A1 ⟨?_⟩;intros)
 refine Wo (ov_andB (~~~X) Y rfl rfl) ?_
 repeat(refine A1 ⟨?_⟩;intros)
 refine Wo (ov_xorB X Y rfl rfl) ?_
 refine Wo (ov_compB (X ^^^ Y) rfl) ?_
 repeat(refine A1 ⟨?_⟩;intros)
 refine Wo (ov_andB (~~~(X ^^^ Y)) Z rfl rfl) ?_
 refine Wo (ov_orB (~~~X &&& Y) (~~~(X ^^^ Y) &&& Z) rfl rfl) ?_
 repeat(refine A1 ⟨?_⟩;intros)
 rw [fin]
 ((first|refine endR ?_|refine endN ?_);exact end2 (RV.tmp rfl) (RV.tmp rfl) (Le.refl _))
set_option maxHeartbeats 2000000 in
theorem rsum_pu (a b:Nat) (ha:(dgs a).length≤100000000) (hb:(dgs b).length≤100000000):Pu Tryz.prog 211 [nat a,nat b] (nat (a+b)):=by
 have hP:=D_dgs a
 have hQ:=D_dgs b
 have hva:=val_dgs a
 have hvb:=val_dgs b
 show Pu _ _ [dg (dgs a),dg (dgs b)] _
 generalize dgs a=p at *
 generalize dgs b=q at *
 obtain⟨n,hn⟩:∃n,n=max p.length q.length:=⟨_,rfl⟩
 refine Pu.intro Tryz.func211 rfl (by kernel_rfl) fun C=>?_
 repeat(refine A1 ⟨?_⟩;intros)
 refine Wo (ov_max rfl rfl (r:=(n:Int)) (by split <;> omega)) ?_
 repeat(refine A1 ⟨?_⟩;intros)
 refine WmkD (n+1) rfl rfl (by omega) (by omega) fun bb=>?_
 repeat(refine A1 ⟨?_⟩;intros)
 refine WP.loop (ι:=Nat×Nat×List Nat) (fun s=>s.1≤n∧s.2.1≤1∧s.2.2.length=n+1∧D s.2.2∧val (s.2.2.take s.1)+4294967296^s.1*s.2.1=val (p.take s.1)+val (q.take s.1)) (fun s=>n-s.1)
  (fun s=>fm [(0,dg p),(1,dg q),(5,lit (.int .i64 n)),(6,lit (.slice (some ⟨bb,0,none⟩) (n+1) (n+1))),(7,lit (.int .u32 s.2.1)),(8,lit (.int .i64 s.1))])
  (fun s=>[(bb,258,dcells s.2.2)]) (0,0,List.replicate (n+1) 0) ⟨Nat.zero_le _,Nat.zero_le _,by simp,D.rep _,by simp [val]⟩ lfA rfl ?_
 rintro ⟨k,c,os⟩ ⟨hk,hc,hol,hO,hval⟩ K hK
 simp only at hk hc hol hO hval⊢
 by_cases hkl:k<n
 ·have hp:=hP.get k
  have hq:=hQ.get k
  repeat(refine A1 ⟨?_⟩;intros)
  refine WP.via (fun F H=>LeF F (fm [(0,dg p),(1,dg q),(5,lit (.int .i64 n)),(6,lit (.slice (some ⟨bb,0,none⟩) (n+1) (n+1))),(7,lit (.int .u32 c)),(8,lit (.int .i64 k)),(9,lit (.int .u32 (p.getD k 0:Nat))),(10,lit (.int .u32 0))])∧H=[(bb,258,dcells os)]) ?_ ?_
  ·refine WPd (fun h=>?_) (fun h=>?_)
   ·repeat(refine A1 ⟨?_⟩;intros)
    exact⟨lfA,rfl⟩
   ·have h0:p.getD k 0=0:=by simp [List.getD,List.getElem?_eq_none (show p.length≤k by omega)]
    repeat(refine A1 ⟨?_⟩;intros)
    exact⟨lfA,rfl⟩
  rintro F H ⟨hF,rfl⟩
  refine WP.le hF ?_
  repeat(refine A1 ⟨?_⟩;intros)
  refine WP.via (fun F H=>LeF F (fm [(0,dg p),(1,dg q),(5,lit (.int .i64 n)),(6,lit (.slice (some ⟨bb,0,none⟩) (n+1) (n+1))),(7,lit (.int .u32 c)),(8,lit (.int .i64 k)),(9,lit (.int .u32 (p.getD k 0:Nat))),(10,lit (.int .u32 (q.getD k 0:Nat)))])∧H=[(bb,258,dcells os)]) ?_ ?_
  ·refine WPd (fun h=>?_) (fun h=>?_)
   ·repeat(refine A1 ⟨?_⟩;intros)
    exact⟨lfA,rfl⟩
   ·have h0:q.getD k 0=0:=by simp [List.getD,List.getElem?_eq_none (show q.length≤k by omega)]
    repeat(refine A1 ⟨?_⟩;intros)
    exact⟨lfA,rfl⟩
  rintro F H ⟨hF,rfl⟩
  refine WP.le hF ?_
  repeat(refine A1 ⟨?_⟩;intros)
  refine Wc (add32_pu (p.getD k 0) (q.getD k 0) c hp hq hc) ?_
  repeat(refine A1 ⟨?_⟩;intros)
  refine WstD ((p.getD k 0+q.getD k 0+c)%4294967296) rfl rfl rfl (HUpd.here _) (by omega) ?_
  repeat(refine A1 ⟨?_⟩;intros)
  refine hK _ _ (k+1,(p.getD k 0+q.getD k 0+c)/4294967296,os.set k ((p.getD k 0+q.getD k 0+c)%4294967296)) ⟨by simp only;omega,by simp only;omega,by simpa using hol,hO.set k (by omega),?_⟩ (by simp only;omega) lfA rfl
  simp only
  rw [val_take_set os k _ (by omega),val_take_succ',val_take_succ',Nat.pow_succ]
  exact radd_digit hval rfl
 ·have hke:k=n:=by omega
  subst hke
  repeat(refine A1 ⟨?_⟩;intros)
  refine WstD c rfl rfl (by omega) (HUpd.here _) (by omega) ?_
  repeat(refine A1 ⟨?_⟩;intros)
  refine WpubD (ds:=os.set k c) 54 rfl (HDel.here _) (by simpa using hol) (by omega) (by omega) ?_
  refine Wc (rtrim_nat (os.set k c) (by simp;omega) (hO.set _ (by omega))) ?_
  have hfull:val (os.set k c)=a+b:=by
   have h1:=val_take_set os k c (by omega)
   rw [List.take_of_length_le (by simp;omega)]at h1
   rw [h1,hval,List.take_of_length_le (by omega),List.take_of_length_le (by omega),hva,hvb]
  rw [hfull]
  repeat(refine A1 ⟨?_⟩;intros)
  exact E1
theorem add_digit {vo va vb p c s x y:Nat}(h:vo+p*c=va+vb) (hs:s=c+x+y):vo+p*(s%4294967296)+p*4294967296*(s/4294967296)=va+p*x+(vb+p*y):=by
 subst hs
 have e:=Nat.div_add_mod (c+x+y) 4294967296
 rw [Nat.mul_assoc,Nat.add_assoc,←Nat.mul_add,Nat.add_comm ((c+x+y)%4294967296),e,Nat.mul_add,Nat.mul_add]
 omega
set_option maxHeartbeats 2000000 in
theorem add_nat (xs ys:List Nat) (hla:xs.length≤100000000) (hlb:ys.length≤100000000) (hA:D xs) (hB:D ys):Pu Tryz.prog 293 [dg xs,dg ys] (nat (val xs+val ys)):=by
 refine Pu.intro Tryz.func293 rfl (by kernel_rfl) fun C=>?_
 repeat(refine A1 ⟨?_⟩;intros)
 refine WP.via (fun F' H'=>∃p q:List Nat,q.length≤p.length∧p.length≤100000000∧D p∧D q∧val p+val q=val xs+val ys∧LeF F' (fm [(0,dg p),(1,dg q)])∧H'=[]) ?_ ?_
 ·refine WPd (fun hlt=>?_) (fun hlt=>?_)
  ·repeat(refine A1 ⟨?_⟩;intros)
   exact⟨ys,xs,by omega,hlb,hB,hA,by omega,LeF.cons (Le.refl _) (LeF.cons (Le.refl _) (LeF.nil _)),rfl⟩
  ·repeat(refine A1 ⟨?_⟩;intros)
   exact⟨xs,ys,by omega,hla,hA,hB,rfl,LeF.cons (Le.refl _) (LeF.cons (Le.refl _) (LeF.nil _)),rfl⟩
 ·rintro F' H' ⟨p,q,hqp,hpl,hP,hQ,hv,hF,rfl⟩
  refine WP.le hF ?_
  rw [←hv]
  clear hv hF hA hB hla hlb
  repeat(refine A1 ⟨?_⟩;intros)
  refine WmkD (p.length+1) rfl rfl (by omega) (by omega) fun b=>?_
  repeat(refine A1 ⟨?_⟩;intros)
  refine WP.loop (ι:=Nat×Nat×List Nat) (fun s=>s.1≤p.length∧s.2.1≤1∧s.2.2.length=p.length+1∧D s.2.2∧val (s.2.2.take s.1)+4294967296^s.1*s.2.1=val (p.take s.1)+val (q.take s.1)) (fun s=>p.length-s.1)
   (fun s=>fm [(0,dg p),(1,dg q),(5,lit (.slice (some ⟨b,0,none⟩) (p.length+1) (p.length+1))),(6,lit (.int .u64 s.2.1)),(20,dg p),(21,lit (.int .i64 p.length)),(22,lit (.int .i64 s.1))])
   (fun s=>[(b,258,dcells s.2.2)]) (0,0,List.replicate (p.length+1) 0) ⟨Nat.zero_le _,Nat.zero_le _,by simp,D.rep _,by simp [val]⟩
   (by repeat(first|exact LeF.nil _|refine LeF.cons (Le.refl _) ?_)) rfl ?_
  rintro ⟨k,c,os⟩ ⟨hk,hc,hol,hO,hval⟩ K hK
  simp only at hk hc hol hO hval⊢
  have hp:=hP.get k
  have hq:=hQ.get k
  by_cases hkl:k<p.length
  ·have fin:∀s,s=c+p.getD k 0+q.getD k 0→∀F' H',LeF F' (fm [(0,dg p),(1,dg q),(5,lit (.slice (some ⟨b,0,none⟩) (p.length+1) (p.length+1))),(6,lit (.int .u64 ((s/4294967296:Nat):Int))),(20,dg p),(21,lit (.int .i64 p.length)),(22,lit (.int .i64 ((k+1:Nat):Int)))])→
     H'=[(b,258,dcells (os.set k (s%4294967296)))]→K F' H':=fun s hs F' H' hF hH=>by
    refine hK F' H' (k+1,s/4294967296,os.set k (s%4294967296)) ⟨by simp only;omega,by simp only;omega,by simpa using hol,hO.set k (by omega),?_⟩ (by simp only;omega) hF hH
    simp only
    rw [val_take_set os k _ (by omega),val_take_succ',val_take_succ',Nat.pow_succ]
    exact add_digit hval hs
   by_cases hkq:k<q.length
   ·repeat(refine A1 ⟨?_⟩;intros)
    refine WstD ((c+p.getD k 0+q.getD k 0)%4294967296) rfl rfl (by omega) (HUpd.here _) (by omega) ?_
    repeat(refine A1 ⟨?_⟩;intros)
    exact fin _ rfl _ _ lfA rfl
   ·have hq0:q.getD k 0=0:=by simp [List.getD,List.getElem?_eq_none (Nat.not_lt.1 hkq)]
    repeat(refine A1 ⟨?_⟩;intros)
    refine WstD ((c+p.getD k 0+q.getD k 0)%4294967296) rfl rfl (by omega) (HUpd.here _) (by omega) ?_
    repeat(refine A1 ⟨?_⟩;intros)
    exact fin _ rfl _ _ lfA rfl
  ·have hke:k=p.length:=by omega
   subst hke
   repeat(refine A1 ⟨?_⟩;intros)
   refine WstD c rfl rfl (by omega) (HUpd.here _) (by omega) ?_
   repeat(refine A1 ⟨?_⟩;intros)
   refine WpubD (ds:=os.set p.length c) 56 rfl (HDel.here _) (by simpa using hol) (by omega) (by omega) ?_
   refine Wc (trim_nat (os.set p.length c) (by simp;omega) (hO.set _ (by omega))) ?_
   have hfull:val (os.set p.length c)=val p+val q:=by
    have h1:=val_take_set os p.length c (by omega)
    rw [List.take_of_length_le (by simp;omega)]at h1
    rw [h1,hval,List.take_length,List.take_of_length_le hqp]
   rw [hfull]
   repeat(refine A1 ⟨?_⟩;intros)
   exact E1
end Go.Ab
