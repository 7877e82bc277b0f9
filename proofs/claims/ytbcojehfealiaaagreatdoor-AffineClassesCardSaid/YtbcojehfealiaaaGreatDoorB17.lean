/- Texts laid one behind the other: RgM, RowC, RowE, Ins, ArrA, Edg, ImM, Fld. -/
import Derived.Deep.Upon
import Derived.Test.YtbcojehfealiaaaGreatDoorB16
import Derived.LoopNIn
set_option linter.all false
namespace Go.Ab
open Go.Proofs
variable [Base]
abbrev Pq:=Rat×Rat
def qC (p q:Pq):Int:=if p.1=q.1 then(p.2-q.2).num.sign else(p.1-q.1).num.sign
def plt (p q:Pq):Bool:=decide (qC p q<0)
theorem sG {p q:Pq}:qC p q=0↔p=q:=by
 obtain⟨x,y⟩:=p;obtain⟨u,v⟩:=q;unfold qC;simp only [Prod.mk.injEq];split
 ·next h=>rw [dT];exact⟨fun e=>⟨h,e⟩,fun e=>e.2⟩
 ·next h=>rw [dT];exact⟨fun e=>absurd e h,fun e=>e.1⟩
def pat (out:List Pq) (p:Pq):Nat:=(out.takeWhile fun o=>plt o p).length
def kV (out:List Pq) (p:Pq):List Pq:=if out[pat out p]? = some p then out else out.take (pat out p)++p::out.drop (pat out p)
def srt (l:List Pq):List Pq:=l.foldl kV []
theorem C0 (l:List Pq) (p:Pq):srt (l++[p])=kV (srt l) p:=by unfold srt;rw [List.foldl_append];rfl
theorem BZ {l:List Pq}{k:Nat}{p:Pq}(h:l[k]? = some p):srt (l.take (k+1))=kV (srt (l.take k)) p:=by
 obtain⟨h1,h2⟩:=List.getElem?_eq_some_iff.1 h;rw [List.take_succ_eq_append_getElem h1,h2,C0]
theorem HK (out:List Pq) (p:Pq):pat out p≤out.length:=(List.takeWhile_sublist _).length_le
theorem pe {α:Type}{f:α→Bool}:∀{l:List α}{a:α},l[(l.takeWhile f).length]? = some a→f a=false
 | [],a,h=>by simp at h
 |b::l,a,h=>by
  rw [List.takeWhile_cons]at h;cases hb:f b with
  |true =>
   rw [if_pos hb]at h;exact pe (by simpa using h)
  |false =>
   rw [if_neg (by rw [hb];decide)]at h;simp at h;rw [←h];exact hb
theorem BO {α:Type}{f:α→Bool}:∀{l:List α}{j:Nat}{a:α},l[j]? = some a→j<(l.takeWhile f).length→f a=true
 | [],j,a,h,_=>by simp at h
 |b::l,j,a,h,hj=>by
  rw [List.takeWhile_cons]at hj;cases hb:f b with
  |false=>rw [if_neg (by rw [hb];decide)]at hj;simp at hj
  |true =>
   rw [if_pos hb,List.length_cons]at hj;cases j with
   |zero=>simp at h;rw [←h];exact hb
   |succ j=>exact BO (by simpa using h) om
theorem CG {out:List Pq}{p o:Pq}{j:Nat}(hj:j≤pat out p) (ho:out[j]? = some o):(plt o p=true→j+1≤pat out p)∧(plt o p=false→j=pat out p):=by
 constructor
 ·intro h;rcases Nat.lt_or_ge j (pat out p)with hl|hl
  ·exact hl
  ·have e:j=pat out p:=by omega
   rw [e]at ho;have:=pe (f:=fun o=>plt o p) ho;rw [h]at this;cases this
 ·intro h;rcases Nat.lt_or_ge j (pat out p)with hl|hl
  ·have:=BO (f:=fun o=>plt o p) ho hl;rw [h]at this;cases this
  ·omega
theorem CE (out:List Pq) (p:Pq):(kV out p).length≤out.length+1:=by
 unfold kV;split
 ·omega
 ·rw [List.length_append,List.length_cons,List.length_take,List.length_drop];omega
theorem yI:∀(l:List Pq),(srt l).length≤l.length:=by
 have h:∀(l out:List Pq),(l.foldl kV out).length≤out.length+l.length:=by
  intro l;induction l with
  |nil=>intro out;simp
  |cons a l ih=>intro out;have:=ih (kV out a);have:=CE out a;simp only [List.foldl_cons,List.length_cons];omega
 intro l;have:=h l [];simpa [srt] using this
theorem CD {out:List Pq}{p q:Pq}:q∈kV out p↔q=p∨q∈out:=by
 unfold kV;split
 ·next h =>
  have hm:=List.mem_of_getElem? h;constructor
  ·exact .inr
  ·rintro (rfl|h')
   ·exact hm
   ·exact h'
 ·rw [List.mem_append,List.mem_cons];constructor
  ·rintro (h|h|h)
   ·exact .inr (List.mem_of_mem_take h)
   ·exact .inl h
   ·exact .inr (List.mem_of_mem_drop h)
  ·rintro (h|h)
   ·exact .inr (.inl h)
   ·rw [←List.take_append_drop (pat out p) out,List.mem_append]at h;rcases h with h|h
    ·exact .inl h
    ·exact .inr (.inr h)
theorem yH (l:List Pq) (q:Pq):q∈srt l↔q∈l:=by
 have h:∀(l out:List Pq),q∈l.foldl kV out↔q∈out∨q∈l:=by
  intro l;induction l with
  |nil=>intro out;simp
  |cons a l ih =>
   intro out;rw [List.foldl_cons,ih,CD,List.mem_cons];constructor
   ·rintro ((h|h)|h)
    ·exact .inr (.inl h)
    ·exact .inl h
    ·exact .inr (.inr h)
   ·rintro (h|h|h)
    ·exact .inl (.inr h)
    ·exact .inl (.inl h)
    ·exact .inr h
 unfold srt;rw [h];simp
def dst (l:List Pq):List Pq:=l.foldl (fun out p=>if p∈out then out else out++[p]) []
theorem sL {α:Type} [DecidableEq α]:∀{a b:List α},a.Nodup→(∀q∈a,q∈b)→a.length≤b.length
 | [],b,_,_=>Nat.zero_le _
 |x::a,b,h,hs=>by
  obtain⟨h1,h2⟩:=List.nodup_cons.1 h;have hx:=hs x Ms;have:=sL (b:=b.erase x) h2 fun q hq=>(List.mem_erase_of_ne (fun e=>h1 (by rw [←e];exact hq))).2 (hs q (Mc hq))
  rw [List.length_erase_of_mem hx]at this;have:0<b.length:=List.length_pos_of_mem hx;rw [List.length_cons];omega
section
variable {P:Program}{C:Ctx}{n:Nat}{F:Fr}{H:LH}{ops:Array Oper}{K:Fr→LH→Prop}{rest:List Oper}{ty:TypeId}{pos:String}{aft:Array Edge}
theorem Fm {T e:TypeId}{sz by_:Nat}{z:List SV}{g:Bool} [hS:TSl P T e] [hT:TY P e sz by_ z g]{x y:Operand}{b k c:Nat}{v:Int}(j:Nat) (hx:ev F x=lit (.slice (some ⟨b,0,none⟩) k c)) (hy:ev F y=lit (.int .i64 v)) (hv:v=(j:Int)) (hj:j≤c) :
  OpV P (.slice T x none (some y) none) ty F H (lit (.slice (some ⟨b,0,none⟩) j c)) :=
 OpV.pure fun m w o a ho _ _ _ h=>by
  have e0:=h x (by simp [Op.operands]);rw [hx,aj]at e0;have e1:=h y (by simp [Op.operands]);rw [hy,aj]at e1;subst hv
  have hb:(Instr.sliceBounds true k c none (some (a.eval y)) none).run P w = .ok (0,j,c) w:=by
   simp [Instr.sliceBounds,gH j c _ e1 hj]
  refine⟨.slice (some ⟨b,0,none⟩) j c,?_,aj.2 rfl⟩;by_cases h0:c=0
  ·subst h0;simp [execOp,ho,Instr.sliceAt,Instr.slice,underlying,hS.h,e0,hb,hT.run_size]
  ·simp [execOp,ho,Instr.sliceAt,Instr.slice,underlying,hS.h,e0,hb,hT.run_size,aK,Ne.symm h0]
theorem Own.blk {T:TypeId}{sz k:Nat}{cs:List SV}{s:SV}{Hs:LH}(h:Own T sz k cs s Hs) (hk:0<k) :
  ∃b c,k≤c∧c≤maxLen∧s=lit (.slice (some ⟨b,0,none⟩) k c)∧Hs=[(b,T,cs++List.replicate (c*sz-k*sz) top)]:=by
 obtain⟨_,⟨h0,_⟩|h⟩:=h
 ·omega
 ·exact h
theorem LeL.top:∀(l:List SV) (k:Nat),l.length=k→LeL l (List.replicate k top)
 | [],_,h=>by subst h;exact trivial
 |s::l,0,h=>by cases h
 |s::l,k+1,h=>⟨fun m v _=>by unfold Ab.top;trivial,LeL.top l k (by simpa using h)⟩
theorem LeL.app:∀{a b c d:List SV},LeL a b→LeL c d→LeL (a++c) (b++d)
 | [],[],_,_,_,k=>k
 |_::_,_::_,_,_,h,k=>⟨h.1,LeL.app h.2 k⟩
 | [],_::_,_,_,h,_=>h.elim
 |_::_,[],_,_,h,_=>h.elim
end
section
variable {P:Program}{C:Ctx}{n:Nat}{F:Fr}{H:LH}{ops:Array Oper}{K:Fr→LH→Prop}{rest:List Oper}{ty:TypeId}{pos:String}{aft:Array Edge}
theorem zq {T e:TypeId}{sz by_:Nat}{z:List SV}{g:Bool} [hS:TSl P T e] [hT:TY P e sz by_ z g]{x y:Operand}{ao:Option Addr}{k c:Nat}(hx:ev F x=lit (.slice ao k c)) (hy:ev F y=sl [] 0) (hkc:k≤c) :
  OpV P (.call ⟨.builtin .append,#[x,y],#[T,T]⟩) ty F H (lit (.slice ao k c)) :=
 OpV.pure fun m w o a ho _ _ _ h=>by
  have e0:=h x (by simp [Op.operands,Call.operands]);rw [hx,aj]at e0;have e1:=h y (by simp [Op.operands,Call.operands]);rw [hy]at e1;obtain⟨ad2,c2,e1,hc1,hc2,hcb⟩:=ci e1;obtain⟨i,v,hi,hsz,hbyt,hz,hzl,hfl,hvs⟩:=hT.run_bytes
  have hs:Src P i.size T (.slice ad2 0 c2) 0 [] w:=by
   cases ad2 with
   |none=>exact Src.ofNil w hS.h c2
   |some a2=>exact Src.ofSlice w hS.h a2 0 c2 [] (by simp) (by intro j u hj;simp at hj) (by intro u hu;cases hu)
  have hrun:=run_append_nothing (P:=P) w T T o.type e i hS.h hi ao k c hkc _ hs;refine⟨.slice ao k c,?_,aj.2 rfl⟩;rw [←e1]at hrun;simp [execOp,ho,resolve,invoke,builtin,e0,hrun]
theorem WPL.appOwnK {T e:TypeId}{sz by_:Nat}{z:List SV}{g:Bool} [hS:TSl P T e] [hT:TY P e sz by_ z g]{d:Nat}{x y:Operand}{n0 k0:Nat}{cs ds:List SV}{s:SV}{Hs Rs:LH}
  (hown:Own e sz n0 cs s Hs) (hx:ev F x=s) (hy:ev F y=sl ds k0) (hsp:Spl H Hs Rs) (hds:ds.length=k0*sz) (hpos:0<k0*sz) (hl:n0+k0≤1000000000) (hby:by_≤10000)
  (k:∀s' H',Own e sz (n0+k0) (cs++ds) s' H'→WPL P C n ops rest K (upd F d s') (H'++Rs)) (hd:Nat.blt d n=true) :
  WPL P C n ops (⟨some d, .call ⟨.builtin .append,#[x,y],#[T,T]⟩,ty,pos,aft,none⟩::rest) K F H:=by
 unfold WPL;intro a w hs0 Q hq;have hs:=hs0.perm hsp.perm;have hk0:0<k0:=Nat.pos_of_ne_zero fun e=>by rw [e,Nat.zero_mul]at hpos;omega
 refine wpList_plain rfl fun K' hK'=>?_
 obtain⟨hdef,hn,m0,h10,h20,h30,h40,h50⟩:=id hs
 have hp0:∀x,(ev F x).p m0 (a.eval x):=fun x=>by
  cases x with
  |tmp t=>exact h50 t
  |const v=>unfold ev lit;rfl
  |global g=>unfold ev lit;rfl
  |func f=>unfold ev lit;rfl
 have e0:=hp0 x;rw [hx]at e0;have e1:=hp0 y;rw [hy]at e1;obtain⟨ad2,c2,e1,hc1,hc2,hcb⟩:=ci e1;obtain⟨b2,off2,rfl,arr2,T2,fz2,hbm2,hall2⟩:=hcb.resolve_left (fun h=>by rw [h]at hds;simp only [List.length_nil]at hds;omega);have hb2:=h10 _ _ hbm2;rw [hds]at hall2;generalize hl2:(arr2.toList.drop off2).take (k0*sz)=l2 at hall2;obtain⟨i,v,hi,hsz,hbyt,hz,hzl,hfl,hvs⟩:=hT.run_bytes;have hlen2:=hall2.length
 have hys:∀j u,l2[j]? = some u→w.cell? ((⟨b2,off2,none⟩:Addr).add j)=some u:=fun j u hj=>by
  rw [aK,cv w b2 _ arr2 _ _ hb2];rw [←hl2,List.getElem?_take]at hj;split at hj
  ·rw [List.getElem?_drop]at hj;simpa using hj
  ·cases hj
 have hexec:execOp a.eval (⟨some d, .call ⟨.builtin .append,#[x,y],#[T,T]⟩,ty,pos,aft,none⟩:Oper)=(do let v←Builtin.append_ #[T,T] ty #[a.eval x,a.eval y];pure (.value v)):=by
  simp [execOp,resolve,invoke,builtin]
 have hmul:∀q,q≤1000000001→q*by_≤140737488355328:=fun q hq=>Nat.le_trans (Nat.mul_le_mul hq hby) (by decide)
 have get2:∀m,aI m w→(ev F y).p m (a.eval y)→ak m ds l2:=fun m h1 h2=>by
  rw [hy,e1]at h2;obtain⟨ad3,c3,e3,_,_,hcb3⟩:=ci h2;obtain⟨b3,off3,rfl,arr3,T3,fz3,hbm3,hall3⟩:=hcb3.resolve_left (fun h=>by rw [h]at hds;simp only [List.length_nil]at hds;omega);have hb3:=h1 _ _ hbm3;simp only [Value.slice.injEq,Option.some.injEq,Addr.mk.injEq,and_true,true_and]at e3;obtain⟨⟨rfl,rfl⟩,_⟩:=e3;rw [hb2]at hb3;simp only [Option.some.injEq,Obj.cells.injEq]at hb3;obtain⟨rfl,_⟩:=hb3;rw [hds,hl2]at hall3;exact hall3
 unfold Oper.wp;rw [hexec,e1];obtain⟨hcl,hcase⟩:=hown;rcases hcase with⟨rfl,rfl,rfl⟩|⟨b,c,hnc,hcm,rfl,rfl⟩
 ·rw [aj]at e0;have hcs:cs=[]:=List.eq_nil_of_length_eq_zero (by rw [hcl,Nat.zero_mul]);subst hcs;have hrun:=run_append_nil (P:=P) w T ty e i v hS.h hi hz ⟨b2,off2,none⟩ k0 c2 l2 (by rw [hlen2,hsz,hds]) hys hk0 om (by rw [hbyt];have:=hmul k0 om;omega);rw [e0];simp only [Sem.run_bind,hrun,Result.andThen_ok,Sem.run_pure];have hge:=grownCap_ge w k0 0 e;have hle:=grownCap_le_maxLen w k0 0 e (by simp only [maxLen];omega);have h:=k (lit (.slice (some ⟨w.heap.size,0,none⟩) k0 (grownCap w k0 0 e))) [(w.heap.size,e,([]++ds)++List.replicate (grownCap w k0 0 e*sz-k0*sz) top)] ⟨by rw [List.nil_append,hds,Nat.zero_add], .inr ⟨w.heap.size,grownCap w k0 0 e,om,hle,by rw [Nat.zero_add],by rw [Nat.zero_add]⟩⟩;unfold WPL at h;refine hK' _ _ (h _ _ (St.pushD (Nat.blt_eq.mp hd) hs fun m h1 h2 h3=>?_) Q hq);simp only [Array.toList_append,List.toList_toArray,List.nil_append];refine(get2 m h1 (h3 y)).append (ak.topL ?_ (zeroCells_one hfl));rw [Array.length_toList,size_zeroCells,hvs,Nat.sub_mul]
 ·rw [aj]at e0;obtain⟨hmb,arr,hb,hall⟩:=h20.2 _ (List.mem_append_left Rs (List.mem_singleton.2 rfl));have hlen:=hall.length;simp only [List.length_append,List.length_replicate,hcl,Array.length_toList]at hlen;have hmono:n0*sz≤c*sz:=Nat.mul_le_mul_right _ hnc
  have getc:∀m,HOk m w ([(b,e,cs++List.replicate (c*sz-n0*sz) top)]++Rs)→ak m (cs++List.replicate (c*sz-n0*sz) top) arr.toList:=fun m h2=>by
   obtain⟨_,arr',hb',hall'⟩:=h2.2 _ (List.mem_append_left Rs (List.mem_singleton.2 rfl));rw [hb]at hb';simp only [Option.some.injEq,Obj.cells.injEq]at hb';obtain⟨rfl,_⟩:=hb';exact hall'
  by_cases hroom:n0+k0≤c
  ·have hm1:(n0+k0)*sz≤c*sz:=Nat.mul_le_mul_right _ hroom;rw [Nat.add_mul]at hm1;have hrun:=run_append_room (P:=P) w T ty e i hS.h hi b n0 c arr hb ⟨b2,off2,none⟩ k0 c2 l2 (by rw [hlen2,hsz,hds]) hys hall2.flat hroom (by rw [hsz,hlen2,hds];omega);rw [e0];simp only [Sem.run_bind,hrun,Result.andThen_ok,Sem.run_pure];have h:=k (lit (.slice (some ⟨b,0,none⟩) (n0+k0) c)) [(b,e,(cs++ds)++List.replicate (c*sz-(n0+k0)*sz) top)] ⟨by rw [List.length_append,hcl,hds,Nat.add_mul], .inr ⟨_,_,hroom,hcm,rfl,rfl⟩⟩;unfold WPL at h
   have hfin:ak m0 ((cs++ds)++List.replicate (c*sz-(n0+k0)*sz) top) (arr.toList.take (n0*i.size)++l2++arr.toList.drop (n0*i.size+l2.length)).toArray.toList:=by
    obtain⟨q1,q2⟩:=(getc m0 h20).split;rw [hcl]at q1 q2;rw [hsz,hlen2,hds,List.toList_toArray];refine(q1.append (get2 m0 h10 (hp0 y))).append (ak.topL ?_ fun u hu=>?_)
    ·rw [List.length_drop,Array.length_toList,Nat.add_mul];omega
    ·exact hall.flat u (List.mem_of_mem_drop hu)
   obtain⟨q1,q2,q3,q4⟩:=iH (w':=w.setRow b (arr.toList.take (n0*i.size)++l2++arr.toList.drop (n0*i.size+l2.length)).toArray) h10 h20 h30 h40 (.here Rs)
    (setRow_heap w b arr _ e _ hb) (fun j hj=>setRow_other w b j _ hj) rfl rfl ⟨rfl,rfl⟩ (by simp) hfin
   refine hK' _ _ (h (a.put (some d) (.slice (some ⟨b,0,none⟩) (n0+k0) c)) _ ⟨hdef,by simpa [Act.put] using hn,m0,q1,q2,q3,q4,fun t=>?_⟩ Q hq);rw [g9 (Nat.lt_of_lt_of_le (Nat.blt_eq.mp hd) hn)];unfold Ab.upd;by_cases ht:t=d
   ·subst ht;rw [if_pos rfl,Nat.beq_refl];exact aj.2 rfl
   ·rw [if_neg ht]
    have:Nat.beq t d=false:=by
     cases hbb:Nat.beq t d with
     |false=>rfl
     |true=>exact absurd (Nat.eq_of_beq_eq_true hbb) ht
    rw [this];exact h50 t
  ·have hxs:∀j u,(arr.toList.take (n0*sz))[j]? = some u→w.cell? ((⟨b,0,none⟩:Addr).add j)=some u:=fun j u hj=>by
    rw [aK,cv w b _ arr _ _ hb];rw [List.getElem?_take]at hj;split at hj
    ·simpa using hj
    ·cases hj
   have hrun:=run_append_grow (P:=P) w T ty e i v hS.h hi hz ⟨b,0,none⟩ n0 c (arr.toList.take (n0*sz)) (by rw [List.length_take,Array.length_toList,hsz];omega) hxs
    ⟨b2,off2,none⟩ k0 c2 l2 (by rw [hlen2,hsz,hds]) hys om om (growslice_fits om (by rw [hbyt];exact hmul _ om))
   rw [e0];simp only [Sem.run_bind,hrun,Result.andThen_ok,Sem.run_pure];have hge:=grownCap_ge w (n0+k0) c e;have hle:=grownCap_le_maxLen w (n0+k0) c e (by simp only [maxLen];omega)
   have h:=k (lit (.slice (some ⟨w.heap.size,0,none⟩) (n0+k0) (grownCap w (n0+k0) c e))) [(w.heap.size,e,(cs++ds)++List.replicate (grownCap w (n0+k0) c e*sz-(n0+k0)*sz) top)]
    ⟨by rw [List.length_append,hcl,hds,Nat.add_mul], .inr ⟨_,_,hge,hle,rfl,rfl⟩⟩
   unfold WPL at h
   have hst:=St.pushD (d:=d) (cs:=(cs++ds)++List.replicate (grownCap w (n0+k0) c e*sz-(n0+k0)*sz) top) (v := .slice (some ⟨w.heap.size,0,none⟩) (n0+k0) (grownCap w (n0+k0) c e)) (T:=e)
    (arr:=(arr.toList.take (n0*sz)).toArray++l2.toArray++Builtin.zeroCells v.cells (grownCap w (n0+k0) c e-(n0+k0))) (Nat.blt_eq.mp hd) hs fun m h1 h2 h3=>?_
   ·refine hK' _ _ (h _ _ ?_ Q hq);exact hst.drop (.there _ (.here _))
   ·simp only [Array.toList_append,List.toList_toArray];obtain⟨q1,_⟩:=(getc m h2).split;rw [hcl]at q1;refine(q1.append (get2 m h1 (h3 y))).append (ak.topL ?_ (zeroCells_one hfl));rw [Array.length_toList,size_zeroCells,hvs,Nat.sub_mul]
end
section
variable {P:Program}{C:Ctx}{n:Nat}{F:Fr}{H:LH}{ty:TypeId}
theorem yA {m:Mem}{b k:Nat}{arr:Array Value}{T:TypeId}{cs:List SV}(hb:m b=some (.cells arr T (0,0))) (h:ak m cs arr.toList) (hk:k≤maxLen):(xsl cs k).p m (.slice (some ⟨b,0,none⟩) k k):=by
 unfold xsl;exact⟨some ⟨b,0,none⟩,rfl,hk,fun e=>(by cases e), .inr ⟨b,0,rfl,arr,T,(0,0),hb,by rw [List.drop_zero,←h.length,List.take_length];exact h⟩⟩
theorem gO {T e:TypeId}{sz by_:Nat}{z:List SV}{g:Bool} [hS:TSl P T e] [hT:TY P e sz by_ z g]{x:Operand}{s:SV}{ds:List SV}(hx:ev F x=s) (hco:CO s ds) (hf:fx ((List.range 1).map fun i=>(i*sz,sz)) (List.replicate 1 z).flatten [(0,ds)]=some ds:=by exact rfl)
  (hsz:Nat.ble (1*sz) 16777216=true:=by exact rfl) (hpos:Nat.blt 0 sz=true:=by exact rfl):OpV P (.buildSlice T 1 [(0,x)].toArray) ty F H (xsl ds 1) :=
 OpV.pubN (fO (.cons hx hco .nil) hf hsz hpos) fun m b arr hb h=>yA hb h (by simp only [maxLen];omega)
theorem bs {T e:TypeId}{sz by_:Nat}{z:List SV}{g:Bool} [hS:TSl P T e] [hT:TY P e sz by_ z g]{len:Nat}{l:List (Nat×Operand)}{r:List (Nat×List SV)}{cs:List SV}(hp:eO F l r) (hf:fx ((List.range len).map fun i=>(i*sz,sz)) (List.replicate len z).flatten r=some cs:=by exact rfl)
  (hsz:Nat.ble (len*sz) 16777216=true:=by exact rfl) (hpos:Nat.blt 0 sz=true:=by exact rfl) (hl:Nat.ble len 1000=true:=by exact rfl):OpV P (.buildSlice T len l.toArray) ty F H (sl cs len) :=
 OpV.pubN (fO hp hf hsz hpos) fun m b arr hb h=>Cb hb h (by have:=Nat.le_of_ble_eq_true hl;simp only [maxLen];omega)
theorem HN {T e:TypeId}{sz by_:Nat}{z:List SV}{g:Bool} [hS:TSl P T e] [hT:TY P e sz by_ z g]{x y:Operand}{cs:List SV}{k:Nat}{v:Int}(j:Nat) (hx:ev F x=sl cs k) (hy:ev F y=lit (.int .i64 v)) (hv:v=(j:Int)) (hj:j≤k) :
  OpV P (.slice T x none (some y) none) ty F H (sl (cs.take (j*sz)) j) :=
 OpV.pure fun m w o a ho _ _ _ h=>by
  have e0:=h x (by simp [Op.operands]);rw [hx]at e0;have e1:=h y (by simp [Op.operands]);rw [hy,aj]at e1;subst hv;obtain⟨ad,cap,e0,hc1,hc2,hca⟩:=ci e0
  have hb:(Instr.sliceBounds true k cap none (some (a.eval y)) none).run P w = .ok (0,j,cap) w:=by
   simp [Instr.sliceBounds,gH j cap _ e1 om]
  have hrun:∃a',(execOp a.eval o).run P w = .ok (.value (.slice a' j cap)) w∧∀b off,ad=some ⟨b,off,none⟩→a'=some ⟨b,off,none⟩:=by
   refine⟨if cap=0 then ad else ad.map (·.add 0),?_,?_⟩
   ·simp [execOp,ho,Instr.sliceAt,Instr.slice,underlying,hS.h,e0,hb,hT.run_size]
   ·rintro b off rfl;simp [aK]
  obtain⟨a',hr,q3⟩:=hrun;refine⟨_,hr,eJ om hc2 ?_⟩;rcases hca with hnil|⟨b,off,rfl,hca⟩
  ·left;rw [hnil,List.take_nil]
  ·exact .inr ⟨b,off,q3 b off rfl,hca.take _⟩
theorem fS {T e:TypeId}{sz by_:Nat}{z:List SV}{g:Bool} [hS:TSl P T e] [hT:TY P e sz by_ z g]{x y y':Operand}{cs:List SV}{k:Nat}{v v':Int}(j:Nat) (hx:ev F x=sl cs k) (hy:ev F y=lit (.int .i64 v)) (hy':ev F y'=lit (.int .i64 v')) (hv:v=(j:Int)) (hv':v'=(j:Int)) (hk:cs.length=k*sz) (hj:j≤k) (hpos:0<sz:=by decide) :
  OpV P (.slice T x none (some y) (some y')) ty F H (xsl (cs.take (j*sz)) j) :=
 OpV.pure fun m w o a ho _ _ _ h=>by
  have e0:=h x (by simp [Op.operands]);rw [hx]at e0;have e1:=h y (by simp [Op.operands]);rw [hy,aj]at e1;have e2:=h y' (by simp [Op.operands]);rw [hy',aj]at e2;subst hv hv';obtain⟨ad,cap,e0,hc1,hc2,hca⟩:=ci e0
  have hb:(Instr.sliceBounds true k cap none (some (a.eval y)) (some (a.eval y'))).run P w = .ok (0,j,j) w:=by
   simp [Instr.sliceBounds,gH j cap _ e2 om,gH j j _ e1 (Nat.le_refl _)]
  have hrun:∃a',(execOp a.eval o).run P w = .ok (.value (.slice a' j j)) w∧(∀q,ad=some q→∃q',a'=some q')∧∀b off,ad=some ⟨b,off,none⟩→a'=some ⟨b,off,none⟩:=by
   refine⟨if j=0 then ad else ad.map (·.add 0),?_,?_,?_⟩
   ·simp [execOp,ho,Instr.sliceAt,Instr.slice,underlying,hS.h,e0,hb,hT.run_size]
   ·rintro q rfl;split <;> simp
   ·rintro b off rfl;simp [aK]
  obtain⟨a',hr,q2,q3⟩:=hrun;refine⟨_,hr,?_⟩;unfold xsl;refine⟨a',rfl,om,fun hn=>?_,?_⟩
  ·rcases hca with hnil|⟨b,off,rfl,_⟩
   ·rw [hnil,List.length_nil]at hk;rcases Nat.mul_eq_zero.mp hk.symm with h|h <;> omega
   ·obtain⟨q',hq⟩:=q2 _ rfl;rw [hq]at hn;cases hn
  ·rcases hca with hnil|⟨b,off,rfl,hca⟩
   ·left;rw [hnil,List.take_nil]
   ·exact .inr ⟨b,off,q3 b off rfl,hca.take _⟩
theorem ay {T e:TypeId}{sz by_:Nat}{z:List SV}{g:Bool} [hS:TSl P T e] [hT:TY P e sz by_ z g]{x y:Operand}{cs ds:List SV}{k k0:Nat}(hx:ev F x=xsl cs k) (hy:ev F y=sl ds k0) (hk:cs.length=k*sz) (hds:ds.length=k0*sz) (hl:k+k0≤1000000) (hpos:0<sz:=by decide) (hby:by_≤10000:=by decide) :
  OpV P (.call ⟨.builtin .append,#[x,y],#[T,T]⟩) ty F H (sl (cs++ds) (k+k0)):=by
 refine OpV.of0 ?_;intro m w o a ho hty h1 h2 h3 K Q hK;have e0:=evA (x:=x) h3 (by simp [Op.operands,Call.operands]);rw [hx]at e0;have e1:=evA (x:=y) h3 (by simp [Op.operands,Call.operands]);rw [hy]at e1;unfold xsl at e0;obtain⟨ad,e0,hkm,hadn,hca⟩:=e0;have e1s:=e1;obtain⟨ad2,cap2,e2,hc1,hc2,hcb⟩:=ci e1s;obtain⟨i,v,hi,hsz,hbyt,hz,hzl,hfl,hvs⟩:=hT.run_bytes;have hmul:∀q,q≤2000001→q*by_≤140737488355328:=fun q hq=>Nat.le_trans (Nat.mul_le_mul hq hby) (by decide)
 have hexec:execOp a.eval o=(do let v←Builtin.append_ #[T,T] o.type #[a.eval x,a.eval y];pure (.value v)):=by
  simp [execOp,ho,resolve,invoke,builtin]
 by_cases hk0:k0=0
 ·subst hk0;rw [Nat.zero_mul]at hds;obtain rfl:=List.eq_nil_of_length_eq_zero hds
  have hs:Src P i.size T (.slice ad2 0 cap2) 0 [] w:=by
   cases ad2 with
   |none=>exact Src.ofNil w hS.h cap2
   |some a2=>exact Src.ofSlice w hS.h a2 0 cap2 [] (by simp) (by intro j u hj;simp at hj) (by intro u hu;cases hu)
  have hrun:=run_append_nothing (P:=P) w T T o.type e i hS.h hi ad k k (Nat.le_refl _) _ hs;unfold Oper.wp;rw [hexec,e0,e2];simp only [Sem.run_bind,hrun,Result.andThen_ok,Sem.run_pure];refine hK _ m w (eJ (Nat.le_refl _) hkm ?_) h1 (Rel.refl _ _ _);rw [List.append_nil];exact hca
 ·obtain⟨b2,off2,rfl,arr2,T2,fz2,hb2,hall2⟩:=hcb.resolve_left (fun h=>by
   rw [h,List.length_nil]at hds;rcases Nat.mul_eq_zero.mp hds.symm with h|h <;> omega)
  have hw2:=h1 _ _ hb2;rw [hds]at hall2;generalize hl2:(arr2.toList.drop off2).take (k0*sz)=l2 at hall2;have hlen2:l2.length=k0*sz:=by rw [hall2.length,hds]
  have hys:∀j u,l2[j]? = some u→w.cell? ((⟨b2,off2,none⟩:Addr).add j)=some u:=fun j u hj=>by
   rw [aK,cv w b2 _ arr2 _ _ hw2];rw [←hl2,List.getElem?_take]at hj;split at hj
   ·rw [List.getElem?_drop]at hj;simpa using hj
   ·cases hj
  have fin:∀(c:Nat) (arr:Array Value),k+k0≤c→c≤maxLen→ak m (cs++ds) (arr.toList.take ((k+k0)*sz))→(Builtin.append_ #[T,T] o.type #[a.eval x,a.eval y]).run P w = .ok (.slice (some ⟨w.heap.size,0,none⟩) (k+k0) c) (w.drew.alloc (.cells arr e))→o.wp P a w K Q:=by
   intro c arr hc hcm hall hrun;unfold Oper.wp;rw [hexec];simp only [Sem.run_bind,hrun,Result.andThen_ok,Sem.run_pure];obtain⟨m',g1,g2,g3⟩:=yX (w':=w.drew.alloc (.cells arr e)) h1 (.inr rfl);refine hK _ m' _ (eJ hc hcm (.inr ⟨w.heap.size,0,rfl,arr,e,(0,0),g3,?_⟩)) g1 g2;rw [List.drop_zero,List.length_append,hk,hds,←Nat.add_mul];exact hall.mono g2.le
  have tk:∀(l1 r:List Value),ak m cs l1→l1.length=k*sz→ak m (cs++ds) ((l1++l2++r).take ((k+k0)*sz)):=fun l1 r hall1 hlen1=>by
   have hlk:(l1++l2).length=(k+k0)*sz:=by rw [List.length_append,hlen1,hlen2,Nat.add_mul]
   rw [List.take_append_of_le_length (by rw [hlk];exact Nat.le_refl _),List.take_of_length_le (by rw [hlk];exact Nat.le_refl _)];exact hall1.append hall2
  rcases hca with hnil|⟨b1,off1,rfl,arr1,T1,fz1,hb1,hall1⟩
  ·subst hnil
   have hk1:k=0:=by
    rw [List.length_nil]at hk;rcases Nat.mul_eq_zero.mp hk.symm with h|h <;> omega
   subst hk1;cases ad with
   |none =>
    have hrun:=run_append_nil (P:=P) w T o.type e i v hS.h hi hz ⟨b2,off2,none⟩ k0 cap2 l2 (by rw [hlen2,hsz]) hys om om (by rw [hbyt];have:=hmul k0 om;omega);rw [←e0,←e2]at hrun;refine fin (grownCap w k0 0 e) _ (by rw [Nat.zero_add];exact grownCap_ge w k0 0 e) (grownCap_le_maxLen w k0 0 e (by simp only [maxLen];omega)) ?_ (by rw [Nat.zero_add];exact hrun);simp only [Array.toList_append,List.toList_toArray];exact tk [] _ trivial (by simp)
   |some ad =>
    refine fin _ _ (grownCap_ge w (0+k0) 0 e) (grownCap_le_maxLen w (0+k0) 0 e (by simp only [maxLen];omega)) ?_ (by rw [e0,e2];exact run_append_grow (P:=P) w T o.type e i v hS.h hi hz ad 0 0 [] (by simp) (by intro j u hj;simp at hj) ⟨b2,off2,none⟩ k0 cap2 l2 (by rw [hlen2,hsz]) hys om om (growslice_fits om (by rw [hbyt];exact hmul _ om)));simp only [Array.toList_append,List.toList_toArray];exact tk [] _ trivial (by simp)
  ·have hw1:=h1 _ _ hb1;have hlen1:=hall1.length;rw [hk]at hall1 hlen1
   have hxs:∀j u,((arr1.toList.drop off1).take (k*sz))[j]? = some u→w.cell? ((⟨b1,off1,none⟩:Addr).add j)=some u:=fun j u hj=>by
    rw [aK,cv w b1 _ arr1 _ _ hw1];rw [List.getElem?_take]at hj;split at hj
    ·rw [List.getElem?_drop]at hj;simpa using hj
    ·cases hj
   refine fin _ _ (grownCap_ge w (k+k0) k e) (grownCap_le_maxLen w (k+k0) k e (by simp only [maxLen];omega)) ?_ (by rw [e0,e2];exact run_append_grow (P:=P) w T o.type e i v hS.h hi hz ⟨b1,off1,none⟩ k k ((arr1.toList.drop off1).take (k*sz)) (by rw [hlen1,hsz]) hxs ⟨b2,off2,none⟩ k0 cap2 l2 (by rw [hlen2,hsz]) hys om om (growslice_fits om (by rw [hbyt];exact hmul _ om)));simp only [Array.toList_append,List.toList_toArray];exact tk _ _ hall1 hlen1
theorem qS {cs:List SV}{k:Nat}:Le (xsl cs k) (sl cs k):=fun m v h=>by
 unfold xsl at h;obtain⟨a,rfl,hk,_,hca⟩:=h;exact eJ (Nat.le_refl _) hk hca
end
theorem sX {α:Type}{f:α→List SV}{sz:Nat}(hf:∀a,(f a).length=sz) (l:List α) (x:α) (j:Nat):((l.map f).flatten).take (j*sz)++(f x++((l.map f).flatten).drop (j*sz))=(((l.take j)++x::l.drop j).map f).flatten:=by
 have h:∀(l:List α) (j:Nat),((l.map f).flatten).take (j*sz)=((l.take j).map f).flatten∧((l.map f).flatten).drop (j*sz)=((l.drop j).map f).flatten:=by
  intro l;induction l with
  |nil=>intro j;simp
  |cons a l ih =>
   intro j;cases j with
   |zero=>simp
   |succ j =>
    obtain⟨i1,i2⟩:=ih j;have e:(j+1)*sz=(f a).length+j*sz:=by rw [hf,Nat.succ_mul];omega
    constructor
    ·rw [List.map_cons,List.flatten_cons,e,List.take_length_add_append,i1,List.take_succ_cons,List.map_cons,List.flatten_cons]
    ·rw [List.map_cons,List.flatten_cons,e,List.drop_length_add_append,i2,List.drop_succ_cons]
 obtain⟨i1,i2⟩:=h l j;rw [i1,i2,List.map_append,List.flatten_append,List.map_cons,List.flatten_cons]
theorem bk {α:Type}{f:α→List SV}{sz:Nat}(hf:∀a,(f a).length=sz) (l:List α):((l.map f).flatten).length=l.length*sz:=by
 induction l with
 |nil=>simp
 |cons a l ih=>rw [List.map_cons,List.flatten_cons,List.length_append,ih,hf,List.length_cons,Nat.succ_mul,Nat.add_comm]
theorem tf {α:Type}{f:α→List SV}{sz:Nat}(hf:∀a,(f a).length=sz):∀(l:List α) (j:Nat),((l.map f).flatten).take (j*sz)=((l.take j).map f).flatten
 | [],j=>by simp
 |a::l,0=>by simp
 |a::l,j+1=>by
  have e:(j+1)*sz=(f a).length+j*sz:=by rw [hf,Nat.succ_mul];omega
  rw [List.map_cons,List.flatten_cons,e,List.take_length_add_append,tf hf l j,List.take_succ_cons,List.map_cons,List.flatten_cons]
theorem Cj {α:Type}{f:α→List SV}{sz:Nat}(hf:∀a,(f a).length=sz):∀{l:List α}{k:Nat}{a:α}(r:List SV),l[k]? = some a→(((l.map f).flatten++r).drop (k*sz)).take sz=f a
 | [],k,a,r,h=>by simp at h
 |b::l,0,a,r,h=>by
  simp only [List.getElem?_cons_zero,Option.some.injEq]at h;subst h;rw [Nat.zero_mul,List.drop_zero,List.map_cons,List.flatten_cons,List.append_assoc,List.take_append_of_le_length (by rw [hf];exact Nat.le_refl _),List.take_of_length_le (by rw [hf];exact Nat.le_refl _)]
 |b::l,k+1,a,r,h=>by
  have e:(k+1)*sz=(f b).length+k*sz:=by rw [hf,Nat.succ_mul];omega
  rw [List.map_cons,List.flatten_cons,List.append_assoc,e,List.drop_length_add_append];exact Cj hf r (by simpa using h)
def wD:Nat→List (List SV)→List (Nat×List SV)
 |_,[]=>[]
 |i,d::r=>(i,d)::wD (i+1) r
theorem tI:∀(ds pre zs:List SV),ds.length≤zs.length→spl (pre++zs) pre.length ds=pre++ds++zs.drop ds.length
 | [],pre,zs,_=>by rw [spl];simp
 |d::ds,pre,[],h=>by simp at h
 |d::ds,pre,z::zs,h=>by
  have e:(pre++z::zs).set pre.length d=(pre++[d])++zs:=by
   rw [List.set_append_right _ _ (Nat.le_refl _),Nat.sub_self,List.set_cons_zero];simp
  rw [spl,e,show pre.length+1=(pre++[d]).length by simp,tI ds (pre++[d]) zs (by simpa using h)];simp
theorem tg {sz len:Nat}:∀(dss:List (List SV)) (i:Nat) (pre zs:List SV),(∀d∈dss,d.length=sz)→pre.length=i*sz→i+dss.length=len→zs.length=dss.length*sz→
  fx ((List.range len).map fun i=>(i*sz,sz)) (pre++zs) (wD i dss)=some (pre++dss.flatten)
 | [],i,pre,zs,_,_,_,hz=>by
  rw [List.length_nil,Nat.zero_mul]at hz;rw [List.eq_nil_of_length_eq_zero hz,wD,fx];rfl
 |d::dss,i,pre,zs,hd,hp,hl,hz=>by
  have hd0:=hd d Ms;rw [List.length_cons,Nat.succ_mul]at hz
  have hg:((List.range len).map fun i=>(i*sz,sz))[i]? = some (i*sz,sz):=by
   rw [List.getElem?_map,List.getElem?_range (by simp only [List.length_cons]at hl;omega)];rfl
  have hsp:=tI d pre zs om;rw [wD,fx,hg];simp only;rw [hd0,show Nat.beq sz sz=true from Nat.beq_refl sz,show Nat.ble (i*sz+sz) (pre++zs).length=true from Nat.ble_eq_true_of_le (by rw [List.length_append];omega),←hp,hsp];simp only [Bool.and_self,cond_true];rw [tg dss (i+1) (pre++d) (zs.drop d.length) (fun x hx=>hd x (Mc hx)) (by rw [List.length_append,hp,hd0,Nat.succ_mul]) (by simp only [List.length_cons]at hl;omega) (by rw [List.length_drop];omega)];simp
theorem ui {P:Program}{F:Fr}{H:LH}{ty T e:TypeId}{sz by_:Nat}{z:List SV}{g:Bool} [hS:TSl P T e] [hT:TY P e sz by_ z g]{α:Type}{f:α→List SV}(hf:∀a,(f a).length=sz) (ps:List α){len:Nat}{l:List (Nat×Operand)}{r:List (Nat×List SV)}(hp:eO F l r)
  (hr:r=wD 0 (ps.map f):=by exact rfl) (hn:len=ps.length:=by exact rfl) (hsz:Nat.ble (len*sz) 16777216=true:=by exact rfl) (hpos:Nat.blt 0 sz=true:=by exact rfl) (hl:Nat.ble len 1000=true:=by exact rfl):OpV P (.buildSlice T len l.toArray) ty F H (sl (ps.map f).flatten ps.length):=by
 have hz1:z.length=sz:=by
  obtain⟨l,_,h2,_,h4⟩:=hT.info;rw [←h2,List.length_map,h4]
 subst hn hr;refine bs hp ?_ hsz hpos hl
 have:=tg (sz:=sz) (len:=ps.length) (ps.map f) 0 [] (List.replicate ps.length z).flatten (fun d hd=>by
  obtain⟨a,_,rfl⟩:=List.mem_map.1 hd;exact hf a) (by simp) (by simp) (by
  have h:∀k:Nat,((List.replicate k z).flatten).length=k*sz:=fun k=>by
   induction k with
   |zero=>simp
   |succ k ih=>rw [List.replicate_succ,List.flatten_cons,List.length_append,ih,hz1,Nat.succ_mul,Nat.add_comm]
  rw [h,List.length_map])
 simpa using this
theorem eO.pt {F:Fr}{i:Nat}{x:Operand}{cs:List SV}{l:List (Nat×Operand)}{r:List (Nat×List SV)}(hx:ev F x=ag cs) (h:eO F l r):eO F ((i,x)::l) ((i,cs)::r) := .cons hx inferInstance h
section
variable {P:Program}{C:Ctx}{n:Nat}{Q:Exit→Fr→LH→Prop}{F:Fr}{H:LH}
theorem WP.rowS {c:Code}{T:TypeId}{sz k:Nat}{cs:List SV}{s:SV}{Hs R:LH}(d:Nat) (hown:Own T sz k cs s Hs) (hF:F d=s) (hp:H.Perm (Hs++R)) (h:WP P C n c Q (upd F d (sl cs k)) R):WP P C n c Q F H:=by
 refine WP.perm hp ?_;obtain⟨hcl,⟨rfl,rfl,rfl⟩|⟨b,c',h1,h2,rfl,rfl⟩⟩:=hown
 ·rw [Nat.zero_mul]at hcl;obtain rfl:=List.eq_nil_of_length_eq_zero hcl;refine WP.le (F':=upd F d (sl [] 0)) (fun t=>?_) h;by_cases ht:t=d
  ·subst ht;rw [aA,hF];exact ew
  ·rw [au ht];exact Le.refl _
 ·exact WP.pub (ac.here _) hF (fun m arr g1 g2=>vP g1 g2 h1 h2) h
theorem WPL.rowS {l:List Oper}{ops:Array Oper}{K:Fr→LH→Prop}{T:TypeId}{sz k:Nat}{cs:List SV}{s:SV}{Hs R:LH}(d:Nat) (hown:Own T sz k cs s Hs) (hF:F d=s) (hp:H.Perm (Hs++R)) (h:WPL P C n ops l K (upd F d (sl cs k)) R):WPL P C n ops l K F H:=by
 refine WPL.perm hp ?_;obtain⟨hcl,⟨rfl,rfl,rfl⟩|⟨b,c',h1,h2,rfl,rfl⟩⟩:=hown
 ·rw [Nat.zero_mul]at hcl;obtain rfl:=List.eq_nil_of_length_eq_zero hcl;refine WPL.le (F':=upd F d (sl [] 0)) (fun t=>?_) h;by_cases ht:t=d
  ·subst ht;rw [aA,hF];exact ew
  ·rw [au ht];exact Le.refl _
 ·exact WPL.pub (ac.here _) hF (fun m arr g1 g2=>vP g1 g2 h1 h2) h
end
section
variable {P:Program}{F:Fr}{H:LH}{ty:TypeId}
theorem dv {x ix:Operand}{T e:TypeId}{len k by2:Nat}{z2:List SV}{g2:Bool} [hE:TY P e k by2 z2 g2] (hA:P.underlying T=some (.array len e)){ki:IntKind}{b:Nat}{i:Int}
  (hx:ev F x=lit (.pointer (some ⟨b,0,none⟩))) (hi:ev F ix=lit (.int ki i)) (h0:0≤i) (h1:i<len):OpV P (.indexAddr T x ix) ty F H (lit (.pointer (some ⟨b,i.toNat*k,none⟩))) :=
 OpV.pure fun m w o a hop _ _ _ h=>by
  have e0:=h x (by simp [Op.operands]);rw [hx,aj]at e0;have e1:=h ix (by simp [Op.operands]);rw [hi,aj]at e1;refine⟨.pointer (some ⟨b,i.toNat*k,none⟩),?_,aj.2 rfl⟩;simp [execOp,hop,e0,e1,Instr.indexAt,Instr.sureAddr,asIntOf,underlying,hA,h0,h1,hE.run_size,aK]
end
abbrev ppx (p:Pq):List SV:=[lit (.int .i64 (r0 p.1)),lit (.int .i64 (r1 p.1)),r2 p.1,lit (.int .i64 (r0 p.2)),lit (.int .i64 (r1 p.2)),r2 p.2]
theorem et (p:Pq):(ppx p).length=6:=rfl
abbrev pps (l:List Pq):SV:=sl (l.map ppx).flatten l.length
section
variable {P:Program}{C:Ctx}{n:Nat}{F:Fr}{H:LH}{Post:Exit→Act→World→Prop}
attribute [local semireducible] WP WPL dZ jD Dk
def WPY (P:Program) (C:Ctx) (n:Nat) (c:Code) (Post:Exit→Act→World→Prop) (F:Fr) (H:LH):Prop:=∀a w,St C n F H a w→∀d,c.wpIn (fe none) d P Post a w
theorem WPY.seq {x y:Code}(hpan:∀pv H,¬C.pan pv H) (h:WPX none P C n x (w6 fun F H=>WPY P C n y Post F H) F H):WPY P C n (.seq x y) Post F H:=by
 intro a w hs d;refine wpIn_seq (wpIn_mono (h a w hs d) ?_);rintro e a' w' (⟨F',H',hs',hq⟩|⟨ch,rfl,_,m,v,pv,H',_,_,_,_,_,_,hx⟩)
 ·cases e with
  |normal=>exact hq a' w' hs' d
  |_=>exact hq.elim
 ·exact absurd hx (hpan _ _)
theorem w6.i {K:Fr→LH→Prop}(h:K F H):w6 K .normal F H:=h
theorem WPY.le {c:Code}{F':Fr}(k:LeF F F') (h:WPY P C n c Post F' H):WPY P C n c Post F H:=fun a w hs=>h a w (hs.le k)
theorem WPY.last {c:Code}{Q:Exit→Fr→LH→Prop}(h:WPX none P C n c Q F H) (k:∀e a w,gV C n Q e a w→Post e a w):WPY P C n c Post F H:=fun a w hs d=>wpIn_mono (h a w hs d) k
theorem WPY.block {id:Nat}{c:Code}(h:WPY P C n c (Exit.inBlock id Post) F H):WPY P C n (.block id c) Post F H:=fun a w hs d=>wpIn_block (h a w hs d)
theorem WPY.loop {c:Code}(J:Nat→Fr) (I:Nat→Prop) (L:LH) (k:Nat) (hI:I k) (h0:LeF F (J k)) (hH:L.Sublist H) (hs:∀k,I k→WPY P C n c (Exit.then (fun a w=>∃j,j<k∧I j∧St C n (J j) L a w) Post) (J k) L):WPY P C n (.loop c) Post F H:=by
 intro a w hst d
 have key:∀k a w,I k→St C n (J k) L a w→Code.roundsIn (fe none) d P c Post (k+1) a w:=by
  intro k;induction k using Nat.strongRecOn with
  |ind k ih =>
   intro a w hIk hst;refine wpIn_mono (hs k hIk a w hst d) ?_;intro e a' w' hq;cases e with
   |normal =>
    obtain⟨j,hj,hIj,hst'⟩:=hq;have h1:=ih j hj a' w' hIj hst'
    have mono:∀(q q':Nat) (a:Act) (w:World),q≤q'→Code.roundsIn (fe none) d P c Post q a w→Code.roundsIn (fe none) d P c Post q' a w:=by
     intro q;induction q with
     |zero=>intro q' a w _ h;exact h.elim
     |succ q ihq =>
      intro q' a w hle h;obtain⟨q'',rfl⟩:∃q'',q'=q''+1:=⟨q'-1,om⟩
      refine wpIn_mono h ?_;intro e a w hq;cases e with
      |normal=>exact ihq q'' a w om hq
      |_=>exact hq
    exact mono (j+1) k a' w' om h1
   |_=>exact hq
 exact wpIn_loop_rounds (k+1) (key k a w hI ((hst.sub hH).le h0))
end
theorem uH {l:List Pq}{i:Nat}(h:i<l.length):l[i]? = some (l.getD i (0,0)):=by
 rw [List.getD_eq_getElem?_getD,List.getElem?_eq_getElem h];rfl
def Li.neg (l:Li):Li:=⟨-l.a,-l.b,-l.c⟩
theorem Gp (a b c:Int):g3 a b c=((Nat.gcd (Nat.gcd a.natAbs b.natAbs) c.natAbs:Nat):Rat):=by
 unfold g3;rw [er,show((Nat.gcd a.natAbs b.natAbs:Nat):Rat)=(((Nat.gcd a.natAbs b.natAbs:Nat):Int):Rat)from rfl,er,Int.natAbs_natCast]
theorem jU {a:Int}{g:Nat}(hg:g≠0) (h:g∣a.natAbs):((a:Rat)*((g:Nat):Rat)⁻¹).num=sv (decide (a<0)) (a.natAbs/g):=by
 obtain⟨k,hk⟩:=h;have hgr:((g:Nat):Rat)≠0:=by exact_mod_cast hg
 have ek:a.natAbs/g=k:=by rw [hk,Nat.mul_div_cancel_left _ (Nat.pos_of_ne_zero hg)]
 have ea:a=(g:Int)*sv (decide (a<0)) k:=by
  have h0:=dW a;rw [hk]at h0;conv=>lhs;rw [←h0]
  cases decide (a<0)
  ·simp [sv]
  ·simp [sv,Int.mul_neg]
 rw [ek];generalize sv (decide (a<0)) k=z at *
 have:(a:Rat)*((g:Nat):Rat)⁻¹=(z:Rat):=by
  rw [ea,Rat.intCast_mul,Rat.mul_comm,←Rat.mul_assoc];rw [show((g:Int):Rat)=((g:Nat):Rat)from rfl,Rat.inv_mul_cancel _ hgr,Rat.one_mul]
 rw [this,Rat.num_intCast]
theorem IS {a b:Int}(c:Int) (h:a≠0∨b≠0):Nat.gcd (Nat.gcd a.natAbs b.natAbs) c.natAbs≠0:=by
 intro e;have h1:=(Nat.gcd_eq_zero_iff.1 e).1;have h2:=Nat.gcd_eq_zero_iff.1 h1;omega
theorem sC {a b:Int}(c:Int) (h:a≠0∨b≠0):dD a b c=⟨sv (decide (a<0)) (a.natAbs/Nat.gcd (Nat.gcd a.natAbs b.natAbs) c.natAbs),sv (decide (b<0)) (b.natAbs/Nat.gcd (Nat.gcd a.natAbs b.natAbs) c.natAbs),
  sv (decide (c<0)) (c.natAbs/Nat.gcd (Nat.gcd a.natAbs b.natAbs) c.natAbs)⟩:=by
 have hg:=IS c h;have d1:Nat.gcd (Nat.gcd a.natAbs b.natAbs) c.natAbs∣a.natAbs:=Nat.dvd_trans (Nat.gcd_dvd_left _ _) (Nat.gcd_dvd_left _ _);have d2:Nat.gcd (Nat.gcd a.natAbs b.natAbs) c.natAbs∣b.natAbs:=Nat.dvd_trans (Nat.gcd_dvd_left _ _) (Nat.gcd_dvd_right _ _);have d3:Nat.gcd (Nat.gcd a.natAbs b.natAbs) c.natAbs∣c.natAbs:=Nat.gcd_dvd_right _ _;unfold dD;rw [Gp];generalize Nat.gcd (Nat.gcd a.natAbs b.natAbs) c.natAbs=g at *;rw [jU hg d1,jU hg d2,jU hg d3]
theorem qA {a b:Int}(c:Int) (h:a≠0∨b≠0):(dD a b c).a.natAbs≤a.natAbs∧(dD a b c).b.natAbs≤b.natAbs∧(dD a b c).c.natAbs≤c.natAbs:=by
 rw [sC c h];simp only [fK];exact⟨Nat.div_le_self _ _,Nat.div_le_self _ _,Nat.div_le_self _ _⟩
theorem Co (x y:Rat):bP (-x) (-y)=bP x y:=by
 unfold bP;rw [Rat.neg_num,Rat.neg_den,Rat.neg_num,Rat.neg_den,Int.natAbs_neg,Int.natAbs_neg]
def thr (x y u v:Rat):Li:=dD (-(v-y)) (u-x) (-(-(v-y)*x+(u-x)*y))
theorem Li.n_pos {l:Li}(hl:l.ok):(0:Rat)<l.b*l.b + -l.a * -l.a:=by
 have h:0<l.b*l.b + -l.a * -l.a:=by
  have h1:0≤l.b*l.b:=by rcases Int.le_total 0 l.b with h|h;exact Int.mul_nonneg h h;exact Int.mul_nonneg_of_nonpos_of_nonpos h h
  have h2:0≤-l.a * -l.a:=by rcases Int.le_total 0 (-l.a)with h|h;exact Int.mul_nonneg h h;exact Int.mul_nonneg_of_nonpos_of_nonpos h h
  rcases hl.2 with h|h
  ·have : -l.a * -l.a≠0:=fun e=>by rcases Int.mul_eq_zero.1 e with e|e <;> omega
   omega
  ·have:l.b*l.b≠0:=fun e=>by rcases Int.mul_eq_zero.1 e with e|e <;> omega
   omega
 exact_mod_cast h
section
variable {P:Program}{F:Fr}{H:LH}{ty:TypeId}
theorem sJ {S:TypeId}{fs:List (Nat×Nat)} [TSt P S fs]{x:Operand}{f off sz:Nat}{cs cs':List SV}(hx:ev F x=ag cs) (_hf:fs[f]? = some (off,sz)) (hk:uN P S f=some (off,true,sz)) (hc:(cs.drop off).take sz=cs'):OpV P (.field S x f) ty F H (ag cs') :=
 OpV.pure fun m w o a ho _ _ _ h=>by
  have h0:=h x (by simp [Op.operands]);rw [hx]at h0;unfold ag at h0;obtain⟨arr,h0,hall⟩:=h0;have hall':=(hall.drop off).take sz;rw [hc]at hall';unfold uN at hk;cases hu:P.underlying S with
  |none=>rw [hu]at hk;cases hk
  |some d =>
   rw [hu]at hk;cases d with
   |struct A =>
    simp only [Option.bind_eq_some_iff,Option.map_eq_some_iff,Prod.mk.injEq]at hk;obtain⟨fl,hfl,d,hd,i,hi,e1,e2,e3⟩:=hk
    have hg:(isAgg fl.type).run P w = .ok true w:=by
     cases d <;> first|(cases e2;done)|simp [isAgg,underlying,hd]
    have hs:(sizeOf fl.type).run P w = .ok i.size w:=by
     simp [sizeOf,typeInfo,hi]
    refine⟨.agg (arr.extract off (off+sz)),?_,by unfold ag;exact⟨_,rfl,by
     have e:(arr.extract off (off+sz)).toList=(arr.toList.drop off).take sz:=by
      simp [List.take_drop,Nat.add_sub_cancel_left]
     rw [e];exact hall'⟩⟩
    simp [execOp,ho,h0,Instr.field,underlying,hu,hfl,asAgg,part,hg,hs,e1,e3]
   |_=>cases hk
theorem FS {T e:TypeId}{by_:Nat}{z0:SV}{g:Bool} [hS:TSl P T e] [hT:TY P e 1 by_ [z0] g]{x y:Operand}{k:Nat}
  (hx:ev F x=lit (.int .i64 k)) (hy:ev F y=lit (.int .i64 k)) (hk:k*by_≤140737488355328) (hk':k≤9223372036854775807):jM P (.makeSlice T x y) F e (List.replicate k z0) (mkS k):=by
 intro w o a ho ⟨m0,hm0⟩;obtain⟨v,hz,hall⟩:=hT.run_zero w;obtain⟨i,v',hi,hsz,hby,hz',_,hfl,hvs⟩:=hT.run_bytes;have hvv:v=v':=by simp [zeroValue,typeInfo,hi,hz']at hz;exact hz.symm
 subst hvv;have e0:=evN hm0 (x:=x) (by simp [Op.operands]);rw [hx,aj]at e0;have e1:=evN hm0 (x:=y) (by simp [Op.operands]);rw [hy,aj]at e1
 have hw:IntKind.i64.wrap (k:Int)=k:=by
  simp only [IntKind.wrap,IntKind.bits,IntKind.signed,Bool.true_and];have h1:¬(9223372036854775808:Int)≤(k:Int)%18446744073709551616:=by omega
  simp [h1];omega
 obtain⟨c0,hc0⟩:∃c0,v.cells = #[c0]:=by
  have:v.cells.size=1:=hvs;rcases hvc:v.cells with⟨l⟩
  rw [hvc]at this;match l,this with
  | [c0],_=>exact⟨c0,rfl⟩
 have hrun:(execOp a.eval o).run P w = .ok (.value (.slice (some ⟨w.heap.size,0,none⟩) k k)) (w.alloc (.cells (List.replicate k c0).toArray e)):=by
  have hb:¬((by_:Int)*(k:Int)>281474976710656):=by
   have:(by_*k:Nat)≤281474976710656:=by rw [Nat.mul_comm];omega
   have h2:((by_*k:Nat):Int)≤281474976710656:=by omega
   rw [Int.natCast_mul]at h2;omega
  have hk0:¬((k:Int)<0):=by omega
  have harr:(Array.range k).map (fun j=>v.cells[j%v.cells.size]!)=(List.replicate k c0).toArray:=by
   rw [hc0];apply Array.ext
   ·simp
   ·intro j h1 h2;simp [Nat.mod_one]
  simp only [execOp,ho,Instr.makeSlice,e0,e1,Sem.run_bind,underlying,run_program,hS.h,Result.andThen_ok,Sem.run_pure,asInt,asIntOf,typeInfo,hi,hw,hby]
  have hcond:((decide ((k:Int)<0)||decide ((by_:Int)*(k:Int)>2^48))||decide ((k:Int)<0)||decide ((k:Int)>(k:Int)))=false:=by
   simp only [Bool.or_eq_false_iff,decide_eq_false_iff_not];refine⟨⟨⟨hk0,?_⟩,hk0⟩,om⟩;have:(2:Int)^48=281474976710656:=by decide
   rw [this];exact hb
  simp only [hcond,Bool.false_eq_true,if_false,Int.toNat_natCast,Sem.run_bind,run_askRoom,Result.andThen_ok,hT.run_size,Nat.mul_one,newRow];by_cases hk:k=0
  ·subst hk;simp [show(Array.range 0) = #[]from rfl]
  ·simp only [hk,if_false,Sem.run_bind,hz,Result.andThen_ok,Sem.run_pure,harr,run_newObj,World.alloc_eq]
 refine⟨_,hrun,fun m _=>?_⟩;have:=hall m;rw [hc0]at this;exact ak.replicate this.1.1 this.1.2 k
end
end Go.Ab
