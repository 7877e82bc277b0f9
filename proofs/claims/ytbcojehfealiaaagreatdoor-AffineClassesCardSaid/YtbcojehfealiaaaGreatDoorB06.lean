/- Texts laid one behind the other: RowB, Sort, SortPt, Int, Util, IntB, Bits. -/
import Derived.Test.YtbcojehfealiaaaGreatDoorB05
import Derived.Shelf.SlSortCmp.WholeK
import Derived.Shelf.SlSortCmp.NoneTotal
import Derived.Shelf.SlLaysF0
set_option linter.all false
set_option maxHeartbeats 16000000
namespace Go.Ab
open Go.Proofs
variable [Base]
section
variable {P:Program}{C:Ctx}{n:Nat}{F:Fr}{H:LH}{ops:Array Oper}{K:Fr→LH→Prop}{rest:List Oper}{ty:TypeId}{pos:String}{aft:Array Edge}
theorem aq.mem_or {b:Nat}{T:TypeId}{cs cs':List SV}{H H':LH}(h:aq b T cs cs' H H'):∀e∈H',e=(b,T,cs')∨e∈H:=by
 induction h with
 |here=>exact fun e he=>(List.mem_cons.1 he).imp id fun h=>Mc h
 |there _ _ ih=>exact fun e he=>(List.mem_cons.1 he).elim (fun h => .inr (by rw [h];exact Ms)) fun h=>(ih e h).imp id fun h=>Mc h
theorem St.lowB {b:Nat}{T:TypeId}{cs cs':List SV}{H':LH}{a:Act}{w:World}(hu:aq b T cs cs' H H') (hle:LeL cs cs') (hs:St C n F H a w):St C n F H' a w:=by
 obtain⟨hdef,hn,m,h1,h2,h3,h4,h5⟩:=hs;obtain⟨g1,g2⟩:=h2.2 _ hu.mem;refine⟨hdef,hn,m,h1,⟨by rw [hu.keys];exact h2.1,fun e he=>?_⟩,h3,fun e he=>?_,h5⟩
 ·rcases hu.mem_or e he with rfl|h
  ·exact⟨g1,g2.le hle⟩
  ·exact h2.2 e h
 ·rcases hu.mem_or e he with rfl|h
  ·exact h4 (b,T,cs) hu.mem
  ·exact h4 e h
theorem WPL.lowB {l:List Oper}{b:Nat}{T:TypeId}{cs cs':List SV}{H':LH}(hu:aq b T cs cs' H H') (hle:LeL cs cs') (k:WPL P C n ops l K F H'):WPL P C n ops l K F H:=by
 unfold WPL at *;exact fun a w hs=>k a w (hs.lowB hu hle)
theorem fR {T e:TypeId}{sz by_:Nat}{z:List SV}{g:Bool} [hS:TSl P T e] [hT:TY P e sz by_ z g]{x y:Operand}{cs:List SV}{k:Nat}{v:Int}(j:Nat) (hx:ev F x=sl cs k) (hy:ev F y=lit (.int .i64 v)) (hv:v=(j:Int)) (hk:cs.length=k*sz) (hj:j≤k) :
  OpV P (.slice T x (some y) none none) ty F H (sl (cs.drop (j*sz)) (k-j)) :=
 OpV.pure fun m w o a ho _ _ _ h=>by
  have e0:=h x (by simp [Op.operands]);rw [hx]at e0;have e1:=h y (by simp [Op.operands]);rw [hy,aj]at e1;subst hv;obtain⟨ad,cap,e0,hc1,hc2,hca⟩:=ci e0
  have hb:(Instr.sliceBounds true k cap (some (a.eval y)) none none).run P w = .ok (j,k,cap) w:=by
   simp [Instr.sliceBounds,gH j k _ e1 hj]
  have hrun:∃a',(execOp a.eval o).run P w = .ok (.value (.slice a' (k-j) (cap-j))) w∧(cs.drop (j*sz)=[]∨∃b off,ad=some ⟨b,off,none⟩∧a'=some ⟨b,off+j*sz,none⟩∧dp m b off cs):=by
   refine⟨if cap=j then ad else ad.map (·.add (j*sz)),?_,?_⟩
   ·simp [execOp,ho,Instr.sliceAt,Instr.slice,underlying,hS.h,e0,hb,hT.run_size]
   ·rcases hca with hnil|⟨b,off,rfl,hca⟩
    ·left;rw [hnil,List.drop_nil]
    ·by_cases hci:cap=j
     ·left;have hkj:k=j:=by omega
      exact List.drop_eq_nil_of_le (by rw [hk,hkj];exact Nat.le_refl _)
     ·right;refine⟨b,off,rfl,?_,hca⟩;rw [if_neg hci];simp [aK]
  obtain⟨a',hr,hcs⟩:=hrun;refine⟨_,hr,eJ om om ?_⟩;rcases hcs with hnil|⟨b,off,_,rfl,hca⟩
  ·left;exact hnil
  ·right;exact⟨b,off+j*sz,rfl,hca.drop (j*sz)⟩
attribute [local semireducible] WPL in
theorem TSR.of {i:Nat}{o:Oper}{Fe:Fr}{Post:SV→LH→Prop}(ho:ops[i]? = some o) (hg:o.guard=none) (h:∀F:Fr,(∀t,t∈o.looksAt ops→Fe t=F t)→WPL P {C with pan:=noX} n ops [o] (fun F' H'=>∃sv,Post sv H'∧F'=dJ o F sv) F H):TSR P C n ops i o Fe H Post:=by
 obtain⟨od,oop,oty,opos,oaft,og⟩:=o;simp only at hg;subst hg;intro F hF a w hst Q' K' hK;have h':=h F hF a w hst (fun e a' w'=>match e with| .normal=>K' a' w'|e=>False) ⟨fun a' w' F' H' hst' hKK=>?_,fun ch a' w' hp=>?_⟩
 ·unfold wpOp;rw [ho];unfold wpList at h';simp only [Region.wanted,if_true]at h'⊢;left;rcases h' with h'|⟨_,a0,w0,h0⟩
  ·exact pS h' (fun _ _ _ h=>h.elim) (fun _ _ h=>h.elim)
  ·exact h0.elim
 ·obtain⟨sv,hP,rfl⟩:=hKK;exact hK sv H' hP a' w' hst'
 ·obtain⟨_,_,_,_,_,_,_,_,_,_,_,hx⟩:=hp;exact hx.elim
theorem jq {T e:TypeId}{sz by_:Nat}{z:List SV}{g:Bool} [hS:TSl P T e] [hT:TY P e sz by_ z g]{x:Operand}{s:SV}{ds:List SV}(hx:ev F x=s) (hco:CO s ds) (hf:fx ((List.range 1).map fun i=>(i*sz,sz)) (List.replicate 1 z).flatten [(0,ds)]=some ds:=by exact rfl)
  (hsz:Nat.ble (1*sz) 16777216=true:=by exact rfl) (hpos:Nat.blt 0 sz=true:=by exact rfl):OpV P (.buildSlice T 1 [(0,x)].toArray) ty F H (sl ds 1) :=
 OpV.pubN (fO (.cons hx hco .nil) hf hsz hpos) fun m b arr hb h=>Cb hb h (by simp only [maxLen];omega)
theorem WPL.appOwnS {T e:TypeId}{sz by_:Nat}{z:List SV}{g:Bool} [hS:TSl P T e] [hT:TY P e sz by_ z g]{d:Nat}{x y:Operand}{n0:Nat}{cs ds:List SV}{s:SV}{Hs Rs:LH}
  (hown:Own e sz n0 cs s Hs) (hx:ev F x=s) (hy:ev F y=sl ds 1) (hsp:Spl H Hs Rs) (hds:ds.length=sz) (hpos:0<sz) (hl:n0≤1000000000) (hby:by_≤10000)
  (k:∀s' H',Own e sz (n0+1) (cs++ds) s' H'→WPL P C n ops rest K (upd F d s') (H'++Rs)) (hd:Nat.blt d n=true) :
  WPL P C n ops (⟨some d, .call ⟨.builtin .append,#[x,y],#[T,T]⟩,ty,pos,aft,none⟩::rest) K F H:=by
 unfold WPL;intro a w hs0 Q hq;have hs:=hs0.perm hsp.perm;refine wpList_plain rfl fun K' hK'=>?_
 obtain⟨hdef,hn,m0,h10,h20,h30,h40,h50⟩:=id hs
 have hp0:∀x,(ev F x).p m0 (a.eval x):=fun x=>by
  cases x with
  |tmp t=>exact h50 t
  |const v=>unfold ev lit;rfl
  |global g=>unfold ev lit;rfl
  |func f=>unfold ev lit;rfl
 have e0:=hp0 x;rw [hx]at e0;have e1:=hp0 y;rw [hy]at e1;obtain⟨ad2,c2,e1,hc1,hc2,hcb⟩:=ci e1;obtain⟨b2,off2,rfl,arr2,T2,fz2,hbm2,hall2⟩:=hcb.resolve_left (fun h=>by rw [h]at hds;simp at hds;omega);have hb2:=h10 _ _ hbm2;rw [hds]at hall2;generalize hl2:(arr2.toList.drop off2).take sz=l2 at hall2;obtain⟨i,v,hi,hsz,hbyt,hz,hzl,hfl,hvs⟩:=hT.run_bytes;have hlen2:=hall2.length
 have hys:∀j u,l2[j]? = some u→w.cell? ((⟨b2,off2,none⟩:Addr).add j)=some u:=fun j u hj=>by
  rw [aK,cv w b2 _ arr2 _ _ hb2];rw [←hl2,List.getElem?_take]at hj;split at hj
  ·rw [List.getElem?_drop]at hj;simpa using hj
  ·cases hj
 have hexec:execOp a.eval (⟨some d, .call ⟨.builtin .append,#[x,y],#[T,T]⟩,ty,pos,aft,none⟩:Oper)=(do let v←Builtin.append_ #[T,T] ty #[a.eval x,a.eval y];pure (.value v)):=by
  simp [execOp,resolve,invoke,builtin]
 have hmul:∀q,q≤1000000001→q*by_≤140737488355328:=fun q hq=>Nat.le_trans (Nat.mul_le_mul hq hby) (by decide)
 have get2:∀m,aI m w→(ev F y).p m (a.eval y)→ak m ds l2:=fun m h1 h2=>by
  rw [hy,e1]at h2;obtain⟨ad3,c3,e3,_,_,hcb3⟩:=ci h2;obtain⟨b3,off3,rfl,arr3,T3,fz3,hbm3,hall3⟩:=hcb3.resolve_left (fun h=>by rw [h]at hds;simp at hds;omega);have hb3:=h1 _ _ hbm3;simp only [Value.slice.injEq,Option.some.injEq,Addr.mk.injEq,and_true,true_and]at e3;obtain⟨⟨rfl,rfl⟩,_⟩:=e3;rw [hb2]at hb3;simp only [Option.some.injEq,Obj.cells.injEq]at hb3;obtain⟨rfl,_⟩:=hb3;rw [hds,hl2]at hall3;exact hall3
 unfold Oper.wp;rw [hexec,e1];obtain⟨hcl,hcase⟩:=hown;rcases hcase with⟨rfl,rfl,rfl⟩|⟨b,c,hnc,hcm,rfl,rfl⟩
 ·rw [aj]at e0;have hcs:cs=[]:=List.eq_nil_of_length_eq_zero (by rw [hcl,Nat.zero_mul]);subst hcs;have hrun:=run_append_nil (P:=P) w T ty e i v hS.h hi hz ⟨b2,off2,none⟩ 1 c2 l2 (by rw [hlen2,hsz,hds,Nat.one_mul]) hys om om (by rw [hbyt];have:=hmul 1 om;omega);rw [e0];simp only [Sem.run_bind,hrun,Result.andThen_ok,Sem.run_pure];have hge:=grownCap_ge w 1 0 e;have hle:=grownCap_le_maxLen w 1 0 e (by simp only [maxLen];omega);have h:=k (lit (.slice (some ⟨w.heap.size,0,none⟩) 1 (grownCap w 1 0 e))) [(w.heap.size,e,([]++ds)++List.replicate (grownCap w 1 0 e*sz-1*sz) top)] ⟨by rw [List.nil_append,hds];omega, .inr ⟨_,_,hge,hle,rfl,by rw [Nat.zero_add]⟩⟩;unfold WPL at h;refine hK' _ _ (h _ _ (St.pushD (Nat.blt_eq.mp hd) hs fun m h1 h2 h3=>?_) Q hq);simp only [Array.toList_append,List.toList_toArray,List.nil_append];refine(get2 m h1 (h3 y)).append (ak.topL ?_ (zeroCells_one hfl));rw [Array.length_toList,size_zeroCells,hvs,Nat.sub_mul]
 ·rw [aj]at e0;obtain⟨hmb,arr,hb,hall⟩:=h20.2 _ (List.mem_append_left Rs (List.mem_singleton.2 rfl));have hlen:=hall.length;simp only [List.length_append,List.length_replicate,hcl,Array.length_toList]at hlen;have hmono:n0*sz≤c*sz:=Nat.mul_le_mul_right _ hnc
  have getc:∀m,HOk m w ([(b,e,cs++List.replicate (c*sz-n0*sz) top)]++Rs)→ak m (cs++List.replicate (c*sz-n0*sz) top) arr.toList:=fun m h2=>by
   obtain⟨_,arr',hb',hall'⟩:=h2.2 _ (List.mem_append_left Rs (List.mem_singleton.2 rfl));rw [hb]at hb';simp only [Option.some.injEq,Obj.cells.injEq]at hb';obtain⟨rfl,_⟩:=hb';exact hall'
  by_cases hroom:n0+1≤c
  ·have hm1:(n0+1)*sz≤c*sz:=Nat.mul_le_mul_right _ hroom;rw [Nat.succ_mul]at hm1;have hrun:=run_append_room (P:=P) w T ty e i hS.h hi b n0 c arr hb ⟨b2,off2,none⟩ 1 c2 l2 (by rw [hlen2,hsz,hds,Nat.one_mul]) hys hall2.flat hroom (by rw [hsz,hlen2,hds];omega);rw [e0];simp only [Sem.run_bind,hrun,Result.andThen_ok,Sem.run_pure];have h:=k (lit (.slice (some ⟨b,0,none⟩) (n0+1) c)) [(b,e,(cs++ds)++List.replicate (c*sz-(n0+1)*sz) top)] ⟨by rw [List.length_append,hcl,hds,Nat.succ_mul], .inr ⟨_,_,hroom,hcm,rfl,rfl⟩⟩;unfold WPL at h
   have hfin:ak m0 ((cs++ds)++List.replicate (c*sz-(n0+1)*sz) top) (arr.toList.take (n0*i.size)++l2++arr.toList.drop (n0*i.size+l2.length)).toArray.toList:=by
    obtain⟨q1,q2⟩:=(getc m0 h20).split;rw [hcl]at q1 q2;rw [hsz,hlen2,hds,List.toList_toArray];refine(q1.append (get2 m0 h10 (hp0 y))).append (ak.topL ?_ fun u hu=>?_)
    ·rw [List.length_drop,Array.length_toList,Nat.succ_mul];omega
    ·exact hall.flat u (List.mem_of_mem_drop hu)
   obtain⟨q1,q2,q3,q4⟩:=iH (w':=w.setRow b (arr.toList.take (n0*i.size)++l2++arr.toList.drop (n0*i.size+l2.length)).toArray) h10 h20 h30 h40 (.here Rs)
    (setRow_heap w b arr _ e _ hb) (fun j hj=>setRow_other w b j _ hj) rfl rfl ⟨rfl,rfl⟩ (by simp) hfin
   refine hK' _ _ (h (a.put (some d) (.slice (some ⟨b,0,none⟩) (n0+1) c)) _ ⟨hdef,by simpa [Act.put] using hn,m0,q1,q2,q3,q4,fun t=>?_⟩ Q hq);rw [g9 (Nat.lt_of_lt_of_le (Nat.blt_eq.mp hd) hn)];unfold Ab.upd;by_cases ht:t=d
   ·subst ht;rw [if_pos rfl,Nat.beq_refl];exact aj.2 rfl
   ·rw [if_neg ht]
    have:Nat.beq t d=false:=by
     cases hbb:Nat.beq t d with
     |false=>rfl
     |true=>exact absurd (Nat.eq_of_beq_eq_true hbb) ht
    rw [this];exact h50 t
  ·have hxs:∀j u,(arr.toList.take (n0*sz))[j]? = some u→w.cell? ((⟨b,0,none⟩:Addr).add j)=some u:=fun j u hj=>by
    rw [aK,cv w b _ arr _ _ hb];rw [List.getElem?_take]at hj;split at hj
    ·simpa using hj
    ·cases hj
   have hrun:=run_append_grow (P:=P) w T ty e i v hS.h hi hz ⟨b,0,none⟩ n0 c (arr.toList.take (n0*sz)) (by rw [List.length_take,Array.length_toList,hsz];omega) hxs
    ⟨b2,off2,none⟩ 1 c2 l2 (by rw [hlen2,hsz,hds,Nat.one_mul]) hys om om (growslice_fits om (by rw [hbyt];exact hmul _ om))
   rw [e0];simp only [Sem.run_bind,hrun,Result.andThen_ok,Sem.run_pure];have hge:=grownCap_ge w (n0+1) c e;have hle:=grownCap_le_maxLen w (n0+1) c e (by simp only [maxLen];omega)
   have h:=k (lit (.slice (some ⟨w.heap.size,0,none⟩) (n0+1) (grownCap w (n0+1) c e))) [(w.heap.size,e,(cs++ds)++List.replicate (grownCap w (n0+1) c e*sz-(n0+1)*sz) top)]
    ⟨by rw [List.length_append,hcl,hds,Nat.succ_mul], .inr ⟨_,_,hge,hle,rfl,rfl⟩⟩
   unfold WPL at h
   have hst:=St.pushD (d:=d) (cs:=(cs++ds)++List.replicate (grownCap w (n0+1) c e*sz-(n0+1)*sz) top) (v := .slice (some ⟨w.heap.size,0,none⟩) (n0+1) (grownCap w (n0+1) c e)) (T:=e)
    (arr:=(arr.toList.take (n0*sz)).toArray++l2.toArray++Builtin.zeroCells v.cells (grownCap w (n0+1) c e-(n0+1))) (Nat.blt_eq.mp hd) hs fun m h1 h2 h3=>?_
   ·refine hK' _ _ (h _ _ ?_ Q hq);exact hst.drop (.there _ (.here _))
   ·simp only [Array.toList_append,List.toList_toArray];obtain⟨q1,_⟩:=(getc m h2).split;rw [hcl]at q1;refine(q1.append (get2 m h1 (h3 y))).append (ak.topL ?_ (zeroCells_one hfl));rw [Array.length_toList,size_zeroCells,hvs,Nat.sub_mul]
theorem jL {T e:TypeId}{sz by_:Nat}{z:List SV}{g:Bool} [hS:TSl P T e] [hT:TY P e sz by_ z g]{d:Nat}{x y:Operand}{n0:Nat}{cs ds:List SV}{s:SV}{Hs Rs:LH}
  (hown:Own e sz n0 cs s Hs) (hsp:Tk H Hs Rs) (hl:n0≤1000000000) (k:∀s' H',Own e sz (n0+1) (cs++ds) s' H'→WPL P C n ops rest K (upd F d s') (Rs++H'))
  (hx:ev F x=s:=by exact rfl) (hy:ev F y=sl ds 1:=by exact rfl) (hds:ds.length=sz:=by exact rfl) (hpos:0<sz:=by decide) (hby:by_≤10000:=by decide)
  (hd:Nat.blt d n=true:=by exact rfl) :
  WPL P C n ops (⟨some d, .call ⟨.builtin .append,#[x,y],#[T,T]⟩,ty,pos,aft,none⟩::rest) K F H :=
 .perm hsp.perm (.appOwnS hown hx hy (Spl.app _ _) hds hpos hl hby (fun s' H' h => .perm List.perm_append_comm (k s' H' h)) hd)
end
theorem vP {m:Mem}{arr:Array Value}{b:Nat}{T:TypeId}{cs:List SV}{j n c:Nat}(hm:m b=some (.cells arr T (0,0))) (ha:ak m (cs++List.replicate j top) arr.toList) (h1:n≤c) (h2:c≤maxLen):(sl cs n).p m (.slice (some ⟨b,0,none⟩) n c):=by
 refine eJ h1 h2 (.inr ⟨b,0,rfl,arr,T,(0,0),hm,?_⟩);rw [List.drop_zero];exact ha.split.1
open Go.Proofs Go.Shelf Go.RowKit Go.Lib Go.Sort
theorem I6 {w:World}{l:Nat}{o:Obj}(h:w.heap[l]? = some o):l<w.heap.size:=(Array.getElem?_eq_some_iff.1 h).1
structure SEl (m:Mem){X:Type}(f:X→List SV) (k:Nat) where
 x:X
 v:List Value
 len:v.length=k
 ok:ak m (f x) v
theorem ak.oneS {m:Mem}:∀{cs:List SV}{vs:List Value},ak m cs vs→∀v∈vs,v.oneCell'=true
 | [],[],_,_,h=>by cases h
 |_::_,_::_,⟨⟨_,a⟩,b⟩,v,h=>by
  rcases List.mem_cons.1 h with rfl|h
  ·exact a
  ·exact ak.oneS b v h
 | [],_::_,h,_,_=>h.elim
 |_::_,[],h,_,_=>h.elim
theorem ak.appS {m:Mem}:∀{xs zs:List SV}{us vs:List Value},ak m xs us→ak m zs vs→ak m (xs++zs) (us++vs)
 | [],_,[],_,_,h=>h
 |_::_,_,_::_,_,⟨a,b⟩,h=>⟨a,ak.appS b h⟩
 | [],_,_::_,_,h,_=>h.elim
 |_::_,_,[],_,h,_=>h.elim
theorem ak.splitS {m:Mem}:∀{xs zs:List SV}{us:List Value},ak m (xs++zs) us→ak m xs (us.take xs.length)∧ak m zs (us.drop xs.length)
 | [],_,_,h=>⟨trivial,h⟩
 |_::_,_,_::_,⟨a,b⟩=>⟨⟨a,(ak.splitS b).1⟩,(ak.splitS b).2⟩
 |_::_,_,[],h=>h.elim
theorem ak.lenS {m:Mem}:∀{cs:List SV}{vs:List Value},ak m cs vs→cs.length=vs.length
 | [],[],_=>rfl
 |_::_,_::_,⟨_,b⟩=>by rw [List.length_cons,List.length_cons,ak.lenS b]
 | [],_::_,h=>h.elim
 |_::_,[],h=>h.elim
theorem vB {m:Mem}{X:Type}{f:X→List SV}{k:Nat}(hf:∀x,(f x).length=k):∀(l:List X) (vs:List Value),ak m (l.map f).flatten vs→∃d:List (SEl m f k),d.map (·.x)=l∧(d.map (·.v)).flatten=vs
 | [],[],_=>⟨[],rfl,rfl⟩
 | [],_::_,h=>h.elim
 |x::l,vs,h=>by
  rw [List.map_cons,List.flatten_cons]at h;obtain⟨h1,h2⟩:=ak.splitS h;obtain⟨d,d1,d2⟩:=vB hf l _ h2;refine⟨⟨x,vs.take (f x).length,by rw [←h1.lenS,hf],h1⟩::d,by rw [List.map_cons,d1],?_⟩;rw [List.map_cons,List.flatten_cons,d2,List.take_append_drop]
theorem tJ {m:Mem}{X:Type}{f:X→List SV}{k:Nat}:∀d:List (SEl m f k),ak m ((d.map (·.x)).map f).flatten (d.map (·.v)).flatten
 | []=>trivial
 |e::d=>by
  rw [List.map_cons,List.map_cons,List.flatten_cons,List.map_cons,List.flatten_cons];exact ak.appS e.ok (tJ d)
theorem r6 {α:Type} [Inhabited α] (enc:α→List Value) (k:Nat) (hk:∀x,(enc x).length=k) (d:Array α):(flatK enc k d).toList=(d.toList.map enc).flatten:=by
 have key:∀(l:List α),(flatK enc k l.toArray).toList=(l.map enc).flatten:=fun l=>by
  refine List.ext_getElem? fun t=>?_
  have hlen:∀l:List α,((l.map enc).flatten).length=l.length*k:=fun l=>by
   induction l with
   |nil=>simp
   |cons a l ih=>rw [List.map_cons,List.flatten_cons,List.length_append,ih,hk,List.length_cons,Nat.succ_mul];omega
  by_cases ht:t<l.length*k
  ·have hk0:0<k:=Nat.pos_of_ne_zero fun h=>by
    subst h;simp at ht
   have hg:∀(l:List α) (t:Nat),t<l.length*k→((l.map enc).flatten)[t]? = (enc (l.toArray[t/k]!))[t%k]?:=by
    intro l;induction l with
    |nil=>intro t h;simp at h
    |cons a l ih =>
     intro t h;rw [List.map_cons,List.flatten_cons];by_cases h1:t<k
     ·rw [List.getElem?_append_left (by rw [hk];exact h1),Nat.div_eq_of_lt h1,Nat.mod_eq_of_lt h1];rfl
     ·obtain⟨u,rfl⟩:∃u,t=u+k:=⟨t-k,om⟩
      rw [List.getElem?_append_right (by rw [hk];omega),hk,Nat.add_sub_cancel,ih u (by rw [List.length_cons,Nat.succ_mul]at h;omega),Nat.add_div_right u hk0,Nat.add_mod_right];simp
   have h1:(flatK enc k l.toArray)[t]! = (enc (l.toArray[t/k]!))[t%k]!:=get_flatK enc k _ t (by simpa using ht);have h2:t<(flatK enc k l.toArray).size:=by rw [size_flatK];simpa using ht
   have h3:t%k<(enc (l.toArray[t/k]!)).length:=by rw [hk];exact Nat.mod_lt _ hk0
   rw [hg l t ht,Array.getElem?_toList,Array.getElem?_eq_getElem h2,List.getElem?_eq_getElem h3];rw [getElem!_pos (flatK enc k l.toArray) t h2,getElem!_pos (enc (l.toArray[t/k]!)) (t%k) h3]at h1;rw [h1]
  ·rw [List.getElem?_eq_none (by rw [Array.length_toList,size_flatK];simpa using ht),List.getElem?_eq_none (by rw [hlen];omega)]
 have:=key d.toList;simpa using this
theorem Cz (F arr:Array Value) (h:F.size≤arr.size):(putCells id 0 F arr).toList=F.toList++arr.toList.drop F.size:=by
 refine List.ext_getElem? fun t=>?_
 unfold putCells;rw [Array.getElem?_toList,Array.getElem?_mapIdx];by_cases ht:t<F.size
 ·rw [List.getElem?_append_left (by simpa using ht),Array.getElem?_toList,Array.getElem?_eq_getElem ht,Array.getElem?_eq_getElem om,Option.map_some,if_pos ⟨Nat.zero_le _,om⟩,Nat.sub_zero,getElem!_pos _ t ht];rfl
 ·rw [List.getElem?_append_right (by simpa using ht),List.getElem?_drop,Array.length_toList,show F.size+(t-F.size)=t by omega,Array.getElem?_toList];cases arr[t]? with
  |none=>rfl
  |some y=>rw [Option.map_some,if_neg om]
section
variable {P:Program}{ρ:Ren}{X:Type}
theorem p8 {α:Type} [Inhabited α] (enc:α→List Value) (k:Nat) (w:World) (blk n:Nat) (d:Array α) (os:Array Obj){arr:Array Value}{T:TypeId}{fr:Nat×Nat}(h:w.heap[blk]? = some (.cells arr T fr)):(sortWorldK enc k w blk 0 n d os).heap[blk]? = some (.cells (putCells id 0 (flatK enc k d) arr) T fr):=by
 have hlt:blk<w.heap.size:=(Array.getElem?_eq_some_iff.1 h).1;unfold sortWorldK grow putRowK putRow mapBlock;simp only;rw [Array.getElem?_append_left (by simpa using hlt),Array.getElem?_modify,if_pos rfl];show(w.heap[blk]?).map _=_
 rw [h];rfl
theorem gc {α:Type} [Inhabited α] (enc:α→List Value) (k:Nat) (w:World) (blk n:Nat) (d:Array α) (os:Array Obj){b:Nat}(hb:b<w.heap.size) (hne:b≠blk):(sortWorldK enc k w blk 0 n d os).heap[b]? = w.heap[b]?:=by
 unfold sortWorldK grow putRowK putRow mapBlock;simp only;rw [Array.getElem?_append_left (by simpa using hb),Array.getElem?_modify,if_neg (Ne.symm hne)];rfl
theorem qe {α:Type} [Inhabited α] (enc:α→List Value) (k:Nat) (w:World) (blk n:Nat) (d:Array α) (os:Array Obj):w.heap.size≤(sortWorldK enc k w blk 0 n d os).heap.size:=by
 unfold sortWorldK grow putRowK putRow mapBlock;simp
theorem wo {ks:List Nat}{m m':Mem}{w w':World}(h:Rel ks m w m' w') (hk:ks=[]):∃q os,w'=grow (w.drewN q) os:=by
 subst hk;obtain⟨q,hq⟩:=Nat.exists_eq_add_of_le h.output.2;refine⟨q,w'.heap.extract w.heap.size w'.heap.size,?_⟩
 have e:w'.heap=w.heap++w'.heap.extract w.heap.size w'.heap.size:=by
  refine Array.ext_getElem? fun i=>?_
  have hs:=h.size;by_cases hi:i<w.heap.size
  ·rw [Array.getElem?_append_left hi];exact h.block i hi (by simp)
  ·rw [Array.getElem?_append_right om,Array.getElem?_extract];by_cases h2:i<w'.heap.size
   ·rw [if_pos om,show w.heap.size+(i-w.heap.size)=i by omega]
   ·rw [if_neg om,Array.getElem?_eq_none om]
 have h1:=h.os;have h2:=h.tape;have h3:=h.output.1;cases w';cases w;simp only at e h1 h2 h3 hq;subst h1;subst h2;subst h3;subst hq;show _=({heap:=_, ..}:World)
 simp only [World.mk.injEq];exact⟨e,rfl,rfl,rfl,rfl⟩
theorem C9 (L:SlLaysF0.n6 P ρ){T:TypeId}{k:Nat}(aE:∀w,(isAgg (ρ.t 24)).run P w = .ok true w) (zE:∀w,(Go.sizeOf (ρ.t 24)).run P w = .ok k w) (f:X→List SV) (hf:∀x,(f x).length=k) (c:X→X→Int) (hO:SWO (ltOf c)){g:Nat}(hcmp:∀x y,Pu P g [ag (f x),ag (f y)] (lit (.int .i64 (c x y)))) (hb:f9 P (ρ.f 6)=true) (hbg:f9 P g=true)
  (l:List X){s:SV}{Hs:LH}(hown:Own T k l.length (l.map f).flatten s Hs) (hl:l.length<4611686018427387904) :
  PuH P (ρ.f 6) [s,lit (.func (.func g) #[] #[])] Hs (fun _ H'=>∃l':List X,l'.Perm l∧l'.Pairwise (fun a b=>¬c b a<0)∧Own T k l'.length (l'.map f).flatten s H') noX:=by
 unfold PuH;refine⟨hb,fun m w vs hm hH ha=>?_⟩
 obtain⟨v0,v1,rfl⟩:∃v0 v1,vs=[v0,v1]:=by
  match vs,ha with
  | [v0,v1],_=>exact⟨v0,v1,rfl⟩
  | [],h=>exact h.elim
  | [_],h=>exact h.2.elim
  |_::_::_::_,h=>exact h.2.2.elim
 obtain⟨a0,a1,_⟩:=ha;obtain⟨hlen,hown⟩:=hown
 have nil:∀p cap,s=lit (.slice p 0 cap)→l=[]→Calls P (ρ.f 6) #[v0,v1] w fun e w'=>∃m' H',aI m' w'∧HOk m' w' H'∧Rel (keys Hs) m w m' w'∧(∀e∈H',e.1∈keys Hs∨w.heap.size≤e.1)∧
   ((∃(v:Value) (res:SV),e = .returned v∧res.p m' v∧∃l':List X,l'.Perm l∧l'.Pairwise (fun a b=>¬c b a<0)∧Own T k l'.length (l'.map f).flatten s H')∨∃(v:Value) (pv:SV),e = .panicked [{v:=v,recovered:=false}]∧pv.p m' v∧noX pv H'):=fun p cap e hl0=>by
  rw [e,aj]at a0;subst a0;refine(AnyF.slices_SortFunc_none L p cap v1 w).mono ?_;rintro e' w' ⟨rfl,rfl⟩;exact⟨m,Hs,hm,hH,Rel.refl _ _ _,fun e he => .inl (iS he), .inl ⟨_,top,rfl,by unfold top;trivial,l,List.Perm.refl _,by rw [hl0];exact List.Pairwise.nil,hlen,hown⟩⟩
 have hown0:=hown;rcases hown with⟨h0,hs,_⟩|⟨b,cp,h1,h2,hs,hHs⟩
 ·exact nil none 0 hs (List.length_eq_zero_iff.1 h0)
 ·by_cases hl0:l=[]
  ·exact nil _ cp (by rw [hs,hl0];rfl) hl0
  subst hHs;rw [hs,aj]at a0;subst a0;rw [aj]at a1;subst a1;obtain⟨hnd,hcell⟩:=hH;obtain⟨hmb,arr,hba,hall⟩:=hcell _ Ms;simp only at hmb hba hall;obtain⟨q1,q2⟩:=ak.splitS hall;rw [hlen]at q1 q2;obtain⟨d,d1,d2⟩:=vB hf l _ q1;have hdl:d.length=l.length:=by rw [←d1,List.length_map]
  have hbl:b<w.heap.size:=I6 hba;have hck:l.length*k≤cp*k:=Nat.mul_le_mul_right k h1
  have hsz:l.length*k+(cp*k-l.length*k)=arr.size:=by
   have h:=hall.lenS;rw [List.length_append,List.length_replicate,hlen]at h;exact h.trans (Array.length_toList ..)
  obtain⟨e0,he0⟩:∃e0:SEl m f k,e0∈d:=by
   cases d with
   |nil=>rw [List.length_nil]at hdl;exact absurd (List.length_eq_zero_iff.1 hdl.symm) hl0
   |cons a _=>exact⟨a,Ms⟩
  letI:Inhabited (SEl m f k):=⟨e0⟩
  have hk:∀x:SEl m f k,x.v.length=k:=fun x=>x.len
  have one:∀x:SEl m f k,∀v∈x.v,v.oneCell'=true:=fun x v hv=>x.ok.oneS v hv
  have hcm:CmpLays P g #[] (fun x:SEl m f k=>x.v) k (fun x y=>c x.x y.x) b 0 d.toArray.size w:=fun n os dk hs x y=>by
   have hm2:aI m (sortWorldK (fun x:SEl m f k=>x.v) k w b 0 n dk os):=⟨fun b' o hb'=>by
    have hlt:=I6 (hm b' o hb');rw [gc _ _ _ _ _ _ _ hlt (fun e=>by rw [e,hmb]at hb';cases hb')];exact hm b' o hb',hm.base⟩
   have hc:=hcmp x.x y.x;unfold Pu at hc;refine(hc.2 m _ [.agg x.v.toArray, .agg y.v.toArray] hm2 ⟨?_,?_,trivial⟩).mono ?_
   ·unfold ag;exact⟨_,rfl,x.ok⟩
   ·unfold ag;exact⟨_,rfl,y.ok⟩
   ·rintro e w' ⟨v,m',rfl,hv,_,hr⟩;rw [aj]at hv;subst hv;obtain⟨q,os',h⟩:=wo hr rfl;exact⟨rfl,q,os',h⟩
  have hfl:(flatK (fun x:SEl m f k=>x.v) k d.toArray).toList=arr.toList.take (l.length*k):=by
   rw [r6 _ _ hk,d2]
  have hHolds:HoldsK (fun x:SEl m f k=>x.v) k w b 0 d.toArray:=fun j hj=>by
   rw [size_flatK]at hj;have hj':j<l.length*k:=by rw [←hdl];simpa using hj
   have hja:j<arr.size:=by omega
   have e1:(flatK (fun x:SEl m f k=>x.v) k d.toArray)[j]? = arr[j]?:=by
    rw [←Array.getElem?_toList,hfl,List.getElem?_take,if_pos hj',Array.getElem?_toList]
   have hjs:j<(flatK (fun x:SEl m f k=>x.v) k d.toArray).size:=by rw [size_flatK];exact hj
   rw [Array.getElem?_eq_getElem hjs]at e1;constructor
   ·show w.cell? _=some (flatK (fun x:SEl m f k=>x.v) k d.toArray)[j]!
    rw [getElem!_pos _ j hjs];simp [World.cell?,hba,e1]
   ·simp [World.frozen?,hba]
  have hO':SWO (ltOf fun x y:SEl m f k=>c x.x y.x):=⟨fun x=>hO.irrefl x.x,fun x y z=>hO.trans x.x y.x z.x,fun x y z=>hO.ntrans x.x y.x z.x⟩
  have hds:d.toArray.size=l.length:=by simpa using hdl
  have H:=AnyQ.slices_SortFunc L k aE zE (fun x:SEl m f k=>x.v) hk one (fun x y=>c x.x y.x) hO' g #[] b 0 cp d.toArray w (fun args w=>cV hbg args w) hcm hHolds hbl om;rw [hds]at H;refine H.mono ?_;rintro e w' ⟨rfl,d',n,os,⟨p1,_,p3⟩,hsort,rfl⟩;have hd'l:d'.toList.length=l.length:=by rw [Array.length_toList,p1,hds]
  have hperm:d'.toList.Perm d:=by
   rw [hds]at p1;have e1:d'.extract 0 l.length=d':=by rw [←p1];exact Array.extract_size
   have e2:d.toArray.extract 0 l.length=d.toArray:=by rw [←hds];exact Array.extract_size
   rw [e1,e2]at p3;simpa using p3
  have hlx:(d'.toList.map (·.x)).length=l.length:=by rw [List.length_map,hd'l]
  have hfd:(flatK (fun x:SEl m f k=>x.v) k d').toList=(d'.toList.map (·.v)).flatten:=r6 _ _ hk d';have hfs:(flatK (fun x:SEl m f k=>x.v) k d').size=l.length*k:=by rw [size_flatK,←Array.length_toList,hd'l]
  have hlm:((((d'.toList.map (·.x)).map f).flatten).length=l.length*k):=by
   rw [(tJ d'.toList).lenS,←hfd,Array.length_toList,hfs]
  have hm2:aI m (sortWorldK (fun x:SEl m f k=>x.v) k w b 0 n d' os):=⟨fun b' o hb'=>by
   have hlt:=I6 (hm b' o hb');rw [gc _ _ _ _ _ _ _ hlt (fun e=>by rw [e,hmb]at hb';cases hb')];exact hm b' o hb',hm.base⟩
  refine⟨m,[(b,T,((d'.toList.map (·.x)).map f).flatten++List.replicate (cp*k-l.length*k) top)],hm2,⟨by simp,fun e he=>?_⟩,⟨Mem.le_refl _,fun _ _ _=>rfl,rfl,rfl,⟨rfl,Nat.le_add_right _ _⟩,qe _ _ _ _ _ _ _,fun b' hb' hn=>gc _ _ _ _ _ _ _ hb' (fun e=>hn (by rw [e];exact List.mem_singleton.2 rfl))⟩,fun e he=>?_, .inl ⟨_,top,rfl,by unfold top;trivial,d'.toList.map (·.x),?_,?_,?_⟩⟩
  ·rw [List.mem_singleton.1 he];refine⟨hmb,_,p8 _ _ _ _ _ _ _ hba,?_⟩;rw [Cz _ _ (by rw [hfs];omega),hfd,hfs];exact ak.appS (tJ d'.toList) q2
  ·rw [List.mem_singleton.1 he];exact .inl (List.mem_singleton.2 rfl)
  ·have:=hperm.map (·.x);rwa [d1]at this
  ·refine List.pairwise_iff_getElem.2 fun i j hi hj hij=>?_
   have hj2:j<l.length:=by rw [List.length_map,hd'l]at hj;exact hj
   have hh:=hsort i j (Nat.zero_le _) hij hj2;have hi3:i<d'.size:=by rw [←Array.length_toList,hd'l];omega
   have hj3:j<d'.size:=by rw [←Array.length_toList,hd'l];omega
   rw [getElem!_pos _ i hi3,getElem!_pos _ j hj3]at hh;unfold ltOf at hh;have:=of_decide_eq_false hh;simpa using this
  ·refine⟨by rw [hlx,hlm], .inr ⟨b,cp,by rw [hlx];exact h1,h2,by rw [hs,hlx],by rw [hlx]⟩⟩
end
end Go.Ab
namespace Go.Ab
open Go.Proofs
variable [Base]
open Go.Shelf Go.Proofs
def EJ:Ren where
 f:=fun x=>match x with
  |6=>182
  |15=>226
  |14=>225
  |28=>246
  |29=>257
  |20=>249
  |21=>250
  |22=>251
  |23=>252
  |24=>253
  |25=>254
  |26=>255
  |27=>256
  |46=>264
  |47=>265
  |48=>266
  |49=>267
  |50=>268
  |57=>272
  |n=>n
 t:=fun x=>match x with
  |22=>204
  |24=>94
  |25=>263
  |3=>3
  |39=>189
  |0=>0
  |53=>188
  |55=>187
  |4=>4
  |46=>327
  |45=>326
  |50=>331
  |5=>5
  |9=>9
  |66=>342
  |70=>346
  |76=>352
  |77=>353
  |n=>n
 g:=fun x=>x
theorem EK:SlLaysF0.n6 Tryz.prog EJ where
 mixed:=by kernel_rfl
 f6:=⟨"slices.SortFunc[[]bspregion/geo.Pt,bspregion/geo.Pt]",by decide,Tryz.func182.trans (congrArg some kr)⟩
 f14:=⟨"slices.pdqsortCmpFunc[bspregion/geo.Pt]",by decide,Tryz.func225.trans (congrArg some kr)⟩
 f15:=Tryz.func226.trans (congrArg some kr)
 f20:=⟨"slices.insertionSortCmpFunc[bspregion/geo.Pt]",by decide,Tryz.func249.trans (congrArg some kr)⟩
 f21:=⟨"slices.heapSortCmpFunc[bspregion/geo.Pt]",by decide,Tryz.func250.trans (congrArg some kr)⟩
 f22:=⟨"slices.breakPatternsCmpFunc[bspregion/geo.Pt]",by decide,Tryz.func251.trans (congrArg some kr)⟩
 f23:=⟨"slices.choosePivotCmpFunc[bspregion/geo.Pt]",by decide,Tryz.func252.trans (congrArg some kr)⟩
 f24:=⟨"slices.reverseRangeCmpFunc[bspregion/geo.Pt]",by decide,Tryz.func253.trans (congrArg some kr)⟩
 f25:=⟨"slices.partialInsertionSortCmpFunc[bspregion/geo.Pt]",by decide,Tryz.func254.trans (congrArg some kr)⟩
 f26:=⟨"slices.partitionEqualCmpFunc[bspregion/geo.Pt]",by decide,Tryz.func255.trans (congrArg some kr)⟩
 f27:=⟨"slices.partitionCmpFunc[bspregion/geo.Pt]",by decide,Tryz.func256.trans (congrArg some kr)⟩
 f28:=Tryz.func246.trans (congrArg some kr)
 f29:=Tryz.func257.trans (congrArg some kr)
 f46:=⟨"slices.siftDownCmpFunc[bspregion/geo.Pt]",by decide,Tryz.func264.trans (congrArg some kr)⟩
 f47:=Tryz.func265.trans (congrArg some kr)
 f48:=Tryz.func266.trans (congrArg some kr)
 f49:=⟨"slices.medianAdjacentCmpFunc[bspregion/geo.Pt]",by decide,Tryz.func267.trans (congrArg some kr)⟩
 f50:=⟨"slices.medianCmpFunc[bspregion/geo.Pt]",by decide,Tryz.func268.trans (congrArg some kr)⟩
 f57:=⟨"slices.order2CmpFunc[bspregion/geo.Pt]",by decide,Tryz.func272.trans (congrArg some kr)⟩
 t0:=Tryz.underlying0
 a0:=Tryz.isAgg0
 z0:=Tryz.sizeOf0
 v0:=Tryz.zeroValue0
 t3:=Tryz.underlying3
 a3:=Tryz.isAgg3
 z3:=Tryz.sizeOf3
 v3:=Tryz.zeroValue3
 t4:=Tryz.underlying4
 a4:=Tryz.isAgg4
 z4:=Tryz.sizeOf4
 v4:=Tryz.zeroValue4
 t5:=Tryz.underlying5
 a5:=Tryz.isAgg5
 z5:=Tryz.sizeOf5
 v5:=Tryz.zeroValue5
 t9:=Tryz.underlying9
 a9:=Tryz.isAgg9
 z9:=Tryz.sizeOf9
 v9:=Tryz.zeroValue9
 t22:=Tryz.underlying204
 a22:=Tryz.isAgg204
 z22:=Tryz.sizeOf204
 v22:=Tryz.zeroValue204
 t25:=Tryz.underlying263
 a25:=Tryz.isAgg263
 z25:=Tryz.sizeOf263
 v25:=Tryz.zeroValue263
 t39:=Tryz.underlying189
 a39:=Tryz.isAgg189
 z39:=Tryz.sizeOf189
 v39:=Tryz.zeroValue189
 t45:=Tryz.underlying326
 a45:=Tryz.isAgg326
 z45:=Tryz.sizeOf326
 v45:=Tryz.zeroValue326
 t46:=Tryz.underlying327
 a46:=Tryz.isAgg327
 z46:=Tryz.sizeOf327
 v46:=Tryz.zeroValue327
 t50:=Tryz.underlying331
 a50:=Tryz.isAgg331
 z50:=Tryz.sizeOf331
 v50:=Tryz.zeroValue331
 t53:=Tryz.underlying188
 a53:=Tryz.isAgg188
 z53:=Tryz.sizeOf188
 v53:=Tryz.zeroValue188
 t55:=Tryz.underlying187
 a55:=Tryz.isAgg187
 z55:=Tryz.sizeOf187
 v55:=Tryz.zeroValue187
 t66:=Tryz.underlying342
 a66:=Tryz.isAgg342
 z66:=Tryz.sizeOf342
 v66:=Tryz.zeroValue342
 t70:=Tryz.underlying346
 a70:=Tryz.isAgg346
 z70:=Tryz.sizeOf346
 v70:=Tryz.zeroValue346
 t76:=Tryz.underlying352
 a76:=Tryz.isAgg352
 z76:=Tryz.sizeOf352
 v76:=Tryz.zeroValue352
 t77:=Tryz.underlying353
 a77:=Tryz.isAgg353
 z77:=Tryz.sizeOf353
 v77:=Tryz.zeroValue353
end Go.Ab
namespace Go.Ab
open Go.Proofs
variable [Base]
def sv (s:Bool) (n:Nat):Int:=bif s then -(n:Int)else n
abbrev raw (s:Bool) (xs:List Nat):SV:=ag [lit (.bool s),dg xs]
abbrev int (z:Int):SV:=ag [lit (.bool (decide (z<0))),nat z.natAbs]
theorem fK (s:Bool) (n:Nat):(sv s n).natAbs=n:=by cases s <;> simp [sv]
theorem Hq (s:Bool) (n:Nat):decide (sv s n<0)=(s&&decide (0<n)):=by
 cases s
 ·simp only [sv,cond_false,Bool.false_and];exact decide_eq_false om
 ·simp [sv]
theorem dW (z:Int):sv (decide (z<0)) z.natAbs=z:=by
 by_cases h:z<0 <;> simp [sv,h] <;> omega
theorem xi (n:Nat):sv false n=(n:Int):=rfl
theorem uA (s:Bool) (n:Nat):int (sv s n)=ag [lit (.bool (s&&decide (0<n))),nat n]:=by rw [int,fK,Hq]
theorem uB (n:Nat):int (n:Int)=raw false (dgs n):=by rw [←xi,uA];rfl
theorem bJ {n:Nat}(h:n≠0):0<(dgs n).length:=by
 rcases hd:dgs n with _|⟨d,l⟩
 ·have:=an n;rw [hd]at this;exact absurd this.symm h
 ·simp
theorem wW {xs:List Nat}(h:D xs):bV (val xs)≤32*xs.length:=dO.2 (by rw [Nat.pow_mul];exact bA h)
theorem kz (s:Bool) (n:Nat) (h:(dgs n).length≤1000000000):Pu Tryz.prog 213 [lit (.bool s),nat n] (int (sv s n)):=by
 rw [uA];by_cases h0:n=0
 ·subst h0;have hl:(dgs 0).length=0:=by rw [aN];rfl
  cases s <;> simp only [Nat.lt_irrefl,decide_false,Bool.and_false]
  all_goals
   refine Pi Tryz.func213 fun C=>?_
   exact Z2
 ·have hl:=bJ h0;cases s <;> simp only [Bool.false_and,Bool.true_and,decide_eq_true (Nat.pos_of_ne_zero h0)]
  all_goals
   refine Pi Tryz.func213 fun C=>?_
   exact Z2
theorem qN (s:Bool) (xs:List Nat) (h:xs.length≤1000000000) (hD:D xs):Pu Tryz.prog 161 [raw s xs] (int (sv s (val xs))):=by
 rw [uA];have hb:(dgs (val xs)).length≤1000000000:=by have:=bi (bA hD);omega
 by_cases h0:val xs=0
 ·have hl:(dgs (val xs)).length=0:=by rw [h0,aN];rfl
  rw [show(s&&decide (0<val xs))=false from by rw [h0];simp];cases s
  all_goals
   refine Pi Tryz.func161 fun C=>?_
   repeat(refine A1 ⟨?_⟩;intros)
   refine Wc (iR xs h hD) ?_;exact Z2
 ·have hl:=bJ h0;rw [decide_eq_true (Nat.pos_of_ne_zero h0),Bool.and_true];cases s
  all_goals
   refine Pi Tryz.func161 fun C=>?_
   repeat(refine A1 ⟨?_⟩;intros)
   refine Wc (iR xs h hD) ?_;exact Z2
theorem FT (s:Bool) (xs:List Nat) (h:xs.length≤1000000000) (hD:D xs):Pu Tryz.prog 243 [raw s xs] (int (-sv s (val xs))):=by
 rw [show -sv s (val xs)=sv (!s) (val xs)from by cases s <;> simp [sv]];refine Pi Tryz.func243 fun C=>?_
 repeat(refine A1 ⟨?_⟩;intros)
 refine Wc (qN (!s) xs h hD) ?_;exact Z2
theorem qh (s:Bool) (xs:List Nat) (h:xs.length≤1000000000) (hD:D xs):Pu Tryz.prog 170 [raw s xs] (lit (.int .i64 (sv s (val xs)).sign)):=by
 by_cases h0:val xs=0
 ·rw [show(sv s (val xs)).sign=0 from by rw [h0];cases s <;> rfl];refine Pi Tryz.func170 fun C=>?_
  repeat(refine A1 ⟨?_⟩;intros)
  refine Wc (fB xs h hD) ?_;rw [h0,show bV 0=0 from rfl];exact Z1
 ·have hb:bV (val xs)≠0:=fun e=>h0 (by have:=dO.1 (Nat.le_of_eq e);omega)
  have hbb:=wW hD;cases s
  ·rw [show(sv false (val xs)).sign=1 from Int.sign_eq_one_of_pos (by simp only [sv,cond_false];omega)];refine Pi Tryz.func170 fun C=>?_
   repeat(refine A1 ⟨?_⟩;intros)
   refine Wc (fB xs h hD) ?_;exact Z1
  ·rw [show(sv true (val xs)).sign = -1 from Int.sign_eq_neg_one_of_neg (by simp only [sv,cond_true];omega)];refine Pi Tryz.func170 fun C=>?_
   repeat(refine A1 ⟨?_⟩;intros)
   refine Wc (fB xs h hD) ?_;exact Z1
def Hid (p:Prop):Prop:=p
theorem Hid.out {p:Prop}(h:Hid p):p:=h
theorem Le.tup {a b:List SV}(h:LeL a b):Le (Ab.tup a) (Ab.tup b):=fun m v hv=>by
 unfold Ab.tup at *;obtain⟨arr,e,k⟩:=hv;exact⟨arr,e,k.le h⟩
theorem Le.tup2 {a b a' b':SV}(h1:Le a a') (h2:Le b b'):Le (Ab.tup [a,b]) (Ab.tup [a',b']):=Le.tup ⟨h1,h2,trivial⟩
theorem Le.tup3 {a b c a' b' c':SV}(h1:Le a a') (h2:Le b b') (h3:Le c c'):Le (Ab.tup [a,b,c]) (Ab.tup [a',b',c']):=Le.tup ⟨h1,h2,h3,trivial⟩
theorem Le.ag {a b:List SV}(h:LeL a b):Le (Ab.ag a) (Ab.ag b):=fun m v hv=>by
 unfold Ab.ag at *;obtain⟨arr,e,k⟩:=hv;exact⟨arr,e,k.le h⟩
section
variable {P:Program}{C:Ctx}{n:Nat}{F:Fr}{H:LH}{ops:Array Oper}{K:Fr→LH→Prop}{Q:Exit→Fr→LH→Prop}
theorem WPL.low {l:List Oper}{s s':SV}(d:Nat) (hf:F d=s) (h:Le s s') (k:WPL P C n ops l K (upd F d s') H):WPL P C n ops l K F H:=WPL.le (LeF.upd (hf▸h) (LeF.refl F)) k
theorem WP.low {c:Code}{s s':SV}(d:Nat) (hf:F d=s) (h:Le s s') (k:WP P C n c Q (upd F d s') H):WP P C n c Q F H:=WP.le (LeF.upd (hf▸h) (LeF.refl F)) k
theorem Df {m:Mem}{w:World}(hm:aI m w){o:Obj}:aI (mV m w.heap.size o) (w.alloc o)∧Rel [] m w (mV m w.heap.size o) (w.alloc o):=by
 have hold:∀b,b<w.heap.size→(w.alloc o).heap[b]? = w.heap[b]?:=fun b hb=>@heap_alloc_old w o b hb
 have hlt:∀b o,m b=some o→b<w.heap.size:=fun b o hb=>(Array.getElem?_eq_some_iff.1 (hm b o hb)).1
 have hle:m.le (mV m w.heap.size o):=fun b x hx=>by unfold mV;rw [if_neg (by have:=hlt b x hx;omega)];exact hx
 refine⟨⟨fun b x hx=>?_,Mem.le_trans hm.base hle⟩,⟨hle,fun b hb _=>?_,rfl,rfl,⟨rfl,Nat.le_refl _⟩,?_,fun b hb _=>hold b hb⟩⟩
 ·unfold mV at hx;split at hx
  ·rename_i e;subst e;cases hx;exact heap_alloc_new w o
  ·rw [hold b (hlt b x hx)];exact hm b x hx
 ·unfold mV;rw [if_neg om]
 ·have:(w.alloc o).heap.size=w.heap.size+1:=World.size_alloc ..;rw [this];exact Nat.le_succ _
theorem aF {T ty:TypeId}{x:Operand}{sv:SV}{cs:List SV}(hx:ev F x=sv) [hco:CO sv cs]:OpV P (.box T x) ty F H (pt cs):=by
 refine OpV.of0 ?_;intro m w o a ho hty h1 h2 h3 K Q hK;have e0:=evA h3 (x:=x) (by simp [Op.operands]);rw [hx]at e0;have hc:=hco.h m _ e0;unfold Oper.wp
 have hrun:(execOp a.eval o).run P w = .ok (.value (.pointer (some ⟨w.heap.size,0,none⟩))) (w.alloc (.cells (a.eval x).cells T)):=by
  simp [execOp,ho,Instr.box,newVar,newRow]
 rw [hrun];obtain⟨q1,q2⟩:=Df h1 (o := .cells (a.eval x).cells T);exact hK _ _ _ (xM _ _ (by unfold mV;rw [if_pos rfl]) (hc.mono q2.le)) q1 q2
theorem Wcg {d:Nat}{ty:TypeId}{pos:String}{aft:Array Edge}{rest:List Oper}{f:FuncId}{l:List Operand}{tys:Array TypeId}{svs:List SV}{res:SV}{j:Nat}{t:Bool}{oj:Oper}{dj:Nat}(hc:Pu P f svs res) (k:WPL P C n ops rest K (upd F d res) H)
  (ha:l.map (ev F)=svs:=by exact rfl) (hj:ops[j]? = some oj:=by exact rfl) (hdj:oj.dst=some dj:=by exact rfl) (hf:F dj=lit (.bool t):=by exact rfl)
  (hdn:Nat.blt dj n=true:=by exact rfl) (hd:Nat.blt d n=true:=by exact rfl):WPL P C n ops (⟨some d, .call ⟨.value (.func f),l.toArray,tys⟩,ty,pos,aft,some (j,t)⟩::rest) K F H :=
 Wog (jp hc ha) k hj hdj hf hdn hd
theorem Hm {l:List Oper}{b:Nat}{T:TypeId}{cs:List SV}{H':LH}(d:Nat) (hv:F d=lit (.pointer (some ⟨b,0,none⟩))) (hdel:ac b T cs H H')
  (h:WPL P C n ops l K (upd F d (pt cs)) H'):WPL P C n ops l K F H:=WPL.pub hdel hv (fun m arr hm ha=>xM m arr hm ha) h
theorem Pu.le {f:FuncId}{l:List SV}{r r':SV}(h:Pu P f l r) (k:Le r r'):Pu P f l r':=by
 unfold Pu at *;exact⟨h.1,fun m w vs hm ha=>(h.2 m w vs hm ha).mono fun e w' ⟨v,m',e1,e2,e3,e4⟩=>⟨v,m',e1,k m' v e2,e3,e4⟩⟩
theorem Pu.arg {f:FuncId}{l l':List SV}{r:SV}(h:Pu P f l r) (k:LeL l' l):Pu P f l' r:=by
 unfold Pu at *;exact⟨h.1,fun m w vs hm ha=>h.2 m w vs hm (ha.le k)⟩
end
theorem BJ {x:Int}(h0 : -9223372036854775808≤x) (h1:x≤9223372036854775807):IntKind.i64.wrap (x%18446744073709551616)=x:=by
 simp only [IntKind.wrap,IntKind.bits,IntKind.signed];simp;omega
theorem lG (z:Int) (h0 : -9223372036854775808≤z) (h1:z≤9223372036854775807):Pu Tryz.prog 133 [lit (.int .i64 z)] (int z):=by
 by_cases h:z<0
 ·rw [int,decide_eq_true h];refine Pi Tryz.func133 fun C=>?_
  repeat(refine A1 ⟨?_⟩;intros)
  rw [show -(z%18446744073709551616)%18446744073709551616=(z.natAbs:Int)from by omega];refine Wc (fw z.natAbs om) ?_;exact Z2
 ·rw [int,decide_eq_false h];refine Pi Tryz.func133 fun C=>?_
  repeat(refine A1 ⟨?_⟩;intros)
  generalize hn:z.natAbs=n at *;have hz:z=(n:Int):=by omega
  subst hz;refine Wc (fw n om) ?_;exact Z2
theorem Ba (s:Bool) (xs:List Nat) (hl:xs.length≤1000000000) (hD:D xs) (hb:val xs<4611686018427387904):Pu Tryz.prog 173 [raw s xs] (tup [lit (.int .i64 (sv s (val xs))),lit (.bool true)]):=by
 have u:=mh xs hl hD;rw [if_pos om]at u;cases s
 ·simp only [sv,cond_false];refine Pi Tryz.func173 fun C=>?_
  repeat(refine A1 ⟨?_⟩;intros)
  refine Wc u ?_;repeat(refine A1 ⟨?_⟩;intros)
  exact G2
 ·simp only [sv,cond_true];refine Pi Tryz.func173 fun C=>?_
  repeat(refine A1 ⟨?_⟩;intros)
  refine Wc u ?_;repeat(refine A1 ⟨?_⟩;intros)
  refine aM (fD (RV.tmp rfl) (RV.tmp rfl) (Le.tup2 (Le.int ?_) Lr));exact BJ om om
theorem BV (s t:Bool) (a b:Nat):sv (s != t) (a*b)=sv s a*sv t b:=by
 cases s <;> cases t <;> simp [sv,Int.natCast_mul,Int.mul_neg,Int.neg_mul]
theorem BW (s:Bool) (a b:Nat):sv s (a+b)=sv s a+sv s b:=by
 cases s <;> simp [sv] <;> omega
theorem tE (s t:Bool) (h:s≠t){a b:Nat}(hab:b≤a):sv s (a-b)=sv s a+sv t b:=by
 cases s <;> cases t <;> simp_all [sv] <;> omega
theorem FX (s t:Bool) (xs ys:List Nat) (hlx:xs.length≤100000000) (hly:ys.length≤100000000) (hX:D xs) (hY:D ys):Pu Tryz.prog 159 [raw s xs,raw t ys] (int (sv s (val xs)*sv t (val ys))):=by
 have hl:=bi (Nat.lt_of_lt_of_le (Nat.mul_lt_mul'' (bA hX) (bA hY)) (Nat.le_of_eq (Nat.pow_add ..).symm));rw [←BV];refine Pi Tryz.func159 fun C=>?_
 repeat(refine A1 ⟨?_⟩;intros)
 refine Wdc (zx xs ys hlx hly hX hY) ?_;repeat(refine A1 ⟨?_⟩;intros)
 refine Wdc (kz (s != t) (val xs*val ys) om) ?_;exact Z2
theorem rf (a b:Nat):(dgs (a+b)).length≤max (dgs a).length (dgs b).length+1:=by
 refine bi ?_;have h1:=iE a;have h2:=iE b;have b1:4294967296^(dgs a).length≤4294967296^max (dgs a).length (dgs b).length:=Nat.pow_le_pow_right om om;have b2:4294967296^(dgs b).length≤4294967296^max (dgs a).length (dgs b).length:=Nat.pow_le_pow_right om om;rw [Nat.pow_succ];omega
theorem bI (a b:Nat):(dgs (a*b)).length≤(dgs a).length+(dgs b).length:=by
 refine bi ?_;rw [Nat.pow_add];exact Nat.mul_lt_mul'' (iE a) (iE b)
theorem ga {xs:List Nat}(h:D xs):(dgs (val xs)).length≤xs.length:=bi (bA h)
theorem GK (s t:Bool) (xs ys:List Nat) (hlx:xs.length≤100000000) (hly:ys.length≤100000000) (hX:D xs) (hY:D ys):Pu Tryz.prog 158 [raw s xs,raw t ys] (int (sv s (val xs)+sv t (val ys))):=by
 have hl1:=ga hX;have hl2:=ga hY;have s1:=yG xs ys hlx hly hX hY;have s2:=yG ys xs hly hlx hY hX;by_cases hst:s=t
 ·subst hst;have hl:=rf (val xs) (val ys);rw [←BW];cases s
  all_goals
   refine Pi Tryz.func158 fun C=>?_
   repeat(refine A1 ⟨?_⟩;intros)
   refine Wdc (GL xs ys hlx hly hX hY) ?_;repeat(refine A1 ⟨?_⟩;intros)
   refine Wdc (kz _ (val xs+val ys) om) ?_;exact Z2
 ·by_cases hlt:val xs<val ys
  ·rw [if_pos hlt]at s1;rw [if_neg om]at s2;have hl:=aD (Nat.sub_le (val ys) (val xs));rw [Int.add_comm,←tE t s (Ne.symm hst) om];cases s <;> cases t <;> first|exact absurd rfl hst|skip
   all_goals
    refine Pi Tryz.func158 fun C=>?_
    repeat(refine A1 ⟨?_⟩;intros)
    refine Wc s1 ?_;repeat(refine A1 ⟨?_⟩;intros)
    refine Wc s2 ?_;repeat(refine A1 ⟨?_⟩;intros)
    refine Wc (kz _ (val ys-val xs) om) ?_;exact Z2
  ·rw [if_neg om]at s1;have hl:=aD (Nat.sub_le (val xs) (val ys));rw [←tE s t hst om];cases s <;> cases t <;> first|exact absurd rfl hst|skip
   all_goals
    refine Pi Tryz.func158 fun C=>?_
    repeat(refine A1 ⟨?_⟩;intros)
    refine Wc s1 ?_;repeat(refine A1 ⟨?_⟩;intros)
    refine Wc (kz _ (val xs-val ys) om) ?_;exact Z2
theorem Db {x0 x1 y0 y1:Nat}{a b:Nat}(ha:a=x0+4294967296*x1) (hb:b=y0+4294967296*y1) :
  a*b=x0*y0+4294967296*(x1*y0)+4294967296*(x0*y1)+18446744073709551616*(x1*y1):=by
 subst ha;subst hb;rw [Nat.add_mul,Nat.mul_add,Nat.mul_add,Nat.mul_assoc,Nat.mul_assoc,Nat.mul_left_comm x0];rw [Nat.mul_left_comm x1 4294967296,←Nat.mul_assoc 4294967296 4294967296];omega
theorem Da (a b:Nat) (ha:a<18446744073709551616) (hb:b<18446744073709551616):Pu Tryz.prog 210 [lit (.int .u64 a),lit (.int .u64 b)] (tup [lit (.int .u64 (a*b/18446744073709551616:Nat)),lit (.int .u64 (a*b%18446744073709551616:Nat))]):=by
 obtain⟨x0,hx0⟩:∃x,x=a%4294967296:=⟨_,rfl⟩
 obtain⟨x1,hx1⟩:∃x,x=a/4294967296:=⟨_,rfl⟩
 obtain⟨y0,hy0⟩:∃x,x=b%4294967296:=⟨_,rfl⟩
 obtain⟨y1,hy1⟩:∃x,x=b/4294967296:=⟨_,rfl⟩
 have l1:x0<4294967296:=by omega
 have l2:x1<4294967296:=by omega
 have l3:y0<4294967296:=by omega
 have l4:y1<4294967296:=by omega
 have e:=Db (x0:=x0) (x1:=x1) (y0:=y0) (y1:=y1) (a:=a) (b:=b) om om;have p1:=gD l1 l3;have p2:=gD l2 l3;have p3:=gD l1 l4;have p4:=gD l2 l4;have c1:=Int.natCast_mul x0 y0;have c2:=Int.natCast_mul x1 y0;have c3:=Int.natCast_mul x0 y1;have c4:=Int.natCast_mul x1 y1;have c5:=Int.natCast_mul a b;have q1:(a:Int)/4294967296=(x1:Int):=by omega
 have q2:(b:Int)/4294967296=(y1:Int):=by omega
 refine Pi Tryz.func210 fun C=>?_
 repeat(refine A1 ⟨?_⟩;intros)
 refine Wo (qI rfl rfl (kf a rfl ha)) ?_;rw [←hx0];repeat(refine A1 ⟨?_⟩;intros)
 refine Wo (qI rfl rfl (kf b rfl hb)) ?_;rw [←hy0,q1];repeat(refine A1 ⟨?_⟩;intros)
 rw [q2];refine Wo (qI rfl rfl (kf (x1*y0+x0*y0/4294967296) om om)) ?_;repeat(refine A1 ⟨?_⟩;intros)
 refine aM (fD (RV.tmp rfl) (RV.tmp rfl) (Le.tup2 (Le.int ?_) (Le.int ?_)));all_goals(clear q1 q2 hx0 hx1 hy0 hy1;omega)
end Go.Ab
