/- Texts laid one behind the other: Cpy, PIns, PBs, PClip. -/
import Derived.Laws.CopyRow
import Derived.Lib.Overlaps
import Derived.Laws.MakeOwn
import Derived.Test.YtbcojehfealiaaaGreatDoorB21
set_option linter.all false
set_option maxHeartbeats 16000000
namespace Go.Ab
open Go.Proofs
variable [Base]
section
variable {P:Program}{C:Ctx}{n:Nat}{F:Fr}{H:LH}{ops:Array Oper}{K:Fr→LH→Prop}{rest:List Oper}{ty:TypeId}{pos:String}{aft:Array Edge}
theorem fN {T e:TypeId}{sz by_:Nat}{z:List SV}{g:Bool} [hS:TSl P T e] [hT:TY P e sz by_ z g]{x y:Operand}{b k c:Nat}{v:Int}(j:Nat) (hx:ev F x=lit (.slice (some ⟨b,0,none⟩) k c)) (hy:ev F y=lit (.int .i64 v)) (hv:v=(j:Int)) (hj:j≤k) (hc:j<c) :
  OpV P (.slice T x (some y) none none) ty F H (lit (.slice (some ⟨b,j*sz,none⟩) (k-j) (c-j))) :=
 OpV.pure fun m w o a ho _ _ _ h=>by
  have e0:=h x (by simp [Op.operands]);rw [hx,aq]at e0;have e1:=h y (by simp [Op.operands]);rw [hy,aq]at e1;subst hv
  have hb:(Instr.sliceBounds true k c (some (a.eval y)) none none).run P w = .ok (j,k,c) w:=by
   simp [Instr.sliceBounds,ig j k _ e1 hj]
  refine⟨.slice (some ⟨b,j*sz,none⟩) (k-j) (c-j),?_,aq.2 rfl⟩;have hne:¬c=j:=by omega
  simp [execOp,ho,Instr.sliceAt,Instr.slice,underlying,hS.h,e0,hb,hT.run_size,aO,hne]
theorem sJ {w:World}{dT sT ty elem:TypeId}{g o dLen dCap sz:Nat}{a:Addr}{sLen sCap:Nat}{cur:Array Value}{t:TypeId}{cs:List Value}
  (hu:P.underlying dT=some (.slice elem)) (hs:∀w,(Go.sizeOf elem).run P w = .ok sz w)
  (hg:w.heap[g]? = some (.cells cur t (0,0))) (hn:cs.length=Nat.min sLen dLen*sz)
  (hsrc:∀j v,cs[j]? = some v→w.cell? (a.add j)=some v) (hfit:o+cs.length≤cur.size) (h1:∀v∈cs,v.oneCell'=true) :
  (Builtin.copy_ #[dT,sT] ty #[.slice (some ⟨g,o,none⟩) dLen dCap, .slice (some a) sLen sCap]).run P w =
   .ok (goInt (Nat.min sLen dLen)) (w.setRow g (cur.toList.take o++cs++cur.toList.drop (o+cs.length)).toArray):=by
 have hl:=run_loadCells_list (P:=P) w a cs hsrc;have hst:=run_storeCells_at P g o t cs 0 cur w hg (by simpa using hfit) h1;simp [Builtin.copy_,run_underlying hu,Builtin.lenOf,Builtin.firstCells,hs,←hn,hl,hst]
theorem oV {w:World}{t t4 ty e:TypeId}{i:TypeInfo}(ht:P.underlying t=some (.slice e)) (ht4:P.underlying t4=some (.slice e)) (hi:P.info? e=some i)
  {g sLen sCap:Nat}{cur:Array Value}(hg:w.heap[g]? = some (.cells cur e (0,0)))
  {a:Addr}{m c:Nat}{news:List Value}(hl:news.length=m*i.size) (hnews:∀j u,news[j]? = some u→w.cell? (a.add j)=some u) (h1:∀u∈news,u.oneCell'=true)
  (hroom:sLen+m≤sCap) (hfit:sLen*i.size+news.length≤cur.size) :
  (Builtin.append_ #[t,t4] ty #[.slice (some ⟨g,0,none⟩) sLen sCap, .slice (some a) m c]).run P w =
   .ok (.slice (some ⟨g,0,none⟩) (sLen+m) sCap) (w.setRow g (cur.toList.take (sLen*i.size)++news++cur.toList.drop (sLen*i.size+news.length)).toArray):=by
 have hf:=run_firstCells_some (P:=P) w i.size m a m c news hl hnews;have hst:=run_storeCells_at P g (sLen*i.size) e news 0 cur w hg (by simpa using hfit) h1;simp only [Nat.add_zero]at hst;simp [Builtin.append_,run_underlying ht,run_underlying ht4,sizeOf,typeInfo,hi,Builtin.lenOf,hroom,hf,Addr.add_lit,hst]
theorem WPL.copyB {d:Nat}{x y:Operand}{T sT e T' T3:TypeId}{sz by_:Nat}{z:List SV}{g:Bool} [hS:TSl P T e] [hT:TY P e sz by_ z g]{b b3 o1 o2 n1 n2 c1 c2:Nat}{cs ss:List SV}{H':LH}
  (hx:ev F x=lit (.slice (some ⟨b,o1,none⟩) n1 c1)) (hy:ev F y=lit (.slice (some ⟨b3,o2,none⟩) n2 c2)) (h3:(b3,T3,ss)∈H)
  (hfit:o1+Nat.min n2 n1*sz≤cs.length) (hsrc:o2+Nat.min n2 n1*sz≤ss.length)
  (hup:ay b T' cs (cs.take o1++(ss.drop o2).take (Nat.min n2 n1*sz)++cs.drop (o1+Nat.min n2 n1*sz)) H H')
  (k:WPL P C n ops rest K (upd F d (lit (.int .i64 (Nat.min n2 n1:Nat)))) H') (hd:Nat.blt d n=true) :
  WPL P C n ops (⟨some d, .call ⟨.builtin .copy,#[x,y],#[T,sT]⟩,ty,pos,aft,none⟩::rest) K F H:=by
 unfold WPL;intro a w hs Q hq;refine wpList_plain rfl fun K' hK'=>?_
 obtain⟨hdef,hn,m,h1,h2,h30,h4,h5⟩:=hs
 have hpp:∀x,(ev F x).p m (a.eval x):=fun x=>by
  cases x with
  |tmp t=>exact h5 t
  |const v=>unfold ev lit;rfl
  |global g=>unfold ev lit;rfl
  |func f=>unfold ev lit;rfl
 have e0:=hpp x;rw [hx,aq]at e0;have e1:=hpp y;rw [hy,aq]at e1;obtain⟨hmb,arr,hb,hall⟩:=h2.2 _ hup.mem;obtain⟨_,arr3,hb3,hall3⟩:=h2.2 _ h3;have hlen:=hall.length;have hlen3:=hall3.length;simp only [Array.length_toList]at hlen hlen3
 have hcl:((arr3.toList.drop o2).take (Nat.min n2 n1*sz)).length=Nat.min n2 n1*sz:=by
  rw [List.length_take,List.length_drop,Array.length_toList];omega
 have hsr:∀j u,((arr3.toList.drop o2).take (Nat.min n2 n1*sz))[j]? = some u→w.cell? ((⟨b3,o2,none⟩:Addr).add j)=some u:=fun j u hj=>by
  rw [aO,cu w b3 _ arr3 _ _ hb3];rw [List.getElem?_take]at hj;split at hj
  ·rw [List.getElem?_drop]at hj;simpa using hj
  ·cases hj
 have hrun:=sJ (P:=P) (w:=w) (dT:=T) (sT:=sT) (ty:=ty) (elem:=e) (g:=b) (o:=o1) (dLen:=n1) (dCap:=c1) (sz:=sz) (a:=⟨b3,o2,none⟩) (sLen:=n2) (sCap:=c2) hS.h hT.run_size hb hcl hsr (by rw [hcl];omega)
  (fun v hv=>hall3.flat v (List.mem_of_mem_drop (List.mem_of_mem_take hv)))
 unfold Oper.wp
 have hexec:execOp a.eval (⟨some d, .call ⟨.builtin .copy,#[x,y],#[T,sT]⟩,ty,pos,aft,none⟩:Oper)=(do let v←Builtin.copy_ #[T,sT] ty #[a.eval x,a.eval y];pure (.value v)):=by
  simp [execOp,resolve,invoke,builtin]
 rw [hexec,e0,e1];simp only [Sem.run_bind,hrun,Result.andThen_ok,Sem.run_pure];rw [hcl]
 obtain⟨q1,q2,q3,q4⟩:=ik (w':=w.setRow b (arr.toList.take o1++(arr3.toList.drop o2).take (Nat.min n2 n1*sz)++arr.toList.drop (o1+Nat.min n2 n1*sz)).toArray) h1 h2 h30 h4 hup (setRow_heap w b arr _ _ _ hb) (fun j hj=>setRow_other w b j _ hj) rfl rfl ⟨rfl,rfl⟩ (by simp)
  (by simpa using ((hall.take o1).append ((hall3.drop o2).take _)).append (hall.drop _))
 unfold WPL at k;refine hK' _ _ (k (a.put (some d) (.int .i64 (Nat.min n2 n1:Nat))) _ ⟨hdef,by simpa [Act.put] using hn,m,q1,q2,q3,q4,fun t=>?_⟩ Q hq);rw [dw (Nat.lt_of_lt_of_le (Nat.blt_eq.mp hd) hn)];unfold Ab.upd;by_cases ht:t=d
 ·subst ht;rw [if_pos rfl,Nat.beq_refl];exact aq.2 rfl
 ·rw [if_neg ht]
  have:Nat.beq t d=false:=by
   cases hbb:Nat.beq t d with
   |false=>rfl
   |true=>exact absurd (Nat.eq_of_beq_eq_true hbb) ht
  rw [this];exact h5 t
theorem WPL.appIn {T T4 e:TypeId}{sz by_:Nat}{z:List SV}{g:Bool} [hS:TSl P T e] [hS4:TSl P T4 e] [hT:TY P e sz by_ z g]{d:Nat}{x y:Operand}{n0 b b2 c c2:Nat}{T':TypeId}{cs ds tl:List SV}{Rs:LH}
  (hx:ev F x=lit (.slice (some ⟨b,0,none⟩) n0 c)) (hy:ev F y=lit (.slice (some ⟨b2,0,none⟩) 1 c2)) (hcl:cs.length=n0*sz) (htl:tl.length=c*sz-n0*sz) (hroom:n0+1≤c) (hdl:ak b e (cs++tl) H Rs) (hm:(b2,T',ds)∈Rs) (hds:ds.length=sz)
  (k:WPL P C n ops rest K (upd F d (lit (.slice (some ⟨b,0,none⟩) (n0+1) c))) ((b,e,(cs++ds)++tl.drop sz)::Rs)) (hd:Nat.blt d n=true) :
  WPL P C n ops (⟨some d, .call ⟨.builtin .append,#[x,y],#[T,T4]⟩,ty,pos,aft,none⟩::rest) K F H:=by
 unfold WPL;intro a w hs0 Q hq;have hs:=hs0.perm hdl.perm;refine wpList_plain rfl fun K' hK'=>?_
 obtain⟨hdef,hn,m0,h10,h20,h30,h40,h50⟩:=id hs
 have hp0:∀x,(ev F x).p m0 (a.eval x):=fun x=>by
  cases x with
  |tmp t=>exact h50 t
  |const v=>unfold ev lit;rfl
  |global g=>unfold ev lit;rfl
  |func f=>unfold ev lit;rfl
 have e0:=hp0 x;rw [hx,aq]at e0;have e1:=hp0 y;rw [hy,aq]at e1;obtain⟨_,arr2,hb2,hall2⟩:=h20.2 _ (Mc hm);obtain⟨i,v,hi,hsz,hbyt,hz,hzl,hfl,hvs⟩:=hT.run_bytes;have hlen2:=hall2.length;simp only [Array.length_toList]at hlen2
 have hys:∀j u,arr2.toList[j]? = some u→w.cell? ((⟨b2,0,none⟩:Addr).add j)=some u:=fun j u hj=>by
  rw [aO,cu w b2 _ arr2 _ _ hb2];simpa using hj
 have hexec:execOp a.eval (⟨some d, .call ⟨.builtin .append,#[x,y],#[T,T4]⟩,ty,pos,aft,none⟩:Oper)=(do let v←Builtin.append_ #[T,T4] ty #[a.eval x,a.eval y];pure (.value v)):=by
  simp [execOp,resolve,invoke,builtin]
 obtain⟨hmb,arr,hb,hall⟩:=h20.2 _ Ms;have hlen:=hall.length;simp only [List.length_append,hcl,htl,Array.length_toList]at hlen;have hm1:(n0+1)*sz≤c*sz:=Nat.mul_le_mul_right _ hroom;rw [Nat.succ_mul]at hm1;unfold Oper.wp;rw [hexec,e1,e0];have hmul:n0*sz≤c*sz:=Nat.mul_le_mul_right _ om;have hrun:=oV (P:=P) (w:=w) (t:=T) (t4:=T4) (ty:=ty) (e:=e) (i:=i) hS.h hS4.h hi (g:=b) (sLen:=n0) (sCap:=c) hb (a:=⟨b2,0,none⟩) (m:=1) (c:=c2) (news:=arr2.toList) (by rw [Array.length_toList,hlen2,hsz,hds,Nat.one_mul]) hys hall2.flat hroom (by rw [hsz,Array.length_toList,hlen2,hds];omega);simp only [Sem.run_bind,hrun,Result.andThen_ok,Sem.run_pure];unfold WPL at k
 have hfin:az m0 ((cs++ds)++tl.drop sz) (arr.toList.take (n0*i.size)++arr2.toList++arr.toList.drop (n0*i.size+arr2.toList.length)).toArray.toList:=by
  obtain⟨q1,q2⟩:=hall.split;rw [hcl]at q1 q2;rw [hsz,Array.length_toList,hlen2,hds,List.toList_toArray,←List.drop_drop];exact(q1.append hall2).append (q2.drop sz)
 obtain⟨q1,q2,q3,q4⟩:=ik (w':=w.setRow b (arr.toList.take (n0*i.size)++arr2.toList++arr.toList.drop (n0*i.size+arr2.toList.length)).toArray) h10 h20 h30 h40 (.here Rs)
  (setRow_heap w b arr _ e _ hb) (fun j hj=>setRow_other w b j _ hj) rfl rfl ⟨rfl,rfl⟩ (by simp) hfin
 refine hK' _ _ (k (a.put (some d) (.slice (some ⟨b,0,none⟩) (n0+1) c)) _ ⟨hdef,by simpa [Act.put] using hn,m0,q1,q2,q3,q4,fun t=>?_⟩ Q hq);rw [dw (Nat.lt_of_lt_of_le (Nat.blt_eq.mp hd) hn)];unfold Ab.upd;by_cases ht:t=d
 ·subst ht;rw [if_pos rfl,Nat.beq_refl];exact aq.2 rfl
 ·rw [if_neg ht]
  have:Nat.beq t d=false:=by
   cases hbb:Nat.beq t d with
   |false=>rfl
   |true=>exact absurd (Nat.eq_of_beq_eq_true hbb) ht
  rw [this];exact h50 t
theorem WPL.makeR {T e:TypeId}{sz by_:Nat}{z:List SV}{g:Bool} [hS:TSl P T e] [hT:TY P e sz by_ z g]{d:Nat}{x y:Operand}{c:Nat}{v:Int}(hx:ev F x=lit (.int .i64 0)) (hy:ev F y=lit (.int .i64 v)) (hv:v=(c:Int)) (hb:by_*c≤281474976710656) (hc:c≤1000000000) (hd:Nat.blt d n=true)
  (h:∀b,WPL P C n ops rest K (upd F d (lit (.slice (some ⟨b,0,none⟩) 0 c))) ((b,e,List.replicate (c*sz) top)::H)):WPL P C n ops (⟨some d, .makeSlice T x y,ty,pos,aft,none⟩::rest) K F H:=by
 subst hv;unfold WPL at h⊢;intro a w hs Q hq;obtain⟨i,v,hi,hsz,hbyt,hz,hzl,hfl,hvs⟩:=hT.run_bytes;obtain⟨m0,_,hp0⟩:=hs.evp;have e0:=hp0 x;rw [hx,aq]at e0;have e1:=hp0 y;rw [hy,aq]at e1;refine wpList_plain rfl fun K' hK'=>?_
 have hb':(i.bytes:Int)*(c:Int)≤281474976710656:=by
  rw [hbyt];have h2:((by_*c:Nat):Int)≤281474976710656:=by omega
  rwa [Int.natCast_mul]at h2
 have hr:=run_make (P:=P) w T e i v hS.h hi hz .i64 .i64 0 (c:Int) (Int.le_refl _) om hb' om;simp only [Int.toNat_zero,Int.toNat_natCast]at hr;unfold Oper.wp
 have hexec:execOp a.eval (⟨some d, .makeSlice T x y,ty,pos,aft,none⟩:Oper)=(do let v←Instr.makeSlice T (a.eval x) (a.eval y);pure (.value v)):=by
  simp [execOp]
 rw [hexec,e0,e1];simp only [Sem.run_bind,hr,Result.andThen_ok,Sem.run_pure];refine hK' _ _ (h _ _ _ (St.push (Nat.blt_eq.mp hd) hs fun m _=>?_) Q hq);refine az.topL (by rw [Array.length_toList,size_madeCells,hsz]) fun u hu=>?_
 simp only [madeCells,Array.toList_map,Array.toList_range,List.mem_map,List.mem_range]at hu;obtain⟨j,hj,rfl⟩:=hu;have hp:0<v.cells.size:=Nat.pos_of_ne_zero fun e=>by rw [hvs]at e;rw [hsz,e,Nat.mul_zero]at hj;omega
 have hlt:j%v.cells.size<v.cells.size:=Nat.mod_lt _ hp;rw [getElem!_pos v.cells _ hlt];exact List.all_eq_true.1 hfl _ (by simp)
theorem q7 {w:World}{tS tR e:TypeId}(ht:P.underlying tS=some (.slice e)){size:Nat}(hz:∀w,(Go.sizeOf e).run P w = .ok size w)
  {b1 o1 l1 c1 b2 o2 l2 c2:Nat}{A1 A2:Array Value}{T1 T2:TypeId}(hne:b1≠b2) (h1:w.heap[b1]? = some (.cells A1 T1 (0,0))) (h2:w.heap[b2]? = some (.cells A2 T2 (0,0))) (hA:A2.size≠0) :
  (Extern.SlicesOverlaps.overlaps #[tS,tS] #[tR] #[.slice (some ⟨b1,o1,none⟩) l1 c1, .slice (some ⟨b2,o2,none⟩) l2 c2]).run P w = .ok (.bool false) w :=
 Go.Lib.run_overlaps_apart w tS tR e ht size hz ⟨b1,o1,none⟩ ⟨b2,o2,none⟩ l1 c1 l2 c2 hne T1 T2 A1.size A2.size (by simp [World.shape?,h1]) (by simp [World.shape?,h2]) hA (by simp [World.frozen?,h1]) (by simp [World.frozen?,h1])
end
section
variable {P:Program}{C:Ctx}{n:Nat}{F:Fr}{H:LH}{ops:Array Oper}{K:Fr→LH→Prop}{rest:List Oper}{ty:TypeId}{pos:String}{aft:Array Edge}
theorem HT {T e:TypeId} [hS:TSl P T e]{x:Operand}{a:Option Addr}{k c:Nat}(hx:ev F x=lit (.slice a k c)):OpV P (.call ⟨.builtin .cap,#[x],#[T]⟩) ty F H (lit (.int .i64 c)) :=
 OpV.pure fun m w o a ho _ _ _ h=>by
  have h0:=h x (by simp [Op.operands,Call.operands]);rw [hx,aq]at h0;refine⟨.int .i64 c,?_,aq.2 rfl⟩;simp [execOp,ho,resolve,invoke,builtin,h0,Builtin.cap_,goInt,underlying,hS.h]
theorem LZ {k q i d:Nat}{late:List NO'}{x y:Operand}{T sT e T' T3:TypeId}{sz by_:Nat}{z:List SV}{g:Bool} [hS:TSl P T e] [hT:TY P e sz by_ z g]{b b3 o1 o2 n1 n2 c1 c2:Nat}{cs ss:List SV}{H':LH}{r:List Oper}
  (hx:ev F x=lit (.slice (some ⟨b,o1,none⟩) n1 c1)) (hy:ev F y=lit (.slice (some ⟨b3,o2,none⟩) n2 c2)) (h3:(b3,T3,ss)∈H)
  (hfit:o1+Nat.min n2 n1*sz≤cs.length) (hsrc:o2+Nat.min n2 n1*sz≤ss.length)
  (hup:ay b T' cs (cs.take o1++(ss.drop o2).take (Nat.min n2 n1*sz)++cs.drop (o1+Nat.min n2 n1*sz)) H H')
  (hlok:LOk P ops k q n H F late) (h:Stg P C n ops k q late K (i+1) r (upd F d (lit (.int .i64 (Nat.min n2 n1:Nat)))) H')
  (ho:ops[i]? = some ⟨some d, .call ⟨.builtin .copy,#[x,y],#[T,sT]⟩,ty,pos,aft,none⟩:=by exact rfl) (hd:Nat.blt d n=true:=by exact rfl) :
  Stg P C n ops k q late K i (⟨some d, .call ⟨.builtin .copy,#[x,y],#[T,sT]⟩,ty,pos,aft,none⟩::r) F H:=by
 refine⟨hlok,fun s' H2=>s'=lit (.int .i64 (Nat.min n2 n1:Nat))∧H2=H',TSR.of ho rfl fun F1 hF1=>?_,?_⟩
 ·have hx1:ev F1 x=lit (.slice (some ⟨b,o1,none⟩) n1 c1):=by rw [←hx];exact(dz (by simp [Op.operands,Call.operands]) hF1)
  have hy1:ev F1 y=lit (.slice (some ⟨b3,o2,none⟩) n2 c2):=by rw [←hy];exact(dz (by simp [Op.operands,Call.operands]) hF1)
  exact WPL.copyB hx1 hy1 h3 hfit hsrc hup (WPL.nil ⟨_,⟨rfl,rfl⟩,rfl⟩) hd
 ·rintro s' H2 ⟨rfl,rfl⟩;exact h
end
section
variable {F:Fr}{H:LH}{ty:TypeId}
theorem Eu {x y:Operand}{b1 o1 l1 c1 b2 o2 l2 c2:Nat}{tys:Array TypeId}{T1 T2:TypeId}{cs1 cs2:List SV}{R:LH}(hx:ev F x=lit (.slice (some ⟨b1,o1,none⟩) l1 c1)) (hy:ev F y=lit (.slice (some ⟨b2,o2,none⟩) l2 c2)) (hd:ak b1 T1 cs1 H R) (h2:(b2,T2,cs2)∈R) (hn:cs2≠[]) :
  OpV Tryz.prog (.call ⟨.value (.func 285),[x,y].toArray,tys⟩) ty F H (lit (.bool false)) :=
 OpV.pure fun m w o a ho _ _ hH h=>by
  have h0:=h x (by simp [Op.operands,Call.operands]);rw [hx,aq]at h0;have h1:=h y (by simp [Op.operands,Call.operands]);rw [hy,aq]at h1;have h8:=@run_callFunc_extern Tryz.prog 285 _ (Extern.SlicesOverlaps.overlaps #[237,237] #[4]) Tryz.func285 kr kr kr kr;have hp:=hd.perm;have hnd:((b1,T1,cs1)::R).map (·.1) |>.Nodup:=(hp.map (·.1)).nodup_iff.1 hH.1
  have hne:b1≠b2:=fun e=>by
   rw [List.map_cons,List.nodup_cons]at hnd;exact hnd.1 (List.mem_map.2 ⟨_,h2,e.symm⟩)
  obtain⟨_,A1,hb1,_⟩:=hH.2 _ hd.mem;obtain⟨_,A2,hb2,hall2⟩:=hH.2 _ (hp.mem_iff.2 (Mc h2));have hA:A2.size≠0:=fun e=>hn (List.eq_nil_of_length_eq_zero (by have:=hall2.length;rw [Array.length_toList,e]at this;exact this.symm))
  have hsl:TSl Tryz.prog 237 290:=inferInstance;have hty:TY Tryz.prog 290 17 _ _ _:=inferInstance;refine⟨.bool false,?_,aq.2 rfl⟩;have:=h8 #[a.eval x,a.eval y] w;rw [h0,h1,q7 hsl.h hty.run_size hne hb1 hb2 hA]at this;simp only [execOp,ho,resolve,Sem.run_bind,Sem.run_pure,Result.andThen_ok];have e1:a.eval (.func 285) = .func (.func 285) #[] #[]:=rfl;simp only [e1,Deferred.ofValue,Sem.run_pure,Result.andThen_ok,invoke,List.map_toArray,List.map_cons,List.map_nil,Array.empty_append,Array.append_empty,h0,h1,this]
end
theorem Ft {α:Type}{A B tl ds:List α}{a s k:Nat}(hA:A.length=a) (hB:B.length=k) (hs:s≤k+tl.length) :
  ((A++B++tl).take (a+s)++((A++B++tl).drop a).take k++(A++B++tl).drop (a+s+k)).take a++ds++((A++B++tl).take (a+s)++((A++B++tl).drop a).take k++(A++B++tl).drop (a+s+k)).drop (a+s)=A++ds++B++tl.drop s:=by
 have e1:(A++B++tl).drop a=B++tl:=by rw [List.append_assoc,←hA,List.drop_left]
 have e2:(B++tl).take k=B:=by rw [←hB,List.take_left]
 have e3:(A++B++tl).drop (a+s+k)=tl.drop s:=by
  rw [show a+s+k=(A++B).length+s by rw [List.length_append];omega,←List.drop_drop,List.drop_left]
 have e4:((A++B++tl).take (a+s)).length=a+s:=by rw [List.length_take,List.length_append,List.length_append];omega
 have e5:((A++B++tl).take (a+s)).take a=A:=by
  rw [List.take_take,show min a (a+s)=a by omega,List.append_assoc,←hA,List.take_left]
 rw [e1,e2,e3];generalize(A++B++tl).take (a+s)=Q at *;clear e1 e2 e3;rw [List.append_assoc Q,List.take_append_of_le_length om,e5,←e4,List.drop_left];simp only [List.append_assoc]
abbrev frT:TypeId:=290
theorem CG (b b2 n c i c2:Nat) (cs tl ds:List SV) (hcl:cs.length=n*17) (htl:tl.length=c*17-n*17) (hds:ds.length=17) (hroom:n+1≤c) (hc:c≤10000000) (hi:i≤n) :
  PuH Tryz.prog 278 [lit (.slice (some ⟨b,0,none⟩) n c),lit (.int .i64 i),lit (.slice (some ⟨b2,0,none⟩) 1 c2)] [(b,frT,cs++tl),(b2,frT,ds)]
   (fun res H=>res=lit (.slice (some ⟨b,0,none⟩) (n+1) c)∧H=[(b,frT,cs.take (i*17)++ds++cs.drop (i*17)++tl.drop 17),(b2,frT,ds)]) noX:=by
 have hm:(n+1)*17≤c*17:=Nat.mul_le_mul_right _ hroom;have hm2:i*17≤n*17:=Nat.mul_le_mul_right _ hi;refine PuH.intro Tryz.func278 rfl kr fun C hC=>?_
 repeat(refine A1 ⟨?_⟩;intros)
 refine Wo (fN i rfl rfl rfl hi om) ?_;by_cases hin:i=n
 ·subst hin;repeat(refine A1 ⟨?_⟩;intros)
  refine WPL.appIn (cs:=cs) (tl:=tl) (ds:=ds) rfl rfl hcl htl hroom (.here _) (List.mem_singleton.2 rfl) hds ?_ rfl;repeat(refine A1 ⟨?_⟩;intros)
  refine eN _ _ (aJ (RV.tmp rfl) Lr) Sr ⟨rfl,?_⟩;rw [←hcl,List.take_length,List.drop_length,List.append_nil]
 ·have hge:i*17+17≤n*17:=by omega
  have hsub:(n-i)*17=n*17-i*17:=Nat.sub_mul ..;have hne:cs++tl≠[]:=fun e=>by have:=congrArg List.length e;rw [List.length_append,hcl,htl]at this;simp at this;omega
  repeat(refine A1 ⟨?_⟩;intros)
  refine Wo (HT rfl) ?_;repeat(refine A1 ⟨?_⟩;intros)
  refine Wo (Hy (n+1) rfl rfl om om) ?_;repeat(refine A1 ⟨?_⟩;intros)
  refine Wo (fN (i+1) rfl rfl om om om) ?_;repeat(refine A1 ⟨?_⟩;intros)
  refine Wo (Eu rfl rfl (.there _ (.here _)) (List.mem_singleton.2 rfl) hne) ?_;repeat(first|(refine AS ⟨?_⟩;intros)|(refine O1 ⟨?_⟩;intros))
  refine WdL 8 1 ?_;repeat(first|(refine A1 ⟨?_⟩;intros)|(refine Wo (fN (i+1) (k:=n+1) (c:=c) rfl rfl om om om) ?_)|(refine Wdo (fN (i+1) (k:=n+1) (c:=c) rfl rfl om om om) ?_)|(refine Wog (fN (i+1) (k:=n+1) (c:=c) rfl rfl om om om) ?_)|(refine cT (fN (i+1) (k:=n+1) (c:=c) rfl rfl om om om) ?_)|(refine Wo (fN i (k:=n+1) (c:=c) rfl rfl om om om) ?_)|(refine Wdo (fN i (k:=n+1) (c:=c) rfl rfl om om om) ?_)|(refine Wog (fN i (k:=n+1) (c:=c) rfl rfl om om om) ?_)|(refine cT (fN i (k:=n+1) (c:=c) rfl rfl om om om) ?_))
  refine dL0 ?_
  have hmin:Nat.min (n+1-i) (n+1-(i+1))*17=n*17-i*17:=by
   rw [show Nat.min (n+1-i) (n+1-(i+1))=n-i from Nat.min_eq_right om |>.trans om,hsub]
  have hlen:(cs++tl).length=c*17:=by rw [List.length_append,hcl,htl];omega
  have hi1:(i+1)*17=i*17+17:=by omega
  refine LZ (cs:=cs++tl) (ss:=cs++tl) rfl rfl List.mem_cons_self (by rw [hmin,hlen,hi1];omega) (by rw [hmin,hlen];omega) (.here _) ?_ ?_
  ·(repeat(first|exact LOk.nil|refine Lsk ?_|refine Lcv ?_))
  refine Gn ?_ ?_
  ·(repeat(first|exact LOk.nil|refine Lsk ?_|refine Lcv ?_))
  rw [hmin,hi1];repeat(first|(refine AS ⟨?_⟩;intros)|(refine O1 ⟨?_⟩;intros))
  refine Wo (fN i (k:=n+1) (c:=c) rfl rfl om om om) ?_;repeat(refine A1 ⟨?_⟩;intros)
  have hX:((cs++tl).take (i*17+17)++((cs++tl).drop (i*17)).take (n*17-i*17)++(cs++tl).drop (i*17+17+(n*17-i*17))).length=c*17:=by
   simp only [List.length_append,List.length_take,List.length_drop,hcl,htl];omega
  have hmin2:Nat.min 1 (n+1-i)*17=17:=by
   rw [show Nat.min 1 (n+1-i)=1 from Nat.min_eq_left om]
  refine WPL.copyB (ss:=ds) rfl rfl (by first|exact Ms|exact Mc Ms) (by rw [hmin2,hX];omega) (by rw [hmin2,hds];omega) (.here _) ?_ rfl;rw [hmin2];repeat(refine A1 ⟨?_⟩;intros)
  refine eN _ _ (aJ (RV.tmp rfl) Lr) Sr ⟨rfl,?_⟩;have hcs:cs=cs.take (i*17)++cs.drop (i*17):=(List.take_append_drop _ _).symm;have key:=Ft (A:=cs.take (i*17)) (B:=cs.drop (i*17)) (tl:=tl) (ds:=ds) (a:=i*17) (s:=17) (k:=n*17-i*17) (by rw [List.length_take];omega) (by rw [List.length_drop];omega) om;rw [←hcs]at key;rw [show(ds.drop 0).take 17=ds by rw [List.drop_zero,←hds,List.take_length],key]
section
variable {P:Program}{F:Fr}{H:LH}{ty:TypeId}
theorem el {x:Operand}{f:FuncId}{l:List Operand}{tys:Array TypeId}{svs:List SV}{res:SV}(hx:ev F x=lit (.func (.func f) #[] #[])) (hc:Pu P f svs res) (ha:l.map (ev F)=svs) :
  OpV P (.call ⟨.value x,l.toArray,tys⟩) ty F H res:=by
 unfold Pu at hc;refine OpV.of0 ?_;intro m w o a ho hty h1 h2 h3 K Q hK;have hargs:=kU (m:=m) (a:=a) l fun x hx=>evA h3 (by simp [Op.operands,Call.operands,hx])
 rw [ha]at hargs;have hxv:=evA (x:=x) h3 (by simp [Op.operands,Call.operands]);rw [hx,aq]at hxv;have hcall:=hc.2 m w _ h1 hargs;unfold Oper.wp
 have hrun:(execOp a.eval o).run P w = .ok (.enter f (l.map a.eval).toArray) w:=by
  simp [execOp,ho,resolve,hxv,Deferred.ofValue,invoke,dX hc.1]
 rw [hrun];refine Calls.mono hcall ?_;rintro e w' ⟨v,m',rfl,hp,hm',hr⟩;exact hK v m' w' hp hm' hr
end
def eD (p:Nat→Bool):Nat→Nat→Nat→Nat
 |0,i,_=>i
 |f+1,i,j=>if i<j then(if p ((i+j)/2)then eD p f ((i+j)/2+1) j else eD p f i ((i+j)/2))else i
def aP (l:Li) (c:PC):Nat:=eD (fun k=>decide (mw (dirL ((c.getD k (⟨0,0,0⟩,Spn.none)).1)) (dirL l)<0)) (c.length+1) 0 c.length
theorem pG (p:Nat→Bool):∀(f i j n:Nat),i≤j→j≤n→eD p f i j≤n
 |0,i,j,n,h,k=>by unfold eD;omega
 |f+1,i,j,n,h,k=>by
  unfold eD;split
  ·split
   ·exact pG p f _ _ n om k
   ·exact pG p f _ _ n om om
  ·omega
theorem je (p:Nat→Bool):∀(f g i j:Nat),j-i<f→j-i<g→eD p f i j=eD p g i j
 |0,_,_,_,h,_=>by omega
 |_,0,_,_,_,h=>by omega
 |f+1,g+1,i,j,h,k=>by
  unfold eD;split
  ·split
   ·exact je p f g _ _ om om
   ·exact je p f g _ _ om om
  ·rfl
abbrev Jr:Value := .func (.func 277) #[] #[]
theorem Ll {c:PC}{l:Li}{L:Nat}(hc:∀s∈c,s.1.le L) (hl:l.le L) (h1:1≤L) (hU:L≤10000) (hn:c.length≤1000000) (b cap:Nat) (tl:List SV) :
  PuH Tryz.prog 276 [lit (.slice (some ⟨b,0,none⟩) c.length cap),lfl l,lit Jr] [(b,frT,(c.map fgx).flatten++tl)]
   (fun res H=>(∃fb,res=tup [lit (.int .i64 (aP l c:Nat)),lit (.bool fb)])∧H=[(b,frT,(c.map fgx).flatten++tl)]) noX:=by
 refine PuH.intro Tryz.func276 rfl kr fun C hC=>?_
 repeat(refine A1 ⟨?_⟩;intros)
 rename_i b4
 refine WP.loopS (ι:=Nat×Nat) (fun st=>st.1≤st.2∧st.2≤c.length∧eD (fun k=>decide (mw (dirL ((c.getD k (⟨0,0,0⟩,Spn.none)).1)) (dirL l)<0)) (c.length+1) st.1 st.2=aP l c) (fun st=>st.2-st.1)
  (fun st=>fm [(0,lit (.slice (some ⟨b,0,none⟩) c.length cap)),(2,lit Jr),(4,lit (.pointer (some ⟨b4,0,none⟩))),(8,lit (.int .i64 c.length)),(9,lit (.int .i64 st.1)),(10,lit (.int .i64 st.2))])
  (fun _=>[(b4,167,lfc l.a l.b l.c),(b,frT,(c.map fgx).flatten++tl)]) (0,c.length) ⟨Nat.zero_le _,Nat.le_refl _,rfl⟩ lfA Sr ?_
 rintro ⟨i,j⟩ ⟨hij,hj,hb⟩ K hK;simp only at hij hj hb⊢;by_cases hlt:i<j
 ·have hh:IntKind.i64.wrap (((i:Int)+(j:Int)).fdiv (2^min (Int.toNat 1) IntKind.u64.bits))=(((i+j)/2:Nat):Int):=by
   show IntKind.i64.wrap (((i:Int)+(j:Int)).fdiv 2)=_
   rw [Int.fdiv_eq_ediv_of_nonneg _ om];simp only [IntKind.wrap,IntKind.bits,IntKind.signed,Bool.true_and];have h1:¬(9223372036854775808:Int)≤((i:Int)+j)/2%18446744073709551616:=by omega
   simp [h1];omega
  obtain⟨s,hget,hmem,hat,hne⟩:=elt eU om (show(i+j)/2<c.length by omega)
  have hat2:(((c.map fgx).flatten++tl).drop (0+(i+j)/2*17)).take 17=fgx s:=by
   have hfl:=cJ eU c;have hle:(i+j)/2*17+17≤c.length*17:=by omega
   rw [Nat.zero_add,List.drop_append_of_le_length om,List.take_append_of_le_length (by rw [List.length_drop];omega)];exact hat
  have hgd:c.getD ((i+j)/2) (⟨0,0,0⟩,Spn.none)=s:=by rw [List.getD_eq_getElem?_getD,hget];rfl
  have d1:=y7 (hc s hmem) hl h1 hU;unfold eD at hb;rw [if_pos hlt]at hb;simp only [hgd]at hb;by_cases hz:mw (dirL s.1) (dirL l)<0
  ·rw [if_pos (decide_eq_true hz),je _ _ (c.length+1) _ _ om om]at hb;have hgo:=fun F' H'=>hK F' H' ((i+j)/2+1,j) ⟨by simp only;omega,hj,hb⟩ (by simp only;omega)
   clear hK hb hat hgd hc hl;generalize mw (dirL s.1) (dirL l)=z at *;repeat(refine A1 ⟨?_⟩;intros)
   rw [hh];generalize hq:(i+j)/2=q at *
   have hh2:(IntKind.i64.wrap (((i:Int)+(j:Int)).fdiv (2^min 1 IntKind.u64.bits))).toNat=q:=by
    have e:IntKind.i64.wrap (((i:Int)+(j:Int)).fdiv (2^min 1 IntKind.u64.bits))=(q:Int):=hh;rw [e,Int.toNat_natCast]
   clear hh;refine Wdo (eS (cs':=fgx s) rfl (Mc Ms) (by rw [hh2,←Nat.zero_add (q*17)];exact hat2) rfl) ?_;repeat(first|(refine A1 ⟨?_⟩;intros)|(refine Wo (el rfl d1 rfl) ?_)|(refine Wdo (el rfl d1 rfl) ?_)|(refine Wog (el rfl d1 rfl) ?_)|(refine cT (el rfl d1 rfl) ?_))
   exact hgo _ _ lfA Sr
  ·rw [if_neg (by simpa using hz),je _ _ (c.length+1) _ _ om om]at hb;have hgo:=fun F' H'=>hK F' H' (i,(i+j)/2) ⟨by simp only;omega,by simp only;omega,hb⟩ (by simp only;omega)
   clear hK hb hat hgd hc hl;generalize mw (dirL s.1) (dirL l)=z at *;repeat(refine A1 ⟨?_⟩;intros)
   rw [hh];generalize hq:(i+j)/2=q at *
   have hh2:(IntKind.i64.wrap (((i:Int)+(j:Int)).fdiv (2^min 1 IntKind.u64.bits))).toNat=q:=by
    have e:IntKind.i64.wrap (((i:Int)+(j:Int)).fdiv (2^min 1 IntKind.u64.bits))=(q:Int):=hh;rw [e,Int.toNat_natCast]
   clear hh;refine Wdo (eS (cs':=fgx s) rfl (Mc Ms) (by rw [hh2,←Nat.zero_add (q*17)];exact hat2) rfl) ?_;repeat(first|(refine A1 ⟨?_⟩;intros)|(refine Wo (el rfl d1 rfl) ?_)|(refine Wdo (el rfl d1 rfl) ?_)|(refine Wog (el rfl d1 rfl) ?_)|(refine cT (el rfl d1 rfl) ?_))
   exact hgo _ _ lfA Sr
 ·have hbi:i=aP l c:=by
   unfold eD at hb;rw [if_neg hlt]at hb;exact hb
  rw [←hbi];clear hb hK hbi;by_cases hin:i<c.length
  ·obtain⟨s,hget,hmem,hat,hne⟩:=elt eU om hin
   have hat2:(((c.map fgx).flatten++tl).drop (0+i*17)).take 17=fgx s:=by
    have hfl:=cJ eU c;have hle:i*17+17≤c.length*17:=by omega
    rw [Nat.zero_add,List.drop_append_of_le_length om,List.take_append_of_le_length (by rw [List.length_drop];omega)];exact hat
   have d1:=y7 (hc s hmem) hl h1 hU;clear hc hl hat;generalize mw (dirL s.1) (dirL l)=z at *;repeat(first|(refine A1 ⟨?_⟩;intros)|(refine Wo (eS (cs':=fgx s) rfl (Mc Ms) hat2 rfl) ?_)|(refine Wdo (eS (cs':=fgx s) rfl (Mc Ms) hat2 rfl) ?_)|(refine Wog (eS (cs':=fgx s) rfl (Mc Ms) hat2 rfl) ?_)|(refine cT (eS (cs':=fgx s) rfl (Mc Ms) hat2 rfl) ?_)|(refine Wo (el rfl d1 rfl) ?_)|(refine Wdo (el rfl d1 rfl) ?_)|(refine Wog (el rfl d1 rfl) ?_)|(refine cT (el rfl d1 rfl) ?_))
   exact eN _ _ (fF (RV.tmp rfl) (RV.tmp rfl) Lr) (Sc Sr) ⟨⟨_,rfl⟩,rfl⟩
  ·clear hc hl;repeat(refine A1 ⟨?_⟩;intros)
   exact eN _ _ (fF (RV.tmp rfl) (RV.tmp rfl) Lr) (Sc Sr) ⟨⟨_,rfl⟩,rfl⟩
theorem G8 (l:Li) (c:PC):aP l c≤c.length:=pG _ _ _ _ _ (Nat.zero_le _) (Nat.le_refl _)
theorem Eh {m:Mem}{arr:Array Value}{b:Nat}{T:TypeId}{cs tl:List SV}{n c:Nat}(hm:m b=some (.cells arr T (0,0))) (ha:az m (cs++tl) arr.toList) (h1:n≤c) (h2:c≤maxLen):(sl cs n).p m (.slice (some ⟨b,0,none⟩) n c):=by
 refine f4 h1 h2 (.inr ⟨b,0,rfl,arr,T,(0,0),hm,?_⟩);rw [List.drop_zero];exact ha.split.1
theorem CB {c:PC}{l:Li}{k:Nat}{s:Fg}(h:c[k]? = some s):bd (c.take (k+1)) l=bd (c.take k) l++((dZ s.1 s.2 l).map fun w=>(s.1,w)).toList:=by
 unfold bd;rw [dM h,List.filterMap_append,List.filterMap_cons,List.filterMap_nil];cases dZ s.1 s.2 l <;> rfl
theorem rP (c:PC) (l:Li):(bd c l).length≤c.length:=List.length_filterMap_le ..
theorem Br {c:PC}{l:Li}{L:Nat}(hc:∀s∈c,s.1.le L∧s.2.le (50*L)) (hl:l.le L) (h1:1≤L) (hU:L≤500) (hn:c.length≤100000) :
  Pu Tryz.prog 270 [pcs c,lfl l] (Ab.tup [pcs (bs (aP l) c l).1,lit (.bool (bs (aP l) c l).2)]):=by
 have c0:=xX (fun s hs=>(hc s hs).1) hl h1 om om;have c1:=D3 hc hl h1 hU om;unfold bs;cases hp:gH c l with
 |none =>
  rw [hp]at c0;simp only [Option.isSome_none]at c0;simp only;clear hc hl;generalize Option.none.getD Spn.none=w at *;generalize jl c l=z at *;by_cases hz:0<z
  ·rw [decide_eq_true hz];refine Pi Tryz.func270 fun C=>?_
   repeat(first|(refine A1 ⟨?_⟩;intros)|refine W4 c0 ⟨?_⟩|refine W4 c1 ⟨?_⟩)
   exact G2
  ·rw [decide_eq_false hz];refine Pi Tryz.func270 fun C=>?_
   repeat(first|(refine A1 ⟨?_⟩;intros)|refine W4 c0 ⟨?_⟩|refine W4 c1 ⟨?_⟩)
   exact G2
 |some v =>
  rw [hp]at c0;simp only [Option.isSome_some,Option.getD_some]at c0;simp only;clear c1;refine PuH.toPu ?_;refine PuH.intro Tryz.func270 rfl kr fun C hC=>?_
  repeat(first|(refine A1 ⟨?_⟩;intros)|refine W4 c0 ⟨?_⟩)
  rename_i b3 b6;refine WPL.makeR (c:=c.length+1) rfl rfl om om om rfl fun b8=>?_
  repeat(refine A1 ⟨?_⟩;intros)
  refine WP.loopS (ι:=Nat) (fun k=>k≤c.length) (fun k=>c.length-k)
   (fun k=>fm [(3,lit (.pointer (some ⟨b3,0,none⟩))),(6,lit (.pointer (some ⟨b6,0,none⟩))),(8,lit (.slice (some ⟨b8,0,none⟩) (bd (c.take k) l).length (c.length+1))),(32,pcs c),(33,lit (.int .i64 c.length)),(34,lit (.int .i64 k))])
   (fun k=>[(b8,frT,((bd (c.take k) l).map fgx).flatten++List.replicate ((c.length+1)*17-(bd (c.take k) l).length*17) top),(b6,288,ivx v),(b3,167,lfc l.a l.b l.c)]) 0 (Nat.zero_le _) lfA Sr ?_
  rintro k hk K hK;have hkl2:=rP (c.take k) l;rw [List.length_take]at hkl2;by_cases hkl:k<c.length
  ·obtain⟨s,hget,hmem,hat,hne⟩:=elt eU om hkl;obtain⟨k1,k2⟩:=hc s hmem;have d1:=AZ (l:=s.1) (m:=l) (v:=s.2) k1 hl h1 om k2;have hkt:=CB (l:=l) hget;rw [zQ]at hkt;have hgo:=fun F' H'=>hK F' H' (k+1) om om
   have hfl:=cJ eU (bd (c.take k) l);generalize bd (c.take k) l=d at *;generalize bd (c.take (k+1)) l=d' at *;clear hK hc hl c0;cases hb:(kG s.1 s.2 l).2 with
   |true =>
    rw [hb]at d1 hkt;generalize(kG s.1 s.2 l).1=w at *;simp only [if_true,Option.map_some,Option.toList_some]at hkt;subst hkt;repeat(refine A1 ⟨?_⟩;intros)
    refine Wo (aa (cs':=fgx s) rfl rfl om om hat hne) ?_;repeat(first|(refine A1 ⟨?_⟩;intros)|(refine Wo (bI rfl rfl kr rfl) ?_)|(refine Wdo (bI rfl rfl kr rfl) ?_)|refine W4 d1 ⟨?_⟩)
    have hdl:d.length+1≤c.length+1:=by omega
    refine WPL.appIn (cs:=(d.map fgx).flatten) (tl:=List.replicate ((c.length+1)*17-d.length*17) top) (ds:=fgx (s.1,w)) rfl rfl hfl (List.length_replicate ..) hdl (.there _ (.there _ (.there _ (.here _)))) List.mem_cons_self rfl ?_ rfl
    have hce:((d++[(s.1,w)]).map fgx).flatten++List.replicate ((c.length+1)*17-(d++[(s.1,w)]).length*17) top=((d.map fgx).flatten++fgx (s.1,w))++(List.replicate ((c.length+1)*17-d.length*17) top).drop 17:=by
     rw [List.map_append,List.flatten_append,List.drop_replicate,List.length_append,show(d.length+[(s.1,w)].length)=d.length+1 from rfl,show(c.length+1)*17-(d.length+1)*17=(c.length+1)*17-d.length*17-17 by omega];simp
    rw [hce,show(d++[(s.1,w)]).length=d.length+1 by simp]at hgo;repeat(refine A1 ⟨?_⟩;intros)
    exact hgo _ _ lfA ((((Sr).cons _).cons _).cons _ |>.cons_cons _)
   |false =>
    rw [hb]at d1 hkt;generalize(kG s.1 s.2 l).1=w at *;simp only [Bool.false_eq_true,if_false,Option.map_none,Option.toList_none,List.append_nil]at hkt;subst hkt;repeat(refine A1 ⟨?_⟩;intros)
    refine Wo (aa (cs':=fgx s) rfl rfl om om hat hne) ?_;repeat(first|(refine A1 ⟨?_⟩;intros)|(refine Wo (bI rfl rfl kr rfl) ?_)|(refine Wdo (bI rfl rfl kr rfl) ?_)|refine W4 d1 ⟨?_⟩)
    exact hgo _ _ lfA (Sc (Sc Sr))
  ·have hke:k=c.length:=by omega
   subst hke;rw [List.take_length];clear hK
   have hd:∀s∈bd c l,s.1.le L:=fun s hs=>by
    obtain⟨s0,h2,h3,_⟩:=jJ.1 hs;rw [←h3];exact(hc s0 h2).1
   have hkl3:=rP c l;have hpos:=G8 l (bd c l);have hfl:=cJ eU (bd c l);generalize bd c l=d at *;have b0:=Ll hd hl h1 om om b8 (c.length+1) (List.replicate ((c.length+1)*17-d.length*17) top);clear hd hc hl c0;repeat(refine A1 ⟨?_⟩;intros)
   refine WfT b0 ?_;rintro _ _ ⟨⟨fb,rfl⟩,rfl⟩;simp only [List.cons_append,List.nil_append];generalize aP l d=i at *;repeat(refine A1 ⟨?_⟩;intros)
   rename_i bx;refine WfT (CG b8 bx d.length (c.length+1) i 1 ((d.map fgx).flatten) (List.replicate ((c.length+1)*17-d.length*17) top) (fgx (l,v)) hfl (List.length_replicate ..) rfl om om hpos) ?_;rintro _ _ ⟨rfl,rfl⟩;simp only [List.cons_append,List.nil_append];have hi:=pj eU d (l,v) i;rw [←List.append_assoc]at hi;rw [hi]
   have hlen:d.length+1=(d.take i++(l,v)::d.drop i).length:=by
    rw [List.length_append,List.length_cons,List.length_take,List.length_drop];omega
   refine WPL.pub (d:=68) (s':=pcs (d.take i++(l,v)::d.drop i)) (.there _ (.there _ (.here _))) rfl (fun m arr hm ha=>by show(sl ((d.take i++(l,v)::d.drop i).map fgx).flatten (d.take i++(l,v)::d.drop i).length).p m _;rw [←hlen];exact Eh hm ha om (by simp only [maxLen];omega)) ?_;repeat(refine A1 ⟨?_⟩;intros)
   exact eN _ _ (fF (RV.tmp rfl) (RV.tmp rfl) Lr) (List.nil_sublist _) rfl
end Go.Ab
