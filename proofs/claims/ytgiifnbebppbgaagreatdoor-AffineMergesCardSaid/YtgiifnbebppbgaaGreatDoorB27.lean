/- Texts laid one behind the other: Cpy, PIns, PBs, PClip, Raw. -/
import Derived.Test.YtgiifnbebppbgaaGreatDoorB18
import Derived.Laws.CopyRow
import Derived.Lib.Overlaps
import Derived.Laws.AppendOwn
import Derived.Laws.MakeOwn
import Derived.Test.YtgiifnbebppbgaaGreatDoorB26
import Derived.Test.YtgiifnbebppbgaaGreatDoorLate
import Derived.Laws.Externs
import Derived.Test.YtgiifnbebppbgaaGreatDoorB22
set_option linter.unusedSectionVars false
set_option linter.unusedVariables false
set_option linter.unusedSimpArgs false
namespace Go.Ab
open Go.Proofs
variable [Base]
section
variable {P:Program}{C:Ctx}{n:Nat}{F:Fr}{H:LH}{ops:Array Oper}{K:Fr→LH→Prop}{rest:List Oper}{ty:TypeId}{pos:String}{aft:Array Edge}
theorem ov_slFL {T e:TypeId}{sz by_:Nat}{z:List SV}{g:Bool} [hS:TSl P T e] [hT:TY P e sz by_ z g]{x y:Operand}{b k c:Nat}{v:Int}(j:Nat) (hx:ev F x=lit (.slice (some ⟨b,0,none⟩) k c)) (hy:ev F y=lit (.int .i64 v)) (hv:v=(j:Int)) (hj:j≤k) (hc:j<c) :
  OpV P (.slice T x (some y) none none) ty F H (lit (.slice (some ⟨b,j*sz,none⟩) (k-j) (c-j))) :=
 OpV.pure fun m w o a ho _ _ _ h=>by
  have e0:=h x (by simp [Op.operands]);rw [hx,lit_p]at e0
  have e1:=h y (by simp [Op.operands]);rw [hy,lit_p]at e1
  subst hv
  have hb:(Instr.sliceBounds true k c (some (a.eval y)) none none).run P w = .ok (j,k,c) w:=by
   simp [Instr.sliceBounds,run_bound j k _ e1 hj]
  refine⟨.slice (some ⟨b,j*sz,none⟩) (k-j) (c-j),?_,lit_p.2 rfl⟩
  have hne:¬c=j:=by omega
  simp [execOp,ho,Instr.sliceAt,Instr.slice,underlying,hS.h,e0,hb,hT.run_size,add_none,hne]
theorem run_copy_rows {w:World}{dT sT ty elem:TypeId}{g o dLen dCap sz:Nat}{a:Addr}{sLen sCap:Nat}{cur:Array Value}{t:TypeId}{cs:List Value}
  (hu:P.underlying dT=some (.slice elem)) (hs:∀w,(Go.sizeOf elem).run P w = .ok sz w)
  (hg:w.heap[g]? = some (.cells cur t (0,0))) (hn:cs.length=Nat.min sLen dLen*sz)
  (hsrc:∀j v,cs[j]? = some v→w.cell? (a.add j)=some v) (hfit:o+cs.length≤cur.size) (h1:∀v∈cs,v.oneCell'=true) :
  (Builtin.copy_ #[dT,sT] ty #[.slice (some ⟨g,o,none⟩) dLen dCap, .slice (some a) sLen sCap]).run P w =
   .ok (goInt (Nat.min sLen dLen)) (w.setRow g (cur.toList.take o++cs++cur.toList.drop (o+cs.length)).toArray):=by
 have hl:=run_loadCells_list (P:=P) w a cs hsrc
 have hst:=run_storeCells_at P g o t cs 0 cur w hg (by simpa using hfit) h1
 simp [Builtin.copy_,run_underlying hu,Builtin.lenOf,Builtin.firstCells,hs,←hn,hl,hst]
theorem run_append_rooms {w:World}{t t4 ty e:TypeId}{i:TypeInfo}(ht:P.underlying t=some (.slice e)) (ht4:P.underlying t4=some (.slice e)) (hi:P.info? e=some i)
  {g sLen sCap:Nat}{cur:Array Value}(hg:w.heap[g]? = some (.cells cur e (0,0)))
  {a:Addr}{m c:Nat}{news:List Value}(hl:news.length=m*i.size) (hnews:∀j u,news[j]? = some u→w.cell? (a.add j)=some u) (h1:∀u∈news,u.oneCell'=true)
  (hroom:sLen+m≤sCap) (hfit:sLen*i.size+news.length≤cur.size) :
  (Builtin.append_ #[t,t4] ty #[.slice (some ⟨g,0,none⟩) sLen sCap, .slice (some a) m c]).run P w =
   .ok (.slice (some ⟨g,0,none⟩) (sLen+m) sCap) (w.setRow g (cur.toList.take (sLen*i.size)++news++cur.toList.drop (sLen*i.size+news.length)).toArray):=by
 have hf:=run_firstCells_some (P:=P) w i.size m a m c news hl hnews
 have hst:=run_storeCells_at P g (sLen*i.size) e news 0 cur w hg (by simpa using hfit) h1
 simp only [Nat.add_zero]at hst
 simp [Builtin.append_,run_underlying ht,run_underlying ht4,sizeOf,typeInfo,hi,Builtin.lenOf,hroom,hf,Addr.add_lit,hst]
theorem WPL.copyB {d:Nat}{x y:Operand}{T sT e T' T3:TypeId}{sz by_:Nat}{z:List SV}{g:Bool} [hS:TSl P T e] [hT:TY P e sz by_ z g]{b b3 o1 o2 n1 n2 c1 c2:Nat}{cs ss:List SV}{H':LH}
  (hx:ev F x=lit (.slice (some ⟨b,o1,none⟩) n1 c1)) (hy:ev F y=lit (.slice (some ⟨b3,o2,none⟩) n2 c2)) (h3:(b3,T3,ss)∈H)
  (hfit:o1+Nat.min n2 n1*sz≤cs.length) (hsrc:o2+Nat.min n2 n1*sz≤ss.length)
  (hup:HUpd b T' cs (cs.take o1++(ss.drop o2).take (Nat.min n2 n1*sz)++cs.drop (o1+Nat.min n2 n1*sz)) H H')
  (k:WPL P C n ops rest K (upd F d (lit (.int .i64 (Nat.min n2 n1:Nat)))) H') (hd:Nat.blt d n=true) :
  WPL P C n ops (⟨some d, .call ⟨.builtin .copy,#[x,y],#[T,sT]⟩,ty,pos,aft,none⟩::rest) K F H:=by
 unfold WPL
 intro a w hs Q hq
 refine wpList_plain rfl fun K' hK'=>?_
 obtain⟨hdef,hn,m,h1,h2,h30,h4,h5⟩:=hs
 have hpp:∀x,(ev F x).p m (a.eval x):=fun x=>by
  cases x with
  |tmp t=>exact h5 t
  |const v=>unfold ev lit;rfl
  |global g=>unfold ev lit;rfl
  |func f=>unfold ev lit;rfl
 have e0:=hpp x;rw [hx,lit_p]at e0
 have e1:=hpp y;rw [hy,lit_p]at e1
 obtain⟨hmb,arr,hb,hall⟩:=h2.2 _ hup.mem
 obtain⟨_,arr3,hb3,hall3⟩:=h2.2 _ h3
 have hlen:=hall.length
 have hlen3:=hall3.length
 simp only [Array.length_toList]at hlen hlen3
 have hcl:((arr3.toList.drop o2).take (Nat.min n2 n1*sz)).length=Nat.min n2 n1*sz:=by
  rw [List.length_take,List.length_drop,Array.length_toList];omega
 have hsr:∀j u,((arr3.toList.drop o2).take (Nat.min n2 n1*sz))[j]? = some u→w.cell? ((⟨b3,o2,none⟩:Addr).add j)=some u:=fun j u hj=>by
  rw [add_none,cell_of w b3 _ arr3 _ _ hb3]
  rw [List.getElem?_take]at hj
  split at hj
  ·rw [List.getElem?_drop]at hj;simpa using hj
  ·cases hj
 have hrun:=run_copy_rows (P:=P) (w:=w) (dT:=T) (sT:=sT) (ty:=ty) (elem:=e) (g:=b) (o:=o1) (dLen:=n1) (dCap:=c1) (sz:=sz) (a:=⟨b3,o2,none⟩) (sLen:=n2) (sCap:=c2) hS.h hT.run_size hb hcl hsr (by rw [hcl];omega)
  (fun v hv=>hall3.flat v (List.mem_of_mem_drop (List.mem_of_mem_take hv)))
 unfold Oper.wp
 have hexec:execOp a.eval (⟨some d, .call ⟨.builtin .copy,#[x,y],#[T,sT]⟩,ty,pos,aft,none⟩:Oper)=(do let v←Builtin.copy_ #[T,sT] ty #[a.eval x,a.eval y];pure (.value v)):=by
  simp [execOp,resolve,invoke,builtin]
 rw [hexec,e0,e1]
 simp only [Sem.run_bind,hrun,Result.andThen_ok,Sem.run_pure]
 rw [hcl]
 obtain⟨q1,q2,q3,q4⟩:=write_ok (w':=w.setRow b (arr.toList.take o1++(arr3.toList.drop o2).take (Nat.min n2 n1*sz)++arr.toList.drop (o1+Nat.min n2 n1*sz)).toArray) h1 h2 h30 h4 hup (setRow_heap w b arr _ _ _ hb) (fun j hj=>setRow_other w b j _ hj) rfl rfl rfl (by simp)
  (by simpa using ((hall.take o1).append ((hall3.drop o2).take _)).append (hall.drop _))
 unfold WPL at k
 refine hK' _ _ (k (a.put (some d) (.int .i64 (Nat.min n2 n1:Nat))) _ ⟨hdef,by simpa [Act.put] using hn,m,q1,q2,q3,q4,fun t=>?_⟩ Q hq)
 rw [getD_put (Nat.lt_of_lt_of_le (Nat.blt_eq.mp hd) hn)]
 unfold Ab.upd
 by_cases ht:t=d
 ·subst ht;rw [if_pos rfl,Nat.beq_refl];exact lit_p.2 rfl
 ·rw [if_neg ht]
  have:Nat.beq t d=false:=by
   cases hbb:Nat.beq t d with
   |false=>rfl
   |true=>exact absurd (Nat.eq_of_beq_eq_true hbb) ht
  rw [this]
  exact h5 t
theorem WPL.appIn {T T4 e:TypeId}{sz by_:Nat}{z:List SV}{g:Bool} [hS:TSl P T e] [hS4:TSl P T4 e] [hT:TY P e sz by_ z g]{d:Nat}{x y:Operand}{n0 b b2 c c2:Nat}{T':TypeId}{cs ds tl:List SV}{Rs:LH}
  (hx:ev F x=lit (.slice (some ⟨b,0,none⟩) n0 c)) (hy:ev F y=lit (.slice (some ⟨b2,0,none⟩) 1 c2)) (hcl:cs.length=n0*sz) (htl:tl.length=c*sz-n0*sz) (hroom:n0+1≤c) (hdl:HDel b e (cs++tl) H Rs) (hm:(b2,T',ds)∈Rs) (hds:ds.length=sz)
  (k:WPL P C n ops rest K (upd F d (lit (.slice (some ⟨b,0,none⟩) (n0+1) c))) ((b,e,(cs++ds)++tl.drop sz)::Rs)) (hd:Nat.blt d n=true) :
  WPL P C n ops (⟨some d, .call ⟨.builtin .append,#[x,y],#[T,T4]⟩,ty,pos,aft,none⟩::rest) K F H:=by
 unfold WPL
 intro a w hs0 Q hq
 have hs:=hs0.perm hdl.perm
 refine wpList_plain rfl fun K' hK'=>?_
 obtain⟨hdef,hn,m0,h10,h20,h30,h40,h50⟩:=id hs
 have hp0:∀x,(ev F x).p m0 (a.eval x):=fun x=>by
  cases x with
  |tmp t=>exact h50 t
  |const v=>unfold ev lit;rfl
  |global g=>unfold ev lit;rfl
  |func f=>unfold ev lit;rfl
 have e0:=hp0 x;rw [hx,lit_p]at e0
 have e1:=hp0 y;rw [hy,lit_p]at e1
 obtain⟨_,arr2,hb2,hall2⟩:=h20.2 _ (List.mem_cons_of_mem _ hm)
 obtain⟨i,v,hi,hsz,hbyt,hz,hzl,hfl,hvs⟩:=hT.run_bytes
 have hlen2:=hall2.length
 simp only [Array.length_toList]at hlen2
 have hys:∀j u,arr2.toList[j]? = some u→w.cell? ((⟨b2,0,none⟩:Addr).add j)=some u:=fun j u hj=>by
  rw [add_none,cell_of w b2 _ arr2 _ _ hb2];simpa using hj
 have hexec:execOp a.eval (⟨some d, .call ⟨.builtin .append,#[x,y],#[T,T4]⟩,ty,pos,aft,none⟩:Oper)=(do let v←Builtin.append_ #[T,T4] ty #[a.eval x,a.eval y];pure (.value v)):=by
  simp [execOp,resolve,invoke,builtin]
 obtain⟨hmb,arr,hb,hall⟩:=h20.2 _ List.mem_cons_self
 have hlen:=hall.length
 simp only [List.length_append,hcl,htl,Array.length_toList]at hlen
 have hm1:(n0+1)*sz≤c*sz:=Nat.mul_le_mul_right _ hroom
 rw [Nat.succ_mul]at hm1
 unfold Oper.wp
 rw [hexec,e1,e0]
 have hmul:n0*sz≤c*sz:=Nat.mul_le_mul_right _ (by omega)
 have hrun:=run_append_rooms (P:=P) (w:=w) (t:=T) (t4:=T4) (ty:=ty) (e:=e) (i:=i) hS.h hS4.h hi (g:=b) (sLen:=n0) (sCap:=c) hb (a:=⟨b2,0,none⟩) (m:=1) (c:=c2) (news:=arr2.toList) (by rw [Array.length_toList,hlen2,hsz,hds,Nat.one_mul]) hys hall2.flat hroom (by rw [hsz,Array.length_toList,hlen2,hds];omega)
 simp only [Sem.run_bind,hrun,Result.andThen_ok,Sem.run_pure]
 unfold WPL at k
 have hfin:All2 m0 ((cs++ds)++tl.drop sz) (arr.toList.take (n0*i.size)++arr2.toList++arr.toList.drop (n0*i.size+arr2.toList.length)).toArray.toList:=by
  obtain⟨q1,q2⟩:=hall.split
  rw [hcl]at q1 q2
  rw [hsz,Array.length_toList,hlen2,hds,List.toList_toArray,←List.drop_drop]
  exact(q1.append hall2).append (q2.drop sz)
 obtain⟨q1,q2,q3,q4⟩:=write_ok (w':=w.setRow b (arr.toList.take (n0*i.size)++arr2.toList++arr.toList.drop (n0*i.size+arr2.toList.length)).toArray) h10 h20 h30 h40 (.here Rs)
  (setRow_heap w b arr _ e _ hb) (fun j hj=>setRow_other w b j _ hj) rfl rfl rfl (by simp) hfin
 refine hK' _ _ (k (a.put (some d) (.slice (some ⟨b,0,none⟩) (n0+1) c)) _ ⟨hdef,by simpa [Act.put] using hn,m0,q1,q2,q3,q4,fun t=>?_⟩ Q hq)
 rw [getD_put (Nat.lt_of_lt_of_le (Nat.blt_eq.mp hd) hn)]
 unfold Ab.upd
 by_cases ht:t=d
 ·subst ht;rw [if_pos rfl,Nat.beq_refl];exact lit_p.2 rfl
 ·rw [if_neg ht]
  have:Nat.beq t d=false:=by
   cases hbb:Nat.beq t d with
   |false=>rfl
   |true=>exact absurd (Nat.eq_of_beq_eq_true hbb) ht
  rw [this]
  exact h50 t
theorem WPL.makeR {T e:TypeId}{sz by_:Nat}{z:List SV}{g:Bool} [hS:TSl P T e] [hT:TY P e sz by_ z g]{d:Nat}{x y:Operand}{c:Nat}{v:Int}(hx:ev F x=lit (.int .i64 0)) (hy:ev F y=lit (.int .i64 v)) (hv:v=(c:Int)) (hb:by_*c≤281474976710656) (hc:c≤1000000000) (hd:Nat.blt d n=true)
  (h:∀b,WPL P C n ops rest K (upd F d (lit (.slice (some ⟨b,0,none⟩) 0 c))) ((b,e,List.replicate (c*sz) top)::H)):WPL P C n ops (⟨some d, .makeSlice T x y,ty,pos,aft,none⟩::rest) K F H:=by
 subst hv
 unfold WPL at h⊢
 intro a w hs Q hq
 obtain⟨i,v,hi,hsz,hbyt,hz,hzl,hfl,hvs⟩:=hT.run_bytes
 obtain⟨m0,_,hp0⟩:=hs.evp
 have e0:=hp0 x;rw [hx,lit_p]at e0
 have e1:=hp0 y;rw [hy,lit_p]at e1
 refine wpList_plain rfl fun K' hK'=>?_
 have hb':(i.bytes:Int)*(c:Int)≤281474976710656:=by
  rw [hbyt]
  have h2:((by_*c:Nat):Int)≤281474976710656:=by omega
  rwa [Int.natCast_mul]at h2
 have hr:=run_make (P:=P) w T e i v hS.h hi hz .i64 .i64 0 (c:Int) (Int.le_refl _) (by omega) hb' (by omega)
 simp only [Int.toNat_zero,Int.toNat_natCast]at hr
 unfold Oper.wp
 have hexec:execOp a.eval (⟨some d, .makeSlice T x y,ty,pos,aft,none⟩:Oper)=(do let v←Instr.makeSlice T (a.eval x) (a.eval y);pure (.value v)):=by
  simp [execOp]
 rw [hexec,e0,e1]
 simp only [Sem.run_bind,hr,Result.andThen_ok,Sem.run_pure]
 refine hK' _ _ (h _ _ _ (St.push (Nat.blt_eq.mp hd) hs fun m _=>?_) Q hq)
 refine All2.topL (by rw [Array.length_toList,size_madeCells,hsz]) fun u hu=>?_
 simp only [madeCells,Array.toList_map,Array.toList_range,List.mem_map,List.mem_range]at hu
 obtain⟨j,hj,rfl⟩:=hu
 have hp:0<v.cells.size:=Nat.pos_of_ne_zero fun e=>by rw [hvs]at e;rw [hsz,e,Nat.mul_zero]at hj;omega
 have hlt:j%v.cells.size<v.cells.size:=Nat.mod_lt _ hp
 rw [getElem!_pos v.cells _ hlt]
 exact List.all_eq_true.1 hfl _ (by simp)
theorem run_overlaps_no {w:World}{tS tR e:TypeId}(ht:P.underlying tS=some (.slice e)){size:Nat}(hz:∀w,(Go.sizeOf e).run P w = .ok size w)
  {b1 o1 l1 c1 b2 o2 l2 c2:Nat}{A1 A2:Array Value}{T1 T2:TypeId}(hne:b1≠b2) (h1:w.heap[b1]? = some (.cells A1 T1 (0,0))) (h2:w.heap[b2]? = some (.cells A2 T2 (0,0))) (hA:A2.size≠0) :
  (Extern.SlicesOverlaps.overlaps #[tS,tS] #[tR] #[.slice (some ⟨b1,o1,none⟩) l1 c1, .slice (some ⟨b2,o2,none⟩) l2 c2]).run P w = .ok (.bool false) w :=
 Go.Lib.run_overlaps_apart w tS tR e ht size hz ⟨b1,o1,none⟩ ⟨b2,o2,none⟩ l1 c1 l2 c2 hne T1 T2 A1.size A2.size (by simp [World.shape?,h1]) (by simp [World.shape?,h2]) hA (by simp [World.frozen?,h1]) (by simp [World.frozen?,h1])
end
section
variable {P:Program}{C:Ctx}{n:Nat}{F:Fr}{H:LH}{ops:Array Oper}{K:Fr→LH→Prop}{rest:List Oper}{ty:TypeId}{pos:String}{aft:Array Edge}
theorem ov_capL {T e:TypeId} [hS:TSl P T e]{x:Operand}{a:Option Addr}{k c:Nat}(hx:ev F x=lit (.slice a k c)):OpV P (.call ⟨.builtin .cap,#[x],#[T]⟩) ty F H (lit (.int .i64 c)) :=
 OpV.pure fun m w o a ho _ _ _ h=>by
  have h0:=h x (by simp [Op.operands,Call.operands]);rw [hx,lit_p]at h0
  refine⟨.int .i64 c,?_,lit_p.2 rfl⟩
  simp [execOp,ho,resolve,invoke,builtin,h0,Builtin.cap_,goInt,underlying,hS.h]
theorem Gcpy {k q i d:Nat}{late:List NO'}{x y:Operand}{T sT e T' T3:TypeId}{sz by_:Nat}{z:List SV}{g:Bool} [hS:TSl P T e] [hT:TY P e sz by_ z g]{b b3 o1 o2 n1 n2 c1 c2:Nat}{cs ss:List SV}{H':LH}{r:List Oper}
  (hx:ev F x=lit (.slice (some ⟨b,o1,none⟩) n1 c1)) (hy:ev F y=lit (.slice (some ⟨b3,o2,none⟩) n2 c2)) (h3:(b3,T3,ss)∈H)
  (hfit:o1+Nat.min n2 n1*sz≤cs.length) (hsrc:o2+Nat.min n2 n1*sz≤ss.length)
  (hup:HUpd b T' cs (cs.take o1++(ss.drop o2).take (Nat.min n2 n1*sz)++cs.drop (o1+Nat.min n2 n1*sz)) H H')
  (hlok:LOk P ops k q n H F late) (h:Stg P C n ops k q late K (i+1) r (upd F d (lit (.int .i64 (Nat.min n2 n1:Nat)))) H')
  (ho:ops[i]? = some ⟨some d, .call ⟨.builtin .copy,#[x,y],#[T,sT]⟩,ty,pos,aft,none⟩:=by exact rfl) (hd:Nat.blt d n=true:=by exact rfl) :
  Stg P C n ops k q late K i (⟨some d, .call ⟨.builtin .copy,#[x,y],#[T,sT]⟩,ty,pos,aft,none⟩::r) F H:=by
 refine⟨hlok,fun s' H2=>s'=lit (.int .i64 (Nat.min n2 n1:Nat))∧H2=H',TSR.of ho rfl fun F1 hF1=>?_,?_⟩
 ·have hx1:ev F1 x=lit (.slice (some ⟨b,o1,none⟩) n1 c1):=by rw [←hx];exact(ev_looks (by simp [Op.operands,Call.operands]) hF1)
  have hy1:ev F1 y=lit (.slice (some ⟨b3,o2,none⟩) n2 c2):=by rw [←hy];exact(ev_looks (by simp [Op.operands,Call.operands]) hF1)
  exact WPL.copyB hx1 hy1 h3 hfit hsrc hup (WPL.nil ⟨_,⟨rfl,rfl⟩,rfl⟩) hd
 ·rintro s' H2 ⟨rfl,rfl⟩
  exact h
end
section
variable {F:Fr}{H:LH}{ty:TypeId}
theorem ov_overl {x y:Operand}{b1 o1 l1 c1 b2 o2 l2 c2:Nat}{tys:Array TypeId}{T1 T2:TypeId}{cs1 cs2:List SV}{R:LH}(hx:ev F x=lit (.slice (some ⟨b1,o1,none⟩) l1 c1)) (hy:ev F y=lit (.slice (some ⟨b2,o2,none⟩) l2 c2)) (hd:HDel b1 T1 cs1 H R) (h2:(b2,T2,cs2)∈R) (hn:cs2≠[]) :
  OpV Tryz.prog (.call ⟨.value (.func 321),[x,y].toArray,tys⟩) ty F H (lit (.bool false)) :=
 OpV.pure fun m w o a ho _ _ hH h=>by
  have h0:=h x (by simp [Op.operands,Call.operands]);rw [hx,lit_p]at h0
  have h1:=h y (by simp [Op.operands,Call.operands]);rw [hy,lit_p]at h1
  have h8:=@run_callFunc_extern Tryz.prog 321 _ (Extern.SlicesOverlaps.overlaps #[232,232] #[4]) Tryz.func321 (by kernel_rfl) (by kernel_rfl) (by kernel_rfl) (by kernel_rfl)
  have hp:=hd.perm
  have hnd:((b1,T1,cs1)::R).map (·.1) |>.Nodup:=(hp.map (·.1)).nodup_iff.1 hH.1
  have hne:b1≠b2:=fun e=>by
   rw [List.map_cons,List.nodup_cons]at hnd
   exact hnd.1 (List.mem_map.2 ⟨_,h2,e.symm⟩)
  obtain⟨_,A1,hb1,_⟩:=hH.2 _ hd.mem
  obtain⟨_,A2,hb2,hall2⟩:=hH.2 _ (hp.mem_iff.2 (List.mem_cons_of_mem _ h2))
  have hA:A2.size≠0:=fun e=>hn (List.eq_nil_of_length_eq_zero (by have:=hall2.length;rw [Array.length_toList,e]at this;exact this.symm))
  have hsl:TSl Tryz.prog 232 295:=inferInstance
  have hty:TY Tryz.prog 295 17 _ _ _:=inferInstance
  refine⟨.bool false,?_,lit_p.2 rfl⟩
  have:=h8 #[a.eval x,a.eval y] w
  rw [h0,h1,run_overlaps_no hsl.h hty.run_size hne hb1 hb2 hA]at this
  simp only [execOp,ho,resolve,Sem.run_bind,Sem.run_pure,Result.andThen_ok]
  have e1:a.eval (.func 321) = .func (.func 321) #[] #[]:=rfl
  simp only [e1,Deferred.ofValue,Sem.run_pure,Result.andThen_ok,invoke,List.map_toArray,List.map_cons,List.map_nil,Array.empty_append,Array.append_empty,h0,h1,this]
end
theorem ins_copy {α:Type}{A B tl ds:List α}{a s k:Nat}(hA:A.length=a) (hB:B.length=k) (hs:s≤k+tl.length) :
  ((A++B++tl).take (a+s)++((A++B++tl).drop a).take k++(A++B++tl).drop (a+s+k)).take a++ds++((A++B++tl).take (a+s)++((A++B++tl).drop a).take k++(A++B++tl).drop (a+s+k)).drop (a+s)=A++ds++B++tl.drop s:=by
 have e1:(A++B++tl).drop a=B++tl:=by rw [List.append_assoc,←hA,List.drop_left]
 have e2:(B++tl).take k=B:=by rw [←hB,List.take_left]
 have e3:(A++B++tl).drop (a+s+k)=tl.drop s:=by
  rw [show a+s+k=(A++B).length+s by rw [List.length_append];omega,←List.drop_drop,List.drop_left]
 have e4:((A++B++tl).take (a+s)).length=a+s:=by rw [List.length_take,List.length_append,List.length_append];omega
 have e5:((A++B++tl).take (a+s)).take a=A:=by
  rw [List.take_take,show min a (a+s)=a by omega,List.append_assoc,←hA,List.take_left]
 rw [e1,e2,e3]
 generalize(A++B++tl).take (a+s)=Q at *
 clear e1 e2 e3
 rw [List.append_assoc Q,List.take_append_of_le_length (by omega),e5,←e4,List.drop_left]
 simp only [List.append_assoc]
abbrev frT:TypeId:=295
set_option maxHeartbeats 1000000 in
theorem insert_pu (b b2 n c i c2:Nat) (cs tl ds:List SV) (hcl:cs.length=n*17) (htl:tl.length=c*17-n*17) (hds:ds.length=17) (hroom:n+1≤c) (hc:c≤10000000) (hi:i≤n) :
  PuH Tryz.prog 308 [lit (.slice (some ⟨b,0,none⟩) n c),lit (.int .i64 i),lit (.slice (some ⟨b2,0,none⟩) 1 c2)] [(b,frT,cs++tl),(b2,frT,ds)]
   (fun res H=>res=lit (.slice (some ⟨b,0,none⟩) (n+1) c)∧H=[(b,frT,cs.take (i*17)++ds++cs.drop (i*17)++tl.drop 17),(b2,frT,ds)]) noX:=by
 have hm:(n+1)*17≤c*17:=Nat.mul_le_mul_right _ hroom
 have hm2:i*17≤n*17:=Nat.mul_le_mul_right _ hi
 refine PuH.intro Tryz.func308 rfl (by kernel_rfl) fun C hC=>?_
 repeat(refine A1 ⟨?_⟩;intros)
 refine Wo (ov_slFL i rfl rfl rfl hi (by omega)) ?_
 by_cases hin:i=n
 ·subst hin
  repeat(refine A1 ⟨?_⟩;intros)
  refine WPL.appIn (cs:=cs) (tl:=tl) (ds:=ds) rfl rfl hcl htl hroom (.here _) (List.mem_singleton.2 rfl) hds ?_ rfl
  repeat(refine A1 ⟨?_⟩;intros)
  refine endHR _ _ (end1 (RV.tmp rfl) (Le.refl _)) (List.Sublist.refl _) ⟨rfl,?_⟩
  rw [←hcl,List.take_length,List.drop_length,List.append_nil]
 ·have hge:i*17+17≤n*17:=by omega
  have hsub:(n-i)*17=n*17-i*17:=Nat.sub_mul ..
  have hne:cs++tl≠[]:=fun e=>by have:=congrArg List.length e;rw [List.length_append,hcl,htl]at this;simp at this;omega
  repeat(refine A1 ⟨?_⟩;intros)
  refine Wo (ov_capL rfl) ?_
  repeat(refine A1 ⟨?_⟩;intros)
  refine Wo (ov_slTL (n+1) rfl rfl (by omega) (by omega)) ?_
  repeat(refine A1 ⟨?_⟩;intros)
  refine Wo (ov_slFL (i+1) rfl rfl (by omega) (by omega) (by omega)) ?_
  repeat(refine A1 ⟨?_⟩;intros)
  refine Wo (ov_overl rfl rfl (.there _ (.here _)) (List.mem_singleton.2 rfl) hne) ?_
  repeat(first|(refine AS ⟨?_⟩;intros)|(refine O1 ⟨?_⟩;intros))
  refine WdL 8 1 ?_
  repeat(first|(refine A1 ⟨?_⟩;intros)|(refine Wo (ov_slFL (i+1) (k:=n+1) (c:=c) rfl rfl (by omega) (by omega) (by omega)) ?_)|(refine Wdo (ov_slFL (i+1) (k:=n+1) (c:=c) rfl rfl (by omega) (by omega) (by omega)) ?_)|(refine Wog (ov_slFL (i+1) (k:=n+1) (c:=c) rfl rfl (by omega) (by omega) (by omega)) ?_)|(refine Wdog (ov_slFL (i+1) (k:=n+1) (c:=c) rfl rfl (by omega) (by omega) (by omega)) ?_)|(refine Wo (ov_slFL i (k:=n+1) (c:=c) rfl rfl (by omega) (by omega) (by omega)) ?_)|(refine Wdo (ov_slFL i (k:=n+1) (c:=c) rfl rfl (by omega) (by omega) (by omega)) ?_)|(refine Wog (ov_slFL i (k:=n+1) (c:=c) rfl rfl (by omega) (by omega) (by omega)) ?_)|(refine Wdog (ov_slFL i (k:=n+1) (c:=c) rfl rfl (by omega) (by omega) (by omega)) ?_))
  refine dL0 ?_
  have hmin:Nat.min (n+1-i) (n+1-(i+1))*17=n*17-i*17:=by
   rw [show Nat.min (n+1-i) (n+1-(i+1))=n-i from Nat.min_eq_right (by omega) |>.trans (by omega),hsub]
  have hlen:(cs++tl).length=c*17:=by rw [List.length_append,hcl,htl];omega
  have hi1:(i+1)*17=i*17+17:=by omega
  refine Gcpy (cs:=cs++tl) (ss:=cs++tl) rfl rfl List.mem_cons_self (by rw [hmin,hlen,hi1];omega) (by rw [hmin,hlen];omega) (.here _) ?_ ?_
  ·(repeat(first|exact LOk.nil|refine Lsk ?_|refine Lcv ?_))
  refine Gn ?_ ?_
  ·(repeat(first|exact LOk.nil|refine Lsk ?_|refine Lcv ?_))
  rw [hmin,hi1]
  repeat(first|(refine AS ⟨?_⟩;intros)|(refine O1 ⟨?_⟩;intros))
  refine Wo (ov_slFL i (k:=n+1) (c:=c) rfl rfl (by omega) (by omega) (by omega)) ?_
  repeat(refine A1 ⟨?_⟩;intros)
  have hX:((cs++tl).take (i*17+17)++((cs++tl).drop (i*17)).take (n*17-i*17)++(cs++tl).drop (i*17+17+(n*17-i*17))).length=c*17:=by
   simp only [List.length_append,List.length_take,List.length_drop,hcl,htl];omega
  have hmin2:Nat.min 1 (n+1-i)*17=17:=by
   rw [show Nat.min 1 (n+1-i)=1 from Nat.min_eq_left (by omega)]
  refine WPL.copyB (ss:=ds) rfl rfl (by first|exact List.mem_cons_self|exact List.mem_cons_of_mem _ List.mem_cons_self) (by rw [hmin2,hX];omega) (by rw [hmin2,hds];omega) (.here _) ?_ rfl
  rw [hmin2]
  repeat(refine A1 ⟨?_⟩;intros)
  refine endHR _ _ (end1 (RV.tmp rfl) (Le.refl _)) (List.Sublist.refl _) ⟨rfl,?_⟩
  have hcs:cs=cs.take (i*17)++cs.drop (i*17):=(List.take_append_drop _ _).symm
  have key:=ins_copy (A:=cs.take (i*17)) (B:=cs.drop (i*17)) (tl:=tl) (ds:=ds) (a:=i*17) (s:=17) (k:=n*17-i*17) (by rw [List.length_take];omega) (by rw [List.length_drop];omega) (by omega)
  rw [←hcs]at key
  rw [show(ds.drop 0).take 17=ds by rw [List.drop_zero,←hds,List.take_length],key]
section
variable {P:Program}{F:Fr}{H:LH}{ty:TypeId}
theorem ov_callV {x:Operand}{f:FuncId}{l:List Operand}{tys:Array TypeId}{svs:List SV}{res:SV}(hx:ev F x=lit (.func (.func f) #[] #[])) (hc:Pu P f svs res) (ha:l.map (ev F)=svs) :
  OpV P (.call ⟨.value x,l.toArray,tys⟩) ty F H res:=by
 unfold Pu at hc
 refine OpV.of0 ?_
 intro m w o a ho hty h1 h2 h3 K Q hK
 have hargs:=evs_ok (m:=m) (a:=a) l fun x hx=>evA h3 (by simp [Op.operands,Call.operands,hx])
 rw [ha]at hargs
 have hxv:=evA (x:=x) h3 (by simp [Op.operands,Call.operands])
 rw [hx,lit_p]at hxv
 have hcall:=hc.2 m w _ h1 hargs
 unfold Oper.wp
 have hrun:(execOp a.eval o).run P w = .ok (.enter f (l.map a.eval).toArray) w:=by
  simp [execOp,ho,resolve,hxv,Deferred.ofValue,invoke,run_callFunc hc.1]
 rw [hrun]
 refine Calls.mono hcall ?_
 rintro e w' ⟨v,m',rfl,hp,hm',hr⟩
 exact hK v m' w' hp hm' hr
end
def bisect (p:Nat→Bool):Nat→Nat→Nat→Nat
 |0,i,_=>i
 |f+1,i,j=>if i<j then(if p ((i+j)/2)then bisect p f ((i+j)/2+1) j else bisect p f i ((i+j)/2))else i
def bsPos (l:Li) (c:PC):Nat:=bisect (fun k=>decide (angP (dirL ((c.getD k (⟨0,0,0⟩,Spn.none)).1)) (dirL l)<0)) (c.length+1) 0 c.length
theorem bisect_le (p:Nat→Bool):∀(f i j n:Nat),i≤j→j≤n→bisect p f i j≤n
 |0,i,j,n,h,k=>by unfold bisect;omega
 |f+1,i,j,n,h,k=>by
  unfold bisect
  split
  ·split
   ·exact bisect_le p f _ _ n (by omega) k
   ·exact bisect_le p f _ _ n (by omega) (by omega)
  ·omega
theorem bisect_fuel (p:Nat→Bool):∀(f g i j:Nat),j-i<f→j-i<g→bisect p f i j=bisect p g i j
 |0,_,_,_,h,_=>by omega
 |_,0,_,_,_,h=>by omega
 |f+1,g+1,i,j,h,k=>by
  unfold bisect
  split
  ·split
   ·exact bisect_fuel p f g _ _ (by omega) (by omega)
   ·exact bisect_fuel p f g _ _ (by omega) (by omega)
  ·rfl
abbrev clipF:Value := .func (.func 307) #[] #[]
set_option maxHeartbeats 1000000 in
theorem bs_pu {c:PC}{l:Li}{L:Nat}(hc:∀s∈c,s.1.le L) (hl:l.le L) (h1:1≤L) (hU:L≤10000) (hn:c.length≤1000000) (b cap:Nat) (tl:List SV) :
  PuH Tryz.prog 306 [lit (.slice (some ⟨b,0,none⟩) c.length cap),lfl l,lit clipF] [(b,frT,(c.map fgx).flatten++tl)]
   (fun res H=>(∃fb,res=tup [lit (.int .i64 (bsPos l c:Nat)),lit (.bool fb)])∧H=[(b,frT,(c.map fgx).flatten++tl)]) noX:=by
 refine PuH.intro Tryz.func306 rfl (by kernel_rfl) fun C hC=>?_
 repeat(refine A1 ⟨?_⟩;intros)
 rename_i b4
 refine WP.loopS (ι:=Nat×Nat) (fun st=>st.1≤st.2∧st.2≤c.length∧bisect (fun k=>decide (angP (dirL ((c.getD k (⟨0,0,0⟩,Spn.none)).1)) (dirL l)<0)) (c.length+1) st.1 st.2=bsPos l c) (fun st=>st.2-st.1)
  (fun st=>fm [(0,lit (.slice (some ⟨b,0,none⟩) c.length cap)),(2,lit clipF),(4,lit (.pointer (some ⟨b4,0,none⟩))),(8,lit (.int .i64 c.length)),(9,lit (.int .i64 st.1)),(10,lit (.int .i64 st.2))])
  (fun _=>[(b4,196,lfc l.a l.b l.c),(b,frT,(c.map fgx).flatten++tl)]) (0,c.length) ⟨Nat.zero_le _,Nat.le_refl _,rfl⟩ lfA (List.Sublist.refl _) ?_
 rintro ⟨i,j⟩ ⟨hij,hj,hb⟩ K hK
 simp only at hij hj hb⊢
 by_cases hlt:i<j
 ·have hh:IntKind.i64.wrap (((i:Int)+(j:Int)).fdiv (2^min (Int.toNat 1) IntKind.u64.bits))=(((i+j)/2:Nat):Int):=by
   show IntKind.i64.wrap (((i:Int)+(j:Int)).fdiv 2)=_
   rw [Int.fdiv_eq_ediv_of_nonneg _ (by omega)]
   simp only [IntKind.wrap,IntKind.bits,IntKind.signed,Bool.true_and]
   have h1:¬(9223372036854775808:Int)≤((i:Int)+j)/2%18446744073709551616:=by omega
   simp [h1];omega
  obtain⟨s,hget,hmem,hat,hne⟩:=elt fgx_len (by omega) (show(i+j)/2<c.length by omega)
  have hat2:(((c.map fgx).flatten++tl).drop (0+(i+j)/2*17)).take 17=fgx s:=by
   have hfl:=flat_len fgx_len c
   have hle:(i+j)/2*17+17≤c.length*17:=by omega
   rw [Nat.zero_add,List.drop_append_of_le_length (by omega),List.take_append_of_le_length (by rw [List.length_drop];omega)]
   exact hat
  have hgd:c.getD ((i+j)/2) (⟨0,0,0⟩,Spn.none)=s:=by rw [List.getD_eq_getElem?_getD,hget];rfl
  have d1:=clip1_pu (hc s hmem) hl h1 hU
  unfold bisect at hb
  rw [if_pos hlt]at hb
  simp only [hgd]at hb
  by_cases hz:angP (dirL s.1) (dirL l)<0
  ·rw [if_pos (decide_eq_true hz),bisect_fuel _ _ (c.length+1) _ _ (by omega) (by omega)]at hb
   have hgo:=fun F' H'=>hK F' H' ((i+j)/2+1,j) ⟨by simp only;omega,hj,hb⟩ (by simp only;omega)
   clear hK hb hat hgd hc hl
   generalize angP (dirL s.1) (dirL l)=z at *
   repeat(refine A1 ⟨?_⟩;intros)
   rw [hh]
   generalize hq:(i+j)/2=q at *
   have hh2:(IntKind.i64.wrap (((i:Int)+(j:Int)).fdiv (2^min 1 IntKind.u64.bits))).toNat=q:=by
    have e:IntKind.i64.wrap (((i:Int)+(j:Int)).fdiv (2^min 1 IntKind.u64.bits))=(q:Int):=hh
    rw [e,Int.toNat_natCast]
   clear hh
   refine Wdo (ov_loadLA (cs':=fgx s) rfl (List.mem_cons_of_mem _ List.mem_cons_self) (by rw [hh2,←Nat.zero_add (q*17)];exact hat2) rfl) ?_
   repeat(first|(refine A1 ⟨?_⟩;intros)|(refine Wo (ov_callV rfl d1 rfl) ?_)|(refine Wdo (ov_callV rfl d1 rfl) ?_)|(refine Wog (ov_callV rfl d1 rfl) ?_)|(refine Wdog (ov_callV rfl d1 rfl) ?_))
   exact hgo _ _ lfA (List.Sublist.refl _)
  ·rw [if_neg (by simpa using hz),bisect_fuel _ _ (c.length+1) _ _ (by omega) (by omega)]at hb
   have hgo:=fun F' H'=>hK F' H' (i,(i+j)/2) ⟨by simp only;omega,by simp only;omega,hb⟩ (by simp only;omega)
   clear hK hb hat hgd hc hl
   generalize angP (dirL s.1) (dirL l)=z at *
   repeat(refine A1 ⟨?_⟩;intros)
   rw [hh]
   generalize hq:(i+j)/2=q at *
   have hh2:(IntKind.i64.wrap (((i:Int)+(j:Int)).fdiv (2^min 1 IntKind.u64.bits))).toNat=q:=by
    have e:IntKind.i64.wrap (((i:Int)+(j:Int)).fdiv (2^min 1 IntKind.u64.bits))=(q:Int):=hh
    rw [e,Int.toNat_natCast]
   clear hh
   refine Wdo (ov_loadLA (cs':=fgx s) rfl (List.mem_cons_of_mem _ List.mem_cons_self) (by rw [hh2,←Nat.zero_add (q*17)];exact hat2) rfl) ?_
   repeat(first|(refine A1 ⟨?_⟩;intros)|(refine Wo (ov_callV rfl d1 rfl) ?_)|(refine Wdo (ov_callV rfl d1 rfl) ?_)|(refine Wog (ov_callV rfl d1 rfl) ?_)|(refine Wdog (ov_callV rfl d1 rfl) ?_))
   exact hgo _ _ lfA (List.Sublist.refl _)
 ·have hbi:i=bsPos l c:=by
   unfold bisect at hb
   rw [if_neg hlt]at hb;exact hb
  rw [←hbi]
  clear hb hK hbi
  by_cases hin:i<c.length
  ·obtain⟨s,hget,hmem,hat,hne⟩:=elt fgx_len (by omega) hin
   have hat2:(((c.map fgx).flatten++tl).drop (0+i*17)).take 17=fgx s:=by
    have hfl:=flat_len fgx_len c
    have hle:i*17+17≤c.length*17:=by omega
    rw [Nat.zero_add,List.drop_append_of_le_length (by omega),List.take_append_of_le_length (by rw [List.length_drop];omega)]
    exact hat
   have d1:=clip1_pu (hc s hmem) hl h1 hU
   clear hc hl hat
   generalize angP (dirL s.1) (dirL l)=z at *
   repeat(first|(refine A1 ⟨?_⟩;intros)|(refine Wo (ov_loadLA (cs':=fgx s) rfl (List.mem_cons_of_mem _ List.mem_cons_self) hat2 rfl) ?_)|(refine Wdo (ov_loadLA (cs':=fgx s) rfl (List.mem_cons_of_mem _ List.mem_cons_self) hat2 rfl) ?_)|(refine Wog (ov_loadLA (cs':=fgx s) rfl (List.mem_cons_of_mem _ List.mem_cons_self) hat2 rfl) ?_)|(refine Wdog (ov_loadLA (cs':=fgx s) rfl (List.mem_cons_of_mem _ List.mem_cons_self) hat2 rfl) ?_)|(refine Wo (ov_callV rfl d1 rfl) ?_)|(refine Wdo (ov_callV rfl d1 rfl) ?_)|(refine Wog (ov_callV rfl d1 rfl) ?_)|(refine Wdog (ov_callV rfl d1 rfl) ?_))
   exact endHR _ _ (end2 (RV.tmp rfl) (RV.tmp rfl) (Le.refl _)) (List.Sublist.cons _ (List.Sublist.refl _)) ⟨⟨_,rfl⟩,rfl⟩
  ·clear hc hl
   repeat(refine A1 ⟨?_⟩;intros)
   exact endHR _ _ (end2 (RV.tmp rfl) (RV.tmp rfl) (Le.refl _)) (List.Sublist.cons _ (List.Sublist.refl _)) ⟨⟨_,rfl⟩,rfl⟩
theorem bsPos_le (l:Li) (c:PC):bsPos l c≤c.length:=bisect_le _ _ _ _ _ (Nat.zero_le _) (Nat.le_refl _)
theorem pub_room {m:Mem}{arr:Array Value}{b:Nat}{T:TypeId}{cs tl:List SV}{n c:Nat}(hm:m b=some (.cells arr T (0,0))) (ha:All2 m (cs++tl) arr.toList) (h1:n≤c) (h2:c≤maxLen):(sl cs n).p m (.slice (some ⟨b,0,none⟩) n c):=by
 refine sl_mk h1 h2 (.inr ⟨b,0,rfl,arr,T,(0,0),hm,?_⟩)
 rw [List.drop_zero]
 exact ha.split.1
theorem kept_take {c:PC}{l:Li}{k:Nat}{s:Fg}(h:c[k]? = some s):keptP (c.take (k+1)) l=keptP (c.take k) l++((cutL s.1 s.2 l).map fun w=>(s.1,w)).toList:=by
 unfold keptP
 rw [take_snoc h,List.filterMap_append,List.filterMap_cons,List.filterMap_nil]
 cases cutL s.1 s.2 l <;> rfl
theorem kept_len (c:PC) (l:Li):(keptP c l).length≤c.length:=List.length_filterMap_le ..
set_option maxHeartbeats 2000000 in
theorem clip_pu {c:PC}{l:Li}{L:Nat}(hc:∀s∈c,s.1.le L∧s.2.le (50*L)) (hl:l.le L) (h1:1≤L) (hU:L≤500) (hn:c.length≤100000) :
  Pu Tryz.prog 278 [pcs c,lfl l] (Ab.tup [pcs (clipP (bsPos l) c l).1,lit (.bool (clipP (bsPos l) c l).2)]):=by
 have c0:=cpart_pu (fun s hs=>(hc s hs).1) hl h1 (by omega) (by omega)
 have c1:=cplace_pu hc hl h1 hU (by omega)
 unfold clipP
 cases hp:partP c l with
 |none =>
  rw [hp]at c0
  simp only [Option.isSome_none]at c0
  simp only
  clear hc hl
  generalize Option.none.getD Spn.none=w at *
  generalize placeP c l=z at *
  by_cases hz:0<z
  ·rw [decide_eq_true hz]
   refine Pu.intro Tryz.func278 rfl (by kernel_rfl) fun C=>?_
   repeat(first|(refine A1 ⟨?_⟩;intros)|refine W4 c0 ⟨?_⟩|refine W4 c1 ⟨?_⟩)
   ((first|refine endR ?_|refine endN ?_);exact end2 (RV.tmp rfl) (RV.tmp rfl) (Le.refl _))
  ·rw [decide_eq_false hz]
   refine Pu.intro Tryz.func278 rfl (by kernel_rfl) fun C=>?_
   repeat(first|(refine A1 ⟨?_⟩;intros)|refine W4 c0 ⟨?_⟩|refine W4 c1 ⟨?_⟩)
   ((first|refine endR ?_|refine endN ?_);exact end2 (RV.tmp rfl) (RV.tmp rfl) (Le.refl _))
 |some v =>
  rw [hp]at c0
  simp only [Option.isSome_some,Option.getD_some]at c0
  simp only
  clear c1
  refine PuH.toPu ?_
  refine PuH.intro Tryz.func278 rfl (by kernel_rfl) fun C hC=>?_
  repeat(first|(refine A1 ⟨?_⟩;intros)|refine W4 c0 ⟨?_⟩)
  rename_i b3 b6
  refine WPL.makeR (c:=c.length+1) rfl rfl (by omega) (by omega) (by omega) rfl fun b8=>?_
  repeat(refine A1 ⟨?_⟩;intros)
  refine WP.loopS (ι:=Nat) (fun k=>k≤c.length) (fun k=>c.length-k)
   (fun k=>fm [(3,lit (.pointer (some ⟨b3,0,none⟩))),(6,lit (.pointer (some ⟨b6,0,none⟩))),(8,lit (.slice (some ⟨b8,0,none⟩) (keptP (c.take k) l).length (c.length+1))),(32,pcs c),(33,lit (.int .i64 c.length)),(34,lit (.int .i64 k))])
   (fun k=>[(b8,frT,((keptP (c.take k) l).map fgx).flatten++List.replicate ((c.length+1)*17-(keptP (c.take k) l).length*17) top),(b6,293,ivx v),(b3,196,lfc l.a l.b l.c)]) 0 (Nat.zero_le _) lfA (List.Sublist.refl _) ?_
  rintro k hk K hK
  have hkl2:=kept_len (c.take k) l
  rw [List.length_take]at hkl2
  by_cases hkl:k<c.length
  ·obtain⟨s,hget,hmem,hat,hne⟩:=elt fgx_len (by omega) hkl
   obtain⟨k1,k2⟩:=hc s hmem
   have d1:=lcut_pu (l:=s.1) (m:=l) (v:=s.2) k1 hl h1 (by omega) k2
   have hkt:=kept_take (l:=l) hget
   rw [cutV_L]at hkt
   have hgo:=fun F' H'=>hK F' H' (k+1) (by omega) (by omega)
   have hfl:=flat_len fgx_len (keptP (c.take k) l)
   generalize keptP (c.take k) l=d at *
   generalize keptP (c.take (k+1)) l=d' at *
   clear hK hc hl c0
   cases hb:(cutV s.1 s.2 l).2 with
   |true =>
    rw [hb]at d1 hkt
    generalize(cutV s.1 s.2 l).1=w at *
    simp only [if_true,Option.map_some,Option.toList_some]at hkt
    subst hkt
    repeat(refine A1 ⟨?_⟩;intros)
    refine Wo (ov_idxS (cs':=fgx s) rfl rfl (by omega) (by omega) hat hne) ?_
    repeat(first|(refine A1 ⟨?_⟩;intros)|(refine Wo (ov_fieldA rfl rfl (by kernel_rfl) rfl) ?_)|(refine Wdo (ov_fieldA rfl rfl (by kernel_rfl) rfl) ?_)|refine W4 d1 ⟨?_⟩)
    have hdl:d.length+1≤c.length+1:=by omega
    refine WPL.appIn (cs:=(d.map fgx).flatten) (tl:=List.replicate ((c.length+1)*17-d.length*17) top) (ds:=fgx (s.1,w)) rfl rfl hfl (List.length_replicate ..) hdl (.there _ (.there _ (.there _ (.here _)))) List.mem_cons_self rfl ?_ rfl
    have hce:((d++[(s.1,w)]).map fgx).flatten++List.replicate ((c.length+1)*17-(d++[(s.1,w)]).length*17) top=((d.map fgx).flatten++fgx (s.1,w))++(List.replicate ((c.length+1)*17-d.length*17) top).drop 17:=by
     rw [List.map_append,List.flatten_append,List.drop_replicate,List.length_append,show(d.length+[(s.1,w)].length)=d.length+1 from rfl,show(c.length+1)*17-(d.length+1)*17=(c.length+1)*17-d.length*17-17 by omega]
     simp
    rw [hce,show(d++[(s.1,w)]).length=d.length+1 by simp]at hgo
    repeat(refine A1 ⟨?_⟩;intros)
    exact hgo _ _ lfA ((((List.Sublist.refl _).cons _).cons _).cons _ |>.cons_cons _)
   |false =>
    rw [hb]at d1 hkt
    generalize(cutV s.1 s.2 l).1=w at *
    simp only [Bool.false_eq_true,if_false,Option.map_none,Option.toList_none,List.append_nil]at hkt
    subst hkt
    repeat(refine A1 ⟨?_⟩;intros)
    refine Wo (ov_idxS (cs':=fgx s) rfl rfl (by omega) (by omega) hat hne) ?_
    repeat(first|(refine A1 ⟨?_⟩;intros)|(refine Wo (ov_fieldA rfl rfl (by kernel_rfl) rfl) ?_)|(refine Wdo (ov_fieldA rfl rfl (by kernel_rfl) rfl) ?_)|refine W4 d1 ⟨?_⟩)
    exact hgo _ _ lfA (List.Sublist.cons _ (List.Sublist.cons _ (List.Sublist.refl _)))
  ·have hke:k=c.length:=by omega
   subst hke
   rw [List.take_length]
   clear hK
   have hd:∀s∈keptP c l,s.1.le L:=fun s hs=>by
    obtain⟨s0,h2,h3,_⟩:=keptP_mem.1 hs
    rw [←h3];exact(hc s0 h2).1
   have hkl3:=kept_len c l
   have hpos:=bsPos_le l (keptP c l)
   have hfl:=flat_len fgx_len (keptP c l)
   generalize keptP c l=d at *
   have b0:=bs_pu hd hl h1 (by omega) (by omega) b8 (c.length+1) (List.replicate ((c.length+1)*17-d.length*17) top)
   clear hd hc hl c0
   repeat(refine A1 ⟨?_⟩;intros)
   refine WfT b0 ?_
   rintro _ _ ⟨⟨fb,rfl⟩,rfl⟩
   simp only [List.cons_append,List.nil_append]
   generalize bsPos l d=i at *
   repeat(refine A1 ⟨?_⟩;intros)
   rename_i bx
   refine WfT (insert_pu b8 bx d.length (c.length+1) i 1 ((d.map fgx).flatten) (List.replicate ((c.length+1)*17-d.length*17) top) (fgx (l,v)) hfl (List.length_replicate ..) rfl (by omega) (by omega) hpos) ?_
   rintro _ _ ⟨rfl,rfl⟩
   simp only [List.cons_append,List.nil_append]
   have hi:=ins_cells fgx_len d (l,v) i
   rw [←List.append_assoc]at hi
   rw [hi]
   have hlen:d.length+1=(d.take i++(l,v)::d.drop i).length:=by
    rw [List.length_append,List.length_cons,List.length_take,List.length_drop];omega
   refine WPL.pub (d:=68) (s':=pcs (d.take i++(l,v)::d.drop i)) (.there _ (.there _ (.here _))) rfl (fun m arr hm ha=>by show(sl ((d.take i++(l,v)::d.drop i).map fgx).flatten (d.take i++(l,v)::d.drop i).length).p m _;rw [←hlen];exact pub_room hm ha (by omega) (by simp only [maxLen];omega)) ?_
   repeat(refine A1 ⟨?_⟩;intros)
   exact endHR _ _ (end2 (RV.tmp rfl) (RV.tmp rfl) (Le.refl _)) (List.nil_sublist _) rfl
def sizeT:Tr→Nat
 | .leaf _=>0
 | .node _ a b=>1+sizeT a+sizeT b
def depT:Tr→Nat
 | .leaf _=>0
 | .node _ a b=>1+max (depT a) (depT b)
def Crs (f:Fg) (m:Li):Prop:=∃t,InS f.2 t∧valL m (atL f.1 t)=0∧slp f.1 m≠0
open Classical in
noncomputable def cntF (L:List Li) (f:Fg):Nat:=L.countP fun m=>decide (Crs f m)
noncomputable def phiF (L:List Li) (l:List Fg):Nat:=(l.map fun f=>1+cntF L f).sum
theorem phiF_app (L:List Li) (a b:List Fg):phiF L (a++b)=phiF L a+phiF L b:=by unfold phiF;rw [List.map_append,List.sum_append]
theorem phiF_cons (L:List Li) (f:Fg) (l:List Fg):phiF L (f::l)=1+cntF L f+phiF L l:=by unfold phiF;rw [List.map_cons,List.sum_cons]
open Classical in
theorem cnt_mono {L:List Li}{f g:Fg}(h:∀m∈L,Crs g m→Crs f m):cntF L g≤cntF L f:=by
 unfold cntF
 induction L with
 |nil=>simp
 |cons a L ih =>
  have ih:=ih fun m hm=>h m (List.mem_cons_of_mem _ hm)
  rw [List.countP_cons,List.countP_cons]
  by_cases k:Crs g a
  ·rw [if_pos (decide_eq_true k),if_pos (decide_eq_true (h a List.mem_cons_self k))];omega
  ·rw [if_neg (by simpa using k)];omega
open Classical in
theorem cnt_two {L:List Li}{f g k:Fg}(h1:∀m∈L,Crs g m→Crs f m) (h2:∀m∈L,Crs k m→Crs f m) (h3:∀m∈L,Crs g m→Crs k m→False){x:Li}(hx:x∈L) (x1:Crs f x) (x2:¬Crs g x) (x3:¬Crs k x) :
  cntF L g+cntF L k+1≤cntF L f:=by
 unfold cntF
 induction L with
 |nil=>cases hx
 |cons a L ih =>
  have g1:∀m∈L,Crs g m→Crs f m:=fun m hm=>h1 m (List.mem_cons_of_mem _ hm)
  have g2:∀m∈L,Crs k m→Crs f m:=fun m hm=>h2 m (List.mem_cons_of_mem _ hm)
  have g3:∀m∈L,Crs g m→Crs k m→False:=fun m hm=>h3 m (List.mem_cons_of_mem _ hm)
  rw [List.countP_cons,List.countP_cons,List.countP_cons]
  have base:L.countP (fun m=>decide (Crs g m))+L.countP (fun m=>decide (Crs k m))≤L.countP (fun m=>decide (Crs f m)):=by
   clear ih hx
   induction L with
   |nil=>simp
   |cons b L ih' =>
    have ih':=ih' (fun m hm=>by rcases List.mem_cons.1 hm with e|e;exact h1 m (e▸List.mem_cons_self);exact h1 m (List.mem_cons_of_mem _ (List.mem_cons_of_mem _ e)))
     (fun m hm=>by rcases List.mem_cons.1 hm with e|e;exact h2 m (e▸List.mem_cons_self);exact h2 m (List.mem_cons_of_mem _ (List.mem_cons_of_mem _ e)))
     (fun m hm=>by rcases List.mem_cons.1 hm with e|e;exact h3 m (e▸List.mem_cons_self);exact h3 m (List.mem_cons_of_mem _ (List.mem_cons_of_mem _ e)))
     (fun m hm=>g1 m (List.mem_cons_of_mem _ hm)) (fun m hm=>g2 m (List.mem_cons_of_mem _ hm)) (fun m hm=>g3 m (List.mem_cons_of_mem _ hm))
    rw [List.countP_cons,List.countP_cons,List.countP_cons]
    have b1:=g1 b List.mem_cons_self
    have b2:=g2 b List.mem_cons_self
    have b3:=g3 b List.mem_cons_self
    by_cases p:Crs g b <;> by_cases q:Crs k b <;> by_cases r:Crs f b <;> simp only [p,q,r,decide_true,decide_false,if_true,Bool.false_eq_true,if_false] <;> first|omega|exact absurd (b1 p) r|exact absurd (b2 q) r|exact(b3 p q).elim
  have a1:=h1 a List.mem_cons_self
  have a2:=h2 a List.mem_cons_self
  have a3:=h3 a List.mem_cons_self
  rcases List.mem_cons.1 hx with e|e
  ·subst e
   simp only [x1,x2,x3,decide_true,decide_false,if_true,Bool.false_eq_true,if_false]
   omega
  ·have ih:=ih g1 g2 g3 e
   by_cases p:Crs g a <;> by_cases q:Crs k a <;> by_cases r:Crs f a <;> simp only [p,q,r,decide_true,decide_false,if_true,Bool.false_eq_true,if_false] <;> first|omega|exact absurd (a1 p) r|exact absurd (a2 q) r|exact(a3 p q).elim
structure FgG (L:List Li) (f:Fg):Prop where
 ok:f.1.ok
 mem:f.1∈L
 g:SpG f.2
 b:spBad f.2=false
theorem FgG.some {L:List Li}{f:Fg}(h:FgG L f):∃t,InS f.2 t:=⟨_,sample_in h.b⟩
theorem cutL_g {l m:Li}{v w:Spn}(hv:SpG v) (hb:spBad v=false) (h:cutL l v m=some w):SpG w∧spBad w=false:=by
 obtain⟨t,ht⟩:=cutL_good ⟨_,sample_in hb⟩ h
 refine⟨?_,spBad_in ht⟩
 unfold cutL at h
 split at h
 ·split at h
  ·cases h;exact hv
  ·cases h
 ·split at h
  ·cases h
  ·rename_i h2
   cases h
   exact meetS_g hv (hlf_g _ _) (by simpa using h2)
theorem cut_crs {f:Fg}{m:Li}{w:Spn}(h:cutL f.1 f.2 m=some w){x:Li}(k:Crs (f.1,w) x):Crs f x:=by
 obtain⟨t,h1,h2,h3⟩:=k
 exact⟨t,((cutL_some h t).1 h1).1,h2,h3⟩
theorem InS.mid {s:Spn}{t u:Rat}(ht:InS s t) (hu:InS s u){v:Rat}(h1:t≤v) (h2:v≤u):InS s v:=by
 obtain⟨a,_⟩:=ht
 obtain⟨_,b⟩:=hu
 exact⟨a.imp id (fun k=>by grind),b.imp id (fun k=>by grind)⟩
theorem cut_both {f:Fg}{m:Li}{w w':Spn}(hw:∃t,InS f.2 t) (h:cutL f.1 f.2 m=some w) (h':cutL f.1 f.2 m.neg=some w') :
  Crs f m∧¬Crs (f.1,w) m∧¬Crs (f.1,w') m∧∀x,Crs (f.1,w) x→Crs (f.1,w') x→False:=by
 obtain⟨t,ht⟩:=cutL_good hw h
 obtain⟨u,hu⟩:=cutL_good hw h'
 obtain⟨t1,t2⟩:=(cutL_some h t).1 ht
 obtain⟨u1,u2⟩:=(cutL_some h' u).1 hu
 rw [neg_val]at u2
 have hk:slp f.1 m≠0:=fun e=>by
  rw [valL_at,e]at t2 u2
  grind
 refine⟨?_,?_,?_,?_⟩
 ·have e:∀v,valL m (atL f.1 v)=(v - -(valL m (baseL f.1)/slp f.1 m))*slp f.1 m:=cut_t0 hk
  have e0:=e (-(valL m (baseL f.1)/slp f.1 m))
  rw [e]at t2 u2
  generalize -(valL m (baseL f.1)/slp f.1 m)=z at *
  refine⟨z,?_,by rw [e0];grind,hk⟩
  by_cases hp:0<slp f.1 m
  ·have a:=(mul_pos_r hp).1 t2
   have b:=(mul_pos_r (x:=z-u) hp).1 (by grind)
   exact InS.mid u1 t1 (by grind) (by grind)
  ·have hn:0 < - slp f.1 m:=by grind
   have a:=(mul_pos_r (x:=z-t) hn).1 (by grind)
   have b:=(mul_pos_r (x:=u-z) hn).1 (by grind)
   exact InS.mid t1 u1 (by grind) (by grind)
 ·rintro ⟨v,v1,v2,_⟩
  have:=((cutL_some h v).1 v1).2
  simp only at v2
  rw [v2]at this;exact absurd this (by decide)
 ·rintro ⟨v,v1,v2,_⟩
  have:=((cutL_some h' v).1 v1).2
  simp only at v2
  rw [neg_val,v2]at this;exact absurd this (by decide)
 ·rintro x ⟨v,v1,v2,v3⟩ ⟨v',w1,w2,w3⟩
  simp only at v2 v3 w2
  have hvv:v=v':=by
   rw [valL_at]at v2 w2
   have:(v-v')*slp f.1 x=0:=by grind
   rcases Rat.mul_eq_zero.1 this with e|e
   ·grind
   ·exact absurd e v3
  subst hvv
  have a:=((cutL_some h v).1 v1).2
  have b:=((cutL_some h' v).1 w1).2
  rw [neg_val]at b
  grind
theorem split_g {L:List Li}{f:Fg}{m:Li}(hf:FgG L f):(∀g∈(splitF f m).1,FgG L g∧g.1=f.1)∧∀g∈(splitF f m).2,FgG L g∧g.1=f.1:=by
 rw [splitF_eq hf.g hf.b hf.ok]
 have key:∀x:Li,∀g∈((cutL f.1 f.2 x).toList).map (fun s=>(f.1,s)),FgG L g∧g.1=f.1:=fun x g hg=>by
  obtain⟨w,hw,rfl⟩:=List.mem_map.1 hg
  rw [Option.mem_toList]at hw
  obtain⟨a,b⟩:=cutL_g hf.g hf.b hw
  exact⟨⟨hf.ok,hf.mem,a,b⟩,rfl⟩
 exact⟨key m,key m.neg⟩
theorem split_len {L:List Li}{f:Fg}{m:Li}(hf:FgG L f):(splitF f m).1.length≤1∧(splitF f m).2.length≤1:=by
 rw [splitF_eq hf.g hf.b hf.ok]
 simp only [List.length_map]
 constructor
 ·cases cutL f.1 f.2 m <;> simp
 ·cases cutL f.1 f.2 m.neg <;> simp
theorem split_phi {L:List Li}{f:Fg}{m:Li}(hf:FgG L f) (hm:m∈L):phiF L (splitF f m).1+phiF L (splitF f m).2≤1+cntF L f:=by
 rw [splitF_eq hf.g hf.b hf.ok]
 cases h:cutL f.1 f.2 m with
 |none =>
  cases h':cutL f.1 f.2 m.neg with
  |none=>simp [phiF]
  |some w' =>
   have:=cnt_mono (L:=L) (f:=f) (g:=(f.1,w')) fun x _ k=>cut_crs h' k
   simp [phiF];omega
 |some w =>
  have h1:=cnt_mono (L:=L) (f:=f) (g:=(f.1,w)) fun x _ k=>cut_crs h k
  cases h':cutL f.1 f.2 m.neg with
  |none=>simp [phiF];omega
  |some w' =>
   obtain⟨a,b,c,d⟩:=cut_both hf.some h h'
   have:=cnt_two (L:=L) (f:=f) (g:=(f.1,w)) (k:=(f.1,w')) (fun x _ k=>cut_crs h k) (fun x _ k=>cut_crs h' k) (fun x _=>d x) hm a b c
   simp [phiF];omega
theorem split_self {L:List Li}{f:Fg}(hf:FgG L f):splitF f f.1=([],[]):=by
 have hk:slp f.1 f.1=0:=by unfold slp;grind
 have hb:valL f.1 (baseL f.1)=0:=by have:=at_on hf.ok 0;rw [valL_at,hk]at this;grind
 rw [splitF_eq hf.g hf.b hf.ok,cut_neg]
 unfold cutL
 rw [hk,hb]
 simp
theorem splits_g {L:List Li}{l:List Fg}{m:Li}(hl:∀f∈l,FgG L f):(∀g∈(splits l m).1,FgG L g)∧∀g∈(splits l m).2,FgG L g:=by
 unfold splits
 constructor
 ·intro g hg
  obtain⟨x,hx,hgx⟩:=List.mem_flatten.1 hg
  obtain⟨f,hf,rfl⟩:=List.mem_map.1 hx
  exact((split_g (hl f hf)).1 g hgx).1
 ·intro g hg
  obtain⟨x,hx,hgx⟩:=List.mem_flatten.1 hg
  obtain⟨f,hf,rfl⟩:=List.mem_map.1 hx
  exact((split_g (hl f hf)).2 g hgx).1
theorem splits_phi {L:List Li}{m:Li}(hm:m∈L):∀{l:List Fg},(∀f∈l,FgG L f)→phiF L (splits l m).1+phiF L (splits l m).2≤phiF L l
 | [],_=>by simp [splits,phiF]
 |f::l,hl=>by
  have ih:=splits_phi hm (l:=l) fun x hx=>hl x (List.mem_cons_of_mem _ hx)
  have h1:=split_phi (hl f List.mem_cons_self) hm
  unfold splits at *
  simp only [List.map_cons,List.flatten_cons]at *
  rw [phiF_app,phiF_app,phiF_cons]
  omega
theorem splits_less {L:List Li}{f:Fg}{l:List Fg}(hl:∀g∈f::l,FgG L g):phiF L (splits (f::l) f.1).1+phiF L (splits (f::l) f.1).2+1≤phiF L (f::l):=by
 have hf:=hl f List.mem_cons_self
 have ih:=splits_phi hf.mem (l:=l) fun x hx=>hl x (List.mem_cons_of_mem _ hx)
 unfold splits at *
 simp only [List.map_cons,List.flatten_cons,split_self hf,List.nil_append]at *
 rw [phiF_cons]
 omega
def Tr.lin (L:List Li):Tr→Prop
 | .leaf _=>True
 | .node l a b=>l∈L∧a.lin L∧b.lin L
theorem rawT_size {L:List Li}(inn:Pq→Bool):∀(n:Nat) (l:List Fg) (c:List Li),(∀f∈l,FgG L f)→phiF L l<n→sizeT (rawT inn n l c)≤phiF L l∧depT (rawT inn n l c)≤phiF L l∧(rawT inn n l c).lin L
 |0,_,_,_,h=>by omega
 |n+1,[],c,_,_=>⟨Nat.zero_le _,Nat.zero_le _,trivial⟩
 |n+1,f::l,c,hl,h=>by
  have hs:=splits_less hl
  obtain⟨g1,g2⟩:=splits_g (m:=f.1) hl
  obtain⟨a1,a2,a3⟩:=rawT_size inn n (splits (f::l) f.1).1 (c++[f.1]) g1 (by omega)
  obtain⟨b1,b2,b3⟩:=rawT_size inn n (splits (f::l) f.1).2 (c++[f.1.neg]) g2 (by omega)
  unfold rawT
  refine⟨?_,?_,(hl f List.mem_cons_self).mem,a3,b3⟩
  ·simp only [sizeT];omega
  ·simp only [depT];omega
theorem cntF_le (L:List Li) (f:Fg):cntF L f≤L.length:=List.countP_le_length
theorem phiF_le (L:List Li):∀l:List Fg,phiF L l≤l.length*(1+L.length)
 | []=>by simp [phiF]
 |f::l=>by
  have:=phiF_le L l
  have:=cntF_le L f
  rw [phiF_cons,List.length_cons,Nat.add_mul]
  omega
end Go.Ab
