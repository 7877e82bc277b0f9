/- Texts laid one behind the other: Cpct, TcA, TcB, Cls, ClsB, ClsC, ArB. -/
import Derived.Test.YtbcojehfealiaaaGreatDoorB25
import Derived.Test.YtbcojehfealiaaaGreatDoorB30
set_option linter.all false
set_option maxHeartbeats 16000000
namespace Go.Ab
open Go.Proofs
variable [Base]
section
variable {P:Program}{C:Ctx}{n:Nat}{F:Fr}{H:LH}{ops:Array Oper}{K:Fr→LH→Prop}{rest:List Oper}{ty:TypeId}{pos:String}{aft:Array Edge}
theorem WPL.clearL {T e:TypeId}{sz by_:Nat}{z:List SV}{g:Bool} [hS:TSl P T e] [hT:TY P e sz by_ z g]{x:Operand}{b o k c:Nat}{T':TypeId}{cs cs':List SV}{H':LH}
  (hx:ev F x=lit (.slice (some ⟨b,o,none⟩) k c)) (hk:0<k) (hu:aq b T' cs cs' H H') (hsp:spl cs o (List.replicate (k*sz) top)=cs') (hle:o+k*sz≤cs.length)
  (h:WPL P C n ops rest K F H'):WPL P C n ops (⟨none, .call ⟨.builtin .clear,#[x],#[T]⟩,ty,pos,aft,none⟩::rest) K F H:=by
 unfold WPL;intro a w hs Q hq;obtain⟨hdef,hn,m,h1,h2,h3,h4,h5⟩:=hs
 have hp:∀x,(ev F x).p m (a.eval x):=fun x=>by
  cases x with
  |tmp t=>exact h5 t
  |const v=>unfold ev lit;rfl
  |global g=>unfold ev lit;rfl
  |func f=>unfold ev lit;rfl
 have e0:=hp x;rw [hx,aj]at e0;obtain⟨_,arr,hb,hall⟩:=h2.2 _ hu.mem;have hla:=hall.length;simp only [Array.length_toList]at hla;obtain⟨v2,hzr,hz3⟩:=hT.run_zero w;obtain⟨l0,_,hl1,_,hl3⟩:=hT.info;have hv1:v2.cells.toList.all (·.oneCell')=true:=List.all_eq_true.2 fun x hx=>(hz3 m).oneS x hx
 have hv2:v2.cells.size=sz:=by
  have:=(hz3 m).length;rw [←hl1,List.length_map,hl3,Array.length_toList]at this;exact this
 have hzl:(Builtin.zeroCells v2.cells k).toList.length=k*sz:=by simp [Builtin.zeroCells,hv2,Nat.mul_comm]
 obtain⟨w',arr',hr,g1,g2,g3,g4,g5,g6,g7⟩:=dN (P:=P) (b:=b) (T:=T') (o:=o) (Builtin.zeroCells v2.cells k).toList 0 w arr hb (by rw [hzl];omega) (zeroCells_one hv1);refine wpList_plain rfl fun K' hK'=>?_
 unfold Oper.wp
 have hcl:(Builtin.clear_ #[T] ty #[.slice (some ⟨b,o,none⟩) k c]).run P w = .ok (.tuple #[]) w':=by
  obtain⟨k',rfl⟩:∃k',k=k'+1:=⟨k-1,om⟩
  simp [Builtin.clear_,underlying,hS.h,hzr,hr]
 have hrun:(execOp a.eval (⟨none, .call ⟨.builtin .clear,#[x],#[T]⟩,ty,pos,aft,none⟩:Oper)).run P w = .ok (.value (.tuple #[])) w':=by
  have:execOp a.eval (⟨none, .call ⟨.builtin .clear,#[x],#[T]⟩,ty,pos,aft,none⟩:Oper)=(do let v←Builtin.clear_ #[T] ty #[a.eval x];pure (.value v)):=by
   simp [execOp,resolve,invoke,builtin]
  rw [this,e0];simp only [Sem.run_bind,hcl,Result.andThen_ok,Sem.run_pure]
 rw [hrun];refine hK' _ _ ?_;have hfin:=g7 m cs (List.replicate (k*sz) top) hall (hzl▸ak.tops _ (zeroCells_one hv1));rw [Nat.add_zero,hsp]at hfin;obtain⟨q1,q2,q3,q4⟩:=iH h1 h2 h3 h4 hu g1 g2 g3 g4 g5 g6 hfin;unfold WPL at h;exact h _ _ ⟨hdef,hn,m,q1,q2,q3,q4,h5⟩ Q hq
end
def dd:List Pq→List Pq
 | []=>[]
 | [a]=>[a]
 |a::b::l=>if b=a then dd (b::l)else a::dd (b::l)
theorem uR:∀(l:List Pq) (a x:Pq),dd (l++[a,x])=if x=a then dd (l++[a])else dd (l++[a])++[x]
 | [],a,x=>by
  show(if x=a then dd [x]else a::dd [x])=if x=a then dd [a]else dd [a]++[x]
  by_cases h:x=a
  ·rw [if_pos h,if_pos h,h]
  ·rw [if_neg h,if_neg h];rfl
 | [b],a,x=>by
  show(if a=b then dd [a,x]else b::dd [a,x])=if x=a then(if a=b then dd [a]else b::dd [a])else(if a=b then dd [a]else b::dd [a])++[x]
  have ih:=uR [] a x;simp only [List.nil_append]at ih;rw [ih];by_cases h:x=a
  ·rw [if_pos h,if_pos h]
  ·rw [if_neg h,if_neg h];split <;> rfl
 |b::c::l,a,x=>by
  have ih:=uR (c::l) a x;show(if c=b then dd (c::(l++[a,x]))else b::dd (c::(l++[a,x])))=if x=a then(if c=b then dd (c::(l++[a]))else b::dd (c::(l++[a])))else(if c=b then dd (c::(l++[a]))else b::dd (c::(l++[a])))++[x]
  simp only [List.cons_append]at ih;rw [ih];by_cases h:x=a
  ·rw [if_pos h,if_pos h]
  ·rw [if_neg h,if_neg h];split <;> rfl
theorem pK {l:List Pq}{k:Nat}{a x:Pq}(ha:l[k]? = some a) (hx:l[k+1]? = some x):dd (l.take (k+2))=if x=a then dd (l.take (k+1))else dd (l.take (k+1))++[x]:=by
 have e1:l.take (k+1)=l.take k++[a]:=cF ha;have e2:l.take (k+2)=l.take k++[a,x]:=by rw [cF hx,e1];simp
 rw [e1,e2,uR]
theorem DV {l:List Pq}(h:l.length<2):dd l=l:=by
 match l,h with
 | [],_=>rfl
 | [a],_=>rfl
theorem DW:∀l:List Pq,(dd l).length≤l.length
 | []=>Nat.le_refl _
 | [a]=>Nat.le_refl _
 |a::b::l=>by
  have:=DW (b::l);show(if b=a then dd (b::l)else a::dd (b::l)).length≤_
  split
  ·rw [List.length_cons];omega
  ·rw [List.length_cons,List.length_cons];omega
theorem uS (eq:Pq→Pq→Bool):∀(n:Nat) (l:List Pq),l.length≤n→(∀a∈l,∀b∈l,eq b a=true↔a=b)→nC eq l=dd l
 |_,[],_,_=>by unfold nC dd;rfl
 |_,[a],_,_=>by unfold nC dd;rfl
 |0,_::_::_,h,_=>by simp at h
 |n+1,a::b::l,h,he=>by
  have sub:(a::l).Sublist (a::b::l):=List.Sublist.cons_cons _ (Sc Sr);unfold nC dd;have hab:=he a List.mem_cons_self b (Mc Ms);by_cases k:a=b
  ·rw [if_pos (hab.2 k),if_pos k.symm,uS eq n (a::l) (by simp at h⊢;omega) (fun x hx y hy=>he x (sub.subset hx) y (sub.subset hy)),k]
  ·have:eq b a=false:=by
    cases e:eq b a with
    |false=>rfl
    |true=>exact absurd (hab.1 e) k
   rw [this,if_neg (by decide),if_neg (fun e=>k e.symm),uS eq n (b::l) (by simp at h⊢;omega) (fun x hx y hy=>he x (Mc hx) y (Mc hy))]
theorem Ht {A:List Pq}{k:Nat}(p:Pq) (h:k<A.length) (R:List SV):spl ((A.map ppx).flatten++R) (k*6) (ppx p)=((A.set k p).map ppx).flatten++R:=by
 have hA:(((A.take k).map ppx).flatten).length=k*6:=by rw [bk et,List.length_take];congr 1;omega
 rw [lI (List.getElem?_eq_getElem h),qZ h,List.append_assoc,List.append_assoc,show k*6=(((A.take k).map ppx).flatten).length+0 by omega,pf,List.append_assoc,List.append_assoc];rfl
theorem C5:∀(zs ys:List SV) (pre:List SV),spl (pre++zs++ys) pre.length (List.replicate zs.length top)=pre++List.replicate zs.length top++ys:=fun zs ys pre=>by
 have:=tI (List.replicate zs.length top) pre (zs++ys) (by simp);rw [List.append_assoc,this,List.length_replicate,List.drop_left' rfl]
theorem A7 {A:List Pq}{k:Nat}{p:Pq}(h:A[k]? = some p) (R:List SV):(((A.map ppx).flatten++R).drop (k*6)).take 6=ppx p:=by
 have hk:=(List.getElem?_eq_some_iff.1 h).1;have hfl:=bk et A;have hle:k*6+6≤A.length*6:=by omega
 rw [List.drop_append_of_le_length om,List.take_append_of_le_length (by rw [List.length_drop];omega)];exact cX (f:=ppx) (n:=6) et h
structure CpI (l A:List Pq) (k j:Nat):Prop where
 len:A.length=l.length
 kj:k≤j-1
 j1:1≤j
 jn:j≤l.length
 kept:A.take k=dd (l.take j)
 rest:A.drop (j-1)=l.drop (j-1)
theorem CpI.at {l A:List Pq}{k j:Nat}(h:CpI l A k j){i:Nat}(hi:j-1≤i):A[i]? = l[i]?:=by
 have e:=congrArg (fun x=>x[i-(j-1)]?) h.rest;simp only [List.getElem?_drop,show j-1+(i-(j-1))=i by omega]at e;exact e
theorem CpI.same {l A:List Pq}{k j:Nat}(h:CpI l A k j){a:Pq}(ha:l[j-1]? = some a) (hx:l[j]? = some a):CpI l A k (j+1):=by
 have h1:=h.j1;have hjn:=(List.getElem?_eq_some_iff.1 hx).1;obtain⟨i,rfl⟩:∃i,j=i+1:=⟨j-1,om⟩
 rw [Nat.add_sub_cancel]at ha;refine⟨h.len,by have:=h.kj;omega,om,om,?_,?_⟩
 ·rw [h.kept,pK ha hx,if_pos rfl]
 ·have:=congrArg (List.drop 1) h.rest;rw [List.drop_drop,List.drop_drop]at this;simpa using this
theorem CpI.keep {l A:List Pq}{k j:Nat}(h:CpI l A k j){a x:Pq}(ha:l[j-1]? = some a) (hx:l[j]? = some x) (hne:x≠a):CpI l (A.set k x) (k+1) (j+1):=by
 have h1:=h.j1;have h2:=h.kj;have hjn:=(List.getElem?_eq_some_iff.1 hx).1;have hl:=h.len;obtain⟨i,rfl⟩:∃i,j=i+1:=⟨j-1,om⟩
 rw [Nat.add_sub_cancel]at ha;refine⟨by rw [List.length_set];exact hl,om,om,om,?_,?_⟩
 ·rw [pK ha hx,if_neg hne,←h.kept];have hkl:k<A.length:=by omega
  rw [cF (a:=x) (by rw [List.getElem?_set_self hkl]),List.take_set_of_le (Nat.le_refl k)]
 ·have e:(A.set k x).drop (i+1)=A.drop (i+1):=List.drop_set_of_lt om;show(A.set k x).drop (i+1)=_
  rw [e];have:=congrArg (List.drop 1) h.rest;rw [List.drop_drop,List.drop_drop]at this;simpa using this
theorem CpI.first {l:List Pq}{k:Nat}{a:Pq}(h1:1≤k) (hd:dd (l.take k)=l.take k) (ha:l[k-1]? = some a) (hx:l[k]? = some a):CpI l l k (k+1):=by
 have hkn:=(List.getElem?_eq_some_iff.1 hx).1;obtain⟨i,rfl⟩:∃i,k=i+1:=⟨k-1,om⟩
 rw [Nat.add_sub_cancel]at ha;refine⟨rfl,om,om,om,?_,rfl⟩;rw [pK ha hx,if_pos rfl,hd]
theorem IV {l:List Pq}{k:Nat}{a x:Pq}(h1:1≤k) (hd:dd (l.take k)=l.take k) (ha:l[k-1]? = some a) (hx:l[k]? = some x) (hne:x≠a):dd (l.take (k+1))=l.take (k+1):=by
 obtain⟨i,rfl⟩:∃i,k=i+1:=⟨k-1,om⟩
 rw [Nat.add_sub_cancel]at ha;rw [pK ha hx,if_neg hne,hd,cF hx]
abbrev Ih (g:FuncId):Value := .func (.func g) #[] #[]
theorem yq {g:FuncId}(l:List Pq) (he:∀u∈l,∀v∈l,Pu Tryz.prog g [ppq u,ppq v] (lit (.bool (decide (u=v))))) (hl:l.length≤1000000){s:SV}{Hs:LH}(hown:Own 94 6 l.length (l.map ppx).flatten s Hs) :
  PuH Tryz.prog 184 [s,lit (Ih g)] Hs (fun r H'=>Own 94 6 (dd l).length ((dd l).map ppx).flatten r H') noX:=by
 obtain⟨hlen,hown⟩:=hown;rcases hown with⟨h0,rfl,rfl⟩|⟨b,c,h1,h2,rfl,rfl⟩
 ·have hl0:=List.length_eq_zero_iff.1 h0;subst hl0;refine PuH.intro Tryz.func184 rfl kr fun C hC=>?_
  repeat(refine A1 ⟨?_⟩;intros)
  exact eL _ _ (ax (RV.tmp rfl) Lr) Sr (Own.nil _ _)
 by_cases h2l:l.length<2
 ·rw [DV h2l];refine PuH.intro Tryz.func184 rfl kr fun C hC=>?_
  repeat(refine A1 ⟨?_⟩;intros)
  exact eL _ _ (ax (RV.tmp rfl) Lr) Sr ⟨hlen, .inr ⟨b,c,h1,h2,rfl,rfl⟩⟩
 have hml:c*6-l.length*6=(c-l.length)*6:=by omega
 generalize htl:List.replicate (c*6-l.length*6) top=tl at *;refine PuH.intro Tryz.func184 rfl kr fun C hC=>?_
 repeat(refine A1 ⟨?_⟩;intros)
 refine WP.loopS (ι:=Nat) (fun k=>1≤k∧k≤l.length∧dd (l.take k)=l.take k) (fun k=>l.length-k) (fun k=>fm [(0,lit (.slice (some ⟨b,0,none⟩) l.length c)),(1,lit (Ih g)),(5,lit (.int .i64 k))]) (fun _=>[(b,94,(l.map ppx).flatten++tl)]) 1
  ⟨Nat.le_refl _,om,DV (by rw [List.length_take];omega)⟩ lfA Sr ?_
 rintro k ⟨hk1,hkl,hd⟩ K hK;by_cases hlt:k<l.length
 case neg =>
  have hke:k=l.length:=by omega
  subst hke;rw [List.take_length]at hd;rw [hd];clear hK;repeat(refine A1 ⟨?_⟩;intros)
  exact eL _ _ (ax (RV.tmp rfl) Lr) Sr ⟨hlen, .inr ⟨b,c,h1,h2,rfl,by rw [htl]⟩⟩
 have hgx:=List.getElem?_eq_getElem hlt;have hga:=List.getElem?_eq_getElem (show k-1<l.length by omega);generalize l[k]=x at hgx;generalize l[k-1]=a at hga;have cx:=he x (List.mem_of_getElem? hgx) a (List.mem_of_getElem? hga);have hatx:=A7 hgx tl;have hata:=A7 hga tl;have hk':((k:Int)-1).toNat=k-1:=by omega
 by_cases hxa:x=a
 case neg =>
  have hgo:=fun F' H'=>hK F' H' (k+1) ⟨om,om,IV hk1 hd hga hgx hxa⟩ om
  rw [decide_eq_false hxa]at cx;clear hK he hd hxa;repeat(refine A1 ⟨?_⟩;intros)
  refine Wdo (cR (cs':=ppx x) rfl mmA (by first|exact hatx|(rw [Nat.zero_add];exact hatx)) rfl) ?_;repeat(refine A1 ⟨?_⟩;intros)
  refine Wdo (cR (cs':=ppx a) rfl mmA (by rw [hk'];exact hata) rfl) ?_;repeat(first|(refine A1 ⟨?_⟩;intros)|(refine Wo (cC rfl cx rfl) ?_)|(refine Wdo (cC rfl cx rfl) ?_)|(refine Wog (cC rfl cx rfl) ?_)|(refine cL (cC rfl cx rfl) ?_))
  exact hgo _ _ lfA Sr
 subst hxa;rw [decide_eq_true rfl]at cx;have hI:=CpI.first hk1 hd hga hgx;clear hK hd;repeat(refine A1 ⟨?_⟩;intros)
 refine Wdo (cR (cs':=ppx x) rfl mmA (by first|exact hatx|(rw [Nat.zero_add];exact hatx)) rfl) ?_;repeat(refine A1 ⟨?_⟩;intros)
 refine Wdo (cR (cs':=ppx x) rfl mmA (by rw [hk'];exact hata) rfl) ?_;repeat(first|(refine A1 ⟨?_⟩;intros)|(refine Wo (cC rfl cx rfl) ?_)|(refine Wdo (cC rfl cx rfl) ?_)|(refine Wog (cC rfl cx rfl) ?_)|(refine cL (cC rfl cx rfl) ?_))
 refine Wo (zj k rfl rfl rfl om om) ?_;repeat(refine A1 ⟨?_⟩;intros)
 clear hatx hata hgx hga cx hk'
 refine WP.loopS (ι:=List Pq×Nat×Nat) (fun y=>CpI l y.1 y.2.1 (k+y.2.2)∧1≤y.2.2) (fun y=>l.length-(k+y.2.2)) (fun y=>fm [(0,lit (.slice (some ⟨b,0,none⟩) l.length c)),(1,lit (Ih g)),(5,lit (.int .i64 (y.2.1:Nat))),(6,lit (.slice (some ⟨b,k*6,none⟩) (l.length-k) (c-k))),(7,lit (.int .i64 (y.2.2:Nat)))]) (fun y=>[(b,94,(y.1.map ppx).flatten++tl)]) (l,k,1)
  ⟨hI,Nat.le_refl _⟩ lfA Sr ?_
 clear hI;rintro ⟨A,kk,i⟩ ⟨hI,hi1⟩ K hK;simp only at hI hi1⊢;have hAl:=hI.len;have hkj:=hI.kj;by_cases hlt2:k+i<l.length
 case neg =>
  have hje:k+i=l.length:=by have:=hI.jn;omega
  have hkept:=hI.kept;rw [hje,List.take_length]at hkept;have hkl2:(dd l).length=kk:=by rw [←hkept,List.length_take];omega
  have hl1:(((A.take kk).map ppx).flatten).length=kk*6:=by rw [bk et,List.length_take];congr 1;omega
  have hl2:(((A.drop kk).map ppx).flatten).length=(l.length-kk)*6:=by rw [bk et,List.length_drop,hAl]
  have hcl:spl ((A.map ppx).flatten++tl) (kk*6) (List.replicate ((l.length-kk)*6) top)=((A.take kk).map ppx).flatten++List.replicate ((l.length-kk)*6) top++tl:=by
   have e:(A.map ppx).flatten=((A.take kk).map ppx).flatten++((A.drop kk).map ppx).flatten:=by
    rw [←List.flatten_append,←List.map_append,List.take_append_drop]
   rw [e,←hl1,←hl2];exact C5 _ _ _
  have hle2:kk*6+(l.length-kk)*6≤((A.map ppx).flatten++tl).length:=by rw [List.length_append,bk et,hAl];omega
  have hfin:Own 94 6 (dd l).length ((dd l).map ppx).flatten (lit (.slice (some ⟨b,0,none⟩) kk c)) [(b,94,((A.take kk).map ppx).flatten++List.replicate ((l.length-kk)*6) top++tl)]:=by
   refine⟨bk et _, .inr ⟨b,c,om,h2,by rw [hkl2],?_⟩⟩;have e6:(l.length-kk)*6+(c*6-l.length*6)=c*6-kk*6:=by omega
   rw [hkept,hkl2,List.append_assoc,←htl,List.replicate_append_replicate,e6]
  clear hK hkept hl1 hl2 hkl2 hI he;repeat(refine A1 ⟨?_⟩;intros)
  refine Wo (zj kk rfl rfl rfl om om) ?_;repeat(refine A1 ⟨?_⟩;intros)
  refine WPL.clearL rfl om (.here _) hcl hle2 ?_;repeat(refine A1 ⟨?_⟩;intros)
  refine Wo (Fm kk rfl rfl rfl om) ?_;repeat(refine A1 ⟨?_⟩;intros)
  exact eL _ _ (ax (RV.tmp rfl) Lr) Sr hfin
 have hgx:=List.getElem?_eq_getElem hlt2;have hga:=List.getElem?_eq_getElem (show k+i-1<l.length by omega);generalize l[k+i]=y at hgx;generalize l[k+i-1]=a at hga;have cx:=he y (List.mem_of_getElem? hgx) a (List.mem_of_getElem? hga);have hatx:=A7 ((hI.at (i:=k+i) om).trans hgx) tl;have hata:=A7 ((hI.at (i:=k+i-1) om).trans hga) tl;rw [Nat.add_mul]at hatx;rw [show(k+i-1)*6=k*6+(i-1)*6 by omega]at hata;have hi':((i:Int)-1).toNat=i-1:=by omega
 by_cases hya:y=a
 ·subst hya;have hgo:=fun F' H'=>hK F' H' (A,kk,i+1) ⟨hI.same hga hgx,by simp only;omega⟩ (by simp only;omega)
  simp only at hgo;rw [decide_eq_true rfl]at cx;clear hK hI he;repeat(refine A1 ⟨?_⟩;intros)
  refine Wdo (cR (cs':=ppx y) rfl mmA (by first|exact hatx|(rw [Nat.zero_add];exact hatx)) rfl) ?_;repeat(refine A1 ⟨?_⟩;intros)
  refine Wdo (cR (cs':=ppx y) rfl mmA (by rw [hi'];exact hata) rfl) ?_;repeat(first|(refine A1 ⟨?_⟩;intros)|(refine Wo (cC rfl cx rfl) ?_)|(refine Wdo (cC rfl cx rfl) ?_)|(refine Wog (cC rfl cx rfl) ?_)|(refine cL (cC rfl cx rfl) ?_))
  exact hgo _ _ lfA Sr
 ·have hgo:=fun F' H'=>hK F' H' (A.set kk y,kk+1,i+1) ⟨hI.keep hga hgx hya,by simp only;omega⟩ (by simp only;omega)
  simp only at hgo;rw [←Ht y om tl,←Nat.zero_add (kk*6)]at hgo
  have hble:Nat.ble (0+kk*6+6) ((A.map ppx).flatten++tl).length=true:=by
   apply Nat.ble_eq_true_of_le;rw [List.length_append,bk et,hAl];have:(kk+1)*6≤l.length*6:=Nat.mul_le_mul_right _ om;omega
  rw [decide_eq_false hya]at cx;clear hK hI he hya;repeat(refine A1 ⟨?_⟩;intros)
  refine Wdo (cR (cs':=ppx y) rfl mmA (by first|exact hatx|(rw [Nat.zero_add];exact hatx)) rfl) ?_;repeat(refine A1 ⟨?_⟩;intros)
  refine Wdo (cR (cs':=ppx a) rfl mmA (by rw [hi'];exact hata) rfl) ?_;repeat(first|(refine A1 ⟨?_⟩;intros)|(refine Wo (cC rfl cx rfl) ?_)|(refine Wdo (cC rfl cx rfl) ?_)|(refine Wog (cC rfl cx rfl) ?_)|(refine cL (cC rfl cx rfl) ?_))
  refine Wo (cR (cs':=ppx y) rfl mmA (by first|exact hatx|(rw [Nat.zero_add];exact hatx)) rfl) ?_;repeat(refine A1 ⟨?_⟩;intros)
  refine WPL.store (sv:=ag (ppx y)) rfl rfl rfl (.here _) rfl hble ?_;repeat(refine A1 ⟨?_⟩;intros)
  exact hgo _ _ lfA Sr
theorem e0r:r0 (0:Rat)=0:=by decide +kernel
theorem e1r:r1 (0:Rat)=0:=by decide +kernel
theorem e2r:r2 (0:Rat)=lit (.pointer none):=if_pos (by decide +kernel)
def nH (c:PC):Bool:=c.all (fun s => !s.2.nl && !s.2.nh)&&decide (0<c.length)
def gj:Tr→PC→List (PC×Bool)
 | .leaf i,c=>[(c,i)]
 | .node l a b,c=>(if(fA (eE l) c l).2 then gj a (fA (eE l) c l).1 else [])++(if(fA (eE l.neg) c l.neg).2 then gj b (fA (eE l.neg) c l.neg).1 else [])
theorem Ei (u:Pq):fE u u=0:=by
 unfold fE;rw [if_neg (by simp),dR];rfl
theorem wY {u v:Pq}(hu:pb u) (hv:pb v):fE u v=0↔u=v:=by
 constructor
 ·intro h;refine rh hu hv (fun k=>?_) fun k=>?_
  ·have:=(rH hu.1 hv.1).2 k;omega
  ·unfold fE at h;rw [kL hu.1,kL hv.1]at h;unfold lta at k;rcases k with⟨k1,k2⟩|⟨k1,k2⟩
   ·rw [if_neg k2,if_pos k1]at h;simp at h
   ·have hc:a7 u v<0:=by rw [bn];grind
    have:=(cH (x:=a7 u v)).2 hc;by_cases x:up u
    ·rw [if_pos x,if_pos (k1.2 x)]at h;simp only [ne_eq,not_true,if_false]at h;omega
    ·rw [if_neg x,if_neg (fun y=>x (k1.1 y))]at h;simp only [ne_eq,not_true,if_false]at h;omega
 ·rintro rfl;exact Ei _
abbrev Dr3 (N:Nat):Type:={p:Pq // pb p∧hp p N}
theorem GJ (N:Nat):Go.Sort.SWO (Go.Proofs.ltOf fun x y:Dr3 N=>fE x.1 y.1):=by
 have e:∀x y:Dr3 N,Go.Proofs.ltOf (fun x y:Dr3 N=>fE x.1 y.1) x y=true↔lta x.1 y.1:=fun x y=>by
  unfold Go.Proofs.ltOf;rw [decide_eq_true_iff,rH x.2.1.1 y.2.1.1]
 have e2:∀x y:Dr3 N,Go.Proofs.ltOf (fun x y:Dr3 N=>fE x.1 y.1) x y=false↔¬lta x.1 y.1:=fun x y=>by rw [←e,Bool.not_eq_true]
 refine⟨fun x=>?_,fun x y z h k=>?_,fun x y z h k=>?_⟩
 ·rw [e2];exact fun h=>aU h h
 ·rw [e]at *;exact kJ x.2.1.1 y.2.1.1 z.2.1.1 h k
 ·rw [e2]at *;intro c
  have tri:∀a b:Dr3 N,¬lta a.1 b.1→b.1=a.1∨lta b.1 a.1:=fun a b h=>by
   by_cases g:lta b.1 a.1
   ·exact .inr g
   ·exact .inl (rh b.2.1 a.2.1 g h)
  rcases tri x y h with p|p
  ·rcases tri y z k with r|r
   ·rw [r,p]at c;exact aU c c
   ·rw [p]at r;exact aU c r
  ·rcases tri y z k with r|r
   ·rw [r]at c;exact aU c p
   ·exact aU c (kJ z.2.1.1 y.2.1.1 x.2.1.1 r p)
theorem F6 (v:Pq) (h:hp v 100000):Pu Tryz.prog 188 [ppq v] (ppq (ck v)):=by
 obtain⟨x,y⟩:=v;obtain⟨h1,h2⟩:=h;simp only at h1 h2;have k1:=np x y;have k2:=ly (bP x y);have c1:=k9 x y om om;have c2:=ya (bP x y) om;have c3:=iP x y (bP x y)⁻¹ om om om;show Pu _ _ _ (pp (x*(bP x y)⁻¹) (y*(bP x y)⁻¹))
 simp only [ppq];clear k1 k2 h1 h2;generalize x*(bP x y)⁻¹=x' at *;generalize y*(bP x y)⁻¹=y' at *;generalize(bP x y)⁻¹=i at *;generalize bP x y=g at *;refine Pi Tryz.func188 fun C=>?_
 repeat(first|(refine A1 ⟨?_⟩;intros)|refine W4 c1 ⟨?_⟩|refine W4 c2 ⟨?_⟩|refine W4 c3 ⟨?_⟩)
 exact G1
theorem z8 {l:Li}{L:Nat}(h:l.le L) (h1:1≤L):hp (ck (dirL l)) (3*L+3)∧hp (ngP (ck (dirL l))) (3*L+3):=by
 obtain⟨a1,a2,_⟩:=h.hts h1;have n1:ht (-(l.a:Rat))≤L:=by rw [cN];exact a1
 have k1:=np (dirL l).1 (dirL l).2;have k2:=ly (bP (dirL l).1 (dirL l).2);have k3:=af (dirL l).1 (bP (dirL l).1 (dirL l).2)⁻¹;have k4:=af (dirL l).2 (bP (dirL l).1 (dirL l).2)⁻¹;have e1:ht (dirL l).1≤L:=a2;have e2:ht (dirL l).2≤L:=n1;have g1:ht (ck (dirL l)).1≤3*L+3:=by show ht ((dirL l).1*_)≤_;omega
 have g2:ht (ck (dirL l)).2≤3*L+3:=by show ht ((dirL l).2*_)≤_;omega
 exact⟨⟨g1,g2⟩,by show ht (-(ck (dirL l)).1)≤_;rw [cN];exact g1,by show ht (-(ck (dirL l)).2)≤_;rw [cN];exact g2⟩
theorem mI:∀(t:Tr) (p:Pq),(dB t p).length≤2*cU t
 | .leaf _,_=>Nat.le_refl _
 | .node l a b,p=>by
  have ha:=mI a p;have hb:=mI b p;have hs:cU (.node l a b)=1+cU a+cU b:=rfl;unfold dB;rw [List.length_append,List.length_append,hs];have e1:(if a6 l p=0 then [ck (dirL l),ngP (ck (dirL l))]else []).length≤2:=by split <;> simp
  have e2:(if 0≤a6 l p then dB a p else []).length≤2*cU a:=by split <;> simp [ha]
  have e3:(if a6 l p≤0 then dB b p else []).length≤2*cU b:=by split <;> simp [hb]
  omega
theorem mJ {L:Nat}(h1:1≤L):∀(t:Tr) (p:Pq),(t.all fun l=>l.ok∧l.le L)→∀e∈dB t p,pb e∧hp e (3*L+3)
 | .leaf _,_,_,e,he=>by unfold dB at he;cases he
 | .node l a b,p,h,e,he=>by
  unfold dB at he;rcases List.mem_append.1 he with he|he
  ·split at he
   ·have hp1:=yZ (rg h.1.1);obtain⟨g1,g2⟩:=z8 h.1.2 h1;rcases List.mem_cons.1 he with rfl|he
    ·exact⟨hp1,g1⟩
    ·rw [List.mem_singleton.1 he];exact⟨H7 hp1,g2⟩
   ·cases he
  ·rcases List.mem_append.1 he with he|he
   ·split at he
    ·exact mJ h1 a p h.2.1 e he
    ·cases he
   ·split at he
    ·exact mJ h1 b p h.2.2 e he
    ·cases he
theorem yn:∀{l:List Pq}{e:Pq},e∈dd l→e∈l
 | [],_,h=>h
 | [_],_,h=>h
 |a::b::l,e,h=>by
  unfold dd at h;split at h
  ·exact Mc (yn h)
  ·rcases List.mem_cons.1 h with rfl|h
   ·exact Ms
   ·exact Mc (yn h)
abbrev pa:TypeId:=94
theorem nU (x:Rat):(x=0∧x.num.sign=0)∨(0<x∧x.num.sign=1)∨(x<0∧x.num.sign = -1):=by
 rcases(by grind:x=0∨0<x∨x<0)with h|h|h
 ·exact .inl ⟨h,by rw [h];rfl⟩
 ·refine .inr (.inl ⟨h,?_⟩);have h1:=bd.2 h
  have:=Int.sign_eq_one_of_pos (a:=x.num) (by
   rcases(by omega:0<x.num∨x.num=0∨x.num<0)with c|c|c
   ·exact c
   ·rw [c]at h1;simp at h1
   ·have:=Int.sign_eq_neg_one_of_neg c;omega)
  exact this
 ·refine .inr (.inr ⟨h,?_⟩);have h1:=cH.2 h
  exact Int.sign_eq_neg_one_of_neg (by
   rcases(by omega:0<x.num∨x.num=0∨x.num<0)with c|c|c
   ·have:=Int.sign_eq_one_of_pos c;omega
   ·rw [c]at h1;simp at h1
   ·exact c)
theorem tQ {L:Nat}(h1:1≤L) (hU:L≤500){p:Pq}(hp0:hp p 100000):∀(t:Tr),(t.all fun l=>l.ok∧l.le L)→∀(n0:Nat) (cs:List SV) (s:SV) (Hs:LH),Own pa 6 n0 cs s Hs→n0+2*cU t≤100000000→
  PuH Tryz.prog 129 [bt t,ppq p,s] Hs (fun r H'=>Own pa 6 (n0+(dB t p).length) (cs++((dB t p).map ppx).flatten) r H') noX
 | .leaf i,_,n0,cs,s,Hs,hown,hn=>by
  have d1:=io i;have hco:=hown.co;show PuH _ _ _ _ (fun r H'=>Own pa 6 (n0+0) (cs++[]) r H') noX
  rw [List.append_nil,Nat.add_zero];simp only [bt,nI]at d1⊢;refine PuH.intro Tryz.func129 rfl kr fun C hC=>?_
  repeat(first|(refine Wo (aF (sv:=ag _) rfl) ?_)|(refine Wdo (aF (sv:=ag _) rfl) ?_)|(refine A1 ⟨?_⟩;intros)|refine W4 d1 ⟨?_⟩)
  exact eL _ _ (ax (RV.tmp rfl) Lr) Sr hown
 | .node l a b,hall,n0,cs,s,Hs,hown,hn=>by
  have hs:cU (.node l a b)=1+cU a+cU b:=rfl;have d1:=ik l a b;have d2:=wn hall.1.2 h1 om hp0;have d3:=Gh l (hall.1.2.gr om)
  have d4:=F6 (dirL l) (by
   obtain⟨a1,a2,_⟩:=hall.1.2.hts h1;exact⟨by show ht (l.b:Rat)≤_;omega,by show ht (-(l.a:Rat))≤_;rw [cN];omega⟩)
  obtain⟨g1,_⟩:=z8 hall.1.2 h1;have d5:=ze (ck (dirL l)).1 (ck (dirL l)).2 (by have:=g1.1;omega) (by have:=g1.2;omega);have ia:=tQ h1 hU hp0 a hall.2.1;have ib:=tQ h1 hU hp0 b hall.2.2;have la:=mI a p;have hco:=hown.co;have en:bt (.node l a b)=pt (bc (.node l a b)):=rfl;rw [en,kS]at d1⊢;unfold dB;have hsd:cM l p=(a6 l p).num.sign:=rfl;have en2:(-(ck (dirL l)).1,-(ck (dirL l)).2)=ngP (ck (dirL l)):=rfl;rw [hsd]at d2;clear en hall g1 hsd;rcases nU (a6 l p)with⟨hv,hz⟩|⟨hv,hz⟩|⟨hv,hz⟩
  ·rw [if_pos hv,if_pos (by grind),if_pos (by grind)];rw [hz]at d2;clear hv hz;generalize ck (dirL l)=d at *;generalize dirL l=dl at *;have i1:=ia (n0+2) (cs++(ppx d++ppx (ngP d)));refine PuH.intro Tryz.func129 rfl kr fun C hC=>?_
   repeat(first|(refine AS ⟨?_⟩;intros)|(refine O1 ⟨?_⟩;intros)|(refine Wcx (d1) ?_)|(refine dq (d1) ?_))
   refine WdN 5 ?_;repeat(refine A1 ⟨?_⟩;intros)
   repeat(first|(refine AS ⟨?_⟩;intros)|(refine O1 ⟨?_⟩;intros)|(refine Wcx (d2) ?_)|(refine dq (d2) ?_)|(refine Wcx (d3) ?_)|(refine dq (d3) ?_)|(refine Wcx (d4) ?_)|(refine dq (d4) ?_))
   refine WdN 5 ?_;repeat(first|(refine Wo (bs (r:=[(0,ppx d),(1,ppx (ngP d))]) (cs:=ppx d++ppx (ngP d)) (.cons (sv:=ag (ppx d)) rfl inferInstance (.cons (sv:=ag (ppx (ngP d))) rfl inferInstance .nil))) ?_)|(refine Wdo (bs (r:=[(0,ppx d),(1,ppx (ngP d))]) (cs:=ppx d++ppx (ngP d)) (.cons (sv:=ag (ppx d)) rfl inferInstance (.cons (sv:=ag (ppx (ngP d))) rfl inferInstance .nil))) ?_)|(refine A1 ⟨?_⟩;intros)|refine W4 d5 ⟨?_⟩)
   refine WPL.perm (List.perm_append_comm (l₁:=[_,_])) ?_;refine WPL.appOwnK hown rfl rfl (Spl.app _ _) rfl (by decide) om (by decide) (fun s2 H2 own2=>?_) rfl;have hco2:=own2.co;replace i1:=i1 s2 H2 own2 om;clear own2 hown ia;refine WPL.perm List.perm_append_comm ?_;simp only [List.cons_append,List.nil_append];repeat(first|(refine AS ⟨?_⟩;intros)|(refine O1 ⟨?_⟩;intros))
   refine WdN 6 ?_;repeat(refine A1 ⟨?_⟩;intros)
   refine WfT i1 ?_;intro s3 H3 own3;have hco3:=own3.co;have i2:=ib _ _ s3 H3 own3 om;clear own3 ib i1;simp only [List.cons_append,List.nil_append];repeat(first|(refine AS ⟨?_⟩;intros)|(refine O1 ⟨?_⟩;intros))
   refine WdN 6 ?_;repeat(refine A1 ⟨?_⟩;intros)
   refine WfT i2 ?_;intro s4 H4 own4;have hco4:=own4.co
   have e:n0+(d::ngP d::(dB a p++dB b p)).length=n0+2+(dB a p).length+(dB b p).length:=by
    rw [List.length_cons,List.length_cons,List.length_append];omega
   have e2:cs++((d::ngP d::(dB a p++dB b p)).map ppx).flatten=cs++(ppx d++ppx (ngP d))++((dB a p).map ppx).flatten++((dB b p).map ppx).flatten:=by
    rw [List.map_cons,List.map_cons,List.map_append,List.flatten_cons,List.flatten_cons,List.flatten_append];simp only [List.append_assoc]
   rw [←e,←e2]at own4;simp only [List.cons_append,List.nil_append];repeat(refine A1 ⟨?_⟩;intros)
   exact eL _ _ (ax (RV.tmp rfl) Lr) ((Sr).cons _ |>.cons _) own4
  ·rw [if_neg (by grind),if_pos (by grind),if_neg (by grind),List.nil_append,List.append_nil];rw [hz]at d2;have i1:=ia n0 cs s Hs hown om;clear hv hz ia ib hown;refine PuH.intro Tryz.func129 rfl kr fun C hC=>?_
   repeat(first|(refine AS ⟨?_⟩;intros)|(refine O1 ⟨?_⟩;intros)|(refine Wcx (d1) ?_)|(refine dq (d1) ?_))
   refine WdN 5 ?_;repeat(refine A1 ⟨?_⟩;intros)
   repeat(first|(refine AS ⟨?_⟩;intros)|(refine O1 ⟨?_⟩;intros)|(refine Wcx (d2) ?_)|(refine dq (d2) ?_))
   refine WdN 6 ?_;repeat(refine A1 ⟨?_⟩;intros)
   refine WfT i1 ?_;intro r2 H2 hown2;have hco2:=hown2.co;simp only [List.cons_append,List.nil_append];repeat(refine A1 ⟨?_⟩;intros)
   exact eL _ _ (ax (RV.tmp rfl) Lr) (by repeat(first|exact Sr|refine Sc ?_)) hown2
  ·rw [if_neg (by grind),if_neg (by grind),if_pos (by grind),List.nil_append,List.nil_append];rw [hz]at d2;have i1:=ib n0 cs s Hs hown om;clear hv hz ia ib hown;refine PuH.intro Tryz.func129 rfl kr fun C hC=>?_
   repeat(first|(refine AS ⟨?_⟩;intros)|(refine O1 ⟨?_⟩;intros)|(refine Wcx (d1) ?_)|(refine dq (d1) ?_))
   refine WdN 5 ?_;repeat(refine A1 ⟨?_⟩;intros)
   repeat(first|(refine AS ⟨?_⟩;intros)|(refine O1 ⟨?_⟩;intros)|(refine Wcx (d2) ?_)|(refine dq (d2) ?_))
   refine WdN 6 ?_;repeat(refine A1 ⟨?_⟩;intros)
   refine WfT i1 ?_;intro r2 H2 hown2;have hco2:=hown2.co;simp only [List.cons_append,List.nil_append];repeat(refine A1 ⟨?_⟩;intros)
   exact eL _ _ (ax (RV.tmp rfl) Lr) (by repeat(first|exact Sr|refine Sc ?_)) hown2
theorem DT {N:Nat}(hN:N≤400000) (u v:Dr3 N):Pu Tryz.prog 185 [ppq u.1,ppq v.1] (lit (.bool (decide (u.1=v.1)))):=by
 have c:=sH u.1 v.1 ⟨Nat.le_trans u.2.2.1 hN,Nat.le_trans u.2.2.2 hN⟩ ⟨Nat.le_trans v.2.2.1 hN,Nat.le_trans v.2.2.2 hN⟩;have hz:=wY u.2.1 v.2.1;generalize u.1=p at *;generalize v.1=q at *;by_cases h:p=q
 ·rw [decide_eq_true h];rw [hz.2 h]at c;refine Pi Tryz.func185 fun C=>?_
  repeat(first|(refine Wo (aF (sv:=ag _) rfl) ?_)|(refine Wdo (aF (sv:=ag _) rfl) ?_)|(refine A1 ⟨?_⟩;intros)|refine W4 c ⟨?_⟩)
  exact E1
 ·rw [decide_eq_false h];have hn:=fun e=>h (hz.1 e)
  clear hz h;generalize fE p q=z at *;refine Pi Tryz.func185 fun C=>?_
  repeat(first|(refine Wo (aF (sv:=ag _) rfl) ?_)|(refine Wdo (aF (sv:=ag _) rfl) ?_)|(refine A1 ⟨?_⟩;intros)|refine W4 c ⟨?_⟩)
  exact E1
def Ep (l D:List Pq):Prop:=∃l':List Pq,l'.Perm l∧l'.Pairwise (fun a b=>¬fE b a<0)∧D=nC (fun u v=>decide (fE u v=0)) l'
theorem rT {N:Nat}(hN:N≤400000) (l:List Pq) (hl:l.length≤1000000) (hp0:∀e∈l,pb e∧hp e N){s:SV}{Hs:LH}(hown:Own pa 6 l.length (l.map ppx).flatten s Hs) :
  PuH Tryz.prog 128 [s] Hs (fun r H'=>∃D,Ep l D∧D.length≤l.length∧(∀e∈D,e∈l)∧Own pa 6 D.length (D.map ppx).flatten r H') noX:=by
 obtain⟨x,rfl⟩:∃x:List (Dr3 N),x.map (·.1)=l:=⟨l.attach.map fun e=>⟨e.1,hp0 e.1 e.2⟩,by rw [List.map_map];exact List.attach_map_subtype_val l⟩
 rw [List.length_map]at hl;have hco:=hown.co
 have hown1:Own pa 6 x.length (x.map fun e:Dr3 N=>ppx e.1).flatten s Hs:=by
  rw [List.length_map,List.map_map]at hown;exact hown
 have c1:=C9 (P:=Tryz.prog) EK (T:=pa) (k:=6) (fun w=>Tryz.isAgg94 w) (fun w=>Tryz.sizeOf94 w) (fun e:Dr3 N=>ppx e.1) (fun _=>rfl) (fun u v=>fE u.1 v.1) (GJ N) (g:=183) (fun u v=>sH u.1 v.1 ⟨Nat.le_trans u.2.2.1 hN,Nat.le_trans u.2.2.2 hN⟩ ⟨Nat.le_trans v.2.2.1 hN,Nat.le_trans v.2.2.2 hN⟩) kr kr x hown1 om
 have c2:=fun(x':List (Dr3 N)) (hx:x'.Perm x) Hs' (h:Own pa 6 x'.length (x'.map fun e:Dr3 N=>ppx e.1).flatten s Hs')=>yq (g:=185) (x'.map (·.1)) (fun u hu v hv=>by
  obtain⟨a,_,rfl⟩:=List.mem_map.1 hu;obtain⟨b,_,rfl⟩:=List.mem_map.1 hv;exact DT hN a b) (by rw [List.length_map,hx.length_eq];omega) (s:=s) (Hs:=Hs') (by rw [List.length_map,List.map_map];exact h)
 clear hown hown1;refine PuH.intro Tryz.func128 rfl kr fun C hC=>?_
 repeat(refine A1 ⟨?_⟩;intros)
 refine WfT c1 ?_;rintro r1 H1 ⟨x',h1,h2,own1⟩;have hco1:=own1.co;simp only [List.nil_append];repeat(refine A1 ⟨?_⟩;intros)
 refine WfT (c2 x' h1 H1 own1) ?_;intro r2 H2 own2;have hco2:=own2.co;simp only [List.nil_append]
 have hdd:nC (fun u v=>decide (fE u v=0)) (x'.map (·.1))=dd (x'.map (·.1)):=uS _ _ _ (Nat.le_refl _) fun a ha b hb=>by
  obtain⟨u,_,rfl⟩:=List.mem_map.1 ha;obtain⟨v,_,rfl⟩:=List.mem_map.1 hb;rw [decide_eq_true_iff,wY v.2.1 u.2.1];exact⟨fun e=>e.symm,fun e=>e.symm⟩
 have hpm:(x'.map (·.1)).Perm (x.map (·.1)):=h1.map _
 have hfin:∃D,Ep (x.map (·.1)) D∧D.length≤(x.map (·.1)).length∧(∀e∈D,e∈x.map (·.1))∧D=dd (x'.map (·.1)) :=
  ⟨_,⟨x'.map (·.1),hpm,List.pairwise_map.2 h2,rfl⟩,by rw [hdd,←hpm.length_eq];exact DW _,fun e he=>hpm.mem_iff.1 (yn (hdd▸he)),hdd⟩
 obtain⟨D,f1,f2,f3,f4⟩:=hfin;rw [←f4]at own2;repeat(refine A1 ⟨?_⟩;intros)
 exact eL _ _ (ax (RV.tmp rfl) Lr) Sr ⟨D,f1,f2,f3,own2⟩
theorem zV (l m:Li):a7 (dirL l) (dirL m)=slp m l:=sf m l
theorem zL {c:PC}(h:dH c){s:Fg}(hs:s∈c) (hh:s.2.nh=false):(∃m∈aa c,a6 m (atL s.1 s.2.hi)=0∧0<a7 (dirL s.1) (dirL m))∧∀j∈aa c,0≤a6 j (atL s.1 s.2.hi):=by
 obtain⟨sp,t0,ht0⟩:=h.span s hs;have hso:=h.ok s hs
 have t0h:t0<s.2.hi:=by
  rcases ht0.2 with r|r
  ·rw [hh]at r;cases r
  ·exact r
 have f0:=(sp t0).1 ht0
 have nn:∀j∈aa c,j≠s.1→0≤a6 j (atL s.1 s.2.hi):=fun j hj hne=>by
  apply Classical.byContradiction;intro cn;have a0:=f0 j hj hne;rw [aR]at a0 cn
  have fz:∀z,InS s.2 z→0<a6 j (aV s.1)+z*slp s.1 j:=fun z k=>by
   have:=(sp z).1 k j hj hne;rwa [aR]at this
  clear hj hne;generalize a6 j (aV s.1)=A at *;generalize slp s.1 j=B at *
  have hB:B<0:=by
   apply Classical.byContradiction;intro c;have:=Rat.mul_nonneg (show 0≤s.2.hi-t0 by grind) (show 0≤B by grind);grind
  have e : -A/B*B = -A:=Rat.div_mul_cancel (by grind);generalize -A/B=z at e
  have z1:t0<z:=by
   apply Classical.byContradiction;intro c;have:=Rat.mul_nonneg (show 0≤t0-z by grind) (show 0≤-B by grind);grind
  have z2:z<s.2.hi:=by
   apply Classical.byContradiction;intro c;have:=Rat.mul_nonneg (show 0≤z-s.2.hi by grind) (show 0≤-B by grind);grind
  have hin:InS s.2 z:=⟨by
   rcases ht0.1 with r|r
   ·exact .inl r
   ·exact .inr (by grind), .inr z2⟩
  have:=fz z hin;grind
 refine⟨?_,fun j hj=>?_⟩
 ·have hni:¬InS s.2 s.2.hi:=fun k=>by
   rcases k.2 with r|r
   ·rw [hh]at r;cases r
   ·grind
  obtain⟨m,hm,hne,hle⟩:∃m∈aa c,m≠s.1∧¬0<a6 m (atL s.1 s.2.hi):=by
   apply Classical.byContradiction;intro k;refine hni ((sp _).2 fun m hm hne=>?_);apply Classical.byContradiction;intro k2;exact k ⟨m,hm,hne,k2⟩
  have z:=nn m hm hne;have z0:a6 m (atL s.1 s.2.hi)=0:=by grind
  refine⟨m,hm,z0,?_⟩;rw [bn,zV];have a0:=f0 m hm hne;rw [aR]at a0 z0;apply Classical.byContradiction;intro k;have:=Rat.mul_nonneg (show 0≤s.2.hi-t0 by grind) (show 0≤slp s.1 m by grind);grind
 ·by_cases e:j=s.1
  ·rw [e,fH hso];grind
  ·exact nn j hj e
theorem EE {u m j:Li}{P:Pq}(hu:a6 u P=0) (hm:a6 m P=0) (q:Pq):a7 (dirL u) (dirL m)*(a6 j q-a6 j P)=a7 (dirL j) (dirL m)*a6 u q+a7 (dirL u) (dirL j)*a6 m q:=by
 have e1:a6 u q=a6 u q-a6 u P:=by grind
 have e2:a6 m q=a6 m q-a6 m P:=by grind
 rw [e1,e2];unfold a7 dirL a6;simp only;grind
theorem BK {c:PC}(h:dH c){u m:Li}(hu:u∈aa c) (hm:m∈aa c){P:Pq}(u0:a6 u P=0) (m0:a6 m P=0) (K:0<a7 (dirL u) (dirL m)) (hP:∀j∈aa c,0≤a6 j P){j:Li}(hj:j∈aa c) (ju:j≠u) (jm:j≠m):0<a6 j P:=by
 apply Classical.byContradiction;intro cn;have j0:a6 j P=0:=by have:=hP j hj;grind
 have um:u≠m:=fun e=>by rw [e,dR]at K;grind
 obtain⟨ru,a0,a1⟩:=h.edg hu;obtain⟨rm,b0,b1⟩:=h.edg hm;obtain⟨rj,c0,c1⟩:=h.edg hj;have t1:=EE (j:=j) u0 m0 ru;have t2:=EE (j:=j) u0 m0 rm;have t3:=EE (j:=j) u0 m0 rj;have p1:=a1 m hm fun e=>um e.symm
 have p2:=a1 j hj ju;have p3:=b1 u hu um;have p4:=b1 j hj jm;have p5:=c1 u hu fun e=>ju e.symm
 have p6:=c1 m hm fun e=>jm e.symm
 rw [j0,a0]at t1;rw [j0,b0]at t2;rw [j0,c0]at t3;generalize a7 (dirL u) (dirL m)=k at *;generalize a7 (dirL j) (dirL m)=x at *;generalize a7 (dirL u) (dirL j)=y at *;have y1:0<y:=ef (a:=a6 m ru) (by have:=Rat.mul_pos K p2;grind) (by grind);have x1:0<x:=ef (a:=a6 u rm) (by have:=Rat.mul_pos K p4;grind) (by grind);have:=Rat.mul_pos x1 p5;have:=Rat.mul_pos y1 p6;grind
theorem Ae {c:PC}(h:dH c){u m:Li}(hu:u∈aa c) (hm:m∈aa c){P:Pq}(u0:a6 u P=0) (m0:a6 m P=0) (K:0<a7 (dirL u) (dirL m)) (hP:∀j∈aa c,0≤a6 j P){e:Li}(he:e∈aa c) (k1:0<a7 (dirL u) (dirL e)) (k2:0<a7 (dirL e) (dirL m)):False:=by
 have eu:e≠u:=fun x=>by rw [x,dR]at k1;grind
 have em:e≠m:=fun x=>by rw [x,dR]at k2;grind
 obtain⟨r,r0,r1⟩:=h.edg he;have t:=EE (j:=e) u0 m0 r;have p1:=r1 u hu fun x=>eu x.symm
 have p2:=r1 m hm fun x=>em x.symm
 have p3:=hP e he;have q1:=Rat.mul_pos k2 p1;have q2:=Rat.mul_pos k1 p2;have q3:=Rat.mul_nonneg (show 0≤a7 (dirL u) (dirL m) by grind) p3;rw [r0]at t;grind
theorem IN {c:PC}(h:dH c){s s':Fg}(hs:s∈c) (hs':s'∈c) (hh:s.2.nh=false) (v0:a6 s'.1 (atL s.1 s.2.hi)=0) (K:0<a7 (dirL s.1) (dirL s'.1)):s'.2.nl=false∧atL s'.1 s'.2.lo=atL s.1 s.2.hi:=by
 have hso:=h.ok s hs;have hso':=h.ok s' hs';have ml:s.1∈aa c:=List.mem_map.2 ⟨s,hs,rfl⟩;have ml':s'.1∈aa c:=List.mem_map.2 ⟨s',hs',rfl⟩;obtain⟨_,hP⟩:=zL h hs hh;have hne:s.1≠s'.1:=fun e=>by rw [e,dR]at K;grind
 obtain⟨sp,_,_⟩:=h.span s' hs';have hat:=lR hso' v0;generalize bO s'.1 (atL s.1 s.2.hi)=t0 at hat;have sl:0<slp s'.1 s.1:=by rw [←zV];exact K
 have fs:∀t,a6 s.1 (atL s'.1 t)=(t-t0)*slp s'.1 s.1:=fun t=>by
  have e0:a6 s.1 (atL s'.1 t0)=0:=by rw [hat];exact fH hso _
  rw [aR]at e0⊢;grind
 have not_in:∀t,t≤t0→¬InS s'.2 t:=fun t ht k=>by
  have:=(sp t).1 k s.1 ml hne;rw [fs]at this;have:=Rat.mul_nonneg (show 0≤t0-t by grind) (show 0≤slp s'.1 s.1 by grind);grind
 obtain⟨e,e0,he⟩:=fo (fun j:Li=>a6 j (atL s'.1 t0)) (fun j=>slp s'.1 j) ((aa c).filter fun j=>decide (lN j s.1≠0∧lN j s'.1≠0)) fun j hj=>by
  obtain⟨j1,j2⟩:=List.mem_filter.1 hj;have j2:=of_decide_eq_true j2;rw [hat];exact BK h ml ml' (fH hso _) v0 K hP j1 (fun x=>j2.1 (eB.2 x)) (fun x=>j2.2 (eB.2 x))
 have is_in:∀t,t0<t→t≤t0+e→InS s'.2 t:=fun t h1 h2=>(sp t).2 fun j hj jn=>by
  by_cases x:j=s.1
  ·rw [x,fs];exact Rat.mul_pos (by grind) sl
  ·have:=he j (List.mem_filter.2 ⟨hj,decide_eq_true ⟨fun k=>x (eB.1 k),fun k=>jn (eB.1 k)⟩⟩) (t-t0) (by grind) (by grind);rw [aR]at this⊢;grind
 have i1:=is_in (t0+e) (by grind) (by grind)
 have hnl:s'.2.nl=false:=by
  cases hq:s'.2.nl with
  |false=>rfl
  |true =>
   refine absurd ⟨.inl hq,?_⟩ (not_in t0 (by grind));rcases i1.2 with r|r
   ·exact .inl r
   ·exact .inr (by grind)
 refine⟨hnl,?_⟩
 have lo_lt:∀t,t0<t→t≤t0+e→s'.2.lo<t:=fun t h1 h2=>by
  rcases(is_in t h1 h2).1 with r|r
  ·rw [hnl]at r;cases r
  ·exact r
 have lo_eq:s'.2.lo=t0:=by
  rcases(by grind:s'.2.lo<t0∨t0<s'.2.lo∨s'.2.lo=t0)with k|k|k
  ·refine absurd ⟨.inr k,?_⟩ (not_in t0 (by grind));rcases i1.2 with r|r
   ·exact .inl r
   ·exact .inr (by grind)
  ·exfalso;by_cases k2:s'.2.lo≤t0+e
   ·have:=lo_lt s'.2.lo k k2;grind
   ·have:=lo_lt (t0+e) (by grind) (by grind);grind
  ·exact k
 rw [lo_eq];exact hat
theorem EG {D:List Pq}(hs:D.Pairwise lta) (hz:∀e∈D,nz e){i:Nat}{u m:Pq}(hi:D[i]? = some u) (hm:m∈D) (K:0<a7 u m) (hn:∀e∈D,¬(0<a7 u e∧0<a7 e m)):D[(i+1)%D.length]? = some m:=by
 obtain⟨hil,rfl⟩:=List.getElem?_eq_some_iff.1 hi;obtain⟨j,hj,rfl⟩:=List.mem_iff_getElem.1 hm;have pw:=List.pairwise_iff_getElem.1 hs;have z:=fun {k:Nat}(hk:k<D.length)=>hz _ (List.getElem_mem hk)
 have nji:j≠i:=fun e=>by subst e;rw [dR]at K;grind
 have mid:∀{u w m:Pq},nz u→nz w→nz m→0<a7 u m→lta u w→lta w m→0<a7 u w∧0<a7 w m:=fun {u w m} nu nw nm k a b=>by
  have nmu:=l6 nu;have nmm:=l6 nm;by_cases uu:up u
  ·by_cases um:up m
   ·have uw:up w:=by
     rcases b with⟨x,_⟩|⟨x,_⟩
     ·exact x
     ·exact x.2 um
    constructor
    ·rcases a with⟨_,y⟩|⟨_,y⟩
     ·exact absurd uw y
     ·exact y
    ·rcases b with⟨_,y⟩|⟨_,y⟩
     ·exact absurd um y
     ·exact y
   ·by_cases uw:up w
    ·have c1:0<a7 u w:=by
      rcases a with⟨_,y⟩|⟨_,y⟩
      ·exact absurd uw y
      ·exact y
     have c2:=oH ((dM nm).2 um) uu uw (by rw [aX,bn];grind) c1;rw [aX,bn]at c2;exact⟨c1,by grind⟩
    ·have c1:0<a7 w m:=by
      rcases b with⟨y,_⟩|⟨_,y⟩
      ·exact absurd y uw
      ·exact y
     have c2:=rv nw nm nmu uw um (fun x=>(dM nu).1 x uu) c1 (by rw [aC,bn];grind);rw [aC,bn]at c2;exact⟨by grind,c1⟩
  ·have uw:¬up w:=fun x=>by
    rcases a with⟨y,_⟩|⟨y,_⟩
    ·exact uu y
    ·exact uu (y.2 x)
   have um:¬up m:=fun x=>by
    rcases b with⟨y,_⟩|⟨y,_⟩
    ·exact uw y
    ·exact uw (y.2 x)
   constructor
   ·rcases a with⟨y,_⟩|⟨_,y⟩
    ·exact absurd y uu
    ·exact y
   ·rcases b with⟨y,_⟩|⟨_,y⟩
    ·exact absurd y uw
    ·exact y
 have mid2:∀{u w m:Pq},nz u→nz w→nz m→0<a7 u m→lta m u→(lta u w∨lta w m)→0<a7 u w∧0<a7 w m:=fun {u w m} nu nw nm k a b=>by
  have nmu:=l6 nu;have nmm:=l6 nm
  have um:up m∧¬up u:=by
   rcases a with y|⟨_,y⟩
   ·exact y
   ·rw [bn]at y;grind
  rcases b with b|b
  ·have uw:¬up w:=fun x=>by
    rcases b with⟨y,_⟩|⟨y,_⟩
    ·exact um.2 y
    ·exact um.2 (y.2 x)
   have c1:0<a7 u w:=by
    rcases b with⟨y,_⟩|⟨_,y⟩
    ·exact absurd y um.2
    ·exact y
   have c2:=rv nmm nu nw (fun x=>(dM nm).1 x um.1) um.2 uw (by rw [aX,bn];grind) c1;rw [aX,bn]at c2;exact⟨c1,by grind⟩
  ·have uw:up w:=by
    rcases b with⟨y,_⟩|⟨y,_⟩
    ·exact y
    ·exact y.2 um.1
   have c1:0<a7 w m:=by
    rcases b with⟨_,y⟩|⟨_,y⟩
    ·exact absurd um.1 y
    ·exact y
   have c2:=oH uw um.1 ((dM nu).2 um.2) c1 (by rw [aC,bn];grind);rw [aC,bn]at c2;exact⟨by grind,c1⟩
 by_cases hl:i+1<D.length
 ·rw [Nat.mod_eq_of_lt hl,List.getElem?_eq_getElem hl];by_cases e:j=i+1
  ·subst e;rfl
  ·exfalso;have uw:=pw i (i+1) hil hl om;by_cases k:j<i
   ·exact hn _ (List.getElem_mem hl) (mid2 (z hil) (z hl) (z hj) K (pw j i hj hil k) (.inl uw))
   ·exact hn _ (List.getElem_mem hl) (mid (z hil) (z hl) (z hj) K uw (pw (i+1) j hl hj om))
 ·have hpos:0<D.length:=by omega
  rw [show(i+1)%D.length=0 from by rw [show i+1=D.length by omega,Nat.mod_self],List.getElem?_eq_getElem hpos];by_cases e:j=0
  ·subst e;rfl
  ·exfalso;exact hn _ (List.getElem_mem hpos) (mid2 (z hil) (z hpos) (z hj) K (pw j i hj hil om) (.inr (pw 0 j hpos hj om)))
theorem B2 {c:PC}(h:dH c) (ho:km c){i:Nat}{s:Fg}(hi:c[i]? = some s) (hh:s.2.nh=false):∃s',c[(i+1)%c.length]? = some s'∧a6 s'.1 (atL s.1 s.2.hi)=0∧0<a7 (dirL s.1) (dirL s'.1)∧s'.2.nl=false∧atL s'.1 s'.2.lo=atL s.1 s.2.hi:=by
 have hs:=List.mem_of_getElem? hi;have ml:s.1∈aa c:=List.mem_map.2 ⟨s,hs,rfl⟩;obtain⟨⟨m,hm,m0,K⟩,hP⟩:=zL h hs hh;obtain⟨s',hs',rfl⟩:=List.mem_map.1 hm
 have hnx:=EG ho (fun e he=>by
  obtain⟨x,hx,rfl⟩:=List.mem_map.1 he;exact sK (h.ok x hx)) (i:=i) (u:=lK s) (m:=lK s') (by rw [List.getElem?_map,hi];rfl) (List.mem_map.2 ⟨s',hs',rfl⟩) K (fun e he ⟨k1,k2⟩=>by
  obtain⟨x,hx,rfl⟩:=List.mem_map.1 he;exact Ae h ml hm (fH (h.ok s hs) _) m0 K hP (List.mem_map.2 ⟨x,hx,rfl⟩) k1 k2)
 rw [List.length_map,List.getElem?_map]at hnx;obtain⟨x,hx,hxe⟩:=Option.map_eq_some_iff.1 hnx
 have hxs:x=s':=by
  apply Classical.byContradiction;intro k;have hxm:=List.mem_of_getElem? hx
  have hne:x.1≠s'.1:=fun e=>k (by
   have nd:=h.nd;obtain⟨a,ha,ea⟩:=List.mem_iff_getElem.1 hxm;obtain⟨b,hb,eb⟩:=List.mem_iff_getElem.1 hs'
   have:(aa c)[a]'(by unfold aa;simpa using ha)=(aa c)[b]'(by unfold aa;simpa using hb):=by
    unfold aa;rw [List.getElem_map,List.getElem_map,ea,eb,e]
   have:=(List.getElem_inj nd).1 this;subst this;rw [←ea,←eb])
  rcases sh h (List.mem_map.2 ⟨x,hxm,rfl⟩) (List.mem_map.2 ⟨s',hs',rfl⟩) hne with q|q
  ·have q2:lta (lK x) (lK s'):=q;rw [hxe]at q2;exact aU q2 q2
  ·have q2:lta (lK s') (lK x):=q;rw [hxe]at q2;exact aU q2 q2
 subst hxs;obtain⟨n1,n2⟩:=IN h hs hs' hh m0 K;exact⟨x,hx,m0,K,n1,n2⟩
end Go.Ab
