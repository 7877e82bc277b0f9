/- Texts laid one behind the other: GwH, TmA, GwE. -/
import Derived.Test.YtnhepimaijhhaaaGreatDoorB28
set_option linter.all false
set_option maxHeartbeats 16000000
namespace Go.Ab
open Go.Proofs
variable [Base]
theorem Aq {a b:List SV}{k:Nat}(h:LeL a b):Le (sl a k) (sl b k):=fun m v hv=>by
 obtain⟨ad,cap,rfl,h1,h2,h3⟩:=cN hv;refine fj h1 h2 ?_;rcases h3 with rfl|⟨b',off,rfl,arr,T,fz,h4,h5⟩
 ·left;cases b with
  |nil=>rfl
  |cons _ _=>exact h.elim
 ·right
  have hlen:a.length=b.length:=by
   clear h4 h5 hv;induction a generalizing b with
   |nil=>cases b with
    |nil=>rfl
    |cons _ _=>exact h.elim
   |cons x a ih=>cases b with
    |nil=>exact h.elim
    |cons y b=>simp [ih h.2]
  exact⟨b',off,rfl,arr,T,fz,h4,by rw [←hlen];exact av.le h h5⟩
abbrev qT:TypeId:=101
abbrev sT:TypeId:=119
abbrev fT:TypeId:=121
theorem Own.one {T:TypeId}{sz b c:Nat}{cs:List SV}(h:cs.length=sz) (hc:1≤c) (hm:c≤maxLen) (hz:c=1):Own T sz 1 cs (lit (.slice (some ⟨b,0,none⟩) 1 c)) [(b,T,cs)]:=by
 subst hz;refine⟨om, .inr ⟨b,1,om,hm,rfl,?_⟩⟩;simp
theorem xU {a:Rat}{c:List Rat}:ed (a::c)=(a-1)::(List.zipWith iQ (a::c) c++[(a::c).getLast (by simp)+1]):=rfl
def prB (c:List Rat) (k:Nat):List Rat:=(c.getD 0 0-1)::(List.range (k-1)).map fun j=>iQ (c.getD j 0) (c.getD (j+1) 0)
theorem Fa {c:List Rat}{k:Nat}(hk:1≤k):prB c (k+1)=prB c k++[iQ (c.getD (k-1) 0) (c.getD k 0)]:=by
 obtain⟨j,rfl⟩:∃j,k=j+1:=⟨k-1,om⟩
 unfold prB;simp only [Nat.add_sub_cancel];rw [List.range_succ,List.map_append];rfl
theorem ua:∀(a:Rat) (c:List Rat),List.zipWith iQ (a::c) c=(List.range c.length).map fun j=>iQ ((a::c).getD j 0) ((a::c).getD (j+1) 0)
 |_,[]=>rfl
 |a,b::c=>by
  rw [List.zipWith_cons_cons,ua b c,List.length_cons,List.range_succ_eq_map,List.map_cons,List.map_map];rfl
theorem A6 {c:List Rat}(h:c≠[]):ed c=prB c c.length++[c.getD (c.length-1) 0+1]:=by
 cases c with
 |nil=>exact absurd rfl h
 |cons a c =>
  rw [xU,ua];unfold prB;rw [List.getLast_eq_getElem];simp only [List.length_cons,Nat.add_sub_cancel,List.cons_append];congr 3
  rw [List.getD,List.getElem?_eq_getElem (by simp)];rfl
structure pf where
 k:Nat
 s:SV
 Hs:LH
theorem zQ (c:List Rat) (hl:c.length≤1000000) (hh:∀y∈c,ht y≤40000):Pu Tryz.prog 112 [rqs c] (rqs (ed c)):=by
 by_cases h0:c=[]
 ·subst h0;show Pu _ _ _ (rqs [0])
  refine Pi Tryz.func112 fun C=>?_
  repeat(first|(refine Wo (aE ([lit (.bool false),lit (.slice none 0 0),lit (.slice none 0 0)]) rfl) ?_)|(refine Wdo (aE ([lit (.bool false),lit (.slice none 0 0),lit (.slice none 0 0)]) rfl) ?_)|(refine A1 ⟨?_⟩;intros))
  exact aS (aC (RV.tmp rfl) (Aq (b:=rqx 0) ⟨Le.refl _,qG,qH,trivial⟩))
 have h1:=gP;have hpos:=List.length_pos_iff.2 h0;have hget:∀k,k<c.length→c[k]? = some (c.getD k 0):=fun k hk=>by rw [List.getD,List.getElem?_eq_getElem hk];rfl
 have hht:∀k,k<c.length→ht (c.getD k 0)≤40000:=fun k hk=>hh _ (List.mem_of_getElem? (hget k hk))
 have hatk:∀k,k<c.length→(((c.map rqx).flatten).drop (k*3)).take 3=rqx (c.getD k 0):=fun k hk=>e6 (f:=rqx) (n:=3) iK (hget k hk)
 have hne:(c.map rqx).flatten≠[]:=dZ iK om h0;have a0:=hatk 0 hpos;have b0:=hht 0 hpos;have aL:=hatk (c.length-1) om;have bL:=hht (c.length-1) om;have e1:=i9 (c.getD 0 0) 1 om om;have e2:=eQ (c.getD (c.length-1) 0) 1 om om;rw [A6 h0]
 have hg:∀k,1≤k→k<c.length→∀s Hs,Own qT 3 (k+1) (((prB c k).map rqx).flatten++rqx (iQ (c.getD (k-1) 0) (c.getD k 0))) s Hs→Own qT 3 (prB c (k+1)).length ((prB c (k+1)).map rqx).flatten s Hs:=fun k hk1 hk2 s Hs h=>by
  rw [Fa hk1,List.map_append,List.flatten_append,List.length_append,List.length_singleton];have e:(prB c k).length=k:=by unfold prB;simp;omega
  rw [e];simpa using h
 have hpl:∀k,1≤k→(prB c k).length=k:=fun k hk=>by unfold prB;simp;omega
 have hp1:((prB c 1).map rqx).flatten=rqx (c.getD 0 0-1):=by unfold prB;simp
 have hfin:∀s Hs,Own qT 3 (c.length+1) (((prB c c.length).map rqx).flatten++rqx (c.getD (c.length-1) 0+1)) s Hs→Own qT 3 (prB c c.length++[c.getD (c.length-1) 0+1]).length ((prB c c.length++[c.getD (c.length-1) 0+1]).map rqx).flatten s Hs:=fun s Hs h=>by
  rw [List.map_append,List.flatten_append,List.length_append,List.length_singleton,hpl _ hpos];simpa using h
 generalize hX:c.getD 0 0-1=x0 at *;generalize hY:c.getD (c.length-1) 0+1=xL at *;have e3:∀k,1≤k→k<c.length→Pu Tryz.prog 155 [rq (c.getD (k-1) 0),rq (c.getD k 0)] (rq (iQ (c.getD (k-1) 0) (c.getD k 0))):=fun k h2 h3=>Ba _ _ (by have:=hht (k-1) om;omega) (by have:=hht k h3;omega)
 refine Pi Tryz.func112 fun C=>?_
 repeat(first|(refine AS ⟨?_⟩;intros)|(refine O1 ⟨?_⟩;intros))
 refine WdN 6 ?_;repeat(refine A1 ⟨?_⟩;intros)
 refine Wdo (a7 (cs':=rqx (c.getD 0 0)) rfl rfl om om a0 hne) ?_;repeat(first|(refine A1 ⟨?_⟩;intros)|refine W4 oh ⟨?_⟩|refine W4 e1 ⟨?_⟩)
 rename_i b3
 refine WP.loopS (ι:=pf) (fun y=>1≤y.k∧y.k≤c.length∧Own qT 3 (prB c y.k).length ((prB c y.k).map rqx).flatten y.s y.Hs) (fun y=>c.length-y.k)
  (fun y=>fm [(0,rqs c),(3,y.s),(4,lit (.int .i64 y.k))]) (fun y=>y.Hs) ⟨1,lit (.slice (some ⟨b3,0,none⟩) 1 1),[(b3,qT,rqx x0)]⟩
  ⟨Nat.le_refl _,hpos,by rw [hpl 1 om,hp1];exact Own.one rfl om (by decide) rfl⟩ lfA Sr ?_
 rintro ⟨k,s,Hs⟩ ⟨hk1,hk2,hown⟩ K hK;simp only at hk1 hk2 hown⊢;have hco:=hown.co;have hkl:=hpl k hk1;by_cases hkc:k<c.length
 ·have a1:(((c.map rqx).flatten).drop (((k:Int)-1).toNat*3)).take 3=rqx (c.getD (k-1) 0):=by rw [show((k:Int)-1).toNat=k-1 by omega];exact hatk (k-1) om
  have a2:=hatk k hkc;have em:=e3 k hk1 hkc;have hgo:=fun s' Hs' h F' H'=>hK F' H' ⟨k+1,s',Hs'⟩ ⟨by simp only;omega,by simp only;omega,hg k hk1 hkc s' Hs' h⟩ (by simp only;omega)
  rw [hkl]at hown;clear hK hg hfin e3 hatk hht hget hh;generalize iQ (c.getD (k-1) 0) (c.getD k 0)=xm at *;repeat(first|(refine AS ⟨?_⟩;intros)|(refine O1 ⟨?_⟩;intros))
  refine WdZ 13 [0,1,2,3,4,5,6,7,8,9,10,11,12] [12] Hs [] ?_ (by rw [List.append_nil]);refine ZkD 12 ?_;repeat(refine A1 ⟨?_⟩;intros)
  refine Wdo (a7 (cs':=rqx (c.getD (k-1) 0)) rfl rfl om om a1 hne) ?_;repeat(refine A1 ⟨?_⟩;intros)
  refine Wdo (a7 (cs':=rqx (c.getD k 0)) rfl rfl om om a2 hne) ?_;repeat(first|(refine Wo (aE (rqx xm) rfl) ?_)|(refine Wdo (aE (rqx xm) rfl) ?_)|(refine A1 ⟨?_⟩;intros)|refine W4 em ⟨?_⟩)
  refine jh ?_;refine ZkA hown (Tk.same _) om (fun s' H' hown'=>?_);refine ZkN ?_;have hco':=hown'.co;replace hgo:=hgo s' H' hown';rw [List.append_nil,List.append_nil];clear hown hown';repeat(refine A1 ⟨?_⟩;intros)
  exact hgo _ _ lfA Sr
 ·have hke:k=c.length:=by omega
  subst hke;rw [hkl]at hown;clear hK hg e3 hatk hht hget hh;replace aL:(((c.map rqx).flatten).drop (((c.length:Int)-1).toNat*3)).take 3=rqx (c.getD (c.length-1) 0):=by rw [show((c.length:Int)-1).toNat=c.length-1 by omega];exact aL
  repeat(first|(refine AS ⟨?_⟩;intros)|(refine O1 ⟨?_⟩;intros))
  refine WdZ 11 [0,1,2,3,4,5,6,7,8,9,10] [10] Hs [] ?_ (by rw [List.append_nil]);refine ZkD 10 ?_;repeat(refine A1 ⟨?_⟩;intros)
  refine Wdo (a7 (cs':=rqx (c.getD (c.length-1) 0)) rfl rfl om om aL hne) ?_;repeat(first|(refine Wo (aE (rqx xL) rfl) ?_)|(refine Wdo (aE (rqx xL) rfl) ?_)|(refine A1 ⟨?_⟩;intros)|refine W4 oh ⟨?_⟩|refine W4 e2 ⟨?_⟩)
  refine jh ?_;refine ZkA hown (Tk.same _) om (fun s' H' hown'=>?_);refine ZkN ?_;replace hown':=hfin _ _ hown';have hco':=hown'.co;rw [List.append_nil,List.append_nil];refine WPL.rowS 45 hown' rfl (by rw [List.append_nil]) ?_;repeat(refine A1 ⟨?_⟩;intros)
  exact aS (aC (RV.tmp rfl) Lr)
abbrev bls (l:List Bool):SV:=sl (l.map fun b=>[lit (.bool b)]).flatten l.length
theorem xd (b:Bool):([lit (.bool b)]:List SV).length=1:=rfl
theorem tm (c:List Rat) (m:List Bool) (k:Nat):(List.range (k+1)).foldl (dz c m) []=dz c m ((List.range k).foldl (dz c m) []) k:=by
 rw [List.range_succ,List.foldl_append];rfl
theorem vm (c:List Rat) (m:List Bool):∀k,((List.range k).foldl (dz c m) []).length≤k
 |0=>Nat.le_refl _
 |k+1=>by
  have:=vm c m k;have:=wR c m ((List.range k).foldl (dz c m) []) k;rw [tm];omega
theorem vU:∀(ds A B:List SV) (o:Nat),spl (A++B) (A.length+o) ds=A++spl B o ds
 | [],_,_,_=>rfl
 |d::ds,A,B,o=>by
  show spl ((A++B).set (A.length+o) d) (A.length+o+1) ds=A++spl (B.set o d) (o+1) ds
  rw [List.set_append_right _ _ om,show A.length+o-A.length=o by omega,Nat.add_assoc];exact vU ds A (B.set o d) (o+1)
theorem ts {α:Type}{f:α→List SV}{l:List α}{k:Nat}{a:α}(h:l[k]? = some a):(l.map f).flatten=((l.take k).map f).flatten++(f a++((l.drop (k+1)).map f).flatten):=by
 have e:l.take k++a::l.drop (k+1)=l:=by rw [←f9 h,List.take_append_drop]
 have e2:((l.take k++a::l.drop (k+1)).map f).flatten=((l.take k).map f).flatten++(f a++((l.drop (k+1)).map f).flatten):=by rw [List.map_append,List.flatten_append,List.map_cons,List.flatten_cons]
 rw [e]at e2;exact e2
theorem yR {α:Type}{f:α→List SV}{l:List α}{k:Nat}{s:α}(h:k<l.length):((l.set k s).map f).flatten=((l.take k).map f).flatten++(f s++((l.drop (k+1)).map f).flatten):=by
 rw [List.set_eq_take_append_cons_drop,if_pos h,List.map_append,List.flatten_append,List.map_cons,List.flatten_cons]
theorem HZ {l:List Spn}{k:Nat}{a:Spn}{R:List SV}(hi:Rat) (h:l[k]? = some a):spl ((l.map spx).flatten++R) (0+k*8+3) (rqx hi)=((l.set k ⟨a.lo,hi,a.nl,a.nh⟩).map spx).flatten++R:=by
 have hk:=(List.getElem?_eq_some_iff.1 h).1;have hA:(((l.take k).map spx).flatten).length=k*8:=by rw [cT jj,List.length_take];congr 1;omega
 rw [ts h,yR hk,List.append_assoc,List.append_assoc,show 0+k*8+3=(((l.take k).map spx).flatten).length+3 by omega,vU,List.append_assoc,List.append_assoc];rfl
theorem HY {l:List Spn}{k:Nat}{a:Spn}{R:List SV}(nh:Bool) (h:l[k]? = some a):spl ((l.map spx).flatten++R) (0+k*8+7) [lit (.bool nh)]=((l.set k ⟨a.lo,a.hi,a.nl,nh⟩).map spx).flatten++R:=by
 have hk:=(List.getElem?_eq_some_iff.1 h).1;have hA:(((l.take k).map spx).flatten).length=k*8:=by rw [cT jj,List.length_take];congr 1;omega
 rw [ts h,yR hk,List.append_assoc,List.append_assoc,show 0+k*8+7=(((l.take k).map spx).flatten).length+7 by omega,vU,List.append_assoc,List.append_assoc];rfl
theorem Ev {l:List Spn}{k j:Nat}{R:List SV}(h:k<l.length) (hj:j≤8):Nat.ble (0+k*8+j) ((l.map spx).flatten++R).length=true:=by
 apply Nat.ble_eq_true_of_le;rw [List.length_append,cT jj];have:(k+1)*8≤l.length*8:=Nat.mul_le_mul_right _ h;omega
abbrev bT:TypeId:=4
theorem mR (a b:Bool):LeL [lit (.bool false),lit (.slice none 0 0),lit (.slice none 0 0),lit (.bool false),lit (.slice none 0 0),lit (.slice none 0 0),lit (.bool a),lit (.bool b)] (spx ⟨0,0,a,b⟩):=⟨Le.refl _,qG,qH,Le.refl _,qG,qH,Le.refl _,Le.refl _,trivial⟩
theorem ES (c:List Rat) (m:List Bool) (hl:c.length≤1000000) (hm:m.length=c.length+1):Pu Tryz.prog 114 [rqs c,bls m] (sps (tn c m)):=by
 have hgc:∀k,k<c.length→(((c.map rqx).flatten).drop (k*3)).take 3=rqx (c.getD k 0):=fun k hk=>e6 (f:=rqx) (n:=3) iK (by rw [List.getD,List.getElem?_eq_getElem hk];rfl)
 have hgm:∀k,k<m.length→(((m.map fun b=>[lit (.bool b)]).flatten).drop (k*1)).take 1=[lit (.bool (m.getD k false))]:=fun k hk=>e6 (f:=fun b=>[lit (.bool b)]) (n:=1) xd (by rw [List.getD,List.getElem?_eq_getElem hk];rfl)
 have hnm:(m.map fun b=>[lit (.bool b)]).flatten≠[]:=dZ xd om (fun e=>by rw [e]at hm;simp at hm);unfold tn;refine Pi Tryz.func114 fun C=>?_
 repeat(refine A1 ⟨?_⟩;intros)
 refine WP.loopS (ι:=pf) (fun y=>y.k≤m.length∧Own sT 8 ((List.range y.k).foldl (dz c m) []).length (((List.range y.k).foldl (dz c m) []).map spx).flatten y.s y.Hs) (fun y=>m.length-y.k)
  (fun y=>fm [(0,rqs c),(1,bls m),(5,y.s),(10,bls m),(11,lit (.int .i64 m.length)),(12,lit (.int .i64 y.k))]) (fun y=>y.Hs) ⟨0,lit (.slice none 0 0),[]⟩
  ⟨Nat.zero_le _,Own.nil _ _⟩ lfA (List.nil_sublist _) ?_
 rintro ⟨k,s,Hs⟩ ⟨hk,hown⟩ K hK;simp only at hk hown⊢;have hco:=hown.co;have hfl:=vm c m k;by_cases hkl:k<m.length
 ·have am:=hgm k hkl;have hgo:=fun s' Hs' h F' H'=>hK F' H' ⟨k+1,s',Hs'⟩ ⟨by simp only;omega,h⟩ (by simp only;omega)
  simp only [tm]at hgo;have ei:((k:Int)-1).toNat=k-1:=by omega
  have hap:(((m.map fun b=>[(lit (.bool b):SV)]).flatten).drop (((k:Int)-1).toNat*1)).take 1=[lit (.bool (m.getD (k-1) false))]:=by rw [ei];exact hgm (k-1) om
  have ac1:0<k→(((c.map rqx).flatten).drop (((k:Int)-1).toNat*3)).take 3=rqx (c.getD (k-1) 0):=fun h=>by rw [ei];exact hgc (k-1) om
  have ac2:=fun h:k<c.length=>hgc k h
  have hnc:0<c.length→(c.map rqx).flatten≠[]:=fun h=>dZ iK om (fun e=>by rw [e]at h;simp at h)
  generalize(List.range k).foldl (dz c m) []=out at *;unfold dz at hgo;clear hK hgc hgm;cases hmk:m.getD k false with
  |false =>
   rw [hmk]at hgo am;rw [if_pos rfl]at hgo;replace hgo:=hgo s Hs hown;clear hap ac1 ac2 hnc;repeat(refine A1 ⟨?_⟩;intros)
   refine Wo (a7 (cs':=[lit (.bool false)]) rfl rfl om om am hnm) ?_;repeat(refine A1 ⟨?_⟩;intros)
   exact hgo _ _ lfA Sr
  |true =>
   rw [hmk]at hgo am;rw [if_neg (by decide)]at hgo;have hsp:jA c k=⟨if 0<k then c.getD (k-1) 0 else 0,if k<c.length then c.getD k 0 else 0,decide (k=0),decide (k=c.length)⟩:=rfl;obtain⟨x,hx⟩:∃x,x=if 0<k then c.getD (k-1) 0 else 0:=⟨_,rfl⟩
   obtain⟨y,hy⟩:∃y,y=if k<c.length then c.getD k 0 else 0:=⟨_,rfl⟩
   rw [←hx,←hy]at hsp;rw [hsp]at hgo;have hlo:LeL [lit (.bool false),lit (.slice none 0 0),lit (.slice none 0 0)] (rqx 0):=by repeat(first|exact trivial|refine⟨?_,?_⟩|exact Le.refl _|exact qG|exact qH)
   obtain⟨x1,x2,x3,_⟩:=hlo;have hle:out.length≤1000000:=by omega
   by_cases hj:0<k∧m.getD (k-1) false=true∧0<out.length
   ·obtain⟨j1,j2,j3⟩:=hj;rw [if_pos ⟨j1,j2,j3⟩]at hgo;rw [j2]at hap;rw [if_pos j1]at hx;have al:=ac1 j1;rw [←hx]at al;obtain⟨o,ho⟩:∃o,out[out.length-1]? = some o:=⟨_,List.getElem?_eq_getElem om⟩
    have hoD:out.getD (out.length-1) Spn.full=o:=by rw [List.getD,ho];rfl
    rw [hoD]at hgo;have hc0:(c.map rqx).flatten≠[]:=hnc om;obtain⟨b1,c1,hnc1,hcm,rfl,rfl⟩:=hown.blk j3;have hol:=hown.1
    have hout2:Own sT 8 (out.set (out.length-1) ⟨o.lo,y,o.nl,decide (k=c.length)⟩).length ((out.set (out.length-1) ⟨o.lo,y,o.nl,decide (k=c.length)⟩).map spx).flatten (lit (.slice (some ⟨b1,0,none⟩) out.length c1)) [(b1,sT,((out.set (out.length-1) ⟨o.lo,y,o.nl,decide (k=c.length)⟩).map spx).flatten++List.replicate (c1*8-out.length*8) top)]:=by
     refine⟨cT jj _, .inr ⟨b1,c1,by rw [List.length_set];exact hnc1,hcm,by rw [List.length_set],by rw [List.length_set]⟩⟩
    replace hgo:=hgo _ _ hout2;have s1:=HZ (R:=List.replicate (c1*8-out.length*8) top) y ho;have ho2:(out.set (out.length-1) ⟨o.lo,y,o.nl,o.nh⟩)[out.length-1]? = some ⟨o.lo,y,o.nl,o.nh⟩:=by rw [List.getElem?_set_self om]
    have s2:=HY (R:=List.replicate (c1*8-out.length*8) top) (decide (k=c.length)) ho2;rw [List.set_set]at s2;have q1:=Ev (l:=out) (k:=out.length-1) (j:=6) (R:=List.replicate (c1*8-out.length*8) top) om om;have q2:=Ev (l:=out.set (out.length-1) ⟨o.lo,y,o.nl,o.nh⟩) (k:=out.length-1) (j:=8) (R:=List.replicate (c1*8-out.length*8) top) (by rw [List.length_set];omega) om;clear hown hout2 hol hoD ho ho2;generalize(out.set (out.length-1) ⟨o.lo,y,o.nl,o.nh⟩).map spx=cs1 at *;generalize(out.set (out.length-1) ⟨o.lo,y,o.nl,decide (k=c.length)⟩).map spx=cs2 at *;have eo:0+(out.length-1)*8=((out.length:Int)-1).toNat*8:=by omega
    rw [eo]at s1 s2 q1 q2;clear eo;rcases(by omega:k<c.length∨k=c.length)with kc|kc
    ·have ah:=ac2 kc;rw [if_pos kc]at hy;rw [←hy]at ah;have kd:decide (k=c.length)=false:=decide_eq_false om;rw [kd]at s2;clear ac1 ac2 hx hy hsp hnc;repeat(refine A1 ⟨?_⟩;intros)
     refine Wo (a7 (cs':=[lit (.bool true)]) rfl rfl om om am hnm) ?_;repeat(refine A1 ⟨?_⟩;intros)
     refine Wo (a7 (cs':=rqx x) rfl rfl om om al hc0) ?_;repeat(refine A1 ⟨?_⟩;intros)
     refine Wo (a7 (cs':=rqx y) rfl rfl om om ah hc0) ?_;repeat(first|(refine A1 ⟨?_⟩;intros)|(refine Wo (ax hown rfl) ?_)|(refine Wdo (ax hown rfl) ?_)|(refine Wog (ax hown rfl) ?_)|(refine bH (ax hown rfl) ?_))
     refine Wog (a7 (cs':=[lit (.bool true)]) rfl rfl om om hap hnm) ?_;repeat(first|(refine AS ⟨?_⟩;intros)|(refine O1 ⟨?_⟩;intros))
     refine WdL 10 3 ?_;repeat(refine A1 ⟨?_⟩;intros)
     refine dL0 ?_;refine Gv ?_ ?_
     ·(repeat(first|exact LOk.nil|refine Lsk ?_|refine Lcv ?_))
     refine Gv ?_ ?_
     ·(repeat(first|exact LOk.nil|refine Lsk ?_|refine Lcv ?_))
     refine Gs (b:=b1) (o:=((out.length:Int)-1).toNat*8+3) (sv:=ag (rqx y)) rfl rfl rfl (.there _ (.here _)) s1 q1 ?_ ?_
     ·(repeat(first|exact LOk.nil|refine Lsk ?_|refine Lcv ?_))
     refine Gn ?_ ?_
     ·(repeat(first|exact LOk.nil|refine Lsk ?_|refine Lcv ?_))
     repeat(refine A1 ⟨?_⟩;intros)
     refine WPL.store (b:=b1) (o:=((out.length:Int)-1).toNat*8+7) (sv:=lit (.bool false)) rfl rfl rfl (.there _ (.here _)) s2 q2 ?_;repeat(refine A1 ⟨?_⟩;intros)
     exact hgo _ _ lfA (Sc Sr)
    ·rw [if_neg om]at hy;have kd:decide (k=c.length)=true:=decide_eq_true kc;rw [kd]at s2;clear ac1 ac2 hx hsp hnc;subst hy;repeat(refine A1 ⟨?_⟩;intros)
     refine Wo (a7 (cs':=[lit (.bool true)]) rfl rfl om om am hnm) ?_;repeat(refine A1 ⟨?_⟩;intros)
     refine WPL.lowB (cs':=spx ⟨0,0,false,true⟩) (.here _) (mR false true) ?_;refine Wo (a7 (cs':=rqx x) rfl rfl om om al hc0) ?_;repeat(first|(refine A1 ⟨?_⟩;intros)|(refine Wo (ax hown rfl) ?_)|(refine Wdo (ax hown rfl) ?_)|(refine Wog (ax hown rfl) ?_)|(refine bH (ax hown rfl) ?_))
     refine Wog (a7 (cs':=[lit (.bool true)]) rfl rfl om om hap hnm) ?_;repeat(first|(refine AS ⟨?_⟩;intros)|(refine O1 ⟨?_⟩;intros))
     refine WdL 10 3 ?_;repeat(refine A1 ⟨?_⟩;intros)
     refine dL0 ?_;refine Gv ?_ ?_
     ·(repeat(first|exact LOk.nil|refine Lsk ?_|refine Lcv ?_))
     refine Gv ?_ ?_
     ·(repeat(first|exact LOk.nil|refine Lsk ?_|refine Lcv ?_))
     refine Gs (b:=b1) (o:=((out.length:Int)-1).toNat*8+3) (sv:=ag (rqx 0)) rfl rfl rfl (.there _ (.here _)) s1 q1 ?_ ?_
     ·(repeat(first|exact LOk.nil|refine Lsk ?_|refine Lcv ?_))
     refine Gn ?_ ?_
     ·(repeat(first|exact LOk.nil|refine Lsk ?_|refine Lcv ?_))
     repeat(refine A1 ⟨?_⟩;intros)
     refine WPL.store (b:=b1) (o:=((out.length:Int)-1).toNat*8+7) (sv:=lit (.bool true)) rfl rfl rfl (.there _ (.here _)) s2 q2 ?_;repeat(refine A1 ⟨?_⟩;intros)
     exact hgo _ _ lfA (Sc Sr)
   ·rw [if_neg hj]at hgo;obtain⟨b1,hb1⟩:∃b,b=decide (k=0):=⟨_,rfl⟩
    obtain⟨b2,hb2⟩:∃b,b=decide (k=c.length):=⟨_,rfl⟩
    rw [←hb1,←hb2]at hgo;have hap1:((out.map spx).flatten++spx ⟨x,y,b1,b2⟩)=((out++[(⟨x,y,b1,b2⟩:Spn)]).map spx).flatten:=by rw [List.map_append,List.flatten_append];simp
    have hln:(out++[(⟨x,y,b1,b2⟩:Spn)]).length=out.length+1:=by simp
    replace hgo:=fun s' Hs' (h:Own sT 8 (out.length+1) ((out.map spx).flatten++spx ⟨x,y,b1,b2⟩) s' Hs')=>hgo s' Hs' (by rw [hln,←hap1];exact h)
    clear hap1 hln hsp;rcases(by omega:k=0∨0<k)with k0|k0
    ·have hbv:b1=true:=by rw [hb1];exact decide_eq_true k0
     subst hbv;rw [if_neg om]at hx;subst hx;clear hb1 hj ac1 hap;rcases(by omega:k<c.length∨k=c.length)with kc|kc
     ·have hbv:b2=false:=by rw [hb2];exact decide_eq_false om
      subst hbv;have ah:=ac2 kc;rw [if_pos kc]at hy;rw [←hy]at ah;have hc0:=hnc om;clear hb2 hnc ac2 hy;repeat(refine A1 ⟨?_⟩;intros)
      refine Wo (a7 (cs':=[lit (.bool true)]) rfl rfl om om am hnm) ?_;repeat(refine A1 ⟨?_⟩;intros)
      refine WPL.lowB (cs':=spx ⟨0,0,true,false⟩) (.here _) (mR true false) ?_;refine Wo (a7 (cs':=rqx y) rfl rfl om om ah hc0) ?_;repeat(first|(refine Wo (aE (spx ⟨0,y,true,false⟩) rfl) ?_)|(refine Wdo (aE (spx ⟨0,y,true,false⟩) rfl) ?_)|(refine A1 ⟨?_⟩;intros)|(refine Wo (ax hown rfl) ?_)|(refine Wdo (ax hown rfl) ?_)|(refine Wog (ax hown rfl) ?_)|(refine bH (ax hown rfl) ?_))
      refine iG hown (Tk.skip _ (Tk.same _)) om (fun s' H1 hown'=>?_);have hco':=hown'.co;replace hgo:=hgo s' H1 hown';clear hown hown';repeat(refine A1 ⟨?_⟩;intros)
      exact hgo _ _ lfA (Sc Sr)
     ·have hbv:b2=true:=by rw [hb2];exact decide_eq_true kc
      subst hbv;rw [if_neg om]at hy;subst hy;clear hb2 hnc ac2;repeat(refine A1 ⟨?_⟩;intros)
      refine Wo (a7 (cs':=[lit (.bool true)]) rfl rfl om om am hnm) ?_;repeat(refine A1 ⟨?_⟩;intros)
      refine WPL.lowB (cs':=spx ⟨0,0,true,true⟩) (.here _) (mR true true) ?_;repeat(first|(refine Wo (aE (spx ⟨0,0,true,true⟩) rfl) ?_)|(refine Wdo (aE (spx ⟨0,0,true,true⟩) rfl) ?_)|(refine A1 ⟨?_⟩;intros)|(refine Wo (ax hown rfl) ?_)|(refine Wdo (ax hown rfl) ?_)|(refine Wog (ax hown rfl) ?_)|(refine bH (ax hown rfl) ?_))
      refine iG hown (Tk.skip _ (Tk.same _)) om (fun s' H1 hown'=>?_);have hco':=hown'.co;replace hgo:=hgo s' H1 hown';clear hown hown';repeat(refine A1 ⟨?_⟩;intros)
      exact hgo _ _ lfA (Sc Sr)
    ·have hbv:b1=false:=by rw [hb1];exact decide_eq_false om
     subst hbv;rw [if_pos k0]at hx;have al:=ac1 k0;rw [←hx]at al;have hc0:=hnc om;clear hb1 hx ac1 hnc;cases hm1:m.getD (k-1) false with
     |false =>
      rw [hm1]at hap;clear hj hm1;rcases(by omega:k<c.length∨k=c.length)with kc|kc
      ·have hbv:b2=false:=by rw [hb2];exact decide_eq_false om
       subst hbv;have ah:=ac2 kc;rw [if_pos kc]at hy;rw [←hy]at ah;clear hb2 ac2 hy;repeat(refine A1 ⟨?_⟩;intros)
       refine Wo (a7 (cs':=[lit (.bool true)]) rfl rfl om om am hnm) ?_;repeat(refine A1 ⟨?_⟩;intros)
       refine WPL.lowB (cs':=spx ⟨0,0,false,false⟩) (.here _) (mR false false) ?_;refine Wo (a7 (cs':=rqx x) rfl rfl om om al hc0) ?_;repeat(refine A1 ⟨?_⟩;intros)
       refine Wo (a7 (cs':=rqx y) rfl rfl om om ah hc0) ?_;repeat(first|(refine A1 ⟨?_⟩;intros)|(refine Wo (ax hown rfl) ?_)|(refine Wdo (ax hown rfl) ?_)|(refine Wog (ax hown rfl) ?_)|(refine bH (ax hown rfl) ?_))
       refine Wog (a7 (cs':=[lit (.bool false)]) rfl rfl om om hap hnm) ?_;repeat(first|(refine Wo (aE (spx ⟨x,y,false,false⟩) rfl) ?_)|(refine Wdo (aE (spx ⟨x,y,false,false⟩) rfl) ?_)|(refine A1 ⟨?_⟩;intros))
       refine iG hown (Tk.skip _ (Tk.same _)) om (fun s' H1 hown'=>?_);have hco':=hown'.co;replace hgo:=hgo s' H1 hown';clear hown hown';repeat(refine A1 ⟨?_⟩;intros)
       exact hgo _ _ lfA (Sc Sr)
      ·have hbv:b2=true:=by rw [hb2];exact decide_eq_true kc
       subst hbv;rw [if_neg om]at hy;subst hy;clear hb2 ac2;repeat(refine A1 ⟨?_⟩;intros)
       refine Wo (a7 (cs':=[lit (.bool true)]) rfl rfl om om am hnm) ?_;repeat(refine A1 ⟨?_⟩;intros)
       refine WPL.lowB (cs':=spx ⟨0,0,false,true⟩) (.here _) (mR false true) ?_;refine Wo (a7 (cs':=rqx x) rfl rfl om om al hc0) ?_;repeat(first|(refine A1 ⟨?_⟩;intros)|(refine Wo (ax hown rfl) ?_)|(refine Wdo (ax hown rfl) ?_)|(refine Wog (ax hown rfl) ?_)|(refine bH (ax hown rfl) ?_))
       refine Wog (a7 (cs':=[lit (.bool false)]) rfl rfl om om hap hnm) ?_;repeat(first|(refine Wo (aE (spx ⟨x,0,false,true⟩) rfl) ?_)|(refine Wdo (aE (spx ⟨x,0,false,true⟩) rfl) ?_)|(refine A1 ⟨?_⟩;intros))
       refine iG hown (Tk.skip _ (Tk.same _)) om (fun s' H1 hown'=>?_);have hco':=hown'.co;replace hgo:=hgo s' H1 hown';clear hown hown';repeat(refine A1 ⟨?_⟩;intros)
       exact hgo _ _ lfA (Sc Sr)
     |true =>
      rw [hm1]at hap
      have hz:out.length=0:=by
       rcases(by omega:out.length=0∨0<out.length)with h|h
       ·exact h
       ·exact absurd ⟨k0,hm1,h⟩ hj
      clear hj hm1;rcases(by omega:k<c.length∨k=c.length)with kc|kc
      ·have hbv:b2=false:=by rw [hb2];exact decide_eq_false om
       subst hbv;have ah:=ac2 kc;rw [if_pos kc]at hy;rw [←hy]at ah;clear hb2 ac2 hy;repeat(refine A1 ⟨?_⟩;intros)
       refine Wo (a7 (cs':=[lit (.bool true)]) rfl rfl om om am hnm) ?_;repeat(refine A1 ⟨?_⟩;intros)
       refine WPL.lowB (cs':=spx ⟨0,0,false,false⟩) (.here _) (mR false false) ?_;refine Wo (a7 (cs':=rqx x) rfl rfl om om al hc0) ?_;repeat(refine A1 ⟨?_⟩;intros)
       refine Wo (a7 (cs':=rqx y) rfl rfl om om ah hc0) ?_;repeat(first|(refine A1 ⟨?_⟩;intros)|(refine Wo (ax hown rfl) ?_)|(refine Wdo (ax hown rfl) ?_)|(refine Wog (ax hown rfl) ?_)|(refine bH (ax hown rfl) ?_))
       refine Wog (a7 (cs':=[lit (.bool true)]) rfl rfl om om hap hnm) ?_;repeat(first|(refine Wo (aE (spx ⟨x,y,false,false⟩) rfl) ?_)|(refine Wdo (aE (spx ⟨x,y,false,false⟩) rfl) ?_)|(refine A1 ⟨?_⟩;intros))
       refine iG hown (Tk.skip _ (Tk.same _)) om (fun s' H1 hown'=>?_);have hco':=hown'.co;replace hgo:=hgo s' H1 hown';clear hown hown';repeat(refine A1 ⟨?_⟩;intros)
       exact hgo _ _ lfA (Sc Sr)
      ·have hbv:b2=true:=by rw [hb2];exact decide_eq_true kc
       subst hbv;rw [if_neg om]at hy;subst hy;clear hb2 ac2;repeat(refine A1 ⟨?_⟩;intros)
       refine Wo (a7 (cs':=[lit (.bool true)]) rfl rfl om om am hnm) ?_;repeat(refine A1 ⟨?_⟩;intros)
       refine WPL.lowB (cs':=spx ⟨0,0,false,true⟩) (.here _) (mR false true) ?_;refine Wo (a7 (cs':=rqx x) rfl rfl om om al hc0) ?_;repeat(first|(refine A1 ⟨?_⟩;intros)|(refine Wo (ax hown rfl) ?_)|(refine Wdo (ax hown rfl) ?_)|(refine Wog (ax hown rfl) ?_)|(refine bH (ax hown rfl) ?_))
       refine Wog (a7 (cs':=[lit (.bool true)]) rfl rfl om om hap hnm) ?_;repeat(first|(refine Wo (aE (spx ⟨x,0,false,true⟩) rfl) ?_)|(refine Wdo (aE (spx ⟨x,0,false,true⟩) rfl) ?_)|(refine A1 ⟨?_⟩;intros))
       refine iG hown (Tk.skip _ (Tk.same _)) om (fun s' H1 hown'=>?_);have hco':=hown'.co;replace hgo:=hgo s' H1 hown';clear hown hown';repeat(refine A1 ⟨?_⟩;intros)
       exact hgo _ _ lfA (Sc Sr)
 ·have hke:k=m.length:=by omega
  subst hke;refine WP.rowS 5 hown rfl (by rw [List.append_nil]) ?_;clear hK hown;repeat(refine A1 ⟨?_⟩;intros)
  exact aS (aC (RV.tmp rfl) Lr)
def jF:Tr→Nat
 | .leaf i=>if i then 1 else 0
 | .node _ a b=>jF a+jF b
def fx (keep:Nat→Bool):Tr→Nat→Tr
 | .leaf i,k => .leaf (i&&keep k)
 | .node l a b,k => .node l (fx keep a k) (fx keep b (k+jF a))
abbrev H8 (b k:Nat):LH:=[(b,iT,[lit (.int .i64 ((k:Nat):Int))])]
theorem si (bl:List Bool) (hbl:bl.length≤1000000) (b:Nat):∀(t:Tr) (k:Nat),(t.all fun l=>l.sm)→k+jF t≤bl.length→
  PuH Tryz.prog 33 [rt t,bls bl,lit (.pointer (some ⟨b,0,none⟩))] (H8 b k) (fun r H'=>r=rt (fx (fun j=>bl.getD j false) t k)∧H'=H8 b (k+jF t)) noX
 | .leaf false,k,_,hk=>by
  show PuH _ _ _ _ (fun r H'=>r=rt (.leaf false)∧H'=H8 b (k+0)) noX
  rw [Nat.add_zero];have en:rt (.leaf false)=pt (rc (.leaf false)):=rfl;rw [en,gf];refine PuH.intro Tryz.func33 rfl kr fun C hC=>?_
  repeat(refine A1 ⟨?_⟩;intros)
  exact cH _ _ (aC (RV.tmp rfl) Lr) Sr ⟨rfl,rfl⟩
 | .leaf true,k,_,hk=>by
  have hk':k+1≤bl.length:=hk;have hg:(((bl.map fun b=>[lit (.bool b)]).flatten).drop (k*1)).take 1=[lit (.bool (bl.getD k false))]:=e6 (f:=fun b=>[lit (.bool b)]) (n:=1) xd (by rw [List.getD,List.getElem?_eq_getElem hk'];rfl);have hne:(bl.map fun b=>[lit (.bool b)]).flatten≠[]:=dZ xd om (fun e=>by rw [e]at hk';simp at hk');have c:=cP (bl.getD k false);show PuH _ _ _ _ (fun r H'=>r=rt (.leaf (true&&bl.getD k false))∧H'=H8 b (k+1)) noX
  rw [Bool.true_and];have en:rt (.leaf true)=pt (rc (.leaf true)):=rfl;rw [en,gf];generalize bl.getD k false=v at *;refine PuH.intro Tryz.func33 rfl kr fun C hC=>?_
  repeat(refine A1 ⟨?_⟩;intros)
  rw [show((k:Int)+1-1)=(k:Int)from by omega];refine Wo (a7 (cs':=[lit (.bool v)]) rfl rfl om om hg hne) ?_;repeat(first|(refine A1 ⟨?_⟩;intros)|refine W4 c ⟨?_⟩)
  exact cH _ _ (aC (RV.tmp rfl) Lr) Sr ⟨rfl,rfl⟩
 | .node l x y,k,hall,hk=>by
  have hk':k+(jF x+jF y)≤bl.length:=hk;have i1:=si bl hbl b x k hall.2.1 om;have i2:=si bl hbl b y (k+jF x) hall.2.2 om;show PuH _ _ _ _ (fun r H'=>r=rt (.node l (fx (fun j=>bl.getD j false) x k) (fx (fun j=>bl.getD j false) y (k+jF x)))∧H'=H8 b (k+(jF x+jF y))) noX
  rw [←Nat.add_assoc];generalize fx (fun j=>bl.getD j false) x k=mx at *;generalize fx (fun j=>bl.getD j false) y (k+jF x)=my at *;have en:rt (.node l x y)=pt (rc (.node l x y)):=rfl;have em:rt (.node l mx my)=pt (rc (.node l mx my)):=rfl;rw [em,en,eN,eN];clear en em hall;refine PuH.intro Tryz.func33 rfl kr fun C hC=>?_
  repeat(refine A1 ⟨?_⟩;intros)
  refine WfT i1 ?_;rintro _ _ ⟨rfl,rfl⟩;simp only [List.nil_append];repeat(first|(refine AS ⟨?_⟩;intros)|(refine O1 ⟨?_⟩;intros))
  refine WdL 11 1 ?_;repeat(refine A1 ⟨?_⟩;intros)
  refine dL0 ?_;refine Gc i2 (Tk.same _) ?_ ?_
  ·(repeat(first|exact LOk.nil|refine Lsk ?_|refine Lcv ?_))
  refine Gn ?_ ?_
  ·(repeat(first|exact LOk.nil|refine Lsk ?_|refine Lcv ?_))
  simp only [List.nil_append];repeat(first|(refine Wo (aB (sv:=ag _) rfl) ?_)|(refine Wdo (aB (sv:=ag _) rfl) ?_)|(refine A1 ⟨?_⟩;intros))
  exact cH _ _ (aC (RV.tmp rfl) Lr) Sr ⟨rfl,rfl⟩
theorem zP (s:Spn){n:Nat}(h:s.le n) (hn:n≤10000):Pu Tryz.prog 136 [ag (spx s)] (rq (aV s)):=by
 obtain⟨lo,hi,nl,nh⟩:=s;obtain⟨h1,h2⟩:=h;simp only at h1 h2;have:=gP;have c1:=i9 hi 1 om om;have c2:=eQ lo 1 om om;have c3:=Ba lo hi om om;unfold aV;cases nl <;> cases nh;rotate_left 3
 ·simp only [Bool.and_self,if_true];refine Pi Tryz.func136 fun C=>?_
  repeat(first|(refine A1 ⟨?_⟩;intros)|refine W4 oh ⟨?_⟩|refine W4 c1 ⟨?_⟩|refine W4 c2 ⟨?_⟩|refine W4 c3 ⟨?_⟩)
  ((first|refine aS ?_|refine eV ?_);refine aC RVa ?_)
  exact Le.ag ⟨Le.refl _,qG,qH,trivial⟩
 all_goals
  simp only [Bool.and_true,Bool.and_false,Bool.true_and,Bool.false_and,Bool.and_self,Bool.false_eq_true,if_true,if_false];refine Pi Tryz.func136 fun C=>?_
  repeat(first|(refine A1 ⟨?_⟩;intros)|refine W4 oh ⟨?_⟩|refine W4 c1 ⟨?_⟩|refine W4 c2 ⟨?_⟩|refine W4 c3 ⟨?_⟩)
  exact G1
theorem lS {l m:Li}{s:Spn}(hl:l.sm) (hm:m.sm) (h:s.le 46):(eW l m s).le 46:=by
 have h1:=lJ hl hm;have h2:=kI hl h1;obtain⟨h3,h4⟩:=h;unfold eW;split
 ·split
  ·exact⟨by simp only;omega,h4⟩
  ·exact⟨h3,h4⟩
 ·split
  ·exact⟨h3,by simp only;omega⟩
  ·exact⟨h3,h4⟩
theorem mE {l:Li}(hl:l.sm) (i:Nat):∀(c:List Li) (k:Nat) (s:Spn),(∀m∈c,m.sm)→s.le 46→(fq l i k c s).1.le 46
 | [],_,_,_,h=>h
 |m::c,k,s,hc,h=>by
  have hm:=hc m Ms;have hr:∀m∈c,m.sm:=fun x hx=>hc x (Mc hx)
  unfold fq;split
  ·exact mE hl i c _ _ hr h
  ·split
   ·split
    ·exact mE hl i c _ _ hr h
    ·exact h
   ·split
    ·exact lS hl hm h
    ·exact mE hl i c _ _ hr (lS hl hm h)
theorem vj:Spn.full.le 46:=⟨by have:=gZ;show ht 0≤46;omega,by have:=gZ;show ht 0≤46;omega⟩
theorem yX {c:List Li}{i:Nat}{l:Li}(hc:∀m∈c,m.sm) (hi:c[i]? = some l):(bX c i).1.le 46:=by
 unfold bX;rw [List.getD,hi];exact mE (hc l (List.mem_of_getElem? hi)) i c 0 _ hc vj
abbrev Lv:List SV:=[lit (.bool false),lit (.slice none 0 0),lit (.slice none 0 0),lit (.bool false),lit (.slice none 0 0),lit (.slice none 0 0),lit (.bool false),lit (.bool false)]
theorem xR {c:List Li}{i:Nat}{l:Li}(hc:∀m∈c,m.sm) (hn:c.length≤100000) (hi:c[i]? = some l):Pu Tryz.prog 133 [lqs c,lit (.int .i64 i)] (Ab.tup [ag (spx (bX c i).1),lit (.bool (bX c i).2)]):=by
 have hl:=hc l (List.mem_of_getElem? hi);have hil:=(List.getElem?_eq_some_iff.1 hi).1;have hat0:=e6 (f:=lqx) (n:=6) dI hi;have hne0:(c.map lqx).flatten≠[]:=dZ dI om (fun e=>by rw [e]at hil;simp at hil);have hR:bX c i=fq l i 0 c Spn.full:=by unfold bX;rw [List.getD,hi];rfl
 generalize bX c i=R at *;refine Pi Tryz.func133 fun C=>?_
 repeat(refine A1 ⟨?_⟩;intros)
 rename_i b4;refine Wo (a7 (cs':=lqx l) rfl rfl om om hat0 hne0) ?_;repeat(first|(refine A1 ⟨?_⟩;intros)|refine W4 sr ⟨?_⟩)
 rename_i b6 b7
 refine WP.loopS (ι:=Nat×Spn) (fun y=>y.1≤c.length∧y.2.le 46∧fq l i y.1 (c.drop y.1) y.2=R) (fun y=>c.length-y.1)
  (fun y=>fm [(1,lit (.int .i64 i)),(4,lit (.pointer (some ⟨b4,0,none⟩))),(6,lit (.pointer (some ⟨b6,0,none⟩))),(7,lit (.pointer (some ⟨b7,0,none⟩))),(18,lqs c),(19,lit (.int .i64 c.length)),(20,lit (.int .i64 y.1))])
  (fun y=>[(b7,119,spx y.2),(b6,53,lqx l),(b4,119,Lv)]) (0,Spn.full) ⟨Nat.zero_le _,vj,by rw [List.drop_zero];exact hR.symm⟩ lfA Sr ?_
 rintro ⟨k,s⟩ ⟨hk,hs,hgo⟩ K hK;simp only at hk hs hgo⊢;by_cases hkl:k<c.length
 ·obtain⟨m,hget,hmm,hat,hne⟩:=elt dI om hkl;have hm:=hc m hmm;rw [f9 hget]at hgo;have hnext:=fun s' (h1:s'.le 46) (h2:fq l i (k+1) (c.drop (k+1)) s'=R) F' H'=>hK F' H' (k+1,s') ⟨by simp only;omega,h1,h2⟩ (by simp only;omega)
  unfold fq at hgo;have d1:=jV (l:=l) (m:=m) hl.ile hm.ile;have d2:=xJ hl hm;have hsl:=lS hl hm hs;have hmt:=lJ hl hm;have hpt:=kI hl hmt;clear hK hc hi hat0 hne0 hget hmm;by_cases h1:k=i
  ·subst h1;rw [if_pos (.inl rfl)]at hgo;replace hnext:=hnext s hs hgo;clear hgo hsl hmt hpt d2;repeat(refine A1 ⟨?_⟩;intros)
   refine Wo (a7 (cs':=lqx m) rfl rfl om om hat hne) ?_;repeat(first|(refine A1 ⟨?_⟩;intros)|refine W4 d1 ⟨?_⟩)
   exact hnext _ _ lfA (by repeat(first|exact Sr|refine Sc ?_))
  by_cases h2:im l m=0
  ·rw [if_pos (.inr h2)]at hgo;replace hnext:=hnext s hs hgo;rw [h2]at d1;clear hgo hsl hmt hpt d2;repeat(refine A1 ⟨?_⟩;intros)
   refine Wo (a7 (cs':=lqx m) rfl rfl om om hat hne) ?_;repeat(first|(refine A1 ⟨?_⟩;intros)|refine W4 d1 ⟨?_⟩)
   exact hnext _ _ lfA (by repeat(first|exact Sr|refine Sc ?_))
  rw [if_neg (fun h=>h.elim h1 h2)]at hgo;generalize im l m=z0 at *;by_cases h3:dF l m=0
  ·rw [if_pos h3]at hgo;unfold t8 at d2;rw [if_pos h3]at d2;obtain⟨q1,q2⟩:=pc hl;have d3:=sA hl.1 hl.2;have d4:=o9 (l:=m) (p:=aD l) hm ⟨om,om⟩;simp only [Option.getD_none,Option.isSome_none]at d2;clear hsl hmt hpt q1 q2;have e4:ag (rpx (aD l))=rp (l.bf*l.a) (l.bf*l.b):=rfl;rw [e4]at d4;clear e4;generalize dt m (aD l)=z1 at *;by_cases h4:0<z1
   ·rw [if_pos h4]at hgo;replace hnext:=hnext s hs hgo;clear hgo;repeat(refine A1 ⟨?_⟩;intros)
    refine Wo (a7 (cs':=lqx m) rfl rfl om om hat hne) ?_;repeat(first|(refine A1 ⟨?_⟩;intros)|refine W4 d1 ⟨?_⟩|refine W4 d2 ⟨?_⟩|refine W4 d3 ⟨?_⟩|refine W4 d4 ⟨?_⟩)
    exact hnext _ _ lfA (by repeat(first|exact Sr|refine Sc ?_))
   ·rw [if_neg h4]at hgo;subst hgo;clear hnext;repeat(refine A1 ⟨?_⟩;intros)
    refine Wo (a7 (cs':=lqx m) rfl rfl om om hat hne) ?_;repeat(first|(refine A1 ⟨?_⟩;intros)|refine W4 d1 ⟨?_⟩|refine W4 d2 ⟨?_⟩|refine W4 d3 ⟨?_⟩|refine W4 d4 ⟨?_⟩)
    exact G3
  rw [if_neg h3]at hgo;unfold t8 at d2;rw [if_neg h3]at d2;simp only [Option.getD_some,Option.isSome_some]at d2;have d3:=mg (l:=l) (p:=bz l m) hl ⟨by have:=hmt.1;omega,by have:=hmt.2;omega⟩;have d4:=gU m hm.ile;have d5:=gU l hl.ile;obtain⟨x1,x2⟩:=dN hm;obtain⟨y1,y2⟩:=dN hl;have d6:=jU (aK m).1 (aK m).2 (aK l).1 (aK l).2 om om om om;have hx:=mH (dN hm) (dN hl);have d7:=l7 (dd (aK m) (aK l)) om;rw [show(aK m).1*(aK l).2-(aK m).2*(aK l).1=dd (aK m) (aK l)from rfl]at d6;obtain⟨hs1,hs2⟩:=hs;have d8:=jm (cl l (bz l m)) s.lo om om;have d9:=jm (cl l (bz l m)) s.hi om om;have hbad:∀u:Spn,cj u=(!u.nl && !u.nh&&decide (0≤(u.lo-u.hi).num.sign)):=fun _=>rfl
  have hst:(if 0<(dd (aK m) (aK l)).num.sign then(if s.nl=true∨0<(cl l (bz l m)-s.lo).num.sign then⟨cl l (bz l m),s.hi,false,s.nh⟩else s)
   else if s.nh=true∨(cl l (bz l m)-s.hi).num.sign<0 then⟨s.lo,cl l (bz l m),s.nl,false⟩else s)=eW l m s:=rfl
  generalize eW l m s=S at *;obtain⟨hS1,hS2⟩:=hsl;have e1:=jm S.lo S.hi om om;generalize bz l m=mp at *;generalize cl l mp=t at *;generalize(dd (aK m) (aK l)).num.sign=zc at *;generalize dd (aK m) (aK l)=cx at *;simp only [aK]at d6;generalize(t-s.lo).num.sign=z5 at *;generalize(t-s.hi).num.sign=z6 at *;obtain⟨lo,hi',nl,nh⟩:=s;obtain⟨lo2,hi2,nl2,nh2⟩:=S;simp only at d8 d9 hst e1 hs1 hs2 hS1 hS2;rw [hbad]at hgo;simp only at hgo;clear hbad;generalize(lo2-hi2).num.sign=z7 at *;replace hnext:=hnext ⟨lo2,hi2,nl2,nh2⟩ ⟨hS1,hS2⟩;clear x1 x2 y1 y2 hx hmt hpt h3 hs1 hs2 hS1 hS2;repeat(refine A1 ⟨?_⟩;intros)
  refine Wo (a7 (cs':=lqx m) rfl rfl om om hat hne) ?_;repeat(first|(refine A1 ⟨?_⟩;intros)|refine W4 d1 ⟨?_⟩|refine W4 d2 ⟨?_⟩|refine W4 d3 ⟨?_⟩|refine W4 d4 ⟨?_⟩|refine W4 d5 ⟨?_⟩|refine W4 d6 ⟨?_⟩|refine W4 d7 ⟨?_⟩)
  refine WP.via (fun F' H'=>LeF F' (fm [(1,lit (.int .i64 i)),(4,lit (.pointer (some ⟨b4,0,none⟩))),(6,lit (.pointer (some ⟨b6,0,none⟩))),(7,lit (.pointer (some ⟨b7,0,none⟩))),(18,lqs c),(19,lit (.int .i64 c.length)),(20,lit (.int .i64 k))])∧[(b7,119,spx ⟨lo2,hi2,nl2,nh2⟩),(b6,53,lqx l),(b4,119,Lv)].Sublist H') ?_ ?_
  ·clear hgo hnext e1 d1 d2 d3 d4 d5 d6 d7;refine WPd (fun h4=>?_) (fun h4=>?_)
   ·rw [if_pos h4]at hst;by_cases h5:nl=true
    ·subst h5;rw [if_pos (.inl rfl)]at hst;cases hst;repeat(first|(refine A1 ⟨?_⟩;intros)|refine W4 d8 ⟨?_⟩)
     exact⟨lfA,by repeat(first|exact Sr|refine Sc ?_)⟩
    ·have h5:nl=false:=by cases nl;rfl;exact absurd rfl h5
     subst h5;by_cases h6:0<z5
     ·rw [if_pos (.inr h6)]at hst;cases hst;repeat(first|(refine A1 ⟨?_⟩;intros)|refine W4 d8 ⟨?_⟩)
      exact⟨lfA,by repeat(first|exact Sr|refine Sc ?_)⟩
     ·rw [if_neg (fun h=>h.elim (fun h=>by cases h) h6)]at hst;cases hst;repeat(first|(refine A1 ⟨?_⟩;intros)|refine W4 d8 ⟨?_⟩)
      exact⟨lfA,by repeat(first|exact Sr|refine Sc ?_)⟩
   ·rw [if_neg h4]at hst;by_cases h5:nh=true
    ·subst h5;rw [if_pos (.inl rfl)]at hst;cases hst;repeat(first|(refine A1 ⟨?_⟩;intros)|refine W4 d9 ⟨?_⟩)
     exact⟨lfA,by repeat(first|exact Sr|refine Sc ?_)⟩
    ·have h5:nh=false:=by cases nh;rfl;exact absurd rfl h5
     subst h5;by_cases h6:z6<0
     ·rw [if_pos (.inr h6)]at hst;cases hst;repeat(first|(refine A1 ⟨?_⟩;intros)|refine W4 d9 ⟨?_⟩)
      exact⟨lfA,by repeat(first|exact Sr|refine Sc ?_)⟩
     ·rw [if_neg (fun h=>h.elim (fun h=>by cases h) h6)]at hst;cases hst;repeat(first|(refine A1 ⟨?_⟩;intros)|refine W4 d9 ⟨?_⟩)
      exact⟨lfA,by repeat(first|exact Sr|refine Sc ?_)⟩
  ·rintro F' H' ⟨hF,hH⟩;refine WP.sub hH (WP.le hF ?_);clear hF hH hst d1 d2 d3 d4 d5 d6 d7 d8 d9;cases nl2
   ·cases nh2
    ·by_cases h8:0≤z7
     ·rw [if_pos (by simp [h8])]at hgo;subst hgo;clear hnext;repeat(first|(refine A1 ⟨?_⟩;intros)|refine W4 e1 ⟨?_⟩)
      exact G3
     ·rw [if_neg (by simp [h8])]at hgo;replace hnext:=hnext hgo;clear hgo;repeat(first|(refine A1 ⟨?_⟩;intros)|refine W4 e1 ⟨?_⟩)
      exact hnext _ _ lfA (by repeat(first|exact Sr|refine Sc ?_))
    ·rw [if_neg (by simp)]at hgo;replace hnext:=hnext hgo;clear hgo;repeat(first|(refine A1 ⟨?_⟩;intros)|refine W4 e1 ⟨?_⟩)
     exact hnext _ _ lfA (by repeat(first|exact Sr|refine Sc ?_))
   ·rw [if_neg (by simp)]at hgo;replace hnext:=hnext hgo;clear hgo;repeat(first|(refine A1 ⟨?_⟩;intros)|refine W4 e1 ⟨?_⟩)
    exact hnext _ _ lfA (by repeat(first|exact Sr|refine Sc ?_))
 ·have hke:k=c.length:=by omega
  subst hke;rw [List.drop_length]at hgo;have hR2:R=(s,true):=hgo.symm;subst hR2;clear hK hc;repeat(refine A1 ⟨?_⟩;intros)
  exact G3
end Go.Ab
