/- Texts laid one behind the other: GwH, TmA, GwE. -/
import Derived.Test.YtbcojehfealiaaaGreatDoorB31
import Derived.Test.YtbcojehfealiaaaGreatDoorB29
set_option linter.all false
set_option maxHeartbeats 16000000
namespace Go.Ab
open Go.Proofs
variable [Base]
theorem zt {a b:List SV}{k:Nat}(h:LeL a b):Le (sl a k) (sl b k):=fun m v hv=>by
 obtain⟨ad,cap,rfl,h1,h2,h3⟩:=cE hv;refine f4 h1 h2 ?_;rcases h3 with rfl|⟨b',off,rfl,arr,T,fz,h4,h5⟩
 ·left;cases b with
  |nil=>rfl
  |cons _ _=>exact h.elim
 ·right
  have hlen:a.length=b.length:=by
   clear h4 h5 hv;induction a generalizing b with
   |nil=>cases b with
    |nil=>rfl
    |cons _ _=>exact h.elim
   |cons x a ih=>cases b with
    |nil=>exact h.elim
    |cons y b=>simp [ih h.2]
  exact⟨b',off,rfl,arr,T,fz,h4,by rw [←hlen];exact az.le h h5⟩
abbrev qT:TypeId:=30
abbrev sT:TypeId:=225
abbrev fT:TypeId:=227
theorem Own.one {T:TypeId}{sz b c:Nat}{cs:List SV}(h:cs.length=sz) (hc:1≤c) (hm:c≤maxLen) (hz:c=1):Own T sz 1 cs (lit (.slice (some ⟨b,0,none⟩) 1 c)) [(b,T,cs)]:=by
 subst hz;refine⟨om, .inr ⟨b,1,om,hm,rfl,?_⟩⟩;simp
theorem wS {a:Rat}{c:List Rat}:dP (a::c)=(a-1)::(List.zipWith i8 (a::c) c++[(a::c).getLast (by simp)+1]):=rfl
def prB (c:List Rat) (k:Nat):List Rat:=(c.getD 0 0-1)::(List.range (k-1)).map fun j=>i8 (c.getD j 0) (c.getD (j+1) 0)
theorem Ej {c:List Rat}{k:Nat}(hk:1≤k):prB c (k+1)=prB c k++[i8 (c.getD (k-1) 0) (c.getD k 0)]:=by
 obtain⟨j,rfl⟩:∃j,k=j+1:=⟨k-1,om⟩
 unfold prB;simp only [Nat.add_sub_cancel];rw [List.range_succ,List.map_append];rfl
theorem sR:∀(a:Rat) (c:List Rat),List.zipWith i8 (a::c) c=(List.range c.length).map fun j=>i8 ((a::c).getD j 0) ((a::c).getD (j+1) 0)
 |_,[]=>rfl
 |a,b::c=>by
  rw [List.zipWith_cons_cons,sR b c,List.length_cons,List.range_succ_eq_map,List.map_cons,List.map_map];rfl
theorem yW {c:List Rat}(h:c≠[]):dP c=prB c c.length++[c.getD (c.length-1) 0+1]:=by
 cases c with
 |nil=>exact absurd rfl h
 |cons a c =>
  rw [wS,sR];unfold prB;rw [List.getLast_eq_getElem];simp only [List.length_cons,Nat.add_sub_cancel,List.cons_append];congr 3
  rw [List.getD,List.getElem?_eq_getElem (by simp)];rfl
structure A0 where
 k:Nat
 s:SV
 Hs:LH
theorem yF (c:List Rat) (hl:c.length≤1000000) (hh:∀y∈c,ht y≤40000):Pu Tryz.prog 260 [rqs c] (rqs (dP c)):=by
 by_cases h0:c=[]
 ·subst h0;show Pu _ _ _ (rqs [0])
  refine Pi Tryz.func260 fun C=>?_
  repeat(first|(refine Wo (aH ([lit (.bool false),lit (.slice none 0 0),lit (.slice none 0 0)]) rfl) ?_)|(refine Wdo (aH ([lit (.bool false),lit (.slice none 0 0),lit (.slice none 0 0)]) rfl) ?_)|(refine A1 ⟨?_⟩;intros))
  exact aS (aJ (RV.tmp rfl) (zt (b:=rqx 0) ⟨Le.refl _,mu,mv,trivial⟩))
 have h1:=fD;have hpos:=List.length_pos_iff.2 h0;have hget:∀k,k<c.length→c[k]? = some (c.getD k 0):=fun k hk=>by rw [List.getD,List.getElem?_eq_getElem hk];rfl
 have hht:∀k,k<c.length→ht (c.getD k 0)≤40000:=fun k hk=>hh _ (List.mem_of_getElem? (hget k hk))
 have hatk:∀k,k<c.length→(((c.map rqx).flatten).drop (k*3)).take 3=rqx (c.getD k 0):=fun k hk=>dJ (f:=rqx) (n:=3) gZ (hget k hk)
 have hne:(c.map rqx).flatten≠[]:=eI gZ om h0;have a0:=hatk 0 hpos;have b0:=hht 0 hpos;have aL:=hatk (c.length-1) om;have bL:=hht (c.length-1) om;have e1:=eh (c.getD 0 0) 1 om om;have e2:=eK (c.getD (c.length-1) 0) 1 om om;rw [yW h0]
 have hg:∀k,1≤k→k<c.length→∀s Hs,Own qT 3 (k+1) (((prB c k).map rqx).flatten++rqx (i8 (c.getD (k-1) 0) (c.getD k 0))) s Hs→Own qT 3 (prB c (k+1)).length ((prB c (k+1)).map rqx).flatten s Hs:=fun k hk1 hk2 s Hs h=>by
  rw [Ej hk1,List.map_append,List.flatten_append,List.length_append,List.length_singleton];have e:(prB c k).length=k:=by unfold prB;simp;omega
  rw [e];simpa using h
 have hpl:∀k,1≤k→(prB c k).length=k:=fun k hk=>by unfold prB;simp;omega
 have hp1:((prB c 1).map rqx).flatten=rqx (c.getD 0 0-1):=by unfold prB;simp
 have hfin:∀s Hs,Own qT 3 (c.length+1) (((prB c c.length).map rqx).flatten++rqx (c.getD (c.length-1) 0+1)) s Hs→Own qT 3 (prB c c.length++[c.getD (c.length-1) 0+1]).length ((prB c c.length++[c.getD (c.length-1) 0+1]).map rqx).flatten s Hs:=fun s Hs h=>by
  rw [List.map_append,List.flatten_append,List.length_append,List.length_singleton,hpl _ hpos];simpa using h
 generalize hX:c.getD 0 0-1=x0 at *;generalize hY:c.getD (c.length-1) 0+1=xL at *;have e3:∀k,1≤k→k<c.length→Pu Tryz.prog 235 [rq (c.getD (k-1) 0),rq (c.getD k 0)] (rq (i8 (c.getD (k-1) 0) (c.getD k 0))):=fun k h2 h3=>Aj _ _ (by have:=hht (k-1) om;omega) (by have:=hht k h3;omega)
 refine Pi Tryz.func260 fun C=>?_
 repeat(first|(refine AS ⟨?_⟩;intros)|(refine O1 ⟨?_⟩;intros))
 refine WdN 6 ?_;repeat(refine A1 ⟨?_⟩;intros)
 refine Wdo (aa (cs':=rqx (c.getD 0 0)) rfl rfl om om a0 hne) ?_;repeat(first|(refine A1 ⟨?_⟩;intros)|refine W4 mn ⟨?_⟩|refine W4 e1 ⟨?_⟩)
 rename_i b3
 refine WP.loopS (ι:=A0) (fun y=>1≤y.k∧y.k≤c.length∧Own qT 3 (prB c y.k).length ((prB c y.k).map rqx).flatten y.s y.Hs) (fun y=>c.length-y.k)
  (fun y=>fm [(0,rqs c),(3,y.s),(4,lit (.int .i64 y.k))]) (fun y=>y.Hs) ⟨1,lit (.slice (some ⟨b3,0,none⟩) 1 1),[(b3,qT,rqx x0)]⟩
  ⟨Nat.le_refl _,hpos,by rw [hpl 1 om,hp1];exact Own.one rfl om (by decide) rfl⟩ lfA Sr ?_
 rintro ⟨k,s,Hs⟩ ⟨hk1,hk2,hown⟩ K hK;simp only at hk1 hk2 hown⊢;have hco:=hown.co;have hkl:=hpl k hk1;by_cases hkc:k<c.length
 ·have a1:(((c.map rqx).flatten).drop (((k:Int)-1).toNat*3)).take 3=rqx (c.getD (k-1) 0):=by rw [show((k:Int)-1).toNat=k-1 by omega];exact hatk (k-1) om
  have a2:=hatk k hkc;have em:=e3 k hk1 hkc;have hgo:=fun s' Hs' h F' H'=>hK F' H' ⟨k+1,s',Hs'⟩ ⟨by simp only;omega,by simp only;omega,hg k hk1 hkc s' Hs' h⟩ (by simp only;omega)
  rw [hkl]at hown;clear hK hg hfin e3 hatk hht hget hh;generalize i8 (c.getD (k-1) 0) (c.getD k 0)=xm at *;repeat(first|(refine AS ⟨?_⟩;intros)|(refine O1 ⟨?_⟩;intros))
  refine WdZ 13 [0,1,2,3,4,5,6,7,8,9,10,11,12] [12] Hs [] ?_ (by rw [List.append_nil]);refine ZkD 12 ?_;repeat(refine A1 ⟨?_⟩;intros)
  refine Wdo (aa (cs':=rqx (c.getD (k-1) 0)) rfl rfl om om a1 hne) ?_;repeat(refine A1 ⟨?_⟩;intros)
  refine Wdo (aa (cs':=rqx (c.getD k 0)) rfl rfl om om a2 hne) ?_;repeat(first|(refine Wo (aH (rqx xm) rfl) ?_)|(refine Wdo (aH (rqx xm) rfl) ?_)|(refine A1 ⟨?_⟩;intros)|refine W4 em ⟨?_⟩)
  refine Ct ?_;refine ZkA hown (Tk.same _) om (fun s' H' hown'=>?_);refine ZkN ?_;have hco':=hown'.co;replace hgo:=hgo s' H' hown';rw [List.append_nil,List.append_nil];clear hown hown';repeat(refine A1 ⟨?_⟩;intros)
  exact hgo _ _ lfA Sr
 ·have hke:k=c.length:=by omega
  subst hke;rw [hkl]at hown;clear hK hg e3 hatk hht hget hh;replace aL:(((c.map rqx).flatten).drop (((c.length:Int)-1).toNat*3)).take 3=rqx (c.getD (c.length-1) 0):=by rw [show((c.length:Int)-1).toNat=c.length-1 by omega];exact aL
  repeat(first|(refine AS ⟨?_⟩;intros)|(refine O1 ⟨?_⟩;intros))
  refine WdZ 11 [0,1,2,3,4,5,6,7,8,9,10] [10] Hs [] ?_ (by rw [List.append_nil]);refine ZkD 10 ?_;repeat(refine A1 ⟨?_⟩;intros)
  refine Wdo (aa (cs':=rqx (c.getD (c.length-1) 0)) rfl rfl om om aL hne) ?_;repeat(first|(refine Wo (aH (rqx xL) rfl) ?_)|(refine Wdo (aH (rqx xL) rfl) ?_)|(refine A1 ⟨?_⟩;intros)|refine W4 mn ⟨?_⟩|refine W4 e2 ⟨?_⟩)
  refine Ct ?_;refine ZkA hown (Tk.same _) om (fun s' H' hown'=>?_);refine ZkN ?_;replace hown':=hfin _ _ hown';have hco':=hown'.co;rw [List.append_nil,List.append_nil];refine WPL.rowS 45 hown' rfl (by rw [List.append_nil]) ?_;repeat(refine A1 ⟨?_⟩;intros)
  exact aS (aJ (RV.tmp rfl) Lr)
abbrev bls (l:List Bool):SV:=sl (l.map fun b=>[lit (.bool b)]).flatten l.length
theorem Gb (b:Bool):([lit (.bool b)]:List SV).length=1:=rfl
theorem rZ (c:List Rat) (m:List Bool) (k:Nat):(List.range (k+1)).foldl (cY c m) []=cY c m ((List.range k).foldl (cY c m) []) k:=by
 rw [List.range_succ,List.foldl_append];rfl
theorem u4 (c:List Rat) (m:List Bool):∀k,((List.range k).foldl (cY c m) []).length≤k
 |0=>Nat.le_refl _
 |k+1=>by
  have:=u4 c m k;have:=vM c m ((List.range k).foldl (cY c m) []) k;rw [rZ];omega
theorem uI:∀(ds A B:List SV) (o:Nat),spl (A++B) (A.length+o) ds=A++spl B o ds
 | [],_,_,_=>rfl
 |d::ds,A,B,o=>by
  show spl ((A++B).set (A.length+o) d) (A.length+o+1) ds=A++spl (B.set o d) (o+1) ds
  rw [List.set_append_right _ _ om,show A.length+o-A.length=o by omega,Nat.add_assoc];exact uI ds A (B.set o d) (o+1)
theorem s6 {α:Type}{f:α→List SV}{l:List α}{k:Nat}{a:α}(h:l[k]? = some a):(l.map f).flatten=((l.take k).map f).flatten++(f a++((l.drop (k+1)).map f).flatten):=by
 have e:l.take k++a::l.drop (k+1)=l:=by rw [←i9 h,List.take_append_drop]
 have e2:((l.take k++a::l.drop (k+1)).map f).flatten=((l.take k).map f).flatten++(f a++((l.drop (k+1)).map f).flatten):=by rw [List.map_append,List.flatten_append,List.map_cons,List.flatten_cons]
 rw [e]at e2;exact e2
theorem xM {α:Type}{f:α→List SV}{l:List α}{k:Nat}{s:α}(h:k<l.length):((l.set k s).map f).flatten=((l.take k).map f).flatten++(f s++((l.drop (k+1)).map f).flatten):=by
 rw [List.set_eq_take_append_cons_drop,if_pos h,List.map_append,List.flatten_append,List.map_cons,List.flatten_cons]
theorem GQ {l:List Spn}{k:Nat}{a:Spn}{R:List SV}(hi:Rat) (h:l[k]? = some a):spl ((l.map spx).flatten++R) (0+k*8+3) (rqx hi)=((l.set k ⟨a.lo,hi,a.nl,a.nh⟩).map spx).flatten++R:=by
 have hk:=(List.getElem?_eq_some_iff.1 h).1;have hA:(((l.take k).map spx).flatten).length=k*8:=by rw [cJ iN,List.length_take];congr 1;omega
 rw [s6 h,xM hk,List.append_assoc,List.append_assoc,show 0+k*8+3=(((l.take k).map spx).flatten).length+3 by omega,uI,List.append_assoc,List.append_assoc];rfl
theorem GP {l:List Spn}{k:Nat}{a:Spn}{R:List SV}(nh:Bool) (h:l[k]? = some a):spl ((l.map spx).flatten++R) (0+k*8+7) [lit (.bool nh)]=((l.set k ⟨a.lo,a.hi,a.nl,nh⟩).map spx).flatten++R:=by
 have hk:=(List.getElem?_eq_some_iff.1 h).1;have hA:(((l.take k).map spx).flatten).length=k*8:=by rw [cJ iN,List.length_take];congr 1;omega
 rw [s6 h,xM hk,List.append_assoc,List.append_assoc,show 0+k*8+7=(((l.take k).map spx).flatten).length+7 by omega,uI,List.append_assoc,List.append_assoc];rfl
theorem DN {l:List Spn}{k j:Nat}{R:List SV}(h:k<l.length) (hj:j≤8):Nat.ble (0+k*8+j) ((l.map spx).flatten++R).length=true:=by
 apply Nat.ble_eq_true_of_le;rw [List.length_append,cJ iN];have:(k+1)*8≤l.length*8:=Nat.mul_le_mul_right _ h;omega
abbrev bT:TypeId:=4
theorem mB (a b:Bool):LeL [lit (.bool false),lit (.slice none 0 0),lit (.slice none 0 0),lit (.bool false),lit (.slice none 0 0),lit (.slice none 0 0),lit (.bool a),lit (.bool b)] (spx ⟨0,0,a,b⟩):=⟨Le.refl _,mu,mv,Le.refl _,mu,mv,Le.refl _,Le.refl _,trivial⟩
theorem E5 (c:List Rat) (m:List Bool) (hl:c.length≤1000000) (hm:m.length=c.length+1):Pu Tryz.prog 262 [rqs c,bls m] (sps (s5 c m)):=by
 have hgc:∀k,k<c.length→(((c.map rqx).flatten).drop (k*3)).take 3=rqx (c.getD k 0):=fun k hk=>dJ (f:=rqx) (n:=3) gZ (by rw [List.getD,List.getElem?_eq_getElem hk];rfl)
 have hgm:∀k,k<m.length→(((m.map fun b=>[lit (.bool b)]).flatten).drop (k*1)).take 1=[lit (.bool (m.getD k false))]:=fun k hk=>dJ (f:=fun b=>[lit (.bool b)]) (n:=1) Gb (by rw [List.getD,List.getElem?_eq_getElem hk];rfl)
 have hnm:(m.map fun b=>[lit (.bool b)]).flatten≠[]:=eI Gb om (fun e=>by rw [e]at hm;simp at hm);unfold s5;refine Pi Tryz.func262 fun C=>?_
 repeat(refine A1 ⟨?_⟩;intros)
 refine WP.loopS (ι:=A0) (fun y=>y.k≤m.length∧Own sT 8 ((List.range y.k).foldl (cY c m) []).length (((List.range y.k).foldl (cY c m) []).map spx).flatten y.s y.Hs) (fun y=>m.length-y.k)
  (fun y=>fm [(0,rqs c),(1,bls m),(5,y.s),(10,bls m),(11,lit (.int .i64 m.length)),(12,lit (.int .i64 y.k))]) (fun y=>y.Hs) ⟨0,lit (.slice none 0 0),[]⟩
  ⟨Nat.zero_le _,Own.nil _ _⟩ lfA (List.nil_sublist _) ?_
 rintro ⟨k,s,Hs⟩ ⟨hk,hown⟩ K hK;simp only at hk hown⊢;have hco:=hown.co;have hfl:=u4 c m k;by_cases hkl:k<m.length
 ·have am:=hgm k hkl;have hgo:=fun s' Hs' h F' H'=>hK F' H' ⟨k+1,s',Hs'⟩ ⟨by simp only;omega,h⟩ (by simp only;omega)
  simp only [rZ]at hgo;have ei:((k:Int)-1).toNat=k-1:=by omega
  have hap:(((m.map fun b=>[(lit (.bool b):SV)]).flatten).drop (((k:Int)-1).toNat*1)).take 1=[lit (.bool (m.getD (k-1) false))]:=by rw [ei];exact hgm (k-1) om
  have ac1:0<k→(((c.map rqx).flatten).drop (((k:Int)-1).toNat*3)).take 3=rqx (c.getD (k-1) 0):=fun h=>by rw [ei];exact hgc (k-1) om
  have ac2:=fun h:k<c.length=>hgc k h
  have hnc:0<c.length→(c.map rqx).flatten≠[]:=fun h=>eI gZ om (fun e=>by rw [e]at h;simp at h)
  generalize(List.range k).foldl (cY c m) []=out at *;unfold cY at hgo;clear hK hgc hgm;cases hmk:m.getD k false with
  |false =>
   rw [hmk]at hgo am;rw [if_pos rfl]at hgo;replace hgo:=hgo s Hs hown;clear hap ac1 ac2 hnc;repeat(refine A1 ⟨?_⟩;intros)
   refine Wo (aa (cs':=[lit (.bool false)]) rfl rfl om om am hnm) ?_;repeat(refine A1 ⟨?_⟩;intros)
   exact hgo _ _ lfA Sr
  |true =>
   rw [hmk]at hgo am;rw [if_neg (by decide)]at hgo;have hsp:ji c k=⟨if 0<k then c.getD (k-1) 0 else 0,if k<c.length then c.getD k 0 else 0,decide (k=0),decide (k=c.length)⟩:=rfl;obtain⟨x,hx⟩:∃x,x=if 0<k then c.getD (k-1) 0 else 0:=⟨_,rfl⟩
   obtain⟨y,hy⟩:∃y,y=if k<c.length then c.getD k 0 else 0:=⟨_,rfl⟩
   rw [←hx,←hy]at hsp;rw [hsp]at hgo;have hlo:LeL [lit (.bool false),lit (.slice none 0 0),lit (.slice none 0 0)] (rqx 0):=by repeat(first|exact trivial|refine⟨?_,?_⟩|exact Le.refl _|exact mu|exact mv)
   obtain⟨x1,x2,x3,_⟩:=hlo;have hle:out.length≤1000000:=by omega
   by_cases hj:0<k∧m.getD (k-1) false=true∧0<out.length
   ·obtain⟨j1,j2,j3⟩:=hj;rw [if_pos ⟨j1,j2,j3⟩]at hgo;rw [j2]at hap;rw [if_pos j1]at hx;have al:=ac1 j1;rw [←hx]at al;obtain⟨o,ho⟩:∃o,out[out.length-1]? = some o:=⟨_,List.getElem?_eq_getElem om⟩
    have hoD:out.getD (out.length-1) Spn.full=o:=by rw [List.getD,ho];rfl
    rw [hoD]at hgo;have hc0:(c.map rqx).flatten≠[]:=hnc om;obtain⟨b1,c1,hnc1,hcm,rfl,rfl⟩:=hown.blk j3;have hol:=hown.1
    have hout2:Own sT 8 (out.set (out.length-1) ⟨o.lo,y,o.nl,decide (k=c.length)⟩).length ((out.set (out.length-1) ⟨o.lo,y,o.nl,decide (k=c.length)⟩).map spx).flatten (lit (.slice (some ⟨b1,0,none⟩) out.length c1)) [(b1,sT,((out.set (out.length-1) ⟨o.lo,y,o.nl,decide (k=c.length)⟩).map spx).flatten++List.replicate (c1*8-out.length*8) top)]:=by
     refine⟨cJ iN _, .inr ⟨b1,c1,by rw [List.length_set];exact hnc1,hcm,by rw [List.length_set],by rw [List.length_set]⟩⟩
    replace hgo:=hgo _ _ hout2;have s1:=GQ (R:=List.replicate (c1*8-out.length*8) top) y ho;have ho2:(out.set (out.length-1) ⟨o.lo,y,o.nl,o.nh⟩)[out.length-1]? = some ⟨o.lo,y,o.nl,o.nh⟩:=by rw [List.getElem?_set_self om]
    have s2:=GP (R:=List.replicate (c1*8-out.length*8) top) (decide (k=c.length)) ho2;rw [List.set_set]at s2;have q1:=DN (l:=out) (k:=out.length-1) (j:=6) (R:=List.replicate (c1*8-out.length*8) top) om om;have q2:=DN (l:=out.set (out.length-1) ⟨o.lo,y,o.nl,o.nh⟩) (k:=out.length-1) (j:=8) (R:=List.replicate (c1*8-out.length*8) top) (by rw [List.length_set];omega) om;clear hown hout2 hol hoD ho ho2;generalize(out.set (out.length-1) ⟨o.lo,y,o.nl,o.nh⟩).map spx=cs1 at *;generalize(out.set (out.length-1) ⟨o.lo,y,o.nl,decide (k=c.length)⟩).map spx=cs2 at *;have eo:0+(out.length-1)*8=((out.length:Int)-1).toNat*8:=by omega
    rw [eo]at s1 s2 q1 q2;clear eo;rcases(by omega:k<c.length∨k=c.length)with kc|kc
    ·have ah:=ac2 kc;rw [if_pos kc]at hy;rw [←hy]at ah;have kd:decide (k=c.length)=false:=decide_eq_false om;rw [kd]at s2;clear ac1 ac2 hx hy hsp hnc;repeat(refine A1 ⟨?_⟩;intros)
     refine Wo (aa (cs':=[lit (.bool true)]) rfl rfl om om am hnm) ?_;repeat(refine A1 ⟨?_⟩;intros)
     refine Wo (aa (cs':=rqx x) rfl rfl om om al hc0) ?_;repeat(refine A1 ⟨?_⟩;intros)
     refine Wo (aa (cs':=rqx y) rfl rfl om om ah hc0) ?_;repeat(first|(refine A1 ⟨?_⟩;intros)|(refine Wo (aE hown rfl) ?_)|(refine Wdo (aE hown rfl) ?_)|(refine Wog (aE hown rfl) ?_)|(refine cT (aE hown rfl) ?_))
     refine Wog (aa (cs':=[lit (.bool true)]) rfl rfl om om hap hnm) ?_;repeat(first|(refine AS ⟨?_⟩;intros)|(refine O1 ⟨?_⟩;intros))
     refine WdL 10 3 ?_;repeat(refine A1 ⟨?_⟩;intros)
     refine dL0 ?_;refine Gv ?_ ?_
     ·(repeat(first|exact LOk.nil|refine Lsk ?_|refine Lcv ?_))
     refine Gv ?_ ?_
     ·(repeat(first|exact LOk.nil|refine Lsk ?_|refine Lcv ?_))
     refine Gs (b:=b1) (o:=((out.length:Int)-1).toNat*8+3) (sv:=ag (rqx y)) rfl rfl rfl (.there _ (.here _)) s1 q1 ?_ ?_
     ·(repeat(first|exact LOk.nil|refine Lsk ?_|refine Lcv ?_))
     refine Gn ?_ ?_
     ·(repeat(first|exact LOk.nil|refine Lsk ?_|refine Lcv ?_))
     repeat(refine A1 ⟨?_⟩;intros)
     refine WPL.store (b:=b1) (o:=((out.length:Int)-1).toNat*8+7) (sv:=lit (.bool false)) rfl rfl rfl (.there _ (.here _)) s2 q2 ?_;repeat(refine A1 ⟨?_⟩;intros)
     exact hgo _ _ lfA (Sc Sr)
    ·rw [if_neg om]at hy;have kd:decide (k=c.length)=true:=decide_eq_true kc;rw [kd]at s2;clear ac1 ac2 hx hsp hnc;subst hy;repeat(refine A1 ⟨?_⟩;intros)
     refine Wo (aa (cs':=[lit (.bool true)]) rfl rfl om om am hnm) ?_;repeat(refine A1 ⟨?_⟩;intros)
     refine WPL.lowB (cs':=spx ⟨0,0,false,true⟩) (.here _) (mB false true) ?_;refine Wo (aa (cs':=rqx x) rfl rfl om om al hc0) ?_;repeat(first|(refine A1 ⟨?_⟩;intros)|(refine Wo (aE hown rfl) ?_)|(refine Wdo (aE hown rfl) ?_)|(refine Wog (aE hown rfl) ?_)|(refine cT (aE hown rfl) ?_))
     refine Wog (aa (cs':=[lit (.bool true)]) rfl rfl om om hap hnm) ?_;repeat(first|(refine AS ⟨?_⟩;intros)|(refine O1 ⟨?_⟩;intros))
     refine WdL 10 3 ?_;repeat(refine A1 ⟨?_⟩;intros)
     refine dL0 ?_;refine Gv ?_ ?_
     ·(repeat(first|exact LOk.nil|refine Lsk ?_|refine Lcv ?_))
     refine Gv ?_ ?_
     ·(repeat(first|exact LOk.nil|refine Lsk ?_|refine Lcv ?_))
     refine Gs (b:=b1) (o:=((out.length:Int)-1).toNat*8+3) (sv:=ag (rqx 0)) rfl rfl rfl (.there _ (.here _)) s1 q1 ?_ ?_
     ·(repeat(first|exact LOk.nil|refine Lsk ?_|refine Lcv ?_))
     refine Gn ?_ ?_
     ·(repeat(first|exact LOk.nil|refine Lsk ?_|refine Lcv ?_))
     repeat(refine A1 ⟨?_⟩;intros)
     refine WPL.store (b:=b1) (o:=((out.length:Int)-1).toNat*8+7) (sv:=lit (.bool true)) rfl rfl rfl (.there _ (.here _)) s2 q2 ?_;repeat(refine A1 ⟨?_⟩;intros)
     exact hgo _ _ lfA (Sc Sr)
   ·rw [if_neg hj]at hgo;obtain⟨b1,hb1⟩:∃b,b=decide (k=0):=⟨_,rfl⟩
    obtain⟨b2,hb2⟩:∃b,b=decide (k=c.length):=⟨_,rfl⟩
    rw [←hb1,←hb2]at hgo;have hap1:((out.map spx).flatten++spx ⟨x,y,b1,b2⟩)=((out++[(⟨x,y,b1,b2⟩:Spn)]).map spx).flatten:=by rw [List.map_append,List.flatten_append];simp
    have hln:(out++[(⟨x,y,b1,b2⟩:Spn)]).length=out.length+1:=by simp
    replace hgo:=fun s' Hs' (h:Own sT 8 (out.length+1) ((out.map spx).flatten++spx ⟨x,y,b1,b2⟩) s' Hs')=>hgo s' Hs' (by rw [hln,←hap1];exact h)
    clear hap1 hln hsp;rcases(by omega:k=0∨0<k)with k0|k0
    ·have hbv:b1=true:=by rw [hb1];exact decide_eq_true k0
     subst hbv;rw [if_neg om]at hx;subst hx;clear hb1 hj ac1 hap;rcases(by omega:k<c.length∨k=c.length)with kc|kc
     ·have hbv:b2=false:=by rw [hb2];exact decide_eq_false om
      subst hbv;have ah:=ac2 kc;rw [if_pos kc]at hy;rw [←hy]at ah;have hc0:=hnc om;clear hb2 hnc ac2 hy;repeat(refine A1 ⟨?_⟩;intros)
      refine Wo (aa (cs':=[lit (.bool true)]) rfl rfl om om am hnm) ?_;repeat(refine A1 ⟨?_⟩;intros)
      refine WPL.lowB (cs':=spx ⟨0,0,true,false⟩) (.here _) (mB true false) ?_;refine Wo (aa (cs':=rqx y) rfl rfl om om ah hc0) ?_;repeat(first|(refine Wo (aH (spx ⟨0,y,true,false⟩) rfl) ?_)|(refine Wdo (aH (spx ⟨0,y,true,false⟩) rfl) ?_)|(refine A1 ⟨?_⟩;intros)|(refine Wo (aE hown rfl) ?_)|(refine Wdo (aE hown rfl) ?_)|(refine Wog (aE hown rfl) ?_)|(refine cT (aE hown rfl) ?_))
      refine jS hown (Tk.skip _ (Tk.same _)) om (fun s' H1 hown'=>?_);have hco':=hown'.co;replace hgo:=hgo s' H1 hown';clear hown hown';repeat(refine A1 ⟨?_⟩;intros)
      exact hgo _ _ lfA (Sc Sr)
     ·have hbv:b2=true:=by rw [hb2];exact decide_eq_true kc
      subst hbv;rw [if_neg om]at hy;subst hy;clear hb2 hnc ac2;repeat(refine A1 ⟨?_⟩;intros)
      refine Wo (aa (cs':=[lit (.bool true)]) rfl rfl om om am hnm) ?_;repeat(refine A1 ⟨?_⟩;intros)
      refine WPL.lowB (cs':=spx ⟨0,0,true,true⟩) (.here _) (mB true true) ?_;repeat(first|(refine Wo (aH (spx ⟨0,0,true,true⟩) rfl) ?_)|(refine Wdo (aH (spx ⟨0,0,true,true⟩) rfl) ?_)|(refine A1 ⟨?_⟩;intros)|(refine Wo (aE hown rfl) ?_)|(refine Wdo (aE hown rfl) ?_)|(refine Wog (aE hown rfl) ?_)|(refine cT (aE hown rfl) ?_))
      refine jS hown (Tk.skip _ (Tk.same _)) om (fun s' H1 hown'=>?_);have hco':=hown'.co;replace hgo:=hgo s' H1 hown';clear hown hown';repeat(refine A1 ⟨?_⟩;intros)
      exact hgo _ _ lfA (Sc Sr)
    ·have hbv:b1=false:=by rw [hb1];exact decide_eq_false om
     subst hbv;rw [if_pos k0]at hx;have al:=ac1 k0;rw [←hx]at al;have hc0:=hnc om;clear hb1 hx ac1 hnc;cases hm1:m.getD (k-1) false with
     |false =>
      rw [hm1]at hap;clear hj hm1;rcases(by omega:k<c.length∨k=c.length)with kc|kc
      ·have hbv:b2=false:=by rw [hb2];exact decide_eq_false om
       subst hbv;have ah:=ac2 kc;rw [if_pos kc]at hy;rw [←hy]at ah;clear hb2 ac2 hy;repeat(refine A1 ⟨?_⟩;intros)
       refine Wo (aa (cs':=[lit (.bool true)]) rfl rfl om om am hnm) ?_;repeat(refine A1 ⟨?_⟩;intros)
       refine WPL.lowB (cs':=spx ⟨0,0,false,false⟩) (.here _) (mB false false) ?_;refine Wo (aa (cs':=rqx x) rfl rfl om om al hc0) ?_;repeat(refine A1 ⟨?_⟩;intros)
       refine Wo (aa (cs':=rqx y) rfl rfl om om ah hc0) ?_;repeat(first|(refine A1 ⟨?_⟩;intros)|(refine Wo (aE hown rfl) ?_)|(refine Wdo (aE hown rfl) ?_)|(refine Wog (aE hown rfl) ?_)|(refine cT (aE hown rfl) ?_))
       refine Wog (aa (cs':=[lit (.bool false)]) rfl rfl om om hap hnm) ?_;repeat(first|(refine Wo (aH (spx ⟨x,y,false,false⟩) rfl) ?_)|(refine Wdo (aH (spx ⟨x,y,false,false⟩) rfl) ?_)|(refine A1 ⟨?_⟩;intros))
       refine jS hown (Tk.skip _ (Tk.same _)) om (fun s' H1 hown'=>?_);have hco':=hown'.co;replace hgo:=hgo s' H1 hown';clear hown hown';repeat(refine A1 ⟨?_⟩;intros)
       exact hgo _ _ lfA (Sc Sr)
      ·have hbv:b2=true:=by rw [hb2];exact decide_eq_true kc
       subst hbv;rw [if_neg om]at hy;subst hy;clear hb2 ac2;repeat(refine A1 ⟨?_⟩;intros)
       refine Wo (aa (cs':=[lit (.bool true)]) rfl rfl om om am hnm) ?_;repeat(refine A1 ⟨?_⟩;intros)
       refine WPL.lowB (cs':=spx ⟨0,0,false,true⟩) (.here _) (mB false true) ?_;refine Wo (aa (cs':=rqx x) rfl rfl om om al hc0) ?_;repeat(first|(refine A1 ⟨?_⟩;intros)|(refine Wo (aE hown rfl) ?_)|(refine Wdo (aE hown rfl) ?_)|(refine Wog (aE hown rfl) ?_)|(refine cT (aE hown rfl) ?_))
       refine Wog (aa (cs':=[lit (.bool false)]) rfl rfl om om hap hnm) ?_;repeat(first|(refine Wo (aH (spx ⟨x,0,false,true⟩) rfl) ?_)|(refine Wdo (aH (spx ⟨x,0,false,true⟩) rfl) ?_)|(refine A1 ⟨?_⟩;intros))
       refine jS hown (Tk.skip _ (Tk.same _)) om (fun s' H1 hown'=>?_);have hco':=hown'.co;replace hgo:=hgo s' H1 hown';clear hown hown';repeat(refine A1 ⟨?_⟩;intros)
       exact hgo _ _ lfA (Sc Sr)
     |true =>
      rw [hm1]at hap
      have hz:out.length=0:=by
       rcases(by omega:out.length=0∨0<out.length)with h|h
       ·exact h
       ·exact absurd ⟨k0,hm1,h⟩ hj
      clear hj hm1;rcases(by omega:k<c.length∨k=c.length)with kc|kc
      ·have hbv:b2=false:=by rw [hb2];exact decide_eq_false om
       subst hbv;have ah:=ac2 kc;rw [if_pos kc]at hy;rw [←hy]at ah;clear hb2 ac2 hy;repeat(refine A1 ⟨?_⟩;intros)
       refine Wo (aa (cs':=[lit (.bool true)]) rfl rfl om om am hnm) ?_;repeat(refine A1 ⟨?_⟩;intros)
       refine WPL.lowB (cs':=spx ⟨0,0,false,false⟩) (.here _) (mB false false) ?_;refine Wo (aa (cs':=rqx x) rfl rfl om om al hc0) ?_;repeat(refine A1 ⟨?_⟩;intros)
       refine Wo (aa (cs':=rqx y) rfl rfl om om ah hc0) ?_;repeat(first|(refine A1 ⟨?_⟩;intros)|(refine Wo (aE hown rfl) ?_)|(refine Wdo (aE hown rfl) ?_)|(refine Wog (aE hown rfl) ?_)|(refine cT (aE hown rfl) ?_))
       refine Wog (aa (cs':=[lit (.bool true)]) rfl rfl om om hap hnm) ?_;repeat(first|(refine Wo (aH (spx ⟨x,y,false,false⟩) rfl) ?_)|(refine Wdo (aH (spx ⟨x,y,false,false⟩) rfl) ?_)|(refine A1 ⟨?_⟩;intros))
       refine jS hown (Tk.skip _ (Tk.same _)) om (fun s' H1 hown'=>?_);have hco':=hown'.co;replace hgo:=hgo s' H1 hown';clear hown hown';repeat(refine A1 ⟨?_⟩;intros)
       exact hgo _ _ lfA (Sc Sr)
      ·have hbv:b2=true:=by rw [hb2];exact decide_eq_true kc
       subst hbv;rw [if_neg om]at hy;subst hy;clear hb2 ac2;repeat(refine A1 ⟨?_⟩;intros)
       refine Wo (aa (cs':=[lit (.bool true)]) rfl rfl om om am hnm) ?_;repeat(refine A1 ⟨?_⟩;intros)
       refine WPL.lowB (cs':=spx ⟨0,0,false,true⟩) (.here _) (mB false true) ?_;refine Wo (aa (cs':=rqx x) rfl rfl om om al hc0) ?_;repeat(first|(refine A1 ⟨?_⟩;intros)|(refine Wo (aE hown rfl) ?_)|(refine Wdo (aE hown rfl) ?_)|(refine Wog (aE hown rfl) ?_)|(refine cT (aE hown rfl) ?_))
       refine Wog (aa (cs':=[lit (.bool true)]) rfl rfl om om hap hnm) ?_;repeat(first|(refine Wo (aH (spx ⟨x,0,false,true⟩) rfl) ?_)|(refine Wdo (aH (spx ⟨x,0,false,true⟩) rfl) ?_)|(refine A1 ⟨?_⟩;intros))
       refine jS hown (Tk.skip _ (Tk.same _)) om (fun s' H1 hown'=>?_);have hco':=hown'.co;replace hgo:=hgo s' H1 hown';clear hown hown';repeat(refine A1 ⟨?_⟩;intros)
       exact hgo _ _ lfA (Sc Sr)
 ·have hke:k=m.length:=by omega
  subst hke;refine WP.rowS 5 hown rfl (by rw [List.append_nil]) ?_;clear hK hown;repeat(refine A1 ⟨?_⟩;intros)
  exact aS (aJ (RV.tmp rfl) Lr)
theorem yD (s:Spn){n:Nat}(h:s.le n) (hn:n≤10000):Pu Tryz.prog 195 [ag (spx s)] (rq (aW s)):=by
 obtain⟨lo,hi,nl,nh⟩:=s;obtain⟨h1,h2⟩:=h;simp only at h1 h2;have:=fD;have c1:=eh hi 1 om om;have c2:=eK lo 1 om om;have c3:=Aj lo hi om om;unfold aW;cases nl <;> cases nh;rotate_left 3
 ·simp only [Bool.and_self,if_true];refine Pi Tryz.func195 fun C=>?_
  repeat(first|(refine A1 ⟨?_⟩;intros)|refine W4 mn ⟨?_⟩|refine W4 c1 ⟨?_⟩|refine W4 c2 ⟨?_⟩|refine W4 c3 ⟨?_⟩)
  ((first|refine aS ?_|refine eV ?_);refine aJ RVa ?_)
  exact Le.ag ⟨Le.refl _,mu,mv,trivial⟩
 all_goals
  simp only [Bool.and_true,Bool.and_false,Bool.true_and,Bool.false_and,Bool.and_self,Bool.false_eq_true,if_true,if_false];refine Pi Tryz.func195 fun C=>?_
  repeat(first|(refine A1 ⟨?_⟩;intros)|refine W4 mn ⟨?_⟩|refine W4 c1 ⟨?_⟩|refine W4 c2 ⟨?_⟩|refine W4 c3 ⟨?_⟩)
  exact G1
theorem kV {l m:Li}{s:Spn}(hl:l.sm) (hm:m.sm) (h:s.le 46):(eO l m s).le 46:=by
 have h1:=kN hl hm;have h2:=k8 hl h1;obtain⟨h3,h4⟩:=h;unfold eO;split
 ·split
  ·exact⟨by simp only;omega,h4⟩
  ·exact⟨h3,h4⟩
 ·split
  ·exact⟨h3,by simp only;omega⟩
  ·exact⟨h3,h4⟩
theorem lS {l:Li}(hl:l.sm) (i:Nat):∀(c:List Li) (k:Nat) (s:Spn),(∀m∈c,m.sm)→s.le 46→(f6 l i k c s).1.le 46
 | [],_,_,_,h=>h
 |m::c,k,s,hc,h=>by
  have hm:=hc m Ms;have hr:∀m∈c,m.sm:=fun x hx=>hc x (Mc hx)
  unfold f6;split
  ·exact lS hl i c _ _ hr h
  ·split
   ·split
    ·exact lS hl i c _ _ hr h
    ·exact h
   ·split
    ·exact kV hl hm h
    ·exact lS hl i c _ _ hr (kV hl hm h)
theorem tV:Spn.full.le 46:=⟨by have:=fw;show ht 0≤46;omega,by have:=fw;show ht 0≤46;omega⟩
theorem xT {c:List Li}{i:Nat}{l:Li}(hc:∀m∈c,m.sm) (hi:c[i]? = some l):(bS c i).1.le 46:=by
 unfold bS;rw [List.getD,hi];exact lS (hc l (List.mem_of_getElem? hi)) i c 0 _ hc tV
abbrev KP:List SV:=[lit (.bool false),lit (.slice none 0 0),lit (.slice none 0 0),lit (.bool false),lit (.slice none 0 0),lit (.slice none 0 0),lit (.bool false),lit (.bool false)]
theorem wN {c:List Li}{i:Nat}{l:Li}(hc:∀m∈c,m.sm) (hn:c.length≤100000) (hi:c[i]? = some l):Pu Tryz.prog 193 [lqs c,lit (.int .i64 i)] (Ab.tup [ag (spx (bS c i).1),lit (.bool (bS c i).2)]):=by
 have hl:=hc l (List.mem_of_getElem? hi);have hil:=(List.getElem?_eq_some_iff.1 hi).1;have hat0:=dJ (f:=lqx) (n:=6) fq hi;have hne0:(c.map lqx).flatten≠[]:=eI fq om (fun e=>by rw [e]at hil;simp at hil);have hR:bS c i=f6 l i 0 c Spn.full:=by unfold bS;rw [List.getD,hi];rfl
 generalize bS c i=R at *;refine Pi Tryz.func193 fun C=>?_
 repeat(refine A1 ⟨?_⟩;intros)
 rename_i b4;refine Wo (aa (cs':=lqx l) rfl rfl om om hat0 hne0) ?_;repeat(first|(refine A1 ⟨?_⟩;intros)|refine W4 wM ⟨?_⟩)
 rename_i b6 b7
 refine WP.loopS (ι:=Nat×Spn) (fun y=>y.1≤c.length∧y.2.le 46∧f6 l i y.1 (c.drop y.1) y.2=R) (fun y=>c.length-y.1)
  (fun y=>fm [(1,lit (.int .i64 i)),(4,lit (.pointer (some ⟨b4,0,none⟩))),(6,lit (.pointer (some ⟨b6,0,none⟩))),(7,lit (.pointer (some ⟨b7,0,none⟩))),(18,lqs c),(19,lit (.int .i64 c.length)),(20,lit (.int .i64 y.1))])
  (fun y=>[(b7,225,spx y.2),(b6,123,lqx l),(b4,225,KP)]) (0,Spn.full) ⟨Nat.zero_le _,tV,by rw [List.drop_zero];exact hR.symm⟩ lfA Sr ?_
 rintro ⟨k,s⟩ ⟨hk,hs,hgo⟩ K hK;simp only at hk hs hgo⊢;by_cases hkl:k<c.length
 ·obtain⟨m,hget,hmm,hat,hne⟩:=elt fq om hkl;have hm:=hc m hmm;rw [i9 hget]at hgo;have hnext:=fun s' (h1:s'.le 46) (h2:f6 l i (k+1) (c.drop (k+1)) s'=R) F' H'=>hK F' H' (k+1,s') ⟨by simp only;omega,h1,h2⟩ (by simp only;omega)
  unfold f6 at hgo;have d1:=r9 (l:=l) (m:=m) hl.ile hm.ile;have d2:=wG hl hm;have hsl:=kV hl hm hs;have hmt:=kN hl hm;have hpt:=k8 hl hmt;clear hK hc hi hat0 hne0 hget hmm;by_cases h1:k=i
  ·subst h1;rw [if_pos (.inl rfl)]at hgo;replace hnext:=hnext s hs hgo;clear hgo hsl hmt hpt d2;repeat(refine A1 ⟨?_⟩;intros)
   refine Wo (aa (cs':=lqx m) rfl rfl om om hat hne) ?_;repeat(first|(refine A1 ⟨?_⟩;intros)|refine W4 d1 ⟨?_⟩)
   exact hnext _ _ lfA (by repeat(first|exact Sr|refine Sc ?_))
  by_cases h2:kz l m=0
  ·rw [if_pos (.inr h2)]at hgo;replace hnext:=hnext s hs hgo;rw [h2]at d1;clear hgo hsl hmt hpt d2;repeat(refine A1 ⟨?_⟩;intros)
   refine Wo (aa (cs':=lqx m) rfl rfl om om hat hne) ?_;repeat(first|(refine A1 ⟨?_⟩;intros)|refine W4 d1 ⟨?_⟩)
   exact hnext _ _ lfA (by repeat(first|exact Sr|refine Sc ?_))
  rw [if_neg (fun h=>h.elim h1 h2)]at hgo;generalize kz l m=z0 at *;by_cases h3:bH l m=0
  ·rw [if_pos h3]at hgo;unfold rK at d2;rw [if_pos h3]at d2;obtain⟨q1,q2⟩:=oJ hl;have d3:=rd hl.1 hl.2;have d4:=nO (l:=m) (p:=aD l) hm ⟨om,om⟩;simp only [Option.getD_none,Option.isSome_none]at d2;clear hsl hmt hpt q1 q2;have e4:ag (rpx (aD l))=rp (l.bf*l.a) (l.bf*l.b):=rfl;rw [e4]at d4;clear e4;generalize cW m (aD l)=z1 at *;by_cases h4:0<z1
   ·rw [if_pos h4]at hgo;replace hnext:=hnext s hs hgo;clear hgo;repeat(refine A1 ⟨?_⟩;intros)
    refine Wo (aa (cs':=lqx m) rfl rfl om om hat hne) ?_;repeat(first|(refine A1 ⟨?_⟩;intros)|refine W4 d1 ⟨?_⟩|refine W4 d2 ⟨?_⟩|refine W4 d3 ⟨?_⟩|refine W4 d4 ⟨?_⟩)
    exact hnext _ _ lfA (by repeat(first|exact Sr|refine Sc ?_))
   ·rw [if_neg h4]at hgo;subst hgo;clear hnext;repeat(refine A1 ⟨?_⟩;intros)
    refine Wo (aa (cs':=lqx m) rfl rfl om om hat hne) ?_;repeat(first|(refine A1 ⟨?_⟩;intros)|refine W4 d1 ⟨?_⟩|refine W4 d2 ⟨?_⟩|refine W4 d3 ⟨?_⟩|refine W4 d4 ⟨?_⟩)
    exact G3
  rw [if_neg h3]at hgo;unfold rK at d2;rw [if_neg h3]at d2;simp only [Option.getD_some,Option.isSome_some]at d2;have d3:=lr (l:=l) (p:=aY l m) hl ⟨by have:=hmt.1;omega,by have:=hmt.2;omega⟩;have d4:=iQ m hm.ile;have d5:=iQ l hl.ile;obtain⟨x1,x2⟩:=dC hm;obtain⟨y1,y2⟩:=dC hl;have d6:=lx (dirL m).1 (dirL m).2 (dirL l).1 (dirL l).2 om om om om;have hx:=lV (dC hm) (dC hl);have d7:=kD (a9 (dirL m) (dirL l)) om;rw [show(dirL m).1*(dirL l).2-(dirL m).2*(dirL l).1=a9 (dirL m) (dirL l)from rfl]at d6;obtain⟨hs1,hs2⟩:=hs;have d8:=gT (bo l (aY l m)) s.lo om om;have d9:=gT (bo l (aY l m)) s.hi om om;have hbad:∀u:Spn,ef u=(!u.nl && !u.nh&&decide (0≤(u.lo-u.hi).num.sign)):=fun _=>rfl
  have hst:(if 0<(a9 (dirL m) (dirL l)).num.sign then(if s.nl=true∨0<(bo l (aY l m)-s.lo).num.sign then⟨bo l (aY l m),s.hi,false,s.nh⟩else s)
   else if s.nh=true∨(bo l (aY l m)-s.hi).num.sign<0 then⟨s.lo,bo l (aY l m),s.nl,false⟩else s)=eO l m s:=rfl
  generalize eO l m s=S at *;obtain⟨hS1,hS2⟩:=hsl;have e1:=gT S.lo S.hi om om;generalize aY l m=mp at *;generalize bo l mp=t at *;generalize(a9 (dirL m) (dirL l)).num.sign=zc at *;generalize a9 (dirL m) (dirL l)=cx at *;simp only [dirL]at d6;generalize(t-s.lo).num.sign=z5 at *;generalize(t-s.hi).num.sign=z6 at *;obtain⟨lo,hi',nl,nh⟩:=s;obtain⟨lo2,hi2,nl2,nh2⟩:=S;simp only at d8 d9 hst e1 hs1 hs2 hS1 hS2;rw [hbad]at hgo;simp only at hgo;clear hbad;generalize(lo2-hi2).num.sign=z7 at *;replace hnext:=hnext ⟨lo2,hi2,nl2,nh2⟩ ⟨hS1,hS2⟩;clear x1 x2 y1 y2 hx hmt hpt h3 hs1 hs2 hS1 hS2;repeat(refine A1 ⟨?_⟩;intros)
  refine Wo (aa (cs':=lqx m) rfl rfl om om hat hne) ?_;repeat(first|(refine A1 ⟨?_⟩;intros)|refine W4 d1 ⟨?_⟩|refine W4 d2 ⟨?_⟩|refine W4 d3 ⟨?_⟩|refine W4 d4 ⟨?_⟩|refine W4 d5 ⟨?_⟩|refine W4 d6 ⟨?_⟩|refine W4 d7 ⟨?_⟩)
  refine WP.via (fun F' H'=>LeF F' (fm [(1,lit (.int .i64 i)),(4,lit (.pointer (some ⟨b4,0,none⟩))),(6,lit (.pointer (some ⟨b6,0,none⟩))),(7,lit (.pointer (some ⟨b7,0,none⟩))),(18,lqs c),(19,lit (.int .i64 c.length)),(20,lit (.int .i64 k))])∧[(b7,225,spx ⟨lo2,hi2,nl2,nh2⟩),(b6,123,lqx l),(b4,225,KP)].Sublist H') ?_ ?_
  ·clear hgo hnext e1 d1 d2 d3 d4 d5 d6 d7;refine WPd (fun h4=>?_) (fun h4=>?_)
   ·rw [if_pos h4]at hst;by_cases h5:nl=true
    ·subst h5;rw [if_pos (.inl rfl)]at hst;cases hst;repeat(first|(refine A1 ⟨?_⟩;intros)|refine W4 d8 ⟨?_⟩)
     exact⟨lfA,by repeat(first|exact Sr|refine Sc ?_)⟩
    ·have h5:nl=false:=by cases nl;rfl;exact absurd rfl h5
     subst h5;by_cases h6:0<z5
     ·rw [if_pos (.inr h6)]at hst;cases hst;repeat(first|(refine A1 ⟨?_⟩;intros)|refine W4 d8 ⟨?_⟩)
      exact⟨lfA,by repeat(first|exact Sr|refine Sc ?_)⟩
     ·rw [if_neg (fun h=>h.elim (fun h=>by cases h) h6)]at hst;cases hst;repeat(first|(refine A1 ⟨?_⟩;intros)|refine W4 d8 ⟨?_⟩)
      exact⟨lfA,by repeat(first|exact Sr|refine Sc ?_)⟩
   ·rw [if_neg h4]at hst;by_cases h5:nh=true
    ·subst h5;rw [if_pos (.inl rfl)]at hst;cases hst;repeat(first|(refine A1 ⟨?_⟩;intros)|refine W4 d9 ⟨?_⟩)
     exact⟨lfA,by repeat(first|exact Sr|refine Sc ?_)⟩
    ·have h5:nh=false:=by cases nh;rfl;exact absurd rfl h5
     subst h5;by_cases h6:z6<0
     ·rw [if_pos (.inr h6)]at hst;cases hst;repeat(first|(refine A1 ⟨?_⟩;intros)|refine W4 d9 ⟨?_⟩)
      exact⟨lfA,by repeat(first|exact Sr|refine Sc ?_)⟩
     ·rw [if_neg (fun h=>h.elim (fun h=>by cases h) h6)]at hst;cases hst;repeat(first|(refine A1 ⟨?_⟩;intros)|refine W4 d9 ⟨?_⟩)
      exact⟨lfA,by repeat(first|exact Sr|refine Sc ?_)⟩
  ·rintro F' H' ⟨hF,hH⟩;refine WP.sub hH (WP.le hF ?_);clear hF hH hst d1 d2 d3 d4 d5 d6 d7 d8 d9;cases nl2
   ·cases nh2
    ·by_cases h8:0≤z7
     ·rw [if_pos (by simp [h8])]at hgo;subst hgo;clear hnext;repeat(first|(refine A1 ⟨?_⟩;intros)|refine W4 e1 ⟨?_⟩)
      exact G3
     ·rw [if_neg (by simp [h8])]at hgo;replace hnext:=hnext hgo;clear hgo;repeat(first|(refine A1 ⟨?_⟩;intros)|refine W4 e1 ⟨?_⟩)
      exact hnext _ _ lfA (by repeat(first|exact Sr|refine Sc ?_))
    ·rw [if_neg (by simp)]at hgo;replace hnext:=hnext hgo;clear hgo;repeat(first|(refine A1 ⟨?_⟩;intros)|refine W4 e1 ⟨?_⟩)
     exact hnext _ _ lfA (by repeat(first|exact Sr|refine Sc ?_))
   ·rw [if_neg (by simp)]at hgo;replace hnext:=hnext hgo;clear hgo;repeat(first|(refine A1 ⟨?_⟩;intros)|refine W4 e1 ⟨?_⟩)
    exact hnext _ _ lfA (by repeat(first|exact Sr|refine Sc ?_))
 ·have hke:k=c.length:=by omega
  subst hke;rw [List.drop_length]at hgo;have hR2:R=(s,true):=hgo.symm;subst hR2;clear hK hc;repeat(refine A1 ⟨?_⟩;intros)
  exact G3
end Go.Ab
