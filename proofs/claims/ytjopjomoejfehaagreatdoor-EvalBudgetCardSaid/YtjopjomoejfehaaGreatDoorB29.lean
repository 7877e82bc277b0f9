/- Texts laid one behind the other: GwH, Opn, Seg. -/
import Derived.Test.YtjopjomoejfehaaGreatDoorB28
set_option linter.all false
set_option maxHeartbeats 16000000
namespace Go.Ab
open Go.Proofs
variable [Base]
theorem F8 {a b:List SV}{k:Nat}(h:LeL a b):Le (sl a k) (sl b k):=fun m v hv=>by
 obtain⟨ad,cap,rfl,h1,h2,h3⟩:=fk hv;refine js h1 h2 ?_;rcases h3 with rfl|⟨b',off,rfl,arr,T,fz,h4,h5⟩
 ·left;cases b with
  |nil=>rfl
  |cons _ _=>exact h.elim
 ·right
  have hlen:a.length=b.length:=by
   clear h4 h5 hv;induction a generalizing b with
   |nil=>cases b with
    |nil=>rfl
    |cons _ _=>exact h.elim
   |cons x a ih=>cases b with
    |nil=>exact h.elim
    |cons y b=>simp [ih h.2]
  exact⟨b',off,rfl,arr,T,fz,h4,by rw [←hlen];exact bn.le h h5⟩
abbrev qT:TypeId:=94
abbrev sT:TypeId:=202
abbrev fT:TypeId:=204
theorem Own.one {T:TypeId}{sz b c:Nat}{cs:List SV}(h:cs.length=sz) (hc:1≤c) (hm:c≤maxLen) (hz:c=1):Own T sz 1 cs (lit (.slice (some ⟨b,0,none⟩) 1 c)) [(b,T,cs)]:=by
 subst hz;refine⟨om, .inr ⟨b,1,om,hm,rfl,?_⟩⟩;simp
theorem CL {a:Rat}{c:List Rat}:iI (a::c)=(a-1)::(List.zipWith mO (a::c) c++[(a::c).getLast (by simp)+1]):=rfl
def prB (c:List Rat) (k:Nat):List Rat:=(c.getD 0 0-1)::(List.range (k-1)).map fun j=>mO (c.getD j 0) (c.getD (j+1) 0)
theorem Ku {c:List Rat}{k:Nat}(hk:1≤k):prB c (k+1)=prB c k++[mO (c.getD (k-1) 0) (c.getD k 0)]:=by
 obtain⟨j,rfl⟩:∃j,k=j+1:=⟨k-1,om⟩
 unfold prB;simp only [dY];rw [iQ,aB];rfl
theorem zC:∀(a:Rat) (c:List Rat),List.zipWith mO (a::c) c=(List.range c.length).map fun j=>mO ((a::c).getD j 0) ((a::c).getD (j+1) 0)
 |_,[]=>rfl
 |a,b::c=>by
  rw [List.zipWith_cons_cons,zC b c,aE,List.range_succ_eq_map,aG,lp];rfl
theorem ER {c:List Rat}(h:c≠[]):iI c=prB c c.length++[c.getD (c.length-1) 0+1]:=by
 cases c with
 |nil=>exact absurd rfl h
 |cons a c =>
  rw [CL,zC];unfold prB;rw [xf];simp only [aE,dY,aa];congr 3
  rw [List.getD,ax (by simp)];rfl
structure FT where
 k:Nat
 s:SV
 Hs:LH
theorem EB (c:List Rat) (hl:c.length≤1000000) (hh:∀y∈c,ht y≤40000):Pu Tryz.prog 234 [rqs c] (rqs (iI c)):=by
 by_cases h0:c=[]
 ·subst h0;show Pu _ _ _ (rqs [0])
  refine Pi Tryz.func234 fun C=>?_
  repeat(first|(refine Wo (cJ ([lit (.bool false),lit (.slice none 0 0),lit (.slice none 0 0)]) rfl) ?_)|(refine Wdo (cJ ([lit (.bool false),lit (.slice none 0 0),lit (.slice none 0 0)]) rfl) ?_)|(refine A1 ⟨?_⟩;intros))
  exact db (bO (RV.tmp rfl) (F8 (b:=rqx 0) ⟨Le.refl _,wB,wC,trivial⟩))
 have h1:=lV;have hpos:=ez.2 h0;have hget:∀k,k<c.length→c[k]? = some (c.getD k 0):=fun k hk=>by rw [List.getD,ax hk];rfl
 have hht:∀k,k<c.length→ht (c.getD k 0)≤40000:=fun k hk=>hh _ (bo (hget k hk))
 have hatk:∀k,k<c.length→(((c.map rqx).flatten).drop (k*3)).take 3=rqx (c.getD k 0):=fun k hk=>fV (f:=rqx) (n:=3) mJ (hget k hk)
 have hne:(c.map rqx).flatten≠[]:=gD mJ om h0;have a0:=hatk 0 hpos;have b0:=hht 0 hpos;have aL:=hatk (c.length-1) om;have bL:=hht (c.length-1) om;have e1:=mj (c.getD 0 0) 1 om om;have e2:=jL (c.getD (c.length-1) 0) 1 om om;rw [ER h0]
 have hg:∀k,1≤k→k<c.length→∀s Hs,Own qT 3 (k+1) (((prB c k).map rqx).flatten++rqx (mO (c.getD (k-1) 0) (c.getD k 0))) s Hs→Own qT 3 (prB c (k+1)).length ((prB c (k+1)).map rqx).flatten s Hs:=fun k hk1 hk2 s Hs h=>by
  rw [Ku hk1,aB,cS,ac,bh];have e:(prB c k).length=k:=by unfold prB;simp;omega
  rw [e];simpa using h
 have hpl:∀k,1≤k→(prB c k).length=k:=fun k hk=>by unfold prB;simp;omega
 have hp1:((prB c 1).map rqx).flatten=rqx (c.getD 0 0-1):=by unfold prB;simp
 have hfin:∀s Hs,Own qT 3 (c.length+1) (((prB c c.length).map rqx).flatten++rqx (c.getD (c.length-1) 0+1)) s Hs→Own qT 3 (prB c c.length++[c.getD (c.length-1) 0+1]).length ((prB c c.length++[c.getD (c.length-1) 0+1]).map rqx).flatten s Hs:=fun s Hs h=>by
  rw [aB,cS,ac,bh,hpl _ hpos];simpa using h
 generalize hX:c.getD 0 0-1=x0 at *;generalize hY:c.getD (c.length-1) 0+1=xL at *;have e3:∀k,1≤k→k<c.length→Pu Tryz.prog 178 [rq (c.getD (k-1) 0),rq (c.getD k 0)] (rq (mO (c.getD (k-1) 0) (c.getD k 0))):=fun k h2 h3=>Gg _ _ (by have:=hht (k-1) om;omega) (by have:=hht k h3;omega)
 refine Pi Tryz.func234 fun C=>?_
 repeat(first|(refine AS ⟨?_⟩;intros)|(refine O1 ⟨?_⟩;intros))
 refine WdN 6 ?_;refine A2 ⟨?_⟩;intros;refine Wdo (ae (cs':=rqx (c.getD 0 0)) rfl rfl om om a0 hne) ?_;refine D2 u7 e1 ⟨?_⟩;intros;rename_i b3
 refine WP.loopS (ι:=FT) (fun y=>1≤y.k∧y.k≤c.length∧Own qT 3 (prB c y.k).length ((prB c y.k).map rqx).flatten y.s y.Hs) (fun y=>c.length-y.k)
  (fun y=>fm [(0,rqs c),(3,y.s),(4,lit (.int .i64 y.k))]) (fun y=>y.Hs) ⟨1,lit (.slice (some ⟨b3,0,none⟩) 1 1),[(b3,qT,rqx x0)]⟩
  ⟨ar _,hpos,by rw [hpl 1 om,hp1];exact Own.one rfl om (by decide) rfl⟩ lfA Sr ?_
 rintro ⟨k,s,Hs⟩ ⟨hk1,hk2,hown⟩ K hK;simp only at hk1 hk2 hown⊢;have hco:=hown.co;have hkl:=hpl k hk1;by_cases hkc:k<c.length
 ·have a1:(((c.map rqx).flatten).drop (((k:Int)-1).toNat*3)).take 3=rqx (c.getD (k-1) 0):=by rw [show((k:Int)-1).toNat=k-1 by omega];exact hatk (k-1) om
  have a2:=hatk k hkc;have em:=e3 k hk1 hkc;have hgo:=fun s' Hs' h F' H'=>hK F' H' ⟨k+1,s',Hs'⟩ ⟨by simp only;omega,by simp only;omega,hg k hk1 hkc s' Hs' h⟩ (by simp only;omega)
  rw [hkl]at hown;clear hK hg hfin e3 hatk hht hget hh;generalize mO (c.getD (k-1) 0) (c.getD k 0)=xm at *;repeat(first|(refine AS ⟨?_⟩;intros)|(refine O1 ⟨?_⟩;intros))
  refine WdZ 13 [0,1,2,3,4,5,6,7,8,9,10,11,12] [12] Hs [] ?_ (by rw [bw]);refine ZkD 12 ?_;refine A2 ⟨?_⟩;intros;refine Wdo (ae (cs':=rqx (c.getD (k-1) 0)) rfl rfl om om a1 hne) ?_;refine A2 ⟨?_⟩;intros;refine Wdo (ae (cs':=rqx (c.getD k 0)) rfl rfl om om a2 hne) ?_;repeat(first|(refine Wo (cJ (rqx xm) rfl) ?_)|(refine Wdo (cJ (rqx xm) rfl) ?_)|(refine A1 ⟨?_⟩;intros)|refine W4 em ⟨?_⟩)
  refine Bx ?_;refine ZkA hown (Tk.same _) om (fun s' H' hown'=>?_);refine ZkN ?_;have hco':=hown'.co;replace hgo:=hgo s' H' hown';rw [bw,bw];clear hown hown';refine A2 ⟨?_⟩;intros;exact hgo _ _ lfA Sr
 ·have hke:k=c.length:=by omega
  subst hke;rw [hkl]at hown;clear hK hg e3 hatk hht hget hh;replace aL:(((c.map rqx).flatten).drop (((c.length:Int)-1).toNat*3)).take 3=rqx (c.getD (c.length-1) 0):=by rw [show((c.length:Int)-1).toNat=c.length-1 by omega];exact aL
  repeat(first|(refine AS ⟨?_⟩;intros)|(refine O1 ⟨?_⟩;intros))
  refine WdZ 11 [0,1,2,3,4,5,6,7,8,9,10] [10] Hs [] ?_ (by rw [bw]);refine ZkD 10 ?_;refine A2 ⟨?_⟩;intros;refine Wdo (ae (cs':=rqx (c.getD (c.length-1) 0)) rfl rfl om om aL hne) ?_;repeat(first|(refine Wo (cJ (rqx xL) rfl) ?_)|(refine Wdo (cJ (rqx xL) rfl) ?_)|(refine A1 ⟨?_⟩;intros)|refine W4 u7 ⟨?_⟩|refine W4 e2 ⟨?_⟩)
  refine Bx ?_;refine ZkA hown (Tk.same _) om (fun s' H' hown'=>?_);refine ZkN ?_;replace hown':=hfin _ _ hown';have hco':=hown'.co;rw [bw,bw];refine WPL.rowS 45 hown' rfl (by rw [bw]) ?_;refine A2 ⟨?_⟩;intros;exact db (bO (RV.tmp rfl) Lr)
abbrev bls (l:List Bool):SV:=sl (l.map fun b=>[lit (.bool b)]).flatten l.length
theorem Mu (b:Bool):([lit (.bool b)]:List SV).length=1:=rfl
theorem yA (c:List Rat) (m:List Bool) (k:Nat):(List.range (k+1)).foldl (gW c m) []=gW c m ((List.range k).foldl (gW c m) []) k:=by
 rw [iQ,jB];rfl
theorem AA (c:List Rat) (m:List Bool):∀k,((List.range k).foldl (gW c m) []).length≤k
 |0=>ar _
 |k+1=>by
  have:=AA c m k;have:=BN c m ((List.range k).foldl (gW c m) []) k;rw [yA];omega
theorem B4:∀(ds A B:List SV) (o:Nat),spl (A++B) (A.length+o) ds=A++spl B o ds
 | [],_,_,_=>rfl
 |d::ds,A,B,o=>by
  show spl ((A++B).set (A.length+o) d) (A.length+o+1) ds=A++spl (B.set o d) (o+1) ds
  rw [ly _ _ om,show A.length+o-A.length=o by omega,jQ];exact B4 ds A (B.set o d) (o+1)
theorem yD {α:Type}{f:α→List SV}{l:List α}{k:Nat}{a:α}(h:l[k]? = some a):(l.map f).flatten=((l.take k).map f).flatten++(f a++((l.drop (k+1)).map f).flatten):=by
 have e:l.take k++a::l.drop (k+1)=l:=by rw [←mQ h,iZ]
 have e2:((l.take k++a::l.drop (k+1)).map f).flatten=((l.take k).map f).flatten++(f a++((l.drop (k+1)).map f).flatten):=by rw [aB,cS,aG,bP]
 rw [e]at e2;exact e2
theorem DO {α:Type}{f:α→List SV}{l:List α}{k:Nat}{s:α}(h:k<l.length):((l.set k s).map f).flatten=((l.take k).map f).flatten++(f s++((l.drop (k+1)).map f).flatten):=by
 rw [List.set_eq_take_append_cons_drop,if_pos h,aB,cS,aG,bP]
theorem N6 {l:List Spn}{k:Nat}{a:Spn}{R:List SV}(hi:Rat) (h:l[k]? = some a):spl ((l.map spx).flatten++R) (0+k*8+3) (rqx hi)=((l.set k ⟨a.lo,hi,a.nl,a.nh⟩).map spx).flatten++R:=by
 have hk:=(bC.1 h).1;have hA:(((l.take k).map spx).flatten).length=k*8:=by rw [fM ou,aA];congr 1;omega
 rw [yD h,DO hk,av,av,show 0+k*8+3=(((l.take k).map spx).flatten).length+3 by omega,B4,av,av];rfl
theorem N5 {l:List Spn}{k:Nat}{a:Spn}{R:List SV}(nh:Bool) (h:l[k]? = some a):spl ((l.map spx).flatten++R) (0+k*8+7) [lit (.bool nh)]=((l.set k ⟨a.lo,a.hi,a.nl,nh⟩).map spx).flatten++R:=by
 have hk:=(bC.1 h).1;have hA:(((l.take k).map spx).flatten).length=k*8:=by rw [fM ou,aA];congr 1;omega
 rw [yD h,DO hk,av,av,show 0+k*8+7=(((l.take k).map spx).flatten).length+7 by omega,B4,av,av];rfl
theorem JT {l:List Spn}{k j:Nat}{R:List SV}(h:k<l.length) (hj:j≤8):Nat.ble (0+k*8+j) ((l.map spx).flatten++R).length=true:=by
 apply pL;rw [ac,fM ou];have:(k+1)*8≤l.length*8:=aT _ h;omega
abbrev bT:TypeId:=4
theorem tc (a b:Bool):LeL [lit (.bool false),lit (.slice none 0 0),lit (.slice none 0 0),lit (.bool false),lit (.slice none 0 0),lit (.slice none 0 0),lit (.bool a),lit (.bool b)] (spx ⟨0,0,a,b⟩):=⟨Le.refl _,wB,wC,Le.refl _,wB,wC,Le.refl _,Le.refl _,trivial⟩
theorem Ki (c:List Rat) (m:List Bool) (hl:c.length≤1000000) (hm:m.length=c.length+1):Pu Tryz.prog 236 [rqs c,bls m] (sps (yB c m)):=by
 have hgc:∀k,k<c.length→(((c.map rqx).flatten).drop (k*3)).take 3=rqx (c.getD k 0):=fun k hk=>fV (f:=rqx) (n:=3) mJ (by rw [List.getD,ax hk];rfl)
 have hgm:∀k,k<m.length→(((m.map fun b=>[lit (.bool b)]).flatten).drop (k*1)).take 1=[lit (.bool (m.getD k false))]:=fun k hk=>fV (f:=fun b=>[lit (.bool b)]) (n:=1) Mu (by rw [List.getD,ax hk];rfl)
 have hnm:(m.map fun b=>[lit (.bool b)]).flatten≠[]:=gD Mu om (fun e=>by rw [e]at hm;simp at hm);unfold yB;refine Pi Tryz.func236 fun C=>?_
 refine A2 ⟨?_⟩;intros
 refine WP.loopS (ι:=FT) (fun y=>y.k≤m.length∧Own sT 8 ((List.range y.k).foldl (gW c m) []).length (((List.range y.k).foldl (gW c m) []).map spx).flatten y.s y.Hs) (fun y=>m.length-y.k)
  (fun y=>fm [(0,rqs c),(1,bls m),(5,y.s),(10,bls m),(11,lit (.int .i64 m.length)),(12,lit (.int .i64 y.k))]) (fun y=>y.Hs) ⟨0,lit (.slice none 0 0),[]⟩
  ⟨ak _,Own.nil _ _⟩ lfA (aF _) ?_
 rintro ⟨k,s,Hs⟩ ⟨hk,hown⟩ K hK;simp only at hk hown⊢;have hco:=hown.co;have hfl:=AA c m k;by_cases hkl:k<m.length
 ·have am:=hgm k hkl;have hgo:=fun s' Hs' h F' H'=>hK F' H' ⟨k+1,s',Hs'⟩ ⟨by simp only;omega,h⟩ (by simp only;omega)
  simp only [yA]at hgo;have ei:((k:Int)-1).toNat=k-1:=by omega
  have hap:(((m.map fun b=>[(lit (.bool b):SV)]).flatten).drop (((k:Int)-1).toNat*1)).take 1=[lit (.bool (m.getD (k-1) false))]:=by rw [ei];exact hgm (k-1) om
  have ac1:0<k→(((c.map rqx).flatten).drop (((k:Int)-1).toNat*3)).take 3=rqx (c.getD (k-1) 0):=fun h=>by rw [ei];exact hgc (k-1) om
  have ac2:=fun h:k<c.length=>hgc k h
  have hnc:0<c.length→(c.map rqx).flatten≠[]:=fun h=>gD mJ om (fun e=>by rw [e]at h;simp at h)
  generalize(List.range k).foldl (gW c m) []=out at *;unfold gW at hgo;clear hK hgc hgm;cases hmk:m.getD k false with
  |false =>
   rw [hmk]at hgo am;rw [if_pos rfl]at hgo;replace hgo:=hgo s Hs hown;clear hap ac1 ac2 hnc;refine A2 ⟨?_⟩;intros;refine Wo (ae (cs':=[lit (.bool false)]) rfl rfl om om am hnm) ?_;refine A2 ⟨?_⟩;intros;exact hgo _ _ lfA Sr
  |true =>
   rw [hmk]at hgo am;rw [if_neg (by decide)]at hgo;have hsp:oL c k=⟨if 0<k then c.getD (k-1) 0 else 0,if k<c.length then c.getD k 0 else 0,decide (k=0),decide (k=c.length)⟩:=rfl;obtain⟨x,hx⟩:∃x,x=if 0<k then c.getD (k-1) 0 else 0:=⟨_,rfl⟩
   obtain⟨y,hy⟩:∃y,y=if k<c.length then c.getD k 0 else 0:=⟨_,rfl⟩
   rw [←hx,←hy]at hsp;rw [hsp]at hgo;have hlo:LeL [lit (.bool false),lit (.slice none 0 0),lit (.slice none 0 0)] (rqx 0):=by repeat(first|exact trivial|refine⟨?_,?_⟩|exact Le.refl _|exact wB|exact wC)
   obtain⟨x1,x2,x3,_⟩:=hlo;have hle:out.length≤1000000:=by omega
   by_cases hj:0<k∧m.getD (k-1) false=true∧0<out.length
   ·obtain⟨j1,j2,j3⟩:=hj;rw [if_pos ⟨j1,j2,j3⟩]at hgo;rw [j2]at hap;rw [if_pos j1]at hx;have al:=ac1 j1;rw [←hx]at al;obtain⟨o,ho⟩:∃o,out[out.length-1]? = some o:=⟨_,ax om⟩
    have hoD:out.getD (out.length-1) Spn.full=o:=by rw [List.getD,ho];rfl
    rw [hoD]at hgo;have hc0:(c.map rqx).flatten≠[]:=hnc om;obtain⟨b1,c1,hnc1,hcm,rfl,rfl⟩:=hown.blk j3;have hol:=hown.1
    have hout2:Own sT 8 (out.set (out.length-1) ⟨o.lo,y,o.nl,decide (k=c.length)⟩).length ((out.set (out.length-1) ⟨o.lo,y,o.nl,decide (k=c.length)⟩).map spx).flatten (lit (.slice (some ⟨b1,0,none⟩) out.length c1)) [(b1,sT,((out.set (out.length-1) ⟨o.lo,y,o.nl,decide (k=c.length)⟩).map spx).flatten++List.replicate (c1*8-out.length*8) top)]:=by
     refine⟨fM ou _, .inr ⟨b1,c1,by rw [gK];exact hnc1,hcm,by rw [gK],by rw [gK]⟩⟩
    replace hgo:=hgo _ _ hout2;have s1:=N6 (R:=List.replicate (c1*8-out.length*8) top) y ho;have ho2:(out.set (out.length-1) ⟨o.lo,y,o.nl,o.nh⟩)[out.length-1]? = some ⟨o.lo,y,o.nl,o.nh⟩:=by rw [List.getElem?_set_self om]
    have s2:=N5 (R:=List.replicate (c1*8-out.length*8) top) (decide (k=c.length)) ho2;rw [List.set_set]at s2;have q1:=JT (l:=out) (k:=out.length-1) (j:=6) (R:=List.replicate (c1*8-out.length*8) top) om om;have q2:=JT (l:=out.set (out.length-1) ⟨o.lo,y,o.nl,o.nh⟩) (k:=out.length-1) (j:=8) (R:=List.replicate (c1*8-out.length*8) top) (by rw [gK];omega) om;clear hown hout2 hol hoD ho ho2;generalize(out.set (out.length-1) ⟨o.lo,y,o.nl,o.nh⟩).map spx=cs1 at *;generalize(out.set (out.length-1) ⟨o.lo,y,o.nl,decide (k=c.length)⟩).map spx=cs2 at *;have eo:0+(out.length-1)*8=((out.length:Int)-1).toNat*8:=by omega
    rw [eo]at s1 s2 q1 q2;clear eo;rcases(by omega:k<c.length∨k=c.length)with kc|kc
    ·have ah:=ac2 kc;rw [if_pos kc]at hy;rw [←hy]at ah;have kd:decide (k=c.length)=false:=ab om;rw [kd]at s2;clear ac1 ac2 hx hy hsp hnc;refine A2 ⟨?_⟩;intros;refine Wo (ae (cs':=[lit (.bool true)]) rfl rfl om om am hnm) ?_;refine A2 ⟨?_⟩;intros;refine Wo (ae (cs':=rqx x) rfl rfl om om al hc0) ?_;refine A2 ⟨?_⟩;intros;refine Wo (ae (cs':=rqx y) rfl rfl om om ah hc0) ?_;repeat(first|(refine A1 ⟨?_⟩;intros)|(refine Wo (be hown rfl) ?_)|(refine Wdo (be hown rfl) ?_)|(refine Wog (be hown rfl) ?_)|(refine fO (be hown rfl) ?_))
     refine Wog (ae (cs':=[lit (.bool true)]) rfl rfl om om hap hnm) ?_;repeat(first|(refine AS ⟨?_⟩;intros)|(refine O1 ⟨?_⟩;intros))
     refine WdL 10 3 ?_;refine A2 ⟨?_⟩;intros;refine dL0 ?_;refine Gv ?_ ?_
     ·(repeat(first|exact LOk.nil|refine Lsk ?_|refine Lcv ?_))
     refine Gv ?_ ?_
     ·(repeat(first|exact LOk.nil|refine Lsk ?_|refine Lcv ?_))
     refine Gs (b:=b1) (o:=((out.length:Int)-1).toNat*8+3) (sv:=ag (rqx y)) rfl rfl rfl (.there _ (.here _)) s1 q1 ?_ ?_
     ·(repeat(first|exact LOk.nil|refine Lsk ?_|refine Lcv ?_))
     refine Gn ?_ ?_
     ·(repeat(first|exact LOk.nil|refine Lsk ?_|refine Lcv ?_))
     refine A2 ⟨?_⟩;intros;refine WPL.store (b:=b1) (o:=((out.length:Int)-1).toNat*8+7) (sv:=lit (.bool false)) rfl rfl rfl (.there _ (.here _)) s2 q2 ?_;refine A2 ⟨?_⟩;intros;exact hgo _ _ lfA (Sc Sr)
    ·rw [if_neg om]at hy;have kd:decide (k=c.length)=true:=a9 kc;rw [kd]at s2;clear ac1 ac2 hx hsp hnc;subst hy;refine A2 ⟨?_⟩;intros;refine Wo (ae (cs':=[lit (.bool true)]) rfl rfl om om am hnm) ?_;refine A2 ⟨?_⟩;intros;refine WPL.lowB (cs':=spx ⟨0,0,false,true⟩) (.here _) (tc false true) ?_;refine Wo (ae (cs':=rqx x) rfl rfl om om al hc0) ?_;repeat(first|(refine A1 ⟨?_⟩;intros)|(refine Wo (be hown rfl) ?_)|(refine Wdo (be hown rfl) ?_)|(refine Wog (be hown rfl) ?_)|(refine fO (be hown rfl) ?_))
     refine Wog (ae (cs':=[lit (.bool true)]) rfl rfl om om hap hnm) ?_;repeat(first|(refine AS ⟨?_⟩;intros)|(refine O1 ⟨?_⟩;intros))
     refine WdL 10 3 ?_;refine A2 ⟨?_⟩;intros;refine dL0 ?_;refine Gv ?_ ?_
     ·(repeat(first|exact LOk.nil|refine Lsk ?_|refine Lcv ?_))
     refine Gv ?_ ?_
     ·(repeat(first|exact LOk.nil|refine Lsk ?_|refine Lcv ?_))
     refine Gs (b:=b1) (o:=((out.length:Int)-1).toNat*8+3) (sv:=ag (rqx 0)) rfl rfl rfl (.there _ (.here _)) s1 q1 ?_ ?_
     ·(repeat(first|exact LOk.nil|refine Lsk ?_|refine Lcv ?_))
     refine Gn ?_ ?_
     ·(repeat(first|exact LOk.nil|refine Lsk ?_|refine Lcv ?_))
     refine A2 ⟨?_⟩;intros;refine WPL.store (b:=b1) (o:=((out.length:Int)-1).toNat*8+7) (sv:=lit (.bool true)) rfl rfl rfl (.there _ (.here _)) s2 q2 ?_;refine A2 ⟨?_⟩;intros;exact hgo _ _ lfA (Sc Sr)
   ·rw [if_neg hj]at hgo;obtain⟨b1,hb1⟩:∃b,b=decide (k=0):=⟨_,rfl⟩
    obtain⟨b2,hb2⟩:∃b,b=decide (k=c.length):=⟨_,rfl⟩
    rw [←hb1,←hb2]at hgo;have hap1:((out.map spx).flatten++spx ⟨x,y,b1,b2⟩)=((out++[(⟨x,y,b1,b2⟩:Spn)]).map spx).flatten:=by rw [aB,cS];simp
    have hln:(out++[(⟨x,y,b1,b2⟩:Spn)]).length=out.length+1:=by simp
    replace hgo:=fun s' Hs' (h:Own sT 8 (out.length+1) ((out.map spx).flatten++spx ⟨x,y,b1,b2⟩) s' Hs')=>hgo s' Hs' (by rw [hln,←hap1];exact h)
    clear hap1 hln hsp;rcases(by omega:k=0∨0<k)with k0|k0
    ·have hbv:b1=true:=by rw [hb1];exact a9 k0
     subst hbv;rw [if_neg om]at hx;subst hx;clear hb1 hj ac1 hap;rcases(by omega:k<c.length∨k=c.length)with kc|kc
     ·have hbv:b2=false:=by rw [hb2];exact ab om
      subst hbv;have ah:=ac2 kc;rw [if_pos kc]at hy;rw [←hy]at ah;have hc0:=hnc om;clear hb2 hnc ac2 hy;refine A2 ⟨?_⟩;intros;refine Wo (ae (cs':=[lit (.bool true)]) rfl rfl om om am hnm) ?_;refine A2 ⟨?_⟩;intros;refine WPL.lowB (cs':=spx ⟨0,0,true,false⟩) (.here _) (tc true false) ?_;refine Wo (ae (cs':=rqx y) rfl rfl om om ah hc0) ?_;repeat(first|(refine Wo (cJ (spx ⟨0,y,true,false⟩) rfl) ?_)|(refine Wdo (cJ (spx ⟨0,y,true,false⟩) rfl) ?_)|(refine A1 ⟨?_⟩;intros)|(refine Wo (be hown rfl) ?_)|(refine Wdo (be hown rfl) ?_)|(refine Wog (be hown rfl) ?_)|(refine fO (be hown rfl) ?_))
      refine rx hown (Tk.skip _ (Tk.same _)) om (fun s' H1 hown'=>?_);have hco':=hown'.co;replace hgo:=hgo s' H1 hown';clear hown hown';refine A2 ⟨?_⟩;intros;exact hgo _ _ lfA (Sc Sr)
     ·have hbv:b2=true:=by rw [hb2];exact a9 kc
      subst hbv;rw [if_neg om]at hy;subst hy;clear hb2 hnc ac2;refine A2 ⟨?_⟩;intros;refine Wo (ae (cs':=[lit (.bool true)]) rfl rfl om om am hnm) ?_;refine A2 ⟨?_⟩;intros;refine WPL.lowB (cs':=spx ⟨0,0,true,true⟩) (.here _) (tc true true) ?_;repeat(first|(refine Wo (cJ (spx ⟨0,0,true,true⟩) rfl) ?_)|(refine Wdo (cJ (spx ⟨0,0,true,true⟩) rfl) ?_)|(refine A1 ⟨?_⟩;intros)|(refine Wo (be hown rfl) ?_)|(refine Wdo (be hown rfl) ?_)|(refine Wog (be hown rfl) ?_)|(refine fO (be hown rfl) ?_))
      refine rx hown (Tk.skip _ (Tk.same _)) om (fun s' H1 hown'=>?_);have hco':=hown'.co;replace hgo:=hgo s' H1 hown';clear hown hown';refine A2 ⟨?_⟩;intros;exact hgo _ _ lfA (Sc Sr)
    ·have hbv:b1=false:=by rw [hb1];exact ab om
     subst hbv;rw [if_pos k0]at hx;have al:=ac1 k0;rw [←hx]at al;have hc0:=hnc om;clear hb1 hx ac1 hnc;cases hm1:m.getD (k-1) false with
     |false =>
      rw [hm1]at hap;clear hj hm1;rcases(by omega:k<c.length∨k=c.length)with kc|kc
      ·have hbv:b2=false:=by rw [hb2];exact ab om
       subst hbv;have ah:=ac2 kc;rw [if_pos kc]at hy;rw [←hy]at ah;clear hb2 ac2 hy;refine A2 ⟨?_⟩;intros;refine Wo (ae (cs':=[lit (.bool true)]) rfl rfl om om am hnm) ?_;refine A2 ⟨?_⟩;intros;refine WPL.lowB (cs':=spx ⟨0,0,false,false⟩) (.here _) (tc false false) ?_;refine Wo (ae (cs':=rqx x) rfl rfl om om al hc0) ?_;refine A2 ⟨?_⟩;intros;refine Wo (ae (cs':=rqx y) rfl rfl om om ah hc0) ?_;repeat(first|(refine A1 ⟨?_⟩;intros)|(refine Wo (be hown rfl) ?_)|(refine Wdo (be hown rfl) ?_)|(refine Wog (be hown rfl) ?_)|(refine fO (be hown rfl) ?_))
       refine Wog (ae (cs':=[lit (.bool false)]) rfl rfl om om hap hnm) ?_;repeat(first|(refine Wo (cJ (spx ⟨x,y,false,false⟩) rfl) ?_)|(refine Wdo (cJ (spx ⟨x,y,false,false⟩) rfl) ?_)|(refine A1 ⟨?_⟩;intros))
       refine rx hown (Tk.skip _ (Tk.same _)) om (fun s' H1 hown'=>?_);have hco':=hown'.co;replace hgo:=hgo s' H1 hown';clear hown hown';refine A2 ⟨?_⟩;intros;exact hgo _ _ lfA (Sc Sr)
      ·have hbv:b2=true:=by rw [hb2];exact a9 kc
       subst hbv;rw [if_neg om]at hy;subst hy;clear hb2 ac2;refine A2 ⟨?_⟩;intros;refine Wo (ae (cs':=[lit (.bool true)]) rfl rfl om om am hnm) ?_;refine A2 ⟨?_⟩;intros;refine WPL.lowB (cs':=spx ⟨0,0,false,true⟩) (.here _) (tc false true) ?_;refine Wo (ae (cs':=rqx x) rfl rfl om om al hc0) ?_;repeat(first|(refine A1 ⟨?_⟩;intros)|(refine Wo (be hown rfl) ?_)|(refine Wdo (be hown rfl) ?_)|(refine Wog (be hown rfl) ?_)|(refine fO (be hown rfl) ?_))
       refine Wog (ae (cs':=[lit (.bool false)]) rfl rfl om om hap hnm) ?_;repeat(first|(refine Wo (cJ (spx ⟨x,0,false,true⟩) rfl) ?_)|(refine Wdo (cJ (spx ⟨x,0,false,true⟩) rfl) ?_)|(refine A1 ⟨?_⟩;intros))
       refine rx hown (Tk.skip _ (Tk.same _)) om (fun s' H1 hown'=>?_);have hco':=hown'.co;replace hgo:=hgo s' H1 hown';clear hown hown';refine A2 ⟨?_⟩;intros;exact hgo _ _ lfA (Sc Sr)
     |true =>
      rw [hm1]at hap
      have hz:out.length=0:=by
       rcases(by omega:out.length=0∨0<out.length)with h|h
       ·exact h
       ·exact absurd ⟨k0,hm1,h⟩ hj
      clear hj hm1;rcases(by omega:k<c.length∨k=c.length)with kc|kc
      ·have hbv:b2=false:=by rw [hb2];exact ab om
       subst hbv;have ah:=ac2 kc;rw [if_pos kc]at hy;rw [←hy]at ah;clear hb2 ac2 hy;refine A2 ⟨?_⟩;intros;refine Wo (ae (cs':=[lit (.bool true)]) rfl rfl om om am hnm) ?_;refine A2 ⟨?_⟩;intros;refine WPL.lowB (cs':=spx ⟨0,0,false,false⟩) (.here _) (tc false false) ?_;refine Wo (ae (cs':=rqx x) rfl rfl om om al hc0) ?_;refine A2 ⟨?_⟩;intros;refine Wo (ae (cs':=rqx y) rfl rfl om om ah hc0) ?_;repeat(first|(refine A1 ⟨?_⟩;intros)|(refine Wo (be hown rfl) ?_)|(refine Wdo (be hown rfl) ?_)|(refine Wog (be hown rfl) ?_)|(refine fO (be hown rfl) ?_))
       refine Wog (ae (cs':=[lit (.bool true)]) rfl rfl om om hap hnm) ?_;repeat(first|(refine Wo (cJ (spx ⟨x,y,false,false⟩) rfl) ?_)|(refine Wdo (cJ (spx ⟨x,y,false,false⟩) rfl) ?_)|(refine A1 ⟨?_⟩;intros))
       refine rx hown (Tk.skip _ (Tk.same _)) om (fun s' H1 hown'=>?_);have hco':=hown'.co;replace hgo:=hgo s' H1 hown';clear hown hown';refine A2 ⟨?_⟩;intros;exact hgo _ _ lfA (Sc Sr)
      ·have hbv:b2=true:=by rw [hb2];exact a9 kc
       subst hbv;rw [if_neg om]at hy;subst hy;clear hb2 ac2;refine A2 ⟨?_⟩;intros;refine Wo (ae (cs':=[lit (.bool true)]) rfl rfl om om am hnm) ?_;refine A2 ⟨?_⟩;intros;refine WPL.lowB (cs':=spx ⟨0,0,false,true⟩) (.here _) (tc false true) ?_;refine Wo (ae (cs':=rqx x) rfl rfl om om al hc0) ?_;repeat(first|(refine A1 ⟨?_⟩;intros)|(refine Wo (be hown rfl) ?_)|(refine Wdo (be hown rfl) ?_)|(refine Wog (be hown rfl) ?_)|(refine fO (be hown rfl) ?_))
       refine Wog (ae (cs':=[lit (.bool true)]) rfl rfl om om hap hnm) ?_;repeat(first|(refine Wo (cJ (spx ⟨x,0,false,true⟩) rfl) ?_)|(refine Wdo (cJ (spx ⟨x,0,false,true⟩) rfl) ?_)|(refine A1 ⟨?_⟩;intros))
       refine rx hown (Tk.skip _ (Tk.same _)) om (fun s' H1 hown'=>?_);have hco':=hown'.co;replace hgo:=hgo s' H1 hown';clear hown hown';refine A2 ⟨?_⟩;intros;exact hgo _ _ lfA (Sc Sr)
 ·have hke:k=m.length:=by omega
  subst hke;refine WP.rowS 5 hown rfl (by rw [bw]) ?_;clear hK hown;refine A2 ⟨?_⟩;intros;exact db (bO (RV.tmp rfl) Lr)
theorem PZ {a b:Rat}(h:a≠0∨b≠0):0<a*a+b*b:=by
 have ha:0≤a*a:=by
  by_cases q:0≤a
  ·exact dh q q
  ·have:=dh (show 0≤-a by grind) (show 0≤-a by grind);grind
 have hb:0≤b*b:=by
  by_cases q:0≤b
  ·exact dh q q
  ·have:=dh (show 0≤-b by grind) (show 0≤-b by grind);grind
 by_cases e:a*a+b*b=0
 ·have e1:a*a=0:=by grind
  have e2:b*b=0:=by grind
  rcases dN.1 e1 with q|q <;> rcases dN.1 e2 with r|r <;> grind
 ·grind
def Cu (p q:Pq):Fg:=(thr p.1 p.2 q.1 q.2,⟨ff (thr p.1 p.2 q.1 q.2) p,ff (thr p.1 p.2 q.1 q.2) q,false,false⟩)
theorem Fo (z:Int) (h:z.natAbs≤4000000000):il z≤1:=dU (k:=1) (by simp;omega)
theorem JF (x y u v:Int):thr (x:Rat) y u v=jw ((-(v-y):Int):Rat) ((u-x:Int):Rat) (((v-y)*x-(u-x)*y:Int):Rat):=by
 unfold thr;push_cast
 congr 1 <;> grind
theorem xJ {p q:Pq}(hp:Iq p) (hq:Iq q) (h:p≠q):(thr p.1 p.2 q.1 q.2).sm:=by
 obtain⟨x,y,rfl,hx,hy⟩:=hp;obtain⟨u,v,rfl,hu,hv⟩:=hq
 have hne:u-x≠0∨v-y≠0:=by
  by_cases h1:u-x=0
  ·right;intro h2;exact h (qv.2 ⟨om,om⟩)
  ·exact .inl h1
 show(thr (x:Rat) y u v).sm
 rw [JF];have hne' : -(v-y)≠0∨u-x≠0:=by clear hx hy hu hv h;omega
 have hm1:((v-y)*x).natAbs≤2000*1000:=by rw [fq];exact dk om hx
 have hm2:((u-x)*y).natAbs≤2000*1000:=by rw [fq];exact dk om hy
 obtain⟨q1,q2,q3⟩:=xW ((v-y)*x-(u-x)*y) hne'
 have hok:(jw ((-(v-y):Int):Rat) ((u-x:Int):Rat) (((v-y)*x-(u-x)*y:Int):Rat)).ok:=wJ (by
  rcases hne' with h|h
  ·exact .inl fun e=>h (km.1 e)
  ·exact .inr fun e=>h (km.1 e))
 clear hne hne' h;generalize(v-y)*x=e1 at *;generalize(u-x)*y=e2 at *;generalize jw ((-(v-y):Int):Rat) ((u-x:Int):Rat) ((e1-e2:Int):Rat)=r at *;exact⟨hok,Fo _ om,Fo _ om,Fo _ om⟩
theorem Q4 {p q:Pq}(hp:Iq p) (hq:Iq q) (h:p≠q):ff (thr p.1 p.2 q.1 q.2) p<ff (thr p.1 p.2 q.1 q.2) q:=by
 have hok:=(xJ hp hq h).1
 have hne:q.1-p.1≠0∨q.2-p.2≠0:=by
  by_cases h1:q.1-p.1=0
  ·right;intro h2;exact h (jA (by grind) (by grind))
  ·exact .inl h1
 have h1:=Bi hok p;have h2:=Bi hok q;have n0:=jt hok
 have key:0<q.1*(thr p.1 p.2 q.1 q.2).b-q.2*(thr p.1 p.2 q.1 q.2).a-(p.1*(thr p.1 p.2 q.1 q.2).b-p.2*(thr p.1 p.2 q.1 q.2).a):=by
  unfold thr
  have hn' : -(q.2-p.2)≠0∨q.1-p.1≠0:=by
   rcases hne with h|h
   ·exact .inr h
   ·left;grind
  obtain⟨e1,e2,_⟩:=Be (c := -(-(q.2-p.2)*p.1+(q.1-p.1)*p.2)) hn';have gp:=Fw (c := -(-(q.2-p.2)*p.1+(q.1-p.1)*p.2)) hn';rw [←e1,←e2];have ip:=Rat.inv_pos.2 gp;have sq:=PZ hne;generalize(g3 (-(q.2-p.2)) (q.1-p.1) (-(-(q.2-p.2)*p.1+(q.1-p.1)*p.2)))⁻¹=g at *;have:=et ip sq;grind
 generalize(thr p.1 p.2 q.1 q.2)=l at *;generalize ff l p=s at *;generalize ff l q=t at *;by_cases c:s<t
 ·exact c
 ·exfalso;have:=dh (show 0≤s-t by grind) (f6 n0);grind
theorem Q6 {L:List Li}{p q:Pq}(hp:Iq p) (hq:Iq q) (h:p≠q) (hL:thr p.1 p.2 q.1 q.2∈L):FgG L (Cu p q):=by
 have hlt:=Q4 hp hq h
 have hn:¬(0≤(ff (thr p.1 p.2 q.1 q.2) p-ff (thr p.1 p.2 q.1 q.2) q).num.sign):=fun e=>by
  have:=p9.1 e;grind
 refine⟨(xJ hp hq h).1,hL,⟨(fun e=>by cases e),(fun e=>by cases e),fun _ _=>hlt⟩,?_⟩;unfold j6 Cu;simp [hn]
theorem Q5 {p q:Pq}(hp:Iq p) (hq:Iq q) (h:p≠q):(Cu p q).2.le 16:=by
 have hl:=xJ hp hq h;exact⟨qo (n:=1) hl hp.ht,qo (n:=1) hl hq.ht⟩
def jq (l:List Pq):List Fg:=(List.range l.length).map fun i=>Cu (l.getD i (0,0)) (l.getD ((i+1)%l.length) (0,0))
theorem uN (l:List Pq):(jq l).length=l.length:=by unfold jq;simp
theorem Kg {l:List Pq}(h:oh l){i:Nat}(hi:i<l.length):Iq (l.getD i (0,0))∧Iq (l.getD ((i+1)%l.length) (0,0))∧l.getD i (0,0)≠l.getD ((i+1)%l.length) (0,0):=by
 have hj:(i+1)%l.length<l.length:=cT _ om;have e1:l[i]? = some (l.getD i (0,0)):=by rw [List.getD,ax hi];rfl
 have e2:l[(i+1)%l.length]? = some (l.getD ((i+1)%l.length) (0,0)):=by rw [List.getD,ax hj];rfl
 exact⟨h.2.1 _ (bo e1),h.2.1 _ (bo e2),h.2.2.2 i _ _ e1 e2⟩
theorem BT {l:List Pq}(h:oh l):∀f∈jq l,f.1.sm∧f.2.le 16∧∀L,f.1∈L→FgG L f:=fun f hf=>by
 obtain⟨i,hi,rfl⟩:=aj.1 hf;rw [dG]at hi;obtain⟨h1,h2,h3⟩:=Kg h hi;exact⟨xJ h1 h2 h3,Q5 h1 h2 h3,fun L hL=>Q6 h1 h2 h3 hL⟩
theorem Oo (x y:Rat):yh x y=x∨yh x y=y:=by unfold yh;split;exact .inl rfl;exact .inr rfl
theorem Oj (x y:Rat):yd x y=x∨yd x y=y:=by unfold yd;split;exact .inl rfl;exact .inr rfl
theorem Et {v w:Spn}{n:Nat}(hv:v.le n) (hw:w.le n):(iB v w).le n:=by
 obtain⟨v1,v2⟩:=hv;obtain⟨w1,w2⟩:=hw;unfold iB;constructor
 ·show ht (if v.nl then w.lo else if w.nl then v.lo else yh v.lo w.lo)≤n
  split
  ·exact w1
  ·split
   ·exact v1
   ·rcases Oo v.lo w.lo with e|e <;> rw [e] <;> assumption
 ·show ht (if v.nh then w.hi else if w.nh then v.hi else yd v.hi w.hi)≤n
  split
  ·exact w2
  ·split
   ·exact v2
   ·rcases Oj v.hi w.hi with e|e <;> rw [e] <;> assumption
theorem P7 {l m:Li}{v w:Spn}(hl:l.sm) (hm:m.sm) (hv:v.le 46) (h:jr l v m=some w):w.le 46:=by
 have hz:=kw
 have hx:slp l m≠0→ht (-(af m (ct l)/slp l m))≤46:=fun hs=>by
  have hd:gZ l m≠0:=fun e=>hs (by rw [rL]at e;grind)
  have h1:=r9 hl hm;have h2:=qo hl h1
  have e : -(af m (ct l)/slp l m)=ff l (dX l m):=by
   have e1:=yR hs (ff l (dX l m));have e2:=tQ hl.1 hd (ff l (dX l m));have e3:(ff l (dX l m)-ff l (dX l m))*slp l m=0:=by grind
   rw [e3]at e2;rw [e2]at e1;rcases dN.1 e1.symm with e|e
   ·grind
   ·exact absurd e hs
  rw [e];omega
 unfold jr at h;split at h
 ·split at h
  ·cases h;exact hv
  ·cases h
 ·rename_i hs;have hs':slp l m≠0:=fun e=>hs (by rw [e];rfl)
  have hq:=hx hs';split at h
  ·cases h
  ·cases h;refine Et hv ?_;unfold hlf;split
   ·exact⟨hq,by show ht 0≤46;omega⟩
   ·exact⟨by show ht 0≤46;omega,hq⟩
theorem HU {L:List Li}{f:Fg}{m:Li}(hf:FgG L f) (hl:f.1.sm) (hm:m.sm) (hv:f.2.le 46):(∀g∈(f0 f m).1,g.2.le 46)∧∀g∈(f0 f m).2,g.2.le 46:=by
 rw [p6 hf.g hf.b hf.ok]
 have key:∀x:Li,x.sm→∀g∈((jr f.1 f.2 x).toList).map (fun s=>(f.1,s)),g.2.le 46:=fun x hx g hg=>by
  obtain⟨w,hw,rfl⟩:=aj.1 hg;rw [Option.mem_toList]at hw;exact P7 hl hx hv hw
 exact⟨key m hm,key m.neg hm.neg⟩
end Go.Ab
