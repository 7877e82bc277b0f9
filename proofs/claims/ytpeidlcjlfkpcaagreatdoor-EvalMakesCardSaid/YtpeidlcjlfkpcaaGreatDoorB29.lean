/- Texts laid one behind the other: GwH, Opn, Seg. -/
import Derived.Test.YtpeidlcjlfkpcaaGreatDoorB28
set_option linter.all false
set_option maxHeartbeats 16000000
namespace Go.Ab
open Go.Proofs
variable [Base]
theorem Ft {a b:List SV}{k:Nat}(h:LeL a b):Le (sl a k) (sl b k):=fun m v hv=>by
 obtain⟨ad,cap,rfl,h1,h2,h3⟩:=ft hv;refine jq h1 h2 ?_;rcases h3 with rfl|⟨b',off,rfl,arr,T,fz,h4,h5⟩
 ·left;cases b with
  |nil=>rfl
  |cons _ _=>exact h.elim
 ·right
  have hlen:a.length=b.length:=by
   clear h4 h5 hv;induction a generalizing b with
   |nil=>cases b with
    |nil=>rfl
    |cons _ _=>exact h.elim
   |cons x a ih=>cases b with
    |nil=>exact h.elim
    |cons y b=>simp [ih h.2]
  exact⟨b',off,rfl,arr,T,fz,h4,by rw [←hlen];exact bk.le h h5⟩
abbrev qT:TypeId:=87
abbrev sT:TypeId:=237
abbrev fT:TypeId:=239
theorem Own.one {T:TypeId}{sz b c:Nat}{cs:List SV}(h:cs.length=sz) (hc:1≤c) (hm:c≤maxLen) (hz:c=1):Own T sz 1 cs (lit (.slice (some ⟨b,0,none⟩) 1 c)) [(b,T,cs)]:=by
 subst hz;refine⟨om, .inr ⟨b,1,om,hm,rfl,?_⟩⟩;simp
theorem D6 {a:Rat}{c:List Rat}:iN (a::c)=(a-1)::(List.zipWith mQ (a::c) c++[(a::c).getLast (by simp)+1]):=rfl
def prB (c:List Rat) (k:Nat):List Rat:=(c.getD 0 0-1)::(List.range (k-1)).map fun j=>mQ (c.getD j 0) (c.getD (j+1) 0)
theorem KY {c:List Rat}{k:Nat}(hk:1≤k):prB c (k+1)=prB c k++[mQ (c.getD (k-1) 0) (c.getD k 0)]:=by
 obtain⟨j,rfl⟩:∃j,k=j+1:=⟨k-1,om⟩
 unfold prB;simp only [dZ];rw [iU,aH];rfl
theorem zN:∀(a:Rat) (c:List Rat),List.zipWith mQ (a::c) c=(List.range c.length).map fun j=>mQ ((a::c).getD j 0) ((a::c).getD (j+1) 0)
 |_,[]=>rfl
 |a,b::c=>by
  rw [List.zipWith_cons_cons,zN b c,aF,List.range_succ_eq_map,aD,p7];rfl
theorem F5 {c:List Rat}(h:c≠[]):iN c=prB c c.length++[c.getD (c.length-1) 0+1]:=by
 cases c with
 |nil=>exact absurd rfl h
 |cons a c =>
  rw [D6,zN];unfold prB;rw [xy];simp only [aF,dZ,ab];congr 3
  rw [List.getD,aA (by simp)];rfl
structure G7 where
 k:Nat
 s:SV
 Hs:LH
theorem EL (c:List Rat) (hl:c.length≤1000000) (hh:∀y∈c,ht y≤40000):Pu Tryz.prog 246 [rqs c] (rqs (iN c)):=by
 by_cases h0:c=[]
 ·subst h0;show Pu _ _ _ (rqs [0])
  refine Pi Tryz.func246 fun C=>?_
  repeat(first|(refine Wo (cJ ([lit (.bool false),lit (.slice none 0 0),lit (.slice none 0 0)]) rfl) ?_)|(refine Wdo (cJ ([lit (.bool false),lit (.slice none 0 0),lit (.slice none 0 0)]) rfl) ?_)|(refine A1 ⟨?_⟩;intros))
  exact cV (bJ (RV.tmp rfl) (Ft (b:=rqx 0) ⟨Le.refl _,wP,wQ,trivial⟩))
 have h1:=lU;have hpos:=fE.2 h0;have hget:∀k,k<c.length→c[k]? = some (c.getD k 0):=fun k hk=>by rw [List.getD,aA hk];rfl
 have hht:∀k,k<c.length→ht (c.getD k 0)≤40000:=fun k hk=>hh _ (bn (hget k hk))
 have hatk:∀k,k<c.length→(((c.map rqx).flatten).drop (k*3)).take 3=rqx (c.getD k 0):=fun k hk=>fV (f:=rqx) (n:=3) mH (hget k hk)
 have hne:(c.map rqx).flatten≠[]:=gA mH om h0;have a0:=hatk 0 hpos;have b0:=hht 0 hpos;have aL:=hatk (c.length-1) om;have bL:=hht (c.length-1) om;have e1:=mh (c.getD 0 0) 1 om om;have e2:=jc (c.getD (c.length-1) 0) 1 om om;rw [F5 h0]
 have hg:∀k,1≤k→k<c.length→∀s Hs,Own qT 3 (k+1) (((prB c k).map rqx).flatten++rqx (mQ (c.getD (k-1) 0) (c.getD k 0))) s Hs→Own qT 3 (prB c (k+1)).length ((prB c (k+1)).map rqx).flatten s Hs:=fun k hk1 hk2 s Hs h=>by
  rw [KY hk1,aH,cH,ac,bH];have e:(prB c k).length=k:=by unfold prB;simp;omega
  rw [e];simpa using h
 have hpl:∀k,1≤k→(prB c k).length=k:=fun k hk=>by unfold prB;simp;omega
 have hp1:((prB c 1).map rqx).flatten=rqx (c.getD 0 0-1):=by unfold prB;simp
 have hfin:∀s Hs,Own qT 3 (c.length+1) (((prB c c.length).map rqx).flatten++rqx (c.getD (c.length-1) 0+1)) s Hs→Own qT 3 (prB c c.length++[c.getD (c.length-1) 0+1]).length ((prB c c.length++[c.getD (c.length-1) 0+1]).map rqx).flatten s Hs:=fun s Hs h=>by
  rw [aH,cH,ac,bH,hpl _ hpos];simpa using h
 generalize hX:c.getD 0 0-1=x0 at *;generalize hY:c.getD (c.length-1) 0+1=xL at *;have e3:∀k,1≤k→k<c.length→Pu Tryz.prog 194 [rq (c.getD (k-1) 0),rq (c.getD k 0)] (rq (mQ (c.getD (k-1) 0) (c.getD k 0))):=fun k h2 h3=>Gx _ _ (by have:=hht (k-1) om;omega) (by have:=hht k h3;omega)
 refine Pi Tryz.func246 fun C=>?_
 repeat(first|(refine AS ⟨?_⟩;intros)|(refine O1 ⟨?_⟩;intros))
 refine WdN 6 ?_;refine A2 ⟨?_⟩;intros;refine Wdo (ae (cs':=rqx (c.getD 0 0)) rfl rfl om om a0 hne) ?_;refine D2 ur e1 ⟨?_⟩;intros;rename_i b3
 refine WP.loopS (ι:=G7) (fun y=>1≤y.k∧y.k≤c.length∧Own qT 3 (prB c y.k).length ((prB c y.k).map rqx).flatten y.s y.Hs) (fun y=>c.length-y.k)
  (fun y=>fm [(0,rqs c),(3,y.s),(4,lit (.int .i64 y.k))]) (fun y=>y.Hs) ⟨1,lit (.slice (some ⟨b3,0,none⟩) 1 1),[(b3,qT,rqx x0)]⟩
  ⟨au _,hpos,by rw [hpl 1 om,hp1];exact Own.one rfl om (by decide) rfl⟩ lfA Sr ?_
 rintro ⟨k,s,Hs⟩ ⟨hk1,hk2,hown⟩ K hK;simp only at hk1 hk2 hown⊢;have hco:=hown.co;have hkl:=hpl k hk1;by_cases hkc:k<c.length
 ·have a1:(((c.map rqx).flatten).drop (((k:Int)-1).toNat*3)).take 3=rqx (c.getD (k-1) 0):=by rw [show((k:Int)-1).toNat=k-1 by omega];exact hatk (k-1) om
  have a2:=hatk k hkc;have em:=e3 k hk1 hkc;have hgo:=fun s' Hs' h F' H'=>hK F' H' ⟨k+1,s',Hs'⟩ ⟨by simp only;omega,by simp only;omega,hg k hk1 hkc s' Hs' h⟩ (by simp only;omega)
  rw [hkl]at hown;clear hK hg hfin e3 hatk hht hget hh;generalize mQ (c.getD (k-1) 0) (c.getD k 0)=xm at *;repeat(first|(refine AS ⟨?_⟩;intros)|(refine O1 ⟨?_⟩;intros))
  refine WdZ 13 [0,1,2,3,4,5,6,7,8,9,10,11,12] [12] Hs [] ?_ (by rw [bd]);refine ZkD 12 ?_;refine A2 ⟨?_⟩;intros;refine Wdo (ae (cs':=rqx (c.getD (k-1) 0)) rfl rfl om om a1 hne) ?_;refine A2 ⟨?_⟩;intros;refine Wdo (ae (cs':=rqx (c.getD k 0)) rfl rfl om om a2 hne) ?_;repeat(first|(refine Wo (cJ (rqx xm) rfl) ?_)|(refine Wdo (cJ (rqx xm) rfl) ?_)|(refine A1 ⟨?_⟩;intros)|refine W4 em ⟨?_⟩)
  refine yu ?_;refine ZkA hown (Tk.same _) om (fun s' H' hown'=>?_);refine ZkN ?_;have hco':=hown'.co;replace hgo:=hgo s' H' hown';rw [bd,bd];clear hown hown';refine A2 ⟨?_⟩;intros;exact hgo _ _ lfA Sr
 ·have hke:k=c.length:=by omega
  subst hke;rw [hkl]at hown;clear hK hg e3 hatk hht hget hh;replace aL:(((c.map rqx).flatten).drop (((c.length:Int)-1).toNat*3)).take 3=rqx (c.getD (c.length-1) 0):=by rw [show((c.length:Int)-1).toNat=c.length-1 by omega];exact aL
  repeat(first|(refine AS ⟨?_⟩;intros)|(refine O1 ⟨?_⟩;intros))
  refine WdZ 11 [0,1,2,3,4,5,6,7,8,9,10] [10] Hs [] ?_ (by rw [bd]);refine ZkD 10 ?_;refine A2 ⟨?_⟩;intros;refine Wdo (ae (cs':=rqx (c.getD (c.length-1) 0)) rfl rfl om om aL hne) ?_;repeat(first|(refine Wo (cJ (rqx xL) rfl) ?_)|(refine Wdo (cJ (rqx xL) rfl) ?_)|(refine A1 ⟨?_⟩;intros)|refine W4 ur ⟨?_⟩|refine W4 e2 ⟨?_⟩)
  refine yu ?_;refine ZkA hown (Tk.same _) om (fun s' H' hown'=>?_);refine ZkN ?_;replace hown':=hfin _ _ hown';have hco':=hown'.co;rw [bd,bd];refine WPL.rowS 45 hown' rfl (by rw [bd]) ?_;refine A2 ⟨?_⟩;intros;exact cV (bJ (RV.tmp rfl) Lr)
abbrev bls (l:List Bool):SV:=sl (l.map fun b=>[lit (.bool b)]).flatten l.length
theorem Na (b:Bool):([lit (.bool b)]:List SV).length=1:=rfl
theorem yO (c:List Rat) (m:List Bool) (k:Nat):(List.range (k+1)).foldl (gU c m) []=gU c m ((List.range k).foldl (gU c m) []) k:=by
 rw [iU,kE];rfl
theorem AO (c:List Rat) (m:List Bool):∀k,((List.range k).foldl (gU c m) []).length≤k
 |0=>au _
 |k+1=>by
  have:=AO c m k;have:=C4 c m ((List.range k).foldl (gU c m) []) k;rw [yO];omega
theorem Bk:∀(ds A B:List SV) (o:Nat),spl (A++B) (A.length+o) ds=A++spl B o ds
 | [],_,_,_=>rfl
 |d::ds,A,B,o=>by
  show spl ((A++B).set (A.length+o) d) (A.length+o+1) ds=A++spl (B.set o d) (o+1) ds
  rw [kD _ _ om,show A.length+o-A.length=o by omega,jN];exact Bk ds A (B.set o d) (o+1)
theorem yR {α:Type}{f:α→List SV}{l:List α}{k:Nat}{a:α}(h:l[k]? = some a):(l.map f).flatten=((l.take k).map f).flatten++(f a++((l.drop (k+1)).map f).flatten):=by
 have e:l.take k++a::l.drop (k+1)=l:=by rw [←kw h,gO]
 have e2:((l.take k++a::l.drop (k+1)).map f).flatten=((l.take k).map f).flatten++(f a++((l.drop (k+1)).map f).flatten):=by rw [aH,cH,aD,bw]
 rw [e]at e2;exact e2
theorem DZ {α:Type}{f:α→List SV}{l:List α}{k:Nat}{s:α}(h:k<l.length):((l.set k s).map f).flatten=((l.take k).map f).flatten++(f s++((l.drop (k+1)).map f).flatten):=by
 rw [List.set_eq_take_append_cons_drop,if_pos h,aH,cH,aD,bw]
theorem NM {l:List Spn}{k:Nat}{a:Spn}{R:List SV}(hi:Rat) (h:l[k]? = some a):spl ((l.map spx).flatten++R) (0+k*8+3) (rqx hi)=((l.set k ⟨a.lo,hi,a.nl,a.nh⟩).map spx).flatten++R:=by
 have hk:=(bI.1 h).1;have hA:(((l.take k).map spx).flatten).length=k*8:=by rw [fP ow,aC];congr 1;omega
 rw [yR h,DZ hk,ax,ax,show 0+k*8+3=(((l.take k).map spx).flatten).length+3 by omega,Bk,ax,ax];rfl
theorem NL {l:List Spn}{k:Nat}{a:Spn}{R:List SV}(nh:Bool) (h:l[k]? = some a):spl ((l.map spx).flatten++R) (0+k*8+7) [lit (.bool nh)]=((l.set k ⟨a.lo,a.hi,a.nl,nh⟩).map spx).flatten++R:=by
 have hk:=(bI.1 h).1;have hA:(((l.take k).map spx).flatten).length=k*8:=by rw [fP ow,aC];congr 1;omega
 rw [yR h,DZ hk,ax,ax,show 0+k*8+7=(((l.take k).map spx).flatten).length+7 by omega,Bk,ax,ax];rfl
theorem Kl {l:List Spn}{k j:Nat}{R:List SV}(h:k<l.length) (hj:j≤8):Nat.ble (0+k*8+j) ((l.map spx).flatten++R).length=true:=by
 apply ly;rw [ac,fP ow];have:(k+1)*8≤l.length*8:=aR _ h;omega
abbrev bT:TypeId:=4
theorem tw (a b:Bool):LeL [lit (.bool false),lit (.slice none 0 0),lit (.slice none 0 0),lit (.bool false),lit (.slice none 0 0),lit (.slice none 0 0),lit (.bool a),lit (.bool b)] (spx ⟨0,0,a,b⟩):=⟨Le.refl _,wP,wQ,Le.refl _,wP,wQ,Le.refl _,Le.refl _,trivial⟩
theorem KJ (c:List Rat) (m:List Bool) (hl:c.length≤1000000) (hm:m.length=c.length+1):Pu Tryz.prog 248 [rqs c,bls m] (sps (yP c m)):=by
 have hgc:∀k,k<c.length→(((c.map rqx).flatten).drop (k*3)).take 3=rqx (c.getD k 0):=fun k hk=>fV (f:=rqx) (n:=3) mH (by rw [List.getD,aA hk];rfl)
 have hgm:∀k,k<m.length→(((m.map fun b=>[lit (.bool b)]).flatten).drop (k*1)).take 1=[lit (.bool (m.getD k false))]:=fun k hk=>fV (f:=fun b=>[lit (.bool b)]) (n:=1) Na (by rw [List.getD,aA hk];rfl)
 have hnm:(m.map fun b=>[lit (.bool b)]).flatten≠[]:=gA Na om (fun e=>by rw [e]at hm;simp at hm);unfold yP;refine Pi Tryz.func248 fun C=>?_
 refine A2 ⟨?_⟩;intros
 refine WP.loopS (ι:=G7) (fun y=>y.k≤m.length∧Own sT 8 ((List.range y.k).foldl (gU c m) []).length (((List.range y.k).foldl (gU c m) []).map spx).flatten y.s y.Hs) (fun y=>m.length-y.k)
  (fun y=>fm [(0,rqs c),(1,bls m),(5,y.s),(10,bls m),(11,lit (.int .i64 m.length)),(12,lit (.int .i64 y.k))]) (fun y=>y.Hs) ⟨0,lit (.slice none 0 0),[]⟩
  ⟨an _,Own.nil _ _⟩ lfA (av _) ?_
 rintro ⟨k,s,Hs⟩ ⟨hk,hown⟩ K hK;simp only at hk hown⊢;have hco:=hown.co;have hfl:=AO c m k;by_cases hkl:k<m.length
 ·have am:=hgm k hkl;have hgo:=fun s' Hs' h F' H'=>hK F' H' ⟨k+1,s',Hs'⟩ ⟨by simp only;omega,h⟩ (by simp only;omega)
  simp only [yO]at hgo;have ei:((k:Int)-1).toNat=k-1:=by omega
  have hap:(((m.map fun b=>[(lit (.bool b):SV)]).flatten).drop (((k:Int)-1).toNat*1)).take 1=[lit (.bool (m.getD (k-1) false))]:=by rw [ei];exact hgm (k-1) om
  have ac1:0<k→(((c.map rqx).flatten).drop (((k:Int)-1).toNat*3)).take 3=rqx (c.getD (k-1) 0):=fun h=>by rw [ei];exact hgc (k-1) om
  have ac2:=fun h:k<c.length=>hgc k h
  have hnc:0<c.length→(c.map rqx).flatten≠[]:=fun h=>gA mH om (fun e=>by rw [e]at h;simp at h)
  generalize(List.range k).foldl (gU c m) []=out at *;unfold gU at hgo;clear hK hgc hgm;cases hmk:m.getD k false with
  |false =>
   rw [hmk]at hgo am;rw [if_pos rfl]at hgo;replace hgo:=hgo s Hs hown;clear hap ac1 ac2 hnc;refine A2 ⟨?_⟩;intros;refine Wo (ae (cs':=[lit (.bool false)]) rfl rfl om om am hnm) ?_;refine A2 ⟨?_⟩;intros;exact hgo _ _ lfA Sr
  |true =>
   rw [hmk]at hgo am;rw [if_neg (by decide)]at hgo;have hsp:oN c k=⟨if 0<k then c.getD (k-1) 0 else 0,if k<c.length then c.getD k 0 else 0,decide (k=0),decide (k=c.length)⟩:=rfl;obtain⟨x,hx⟩:∃x,x=if 0<k then c.getD (k-1) 0 else 0:=⟨_,rfl⟩
   obtain⟨y,hy⟩:∃y,y=if k<c.length then c.getD k 0 else 0:=⟨_,rfl⟩
   rw [←hx,←hy]at hsp;rw [hsp]at hgo;have hlo:LeL [lit (.bool false),lit (.slice none 0 0),lit (.slice none 0 0)] (rqx 0):=by repeat(first|exact trivial|refine⟨?_,?_⟩|exact Le.refl _|exact wP|exact wQ)
   obtain⟨x1,x2,x3,_⟩:=hlo;have hle:out.length≤1000000:=by omega
   by_cases hj:0<k∧m.getD (k-1) false=true∧0<out.length
   ·obtain⟨j1,j2,j3⟩:=hj;rw [if_pos ⟨j1,j2,j3⟩]at hgo;rw [j2]at hap;rw [if_pos j1]at hx;have al:=ac1 j1;rw [←hx]at al;obtain⟨o,ho⟩:∃o,out[out.length-1]? = some o:=⟨_,aA om⟩
    have hoD:out.getD (out.length-1) Spn.full=o:=by rw [List.getD,ho];rfl
    rw [hoD]at hgo;have hc0:(c.map rqx).flatten≠[]:=hnc om;obtain⟨b1,c1,hnc1,hcm,rfl,rfl⟩:=hown.blk j3;have hol:=hown.1
    have hout2:Own sT 8 (out.set (out.length-1) ⟨o.lo,y,o.nl,decide (k=c.length)⟩).length ((out.set (out.length-1) ⟨o.lo,y,o.nl,decide (k=c.length)⟩).map spx).flatten (lit (.slice (some ⟨b1,0,none⟩) out.length c1)) [(b1,sT,((out.set (out.length-1) ⟨o.lo,y,o.nl,decide (k=c.length)⟩).map spx).flatten++List.replicate (c1*8-out.length*8) top)]:=by
     refine⟨fP ow _, .inr ⟨b1,c1,by rw [gG];exact hnc1,hcm,by rw [gG],by rw [gG]⟩⟩
    replace hgo:=hgo _ _ hout2;have s1:=NM (R:=List.replicate (c1*8-out.length*8) top) y ho;have ho2:(out.set (out.length-1) ⟨o.lo,y,o.nl,o.nh⟩)[out.length-1]? = some ⟨o.lo,y,o.nl,o.nh⟩:=by rw [List.getElem?_set_self om]
    have s2:=NL (R:=List.replicate (c1*8-out.length*8) top) (decide (k=c.length)) ho2;rw [List.set_set]at s2;have q1:=Kl (l:=out) (k:=out.length-1) (j:=6) (R:=List.replicate (c1*8-out.length*8) top) om om;have q2:=Kl (l:=out.set (out.length-1) ⟨o.lo,y,o.nl,o.nh⟩) (k:=out.length-1) (j:=8) (R:=List.replicate (c1*8-out.length*8) top) (by rw [gG];omega) om;clear hown hout2 hol hoD ho ho2;generalize(out.set (out.length-1) ⟨o.lo,y,o.nl,o.nh⟩).map spx=cs1 at *;generalize(out.set (out.length-1) ⟨o.lo,y,o.nl,decide (k=c.length)⟩).map spx=cs2 at *;have eo:0+(out.length-1)*8=((out.length:Int)-1).toNat*8:=by omega
    rw [eo]at s1 s2 q1 q2;clear eo;rcases(by omega:k<c.length∨k=c.length)with kc|kc
    ·have ah:=ac2 kc;rw [if_pos kc]at hy;rw [←hy]at ah;have kd:decide (k=c.length)=false:=aa om;rw [kd]at s2;clear ac1 ac2 hx hy hsp hnc;refine A2 ⟨?_⟩;intros;refine Wo (ae (cs':=[lit (.bool true)]) rfl rfl om om am hnm) ?_;refine A2 ⟨?_⟩;intros;refine Wo (ae (cs':=rqx x) rfl rfl om om al hc0) ?_;refine A2 ⟨?_⟩;intros;refine Wo (ae (cs':=rqx y) rfl rfl om om ah hc0) ?_;repeat(first|(refine A1 ⟨?_⟩;intros)|(refine Wo (bh hown rfl) ?_)|(refine Wdo (bh hown rfl) ?_)|(refine Wog (bh hown rfl) ?_)|(refine fJ (bh hown rfl) ?_))
     refine Wog (ae (cs':=[lit (.bool true)]) rfl rfl om om hap hnm) ?_;repeat(first|(refine AS ⟨?_⟩;intros)|(refine O1 ⟨?_⟩;intros))
     refine WdL 10 3 ?_;refine A2 ⟨?_⟩;intros;refine dL0 ?_;refine Gv ?_ ?_
     ·(repeat(first|exact LOk.nil|refine Lsk ?_|refine Lcv ?_))
     refine Gv ?_ ?_
     ·(repeat(first|exact LOk.nil|refine Lsk ?_|refine Lcv ?_))
     refine Gs (b:=b1) (o:=((out.length:Int)-1).toNat*8+3) (sv:=ag (rqx y)) rfl rfl rfl (.there _ (.here _)) s1 q1 ?_ ?_
     ·(repeat(first|exact LOk.nil|refine Lsk ?_|refine Lcv ?_))
     refine Gn ?_ ?_
     ·(repeat(first|exact LOk.nil|refine Lsk ?_|refine Lcv ?_))
     refine A2 ⟨?_⟩;intros;refine WPL.store (b:=b1) (o:=((out.length:Int)-1).toNat*8+7) (sv:=lit (.bool false)) rfl rfl rfl (.there _ (.here _)) s2 q2 ?_;refine A2 ⟨?_⟩;intros;exact hgo _ _ lfA (Sc Sr)
    ·rw [if_neg om]at hy;have kd:decide (k=c.length)=true:=a9 kc;rw [kd]at s2;clear ac1 ac2 hx hsp hnc;subst hy;refine A2 ⟨?_⟩;intros;refine Wo (ae (cs':=[lit (.bool true)]) rfl rfl om om am hnm) ?_;refine A2 ⟨?_⟩;intros;refine WPL.lowB (cs':=spx ⟨0,0,false,true⟩) (.here _) (tw false true) ?_;refine Wo (ae (cs':=rqx x) rfl rfl om om al hc0) ?_;repeat(first|(refine A1 ⟨?_⟩;intros)|(refine Wo (bh hown rfl) ?_)|(refine Wdo (bh hown rfl) ?_)|(refine Wog (bh hown rfl) ?_)|(refine fJ (bh hown rfl) ?_))
     refine Wog (ae (cs':=[lit (.bool true)]) rfl rfl om om hap hnm) ?_;repeat(first|(refine AS ⟨?_⟩;intros)|(refine O1 ⟨?_⟩;intros))
     refine WdL 10 3 ?_;refine A2 ⟨?_⟩;intros;refine dL0 ?_;refine Gv ?_ ?_
     ·(repeat(first|exact LOk.nil|refine Lsk ?_|refine Lcv ?_))
     refine Gv ?_ ?_
     ·(repeat(first|exact LOk.nil|refine Lsk ?_|refine Lcv ?_))
     refine Gs (b:=b1) (o:=((out.length:Int)-1).toNat*8+3) (sv:=ag (rqx 0)) rfl rfl rfl (.there _ (.here _)) s1 q1 ?_ ?_
     ·(repeat(first|exact LOk.nil|refine Lsk ?_|refine Lcv ?_))
     refine Gn ?_ ?_
     ·(repeat(first|exact LOk.nil|refine Lsk ?_|refine Lcv ?_))
     refine A2 ⟨?_⟩;intros;refine WPL.store (b:=b1) (o:=((out.length:Int)-1).toNat*8+7) (sv:=lit (.bool true)) rfl rfl rfl (.there _ (.here _)) s2 q2 ?_;refine A2 ⟨?_⟩;intros;exact hgo _ _ lfA (Sc Sr)
   ·rw [if_neg hj]at hgo;obtain⟨b1,hb1⟩:∃b,b=decide (k=0):=⟨_,rfl⟩
    obtain⟨b2,hb2⟩:∃b,b=decide (k=c.length):=⟨_,rfl⟩
    rw [←hb1,←hb2]at hgo;have hap1:((out.map spx).flatten++spx ⟨x,y,b1,b2⟩)=((out++[(⟨x,y,b1,b2⟩:Spn)]).map spx).flatten:=by rw [aH,cH];simp
    have hln:(out++[(⟨x,y,b1,b2⟩:Spn)]).length=out.length+1:=by simp
    replace hgo:=fun s' Hs' (h:Own sT 8 (out.length+1) ((out.map spx).flatten++spx ⟨x,y,b1,b2⟩) s' Hs')=>hgo s' Hs' (by rw [hln,←hap1];exact h)
    clear hap1 hln hsp;rcases(by omega:k=0∨0<k)with k0|k0
    ·have hbv:b1=true:=by rw [hb1];exact a9 k0
     subst hbv;rw [if_neg om]at hx;subst hx;clear hb1 hj ac1 hap;rcases(by omega:k<c.length∨k=c.length)with kc|kc
     ·have hbv:b2=false:=by rw [hb2];exact aa om
      subst hbv;have ah:=ac2 kc;rw [if_pos kc]at hy;rw [←hy]at ah;have hc0:=hnc om;clear hb2 hnc ac2 hy;refine A2 ⟨?_⟩;intros;refine Wo (ae (cs':=[lit (.bool true)]) rfl rfl om om am hnm) ?_;refine A2 ⟨?_⟩;intros;refine WPL.lowB (cs':=spx ⟨0,0,true,false⟩) (.here _) (tw true false) ?_;refine Wo (ae (cs':=rqx y) rfl rfl om om ah hc0) ?_;repeat(first|(refine Wo (cJ (spx ⟨0,y,true,false⟩) rfl) ?_)|(refine Wdo (cJ (spx ⟨0,y,true,false⟩) rfl) ?_)|(refine A1 ⟨?_⟩;intros)|(refine Wo (bh hown rfl) ?_)|(refine Wdo (bh hown rfl) ?_)|(refine Wog (bh hown rfl) ?_)|(refine fJ (bh hown rfl) ?_))
      refine rL hown (Tk.skip _ (Tk.same _)) om (fun s' H1 hown'=>?_);have hco':=hown'.co;replace hgo:=hgo s' H1 hown';clear hown hown';refine A2 ⟨?_⟩;intros;exact hgo _ _ lfA (Sc Sr)
     ·have hbv:b2=true:=by rw [hb2];exact a9 kc
      subst hbv;rw [if_neg om]at hy;subst hy;clear hb2 hnc ac2;refine A2 ⟨?_⟩;intros;refine Wo (ae (cs':=[lit (.bool true)]) rfl rfl om om am hnm) ?_;refine A2 ⟨?_⟩;intros;refine WPL.lowB (cs':=spx ⟨0,0,true,true⟩) (.here _) (tw true true) ?_;repeat(first|(refine Wo (cJ (spx ⟨0,0,true,true⟩) rfl) ?_)|(refine Wdo (cJ (spx ⟨0,0,true,true⟩) rfl) ?_)|(refine A1 ⟨?_⟩;intros)|(refine Wo (bh hown rfl) ?_)|(refine Wdo (bh hown rfl) ?_)|(refine Wog (bh hown rfl) ?_)|(refine fJ (bh hown rfl) ?_))
      refine rL hown (Tk.skip _ (Tk.same _)) om (fun s' H1 hown'=>?_);have hco':=hown'.co;replace hgo:=hgo s' H1 hown';clear hown hown';refine A2 ⟨?_⟩;intros;exact hgo _ _ lfA (Sc Sr)
    ·have hbv:b1=false:=by rw [hb1];exact aa om
     subst hbv;rw [if_pos k0]at hx;have al:=ac1 k0;rw [←hx]at al;have hc0:=hnc om;clear hb1 hx ac1 hnc;cases hm1:m.getD (k-1) false with
     |false =>
      rw [hm1]at hap;clear hj hm1;rcases(by omega:k<c.length∨k=c.length)with kc|kc
      ·have hbv:b2=false:=by rw [hb2];exact aa om
       subst hbv;have ah:=ac2 kc;rw [if_pos kc]at hy;rw [←hy]at ah;clear hb2 ac2 hy;refine A2 ⟨?_⟩;intros;refine Wo (ae (cs':=[lit (.bool true)]) rfl rfl om om am hnm) ?_;refine A2 ⟨?_⟩;intros;refine WPL.lowB (cs':=spx ⟨0,0,false,false⟩) (.here _) (tw false false) ?_;refine Wo (ae (cs':=rqx x) rfl rfl om om al hc0) ?_;refine A2 ⟨?_⟩;intros;refine Wo (ae (cs':=rqx y) rfl rfl om om ah hc0) ?_;repeat(first|(refine A1 ⟨?_⟩;intros)|(refine Wo (bh hown rfl) ?_)|(refine Wdo (bh hown rfl) ?_)|(refine Wog (bh hown rfl) ?_)|(refine fJ (bh hown rfl) ?_))
       refine Wog (ae (cs':=[lit (.bool false)]) rfl rfl om om hap hnm) ?_;repeat(first|(refine Wo (cJ (spx ⟨x,y,false,false⟩) rfl) ?_)|(refine Wdo (cJ (spx ⟨x,y,false,false⟩) rfl) ?_)|(refine A1 ⟨?_⟩;intros))
       refine rL hown (Tk.skip _ (Tk.same _)) om (fun s' H1 hown'=>?_);have hco':=hown'.co;replace hgo:=hgo s' H1 hown';clear hown hown';refine A2 ⟨?_⟩;intros;exact hgo _ _ lfA (Sc Sr)
      ·have hbv:b2=true:=by rw [hb2];exact a9 kc
       subst hbv;rw [if_neg om]at hy;subst hy;clear hb2 ac2;refine A2 ⟨?_⟩;intros;refine Wo (ae (cs':=[lit (.bool true)]) rfl rfl om om am hnm) ?_;refine A2 ⟨?_⟩;intros;refine WPL.lowB (cs':=spx ⟨0,0,false,true⟩) (.here _) (tw false true) ?_;refine Wo (ae (cs':=rqx x) rfl rfl om om al hc0) ?_;repeat(first|(refine A1 ⟨?_⟩;intros)|(refine Wo (bh hown rfl) ?_)|(refine Wdo (bh hown rfl) ?_)|(refine Wog (bh hown rfl) ?_)|(refine fJ (bh hown rfl) ?_))
       refine Wog (ae (cs':=[lit (.bool false)]) rfl rfl om om hap hnm) ?_;repeat(first|(refine Wo (cJ (spx ⟨x,0,false,true⟩) rfl) ?_)|(refine Wdo (cJ (spx ⟨x,0,false,true⟩) rfl) ?_)|(refine A1 ⟨?_⟩;intros))
       refine rL hown (Tk.skip _ (Tk.same _)) om (fun s' H1 hown'=>?_);have hco':=hown'.co;replace hgo:=hgo s' H1 hown';clear hown hown';refine A2 ⟨?_⟩;intros;exact hgo _ _ lfA (Sc Sr)
     |true =>
      rw [hm1]at hap
      have hz:out.length=0:=by
       rcases(by omega:out.length=0∨0<out.length)with h|h
       ·exact h
       ·exact absurd ⟨k0,hm1,h⟩ hj
      clear hj hm1;rcases(by omega:k<c.length∨k=c.length)with kc|kc
      ·have hbv:b2=false:=by rw [hb2];exact aa om
       subst hbv;have ah:=ac2 kc;rw [if_pos kc]at hy;rw [←hy]at ah;clear hb2 ac2 hy;refine A2 ⟨?_⟩;intros;refine Wo (ae (cs':=[lit (.bool true)]) rfl rfl om om am hnm) ?_;refine A2 ⟨?_⟩;intros;refine WPL.lowB (cs':=spx ⟨0,0,false,false⟩) (.here _) (tw false false) ?_;refine Wo (ae (cs':=rqx x) rfl rfl om om al hc0) ?_;refine A2 ⟨?_⟩;intros;refine Wo (ae (cs':=rqx y) rfl rfl om om ah hc0) ?_;repeat(first|(refine A1 ⟨?_⟩;intros)|(refine Wo (bh hown rfl) ?_)|(refine Wdo (bh hown rfl) ?_)|(refine Wog (bh hown rfl) ?_)|(refine fJ (bh hown rfl) ?_))
       refine Wog (ae (cs':=[lit (.bool true)]) rfl rfl om om hap hnm) ?_;repeat(first|(refine Wo (cJ (spx ⟨x,y,false,false⟩) rfl) ?_)|(refine Wdo (cJ (spx ⟨x,y,false,false⟩) rfl) ?_)|(refine A1 ⟨?_⟩;intros))
       refine rL hown (Tk.skip _ (Tk.same _)) om (fun s' H1 hown'=>?_);have hco':=hown'.co;replace hgo:=hgo s' H1 hown';clear hown hown';refine A2 ⟨?_⟩;intros;exact hgo _ _ lfA (Sc Sr)
      ·have hbv:b2=true:=by rw [hb2];exact a9 kc
       subst hbv;rw [if_neg om]at hy;subst hy;clear hb2 ac2;refine A2 ⟨?_⟩;intros;refine Wo (ae (cs':=[lit (.bool true)]) rfl rfl om om am hnm) ?_;refine A2 ⟨?_⟩;intros;refine WPL.lowB (cs':=spx ⟨0,0,false,true⟩) (.here _) (tw false true) ?_;refine Wo (ae (cs':=rqx x) rfl rfl om om al hc0) ?_;repeat(first|(refine A1 ⟨?_⟩;intros)|(refine Wo (bh hown rfl) ?_)|(refine Wdo (bh hown rfl) ?_)|(refine Wog (bh hown rfl) ?_)|(refine fJ (bh hown rfl) ?_))
       refine Wog (ae (cs':=[lit (.bool true)]) rfl rfl om om hap hnm) ?_;repeat(first|(refine Wo (cJ (spx ⟨x,0,false,true⟩) rfl) ?_)|(refine Wdo (cJ (spx ⟨x,0,false,true⟩) rfl) ?_)|(refine A1 ⟨?_⟩;intros))
       refine rL hown (Tk.skip _ (Tk.same _)) om (fun s' H1 hown'=>?_);have hco':=hown'.co;replace hgo:=hgo s' H1 hown';clear hown hown';refine A2 ⟨?_⟩;intros;exact hgo _ _ lfA (Sc Sr)
 ·have hke:k=m.length:=by omega
  subst hke;refine WP.rowS 5 hown rfl (by rw [bd]) ?_;clear hK hown;refine A2 ⟨?_⟩;intros;exact cV (bJ (RV.tmp rfl) Lr)
theorem QJ {a b:Rat}(h:a≠0∨b≠0):0<a*a+b*b:=by
 have ha:0≤a*a:=by
  by_cases q:0≤a
  ·exact dk q q
  ·have:=dk (show 0≤-a by grind) (show 0≤-a by grind);grind
 have hb:0≤b*b:=by
  by_cases q:0≤b
  ·exact dk q q
  ·have:=dk (show 0≤-b by grind) (show 0≤-b by grind);grind
 by_cases e:a*a+b*b=0
 ·have e1:a*a=0:=by grind
  have e2:b*b=0:=by grind
  rcases dQ.1 e1 with q|q <;> rcases dQ.1 e2 with r|r <;> grind
 ·grind
def CI (p q:Pq):Fg:=(thr p.1 p.2 q.1 q.2,⟨fp (thr p.1 p.2 q.1 q.2) p,fp (thr p.1 p.2 q.1 q.2) q,false,false⟩)
theorem FC (z:Int) (h:z.natAbs≤4000000000):il z≤1:=dU (k:=1) (by simp;omega)
theorem K5 (x y u v:Int):thr (x:Rat) y u v=ju ((-(v-y):Int):Rat) ((u-x:Int):Rat) (((v-y)*x-(u-x)*y:Int):Rat):=by
 unfold thr;push_cast
 congr 1 <;> grind
theorem y6 {p q:Pq}(hp:Iq p) (hq:Iq q) (h:p≠q):(thr p.1 p.2 q.1 q.2).sm:=by
 obtain⟨x,y,rfl,hx,hy⟩:=hp;obtain⟨u,v,rfl,hu,hv⟩:=hq
 have hne:u-x≠0∨v-y≠0:=by
  by_cases h1:u-x=0
  ·right;intro h2;exact h (qB.2 ⟨om,om⟩)
  ·exact .inl h1
 show(thr (x:Rat) y u v).sm
 rw [K5];have hne' : -(v-y)≠0∨u-x≠0:=by clear hx hy hu hv h;omega
 have hm1:((v-y)*x).natAbs≤2000*1000:=by rw [fx];exact db om hx
 have hm2:((u-x)*y).natAbs≤2000*1000:=by rw [fx];exact db om hy
 obtain⟨q1,q2,q3⟩:=yh ((v-y)*x-(u-x)*y) hne'
 have hok:(ju ((-(v-y):Int):Rat) ((u-x:Int):Rat) (((v-y)*x-(u-x)*y:Int):Rat)).ok:=wY (by
  rcases hne' with h|h
  ·exact .inl fun e=>h (kg.1 e)
  ·exact .inr fun e=>h (kg.1 e))
 clear hne hne' h;generalize(v-y)*x=e1 at *;generalize(u-x)*y=e2 at *;generalize ju ((-(v-y):Int):Rat) ((u-x:Int):Rat) ((e1-e2:Int):Rat)=r at *;exact⟨hok,FC _ om,FC _ om,FC _ om⟩
theorem QM {p q:Pq}(hp:Iq p) (hq:Iq q) (h:p≠q):fp (thr p.1 p.2 q.1 q.2) p<fp (thr p.1 p.2 q.1 q.2) q:=by
 have hok:=(y6 hp hq h).1
 have hne:q.1-p.1≠0∨q.2-p.2≠0:=by
  by_cases h1:q.1-p.1=0
  ·right;intro h2;exact h (jx (by grind) (by grind))
  ·exact .inl h1
 have h1:=BA hok p;have h2:=BA hok q;have n0:=jr hok
 have key:0<q.1*(thr p.1 p.2 q.1 q.2).b-q.2*(thr p.1 p.2 q.1 q.2).a-(p.1*(thr p.1 p.2 q.1 q.2).b-p.2*(thr p.1 p.2 q.1 q.2).a):=by
  unfold thr
  have hn' : -(q.2-p.2)≠0∨q.1-p.1≠0:=by
   rcases hne with h|h
   ·exact .inr h
   ·left;grind
  obtain⟨e1,e2,_⟩:=Bv (c := -(-(q.2-p.2)*p.1+(q.1-p.1)*p.2)) hn';have gp:=FH (c := -(-(q.2-p.2)*p.1+(q.1-p.1)*p.2)) hn';rw [←e1,←e2];have ip:=Rat.inv_pos.2 gp;have sq:=QJ hne;generalize(g3 (-(q.2-p.2)) (q.1-p.1) (-(-(q.2-p.2)*p.1+(q.1-p.1)*p.2)))⁻¹=g at *;have:=ez ip sq;grind
 generalize(thr p.1 p.2 q.1 q.2)=l at *;generalize fp l p=s at *;generalize fp l q=t at *;by_cases c:s<t
 ·exact c
 ·exfalso;have:=dk (show 0≤s-t by grind) (f8 n0);grind
theorem QO {L:List Li}{p q:Pq}(hp:Iq p) (hq:Iq q) (h:p≠q) (hL:thr p.1 p.2 q.1 q.2∈L):FgG L (CI p q):=by
 have hlt:=QM hp hq h
 have hn:¬(0≤(fp (thr p.1 p.2 q.1 q.2) p-fp (thr p.1 p.2 q.1 q.2) q).num.sign):=fun e=>by
  have:=pf.1 e;grind
 refine⟨(y6 hp hq h).1,hL,⟨(fun e=>by cases e),(fun e=>by cases e),fun _ _=>hlt⟩,?_⟩;unfold j9 CI;simp [hn]
theorem QN {p q:Pq}(hp:Iq p) (hq:Iq q) (h:p≠q):(CI p q).2.le 16:=by
 have hl:=y6 hp hq h;exact⟨qv (n:=1) hl hp.ht,qv (n:=1) hl hq.ht⟩
def jo (l:List Pq):List Fg:=(List.range l.length).map fun i=>CI (l.getD i (0,0)) (l.getD ((i+1)%l.length) (0,0))
theorem uY (l:List Pq):(jo l).length=l.length:=by unfold jo;simp
theorem KH {l:List Pq}(h:oo l){i:Nat}(hi:i<l.length):Iq (l.getD i (0,0))∧Iq (l.getD ((i+1)%l.length) (0,0))∧l.getD i (0,0)≠l.getD ((i+1)%l.length) (0,0):=by
 have hj:(i+1)%l.length<l.length:=cS _ om;have e1:l[i]? = some (l.getD i (0,0)):=by rw [List.getD,aA hi];rfl
 have e2:l[(i+1)%l.length]? = some (l.getD ((i+1)%l.length) (0,0)):=by rw [List.getD,aA hj];rfl
 exact⟨h.2.1 _ (bn e1),h.2.1 _ (bn e2),h.2.2.2 i _ _ e1 e2⟩
theorem C9 {l:List Pq}(h:oo l):∀f∈jo l,f.1.sm∧f.2.le 16∧∀L,f.1∈L→FgG L f:=fun f hf=>by
 obtain⟨i,hi,rfl⟩:=aj.1 hf;rw [dE]at hi;obtain⟨h1,h2,h3⟩:=KH h hi;exact⟨y6 h1 h2 h3,QN h1 h2 h3,fun L hL=>QO h1 h2 h3 hL⟩
theorem P7 (x y:Rat):yA x y=x∨yA x y=y:=by unfold yA;split;exact .inl rfl;exact .inr rfl
theorem P0 (x y:Rat):yw x y=x∨yw x y=y:=by unfold yw;split;exact .inl rfl;exact .inr rfl
theorem EC {v w:Spn}{n:Nat}(hv:v.le n) (hw:w.le n):(iD v w).le n:=by
 obtain⟨v1,v2⟩:=hv;obtain⟨w1,w2⟩:=hw;unfold iD;constructor
 ·show ht (if v.nl then w.lo else if w.nl then v.lo else yA v.lo w.lo)≤n
  split
  ·exact w1
  ·split
   ·exact v1
   ·rcases P7 v.lo w.lo with e|e <;> rw [e] <;> assumption
 ·show ht (if v.nh then w.hi else if w.nh then v.hi else yw v.hi w.hi)≤n
  split
  ·exact w2
  ·split
   ·exact v2
   ·rcases P0 v.hi w.hi with e|e <;> rw [e] <;> assumption
theorem PV {l m:Li}{v w:Spn}(hl:l.sm) (hm:m.sm) (hv:v.le 46) (h:jp l v m=some w):w.le 46:=by
 have hz:=kv
 have hx:slp l m≠0→ht (-(af m (bX l)/slp l m))≤46:=fun hs=>by
  have hd:gW l m≠0:=fun e=>hs (by rw [rZ]at e;grind)
  have h1:=rx hl hm;have h2:=qv hl h1
  have e : -(af m (bX l)/slp l m)=fp l (dY l m):=by
   have e1:=zh hs (fp l (dY l m));have e2:=ud hl.1 hd (fp l (dY l m));have e3:(fp l (dY l m)-fp l (dY l m))*slp l m=0:=by grind
   rw [e3]at e2;rw [e2]at e1;rcases dQ.1 e1.symm with e|e
   ·grind
   ·exact absurd e hs
  rw [e];omega
 unfold jp at h;split at h
 ·split at h
  ·cases h;exact hv
  ·cases h
 ·rename_i hs;have hs':slp l m≠0:=fun e=>hs (by rw [e];rfl)
  have hq:=hx hs';split at h
  ·cases h
  ·cases h;refine EC hv ?_;unfold hlf;split
   ·exact⟨hq,by show ht 0≤46;omega⟩
   ·exact⟨by show ht 0≤46;omega,hq⟩
theorem Ig {L:List Li}{f:Fg}{m:Li}(hf:FgG L f) (hl:f.1.sm) (hm:m.sm) (hv:f.2.le 46):(∀g∈(f4 f m).1,g.2.le 46)∧∀g∈(f4 f m).2,g.2.le 46:=by
 rw [pc hf.g hf.b hf.ok]
 have key:∀x:Li,x.sm→∀g∈((jp f.1 f.2 x).toList).map (fun s=>(f.1,s)),g.2.le 46:=fun x hx g hg=>by
  obtain⟨w,hw,rfl⟩:=aj.1 hg;rw [Option.mem_toList]at hw;exact PV hl hx hv hw
 exact⟨key m hm,key m.neg hm.neg⟩
end Go.Ab
