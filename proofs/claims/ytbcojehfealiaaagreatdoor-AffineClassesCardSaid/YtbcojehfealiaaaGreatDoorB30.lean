/- Texts laid one behind the other: PClip, PRes, IsG, PMrg, ZipB, GwH. -/
import Derived.Stop.Asserts
import Derived.Test.YtbcojehfealiaaaGreatDoorZipA
set_option linter.all false
set_option maxHeartbeats 16000000
namespace Go.Ab
open Go.Proofs
variable [Base]
def Ju (L:Nat) (s:Fg):Prop:=s.1.le L∧s.2.le (50*L)
section
variable {F:Fr}{H:LH}{ty:TypeId}
end
section
variable {P:Program}{F:Fr}{H:LH}{ty:TypeId}
end
section
variable {P:Program}{C:Ctx}{n:Nat}{F:Fr}{ops:Array Oper}{rs:List Nat}{Hc:LH}{K:Fr→LH→Prop}{s i d:Nat}{r:List NO'}{E:LH}{ty:TypeId}{pos:String}{aft:Array Edge}
end
section
variable {P:Program}{C:Ctx}{n:Nat}{F:Fr}{H:LH}{ops:Array Oper}{rs:List Nat}{Hc:LH}{K Q:Fr→LH→Prop}{s i d:Nat}{r:List NO'}{E:LH}{ty:TypeId}{pos:String}{aft:Array Edge}{rest:List Oper}
theorem az {T e:TypeId}{sz by_:Nat}{z:List SV}{g:Bool} [hS:TSl P T e] [hT:TY P e sz by_ z g]{x:Operand}(ds:List SV) (hx:ev F x=ag ds) (hf:fx ((List.range 1).map fun i=>(i*sz,sz)) (List.replicate 1 z).flatten [(0,ds)]=some ds:=by exact rfl)
  (hsz:Nat.ble (1*sz) 16777216=true:=by exact rfl) (hpos:Nat.blt 0 sz=true:=by exact rfl):OpV P (.buildSlice T 1 [(0,x)].toArray) ty F H (sl ds 1):=jq (s:=ag ds) hx inferInstance hf hsz hpos
theorem ZkE {T e:TypeId}{sz by_:Nat}{z:List SV}{g:Bool} [hS:TSl P T e] [hT:TY P e sz by_ z g]{x k0:Nat}{y:Operand}{ds:List SV}
  (hx:F x=esl) (hy:ev F y=sl ds k0) (hds:ds.length=k0*sz) (hpos:0<k0*sz) (hl:k0≤1000000000) (k:∀s' H',Own e sz k0 ds s' H'→Mz P C n ops rs Hc K (s+1) r (upd F d s') (H'++E))
  (hyx:y≠ .tmp x:=by decide) (hxd:x≠d:=by decide) (hby:by_≤10000:=by decide) (ho:ops[i]? = some ⟨some d, .call ⟨.builtin .append,#[.tmp x,y],#[T,T]⟩,ty,pos,aft,none⟩:=by exact rfl) (hr:rs[s]? = some i:=by exact rfl) (hd:Nat.blt d n=true:=by exact rfl) :
  Mz P C n ops rs Hc K s ((i,⟨some d, .call ⟨.builtin .append,#[.tmp x,y],#[T,T]⟩,ty,pos,aft,none⟩)::r) F E :=
 .row (Post:=fun sv E'=>∃Hs,Own e sz k0 ds sv Hs∧E'=Hs++E) hr (nO (X:=[]) hx hy hyx hxd hds hpos hl hby hd ho) (fun sv E' ⟨Hs,hO,e⟩=>by rw [e];exact k sv Hs hO)
theorem ZkP {T e:TypeId}{sz by_:Nat}{z:List SV}{g:Bool} [hS:TSl P T e] [hT:TY P e sz by_ z g]{x y:Operand}{n0:Nat}{cs ds:List SV}{so:SV}{Hs:LH}
  (hown:Own e sz n0 cs so Hs) (hl:n0≤1000000000) (k:Mz P C n ops rs Hc K (s+1) r (upd F d (sl (cs++ds) (n0+1))) E)
  (hx:ev F x=so:=by exact rfl) (hy:ev F y=sl ds 1:=by exact rfl) (hds:ds.length=sz:=by exact rfl) (hpos:0<sz:=by decide) (hby:by_≤10000:=by decide)
  (ho:ops[i]? = some ⟨some d, .call ⟨.builtin .append,#[x,y],#[T,T]⟩,ty,pos,aft,none⟩:=by exact rfl) (hr:rs[s]? = some i:=by exact rfl) (hd:Nat.blt d n=true:=by exact rfl) :
  Mz P C n ops rs Hc K s ((i,⟨some d, .call ⟨.builtin .append,#[x,y],#[T,T]⟩,ty,pos,aft,none⟩)::r) F (Hs++E) :=
 .row (Post:=fun sv E'=>sv=sl (cs++ds) (n0+1)∧E'=E) hr ((ku hown (R:=E++Hc) (by rw [List.append_assoc]) hx hy hds hpos hl hby hd ho).post fun sv H1 h=>⟨H1,List.Perm.refl _,E,h.2,h.1,rfl⟩) (fun sv E' ⟨h1,h2⟩=>by rw [h1,h2];exact k)
theorem Em {T e:TypeId}{sz by_:Nat}{z:List SV}{g:Bool} [hS:TSl P T e] [hT:TY P e sz by_ z g]{x y:Operand}{n0:Nat}{cs ds:List SV}{so:SV}{Hs Rs:LH}
  (hown:Own e sz n0 cs so Hs) (hp:H.Perm (Hs++Rs)) (hl:n0≤1000000000) (k:∀s' H',Own e sz (n0+1) (cs++ds) s' H'→WPL P C n ops rest Q (upd F d s') (H'++Rs))
  (hx:ev F x=so:=by exact rfl) (hy:ev F y=sl ds 1:=by exact rfl) (hds:ds.length=sz:=by exact rfl) (hpos:0<sz:=by decide) (hby:by_≤10000:=by decide) (hd:Nat.blt d n=true:=by exact rfl) :
  WPL P C n ops (⟨some d, .call ⟨.builtin .append,#[x,y],#[T,T]⟩,ty,pos,aft,none⟩::rest) Q F H :=
 .perm hp (.appOwnS hown hx hy (Spl.app _ _) hds hpos hl hby k hd)
theorem v8 {T e:TypeId}{sz by_:Nat}{z:List SV}{g:Bool} [hS:TSl P T e] [hT:TY P e sz by_ z g]{x y:Operand}{n0 k0:Nat}{cs ds:List SV}{so:SV}{Hs Rs:LH}
  (hown:Own e sz n0 cs so Hs) (hp:H.Perm (Hs++Rs)) (hl:n0+k0≤1000000000) (hds:ds.length=k0*sz) (k:∀s' H',Own e sz (n0+k0) (cs++ds) s' H'→WPL P C n ops rest Q (upd F d s') (H'++Rs))
  (hx:ev F x=so:=by exact rfl) (hy:ev F y=sl ds k0:=by exact rfl) (hpos:0<sz:=by decide) (hby:by_≤10000:=by decide) (hd:Nat.blt d n=true:=by exact rfl) :
  WPL P C n ops (⟨some d, .call ⟨.builtin .append,#[x,y],#[T,T]⟩,ty,pos,aft,none⟩::rest) Q F H:=by
 refine .perm hp ?_;rcases(by omega:k0=0∨0<k0)with h0|h0
 ·subst h0;rw [Nat.zero_mul]at hds;have e0:=List.eq_nil_of_length_eq_zero hds;subst e0;rw [Nat.add_zero,List.append_nil]at k;have hk:=k so Hs hown;obtain⟨_,⟨_,rfl,_⟩|⟨_,c,h1,_,rfl,_⟩⟩:=id hown
  ·exact Wo (zq hx hy (Nat.le_refl _)) hk hd
  ·exact Wo (zq hx hy h1) hk hd
 ·exact .appOwnK hown hx hy (Spl.app _ _) hds (Nat.mul_pos h0 hpos) hl hby k hd
theorem En {T e:TypeId}{sz by_:Nat}{z:List SV}{g:Bool} [hS:TSl P T e] [hT:TY P e sz by_ z g]{x y:Operand}{n0 k0:Nat}{cs ds:List SV}{so:SV}{Hs Rs:LH}
  (hown:Own e sz n0 cs so Hs) (hsp:Tk H Hs Rs) (hl:n0+k0≤1000000000) (hds:ds.length=k0*sz) (k:∀s' H',Own e sz (n0+k0) (cs++ds) s' H'→WPL P C n ops rest Q (upd F d s') (Rs++H'))
  (hx:ev F x=so:=by exact rfl) (hy:ev F y=sl ds k0:=by exact rfl) (hpos:0<sz:=by decide) (hby:by_≤10000:=by decide) (hd:Nat.blt d n=true:=by exact rfl) :
  WPL P C n ops (⟨some d, .call ⟨.builtin .append,#[x,y],#[T,T]⟩,ty,pos,aft,none⟩::rest) Q F H :=
 v8 hown hsp.perm hl hds (fun s' H' h => .perm List.perm_append_comm (k s' H' h)) hx hy hpos hby hd
end
theorem y7 {a b:List SV}{k:Nat}(h:LeL a b):Le (sl a k) (sl b k):=fun m v hv=>by
 obtain⟨ad,cap,rfl,h1,h2,h3⟩:=ci hv;refine eJ h1 h2 ?_;rcases h3 with rfl|⟨b',off,rfl,arr,T,fz,h4,h5⟩
 ·left;cases b with
  |nil=>rfl
  |cons _ _=>exact h.elim
 ·right
  have hlen:a.length=b.length:=by
   clear h4 h5 hv;induction a generalizing b with
   |nil=>cases b with
    |nil=>rfl
    |cons _ _=>exact h.elim
   |cons x a ih=>cases b with
    |nil=>exact h.elim
    |cons y b=>simp [ih h.2]
  exact⟨b',off,rfl,arr,T,fz,h4,by rw [←hlen];exact ak.le h h5⟩
abbrev qT:TypeId:=30
abbrev sT:TypeId:=225
abbrev fT:TypeId:=227
theorem Own.one {T:TypeId}{sz b c:Nat}{cs:List SV}(h:cs.length=sz) (hc:1≤c) (hm:c≤maxLen) (hz:c=1):Own T sz 1 cs (lit (.slice (some ⟨b,0,none⟩) 1 c)) [(b,T,cs)]:=by
 subst hz;refine⟨om, .inr ⟨b,1,om,hm,rfl,?_⟩⟩;simp
theorem vQ {a:Rat}{c:List Rat}:dC (a::c)=(a-1)::(List.zipWith gP (a::c) c++[(a::c).getLast (by simp)+1]):=rfl
def prB (c:List Rat) (k:Nat):List Rat:=(c.getD 0 0-1)::(List.range (k-1)).map fun j=>gP (c.getD j 0) (c.getD (j+1) 0)
theorem CB {c:List Rat}{k:Nat}(hk:1≤k):prB c (k+1)=prB c k++[gP (c.getD (k-1) 0) (c.getD k 0)]:=by
 obtain⟨j,rfl⟩:∃j,k=j+1:=⟨k-1,om⟩
 unfold prB;simp only [Nat.add_sub_cancel];rw [List.range_succ,List.map_append];rfl
theorem rU:∀(a:Rat) (c:List Rat),List.zipWith gP (a::c) c=(List.range c.length).map fun j=>gP ((a::c).getD j 0) ((a::c).getD (j+1) 0)
 |_,[]=>rfl
 |a,b::c=>by
  rw [List.zipWith_cons_cons,rU b c,List.length_cons,List.range_succ_eq_map,List.map_cons,List.map_map];rfl
theorem xO {c:List Rat}(h:c≠[]):dC c=prB c c.length++[c.getD (c.length-1) 0+1]:=by
 cases c with
 |nil=>exact absurd rfl h
 |cons a c =>
  rw [vQ,rU];unfold prB;rw [List.getLast_eq_getElem];simp only [List.length_cons,Nat.add_sub_cancel,List.cons_append];congr 3
  rw [List.getD,List.getElem?_eq_getElem (by simp)];rfl
structure yz where
 k:Nat
 s:SV
 Hs:LH
theorem xx (c:List Rat) (hl:c.length≤1000000) (hh:∀y∈c,ht y≤40000):Pu Tryz.prog 260 [rqs c] (rqs (dC c)):=by
 by_cases h0:c=[]
 ·subst h0;show Pu _ _ _ (rqs [0])
  refine Pi Tryz.func260 fun C=>?_
  repeat(first|(refine Wo (az ([lit (.bool false),lit (.slice none 0 0),lit (.slice none 0 0)]) rfl) ?_)|(refine Wdo (az ([lit (.bool false),lit (.slice none 0 0),lit (.slice none 0 0)]) rfl) ?_)|(refine A1 ⟨?_⟩;intros))
  exact aM (ax (RV.tmp rfl) (y7 (b:=rqx 0) ⟨Le.refl _,kW,kX,trivial⟩))
 have h1:=fv;have hpos:=List.length_pos_iff.2 h0;have hget:∀k,k<c.length→c[k]? = some (c.getD k 0):=fun k hk=>by rw [List.getD,List.getElem?_eq_getElem hk];rfl
 have hht:∀k,k<c.length→ht (c.getD k 0)≤40000:=fun k hk=>hh _ (List.mem_of_getElem? (hget k hk))
 have hatk:∀k,k<c.length→(((c.map rqx).flatten).drop (k*3)).take 3=rqx (c.getD k 0):=fun k hk=>cX (f:=rqx) (n:=3) gA (hget k hk)
 have hne:(c.map rqx).flatten≠[]:=e7 gA om h0;have a0:=hatk 0 hpos;have b0:=hht 0 hpos;have aL:=hatk (c.length-1) om;have bL:=hht (c.length-1) om;have e1:=dP (c.getD 0 0) 1 om om;have e2:=ee (c.getD (c.length-1) 0) 1 om om;rw [xO h0]
 have hg:∀k,1≤k→k<c.length→∀s Hs,Own qT 3 (k+1) (((prB c k).map rqx).flatten++rqx (gP (c.getD (k-1) 0) (c.getD k 0))) s Hs→Own qT 3 (prB c (k+1)).length ((prB c (k+1)).map rqx).flatten s Hs:=fun k hk1 hk2 s Hs h=>by
  rw [CB hk1,List.map_append,List.flatten_append,List.length_append,List.length_singleton];have e:(prB c k).length=k:=by unfold prB;simp;omega
  rw [e];simpa using h
 have hpl:∀k,1≤k→(prB c k).length=k:=fun k hk=>by unfold prB;simp;omega
 have hp1:((prB c 1).map rqx).flatten=rqx (c.getD 0 0-1):=by unfold prB;simp
 have hfin:∀s Hs,Own qT 3 (c.length+1) (((prB c c.length).map rqx).flatten++rqx (c.getD (c.length-1) 0+1)) s Hs→Own qT 3 (prB c c.length++[c.getD (c.length-1) 0+1]).length ((prB c c.length++[c.getD (c.length-1) 0+1]).map rqx).flatten s Hs:=fun s Hs h=>by
  rw [List.map_append,List.flatten_append,List.length_append,List.length_singleton,hpl _ hpos];simpa using h
 generalize hX:c.getD 0 0-1=x0 at *;generalize hY:c.getD (c.length-1) 0+1=xL at *;have e3:∀k,1≤k→k<c.length→Pu Tryz.prog 235 [rq (c.getD (k-1) 0),rq (c.getD k 0)] (rq (gP (c.getD (k-1) 0) (c.getD k 0))):=fun k h2 h3=>yO _ _ (by have:=hht (k-1) om;omega) (by have:=hht k h3;omega)
 refine Pi Tryz.func260 fun C=>?_
 repeat(first|(refine AS ⟨?_⟩;intros)|(refine O1 ⟨?_⟩;intros))
 refine WdN 6 ?_;repeat(refine A1 ⟨?_⟩;intros)
 refine Wdo (a8 (cs':=rqx (c.getD 0 0)) rfl rfl om om a0 hne) ?_;repeat(first|(refine A1 ⟨?_⟩;intros)|refine W4 jT ⟨?_⟩|refine W4 e1 ⟨?_⟩)
 rename_i b3
 refine WP.loopS (ι:=yz) (fun y=>1≤y.k∧y.k≤c.length∧Own qT 3 (prB c y.k).length ((prB c y.k).map rqx).flatten y.s y.Hs) (fun y=>c.length-y.k)
  (fun y=>fm [(0,rqs c),(3,y.s),(4,lit (.int .i64 y.k))]) (fun y=>y.Hs) ⟨1,lit (.slice (some ⟨b3,0,none⟩) 1 1),[(b3,qT,rqx x0)]⟩
  ⟨Nat.le_refl _,hpos,by rw [hpl 1 om,hp1];exact Own.one rfl om (by decide) rfl⟩ lfA Sr ?_
 rintro ⟨k,s,Hs⟩ ⟨hk1,hk2,hown⟩ K hK;simp only at hk1 hk2 hown⊢;have hco:=hown.co;have hkl:=hpl k hk1;by_cases hkc:k<c.length
 ·have a1:(((c.map rqx).flatten).drop (((k:Int)-1).toNat*3)).take 3=rqx (c.getD (k-1) 0):=by rw [show((k:Int)-1).toNat=k-1 by omega];exact hatk (k-1) om
  have a2:=hatk k hkc;have em:=e3 k hk1 hkc;have hgo:=fun s' Hs' h F' H'=>hK F' H' ⟨k+1,s',Hs'⟩ ⟨by simp only;omega,by simp only;omega,hg k hk1 hkc s' Hs' h⟩ (by simp only;omega)
  rw [hkl]at hown;clear hK hg hfin e3 hatk hht hget hh;generalize gP (c.getD (k-1) 0) (c.getD k 0)=xm at *;repeat(first|(refine AS ⟨?_⟩;intros)|(refine O1 ⟨?_⟩;intros))
  refine WdZ 13 [0,1,2,3,4,5,6,7,8,9,10,11,12] [12] Hs [] ?_ (by rw [List.append_nil]);refine ZkD 12 ?_;repeat(refine A1 ⟨?_⟩;intros)
  refine Wdo (a8 (cs':=rqx (c.getD (k-1) 0)) rfl rfl om om a1 hne) ?_;repeat(refine A1 ⟨?_⟩;intros)
  refine Wdo (a8 (cs':=rqx (c.getD k 0)) rfl rfl om om a2 hne) ?_;repeat(first|(refine Wo (az (rqx xm) rfl) ?_)|(refine Wdo (az (rqx xm) rfl) ?_)|(refine A1 ⟨?_⟩;intros)|refine W4 em ⟨?_⟩)
  refine rP ?_;refine ZkA hown (Tk.same _) om (fun s' H' hown'=>?_);refine ZkN ?_;have hco':=hown'.co;replace hgo:=hgo s' H' hown';rw [List.append_nil,List.append_nil];clear hown hown';repeat(refine A1 ⟨?_⟩;intros)
  exact hgo _ _ lfA Sr
 ·have hke:k=c.length:=by omega
  subst hke;rw [hkl]at hown;clear hK hg e3 hatk hht hget hh;replace aL:(((c.map rqx).flatten).drop (((c.length:Int)-1).toNat*3)).take 3=rqx (c.getD (c.length-1) 0):=by rw [show((c.length:Int)-1).toNat=c.length-1 by omega];exact aL
  repeat(first|(refine AS ⟨?_⟩;intros)|(refine O1 ⟨?_⟩;intros))
  refine WdZ 11 [0,1,2,3,4,5,6,7,8,9,10] [10] Hs [] ?_ (by rw [List.append_nil]);refine ZkD 10 ?_;repeat(refine A1 ⟨?_⟩;intros)
  refine Wdo (a8 (cs':=rqx (c.getD (c.length-1) 0)) rfl rfl om om aL hne) ?_;repeat(first|(refine Wo (az (rqx xL) rfl) ?_)|(refine Wdo (az (rqx xL) rfl) ?_)|(refine A1 ⟨?_⟩;intros)|refine W4 jT ⟨?_⟩|refine W4 e2 ⟨?_⟩)
  refine rP ?_;refine ZkA hown (Tk.same _) om (fun s' H' hown'=>?_);refine ZkN ?_;replace hown':=hfin _ _ hown';have hco':=hown'.co;rw [List.append_nil,List.append_nil];refine WPL.rowS 45 hown' rfl (by rw [List.append_nil]) ?_;repeat(refine A1 ⟨?_⟩;intros)
  exact aM (ax (RV.tmp rfl) Lr)
abbrev bls (l:List Bool):SV:=sl (l.map fun b=>[lit (.bool b)]).flatten l.length
theorem Eb (b:Bool):([lit (.bool b)]:List SV).length=1:=rfl
theorem qX (c:List Rat) (m:List Bool) (k:Nat):(List.range (k+1)).foldl (cK c m) []=cK c m ((List.range k).foldl (cK c m) []) k:=by
 rw [List.range_succ,List.foldl_append];rfl
theorem tb (c:List Rat) (m:List Bool):∀k,((List.range k).foldl (cK c m) []).length≤k
 |0=>Nat.le_refl _
 |k+1=>by
  have:=tb c m k;have:=uK c m ((List.range k).foldl (cK c m) []) k;rw [qX];omega
theorem pf:∀(ds A B:List SV) (o:Nat),spl (A++B) (A.length+o) ds=A++spl B o ds
 | [],_,_,_=>rfl
 |d::ds,A,B,o=>by
  show spl ((A++B).set (A.length+o) d) (A.length+o+1) ds=A++spl (B.set o d) (o+1) ds
  rw [List.set_append_right _ _ om,show A.length+o-A.length=o by omega,Nat.add_assoc];exact pf ds A (B.set o d) (o+1)
theorem lI {α:Type}{f:α→List SV}{l:List α}{k:Nat}{a:α}(h:l[k]? = some a):(l.map f).flatten=((l.take k).map f).flatten++(f a++((l.drop (k+1)).map f).flatten):=by
 have e:l.take k++a::l.drop (k+1)=l:=by rw [←pG h,List.take_append_drop]
 have e2:((l.take k++a::l.drop (k+1)).map f).flatten=((l.take k).map f).flatten++(f a++((l.drop (k+1)).map f).flatten):=by rw [List.map_append,List.flatten_append,List.map_cons,List.flatten_cons]
 rw [e]at e2;exact e2
theorem qZ {α:Type}{f:α→List SV}{l:List α}{k:Nat}{s:α}(h:k<l.length):((l.set k s).map f).flatten=((l.take k).map f).flatten++(f s++((l.drop (k+1)).map f).flatten):=by
 rw [List.set_eq_take_append_cons_drop,if_pos h,List.map_append,List.flatten_append,List.map_cons,List.flatten_cons]
theorem EI {l:List Spn}{k:Nat}{a:Spn}{R:List SV}(hi:Rat) (h:l[k]? = some a):spl ((l.map spx).flatten++R) (0+k*8+3) (rqx hi)=((l.set k ⟨a.lo,hi,a.nl,a.nh⟩).map spx).flatten++R:=by
 have hk:=(List.getElem?_eq_some_iff.1 h).1;have hA:(((l.take k).map spx).flatten).length=k*8:=by rw [bk i8,List.length_take];congr 1;omega
 rw [lI h,qZ hk,List.append_assoc,List.append_assoc,show 0+k*8+3=(((l.take k).map spx).flatten).length+3 by omega,pf,List.append_assoc,List.append_assoc];rfl
theorem EH {l:List Spn}{k:Nat}{a:Spn}{R:List SV}(nh:Bool) (h:l[k]? = some a):spl ((l.map spx).flatten++R) (0+k*8+7) [lit (.bool nh)]=((l.set k ⟨a.lo,a.hi,a.nl,nh⟩).map spx).flatten++R:=by
 have hk:=(List.getElem?_eq_some_iff.1 h).1;have hA:(((l.take k).map spx).flatten).length=k*8:=by rw [bk i8,List.length_take];congr 1;omega
 rw [lI h,qZ hk,List.append_assoc,List.append_assoc,show 0+k*8+7=(((l.take k).map spx).flatten).length+7 by omega,pf,List.append_assoc,List.append_assoc];rfl
theorem C6 {l:List Spn}{k j:Nat}{R:List SV}(h:k<l.length) (hj:j≤8):Nat.ble (0+k*8+j) ((l.map spx).flatten++R).length=true:=by
 apply Nat.ble_eq_true_of_le;rw [List.length_append,bk i8];have:(k+1)*8≤l.length*8:=Nat.mul_le_mul_right _ h;omega
abbrev bT:TypeId:=4
theorem l8 (a b:Bool):LeL [lit (.bool false),lit (.slice none 0 0),lit (.slice none 0 0),lit (.bool false),lit (.slice none 0 0),lit (.slice none 0 0),lit (.bool a),lit (.bool b)] (spx ⟨0,0,a,b⟩):=⟨Le.refl _,kW,kX,Le.refl _,kW,kX,Le.refl _,Le.refl _,trivial⟩
theorem Cr (c:List Rat) (m:List Bool) (hl:c.length≤1000000) (hm:m.length=c.length+1):Pu Tryz.prog 262 [rqs c,bls m] (sps (qY c m)):=by
 have hgc:∀k,k<c.length→(((c.map rqx).flatten).drop (k*3)).take 3=rqx (c.getD k 0):=fun k hk=>cX (f:=rqx) (n:=3) gA (by rw [List.getD,List.getElem?_eq_getElem hk];rfl)
 have hgm:∀k,k<m.length→(((m.map fun b=>[lit (.bool b)]).flatten).drop (k*1)).take 1=[lit (.bool (m.getD k false))]:=fun k hk=>cX (f:=fun b=>[lit (.bool b)]) (n:=1) Eb (by rw [List.getD,List.getElem?_eq_getElem hk];rfl)
 have hnm:(m.map fun b=>[lit (.bool b)]).flatten≠[]:=e7 Eb om (fun e=>by rw [e]at hm;simp at hm);unfold qY;refine Pi Tryz.func262 fun C=>?_
 repeat(refine A1 ⟨?_⟩;intros)
 refine WP.loopS (ι:=yz) (fun y=>y.k≤m.length∧Own sT 8 ((List.range y.k).foldl (cK c m) []).length (((List.range y.k).foldl (cK c m) []).map spx).flatten y.s y.Hs) (fun y=>m.length-y.k)
  (fun y=>fm [(0,rqs c),(1,bls m),(5,y.s),(10,bls m),(11,lit (.int .i64 m.length)),(12,lit (.int .i64 y.k))]) (fun y=>y.Hs) ⟨0,lit (.slice none 0 0),[]⟩
  ⟨Nat.zero_le _,Own.nil _ _⟩ lfA (List.nil_sublist _) ?_
 rintro ⟨k,s,Hs⟩ ⟨hk,hown⟩ K hK;simp only at hk hown⊢;have hco:=hown.co;have hfl:=tb c m k;by_cases hkl:k<m.length
 ·have am:=hgm k hkl;have hgo:=fun s' Hs' h F' H'=>hK F' H' ⟨k+1,s',Hs'⟩ ⟨by simp only;omega,h⟩ (by simp only;omega)
  simp only [qX]at hgo;have ei:((k:Int)-1).toNat=k-1:=by omega
  have hap:(((m.map fun b=>[(lit (.bool b):SV)]).flatten).drop (((k:Int)-1).toNat*1)).take 1=[lit (.bool (m.getD (k-1) false))]:=by rw [ei];exact hgm (k-1) om
  have ac1:0<k→(((c.map rqx).flatten).drop (((k:Int)-1).toNat*3)).take 3=rqx (c.getD (k-1) 0):=fun h=>by rw [ei];exact hgc (k-1) om
  have ac2:=fun h:k<c.length=>hgc k h
  have hnc:0<c.length→(c.map rqx).flatten≠[]:=fun h=>e7 gA om (fun e=>by rw [e]at h;simp at h)
  generalize(List.range k).foldl (cK c m) []=out at *;unfold cK at hgo;clear hK hgc hgm;cases hmk:m.getD k false with
  |false =>
   rw [hmk]at hgo am;rw [if_pos rfl]at hgo;replace hgo:=hgo s Hs hown;clear hap ac1 ac2 hnc;repeat(refine A1 ⟨?_⟩;intros)
   refine Wo (a8 (cs':=[lit (.bool false)]) rfl rfl om om am hnm) ?_;repeat(refine A1 ⟨?_⟩;intros)
   exact hgo _ _ lfA Sr
  |true =>
   rw [hmk]at hgo am;rw [if_neg (by decide)]at hgo;have hsp:iC c k=⟨if 0<k then c.getD (k-1) 0 else 0,if k<c.length then c.getD k 0 else 0,decide (k=0),decide (k=c.length)⟩:=rfl;obtain⟨x,hx⟩:∃x,x=if 0<k then c.getD (k-1) 0 else 0:=⟨_,rfl⟩
   obtain⟨y,hy⟩:∃y,y=if k<c.length then c.getD k 0 else 0:=⟨_,rfl⟩
   rw [←hx,←hy]at hsp;rw [hsp]at hgo;have hlo:LeL [lit (.bool false),lit (.slice none 0 0),lit (.slice none 0 0)] (rqx 0):=by repeat(first|exact trivial|refine⟨?_,?_⟩|exact Le.refl _|exact kW|exact kX)
   obtain⟨x1,x2,x3,_⟩:=hlo;have hle:out.length≤1000000:=by omega
   by_cases hj:0<k∧m.getD (k-1) false=true∧0<out.length
   ·obtain⟨j1,j2,j3⟩:=hj;rw [if_pos ⟨j1,j2,j3⟩]at hgo;rw [j2]at hap;rw [if_pos j1]at hx;have al:=ac1 j1;rw [←hx]at al;obtain⟨o,ho⟩:∃o,out[out.length-1]? = some o:=⟨_,List.getElem?_eq_getElem om⟩
    have hoD:out.getD (out.length-1) Spn.full=o:=by rw [List.getD,ho];rfl
    rw [hoD]at hgo;have hc0:(c.map rqx).flatten≠[]:=hnc om;obtain⟨b1,c1,hnc1,hcm,rfl,rfl⟩:=hown.blk j3;have hol:=hown.1
    have hout2:Own sT 8 (out.set (out.length-1) ⟨o.lo,y,o.nl,decide (k=c.length)⟩).length ((out.set (out.length-1) ⟨o.lo,y,o.nl,decide (k=c.length)⟩).map spx).flatten (lit (.slice (some ⟨b1,0,none⟩) out.length c1)) [(b1,sT,((out.set (out.length-1) ⟨o.lo,y,o.nl,decide (k=c.length)⟩).map spx).flatten++List.replicate (c1*8-out.length*8) top)]:=by
     refine⟨bk i8 _, .inr ⟨b1,c1,by rw [List.length_set];exact hnc1,hcm,by rw [List.length_set],by rw [List.length_set]⟩⟩
    replace hgo:=hgo _ _ hout2;have s1:=EI (R:=List.replicate (c1*8-out.length*8) top) y ho;have ho2:(out.set (out.length-1) ⟨o.lo,y,o.nl,o.nh⟩)[out.length-1]? = some ⟨o.lo,y,o.nl,o.nh⟩:=by rw [List.getElem?_set_self om]
    have s2:=EH (R:=List.replicate (c1*8-out.length*8) top) (decide (k=c.length)) ho2;rw [List.set_set]at s2;have q1:=C6 (l:=out) (k:=out.length-1) (j:=6) (R:=List.replicate (c1*8-out.length*8) top) om om;have q2:=C6 (l:=out.set (out.length-1) ⟨o.lo,y,o.nl,o.nh⟩) (k:=out.length-1) (j:=8) (R:=List.replicate (c1*8-out.length*8) top) (by rw [List.length_set];omega) om;clear hown hout2 hol hoD ho ho2;generalize(out.set (out.length-1) ⟨o.lo,y,o.nl,o.nh⟩).map spx=cs1 at *;generalize(out.set (out.length-1) ⟨o.lo,y,o.nl,decide (k=c.length)⟩).map spx=cs2 at *;have eo:0+(out.length-1)*8=((out.length:Int)-1).toNat*8:=by omega
    rw [eo]at s1 s2 q1 q2;clear eo;rcases(by omega:k<c.length∨k=c.length)with kc|kc
    ·have ah:=ac2 kc;rw [if_pos kc]at hy;rw [←hy]at ah;have kd:decide (k=c.length)=false:=decide_eq_false om;rw [kd]at s2;clear ac1 ac2 hx hy hsp hnc;repeat(refine A1 ⟨?_⟩;intros)
     refine Wo (a8 (cs':=[lit (.bool true)]) rfl rfl om om am hnm) ?_;repeat(refine A1 ⟨?_⟩;intros)
     refine Wo (a8 (cs':=rqx x) rfl rfl om om al hc0) ?_;repeat(refine A1 ⟨?_⟩;intros)
     refine Wo (a8 (cs':=rqx y) rfl rfl om om ah hc0) ?_;repeat(first|(refine A1 ⟨?_⟩;intros)|(refine Wo (ov_lenOwn hown rfl) ?_)|(refine Wdo (ov_lenOwn hown rfl) ?_)|(refine Wog (ov_lenOwn hown rfl) ?_)|(refine cL (ov_lenOwn hown rfl) ?_))
     refine Wog (a8 (cs':=[lit (.bool true)]) rfl rfl om om hap hnm) ?_;repeat(first|(refine AS ⟨?_⟩;intros)|(refine O1 ⟨?_⟩;intros))
     refine WdL 10 3 ?_;repeat(refine A1 ⟨?_⟩;intros)
     refine dL0 ?_;refine Gv ?_ ?_
     ·(repeat(first|exact LOk.nil|refine Lsk ?_|refine Lcv ?_))
     refine Gv ?_ ?_
     ·(repeat(first|exact LOk.nil|refine Lsk ?_|refine Lcv ?_))
     refine Gs (b:=b1) (o:=((out.length:Int)-1).toNat*8+3) (sv:=ag (rqx y)) rfl rfl rfl (.there _ (.here _)) s1 q1 ?_ ?_
     ·(repeat(first|exact LOk.nil|refine Lsk ?_|refine Lcv ?_))
     refine Gn ?_ ?_
     ·(repeat(first|exact LOk.nil|refine Lsk ?_|refine Lcv ?_))
     repeat(refine A1 ⟨?_⟩;intros)
     refine WPL.store (b:=b1) (o:=((out.length:Int)-1).toNat*8+7) (sv:=lit (.bool false)) rfl rfl rfl (.there _ (.here _)) s2 q2 ?_;repeat(refine A1 ⟨?_⟩;intros)
     exact hgo _ _ lfA (Sc Sr)
    ·rw [if_neg om]at hy;have kd:decide (k=c.length)=true:=decide_eq_true kc;rw [kd]at s2;clear ac1 ac2 hx hsp hnc;subst hy;repeat(refine A1 ⟨?_⟩;intros)
     refine Wo (a8 (cs':=[lit (.bool true)]) rfl rfl om om am hnm) ?_;repeat(refine A1 ⟨?_⟩;intros)
     refine WPL.lowB (cs':=spx ⟨0,0,false,true⟩) (.here _) (l8 false true) ?_;refine Wo (a8 (cs':=rqx x) rfl rfl om om al hc0) ?_;repeat(first|(refine A1 ⟨?_⟩;intros)|(refine Wo (ov_lenOwn hown rfl) ?_)|(refine Wdo (ov_lenOwn hown rfl) ?_)|(refine Wog (ov_lenOwn hown rfl) ?_)|(refine cL (ov_lenOwn hown rfl) ?_))
     refine Wog (a8 (cs':=[lit (.bool true)]) rfl rfl om om hap hnm) ?_;repeat(first|(refine AS ⟨?_⟩;intros)|(refine O1 ⟨?_⟩;intros))
     refine WdL 10 3 ?_;repeat(refine A1 ⟨?_⟩;intros)
     refine dL0 ?_;refine Gv ?_ ?_
     ·(repeat(first|exact LOk.nil|refine Lsk ?_|refine Lcv ?_))
     refine Gv ?_ ?_
     ·(repeat(first|exact LOk.nil|refine Lsk ?_|refine Lcv ?_))
     refine Gs (b:=b1) (o:=((out.length:Int)-1).toNat*8+3) (sv:=ag (rqx 0)) rfl rfl rfl (.there _ (.here _)) s1 q1 ?_ ?_
     ·(repeat(first|exact LOk.nil|refine Lsk ?_|refine Lcv ?_))
     refine Gn ?_ ?_
     ·(repeat(first|exact LOk.nil|refine Lsk ?_|refine Lcv ?_))
     repeat(refine A1 ⟨?_⟩;intros)
     refine WPL.store (b:=b1) (o:=((out.length:Int)-1).toNat*8+7) (sv:=lit (.bool true)) rfl rfl rfl (.there _ (.here _)) s2 q2 ?_;repeat(refine A1 ⟨?_⟩;intros)
     exact hgo _ _ lfA (Sc Sr)
   ·rw [if_neg hj]at hgo;obtain⟨b1,hb1⟩:∃b,b=decide (k=0):=⟨_,rfl⟩
    obtain⟨b2,hb2⟩:∃b,b=decide (k=c.length):=⟨_,rfl⟩
    rw [←hb1,←hb2]at hgo;have hap1:((out.map spx).flatten++spx ⟨x,y,b1,b2⟩)=((out++[(⟨x,y,b1,b2⟩:Spn)]).map spx).flatten:=by rw [List.map_append,List.flatten_append];simp
    have hln:(out++[(⟨x,y,b1,b2⟩:Spn)]).length=out.length+1:=by simp
    replace hgo:=fun s' Hs' (h:Own sT 8 (out.length+1) ((out.map spx).flatten++spx ⟨x,y,b1,b2⟩) s' Hs')=>hgo s' Hs' (by rw [hln,←hap1];exact h)
    clear hap1 hln hsp;rcases(by omega:k=0∨0<k)with k0|k0
    ·have hbv:b1=true:=by rw [hb1];exact decide_eq_true k0
     subst hbv;rw [if_neg om]at hx;subst hx;clear hb1 hj ac1 hap;rcases(by omega:k<c.length∨k=c.length)with kc|kc
     ·have hbv:b2=false:=by rw [hb2];exact decide_eq_false om
      subst hbv;have ah:=ac2 kc;rw [if_pos kc]at hy;rw [←hy]at ah;have hc0:=hnc om;clear hb2 hnc ac2 hy;repeat(refine A1 ⟨?_⟩;intros)
      refine Wo (a8 (cs':=[lit (.bool true)]) rfl rfl om om am hnm) ?_;repeat(refine A1 ⟨?_⟩;intros)
      refine WPL.lowB (cs':=spx ⟨0,0,true,false⟩) (.here _) (l8 true false) ?_;refine Wo (a8 (cs':=rqx y) rfl rfl om om ah hc0) ?_;repeat(first|(refine Wo (az (spx ⟨0,y,true,false⟩) rfl) ?_)|(refine Wdo (az (spx ⟨0,y,true,false⟩) rfl) ?_)|(refine A1 ⟨?_⟩;intros)|(refine Wo (ov_lenOwn hown rfl) ?_)|(refine Wdo (ov_lenOwn hown rfl) ?_)|(refine Wog (ov_lenOwn hown rfl) ?_)|(refine cL (ov_lenOwn hown rfl) ?_))
      refine jL hown (Tk.skip _ (Tk.same _)) om (fun s' H1 hown'=>?_);have hco':=hown'.co;replace hgo:=hgo s' H1 hown';clear hown hown';repeat(refine A1 ⟨?_⟩;intros)
      exact hgo _ _ lfA (Sc Sr)
     ·have hbv:b2=true:=by rw [hb2];exact decide_eq_true kc
      subst hbv;rw [if_neg om]at hy;subst hy;clear hb2 hnc ac2;repeat(refine A1 ⟨?_⟩;intros)
      refine Wo (a8 (cs':=[lit (.bool true)]) rfl rfl om om am hnm) ?_;repeat(refine A1 ⟨?_⟩;intros)
      refine WPL.lowB (cs':=spx ⟨0,0,true,true⟩) (.here _) (l8 true true) ?_;repeat(first|(refine Wo (az (spx ⟨0,0,true,true⟩) rfl) ?_)|(refine Wdo (az (spx ⟨0,0,true,true⟩) rfl) ?_)|(refine A1 ⟨?_⟩;intros)|(refine Wo (ov_lenOwn hown rfl) ?_)|(refine Wdo (ov_lenOwn hown rfl) ?_)|(refine Wog (ov_lenOwn hown rfl) ?_)|(refine cL (ov_lenOwn hown rfl) ?_))
      refine jL hown (Tk.skip _ (Tk.same _)) om (fun s' H1 hown'=>?_);have hco':=hown'.co;replace hgo:=hgo s' H1 hown';clear hown hown';repeat(refine A1 ⟨?_⟩;intros)
      exact hgo _ _ lfA (Sc Sr)
    ·have hbv:b1=false:=by rw [hb1];exact decide_eq_false om
     subst hbv;rw [if_pos k0]at hx;have al:=ac1 k0;rw [←hx]at al;have hc0:=hnc om;clear hb1 hx ac1 hnc;cases hm1:m.getD (k-1) false with
     |false =>
      rw [hm1]at hap;clear hj hm1;rcases(by omega:k<c.length∨k=c.length)with kc|kc
      ·have hbv:b2=false:=by rw [hb2];exact decide_eq_false om
       subst hbv;have ah:=ac2 kc;rw [if_pos kc]at hy;rw [←hy]at ah;clear hb2 ac2 hy;repeat(refine A1 ⟨?_⟩;intros)
       refine Wo (a8 (cs':=[lit (.bool true)]) rfl rfl om om am hnm) ?_;repeat(refine A1 ⟨?_⟩;intros)
       refine WPL.lowB (cs':=spx ⟨0,0,false,false⟩) (.here _) (l8 false false) ?_;refine Wo (a8 (cs':=rqx x) rfl rfl om om al hc0) ?_;repeat(refine A1 ⟨?_⟩;intros)
       refine Wo (a8 (cs':=rqx y) rfl rfl om om ah hc0) ?_;repeat(first|(refine A1 ⟨?_⟩;intros)|(refine Wo (ov_lenOwn hown rfl) ?_)|(refine Wdo (ov_lenOwn hown rfl) ?_)|(refine Wog (ov_lenOwn hown rfl) ?_)|(refine cL (ov_lenOwn hown rfl) ?_))
       refine Wog (a8 (cs':=[lit (.bool false)]) rfl rfl om om hap hnm) ?_;repeat(first|(refine Wo (az (spx ⟨x,y,false,false⟩) rfl) ?_)|(refine Wdo (az (spx ⟨x,y,false,false⟩) rfl) ?_)|(refine A1 ⟨?_⟩;intros))
       refine jL hown (Tk.skip _ (Tk.same _)) om (fun s' H1 hown'=>?_);have hco':=hown'.co;replace hgo:=hgo s' H1 hown';clear hown hown';repeat(refine A1 ⟨?_⟩;intros)
       exact hgo _ _ lfA (Sc Sr)
      ·have hbv:b2=true:=by rw [hb2];exact decide_eq_true kc
       subst hbv;rw [if_neg om]at hy;subst hy;clear hb2 ac2;repeat(refine A1 ⟨?_⟩;intros)
       refine Wo (a8 (cs':=[lit (.bool true)]) rfl rfl om om am hnm) ?_;repeat(refine A1 ⟨?_⟩;intros)
       refine WPL.lowB (cs':=spx ⟨0,0,false,true⟩) (.here _) (l8 false true) ?_;refine Wo (a8 (cs':=rqx x) rfl rfl om om al hc0) ?_;repeat(first|(refine A1 ⟨?_⟩;intros)|(refine Wo (ov_lenOwn hown rfl) ?_)|(refine Wdo (ov_lenOwn hown rfl) ?_)|(refine Wog (ov_lenOwn hown rfl) ?_)|(refine cL (ov_lenOwn hown rfl) ?_))
       refine Wog (a8 (cs':=[lit (.bool false)]) rfl rfl om om hap hnm) ?_;repeat(first|(refine Wo (az (spx ⟨x,0,false,true⟩) rfl) ?_)|(refine Wdo (az (spx ⟨x,0,false,true⟩) rfl) ?_)|(refine A1 ⟨?_⟩;intros))
       refine jL hown (Tk.skip _ (Tk.same _)) om (fun s' H1 hown'=>?_);have hco':=hown'.co;replace hgo:=hgo s' H1 hown';clear hown hown';repeat(refine A1 ⟨?_⟩;intros)
       exact hgo _ _ lfA (Sc Sr)
     |true =>
      rw [hm1]at hap
      have hz:out.length=0:=by
       rcases(by omega:out.length=0∨0<out.length)with h|h
       ·exact h
       ·exact absurd ⟨k0,hm1,h⟩ hj
      clear hj hm1;rcases(by omega:k<c.length∨k=c.length)with kc|kc
      ·have hbv:b2=false:=by rw [hb2];exact decide_eq_false om
       subst hbv;have ah:=ac2 kc;rw [if_pos kc]at hy;rw [←hy]at ah;clear hb2 ac2 hy;repeat(refine A1 ⟨?_⟩;intros)
       refine Wo (a8 (cs':=[lit (.bool true)]) rfl rfl om om am hnm) ?_;repeat(refine A1 ⟨?_⟩;intros)
       refine WPL.lowB (cs':=spx ⟨0,0,false,false⟩) (.here _) (l8 false false) ?_;refine Wo (a8 (cs':=rqx x) rfl rfl om om al hc0) ?_;repeat(refine A1 ⟨?_⟩;intros)
       refine Wo (a8 (cs':=rqx y) rfl rfl om om ah hc0) ?_;repeat(first|(refine A1 ⟨?_⟩;intros)|(refine Wo (ov_lenOwn hown rfl) ?_)|(refine Wdo (ov_lenOwn hown rfl) ?_)|(refine Wog (ov_lenOwn hown rfl) ?_)|(refine cL (ov_lenOwn hown rfl) ?_))
       refine Wog (a8 (cs':=[lit (.bool true)]) rfl rfl om om hap hnm) ?_;repeat(first|(refine Wo (az (spx ⟨x,y,false,false⟩) rfl) ?_)|(refine Wdo (az (spx ⟨x,y,false,false⟩) rfl) ?_)|(refine A1 ⟨?_⟩;intros))
       refine jL hown (Tk.skip _ (Tk.same _)) om (fun s' H1 hown'=>?_);have hco':=hown'.co;replace hgo:=hgo s' H1 hown';clear hown hown';repeat(refine A1 ⟨?_⟩;intros)
       exact hgo _ _ lfA (Sc Sr)
      ·have hbv:b2=true:=by rw [hb2];exact decide_eq_true kc
       subst hbv;rw [if_neg om]at hy;subst hy;clear hb2 ac2;repeat(refine A1 ⟨?_⟩;intros)
       refine Wo (a8 (cs':=[lit (.bool true)]) rfl rfl om om am hnm) ?_;repeat(refine A1 ⟨?_⟩;intros)
       refine WPL.lowB (cs':=spx ⟨0,0,false,true⟩) (.here _) (l8 false true) ?_;refine Wo (a8 (cs':=rqx x) rfl rfl om om al hc0) ?_;repeat(first|(refine A1 ⟨?_⟩;intros)|(refine Wo (ov_lenOwn hown rfl) ?_)|(refine Wdo (ov_lenOwn hown rfl) ?_)|(refine Wog (ov_lenOwn hown rfl) ?_)|(refine cL (ov_lenOwn hown rfl) ?_))
       refine Wog (a8 (cs':=[lit (.bool true)]) rfl rfl om om hap hnm) ?_;repeat(first|(refine Wo (az (spx ⟨x,0,false,true⟩) rfl) ?_)|(refine Wdo (az (spx ⟨x,0,false,true⟩) rfl) ?_)|(refine A1 ⟨?_⟩;intros))
       refine jL hown (Tk.skip _ (Tk.same _)) om (fun s' H1 hown'=>?_);have hco':=hown'.co;replace hgo:=hgo s' H1 hown';clear hown hown';repeat(refine A1 ⟨?_⟩;intros)
       exact hgo _ _ lfA (Sc Sr)
 ·have hke:k=m.length:=by omega
  subst hke;refine WP.rowS 5 hown rfl (by rw [List.append_nil]) ?_;clear hK hown;repeat(refine A1 ⟨?_⟩;intros)
  exact aM (ax (RV.tmp rfl) Lr)
end Go.Ab
