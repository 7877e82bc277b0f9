/- Texts laid one behind the other: ZipB, TcB, Uf, TcC, ZipC, TcD, TcE, RSrt. -/
import Derived.Test.YtnhepimaijhhaaaGreatDoorZipA
set_option linter.all false
set_option maxHeartbeats 16000000
namespace Go.Ab
open Go.Proofs
variable [Base]
section
variable {P:Program}{C:Ctx}{n:Nat}{F:Fr}{H:LH}{ops:Array Oper}{rs:List Nat}{Hc:LH}{K Q:Fr→LH→Prop}{s i d:Nat}{r:List NO'}{E:LH}{ty:TypeId}{pos:String}{aft:Array Edge}{rest:List Oper}
theorem aE {T e:TypeId}{sz by_:Nat}{z:List SV}{g:Bool} [hS:TSl P T e] [hT:TY P e sz by_ z g]{x:Operand}(ds:List SV) (hx:ev F x=ag ds) (hf:gn ((List.range 1).map fun i=>(i*sz,sz)) (List.replicate 1 z).flatten [(0,ds)]=some ds:=by exact rfl)
  (hsz:Nat.ble (1*sz) 16777216=true:=by exact rfl) (hpos:Nat.blt 0 sz=true:=by exact rfl):OpV P (.buildSlice T 1 [(0,x)].toArray) ty F H (sl ds 1):=eS (s:=ag ds) hx inferInstance hf hsz hpos
theorem ZkE {T e:TypeId}{sz by_:Nat}{z:List SV}{g:Bool} [hS:TSl P T e] [hT:TY P e sz by_ z g]{x k0:Nat}{y:Operand}{ds:List SV}
  (hx:F x=esl) (hy:ev F y=sl ds k0) (hds:ds.length=k0*sz) (hpos:0<k0*sz) (hl:k0≤1000000000) (k:∀s' H',Own e sz k0 ds s' H'→Mz P C n ops rs Hc K (s+1) r (upd F d s') (H'++E))
  (hyx:y≠ .tmp x:=by decide) (hxd:x≠d:=by decide) (hby:by_≤10000:=by decide) (ho:ops[i]? = some ⟨some d, .call ⟨.builtin .append,#[.tmp x,y],#[T,T]⟩,ty,pos,aft,none⟩:=by exact rfl) (hr:rs[s]? = some i:=by exact rfl) (hd:Nat.blt d n=true:=by exact rfl) :
  Mz P C n ops rs Hc K s ((i,⟨some d, .call ⟨.builtin .append,#[.tmp x,y],#[T,T]⟩,ty,pos,aft,none⟩)::r) F E :=
 .row (Post:=fun sv E'=>∃Hs,Own e sz k0 ds sv Hs∧E'=Hs++E) hr (pm (X:=[]) hx hy hyx hxd hds hpos hl hby hd ho) (fun sv E' ⟨Hs,hO,e⟩=>by rw [e];exact k sv Hs hO)
theorem ZkP {T e:TypeId}{sz by_:Nat}{z:List SV}{g:Bool} [hS:TSl P T e] [hT:TY P e sz by_ z g]{x y:Operand}{n0:Nat}{cs ds:List SV}{so:SV}{Hs:LH}
  (hown:Own e sz n0 cs so Hs) (hl:n0≤1000000000) (k:Mz P C n ops rs Hc K (s+1) r (upd F d (sl (cs++ds) (n0+1))) E)
  (hx:ev F x=so:=by exact rfl) (hy:ev F y=sl ds 1:=by exact rfl) (hds:ds.length=sz:=by exact rfl) (hpos:0<sz:=by decide) (hby:by_≤10000:=by decide)
  (ho:ops[i]? = some ⟨some d, .call ⟨.builtin .append,#[x,y],#[T,T]⟩,ty,pos,aft,none⟩:=by exact rfl) (hr:rs[s]? = some i:=by exact rfl) (hd:Nat.blt d n=true:=by exact rfl) :
  Mz P C n ops rs Hc K s ((i,⟨some d, .call ⟨.builtin .append,#[x,y],#[T,T]⟩,ty,pos,aft,none⟩)::r) F (Hs++E) :=
 .row (Post:=fun sv E'=>sv=sl (cs++ds) (n0+1)∧E'=E) hr ((m8 hown (R:=E++Hc) (by rw [List.append_assoc]) hx hy hds hpos hl hby hd ho).post fun sv H1 h=>⟨H1,List.Perm.refl _,E,h.2,h.1,rfl⟩) (fun sv E' ⟨h1,h2⟩=>by rw [h1,h2];exact k)
theorem xj {T e:TypeId}{sz by_:Nat}{z:List SV}{g:Bool} [hS:TSl P T e] [hT:TY P e sz by_ z g]{x y:Operand}{n0:Nat}{cs ds:List SV}{so:SV}{Hs Rs:LH}
  (hown:Own e sz n0 cs so Hs) (hp:H.Perm (Hs++Rs)) (hl:n0≤1000000000) (k:∀s' H',Own e sz (n0+1) (cs++ds) s' H'→WPL P C n ops rest Q (upd F d s') (H'++Rs))
  (hx:ev F x=so:=by exact rfl) (hy:ev F y=sl ds 1:=by exact rfl) (hds:ds.length=sz:=by exact rfl) (hpos:0<sz:=by decide) (hby:by_≤10000:=by decide) (hd:Nat.blt d n=true:=by exact rfl) :
  WPL P C n ops (⟨some d, .call ⟨.builtin .append,#[x,y],#[T,T]⟩,ty,pos,aft,none⟩::rest) Q F H :=
 .perm hp (.appOwnS hown hx hy (Spl.app _ _) hds hpos hl hby k hd)
theorem tU {T e:TypeId}{sz by_:Nat}{z:List SV}{g:Bool} [hS:TSl P T e] [hT:TY P e sz by_ z g]{x y:Operand}{n0 k0:Nat}{cs ds:List SV}{so:SV}{Hs Rs:LH}
  (hown:Own e sz n0 cs so Hs) (hp:H.Perm (Hs++Rs)) (hl:n0+k0≤1000000000) (hds:ds.length=k0*sz) (k:∀s' H',Own e sz (n0+k0) (cs++ds) s' H'→WPL P C n ops rest Q (upd F d s') (H'++Rs))
  (hx:ev F x=so:=by exact rfl) (hy:ev F y=sl ds k0:=by exact rfl) (hpos:0<sz:=by decide) (hby:by_≤10000:=by decide) (hd:Nat.blt d n=true:=by exact rfl) :
  WPL P C n ops (⟨some d, .call ⟨.builtin .append,#[x,y],#[T,T]⟩,ty,pos,aft,none⟩::rest) Q F H:=by
 refine .perm hp ?_;rcases(by omega:k0=0∨0<k0)with h0|h0
 ·subst h0;rw [Nat.zero_mul]at hds;have e0:=List.eq_nil_of_length_eq_zero hds;subst e0;rw [Nat.add_zero,List.append_nil]at k;have hk:=k so Hs hown;obtain⟨_,⟨_,rfl,_⟩|⟨_,c,h1,_,rfl,_⟩⟩:=id hown
  ·exact Wo (Bw hx hy (Nat.le_refl _)) hk hd
  ·exact Wo (Bw hx hy h1) hk hd
 ·exact .appOwnK hown hx hy (Spl.app _ _) hds (Nat.mul_pos h0 hpos) hl hby k hd
theorem vL {T e:TypeId}{sz by_:Nat}{z:List SV}{g:Bool} [hS:TSl P T e] [hT:TY P e sz by_ z g]{x y:Operand}{n0 k0:Nat}{cs ds:List SV}{so:SV}{Hs Rs:LH}
  (hown:Own e sz n0 cs so Hs) (hsp:Tk H Hs Rs) (hl:n0+k0≤1000000000) (hds:ds.length=k0*sz) (k:∀s' H',Own e sz (n0+k0) (cs++ds) s' H'→WPL P C n ops rest Q (upd F d s') (Rs++H'))
  (hx:ev F x=so:=by exact rfl) (hy:ev F y=sl ds k0:=by exact rfl) (hpos:0<sz:=by decide) (hby:by_≤10000:=by decide) (hd:Nat.blt d n=true:=by exact rfl) :
  WPL P C n ops (⟨some d, .call ⟨.builtin .append,#[x,y],#[T,T]⟩,ty,pos,aft,none⟩::rest) Q F H :=
 tU hown hsp.perm hl hds (fun s' H' h => .perm List.perm_append_comm (k s' H' h)) hx hy hpos hby hd
end
def a9:Tr→PC→List (PC×Bool)
 | .leaf i,c=>[(c,i)]
 | .node l a b,c=>(if(aG (ak l) c l).2 then a9 a (aG (ak l) c l).1 else [])++(if(aG (ak l.neg) c l.neg).2 then a9 b (aG (ak l.neg) c l.neg).1 else [])
abbrev ptx (p:PC×Bool):List SV:=[pcs p.1,bt (.leaf p.2)]
theorem wc (p:PC×Bool):(ptx p).length=2:=rfl
abbrev mQ:TypeId:=133
def ap:Tr→Nat
 | .leaf _=>1
 | .node _ a b=>ap a+ap b
theorem n7:∀(t:Tr) (c:PC),(a9 t c).length≤ap t
 | .leaf _,_=>Nat.le_refl _
 | .node l a b,c=>by
  unfold a9 ap;rw [List.length_append]
  have h1:(if(aG (ak l) c l).2 then a9 a (aG (ak l) c l).1 else []).length≤ap a:=by
   split
   ·exact n7 a _
   ·simp
  have h2:(if(aG (ak l.neg) c l.neg).2 then a9 b (aG (ak l.neg) c l.neg).1 else []).length≤ap b:=by
   split
   ·exact n7 b _
   ·simp
  omega
theorem jo:∀t:Tr,ap t=cK t+1
 | .leaf _=>rfl
 | .node l a b=>by
  simp only [ap,cK,jo a,jo b];omega
theorem Ig (a b:List (PC×Bool)):((a++b).map ptx).flatten=(a.map ptx).flatten++(b.map ptx).flatten:=by rw [List.map_append,List.flatten_append]
theorem Io {n0:Nat}{cs:List SV}{A B:List (PC×Bool)}{r:SV}{H:LH}(h:Own mQ 2 (n0+A.length+B.length) (cs++(A.map ptx).flatten++(B.map ptx).flatten) r H):Own mQ 2 (n0+(A++B).length) (cs++((A++B).map ptx).flatten) r H:=by
 rw [Ig,List.length_append,←List.append_assoc,←Nat.add_assoc];exact h
theorem Fp {n0:Nat}{cs:List SV}{r:SV}{H:LH}(h:Own mQ 2 n0 cs r H):Own mQ 2 (n0+([]:List (PC×Bool)).length) (cs++(([]:List (PC×Bool)).map ptx).flatten) r H:=by simpa using h
theorem sI {L:Nat}(h1:1≤L) (hU:L≤500):∀(t:Tr) (c:PC),(t.all fun l=>l.le L)→(∀s∈c,mO L s)→c.length+aU t≤100000→∀(n0:Nat) (cs:List SV) (s:SV) (Hs:LH),Own mQ 2 n0 cs s Hs→n0+ap t≤100000000→
  PuH Tryz.prog 100 [bt t,pcs c,s] Hs (fun r H'=>Own mQ 2 (n0+(a9 t c).length) (cs++((a9 t c).map ptx).flatten) r H') noX
 | .leaf i,c,_,_,_,n0,cs,s,Hs,hown,hn=>by
  have d1:=cC i;have hco:=hown.co;simp only [ap]at hn;show PuH _ _ _ _ (fun r H'=>Own mQ 2 (n0+1) (cs++(ptx (c,i)++[])) r H') noX
  rw [List.append_nil];simp only [bt,fg]at d1⊢;refine PuH.intro Tryz.func100 rfl kr fun C hC=>?_
  repeat(first|(refine Wo (aE [pcs c,pt (bc (.leaf i))] rfl) ?_)|(refine Wdo (aE [pcs c,pt (bc (.leaf i))] rfl) ?_)|(refine A1 ⟨?_⟩;intros)|refine W4 d1 ⟨?_⟩)
  refine iG (ds:=[pcs c,pt (bc (.leaf i))]) hown (Tk.same _) om (fun s' H1 hown'=>?_);have hco':=hown'.co;clear hown;repeat(refine A1 ⟨?_⟩;intros)
  exact cH _ _ (aC (RV.tmp rfl) Lr) Sr hown'
 | .node l a b,c,hall,hc,hd,n0,cs,s,Hs,hown,hn=>by
  have hd':c.length+(1+max (aU a) (aU b))≤100000:=hd;have d1:=cR l a b;have d2:=pY hc hall.1 h1 hU om;have hln:l.neg.le L:=⟨by show il (-l.a)≤L;rw [cw];exact hall.1.a,by show il (-l.b)≤L;rw [cw];exact hall.1.b,by show il (-l.c)≤L;rw [cw];exact hall.1.c⟩
  have n1:=fZ (ak l) c l;have n2:=fZ (ak l.neg) c l.neg;simp only [ap]at hn;have i1:=sI h1 hU a (aG (ak l) c l).1 hall.2.1 (io hc hall.1 h1) om n0 cs s Hs hown om;have i2:=sI h1 hU b (aG (ak l.neg) c l.neg).1 hall.2.2 (io hc hln h1) om;have hco:=hown.co;have p1:=n7 a (aG (ak l) c l).1;unfold a9;have en:bt (.node l a b)=pt (bc (.node l a b)):=rfl;rw [en,i5]at d1⊢;clear en hd hd' hc hall hln n1 n2;generalize(aG (ak l) c l).1=c1 at *;generalize(aG (ak l.neg) c l.neg).1=c2 at *;generalize hb1:(aG (ak l) c l).2=b1 at *;generalize hb2:(aG (ak l.neg) c l.neg).2=b2 at *;clear hb1 hb2;generalize a9 a c1=A at *;have hbl:=ap a;cases b1
  ·rw [if_neg (by decide)];cases b2
   ·rw [if_neg (by decide)];clear i1 i2;refine PuH.intro Tryz.func100 rfl kr fun C hC=>?_
    repeat(first|(refine A1 ⟨?_⟩;intros)|refine W4 d1 ⟨?_⟩|refine W4 d2 ⟨?_⟩)
    exact cH _ _ (aC (RV.tmp rfl) Lr) Sr (Fp hown)
   ·rw [if_pos rfl];have i3:=i2 n0 cs s Hs hown om;clear i1 i2 hown;generalize a9 b c2=B at *;refine PuH.intro Tryz.func100 rfl kr fun C hC=>?_
    repeat(first|(refine A1 ⟨?_⟩;intros)|refine W4 d1 ⟨?_⟩|refine W4 d2 ⟨?_⟩)
    refine WfT i3 ?_;intro r2 H2 hown2;have hco2:=hown2.co;repeat(refine A1 ⟨?_⟩;intros)
    exact cH _ _ (aC (RV.tmp rfl) Lr) Sr hown2
  ·rw [if_pos rfl];cases b2
   ·rw [if_neg (by decide),List.append_nil];clear i2 hown;refine PuH.intro Tryz.func100 rfl kr fun C hC=>?_
    repeat(first|(refine A1 ⟨?_⟩;intros)|refine W4 d1 ⟨?_⟩|refine W4 d2 ⟨?_⟩)
    refine WfT i1 ?_;intro r2 H2 hown2;have hco2:=hown2.co;repeat(refine A1 ⟨?_⟩;intros)
    exact cH _ _ (aC (RV.tmp rfl) Lr) Sr hown2
   ·rw [if_pos rfl];clear hown;refine PuH.intro Tryz.func100 rfl kr fun C hC=>?_
    repeat(first|(refine A1 ⟨?_⟩;intros)|refine W4 d1 ⟨?_⟩|refine W4 d2 ⟨?_⟩)
    refine WfT i1 ?_;intro r2 H2 hown2;have hco2:=hown2.co;have i3:=i2 _ _ _ _ hown2 om;clear hown2 i1 i2;generalize a9 b c2=B at *;simp only [List.nil_append];repeat(first|(refine A1 ⟨?_⟩;intros)|refine W4 d1 ⟨?_⟩|refine W4 d2 ⟨?_⟩)
    refine WfT i3 ?_;intro r3 H3 hown3;have hco3:=hown3.co;simp only [List.nil_append];repeat(refine A1 ⟨?_⟩;intros)
    exact cH _ _ (aC (RV.tmp rfl) Lr) Sr (Io hown3)
abbrev pls (l:List (PC×Bool)):SV:=sl (l.map ptx).flatten l.length
theorem DV {L:Nat}(h1:1≤L) (hU:L≤500) (t:Tr) (hall:t.all fun l=>l.le L) (hd:aU t≤100000) (hn:ap t≤100000000):Pu Tryz.prog 56 [bt t] (pls (a9 t [])):=by
 have c:=(sI h1 hU t [] hall (fun s hs=>by cases hs) (by simpa using hd) 0 [] (lit (.slice none 0 0)) [] (Own.nil _ _) om).leA (svs':=[bt t,lit (.slice none 0 0),lit (.slice none 0 0)]) ⟨Le.refl _,dJ,Le.refl _,trivial⟩;rw [Nat.zero_add,List.nil_append]at c;clear hall hd hn;generalize a9 t []=l at *;refine PuH.toPu ?_;refine PuH.intro Tryz.func56 rfl kr fun C hC=>?_
 repeat(refine A1 ⟨?_⟩;intros)
 refine WfT c ?_;intro r H' hown;have hco:=hown.co;simp only [List.nil_append];refine WPL.rowS 4 hown rfl (R:=[]) (by simp) ?_;repeat(refine A1 ⟨?_⟩;intros)
 exact cH _ _ (aC (RV.tmp rfl) Lr) (List.nil_sublist _) rfl
def gu (p:Nat→Nat) (i v:Nat):Nat→Nat:=fun j=>if j=i then v else p j
def oc (p:Nat→Nat):Nat→Nat→Nat
 |0,i=>i
 |f+1,i=>if p i=i then i else oc p f (p i)
def bP (p:Nat→Nat):Prop:=∀i,p i≤i
def rep (p:Nat→Nat) (i:Nat):Nat:=oc p (i+1) i
theorem sc {p:Nat→Nat}(hp:bP p):∀(f g i:Nat),i<f→i<g→oc p f i=oc p g i
 |0,_,_,h,_=>by omega
 |_,0,_,_,h=>by omega
 |f+1,g+1,i,h,k=>by
  unfold oc;by_cases e:p i=i
  ·rw [if_pos e,if_pos e]
  ·rw [if_neg e,if_neg e];have:=hp i;exact sc hp f g (p i) om om
theorem ge {p:Nat→Nat}{i:Nat}(h:p i=i):rep p i=i:=by unfold rep oc;rw [if_pos h]
theorem e9 {p:Nat→Nat}(hp:bP p) (i:Nat):rep p i=rep p (p i):=by
 by_cases e:p i=i
 ·rw [e]
 ·have h:rep p i=oc p i (p i):=by
   show oc p (i+1) i=_
   rw [oc,if_neg e]
  rw [h];have:=hp i;exact sc hp _ _ _ om om
theorem qM {p:Nat→Nat}(hp:bP p){q:Nat→Prop}(h0:∀i,p i=i→q i) (h1:∀i,p i≠i→q (p i)→q i) (i:Nat):q i:=by
 induction i using Nat.strongRecOn with
 |_ i ih =>
  by_cases e:p i=i
  ·exact h0 i e
  ·exact h1 i e (ih (p i) (by have:=hp i;omega))
theorem Bd {p:Nat→Nat}(hp:bP p) (i:Nat):p (rep p i)=rep p i :=
 qM hp (q:=fun i=>p (rep p i)=rep p i) (fun i h=>by rw [ge h];exact h) (fun i _ h=>by rw [e9 hp i];exact h) i
theorem zV {p:Nat→Nat}(hp:bP p) (i:Nat):rep p i≤i :=
 qM hp (q:=fun i=>rep p i≤i) (fun i h=>by rw [ge h];exact Nat.le_refl _) (fun i _ h=>by rw [e9 hp i];have:=hp i;omega) i
theorem oR {p:Nat→Nat}(hp:bP p) (i:Nat):bP (gu p i (p (p i))):=fun j=>by
 unfold gu;split
 ·rename_i e;have:=hp i;have:=hp (p i);omega
 ·exact hp j
theorem vf {p:Nat→Nat}(hp:bP p) (i j:Nat):rep (gu p i (p (p i))) j=rep p j:=by
 have hp':=oR hp i;refine qM hp (q:=fun j=>rep (gu p i (p (p i))) j=rep p j) (fun j h=>?_) (fun j h ih=>?_) j
 ·rw [ge h];refine ge ?_;unfold gu;split
  ·rename_i e;rw [←e,h,h]
  ·exact h
 ·by_cases e:j=i
  ·subst e;rw [e9 hp',show gu p j (p (p j)) j=p (p j)from if_pos rfl];rw [e9 hp j,e9 hp (p j)];rw [e9 hp (p j)]at ih;by_cases k:p (p j)=p j
   ·rw [k];rw [k]at ih;exact ih
   ·rw [e9 hp',show gu p j (p (p j)) (p j)=p (p j)from if_neg h]at ih;exact ih
  ·rw [e9 hp',show gu p i (p (p i)) j=p j from if_neg e,ih,←e9 hp j]
theorem qu {p:Nat→Nat}(hp:bP p) (a b:Nat):bP (gu p (max a b) (min a b)):=fun j=>by
 unfold gu;split
 ·omega
 ·exact hp j
theorem Ge {p:Nat→Nat}(hp:bP p){a b:Nat}(ha:p a=a) (hb:p b=b) (hab:a≠b) (j:Nat):rep (gu p (max a b) (min a b)) j=if rep p j=max a b then min a b else rep p j:=by
 have hp':=qu hp a b;have hne:min a b≠max a b:=by omega
 have hmin:p (min a b)=min a b:=by rcases Nat.le_total a b with h|h;rw [Nat.min_eq_left h];exact ha;rw [Nat.min_eq_right h];exact hb
 refine qM hp (q:=fun j=>rep (gu p (max a b) (min a b)) j=if rep p j=max a b then min a b else rep p j) (fun j h=>?_) (fun j h ih=>?_) j
 ·rw [ge h];by_cases e:j=max a b
  ·rw [if_pos e,e9 hp',show gu p (max a b) (min a b) j=min a b from if_pos e];exact ge (by show(if min a b=max a b then _ else p (min a b))=_;rw [if_neg hne];exact hmin)
  ·rw [if_neg e];exact ge (by show(if j=max a b then _ else p j)=_;rw [if_neg e];exact h)
 ·have e:j≠max a b:=fun e=>by
   rcases Nat.le_total a b with k|k
   ·rw [Nat.max_eq_right k]at e;exact h (by rw [e];exact hb)
   ·rw [Nat.max_eq_left k]at e;exact h (by rw [e];exact ha)
  rw [e9 hp',show gu p (max a b) (min a b) j=p j from if_neg e,ih,←e9 hp j]
def lP (g:Nat→Nat) (i k:Nat):Nat→Nat:=fun j=>if g j=max (g i) (g k)then min (g i) (g k)else g j
theorem yB {p:Nat→Nat}(hp:bP p){i k:Nat}(h:rep p i≠rep p k):rep (gu p (max (rep p i) (rep p k)) (min (rep p i) (rep p k)))=lP (rep p) i k:=by
 funext j
 exact Ge hp (Bd hp i) (Bd hp k) h j
abbrev isT:TypeId:=22
def pcl (n:Nat) (p:Nat→Nat):List SV:=(List.range n).map fun j=>lit (.int .i64 ((p j:Nat):Int))
theorem gg {n:Nat}{p:Nat→Nat}{i:Nat}(h:i<n):(pcl n p)[i]? = some (lit (.int .i64 ((p i:Nat):Int))):=by
 unfold pcl;rw [List.getElem?_map,List.getElem?_range h];rfl
theorem qS (n:Nat) (p:Nat→Nat):(pcl n p).length=n:=by unfold pcl;simp
theorem Ij {n:Nat}{p:Nat→Nat}{i v:Nat}(h:i<n):(pcl n p).set i (lit (.int .i64 ((v:Nat):Int)))=pcl n (gu p i v):=by
 apply List.ext_getElem?;intro j;rw [List.getElem?_set,qS];by_cases hj:i=j
 ·subst hj;rw [if_pos rfl,if_pos h,gg h];unfold gu;rw [if_pos rfl]
 ·rw [if_neg hj];by_cases hn:j<n
  ·rw [gg hn,gg hn];unfold gu;rw [if_neg (fun e=>hj e.symm)]
  ·rw [List.getElem?_eq_none (by rw [qS];omega),List.getElem?_eq_none (by rw [qS];omega)]
theorem ow {n:Nat}{p:Nat→Nat}{i v:Nat}(h:i<n):spl (pcl n p) i [lit (.int .i64 ((v:Nat):Int))]=pcl n (gu p i v):=Ij h
theorem oz {n:Nat}{p:Nat→Nat}{i:Nat}(h:i<n):Nat.ble (i+1) (pcl n p).length=true:=by
 apply Nat.ble_eq_true_of_le;rw [qS];omega
abbrev cY (b4 b5 n:Nat) (p:Nat→Nat):LH:=[(b4,isT,[lit (.slice (some ⟨b5,0,none⟩) n n)]),(b5,iT,pcl n p)]
structure MN where
 i:Nat
 p:Nat→Nat
theorem oT {n:Nat}{p0:Nat→Nat}(hp0:bP p0){i0:Nat}(hi0:i0<n) (hn:n≤1000000) (b4 b5:Nat) :
  PuH Tryz.prog 57 [lit (.int .i64 ((i0:Nat):Int)),lit (.pointer (some ⟨b4,0,none⟩))] (cY b4 b5 n p0)
   (fun r H'=>r=lit (.int .i64 ((rep p0 i0:Nat):Int))∧∃p',bP p'∧(∀j,rep p' j=rep p0 j)∧H'=cY b4 b5 n p') noX:=by
 have g0:=gg (p:=p0) hi0;refine PuH.intro Tryz.func57 rfl kr fun C hC=>?_
 repeat(refine A1 ⟨?_⟩;intros)
 refine Wo (aj rfl mmA g0) ?_;repeat(refine A1 ⟨?_⟩;intros)
 refine WP.loopS (ι:=MN) (fun y=>bP y.p∧y.i<n∧rep y.p y.i=rep p0 i0∧∀j,rep y.p j=rep p0 j) (fun y=>y.i)
  (fun y=>fm [(0,lit (.int .i64 ((y.i:Nat):Int))),(1,lit (.pointer (some ⟨b4,0,none⟩))),(4,lit (.int .i64 ((y.p y.i:Nat):Int)))]) (fun y=>cY b4 b5 n y.p) ⟨i0,p0⟩ ⟨hp0,hi0,rfl,fun _=>rfl⟩ lfA Sr ?_
 clear hp0 hi0 g0;rintro ⟨i,p⟩ ⟨hp,hi,hr,hall⟩ K hK;simp only at hp hi hr hall⊢;by_cases h:p i=i
 ·rw [ge h]at hr;clear hK;repeat(refine A1 ⟨?_⟩;intros)
  refine cH _ _ (aC (RV.tmp rfl) Lr) Sr ⟨by rw [hr];rfl,p,hp,hall,rfl⟩
 ·have hlt:p i<i:=by have:=hp i;omega
  have g1:=gg (p:=p) (i:=p i) (show p i<n by omega);have e1:gu p i (p (p i)) (p i)=p (p i):=if_neg h;have g2:=gg (p:=gu p i (p (p i))) (i:=p i) (show p i<n by omega);have hgo:=fun F' H'=>hK F' H' ⟨p i,gu p i (p (p i))⟩ ⟨oR hp i,by simp only;omega,by simp only;rw [vf hp,←e9 hp];exact hr,fun j=>by simp only;rw [vf hp];exact hall j⟩ (by simp only;exact hlt)
  simp only at hgo;have hs:=ow (p:=p) (v:=p (p i)) hi;have hb:=oz (p:=p) hi;clear hK hr hall;repeat(first|(refine AS ⟨?_⟩;intros)|(refine O1 ⟨?_⟩;intros))
  refine WdN 6 ?_;repeat(refine A1 ⟨?_⟩;intros)
  refine Wdo (aj rfl mmA g1) ?_;repeat(refine A1 ⟨?_⟩;intros)
  refine WPL.store (b:=b5) (o:=i) (sv:=lit (.int .i64 ((p (p i):Nat):Int))) rfl rfl rfl (.there _ (.here _)) hs hb ?_;repeat(refine A1 ⟨?_⟩;intros)
  refine Wdo (aj rfl mmA g2) ?_;repeat(refine A1 ⟨?_⟩;intros)
  exact hgo _ _ lfA Sr
section
variable {P:Program}{C:Ctx}{n:Nat}{F:Fr}{H:LH}{ops:Array Oper}{rs:List Nat}{Hc:LH}{K:Fr→LH→Prop}{s i d:Nat}{r:List NO'}{E:LH}{ty:TypeId}{pos:String}{aft:Array Edge}
theorem pL {o:Oper}{F1:Fr}{x:Operand}{sv:SV}(hx:ev F x=sv) (hin:x∈o.op.operands) (hF:∀t,t∈o.looksAt ops→F t=F1 t):ev F1 x=sv:=by rw [←hx];exact cG hin hF
theorem K6 {x:Operand}{f:FuncId}{first caps:List SV}{la:List Operand}{tys:Array TypeId}{svs:List SV}{Hin Er:LH}{R:SV→LH→Prop}(hc:PuH P f svs Hin R noX) (hs:Tk E Hin Er) (k:∀res H',R res H'→Mz P C n ops rs Hc K (s+1) r (upd F d res) (H'++Er))
  (hx:ev F x=fnv f first caps:=by exact rfl) (ha:first++la.map (ev F)++caps=svs:=by exact rfl) (ho:ops[i]? = some ⟨some d, .call ⟨.value x,la.toArray,tys⟩,ty,pos,aft,none⟩:=by exact rfl) (hr:rs[s]? = some i:=by exact rfl) (hd:Nat.blt d n=true:=by exact rfl) :
  Mz P C n ops rs Hc K s ((i,⟨some d, .call ⟨.value x,la.toArray,tys⟩,ty,pos,aft,none⟩)::r) F E:=by
 refine .row (Post:=fun sv E'=>∃H',R sv H'∧E'=H'++Er) hr (TZ.of ho rfl fun F1 hF1=>?_) fun sv E' hP=>?_
 ·have ha1:=mC (o:=⟨some d, .call ⟨.value x,la.toArray,tys⟩,ty,pos,aft,none⟩) (la:=la) rfl (fun x hx=>by simp [Op.operands,Call.operands,hx]) hF1;have hx1:=pL (o:=⟨some d, .call ⟨.value x,la.toArray,tys⟩,ty,pos,aft,none⟩) hx (by simp [Op.operands,Call.operands]) hF1;refine WPL.perm ((hs.perm.append_right Hc).trans (List.Perm.of_eq (List.append_assoc _ _ _))) ?_;refine .callH hx1 hc (Spl.app _ _) (by rw [ha1];exact ha) hd (fun res H' hR=>WPL.nil ⟨res,⟨H'++Er,(List.append_assoc _ _ _).symm,H',hR,rfl⟩,rfl⟩) fun _ _ h=>h.elim
 ·obtain⟨H',hR,rfl⟩:=hP;exact k sv H' hR
theorem Ko {x:Operand}{f:FuncId}{first caps:List SV}{la:List Operand}{tys:Array TypeId}{svs:List SV}{Hin Er:LH}{R:SV→LH→Prop}{j dj:Nat}{t:Bool}{oj:Oper}(hc:PuH P f svs Hin R noX) (hs:Tk E Hin Er) (k:∀res H',R res H'→Mz P C n ops rs Hc K (s+1) r (upd F d res) (H'++Er))
  (hx:ev F x=fnv f first caps:=by exact rfl) (ha:first++la.map (ev F)++caps=svs:=by exact rfl) (ho:ops[i]? = some ⟨some d, .call ⟨.value x,la.toArray,tys⟩,ty,pos,aft,some (j,t)⟩:=by exact rfl) (hj:ops[j]? = some oj:=by exact rfl) (hdj:oj.dst=some dj:=by exact rfl) (hf:F dj=lit (.bool t):=by exact rfl) (hdn:Nat.blt dj n=true:=by exact rfl) (hr:rs[s]? = some i:=by exact rfl) (hd:Nat.blt d n=true:=by exact rfl) :
  Mz P C n ops rs Hc K s ((i,⟨some d, .call ⟨.value x,la.toArray,tys⟩,ty,pos,aft,some (j,t)⟩)::r) F E:=by
 refine .row (Post:=fun sv E'=>∃H',R sv H'∧E'=H'++Er) hr (TZ.ofG ho hj hdj hf hdn fun F1 hF1=>?_) fun sv E' hP=>?_
 ·have ha1:=mC (o:=⟨some d, .call ⟨.value x,la.toArray,tys⟩,ty,pos,aft,some (j,t)⟩) (la:=la) rfl (fun x hx=>by simp [Op.operands,Call.operands,hx]) hF1;have hx1:=pL (o:=⟨some d, .call ⟨.value x,la.toArray,tys⟩,ty,pos,aft,some (j,t)⟩) hx (by simp [Op.operands,Call.operands]) hF1;refine WPL.perm ((hs.perm.append_right Hc).trans (List.Perm.of_eq (List.append_assoc _ _ _))) ?_;refine .callH hx1 hc (Spl.app _ _) (by rw [ha1];exact ha) hd (fun res H' hR=>WPL.nil ⟨res,⟨H'++Er,(List.append_assoc _ _ _).symm,H',hR,rfl⟩,rfl⟩) fun _ _ h=>h.elim
 ·obtain⟨H',hR,rfl⟩:=hP;exact k sv H' hR
theorem GcV {k q:Nat}{late:List NO'}{r:List Oper}{x:Operand}{f:FuncId}{first caps:List SV}{l:List Operand}{tys:Array TypeId}{svs:List SV}{Hin Rs:LH}{R:SV→LH→Prop}
  (hc:PuH P f svs Hin R noX) (hs:Tk H Hin Rs) (hl:LOk P ops k q n H F late) (h:∀res H',R res H'→Stg P C n ops k q late K (i+1) r (upd F d res) (Rs++H'))
  (hx:ev F x=fnv f first caps:=by exact rfl) (ha:first++l.map (ev F)++caps=svs:=by exact rfl) (ho:ops[i]? = some ⟨some d, .call ⟨.value x,l.toArray,tys⟩,ty,pos,aft,none⟩:=by exact rfl) (hd:Nat.blt d n=true:=by exact rfl) :
  Stg P C n ops k q late K i (⟨some d, .call ⟨.value x,l.toArray,tys⟩,ty,pos,aft,none⟩::r) F H:=by
 refine⟨hl,fun s' H2=>∃H',R s' H'∧H2=Rs++H',TSR.of ho rfl fun F1 hF1=>?_,fun sv H2 hP=>?_⟩
 ·have ha1:=mC (o:=⟨some d, .call ⟨.value x,l.toArray,tys⟩,ty,pos,aft,none⟩) (la:=l) rfl (fun x hx=>by simp [Op.operands,Call.operands,hx]) hF1;have hx1:=pL (o:=⟨some d, .call ⟨.value x,l.toArray,tys⟩,ty,pos,aft,none⟩) hx (by simp [Op.operands,Call.operands]) hF1;exact .perm hs.perm (.callH hx1 hc (Spl.app _ _) (by rw [ha1];exact ha) hd (fun res H' hR => .perm List.perm_append_comm (WPL.nil ⟨res,⟨H',hR,rfl⟩,rfl⟩)) fun _ _ h=>h.elim)
 ·obtain⟨H',hR,rfl⟩:=hP;exact h sv H' hR
end
instance tyFi:TY Tryz.prog 57 1 8 [lit .nilFunc] false:=⟨⟨[.nilFunc],kr,rfl,rfl,rfl⟩,kr⟩
instance tyFb:TY Tryz.prog 143 1 8 [lit .nilFunc] false:=⟨⟨[.nilFunc],kr,rfl,rfl,rfl⟩,kr⟩
instance tyFt:TY Tryz.prog 200 1 8 [lit .nilFunc] false:=⟨⟨[.nilFunc],kr,rfl,rfl,rfl⟩,kr⟩
abbrev fiT:TypeId:=57
abbrev fbT:TypeId:=143
abbrev ftT:TypeId:=200
abbrev qw (b4:Nat):SV:=fnv 57 [] [lit (.pointer (some ⟨b4,0,none⟩))]
abbrev qt (b4 b6 b14 i:Nat):LH:=[(b6,fiT,[qw b4]),(b14,iT,[lit (.int .i64 ((i:Nat):Int))])]
theorem tk2 (x y:Nat×TypeId×List SV):Tk [x,y] [x,y] [] := .cons (.here _) (.cons (.here _) (.nil _))
theorem Js {n:Nat}{p:Nat→Nat}(hp:bP p){k:Nat}(hk:k<n) (hn:n≤1000000) (b4 b5 b6 b14 i:Nat) :
  PuH Tryz.prog 61 [lit (.int .i64 ((k:Nat):Int)),lit (.pointer (some ⟨b6,0,none⟩)),lit (.pointer (some ⟨b14,0,none⟩))] (cY b4 b5 n p++qt b4 b6 b14 i)
   (fun r H'=>r=lit (.bool (decide (rep p k=i)))∧∃p',bP p'∧(∀j,rep p' j=rep p j)∧H'=cY b4 b5 n p'++qt b4 b6 b14 i) noX:=by
 have c:=oT hp hk hn b4 b5;by_cases h:rep p k=i
 ·rw [decide_eq_true h];refine PuH.intro Tryz.func61 rfl kr fun C hC=>?_
  repeat(first|(refine AS ⟨?_⟩;intros)|(refine O1 ⟨?_⟩;intros))
  refine WdZ 5 [0,1,3,2,4] [2] (cY b4 b5 n p) (qt b4 b6 b14 i) ?_;refine ZkD 3 ?_;repeat(refine A1 ⟨?_⟩;intros)
  refine jh ?_;refine K6 c (tk2 _ _) ?_;rintro _ _ ⟨rfl,p',h1,h2,rfl⟩;refine ZkD 1 ?_;repeat(refine A1 ⟨?_⟩;intros)
  refine jh ?_;refine ZkN ?_;repeat(refine A1 ⟨?_⟩;intros)
  exact cH _ _ (aC (RV.tmp rfl) Lr) Sr ⟨rfl,p',h1,h2,rfl⟩
 ·rw [decide_eq_false h];refine PuH.intro Tryz.func61 rfl kr fun C hC=>?_
  repeat(first|(refine AS ⟨?_⟩;intros)|(refine O1 ⟨?_⟩;intros))
  refine WdZ 5 [0,1,3,2,4] [2] (cY b4 b5 n p) (qt b4 b6 b14 i) ?_;refine ZkD 3 ?_;repeat(refine A1 ⟨?_⟩;intros)
  refine jh ?_;refine K6 c (tk2 _ _) ?_;rintro _ _ ⟨rfl,p',h1,h2,rfl⟩;refine ZkD 1 ?_;repeat(refine A1 ⟨?_⟩;intros)
  refine jh ?_;refine ZkN ?_;repeat(refine A1 ⟨?_⟩;intros)
  exact cH _ _ (aC (RV.tmp rfl) Lr) Sr ⟨rfl,p',h1,h2,rfl⟩
def g9 (keep:Nat→Bool):Tr→Nat→Tr
 | .leaf i,k => .leaf (i&&keep k)
 | .node l a b,k => .node l (g9 keep a k) (g9 keep b (k+ap a))
abbrev BN (b6 b14:Nat):SV:=fnv 61 [] [lit (.pointer (some ⟨b6,0,none⟩)),lit (.pointer (some ⟨b14,0,none⟩))]
abbrev LJ (bn bk bs:Nat):SV:=fnv 102 [] [lit (.pointer (some ⟨bn,0,none⟩)),lit (.pointer (some ⟨bk,0,none⟩)),lit (.pointer (some ⟨bs,0,none⟩))]
abbrev LI (bn bk bs b4 b5 b6 b14 i n:Nat) (p:Nat→Nat) (k:Nat):LH :=
 (bs,ftT,[LJ bn bk bs])::(bn,iT,[lit (.int .i64 ((k:Nat):Int))])::(bk,fbT,[BN b6 b14])::(cY b4 b5 n p++qt b4 b6 b14 i)
theorem tk7 (a b c x y z w:Nat×TypeId×List SV):Tk [a,b,c,x,y,z,w] [a,b,c,x,y,z,w] [] := .cons (.here _) (.cons (.here _) (.cons (.here _) (.cons (.here _) (.cons (.here _) (.cons (.here _) (.cons (.here _) (.nil _)))))))
theorem tk4 (a b c:Nat×TypeId×List SV) (x y z w:Nat×TypeId×List SV):Tk (a::b::c::[x,y,z,w]) [x,y,z,w] [a,b,c] := .skip _ (.skip _ (.skip _ (.cons (.here _) (.cons (.here _) (.cons (.here _) (.cons (.here _) (.nil _)))))))
theorem vV {n:Nat}(hn:n≤1000000) (bn bk bs b4 b5 b6 b14 i:Nat):∀(t:Tr) (p:Nat→Nat) (k:Nat),bP p→k+ap t≤n→
  PuH Tryz.prog 102 [bt t,lit (.pointer (some ⟨bn,0,none⟩)),lit (.pointer (some ⟨bk,0,none⟩)),lit (.pointer (some ⟨bs,0,none⟩))] (LI bn bk bs b4 b5 b6 b14 i n p k)
   (fun r H'=>r=bt (g9 (fun j=>decide (rep p j=i)) t k)∧∃p',bP p'∧(∀j,rep p' j=rep p j)∧H'=LI bn bk bs b4 b5 b6 b14 i n p' (k+ap t)) noX
 | .leaf false,p,k,hp,hk=>by
  have d1:=cC false;have c2:=jp false;simp only [ap]at hk⊢;show PuH _ _ _ _ (fun r H'=>r=bt (.leaf false)∧_) noX
  simp only [bt,fg]at d1 c2⊢;refine PuH.intro Tryz.func102 rfl kr fun C hC=>?_
  repeat(first|(refine A1 ⟨?_⟩;intros)|refine W4 d1 ⟨?_⟩|refine W4 c2 ⟨?_⟩)
  exact cH _ _ (aC (RV.tmp rfl) Lr) Sr ⟨rfl,p,hp,fun _=>rfl,rfl⟩
 | .leaf true,p,k,hp,hk=>by
  have d1:=cC true;simp only [ap]at hk⊢;have ck:=Js hp (k:=k) om hn b4 b5 b6 b14 i;have c2:=jp (decide (rep p k=i));show PuH _ _ _ _ (fun r H'=>r=bt (.leaf (true&&decide (rep p k=i)))∧_) noX
  rw [Bool.true_and];simp only [bt,fg]at d1 c2⊢;refine PuH.intro Tryz.func102 rfl kr fun C hC=>?_
  repeat(first|(refine A1 ⟨?_⟩;intros)|refine W4 d1 ⟨?_⟩)
  rw [show((k:Int)+1-1)=(k:Int)from by omega];refine WgE ?_;refine WvT ck ?_ (hs:=tk4 _ _ _ _ _ _ _);rintro _ _ ⟨rfl,p',h1,h2,rfl⟩;generalize decide (rep p k=i)=bb at *;simp only [List.cons_append,List.nil_append];repeat(first|(refine A1 ⟨?_⟩;intros)|refine W4 c2 ⟨?_⟩)
  exact cH _ _ (aC (RV.tmp rfl) Lr) Sr ⟨rfl,p',h1,h2,rfl⟩
 | .node l a b,p,k,hp,hk=>by
  have d1:=cR l a b;simp only [ap]at hk⊢;have ia:=vV hn bn bk bs b4 b5 b6 b14 i a p k hp om;have ib:=fun p' hp'=>vV hn bn bk bs b4 b5 b6 b14 i b p' (k+ap a) hp' om
  show PuH _ _ _ _ (fun r H'=>r=bt (.node l (g9 (fun j=>decide (rep p j=i)) a k) (g9 (fun j=>decide (rep p j=i)) b (k+ap a)))∧_) noX
  generalize hta:g9 (fun j=>decide (rep p j=i)) a k=ta at *
  have hib:∀p',bP p'→(∀j,rep p' j=rep p j)→g9 (fun j=>decide (rep p' j=i)) b (k+ap a)=g9 (fun j=>decide (rep p j=i)) b (k+ap a):=fun p' _ h=>by
   congr 1;funext j;rw [h]
  generalize htb:g9 (fun j=>decide (rep p j=i)) b (k+ap a)=tb at *;have c4:=rz l ta tb;have en:bt (.node l a b)=pt (bc (.node l a b)):=rfl;rw [en,i5]at d1⊢;clear en hta htb;refine PuH.intro Tryz.func102 rfl kr fun C hC=>?_
  repeat(first|(refine AS ⟨?_⟩;intros)|(refine O1 ⟨?_⟩;intros)|(refine Wcx (d1) ?_)|(refine eB (d1) ?_))
  refine WdN 5 ?_;repeat(refine A1 ⟨?_⟩;intros)
  refine WvT ia ?_;rintro _ _ ⟨rfl,p1,h1,h2,rfl⟩;replace ib:=ib p1 h1;rw [hib p1 h1 h2]at ib;simp only [List.cons_append,List.nil_append];repeat(first|(refine AS ⟨?_⟩;intros)|(refine O1 ⟨?_⟩;intros))
  refine WdL 10 1 ?_;repeat(refine A1 ⟨?_⟩;intros)
  refine dL0 ?_;refine GcV ib (tk7 _ _ _ _ _ _ _) ?_ ?_
  ·(repeat(first|exact LOk.nil|refine Lsk ?_|refine Lcv ?_))
  rintro _ _ ⟨rfl,p2,k1,k2,rfl⟩;refine Gn ?_ ?_
  ·(repeat(first|exact LOk.nil|refine Lsk ?_|refine Lcv ?_))
  simp only [List.nil_append];repeat(first|(refine A1 ⟨?_⟩;intros)|refine W4 c4 ⟨?_⟩)
  exact cH _ _ (aC (RV.tmp rfl) Lr) Sr ⟨rfl,p2,k1,fun j=>by rw [k2,h2],by rw [Nat.add_assoc]⟩
theorem xE {n:Nat}(hn:n≤1000000) (b4 b5 b6 b14 i:Nat) (t:Tr) (p:Nat→Nat) (hp:bP p) (hk:ap t≤n) :
  PuH Tryz.prog 60 [bt t,BN b6 b14] (cY b4 b5 n p++qt b4 b6 b14 i)
   (fun r H'=>r=bt (g9 (fun j=>decide (rep p j=i)) t 0)∧∃p',bP p'∧(∀j,rep p' j=rep p j)∧H'=cY b4 b5 n p'++qt b4 b6 b14 i) noX:=by
 have c:=fun bn bk bs=>vV hn bn bk bs b4 b5 b6 b14 i t p 0 hp om
 refine PuH.intro Tryz.func60 rfl kr fun C hC=>?_
 repeat(refine A1 ⟨?_⟩;intros)
 refine Sb ?_;refine Wb (sv:=BN b6 b14) (cs:=[BN b6 b14]) (fun b3=>?_);repeat(refine A1 ⟨?_⟩;intros)
 rename_i b5' b6';refine Ss ?_;refine Ws (sv:=LJ b5' b3 b6') ?_;repeat(refine A1 ⟨?_⟩;intros)
 refine WvT (c b5' b3 b6') ?_ (hs:=tk7 _ _ _ _ _ _ _);rintro _ _ ⟨rfl,p',h1,h2,rfl⟩;simp only [List.nil_append];repeat(refine A1 ⟨?_⟩;intros)
 exact cH _ _ (aC (RV.tmp rfl) Lr) (Sc (Sc (Sc Sr))) ⟨rfl,p',h1,h2,rfl⟩
abbrev Pts:=List (PC×Bool)
abbrev inB (l:Pts) (k:Nat):Bool:=(l.getD k ([],false)).2
abbrev clB (l:Pts) (k:Nat):PC:=(l.getD k ([],false)).1
def jnB (l:Pts) (g:Nat→Nat) (k j:Nat):Bool:=inB l k&&inB l j&&decide (g k≠g j)&&dD (clB l k) (clB l j)
def AN (l:Pts) (k:Nat) (g:Nat→Nat) (j:Nat):Nat→Nat:=if jnB l g k j then lP g k j else g
def Hg (l:Pts) (g:Nat→Nat) (k:Nat):Nat→Nat:=(List.range k).foldl (AN l k) g
def eE (l:Pts):Nat→Nat:=(List.range l.length).foldl (Hg l) id
theorem lx {α:Type}(f:α→Nat→α) (a:α) (k:Nat):(List.range (k+1)).foldl f a=f ((List.range k).foldl f a) k:=by rw [List.range_succ,List.foldl_append];rfl
def idK (k:Nat):Nat→Nat:=fun j=>if j<k then j else 0
theorem BT {k:Nat}:gu (idK k) k k=idK (k+1):=by
 funext j
 unfold gu idK;by_cases h:j=k
 ·rw [if_pos h,if_pos om,h]
 ·rw [if_neg h];by_cases h2:j<k
  ·rw [if_pos h2,if_pos om]
  ·rw [if_neg h2,if_neg om]
theorem xY (n:Nat):List.replicate n (lit (.int .i64 0))=pcl n (idK 0):=by
 unfold pcl;refine List.ext_getElem? fun j=>?_
 rw [List.getElem?_replicate,List.getElem?_map];by_cases h:j<n
 ·rw [if_pos h,List.getElem?_range h];rfl
 ·rw [if_neg h,List.getElem?_eq_none (by simpa using h)];rfl
theorem Fj (n:Nat):pcl n (idK n)=pcl n id:=by
 unfold pcl;refine List.map_congr_left fun j hj=>?_
 rw [List.mem_range]at hj;unfold idK;rw [if_pos hj];rfl
theorem Dx:bP id:=fun i=>Nat.le_refl i
theorem KD (j:Nat):rep id j=j:=ge rfl
abbrev rpx (p:Pq):List SV:=[lit (.bool (decide (p.1.num<0))),nat p.1.num.natAbs,dg (kW p.1.den),lit (.bool (decide (p.2.num<0))),nat p.2.num.natAbs,dg (kW p.2.den)]
theorem bD (p:Pq):(rpx p).length=6:=rfl
abbrev rps (l:List Pq):SV:=sl (l.map rpx).flatten l.length
theorem Ii (p q:Pq) (h1:ht p.1≤3000000∧ht p.2≤3000000) (h2:ht q.1≤3000000∧ht q.2≤3000000):Pu Tryz.prog 167 [ag (rpx p),ag (rpx q)] (lit (.int .i64 (sG p q))):=by
 obtain⟨x,y⟩:=p;obtain⟨u,v⟩:=q;have c1:=jm x u h1.1 h2.1;have c2:=jm y v h1.2 h2.2;have e1:=eF (x:=x) (y:=u);unfold sG;simp only;generalize(x-u).num.sign=s at *;generalize(y-v).num.sign=t at *;clear h1 h2;by_cases h:x=u
 ·have hs:=e1.2 h;rw [if_pos h];clear e1 h;subst hs;refine Pi Tryz.func167 fun C=>?_
  exact Y2 c1 c2
 ·have hs:s≠0:=fun e=>h (e1.1 e)
  rw [if_neg h];clear e1 h;refine Pi Tryz.func167 fun C=>?_
  exact Y2 c1 c2
theorem Cy (l:List Pq) (hl:l.length≤100000) (hh:∀p∈l,ht p.1≤3000000∧ht p.2≤3000000):Pu Tryz.prog 131 [rps l] (rps (srt l)):=by
 refine Pi Tryz.func131 fun C=>?_
 repeat(refine A1 ⟨?_⟩;intros)
 refine WP.loopS (ι:=Nat) (fun k=>k≤l.length) (fun k=>l.length-k) (fun k=>fm [(3,rps (srt (l.take k))),(7,rps l),(8,lit (.int .i64 l.length)),(9,lit (.int .i64 k))]) (fun _=>[]) 0
  (Nat.zero_le _) (LeF.cons dJ lfA) (List.nil_sublist _) ?_
 rintro k hk K hK;by_cases hkl:k<l.length
 ·have hget:=List.getElem?_eq_getElem hkl;generalize l[k]=p at hget;have hp:=hh p (List.mem_of_getElem? hget);have hat:=e6 (f:=rpx) (n:=6) bD hget;have hne:(l.map rpx).flatten≠[]:=dZ bD om (fun e=>by rw [e]at hkl;simp at hkl);have hgo:=fun F' H' h1 h2=>hK F' H' (k+1) om om h1 h2
  rw [Ep hget]at hgo;have hsm:∀q∈srt (l.take k),ht q.1≤3000000∧ht q.2≤3000000:=fun q hq=>hh q (List.mem_of_mem_take ((B3 _ q).1 hq))
  have hsl:=B4 (l.take k);rw [List.length_take]at hsl;generalize srt (l.take k)=out at hgo hsm hsl⊢;clear hK hh;repeat(refine A1 ⟨?_⟩;intros)
  refine Wo (a7 (cs':=rpx p) rfl rfl om om hat hne) ?_;repeat(refine A1 ⟨?_⟩;intros)
  rename_i b5
  refine WP.loopS (ι:=Nat) (fun j=>j≤pat out p) (fun j=>out.length-j) (fun j=>fm [(3,rps out),(5,lit (.pointer (some ⟨b5,0,none⟩))),(6,lit (.int .i64 j)),(7,rps l),(8,lit (.int .i64 l.length)),(9,lit (.int .i64 k))])
   (fun _=>[(b5,103,rpx p)]) 0 (Nat.zero_le _) lfA Sr ?_
  rintro j hj K2 hK2;have hpl:=KN out p;have hfl:=cT bD out;have hins:=pP bD out p j;have hdl:(((out.map rpx).flatten).drop (j*6)).length=(out.length-j)*6:=by rw [List.length_drop,hfl,Nat.sub_mul]
  have hln:j+(1+(out.length-j))=(out.take j++p::out.drop j).length:=by rw [List.length_append,List.length_cons,List.length_take,List.length_drop];omega
  have htl:(((out.map rpx).flatten).take (j*6)).length=j*6:=by rw [List.length_take,hfl];omega
  have hpl2:(rpx p++((out.map rpx).flatten).drop (j*6)).length=(1+(out.length-j))*6:=by rw [List.length_append,hdl,bD];omega
  by_cases hjl:j<out.length
  ·have hgo2:=out[j]?;have hget2:=List.getElem?_eq_getElem hjl;generalize out[j]=o at hget2;have ho:=hsm o (List.mem_of_getElem? hget2);have hat2:=e6 (f:=rpx) (n:=6) bD hget2;have hne2:(out.map rpx).flatten≠[]:=dZ bD om (fun e=>by rw [e]at hjl;simp at hjl);have c:=Ii o p ho hp;obtain⟨s1,s2⟩:=Fl hj hget2;cases hlt:plt o p with
   |true =>
    have hneg:sG o p<0:=by unfold plt at hlt;exact of_decide_eq_true hlt
    have hj1:=s1 hlt;generalize sG o p=s at c hneg;clear hgo s1 s2;repeat(refine A1 ⟨?_⟩;intros)
    refine bH (a7 (cs':=rpx o) rfl rfl om om hat2 hne2) ?_;repeat(first|(refine A1 ⟨?_⟩;intros)|refine W4 c ⟨?_⟩)
    exact hK2 _ _ (j+1) hj1 om lfA Sr
   |false =>
    have hneg:¬sG o p<0:=by unfold plt at hlt;exact of_decide_eq_false hlt
    have hje:=s2 hlt;clear hK2 s1 s2;by_cases hz:o=p
    ·have h0:=uP.2 hz;have hpi:mN out p=out:=by unfold mN;rw [if_pos (by rw [←hje,hget2,hz])]
     rw [hpi]at hgo;rw [h0]at c;clear hneg hlt;repeat(refine A1 ⟨?_⟩;intros)
     refine bH (a7 (cs':=rpx o) rfl rfl om om hat2 hne2) ?_;repeat(first|(refine A1 ⟨?_⟩;intros)|refine W4 c ⟨?_⟩)
     refine bH (a7 (cs':=rpx o) rfl rfl om om hat2 hne2) ?_;repeat(first|(refine A1 ⟨?_⟩;intros)|refine W4 c ⟨?_⟩)
     exact hgo _ _ lfA (List.nil_sublist _)
    ·have h0:¬sG o p=0:=fun e=>hz (uP.1 e)
     have hpi:mN out p=out.take j++p::out.drop j:=by unfold mN;rw [←hje,if_neg (by rw [hget2];exact fun e=>hz (Option.some.inj e))]
     rw [hpi]at hgo;have hpos:0<sG o p:=by omega
     generalize sG o p=s at c hpos;clear hneg hlt h0;repeat(refine A1 ⟨?_⟩;intros)
     refine bH (a7 (cs':=rpx o) rfl rfl om om hat2 hne2) ?_;repeat(first|(refine A1 ⟨?_⟩;intros)|refine W4 c ⟨?_⟩)
     refine bH (a7 (cs':=rpx o) rfl rfl om om hat2 hne2) ?_;repeat(first|(refine A1 ⟨?_⟩;intros)|refine W4 c ⟨?_⟩)
     refine Wdo (gW j rfl rfl rfl rfl rfl hfl om) ?_;repeat(first|(refine Wdo (j5 (s:=ag (rpx p)) (ds:=rpx p) rfl inferInstance) ?_)|(refine Wdo (gV j rfl rfl rfl hfl om) ?_)|(refine A1 ⟨?_⟩;intros))
     refine Wdo (az (k:=1) (k0:=out.length-j) rfl rfl rfl hdl om) ?_;refine Wdo (az (k:=j) (k0:=1+(out.length-j)) rfl rfl htl hpl2 om) ?_;rw [hins,hln];repeat(refine A1 ⟨?_⟩;intros)
     exact hgo _ _ lfA (List.nil_sublist _)
  ·have hje:j=pat out p:=by omega
   have hpi:mN out p=out.take j++p::out.drop j:=by unfold mN;rw [←hje,if_neg (by rw [List.getElem?_eq_none om];intro e;cases e)]
   rw [hpi]at hgo;clear hK2;repeat(refine A1 ⟨?_⟩;intros)
   refine Wdo (gW j rfl rfl rfl rfl rfl hfl om) ?_;repeat(first|(refine Wdo (j5 (s:=ag (rpx p)) (ds:=rpx p) rfl inferInstance) ?_)|(refine Wdo (gV j rfl rfl rfl hfl om) ?_)|(refine A1 ⟨?_⟩;intros))
   refine Wdo (az (k:=1) (k0:=out.length-j) rfl rfl rfl hdl om) ?_;refine Wdo (az (k:=j) (k0:=1+(out.length-j)) rfl rfl htl hpl2 om) ?_;rw [hins,hln];repeat(refine A1 ⟨?_⟩;intros)
   exact hgo _ _ lfA (List.nil_sublist _)
 ·have hke:k=l.length:=by omega
  subst hke;rw [List.take_length];repeat(refine A1 ⟨?_⟩;intros)
  exact aS (aC (RV.tmp rfl) Lr)
end Go.Ab
