/- Texts laid one behind the other: ZipB, TcB, Nbr, Fce, Opn, Eqv, Gd. -/
import Derived.Test.YtbcojehfealiaaaGreatDoorZipA
set_option linter.all false
set_option maxHeartbeats 16000000
namespace Go.Ab
open Go.Proofs
variable [Base]
section
variable {P:Program}{C:Ctx}{n:Nat}{F:Fr}{H:LH}{ops:Array Oper}{rs:List Nat}{Hc:LH}{K Q:Fr→LH→Prop}{s i d:Nat}{r:List NO'}{E:LH}{ty:TypeId}{pos:String}{aft:Array Edge}{rest:List Oper}
theorem aH {T e:TypeId}{sz by_:Nat}{z:List SV}{g:Bool} [hS:TSl P T e] [hT:TY P e sz by_ z g]{x:Operand}(ds:List SV) (hx:ev F x=ag ds) (hf:fS ((List.range 1).map fun i=>(i*sz,sz)) (List.replicate 1 z).flatten [(0,ds)]=some ds:=by exact rfl)
  (hsz:Nat.ble (1*sz) 16777216=true:=by exact rfl) (hpos:Nat.blt 0 sz=true:=by exact rfl):OpV P (.buildSlice T 1 [(0,x)].toArray) ty F H (sl ds 1):=iC (s:=ag ds) hx inferInstance hf hsz hpos
theorem ZkE {T e:TypeId}{sz by_:Nat}{z:List SV}{g:Bool} [hS:TSl P T e] [hT:TY P e sz by_ z g]{x k0:Nat}{y:Operand}{ds:List SV}
  (hx:F x=esl) (hy:ev F y=sl ds k0) (hds:ds.length=k0*sz) (hpos:0<k0*sz) (hl:k0≤1000000000) (k:∀s' H',Own e sz k0 ds s' H'→Mz P C n ops rs Hc K (s+1) r (upd F d s') (H'++E))
  (hyx:y≠ .tmp x:=by decide) (hxd:x≠d:=by decide) (hby:by_≤10000:=by decide) (ho:ops[i]? = some ⟨some d, .call ⟨.builtin .append,#[.tmp x,y],#[T,T]⟩,ty,pos,aft,none⟩:=by exact rfl) (hr:rs[s]? = some i:=by exact rfl) (hd:Nat.blt d n=true:=by exact rfl) :
  Mz P C n ops rs Hc K s ((i,⟨some d, .call ⟨.builtin .append,#[.tmp x,y],#[T,T]⟩,ty,pos,aft,none⟩)::r) F E :=
 .row (Post:=fun sv E'=>∃Hs,Own e sz k0 ds sv Hs∧E'=Hs++E) hr (oQ (X:=[]) hx hy hyx hxd hds hpos hl hby hd ho) (fun sv E' ⟨Hs,hO,e⟩=>by rw [e];exact k sv Hs hO)
theorem ZkP {T e:TypeId}{sz by_:Nat}{z:List SV}{g:Bool} [hS:TSl P T e] [hT:TY P e sz by_ z g]{x y:Operand}{n0:Nat}{cs ds:List SV}{so:SV}{Hs:LH}
  (hown:Own e sz n0 cs so Hs) (hl:n0≤1000000000) (k:Mz P C n ops rs Hc K (s+1) r (upd F d (sl (cs++ds) (n0+1))) E)
  (hx:ev F x=so:=by exact rfl) (hy:ev F y=sl ds 1:=by exact rfl) (hds:ds.length=sz:=by exact rfl) (hpos:0<sz:=by decide) (hby:by_≤10000:=by decide)
  (ho:ops[i]? = some ⟨some d, .call ⟨.builtin .append,#[x,y],#[T,T]⟩,ty,pos,aft,none⟩:=by exact rfl) (hr:rs[s]? = some i:=by exact rfl) (hd:Nat.blt d n=true:=by exact rfl) :
  Mz P C n ops rs Hc K s ((i,⟨some d, .call ⟨.builtin .append,#[x,y],#[T,T]⟩,ty,pos,aft,none⟩)::r) F (Hs++E) :=
 .row (Post:=fun sv E'=>sv=sl (cs++ds) (n0+1)∧E'=E) hr ((lh hown (R:=E++Hc) (by rw [List.append_assoc]) hx hy hds hpos hl hby hd ho).post fun sv H1 h=>⟨H1,List.Perm.refl _,E,h.2,h.1,rfl⟩) (fun sv E' ⟨h1,h2⟩=>by rw [h1,h2];exact k)
theorem Gx {T e:TypeId}{sz by_:Nat}{z:List SV}{g:Bool} [hS:TSl P T e] [hT:TY P e sz by_ z g]{x y:Operand}{n0:Nat}{cs ds:List SV}{so:SV}{Hs Rs:LH}
  (hown:Own e sz n0 cs so Hs) (hp:H.Perm (Hs++Rs)) (hl:n0≤1000000000) (k:∀s' H',Own e sz (n0+1) (cs++ds) s' H'→WPL P C n ops rest Q (upd F d s') (H'++Rs))
  (hx:ev F x=so:=by exact rfl) (hy:ev F y=sl ds 1:=by exact rfl) (hds:ds.length=sz:=by exact rfl) (hpos:0<sz:=by decide) (hby:by_≤10000:=by decide) (hd:Nat.blt d n=true:=by exact rfl) :
  WPL P C n ops (⟨some d, .call ⟨.builtin .append,#[x,y],#[T,T]⟩,ty,pos,aft,none⟩::rest) Q F H :=
 .perm hp (.appOwnS hown hx hy (Spl.app _ _) hds hpos hl hby k hd)
theorem zZ {T e:TypeId}{sz by_:Nat}{z:List SV}{g:Bool} [hS:TSl P T e] [hT:TY P e sz by_ z g]{x y:Operand}{n0 k0:Nat}{cs ds:List SV}{so:SV}{Hs Rs:LH}
  (hown:Own e sz n0 cs so Hs) (hp:H.Perm (Hs++Rs)) (hl:n0+k0≤1000000000) (hds:ds.length=k0*sz) (k:∀s' H',Own e sz (n0+k0) (cs++ds) s' H'→WPL P C n ops rest Q (upd F d s') (H'++Rs))
  (hx:ev F x=so:=by exact rfl) (hy:ev F y=sl ds k0:=by exact rfl) (hpos:0<sz:=by decide) (hby:by_≤10000:=by decide) (hd:Nat.blt d n=true:=by exact rfl) :
  WPL P C n ops (⟨some d, .call ⟨.builtin .append,#[x,y],#[T,T]⟩,ty,pos,aft,none⟩::rest) Q F H:=by
 refine .perm hp ?_;rcases(by omega:k0=0∨0<k0)with h0|h0
 ·subst h0;rw [Nat.zero_mul]at hds;have e0:=List.eq_nil_of_length_eq_zero hds;subst e0;rw [Nat.add_zero,List.append_nil]at k;have hk:=k so Hs hown;obtain⟨_,⟨_,rfl,_⟩|⟨_,c,h1,_,rfl,_⟩⟩:=id hown
  ·exact Wo (AF hx hy (Nat.le_refl _)) hk hd
  ·exact Wo (AF hx hy h1) hk hd
 ·exact .appOwnK hown hx hy (Spl.app _ _) hds (Nat.mul_pos h0 hpos) hl hby k hd
theorem Gy {T e:TypeId}{sz by_:Nat}{z:List SV}{g:Bool} [hS:TSl P T e] [hT:TY P e sz by_ z g]{x y:Operand}{n0 k0:Nat}{cs ds:List SV}{so:SV}{Hs Rs:LH}
  (hown:Own e sz n0 cs so Hs) (hsp:Tk H Hs Rs) (hl:n0+k0≤1000000000) (hds:ds.length=k0*sz) (k:∀s' H',Own e sz (n0+k0) (cs++ds) s' H'→WPL P C n ops rest Q (upd F d s') (Rs++H'))
  (hx:ev F x=so:=by exact rfl) (hy:ev F y=sl ds k0:=by exact rfl) (hpos:0<sz:=by decide) (hby:by_≤10000:=by decide) (hd:Nat.blt d n=true:=by exact rfl) :
  WPL P C n ops (⟨some d, .call ⟨.builtin .append,#[x,y],#[T,T]⟩,ty,pos,aft,none⟩::rest) Q F H :=
 zZ hown hsp.perm hl hds (fun s' H' h => .perm List.perm_append_comm (k s' H' h)) hx hy hpos hby hd
end
def aN:Tr→PC→List (PC×Bool)
 | .leaf i,c=>[(c,i)]
 | .node l a b,c=>(if(bs (aP l) c l).2 then aN a (bs (aP l) c l).1 else [])++(if(bs (aP l.neg) c l.neg).2 then aN b (bs (aP l.neg) c l.neg).1 else [])
abbrev ptx (p:PC×Bool):List SV:=[pcs p.1,bt (.leaf p.2)]
theorem Hb (p:PC×Bool):(ptx p).length=2:=rfl
abbrev rl:TypeId:=286
def cD:Tr→Nat
 | .leaf _=>1
 | .node _ a b=>cD a+cD b
theorem iA:∀(t:Tr) (c:PC),(aN t c).length≤cD t
 | .leaf _,_=>Nat.le_refl _
 | .node l a b,c=>by
  unfold aN cD;rw [List.length_append]
  have h1:(if(bs (aP l) c l).2 then aN a (bs (aP l) c l).1 else []).length≤cD a:=by
   split
   ·exact iA a _
   ·simp
  have h2:(if(bs (aP l.neg) c l.neg).2 then aN b (bs (aP l.neg) c l.neg).1 else []).length≤cD b:=by
   split
   ·exact iA b _
   ·simp
  omega
theorem iV:∀t:Tr,cD t=iO t+1
 | .leaf _=>rfl
 | .node l a b=>by
  simp only [cD,iO,iV a,iV b];omega
theorem He (a b:List (PC×Bool)):((a++b).map ptx).flatten=(a.map ptx).flatten++(b.map ptx).flatten:=by rw [List.map_append,List.flatten_append]
theorem Ho {n0:Nat}{cs:List SV}{A B:List (PC×Bool)}{r:SV}{H:LH}(h:Own rl 2 (n0+A.length+B.length) (cs++(A.map ptx).flatten++(B.map ptx).flatten) r H):Own rl 2 (n0+(A++B).length) (cs++((A++B).map ptx).flatten) r H:=by
 rw [He,List.length_append,←List.append_assoc,←Nat.add_assoc];exact h
theorem Eo {n0:Nat}{cs:List SV}{r:SV}{H:LH}(h:Own rl 2 n0 cs r H):Own rl 2 (n0+([]:List (PC×Bool)).length) (cs++(([]:List (PC×Bool)).map ptx).flatten) r H:=by simpa using h
theorem ri {L:Nat}(h1:1≤L) (hU:L≤500):∀(t:Tr) (c:PC),(t.all fun l=>l.le L)→(∀s∈c,yh L s)→c.length+fj t≤100000→∀(n0:Nat) (cs:List SV) (s:SV) (Hs:LH),Own rl 2 n0 cs s Hs→n0+cD t≤100000000→
  PuH Tryz.prog 244 [bt t,pcs c,s] Hs (fun r H'=>Own rl 2 (n0+(aN t c).length) (cs++((aN t c).map ptx).flatten) r H') noX
 | .leaf i,c,_,_,_,n0,cs,s,Hs,hown,hn=>by
  have d1:=iZ i;have hco:=hown.co;simp only [cD]at hn;show PuH _ _ _ _ (fun r H'=>Own rl 2 (n0+1) (cs++(ptx (c,i)++[])) r H') noX
  rw [List.append_nil];simp only [bt,oI]at d1⊢;refine PuH.intro Tryz.func244 rfl kr fun C hC=>?_
  repeat(first|(refine Wo (aH [pcs c,pt (bc (.leaf i))] rfl) ?_)|(refine Wdo (aH [pcs c,pt (bc (.leaf i))] rfl) ?_)|(refine A1 ⟨?_⟩;intros)|refine W4 d1 ⟨?_⟩)
  refine jS (ds:=[pcs c,pt (bc (.leaf i))]) hown (Tk.same _) om (fun s' H1 hown'=>?_);have hco':=hown'.co;clear hown;repeat(refine A1 ⟨?_⟩;intros)
  exact eN _ _ (aJ (RV.tmp rfl) Lr) Sr hown'
 | .node l a b,c,hall,hc,hd,n0,cs,s,Hs,hown,hn=>by
  have hd':c.length+(1+max (fj a) (fj b))≤100000:=hd;have d1:=iY l a b;have d2:=CZ hc hall.1 h1 hU om;have hln:l.neg.le L:=⟨by show il (-l.a)≤L;rw [cH];exact hall.1.a,by show il (-l.b)≤L;rw [cH];exact hall.1.b,by show il (-l.c)≤L;rw [cH];exact hall.1.c⟩
  have n1:=lW (aP l) c l;have n2:=lW (aP l.neg) c l.neg;simp only [cD]at hn;have i1:=ri h1 hU a (bs (aP l) c l).1 hall.2.1 (oF hc hall.1 h1) om n0 cs s Hs hown om;have i2:=ri h1 hU b (bs (aP l.neg) c l.neg).1 hall.2.2 (oF hc hln h1) om;have hco:=hown.co;have p1:=iA a (bs (aP l) c l).1;unfold aN;have en:bt (.node l a b)=pt (bc (.node l a b)):=rfl;rw [en,mg]at d1⊢;clear en hd hd' hc hall hln n1 n2;generalize(bs (aP l) c l).1=c1 at *;generalize(bs (aP l.neg) c l.neg).1=c2 at *;generalize hb1:(bs (aP l) c l).2=b1 at *;generalize hb2:(bs (aP l.neg) c l.neg).2=b2 at *;clear hb1 hb2;generalize aN a c1=A at *;have hbl:=cD a;cases b1
  ·rw [if_neg (by decide)];cases b2
   ·rw [if_neg (by decide)];clear i1 i2;refine PuH.intro Tryz.func244 rfl kr fun C hC=>?_
    repeat(first|(refine A1 ⟨?_⟩;intros)|refine W4 d1 ⟨?_⟩|refine W4 d2 ⟨?_⟩)
    exact eN _ _ (aJ (RV.tmp rfl) Lr) Sr (Eo hown)
   ·rw [if_pos rfl];have i3:=i2 n0 cs s Hs hown om;clear i1 i2 hown;generalize aN b c2=B at *;refine PuH.intro Tryz.func244 rfl kr fun C hC=>?_
    repeat(first|(refine A1 ⟨?_⟩;intros)|refine W4 d1 ⟨?_⟩|refine W4 d2 ⟨?_⟩)
    refine WfT i3 ?_;intro r2 H2 hown2;have hco2:=hown2.co;repeat(refine A1 ⟨?_⟩;intros)
    exact eN _ _ (aJ (RV.tmp rfl) Lr) Sr hown2
  ·rw [if_pos rfl];cases b2
   ·rw [if_neg (by decide),List.append_nil];clear i2 hown;refine PuH.intro Tryz.func244 rfl kr fun C hC=>?_
    repeat(first|(refine A1 ⟨?_⟩;intros)|refine W4 d1 ⟨?_⟩|refine W4 d2 ⟨?_⟩)
    refine WfT i1 ?_;intro r2 H2 hown2;have hco2:=hown2.co;repeat(refine A1 ⟨?_⟩;intros)
    exact eN _ _ (aJ (RV.tmp rfl) Lr) Sr hown2
   ·rw [if_pos rfl];clear hown;refine PuH.intro Tryz.func244 rfl kr fun C hC=>?_
    repeat(first|(refine A1 ⟨?_⟩;intros)|refine W4 d1 ⟨?_⟩|refine W4 d2 ⟨?_⟩)
    refine WfT i1 ?_;intro r2 H2 hown2;have hco2:=hown2.co;have i3:=i2 _ _ _ _ hown2 om;clear hown2 i1 i2;generalize aN b c2=B at *;simp only [List.nil_append];repeat(first|(refine A1 ⟨?_⟩;intros)|refine W4 d1 ⟨?_⟩|refine W4 d2 ⟨?_⟩)
    refine WfT i3 ?_;intro r3 H3 hown3;have hco3:=hown3.co;simp only [List.nil_append];repeat(refine A1 ⟨?_⟩;intros)
    exact eN _ _ (aJ (RV.tmp rfl) Lr) Sr (Ho hown3)
abbrev pls (l:List (PC×Bool)):SV:=sl (l.map ptx).flatten l.length
theorem D8 {L:Nat}(h1:1≤L) (hU:L≤500) (t:Tr) (hall:t.all fun l=>l.le L) (hd:fj t≤100000) (hn:cD t≤100000000):Pu Tryz.prog 208 [bt t] (pls (aN t [])):=by
 have c:=(ri h1 hU t [] hall (fun s hs=>by cases hs) (by simpa using hd) 0 [] (lit (.slice none 0 0)) [] (Own.nil _ _) om).leA (svs':=[bt t,lit (.slice none 0 0),lit (.slice none 0 0)]) ⟨Le.refl _,ft,Le.refl _,trivial⟩;rw [Nat.zero_add,List.nil_append]at c;clear hall hd hn;generalize aN t []=l at *;refine PuH.toPu ?_;refine PuH.intro Tryz.func208 rfl kr fun C hC=>?_
 repeat(refine A1 ⟨?_⟩;intros)
 refine WfT c ?_;intro r H' hown;have hco:=hown.co;simp only [List.nil_append];refine WPL.rowS 4 hown rfl (R:=[]) (by simp) ?_;repeat(refine A1 ⟨?_⟩;intros)
 exact eN _ _ (aJ (RV.tmp rfl) Lr) (List.nil_sublist _) rfl
def Cvx (I:Pq→Prop):Prop:=∀p q (s:Rat),I p→I q→0≤s→s≤1→I (q.1+s*(p.1-q.1),q.2+s*(p.2-q.2))
theorem Cvx.left {I:Pq→Prop}(h:Cvx I) (l:Li):Cvx fun q=>I q∧0<a8 l q:=fun p q s hp hq h0 h1=>by
 refine⟨h p q s hp.1 hq.1 h0 h1,?_⟩;rw [gX];have:=Rat.mul_nonneg h0 (Rat.le_of_lt hp.2);have:=Rat.mul_nonneg (show 0≤1-s by grind) (Rat.le_of_lt hq.2);have a:=hp.2;have b:=hq.2;by_cases e:s=0
 ·rw [e];grind
 ·have:=Rat.mul_pos (show 0<s by grind) a;grind
theorem Cvx.right {I:Pq→Prop}(h:Cvx I) (l:Li):Cvx fun q=>I q∧a8 l q<0:=fun p q s hp hq h0 h1=>by
 refine⟨h p q s hp.1 hq.1 h0 h1,?_⟩;rw [gX];have a:=hp.2;have b:=hq.2;have:=Rat.mul_nonneg (show 0≤1-s by grind) (show 0≤- a8 l q by grind);by_cases e:s=0
 ·rw [e];grind
 ·have:=Rat.mul_pos (show 0<s by grind) (show 0 < - a8 l p by grind);grind
theorem qv (c:List Li):Cvx (Inn c):=fun p q s hp hq h0 h1 l hl=>by
 rw [gX];have a:=hp l hl;have b:=hq l hl;have:=Rat.mul_nonneg (show 0≤1-s by grind) (Rat.le_of_lt b);by_cases e:s=0
 ·rw [e];grind
 ·have:=Rat.mul_pos (show 0<s by grind) a;grind
theorem vZ {I:Pq→Prop}(h:Cvx I){m:Li}{p q:Pq}(hp:I p) (hq:I q) (h1:0<a8 m p) (h2:a8 m q<0):∃r,I r∧a8 m r=0∧∀l,a8 l p=0→a8 l q=0→a8 l r=0:=by
 have hd:a8 m p-a8 m q≠0:=by grind
 have hd':0<a8 m p-a8 m q:=by grind
 have e : -a8 m q/(a8 m p-a8 m q)*(a8 m p-a8 m q) = -a8 m q:=Rat.div_mul_cancel hd
 have s0:0≤-a8 m q/(a8 m p-a8 m q):=by
  rw [Rat.div_def];exact Rat.mul_nonneg (by grind) (Rat.le_of_lt (Rat.inv_pos.2 hd'))
 have s1 : -a8 m q/(a8 m p-a8 m q)≤1:=by
  by_cases c : -a8 m q/(a8 m p-a8 m q)≤1
  ·exact c
  ·exfalso;have:=Rat.mul_pos (show 0 < -a8 m q/(a8 m p-a8 m q)-1 by grind) hd';grind
 generalize -a8 m q/(a8 m p-a8 m q)=s at *;refine⟨_,h p q s hp hq s0 s1,?_,fun l a b=>?_⟩
 ·rw [gX,e];grind
 ·rw [gX,a,b];grind
theorem CJ {l m:Li}(hl:l.ok) (hs:slp l m=0){p q:Pq}(hp:a8 l p=0) (hq:a8 l q=0):a8 m p=a8 m q:=by
 unfold a8 slp at *
 have h:(l.a:Rat)≠0∨(l.b:Rat)≠0:=by
  rcases hl.2 with r|r
  ·exact .inl fun e=>r (Rat.intCast_eq_zero_iff.1 e)
  ·exact .inr fun e=>r (Rat.intCast_eq_zero_iff.1 e)
 generalize(l.a:Rat)=a at *;generalize(l.b:Rat)=b at *;generalize(m.a:Rat)=c at *;generalize(m.b:Rat)=d at *;have e1:a*(p.1-q.1)+b*(p.2-q.2)=0:=by grind
 have:c*(p.1-q.1)+d*(p.2-q.2)=0:=by
  rcases h with h|h
  ·have:a*(c*(p.1-q.1)+d*(p.2-q.2))=0:=by grind
   rcases Rat.mul_eq_zero.1 this with e|e
   ·exact absurd e h
   ·exact e
  ·have:b*(c*(p.1-q.1)+d*(p.2-q.2))=0:=by grind
   rcases Rat.mul_eq_zero.1 this with e|e
   ·exact absurd e h
   ·exact e
 grind
def D1 (I:Pq→Prop) (l k:Li):Prop:=∃q,I q∧a8 l q=0∧a8 k q=0∧slp l k≠0
def If (I:Pq→Prop) (l:Li):Prop:=∃q,I q∧a8 l q=0
open Classical in
noncomputable def y5 (L:List Li) (I:Pq→Prop) (l:Li):Nat:=L.countP fun k=>decide (D1 I l k)
open Classical in
noncomputable def wI (L:List Li) (I:Pq→Prop) (l:Li):Nat:=if If I l then 1+y5 L I l else 0
noncomputable def nT (L M:List Li) (I:Pq→Prop):Nat:=(M.map (wI L I)).sum
theorem n9 {α:Type}{p r:α→Bool}:∀{L:List α},(∀x∈L,p x=true→r x=true)→L.countP p≤L.countP r
 | [],_=>by simp
 |x::L,h=>by
  have ih:=n9 (L:=L) fun y hy=>h y (Mc hy)
  have:=h x Ms;rw [List.countP_cons,List.countP_cons];cases hp:p x <;> cases hr:r x <;> simp_all <;> omega
theorem pY {α:Type}{p q r:α→Bool}:∀{L:List α},(∀x∈L,p x=true→r x=true)→(∀x∈L,q x=true→r x=true)→(∀x∈L,p x=true→q x=true→False)→L.countP p+L.countP q≤L.countP r
 | [],_,_,_=>by simp
 |x::L,h1,h2,h3=>by
  have ih:=pY (L:=L) (fun y hy=>h1 y (Mc hy)) (fun y hy=>h2 y (Mc hy)) (fun y hy=>h3 y (Mc hy));have a1:=h1 x Ms;have a2:=h2 x Ms;have a3:=h3 x Ms;rw [List.countP_cons,List.countP_cons,List.countP_cons];cases hp:p x <;> cases hq:q x <;> cases hr:r x <;> simp_all <;> omega
theorem ul {α:Type}{p q r:α→Bool}{x0:α}:∀{L:List α},(∀x∈L,p x=true→r x=true)→(∀x∈L,q x=true→r x=true)→(∀x∈L,p x=true→q x=true→False)→x0∈L→r x0=true→p x0=false→q x0=false→L.countP p+L.countP q+1≤L.countP r
 | [],_,_,_,h,_,_,_=>by cases h
 |x::L,h1,h2,h3,h,e1,e2,e3=>by
  have g1:=fun y hy=>h1 y (Mc hy)
  have g2:=fun y hy=>h2 y (Mc hy)
  have g3:=fun y hy=>h3 y (Mc hy)
  have a1:=h1 x Ms;have a2:=h2 x Ms;have a3:=h3 x Ms;rw [List.countP_cons,List.countP_cons,List.countP_cons];rcases List.mem_cons.1 h with rfl|hm
  ·have:=pY g1 g2 g3;rw [e1,e2,e3];simp only [if_true,Bool.false_eq_true,if_false];omega
  ·have ih:=ul g1 g2 g3 hm e1 e2 e3;cases hp:p x <;> cases hq:q x <;> cases hr:r x <;> simp_all <;> omega
theorem sw {I J:Pq→Prop}(h:∀q,J q→I q){l k:Li}(c:D1 J l k):D1 I l k:=by
 obtain⟨q,h1,h2⟩:=c;exact⟨q,h q h1,h2⟩
open Classical in
theorem A4 {I J:Pq→Prop}(L:List Li) (h:∀q,J q→I q) (l:Li):wI L J l≤wI L I l:=by
 unfold wI;split
 ·rename_i c;obtain⟨q,h1,h2⟩:=c;rw [if_pos ⟨q,h q h1,h2⟩];have:y5 L J l≤y5 L I l:=n9 fun x _ hx=>decide_eq_true (sw h (of_decide_eq_true hx))
  omega
 ·omega
theorem IL {I:Pq→Prop}{l k m:Li}(hl:l.ok) (a:D1 (fun q=>I q∧0<a8 m q) l k) (b:D1 (fun q=>I q∧a8 m q<0) l k):False:=by
 obtain⟨p,⟨_,p1⟩,p2,p3,p4⟩:=a;obtain⟨q,⟨_,q1⟩,q2,q3,q4⟩:=b
 have e:p.1=q.1∧p.2=q.2:=by
  unfold a8 slp at *
  have h:(l.a:Rat)≠0∨(l.b:Rat)≠0:=by
   rcases hl.2 with r|r
   ·exact .inl fun e=>r (Rat.intCast_eq_zero_iff.1 e)
   ·exact .inr fun e=>r (Rat.intCast_eq_zero_iff.1 e)
  generalize(l.a:Rat)=a at *;generalize(l.b:Rat)=b at *;generalize(k.a:Rat)=c at *;generalize(k.b:Rat)=d at *;have e1:a*(p.1-q.1)+b*(p.2-q.2)=0:=by grind
  have e2:c*(p.1-q.1)+d*(p.2-q.2)=0:=by grind
  have f1:(c*b-d*a)*(p.1-q.1)=0:=by grind
  have f2:(c*b-d*a)*(p.2-q.2)=0:=by grind
  constructor
  ·rcases Rat.mul_eq_zero.1 f1 with e|e
   ·exact absurd e p4
   ·grind
  ·rcases Rat.mul_eq_zero.1 f2 with e|e
   ·exact absurd e p4
   ·grind
 have:p=q:=Prod.ext e.1 e.2;rw [this]at p1;grind
open Classical in
theorem we {I:Pq→Prop}(hI:Cvx I){L:List Li}{l m:Li}(hl:l.ok) (hm:m∈L):wI L (fun q=>I q∧0<a8 m q) l+wI L (fun q=>I q∧a8 m q<0) l≤wI L I l:=by
 by_cases c1:If (fun q=>I q∧0<a8 m q) l
 ·by_cases c2:If (fun q=>I q∧a8 m q<0) l
  ·obtain⟨p,⟨p0,p1⟩,p2⟩:=id c1;obtain⟨q,⟨q0,q1⟩,q2⟩:=id c2;obtain⟨r,r1,r2,r3⟩:=vZ hI p0 q0 p1 q1
   have hs:slp l m≠0:=fun e=>by
    have:=CJ hl e p2 q2;rw [this]at p1;grind
   have hx:D1 I l m:=⟨r,r1,r3 l p2 q2,r2,hs⟩
   unfold wI;rw [if_pos c1,if_pos c2,if_pos ⟨r,r1,r3 l p2 q2⟩]
   have:y5 L (fun q=>I q∧0<a8 m q) l+y5 L (fun q=>I q∧a8 m q<0) l+1≤y5 L I l:=by
    refine ul (x0:=m) (fun x _ hx=>decide_eq_true (sw (fun q h=>h.1) (of_decide_eq_true hx))) (fun x _ hx=>decide_eq_true (sw (fun q h=>h.1) (of_decide_eq_true hx))) (fun x _ ha hb=>IL hl (of_decide_eq_true ha) (of_decide_eq_true hb)) hm (decide_eq_true hx) (decide_eq_false ?_) (decide_eq_false ?_)
    ·rintro ⟨q,⟨_,h1⟩,_,h2,_⟩;rw [h2]at h1;exact absurd h1 (Rat.lt_irrefl)
    ·rintro ⟨q,⟨_,h1⟩,_,h2,_⟩;rw [h2]at h1;exact absurd h1 (Rat.lt_irrefl)
   omega
  ·have:=A4 (I:=I) (J:=fun q=>I q∧0<a8 m q) L (fun q h=>h.1) l;have e:wI L (fun q=>I q∧a8 m q<0) l=0:=if_neg c2;omega
 ·have:=A4 (I:=I) (J:=fun q=>I q∧a8 m q<0) L (fun q h=>h.1) l;have e:wI L (fun q=>I q∧0<a8 m q) l=0:=if_neg c1;omega
open Classical in
theorem Gz {I:Pq→Prop}(hI:Cvx I){L:List Li}{m:Li}(h1:Lft I m) (h2:Rgt I m):wI L (fun q=>I q∧0<a8 m q) m+wI L (fun q=>I q∧a8 m q<0) m+1≤wI L I m:=by
 obtain⟨p,p1,p2⟩:=h1;obtain⟨q,q1,q2⟩:=h2;obtain⟨r,r1,r2,_⟩:=vZ hI p1 q1 p2 q2
 have e1:wI L (fun q=>I q∧0<a8 m q) m=0:=if_neg (by
  rintro ⟨q,⟨_,h1⟩,h2⟩;rw [h2]at h1;exact absurd h1 (Rat.lt_irrefl))
 have e2:wI L (fun q=>I q∧a8 m q<0) m=0:=if_neg (by
  rintro ⟨q,⟨_,h1⟩,h2⟩;rw [h2]at h1;exact absurd h1 (Rat.lt_irrefl))
 have e3:wI L I m=1+y5 L I m:=if_pos ⟨r,r1,r2⟩;omega
theorem rf {I:Pq→Prop}(hI:Cvx I){L:List Li}{m:Li}(hm:m∈L):∀{M:List Li},(∀l∈M,l.ok)→nT L M (fun q=>I q∧0<a8 m q)+nT L M (fun q=>I q∧a8 m q<0)≤nT L M I
 | [],_=>by simp [nT]
 |l::M,hM=>by
  have ih:=rf hI hm (M:=M) fun x hx=>hM x (Mc hx)
  have:=we hI (hM l Ms) hm;simp only [nT,List.map_cons,List.sum_cons]at *;omega
theorem tw {I:Pq→Prop}(hI:Cvx I){L:List Li}{m:Li}(hm:m∈L) (h1:Lft I m) (h2:Rgt I m):∀{M:List Li},(∀l∈M,l.ok)→m∈M→nT L M (fun q=>I q∧0<a8 m q)+nT L M (fun q=>I q∧a8 m q<0)+1≤nT L M I
 | [],_,h=>by cases h
 |l::M,hM,h=>by
  have g:=fun x hx=>hM x (Mc hx)
  rcases List.mem_cons.1 h with rfl|h
  ·have ih:=rf hI hm (M:=M) g;have:=Gz (L:=L) hI h1 h2;simp only [nT,List.map_cons,List.sum_cons]at *;omega
  ·have ih:=tw hI hm h1 h2 g h;have:=we hI (hM l Ms) hm;simp only [nT,List.map_cons,List.sum_cons]at *;omega
def Prp:Tr→(Pq→Prop)→Prop
 | .leaf _,_=>True
 | .node l a b,I=>Lft I l∧Rgt I l∧Prp a (fun q=>I q∧0<a8 l q)∧Prp b (fun q=>I q∧a8 l q<0)
theorem qQ {L:List Li}(hL:∀l∈L,l.ok):∀{t:Tr}{I:Pq→Prop},Cvx I→Prp t I→t.lin L→iO t≤nT L L I
 | .leaf _,_,_,_,_=>Nat.zero_le _
 | .node l a b,I,hI,⟨h1,h2,h3,h4⟩,⟨k1,k2,k3⟩=>by
  have a1:=qQ hL (hI.left l) h3 k2;have a2:=qQ hL (hI.right l) h4 k3;have:=tw hI k1 h1 h2 hL k1;simp only [iO];omega
theorem KS (L:List Li) (I:Pq→Prop) (l:Li):wI L I l≤1+L.length:=by
 have:y5 L I l≤L.length:=List.countP_le_length;unfold wI;split <;> omega
theorem Ay (L:List Li) (I:Pq→Prop):∀M:List Li,nT L M I≤M.length*(1+L.length)
 | []=>by simp [nT]
 |l::M=>by
  have:=Ay L I M;have:=KS L I l;simp only [nT,List.map_cons,List.sum_cons,List.length_cons,Nat.add_mul]at *;omega
theorem yu {L:List Li}(hL:∀l∈L,l.ok){t:Tr}{I:Pq→Prop}(hI:Cvx I) (h:Prp t I) (k:t.lin L):iO t≤L.length*(1+L.length) :=
 Nat.le_trans (qQ hL hI h k) (Ay L I L)
theorem CC {l:Li}{a b:Tr}{I:Pq→Prop}(h1:Lft I l) (h2:Rgt I l) (ha:Prp a fun q=>I q∧0<a8 l q) (hb:Prp b fun q=>I q∧a8 l q<0):Prp (rR l a b) I:=by
 cases a with
 |leaf i =>
  cases b with
  |leaf j =>
   show Prp (if i=j then Tr.leaf i else Tr.node l (.leaf i) (.leaf j)) I
   split
   ·trivial
   ·exact⟨h1,h2,ha,hb⟩
  |node m x y=>exact⟨h1,h2,ha,hb⟩
 |node m x y=>exact⟨h1,h2,ha,hb⟩
theorem iw:∀{t:Tr}{I:Pq→Prop},Prp (gd t I) I
 | .leaf _,_=>trivial
 | .node l a b,I=>by
  unfold gd;split
  ·exact iw
  ·rename_i h1;split
   ·exact iw
   ·rename_i h2;exact CC (Classical.not_not.1 h2) (Classical.not_not.1 h1) iw iw
theorem CD {L:List Li}{l:Li}(h:l∈L):∀{a b:Tr},a.lin L→b.lin L→(rR l a b).lin L
 | .leaf i, .leaf j,ha,hb=>by
  show(if i=j then Tr.leaf i else Tr.node l (.leaf i) (.leaf j)).lin L
  split
  ·trivial
  ·exact⟨h,ha,hb⟩
 | .leaf i, .node m x y,ha,hb=>⟨h,ha,hb⟩
 | .node m x y,b,ha,hb=>by cases b <;> exact⟨h,ha,hb⟩
theorem iy {L:List Li}:∀{t:Tr}{I:Pq→Prop},t.lin L→(gd t I).lin L
 | .leaf _,_,_=>trivial
 | .node l a b,I,⟨h,ha,hb⟩=>by
  unfold gd;split
  ·exact iy ha
  ·split
   ·exact iy hb
   ·exact CD h (iy ha) (iy hb)
end Go.Ab
namespace Go.Ab
open Go.Proofs
variable [Base]
theorem D0 {xa xb la lb ma mb p q:Rat}(hl:0<la*p+lb*q) (hx:0<xa*p+xb*q) (hm:0<ma*p+mb*q) (h1:0≤xa*lb-xb*la) (h2:0≤la*mb-lb*ma):0≤xa*mb-xb*ma:=by
 have e:(xa*mb-xb*ma)*(la*p+lb*q)=(xa*lb-xb*la)*(ma*p+mb*q)+(la*mb-lb*ma)*(xa*p+xb*q):=by grind
 have a1:=Rat.mul_nonneg h1 (Rat.le_of_lt hm);have a2:=Rat.mul_nonneg h2 (Rat.le_of_lt hx);by_cases c:xa*mb-xb*ma<0
 ·exfalso;have a3:=Rat.mul_pos (show 0 < -(xa*mb-xb*ma) by grind) hl;rw [Rat.neg_mul,e]at a3;grind
 ·exact Rat.not_lt.1 c
theorem rz {p q:Rat}:∀(l:List (Rat×Rat)),l≠[]→(∀m∈l,0<m.1*p+m.2*q)→∃x∈l,∀m∈l,0≤x.1*m.2-x.2*m.1
 | [],h,_=>absurd rfl h
 | [x],_,_=>⟨x,List.mem_cons_self ..,fun m hm=>by
  rw [List.mem_singleton.1 hm];grind⟩
 |x::y::l,_,H=>by
  obtain⟨z,hz,k⟩:=rz (y::l) (by simp) (fun m hm=>H m (Mc hm));have Hx:=H x (List.mem_cons_self ..);have Hz:=H z (Mc hz);by_cases c:x.1*z.2-x.2*z.1<0
  ·refine⟨z,Mc hz,fun m hm=>?_⟩;rcases List.mem_cons.1 hm with rfl|hm
   ·grind
   ·exact k m hm
  ·refine⟨x,List.mem_cons_self ..,fun m hm=>?_⟩;rcases List.mem_cons.1 hm with rfl|hm
   ·grind
   ·exact D0 Hz Hx (H m (Mc hm)) (Rat.not_lt.1 c) (k m hm)
theorem tb {c:PC}(hc:bZ c){s:Fg}(hs:s∈c){k:Rat}(hk:k≠0) (H:∀m∈ac c,0≤k*slp s.1 m):s.2.nl=true∨s.2.nh=true:=by
 obtain⟨h1,t0,h2⟩:=hc.span s hs
 have far:∀r:Rat,0≤r→InS s.2 (t0+r*k):=by
  intro r hr;refine(h1 _).2 fun m hm ne=>?_
  have q1:=(h1 t0).1 h2 m hm ne;rw [aV]at q1⊢;have q2:=Rat.mul_nonneg hr (H m hm);grind
 rcases hnl:s.2.nl with _|_
 ·rcases hnh:s.2.nh with _|_
  ·exfalso;unfold InS at h2 far;rw [hnl,hnh]at h2;have h3:s.2.lo<t0:=by rcases h2.1 with q|q;cases q;exact q
   have h4:t0<s.2.hi:=by rcases h2.2 with q|q;cases q;exact q
   by_cases kp:0<k
   ·have e:(s.2.hi-t0)/k*k=s.2.hi-t0:=Rat.div_mul_cancel hk
    have pos:0≤(s.2.hi-t0)/k:=by
     rw [Rat.div_def];exact Rat.mul_nonneg (by grind) (Rat.le_of_lt (Rat.inv_pos.2 kp))
    have f:=(far _ pos).2;rw [hnh,e]at f;rcases f with q|q
    ·cases q
    ·grind
   ·have kn:0 < -k:=by grind
    have e:(t0-s.2.lo)/(-k)*(-k)=t0-s.2.lo:=Rat.div_mul_cancel (by grind)
    have pos:0≤(t0-s.2.lo)/(-k):=by
     rw [Rat.div_def];exact Rat.mul_nonneg (by grind) (Rat.le_of_lt (Rat.inv_pos.2 kn))
    have f:=(far _ pos).1;rw [hnl]at f;rcases f with q|q
    ·cases q
    ·grind
  ·exact Or.inr rfl
 ·exact Or.inl rfl
theorem Cp {c:PC}(hc:bZ c){s:Fg}(hs:s∈c) (h:s.2.nl=true∨s.2.nh=true):∃k:Rat,k≠0∧∀m∈ac c,0≤k*slp s.1 m:=by
 obtain⟨h1,t0,h2⟩:=hc.span s hs;have L0:slp s.1 s.1=0:=by unfold slp;grind
 have go:∀k:Rat,(∀r:Rat,0≤r→InS s.2 (t0+r*k))→∀m∈ac c,0≤k*slp s.1 m:=by
  intro k far m hm;by_cases e:m=s.1
  ·rw [e,L0];grind
  by_cases g:0≤k*slp s.1 m
  ·exact g
  exfalso;have g':0 < -(k*slp s.1 m):=by grind
  have q1:=(h1 t0).1 h2 m hm e;rw [aV]at q1
  have pos:0≤(a8 m (aD s.1)+t0*slp s.1 m)/(-(k*slp s.1 m)):=by
   rw [Rat.div_def];exact Rat.mul_nonneg (Rat.le_of_lt q1) (Rat.le_of_lt (Rat.inv_pos.2 g'))
  have eq:(a8 m (aD s.1)+t0*slp s.1 m)/(-(k*slp s.1 m))*(-(k*slp s.1 m))=a8 m (aD s.1)+t0*slp s.1 m:=Rat.div_mul_cancel (by grind);have q2:=(h1 _).1 (far _ pos) m hm e;rw [aV]at q2;grind
 unfold InS at h2;rcases h with h|h
 ·refine⟨-1,by grind,go _ fun r hr=>⟨Or.inl h,?_⟩⟩;rcases h2.2 with q|q
  ·exact Or.inl q
  ·exact Or.inr (by grind)
 ·refine⟨1,by grind,go _ fun r hr=>⟨?_,Or.inl h⟩⟩;rcases h2.1 with q|q
  ·exact Or.inl q
  ·exact Or.inr (by grind)
theorem uG {a b:Rat}(h:a≠0∨b≠0):0<a*a+b*b:=by
 have ha:0≤a*a:=by
  by_cases q:0≤a
  ·exact Rat.mul_nonneg q q
  ·have:=Rat.mul_nonneg (show 0≤-a by grind) (show 0≤-a by grind);grind
 have hb:0≤b*b:=by
  by_cases q:0≤b
  ·exact Rat.mul_nonneg q q
  ·have:=Rat.mul_nonneg (show 0≤-b by grind) (show 0≤-b by grind);grind
 by_cases e:a*a+b*b=0
 ·have e1:a*a=0:=by grind
  have e2:b*b=0:=by grind
  rcases Rat.mul_eq_zero.1 e1 with q|q <;> rcases Rat.mul_eq_zero.1 e2 with r|r <;> grind
 ·grind
theorem EK {c:PC}(hc:bZ c) (hne:c≠[]):(∃s∈c,s.2.nl=true∨s.2.nh=true)↔∃d:Pq,(d.1≠0∨d.2≠0)∧∀m∈ac c,0≤(m.a:Rat)*d.1+(m.b:Rat)*d.2:=by
 constructor
 ·rintro ⟨s,hs,h⟩;obtain⟨k,hk,H⟩:=Cp hc hs h;refine⟨(k*s.1.b,-(k*s.1.a)),?_,fun m hm=>?_⟩
  ·rcases(hc.ok s hs).2 with q|q
   ·right;have:(s.1.a:Rat)≠0:=fun e=>q (Rat.intCast_eq_zero_iff.1 e)
    intro e;have e':k*(s.1.a:Rat)=0:=by simp only at e;grind
    rcases Rat.mul_eq_zero.1 e' with r|r
    ·exact hk r
    ·exact this r
   ·left;have:(s.1.b:Rat)≠0:=fun e=>q (Rat.intCast_eq_zero_iff.1 e)
    intro e;have e':k*(s.1.b:Rat)=0:=e;rcases Rat.mul_eq_zero.1 e' with r|r
    ·exact hk r
    ·exact this r
  ·have:=H m hm;unfold slp at this;simp only;grind
 ·rintro ⟨⟨p,q⟩,hd,H⟩;simp only at hd H;by_cases h0:∃s∈c,(s.1.a:Rat)*p+(s.1.b:Rat)*q=0
  ·obtain⟨s,hs,e⟩:=h0
   have hab:(s.1.a:Rat)≠0∨(s.1.b:Rat)≠0:=by
    rcases(hc.ok s hs).2 with r|r
    ·exact Or.inl fun e=>r (Rat.intCast_eq_zero_iff.1 e)
    ·exact Or.inr fun e=>r (Rat.intCast_eq_zero_iff.1 e)
   have n1:=uG hab;have n2:=uG hd;refine⟨s,hs,tb hc hs (k:=p*s.1.b-q*s.1.a) ?_ fun m hm=>?_⟩
   ·intro z;have:=Rat.mul_pos n1 n2;have id:((s.1.a:Rat)*s.1.a+s.1.b*s.1.b)*(p*p+q*q)=(p*s.1.b-q*s.1.a)*(p*s.1.b-q*s.1.a)+((s.1.a:Rat)*p+s.1.b*q)*((s.1.a:Rat)*p+s.1.b*q):=by grind
    rw [id,z,e]at this;grind
   ·have:=Rat.mul_nonneg (Rat.le_of_lt n1) (H m hm);have id:(p*(s.1.b:Rat)-q*s.1.a)*slp s.1 m=((s.1.a:Rat)*s.1.a+s.1.b*s.1.b)*(m.a*p+m.b*q)-((s.1.a:Rat)*p+s.1.b*q)*(m.a*s.1.a+m.b*s.1.b):=by unfold slp;grind
    rw [id,e];grind
  ·have H':∀m∈(ac c).map (fun l=>((l.a:Rat),(l.b:Rat))),0<m.1*p+m.2*q:=by
    intro m hm;obtain⟨l,hl,rfl⟩:=List.mem_map.1 hm;obtain⟨s,hs,rfl⟩:=List.mem_map.1 hl;have a1:=H _ hl;have a2:(s.1.a:Rat)*p+(s.1.b:Rat)*q≠0:=fun e=>h0 ⟨s,hs,e⟩
    simp only;grind
   obtain⟨x,hx,k⟩:=rz _ (by simpa [ac] using hne) H';obtain⟨l,hl,rfl⟩:=List.mem_map.1 hx;obtain⟨s,hs,rfl⟩:=List.mem_map.1 hl;refine⟨s,hs,tb hc hs (k := -1) (by grind) fun m hm=>?_⟩;have:=k _ (List.mem_map_of_mem hm);unfold slp;simp only at this;grind
theorem Ji {α:Type}{P:α→Nat→Prop}:∀{L:List α},(∀N,∃n,N≤n∧∃c∈L,P c n)→∃c∈L,∀N,∃n,N≤n∧P c n
 | [],H=>by
  obtain⟨_,_,_,h,_⟩:=H 0;cases h
 |x::L,H=>by
  by_cases e:∀N,∃n,N≤n∧P x n
  ·exact⟨x,List.mem_cons_self ..,e⟩
  ·obtain⟨N0,k⟩:=Classical.not_forall.1 e
   obtain⟨c,hc,h⟩:=Ji (L:=L) (P:=P) fun N=>by
    obtain⟨n,hn,c,hc,hp⟩:=H (max N N0);refine⟨n,om,c,?_,hp⟩;rcases List.mem_cons.1 hc with rfl|hc
    ·exact absurd ⟨n,om,hp⟩ k
    ·exact hc
   exact⟨c,Mc hc,h⟩
theorem jU (l:Li) (q d:Pq) (t:Rat):a8 l (bO q t d)=a8 l q+t*((l.a:Rat)*d.1+(l.b:Rat)*d.2):=by
 unfold a8 bO;simp only;grind
theorem rF (x:Rat):∃N:Nat,x≤(N:Rat):=by
 refine⟨x.ceil.toNat,?_⟩;have h1:x≤(x.ceil:Rat):=Rat.le_ceil;have h2:(x.ceil:Rat)≤((x.ceil.toNat:Int):Rat):=Rat.intCast_le_intCast.2 (Int.self_le_toNat _);exact Rat.le_trans h1 (by rw [Rat.intCast_natCast]at h2;exact h2)
theorem E8 {ls:List Li}{q d:Pq}(H:∀N:Nat,∃n:Nat,N≤n∧Inn ls (bO q (n:Rat) d)):∀m∈ls,0≤(m.a:Rat)*d.1+(m.b:Rat)*d.2:=by
 intro m hm;by_cases g:0≤(m.a:Rat)*d.1+(m.b:Rat)*d.2
 ·exact g
 exfalso;generalize hs:(m.a:Rat)*d.1+(m.b:Rat)*d.2=s at g;have hp:0 < -s:=by grind
 obtain⟨N,hN⟩:=rF (a8 m q / -s);obtain⟨n,hn,hi⟩:=H N;have h1:=hi m hm;rw [jU,hs]at h1;have h2:a8 m q / -s≤(n:Rat):=Rat.le_trans hN (Rat.natCast_le_natCast.2 hn);have h3:=Rat.mul_nonneg (show 0≤(n:Rat)-a8 m q / -s by grind) (Rat.le_of_lt hp);have h4:a8 m q / -s * -s=a8 m q:=Rat.div_mul_cancel (by grind);grind
theorem xg {ls:List Li}{q d:Pq}(hq:Inn ls q) (H:∀m∈ls,0≤(m.a:Rat)*d.1+(m.b:Rat)*d.2){t:Rat}(ht:0≤t):Inn ls (bO q t d):=by
 intro m hm;have h1:=hq m hm;have h2:=Rat.mul_nonneg ht (H m hm);rw [jU];grind
theorem ol {q:Pq}(v:Pq):∀{ls:List Li},Inn ls q→∃t0:Rat,0<t0∧∀t,0<t→t≤t0→Inn ls (bO q t v)
 | [],_=>⟨1,by grind,fun _ _ _ l hl=>by cases hl⟩
 |l::ls,H=>by
  obtain⟨t1,h1,h2⟩:=ol v (ls:=ls) fun m hm=>H m (Mc hm)
  have hV:=H l (List.mem_cons_self ..);generalize hK:(l.a:Rat)*v.1+(l.b:Rat)*v.2=K;by_cases kp:0≤K
  ·refine⟨t1,h1,fun t p1 p2 m hm=>?_⟩;rcases List.mem_cons.1 hm with rfl|hm
   ·rw [jU,hK];have:=Rat.mul_nonneg (Rat.le_of_lt p1) kp;grind
   ·exact h2 t p1 p2 m hm
  ·obtain⟨n1,n2⟩:=tH hV (show K<0 by grind);by_cases c:t1≤-(a8 l q/K)/2
   ·refine⟨t1,h1,fun t p1 p2 m hm=>?_⟩;rcases List.mem_cons.1 hm with rfl|hm
    ·rw [jU,hK];exact n2 t p1 (Rat.le_trans p2 c)
    ·exact h2 t p1 p2 m hm
   ·refine⟨-(a8 l q/K)/2,by grind,fun t p1 p2 m hm=>?_⟩;rcases List.mem_cons.1 hm with rfl|hm
    ·rw [jU,hK];exact n2 t p1 p2
    ·exact h2 t p1 (by grind) m hm
theorem cA (m:Li) (q:Pq):a8 m.neg q = - a8 m q:=by
 unfold a8 Li.neg;simp only [Rat.intCast_neg];grind
theorem pc:∀(ms:List Li){ls:List Li}{q:Pq},(∀m∈ms,m.ok)→Inn ls q→∃r,Inn ls r∧∀m∈ms,a8 m r≠0
 | [],_,q,_,h=>⟨q,h,fun _ hm=>by cases hm⟩
 |m::ms,ls,q,hms,h=>by
  have step:∃r,Inn ls r∧a8 m r≠0:=by
   by_cases e:a8 m q=0
   ·obtain⟨t,t1,t2⟩:=ol ((m.a:Rat),(m.b:Rat)) h;refine⟨_,t2 t t1 (Rat.le_refl),?_⟩;rw [jU,e]
    have ab:(m.a:Rat)≠0∨(m.b:Rat)≠0:=by
     rcases(hms m (List.mem_cons_self ..)).2 with r|r
     ·exact Or.inl fun e=>r (Rat.intCast_eq_zero_iff.1 e)
     ·exact Or.inr fun e=>r (Rat.intCast_eq_zero_iff.1 e)
    have:=Rat.mul_pos t1 (uG ab);simp only;grind
   ·exact⟨q,h,e⟩
  obtain⟨r,r1,r2⟩:=step;by_cases p:0<a8 m r
  ·obtain⟨z,z1,z2⟩:=pc ms (ls:=m::ls) (q:=r) (fun x hx=>hms x (Mc hx)) (fun x hx=>by
    rcases List.mem_cons.1 hx with rfl|hx
    ·exact p
    ·exact r1 x hx)
   refine⟨z,fun x hx=>z1 x (Mc hx),fun x hx=>?_⟩;rcases List.mem_cons.1 hx with rfl|hx
   ·have:=z1 x (List.mem_cons_self ..);grind
   ·exact z2 x hx
  ·obtain⟨z,z1,z2⟩:=pc ms (ls:=m.neg::ls) (q:=r) (fun x hx=>hms x (Mc hx)) (fun x hx=>by
    rcases List.mem_cons.1 hx with rfl|hx
    ·rw [cA];grind
    ·exact r1 x hx)
   refine⟨z,fun x hx=>z1 x (Mc hx),fun x hx=>?_⟩;rcases List.mem_cons.1 hx with rfl|hx
   ·have:=z1 _ (List.mem_cons_self ..);rw [cA]at this;grind
   ·exact z2 x hx
theorem Ao {q d:Pq}:∀{ms:List Li},(∀m∈ms,a8 m q≠0)→∃N:Nat,∀n:Nat,N≤n→∀m∈ms,a8 m (bO q (n:Rat) d)≠0
 | [],_=>⟨0,fun _ _ _ h=>by cases h⟩
 |m::ms,H=>by
  obtain⟨N1,h1⟩:=Ao (d:=d) (ms:=ms) fun x hx=>H x (Mc hx)
  have hv:=H m (List.mem_cons_self ..);generalize hs:(m.a:Rat)*d.1+(m.b:Rat)*d.2=s;obtain⟨N2,h2⟩:=rF (-(a8 m q)/s);refine⟨max N1 (N2+1),fun n hn x hx=>?_⟩;rcases List.mem_cons.1 hx with rfl|hx
  ·rw [jU,hs];intro e;by_cases z:s=0
   ·rw [z]at e;grind
   ·have e1 : -(a8 x q)/s*s = -(a8 x q):=Rat.div_mul_cancel z;have e2:((n:Rat) - -(a8 x q)/s)*s=0:=by grind
    have h3:((N2+1:Nat):Rat)≤(n:Rat):=Rat.natCast_le_natCast.2 om;rw [Rat.natCast_add]at h3;rcases Rat.mul_eq_zero.1 e2 with r|r
    ·grind
    ·exact z r
  ·exact h1 n om x hx
def atT:Tr→Pq→Bool
 | .leaf i,_=>i
 | .node l a b,q=>if 0<a8 l q then atT a q else atT b q
def Off (L:List Li) (q:Pq):Prop:=∀l∈L,a8 l q≠0
theorem Fp (l:Li) (a b:Tr) (q:Pq):atT (rR l a b) q=if 0<a8 l q then atT a q else atT b q:=by
 cases a with
 |leaf i =>
  cases b with
  |leaf j =>
   show atT (if i=j then Tr.leaf i else Tr.node l (.leaf i) (.leaf j)) q=_
   by_cases e:i=j
   ·subst e;rw [if_pos rfl];simp [atT]
   ·rw [if_neg e];rfl
  |node m x y=>rfl
 |node m x y=>rfl
theorem jB {L:List Li}:∀{t:Tr}{I:Pq→Prop}{q:Pq},t.lin L→Off L q→I q→atT (gd t I) q=atT t q
 | .leaf _,_,_,_,_,_=>rfl
 | .node l a b,I,q,⟨h,ha,hb⟩,ho,hq=>by
  have hv:=ho l h;unfold gd;by_cases h1:Rgt I l
  ·rw [if_neg (fun k=>k h1)];by_cases h2:Lft I l
   ·rw [if_neg (fun k=>k h2),Fp,show atT (.node l a b) q=if 0<a8 l q then atT a q else atT b q from rfl];by_cases c:0<a8 l q
    ·rw [if_pos c,if_pos c];exact jB ha ho ⟨hq,c⟩
    ·rw [if_neg c,if_neg c];exact jB hb ho ⟨hq,by grind⟩
   ·rw [if_pos h2,jB hb ho hq,show atT (.node l a b) q=if 0<a8 l q then atT a q else atT b q from rfl,if_neg (fun c=>h2 ⟨q,hq,c⟩)]
  ·have c:0<a8 l q:=by
    have:¬a8 l q<0:=fun c=>h1 ⟨q,hq,c⟩
    grind
   rw [if_pos h1,jB ha ho hq,show atT (.node l a b) q=if 0<a8 l q then atT a q else atT b q from rfl,if_pos c]
theorem Kq:∃q,Inn [] q:=⟨(0,0),(fun l h=>by cases h)⟩
theorem lO (q:Pq):Inn [] q:=fun l h=>by cases h
theorem ET:∀l∈([]:List Li),l.ok:=fun l h=>by cases h
theorem r8 {t:Tr}(h:t.lok):cG t []=gd t (Inn []):=kK h ET Kq
theorem ke {L:List Li}(hL:∀l∈L,l.ok):∀{t:Tr},t.lin L→t.lok
 | .leaf _,_=>trivial
 | .node _ _ _,⟨h,a,b⟩=>⟨hL _ h,ke hL a,ke hL b⟩
theorem C0 {L:List Li}(hL:∀l∈L,l.ok){t:Tr}(h:t.lin L){q:Pq}(hq:Off L q):atT (cG t []) q=atT t q:=by
 rw [r8 (ke hL h)];exact jB h hq (lO q)
theorem yK {L:List Li}(hL:∀l∈L,l.ok){t:Tr}(h:t.lin L):(cG t []).lin L:=by
 rw [r8 (ke hL h)];exact iy h
theorem Tr.lin.all {L:List Li}{p:Li→Prop}(hp:∀l∈L,p l):∀{t:Tr},t.lin L→t.all p
 | .leaf _,_=>trivial
 | .node _ _ _,⟨h,a,b⟩=>⟨hp _ h,a.all hp,b.all hp⟩
theorem ni {α:Type}{p q:α→Bool}{x0:α}:∀{L:List α},(∀x∈L,p x=true→q x=true)→x0∈L→q x0=true→p x0=false→L.countP p+1≤L.countP q
 | [],_,h,_,_=>by cases h
 |x::L,h1,h,e1,e2=>by
  have g1:=fun y hy=>h1 y (Mc hy)
  rw [List.countP_cons,List.countP_cons];rcases List.mem_cons.1 h with rfl|hm
  ·have:=n9 g1;rw [e1,e2];simp only [if_true,Bool.false_eq_true,if_false];omega
  ·have ih:=ni g1 hm e1 e2;have:=h1 x Ms;cases hp:p x <;> cases hq:q x <;> simp_all <;> omega
open Classical in
noncomputable def Ie (L:List Li) (I:Pq→Prop):Nat:=L.countP fun l=>decide (If I l)
open Classical in
theorem tL {I J:Pq→Prop}(hI:Cvx I){L:List Li}{m:Li}(hm:m∈L) (h1:Lft I m) (h2:Rgt I m) (hJ:∀q,J q→I q∧a8 m q≠0):Ie L J+1≤Ie L I:=by
 refine ni (x0:=m) (fun l _ h=>?_) hm ?_ ?_
 ·obtain⟨q,q1,q2⟩:=of_decide_eq_true h;exact decide_eq_true ⟨q,(hJ q q1).1,q2⟩
 ·obtain⟨p,p1,p2⟩:=h1;obtain⟨q,q1,q2⟩:=h2;obtain⟨r,r1,r2,_⟩:=vZ hI p1 q1 p2 q2;exact decide_eq_true ⟨r,r1,r2⟩
 ·refine decide_eq_false ?_;rintro ⟨q,q1,q2⟩;exact(hJ q q1).2 q2
theorem pz {L:List Li}:∀{t:Tr}{I:Pq→Prop},Cvx I→Prp t I→t.lin L→fj t≤Ie L I
 | .leaf _,_,_,_,_=>Nat.zero_le _
 | .node l a b,I,hI,⟨h1,h2,h3,h4⟩,⟨k1,k2,k3⟩=>by
  have a1:=pz (hI.left l) h3 k2;have a2:=pz (hI.right l) h4 k3;have m1:=tL (J:=fun q=>I q∧0<a8 l q) hI k1 h1 h2 fun q h=>⟨h.1,by have:=h.2;grind⟩
  have m2:=tL (J:=fun q=>I q∧a8 l q<0) hI k1 h1 h2 fun q h=>⟨h.1,by have:=h.2;grind⟩
  simp only [fj];omega
def Gd (L:List Li) (t:Tr):Prop:=t.lin L∧Prp t (Inn [])
theorem Gd.dep {L:List Li}{t:Tr}(h:Gd L t):fj t≤L.length:=by
 refine Nat.le_trans (pz (qv []) h.2 h.1) ?_;unfold Ie;exact List.countP_le_length
theorem Gd.size {L:List Li}(hL:∀l∈L,l.ok){t:Tr}(h:Gd L t):iO t≤L.length*(1+L.length):=yu hL (qv []) h.2 h.1
theorem Gd.restr {L:List Li}(hL:∀l∈L,l.ok){t:Tr}(h:t.lin L):Gd L (cG t []):=⟨yK hL h,by rw [r8 (ke hL h)];exact iw⟩
theorem Ff {l:Li}(h:l.ok):Lft (Inn []) l∧Rgt (Inn []) l:=by
 obtain⟨p,hp⟩:=u5 h;have n0:=cC h;refine⟨⟨(p.1+1*l.a,p.2+1*l.b),lO _,?_⟩,⟨(p.1 + -1*l.a,p.2 + -1*l.b),lO _,?_⟩⟩
 ·rw [cl,hp];grind
 ·rw [cl,hp];grind
end Go.Ab
