/- Texts laid one behind the other: PMrg, RowD. -/
import Derived.Test.YtnhepimaijhhaaaGreatDoorB23
set_option linter.all false
namespace Go.Ab
open Go.Proofs
variable [Base]
theorem i4:∀t:Tr,Pu Tryz.prog 66 [bt t] (bt (aN t))
 | .leaf i=>by
  have c:=jp (!i);have d1:=cC i;show Pu _ _ _ (bt (.leaf (!i)))
  simp only [bt,fg]at d1⊢;refine Pi Tryz.func66 fun C=>?_
  exact Y2 d1 c
 | .node l a b=>by
  have c1:=i4 a;have c2:=i4 b;have c3:=rz l (aN a) (aN b);have d1:=cR l a b;show Pu _ _ _ (bt (.node l (aN a) (aN b)))
  generalize aN a=na at *;generalize aN b=nb at *;simp only [bt,i5]at d1 c3⊢;refine Pi Tryz.func66 fun C=>?_
  repeat(first|(refine A1 ⟨?_⟩;intros)|refine W4 d1 ⟨?_⟩|refine W4 c1 ⟨?_⟩|refine W4 c2 ⟨?_⟩|refine W4 c3 ⟨?_⟩)
  exact E1
theorem kt:∀t:Tr,aU t≤1000000→Pu Tryz.prog 54 [bt t] (lit (.int .i64 (aU t:Nat)))
 | .leaf i,_=>by
  have d1:=cC i;show Pu _ _ _ (lit (.int .i64 (0:Nat)))
  refine Pi Tryz.func54 fun C=>?_
  exact Y1 d1
 | .node l a b,h=>by
  simp only [aU]at h;have c1:=kt a om;have c2:=kt b om;have d1:=cR l a b;show Pu _ _ _ (lit (.int .i64 (1+max (aU a) (aU b):Nat)))
  generalize aU a=x at *;generalize aU b=y at *;simp only [bt,i5]at d1⊢;refine Pi Tryz.func54 fun C=>?_
  repeat(first|(refine A1 ⟨?_⟩;intros)|refine W4 d1 ⟨?_⟩|refine W4 c1 ⟨?_⟩|refine W4 c2 ⟨?_⟩)
  refine Wdo (lA rfl rfl (r:=((max x y:Nat):Int)) (by split <;> omega)) ?_;repeat(refine A1 ⟨?_⟩;intros)
  ((first|refine aS ?_|refine eV ?_);refine aC (RV.tmp rfl) (Le.int ?_))
  all_goals omega
theorem nM {L:Nat}(h1:1≤L) (hU:L≤500) (t:Tr) (h:t.all fun l=>l.le L) (hd:aU t≤100000):Pu Tryz.prog 55 [bt t] (bt (dR ak t [])):=by
 have c:=jR h1 hU t [] h (fun s hs=>by cases hs) (by simpa using hd);have c':=c.arg (l':=[bt t,lit (.slice none 0 0)]) ⟨Le.refl _,dJ,trivial⟩;clear c h hd;refine Pi Tryz.func55 fun C=>?_
 exact Y1 c'
theorem DU {L:Nat}(h1:1≤L) (hU:L≤500) (op:Int) (hop:1≤op∧op≤4) (i:Bool) (b:Tr) (c:PC) (hb:b.all fun l=>l.le L) (hc:∀s∈c,mO L s) (hd:c.length+aU b≤100000) :
  Pu Tryz.prog 158 [lit (.int .i64 op),lit (.bool i),bt b,pcs c] (bt (mI ak op i b c)):=by
 have d1:=jR h1 hU b c hb hc hd;have d2:=i4 (dR ak b c);have d3:=jp i;have d4:=jp false;unfold mI;generalize aN (dR ak b c)=nb at *;generalize dR ak b c=rb at *;clear hb hc hd;have ho:op=1∨op=2∨op=3∨op=4:=by omega
 rcases ho with rfl|rfl|rfl|rfl <;> cases i
 all_goals
  simp only [Int.reduceEq,true_and,false_and,and_true,and_false,or_false,false_or,or_true,true_or,or_self,if_true,if_false,Bool.false_eq_true,Bool.true_eq_false,reduceCtorEq];refine Pi Tryz.func158 fun C=>?_
  repeat(first|(refine A1 ⟨?_⟩;intros)|refine W4 d1 ⟨?_⟩|refine W4 d2 ⟨?_⟩|refine W4 d3 ⟨?_⟩|refine W4 d4 ⟨?_⟩)
  exact E1
theorem lH {L:Nat}(h1:1≤L) (hU:L≤500) (op:Int) (hop:1≤op∧op≤4) (b:Tr) (hb:b.all fun l=>l.le L):∀(t:Tr) (c:PC),(t.all fun l=>l.le L)→(∀s∈c,mO L s)→c.length+aU t+aU b≤100000→Pu Tryz.prog 120 [lit (.int .i64 op),bt t,bt b,pcs c] (bt (fp ak op t b c))
 | .leaf i,c,_,hc,hd=>by
  have d1:=cC i;have d2:=DU h1 hU op hop i b c hb hc (by simp only [aU]at hd;omega);show Pu _ _ _ (bt (mI ak op i b c))
  generalize mI ak op i b c=r at *;have en:bt (.leaf i)=pt (bc (.leaf i)):=rfl;rw [en,fg]at d1⊢;clear hc hd hb en;refine Pi Tryz.func120 fun C=>?_
  exact Y2 d1 d2
 | .node l x y,c,hall,hc,hd=>by
  have hd':c.length+(1+max (aU x) (aU y))+aU b≤100000:=hd;have d1:=cR l x y;have d2:=pY hc hall.1 h1 hU om;have hln:l.neg.le L:=⟨by show il (-l.a)≤L;rw [cw];exact hall.1.a,by show il (-l.b)≤L;rw [cw];exact hall.1.b,by show il (-l.c)≤L;rw [cw];exact hall.1.c⟩
  have d3:=lH h1 hU op hop b hb x c hall.2.1 hc om;have d4:=lH h1 hU op hop b hb y c hall.2.2 hc om;have n1:=fZ (ak l) c l;have n2:=fZ (ak l.neg) c l.neg;have d5:=lH h1 hU op hop b hb x (aG (ak l) c l).1 hall.2.1 (io hc hall.1 h1) om;have d6:=lH h1 hU op hop b hb y (aG (ak l.neg) c l.neg).1 hall.2.2 (io hc hln h1) om;have d7:=zt l (fp ak op x b (aG (ak l) c l).1) (fp ak op y b (aG (ak l.neg) c l.neg).1);unfold fp;clear hd hd' n1 n2 hc hall hln hb;generalize fp ak op x b c=ra at *;generalize fp ak op y b c=rb at *;generalize fp ak op x b (aG (ak l) c l).1=ra' at *;generalize fp ak op y b (aG (ak l.neg) c l.neg).1=rb' at *;generalize ez l ra' rb'=rj at *;generalize(aG (ak l) c l).1=c1 at *;generalize(aG (ak l.neg) c l.neg).1=c2 at *;generalize hb1:(aG (ak l) c l).2=b1 at *;generalize hb2:(aG (ak l.neg) c l.neg).2=b2 at *;clear hb1 hb2;have en:bt (.node l x y)=pt (bc (.node l x y)):=rfl;rw [en,i5]at d1⊢;clear en;cases b2
  ·rw [if_pos rfl];refine Pi Tryz.func120 fun C=>?_
   exact Y3 d1 d2 d3
  ·rw [if_neg (by decide)];cases b1
   ·rw [if_pos rfl];refine Pi Tryz.func120 fun C=>?_
    exact Y3 d1 d2 d4
   ·rw [if_neg (by decide)];refine Pi Tryz.func120 fun C=>?_
    repeat(first|(refine A1 ⟨?_⟩;intros)|refine W4 d1 ⟨?_⟩|refine W4 d2 ⟨?_⟩|refine W4 d5 ⟨?_⟩|refine W4 d6 ⟨?_⟩|refine W4 d7 ⟨?_⟩)
    exact E1
section
variable {P:Program}{C:Ctx}{n:Nat}{F:Fr}{ops:Array Oper}{rs:List Nat}{Hc:LH}{K:Fr→LH→Prop}{s i d:Nat}{r:List NO'}{E:LH}{ty:TypeId}{pos:String}{aft:Array Edge}
theorem MD {T e:TypeId}{sz by_:Nat}{z:List SV}{g:Bool} [hS:TSl P T e] [hT:TY P e sz by_ z g]{x y:Operand}{n0 k0:Nat}{cs ds:List SV}{so:SV}{Hs Er:LH}
  (hown:Own e sz n0 cs so Hs) (hs:Tk E Hs Er) (hl:n0+k0≤1000000000) (k:∀s' H',Own e sz (n0+k0) (cs++ds) s' H'→Mz P C n ops rs Hc K (s+1) r (upd F d s') (H'++Er))
  (hx:ev F x=so:=by exact rfl) (hy:ev F y=sl ds k0:=by exact rfl) (hds:ds.length=k0*sz:=by exact rfl) (hpos:0<k0*sz:=by decide) (hby:by_≤10000:=by decide)
  (ho:ops[i]? = some ⟨some d, .call ⟨.builtin .append,#[x,y],#[T,T]⟩,ty,pos,aft,none⟩:=by exact rfl) (hr:rs[s]? = some i:=by exact rfl) (hd:Nat.blt d n=true:=by exact rfl) :
  Mz P C n ops rs Hc K s ((i,⟨some d, .call ⟨.builtin .append,#[x,y],#[T,T]⟩,ty,pos,aft,none⟩)::r) F E:=by
 refine .row (Post:=fun sv E'=>∃H',Own e sz (n0+k0) (cs++ds) sv H'∧E'=H'++Er) hr (TZ.of ho rfl fun F1 hF1=>?_) fun sv E' hP=>?_
 ·have hx1:ev F1 x=so:=by rw [←hx];exact(cG (by simp [Op.operands,Call.operands]) hF1)
  have hy1:ev F1 y=sl ds k0:=by rw [←hy];exact(cG (by simp [Op.operands,Call.operands]) hF1)
  refine WPL.perm ((hs.perm.append_right Hc).trans (List.Perm.of_eq (List.append_assoc _ _ _))) ?_;exact .appOwnK hown hx1 hy1 (Spl.app _ _) hds hpos hl hby (fun s' H' hO=>WPL.nil ⟨s',⟨H'++Er,(List.append_assoc _ _ _).symm,H',hO,rfl⟩,rfl⟩) hd
 ·obtain⟨H',hR,rfl⟩:=hP;exact k sv H' hR
end
abbrev iT:TypeId:=3
abbrev ptT:TypeId:=71
theorem EB (b:Nat) (m:Nat) (hm:m≤100000000) (t:Tr):PuH Tryz.prog 160 [bt t,lit (.pointer (some ⟨b,0,none⟩))] [(b,iT,[lit (.int .i64 (m:Nat))])] (fun r H'=>r=Ab.tup []∧H'=[(b,iT,[lit (.int .i64 ((m+if cK t=0 then 0 else 1:Nat):Int))])]) noX:=by
 cases t with
 |leaf i =>
  have d1:=cC i;refine PuH.intro Tryz.func160 rfl kr fun C hC=>?_
  repeat(first|(refine A1 ⟨?_⟩;intros)|refine W4 d1 ⟨?_⟩)
  exact GT _ _ Lg Sr ⟨rfl,rfl⟩
 |node l x y =>
  have d1:=cR l x y;have e:(if cK (.node l x y)=0 then 0 else 1)=1:=if_neg (by simp only [cK];omega);rw [e];refine PuH.intro Tryz.func160 rfl kr fun C hC=>?_
  repeat(first|(refine A1 ⟨?_⟩;intros)|refine W4 d1 ⟨?_⟩)
  exact GT _ _ Lg Sr ⟨rfl,by rw [Int.natCast_add];rfl⟩
section
variable {P:Program}{C:Ctx}{n:Nat}{F:Fr}{H:LH}{ops:Array Oper}{K:Fr→LH→Prop}{rest:List Oper}{ty:TypeId}{pos:String}{aft:Array Edge}
theorem WPL.appAllS {T e:TypeId}{sz by_:Nat}{z:List SV}{g:Bool} [hS:TSl P T e] [hT:TY P e sz by_ z g]{d:Nat}{x y:Operand}{b0 k0:Nat}{ds:List SV}
  (hx:ev F x=lit (.slice (some ⟨b0,0,none⟩) 0 0)) (hy:ev F y=sl ds k0) (hds:ds.length=k0*sz) (hpos:0<k0*sz) (hl:k0≤1000000000) (hby:by_≤10000)
  (k:∀s' H',Own e sz k0 ds s' H'→WPL P C n ops rest K (upd F d s') (H'++H)) (hd:Nat.blt d n=true:=by exact rfl) :
  WPL P C n ops (⟨some d, .call ⟨.builtin .append,#[x,y],#[T,T]⟩,ty,pos,aft,none⟩::rest) K F H:=by
 unfold WPL;intro a w hs Q hq;have hk0:0<k0:=Nat.pos_of_ne_zero fun e=>by rw [e,Nat.zero_mul]at hpos;omega
 refine wpList_plain rfl fun K' hK'=>?_
 obtain⟨hdef,hn,m0,h10,h20,h30,h40,h50⟩:=id hs
 have hp0:∀x,(ev F x).p m0 (a.eval x):=fun x=>by
  cases x with
  |tmp t=>exact h50 t
  |const v=>unfold ev lit;rfl
  |global g=>unfold ev lit;rfl
  |func f=>unfold ev lit;rfl
 have e0:=hp0 x;rw [hx,ae]at e0;have e1:=hp0 y;rw [hy]at e1;obtain⟨ad2,c2,e1,hc1,hc2,hcb⟩:=cN e1;obtain⟨b2,off2,rfl,arr2,T2,fz2,hbm2,hall2⟩:=hcb.resolve_left (fun h=>by rw [h]at hds;simp at hds;omega);have hb2:=h10 _ _ hbm2;rw [hds]at hall2;generalize hl2:(arr2.toList.drop off2).take (k0*sz)=l2 at hall2;obtain⟨i,v,hi,hsz,hbyt,hz,hzl,hfl,hvs⟩:=hT.run_bytes;have hlen2:=hall2.length
 have hys:∀j u,l2[j]? = some u→w.cell? ((⟨b2,off2,none⟩:Addr).add j)=some u:=fun j u hj=>by
  rw [aM,cF w b2 _ arr2 _ _ hb2];rw [←hl2,List.getElem?_take]at hj;split at hj
  ·rw [List.getElem?_drop]at hj;simpa using hj
  ·cases hj
 have hexec:execOp a.eval (⟨some d, .call ⟨.builtin .append,#[x,y],#[T,T]⟩,ty,pos,aft,none⟩:Oper)=(do let v←Builtin.append_ #[T,T] ty #[a.eval x,a.eval y];pure (.value v)):=by
  simp [execOp,resolve,invoke,builtin]
 have hmul:∀q,q≤1000000001→q*by_≤140737488355328:=fun q hq=>Nat.le_trans (Nat.mul_le_mul hq hby) (by decide)
 have get2:∀m,bw m w→(ev F y).p m (a.eval y)→av m ds l2:=fun m h1 h2=>by
  rw [hy,e1]at h2;obtain⟨ad3,c3,e3,_,_,hcb3⟩:=cN h2;obtain⟨b3,off3,rfl,arr3,T3,fz3,hbm3,hall3⟩:=hcb3.resolve_left (fun h=>by rw [h]at hds;simp at hds;omega);have hb3:=h1 _ _ hbm3;simp only [Value.slice.injEq,Option.some.injEq,Addr.mk.injEq,and_true,true_and]at e3;obtain⟨⟨rfl,rfl⟩,_⟩:=e3;rw [hb2]at hb3;simp only [Option.some.injEq,Obj.cells.injEq]at hb3;obtain⟨rfl,_⟩:=hb3;rw [hds,hl2]at hall3;exact hall3
 unfold Oper.wp;rw [hexec,e1,e0];have hrun:=run_append_grow (P:=P) w T ty e i v hS.h hi hz ⟨b0,0,none⟩ 0 0 [] (by simp) (by intro j u hj;simp at hj) ⟨b2,off2,none⟩ k0 c2 l2 (by rw [hlen2,hsz,hds]) hys om om (growslice_fits om (by rw [hbyt];exact hmul _ om));simp only [Sem.run_bind,hrun,Result.andThen_ok,Sem.run_pure];have hge:=grownCap_ge w (0+k0) 0 e;have hle:=grownCap_le_maxLen w (0+k0) 0 e (by simp only [maxLen];omega)
 have h:=k (lit (.slice (some ⟨w.heap.size,0,none⟩) (0+k0) (grownCap w (0+k0) 0 e))) [(w.heap.size,e,ds++List.replicate (grownCap w (0+k0) 0 e*sz-k0*sz) top)]
  ⟨hds, .inr ⟨w.heap.size,grownCap w (0+k0) 0 e,om,hle,by rw [Nat.zero_add],rfl⟩⟩
 unfold WPL at h;refine hK' _ _ (h _ _ (St.pushD (Nat.blt_eq.mp hd) hs fun m h1 h2 h3=>?_) Q hq);simp only [Array.toList_append,List.toList_toArray,List.nil_append];refine(get2 m h1 (h3 y)).append (av.topL ?_ (dQ hfl));rw [Array.length_toList,size_zeroCells,hvs,Nat.zero_add,Nat.sub_mul]
end
end Go.Ab
