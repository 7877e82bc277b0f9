/- Texts laid one behind the other: PMrg, PEach, Fce, Opn. -/
import Derived.Test.YtncbhpffccggcaaGreatDoorB24
set_option linter.all false
set_option maxHeartbeats 16000000
namespace Go.Ab
open Go.Proofs
variable [Base]
theorem gw:∀t:Tr,Pu Tryz.prog 53 [bt t] (bt (cN t))
 | .leaf i=>by
  have c:=iP (!i);have d1:=bP i;show Pu _ _ _ (bt (.leaf (!i)))
  simp only [bt,eB]at d1⊢;refine Pi Tryz.func53 fun C=>?_
  exact Y2 d1 c
 | .node l a b=>by
  have c1:=gw a;have c2:=gw b;have c3:=qp l (cN a) (cN b);have d1:=cE l a b;show Pu _ _ _ (bt (.node l (cN a) (cN b)))
  generalize cN a=na at *;generalize cN b=nb at *;simp only [bt,gA]at d1 c3⊢;refine Pi Tryz.func53 fun C=>?_
  repeat(first|(refine A1 ⟨?_⟩;intros)|refine W4 d1 ⟨?_⟩|refine W4 c1 ⟨?_⟩|refine W4 c2 ⟨?_⟩|refine W4 c3 ⟨?_⟩)
  exact E1
theorem jH:∀t:Tr,br t≤1000000→Pu Tryz.prog 50 [bt t] (lit (.int .i64 (br t:Nat)))
 | .leaf i,_=>by
  have d1:=bP i;show Pu _ _ _ (lit (.int .i64 (0:Nat)))
  refine Pi Tryz.func50 fun C=>?_
  exact Y1 d1
 | .node l a b,h=>by
  simp only [br]at h;have c1:=jH a om;have c2:=jH b om;have d1:=cE l a b;show Pu _ _ _ (lit (.int .i64 (1+max (br a) (br b):Nat)))
  generalize br a=x at *;generalize br b=y at *;simp only [bt,gA]at d1⊢;refine Pi Tryz.func50 fun C=>?_
  repeat(first|(refine A1 ⟨?_⟩;intros)|refine W4 d1 ⟨?_⟩|refine W4 c1 ⟨?_⟩|refine W4 c2 ⟨?_⟩)
  refine Wdo (uX rfl rfl (r:=((max x y:Nat):Int)) (by split <;> omega)) ?_;repeat(refine A1 ⟨?_⟩;intros)
  ((first|refine aS ?_|refine eI ?_);refine aF (RV.tmp rfl) (Le.int ?_))
  all_goals omega
theorem mC {L:Nat}(h1:1≤L) (hU:L≤500) (t:Tr) (h:t.all fun l=>l.le L) (hd:br t≤100000):Pu Tryz.prog 51 [bt t] (bt (dF aj t [])):=by
 have c:=jk h1 hU t [] h (fun s hs=>by cases hs) (by simpa using hd);have c':=c.arg (l':=[bt t,lit (.slice none 0 0)]) ⟨Le.refl _,dM,trivial⟩;clear c h hd;refine Pi Tryz.func51 fun C=>?_
 exact Y1 c'
theorem CL {L:Nat}(h1:1≤L) (hU:L≤500) (op:Int) (hop:1≤op∧op≤4) (i:Bool) (b:Tr) (c:PC) (hb:b.all fun l=>l.le L) (hc:∀s∈c,lS L s) (hd:c.length+br b≤100000) :
  Pu Tryz.prog 127 [lit (.int .i64 op),lit (.bool i),bt b,pcs c] (bt (lM aj op i b c)):=by
 have d1:=jk h1 hU b c hb hc hd;have d2:=gw (dF aj b c);have d3:=iP i;have d4:=iP false;unfold lM;generalize cN (dF aj b c)=nb at *;generalize dF aj b c=rb at *;clear hb hc hd;have ho:op=1∨op=2∨op=3∨op=4:=by omega
 rcases ho with rfl|rfl|rfl|rfl <;> cases i
 all_goals
  simp only [Int.reduceEq,true_and,false_and,and_true,and_false,or_false,false_or,or_true,true_or,or_self,if_true,if_false,Bool.false_eq_true,Bool.true_eq_false,reduceCtorEq];refine Pi Tryz.func127 fun C=>?_
  repeat(first|(refine A1 ⟨?_⟩;intros)|refine W4 d1 ⟨?_⟩|refine W4 d2 ⟨?_⟩|refine W4 d3 ⟨?_⟩|refine W4 d4 ⟨?_⟩)
  exact E1
theorem kQ {L:Nat}(h1:1≤L) (hU:L≤500) (op:Int) (hop:1≤op∧op≤4) (b:Tr) (hb:b.all fun l=>l.le L):∀(t:Tr) (c:PC),(t.all fun l=>l.le L)→(∀s∈c,lS L s)→c.length+br t+br b≤100000→Pu Tryz.prog 86 [lit (.int .i64 op),bt t,bt b,pcs c] (bt (eU aj op t b c))
 | .leaf i,c,_,hc,hd=>by
  have d1:=bP i;have d2:=CL h1 hU op hop i b c hb hc (by simp only [br]at hd;omega);show Pu _ _ _ (bt (lM aj op i b c))
  generalize lM aj op i b c=r at *;have en:bt (.leaf i)=pt (bc (.leaf i)):=rfl;rw [en,eB]at d1⊢;clear hc hd hb en;refine Pi Tryz.func86 fun C=>?_
  exact Y2 d1 d2
 | .node l x y,c,hall,hc,hd=>by
  have hd':c.length+(1+max (br x) (br y))+br b≤100000:=hd;have d1:=cE l x y;have d2:=oR hc hall.1 h1 hU om;have hln:l.neg.le L:=⟨by show il (-l.a)≤L;rw [cj];exact hall.1.a,by show il (-l.b)≤L;rw [cj];exact hall.1.b,by show il (-l.c)≤L;rw [cj];exact hall.1.c⟩
  have d3:=kQ h1 hU op hop b hb x c hall.2.1 hc om;have d4:=kQ h1 hU op hop b hb y c hall.2.2 hc om;have n1:=fB (aj l) c l;have n2:=fB (aj l.neg) c l.neg;have d5:=kQ h1 hU op hop b hb x (aA (aj l) c l).1 hall.2.1 (gK hc hall.1 h1) om;have d6:=kQ h1 hU op hop b hb y (aA (aj l.neg) c l.neg).1 hall.2.2 (gK hc hln h1) om;have d7:=y9 l (eU aj op x b (aA (aj l) c l).1) (eU aj op y b (aA (aj l.neg) c l.neg).1);unfold eU;clear hd hd' n1 n2 hc hall hln hb;generalize eU aj op x b c=ra at *;generalize eU aj op y b c=rb at *;generalize eU aj op x b (aA (aj l) c l).1=ra' at *;generalize eU aj op y b (aA (aj l.neg) c l.neg).1=rb' at *;generalize fQ l ra' rb'=rj at *;generalize(aA (aj l) c l).1=c1 at *;generalize(aA (aj l.neg) c l.neg).1=c2 at *;generalize hb1:(aA (aj l) c l).2=b1 at *;generalize hb2:(aA (aj l.neg) c l.neg).2=b2 at *;clear hb1 hb2;have en:bt (.node l x y)=pt (bc (.node l x y)):=rfl;rw [en,gA]at d1⊢;clear en;cases b2
  ·rw [if_pos rfl];refine Pi Tryz.func86 fun C=>?_
   exact Y3 d1 d2 d3
  ·rw [if_neg (by decide)];cases b1
   ·rw [if_pos rfl];refine Pi Tryz.func86 fun C=>?_
    exact Y3 d1 d2 d4
   ·rw [if_neg (by decide)];refine Pi Tryz.func86 fun C=>?_
    repeat(first|(refine A1 ⟨?_⟩;intros)|refine W4 d1 ⟨?_⟩|refine W4 d2 ⟨?_⟩|refine W4 d5 ⟨?_⟩|refine W4 d6 ⟨?_⟩|refine W4 d7 ⟨?_⟩)
    exact E1
section
variable {P:Program}{C:Ctx}{n:Nat}{F:Fr}{ops:Array Oper}{rs:List Nat}{Hc:LH}{K:Fr→LH→Prop}{s i d:Nat}{r:List NO'}{E:LH}{ty:TypeId}{pos:String}{aft:Array Edge}
theorem KL {T e:TypeId}{sz by_:Nat}{z:List SV}{g:Bool} [hS:TSl P T e] [hT:TY P e sz by_ z g]{x y:Operand}{n0 k0:Nat}{cs ds:List SV}{so:SV}{Hs Er:LH}
  (hown:Own e sz n0 cs so Hs) (hs:Tk E Hs Er) (hl:n0+k0≤1000000000) (k:∀s' H',Own e sz (n0+k0) (cs++ds) s' H'→Mz P C n ops rs Hc K (s+1) r (upd F d s') (H'++Er))
  (hx:ev F x=so:=by exact rfl) (hy:ev F y=sl ds k0:=by exact rfl) (hds:ds.length=k0*sz:=by exact rfl) (hpos:0<k0*sz:=by decide) (hby:by_≤10000:=by decide)
  (ho:ops[i]? = some ⟨some d, .call ⟨.builtin .append,#[x,y],#[T,T]⟩,ty,pos,aft,none⟩:=by exact rfl) (hr:rs[s]? = some i:=by exact rfl) (hd:Nat.blt d n=true:=by exact rfl) :
  Mz P C n ops rs Hc K s ((i,⟨some d, .call ⟨.builtin .append,#[x,y],#[T,T]⟩,ty,pos,aft,none⟩)::r) F E:=by
 refine .row (Post:=fun sv E'=>∃H',Own e sz (n0+k0) (cs++ds) sv H'∧E'=H'++Er) hr (TZ.of ho rfl fun F1 hF1=>?_) fun sv E' hP=>?_
 ·have hx1:ev F1 x=so:=by rw [←hx];exact(cw (by simp [Op.operands,Call.operands]) hF1)
  have hy1:ev F1 y=sl ds k0:=by rw [←hy];exact(cw (by simp [Op.operands,Call.operands]) hF1)
  refine WPL.perm ((hs.perm.append_right Hc).trans (List.Perm.of_eq (List.append_assoc _ _ _))) ?_;exact .appOwnK hown hx1 hy1 (Spl.app _ _) hds hpos hl hby (fun s' H' hO=>WPL.nil ⟨s',⟨H'++Er,(List.append_assoc _ _ _).symm,H',hO,rfl⟩,rfl⟩) hd
 ·obtain⟨H',hR,rfl⟩:=hP;exact k sv H' hR
end
abbrev iT:TypeId:=3
abbrev ptT:TypeId:=62
theorem Dw (b:Nat) (m:Nat) (hm:m≤100000000) (t:Tr):PuH Tryz.prog 129 [bt t,lit (.pointer (some ⟨b,0,none⟩))] [(b,iT,[lit (.int .i64 (m:Nat))])] (fun r H'=>r=Ab.tup []∧H'=[(b,iT,[lit (.int .i64 ((m+if bw t=0 then 0 else 1:Nat):Int))])]) noX:=by
 cases t with
 |leaf i =>
  have d1:=bP i;refine PuH.intro Tryz.func129 rfl kr fun C hC=>?_
  repeat(first|(refine A1 ⟨?_⟩;intros)|refine W4 d1 ⟨?_⟩)
  exact Fq _ _ Jy Sr ⟨rfl,rfl⟩
 |node l x y =>
  have d1:=cE l x y;have e:(if bw (.node l x y)=0 then 0 else 1)=1:=if_neg (by simp only [bw];omega);rw [e];refine PuH.intro Tryz.func129 rfl kr fun C hC=>?_
  repeat(first|(refine A1 ⟨?_⟩;intros)|refine W4 d1 ⟨?_⟩)
  exact Fq _ _ Jy Sr ⟨rfl,by rw [Int.natCast_add];rfl⟩
structure KW where
 st:List Tr
 cnt:Nat
 s:SV
 Hs:LH
def szL (l:List Tr):Nat:=(l.map bw).sum
def msL (l:List Tr):Nat:=(l.map fun t=>2*bw t+1).sum
theorem wd (l:List Tr) (x:Tr):szL (l++[x])=szL l+bw x:=by unfold szL;simp
theorem kP (l:List Tr) (x:Tr):msL (l++[x])=msL l+(2*bw x+1):=by unfold msL;simp
theorem AB:∀l:List Tr,l.length≤msL l
 | []=>Nat.le_refl _
 |x::l=>by
  have:=AB l;unfold msL at *;simp only [List.map_cons,List.sum_cons,List.length_cons];omega
theorem I5 (b:Nat) (m:Nat) (t:Tr) (hm:m+bw t≤100000000):PuH Tryz.prog 128 [bt t,fnv 129 [] [lit (.pointer (some ⟨b,0,none⟩))]] [(b,iT,[lit (.int .i64 (m:Nat))])] (fun r H'=>r=Ab.tup []∧H'=[(b,iT,[lit (.int .i64 ((m+bw t:Nat):Int))])]) noX:=by
 refine PuH.intro Tryz.func128 rfl kr fun C hC=>?_
 repeat(refine A1 ⟨?_⟩;intros)
 rename_i b8
 refine WP.loopS (ι:=KW) (fun y=>Own ptT 1 y.st.length (y.st.map bt) y.s y.Hs∧y.cnt+szL y.st=m+bw t∧msL y.st≤2*bw t+1) (fun y=>msL y.st)
  (fun y=>fm [(1,fnv 129 [] [lit (.pointer (some ⟨b,0,none⟩))]),(4,y.s)]) (fun y=>y.Hs++[(b,iT,[lit (.int .i64 (y.cnt:Nat))])]) ⟨[t],m,lit (.slice (some ⟨b8,0,none⟩) 1 1),[(b8,ptT,[bt t])]⟩
  ⟨⟨rfl, .inr ⟨b8,1,Nat.le_refl _,by decide,rfl,rfl⟩⟩,by simp [szL],by simp [msL]⟩ lfA Sr ?_
 rintro ⟨st,cnt,s,Hs⟩ ⟨hown,hsz,hms⟩ K hK;simp only at hown hsz hms⊢;have hco:=hown.co;have hlen:=AB st;rcases List.eq_nil_or_concat st with rfl|⟨st',x,rfl⟩
 ·have hown0:=hown;simp only [szL,List.map_nil,List.sum_nil,Nat.add_zero]at hsz;subst hsz;simp only [List.length_nil]at hown0;clear hK;repeat(first|(refine A1 ⟨?_⟩;intros)|(refine Wo (au hown0 rfl) ?_)|(refine Wdo (au hown0 rfl) ?_)|(refine Wog (au hown0 rfl) ?_)|(refine cQ (au hown0 rfl) ?_))
  exact Fq _ _ Jy (List.sublist_append_right _ _) ⟨rfl,rfl⟩
 ·rw [List.concat_eq_append]at *;rw [wd]at hsz;rw [kP]at hms;have hl1:(st'++[x]).length=st'.length+1:=by simp
  rw [hl1]at hlen;have hlb:st'.length+1≤300000000:=by have e:=kP st' x;rw [e]at hlen;omega
  obtain⟨b1,c1,hnc,hcm,rfl,rfl⟩:=hown.blk (by rw [hl1];omega);have hil:((st'++[x]).map bt).length=(st'++[x]).length*1:=by rw [List.length_map,Nat.mul_one]
  obtain⟨hownr,hle⟩:=Own.cut (T:=ptT) (j:=st'.length) (b:=b1) hil hnc hcm (by rw [hl1];omega);have htk:((st'++[x]).map bt).take (st'.length*1)=st'.map bt:=by rw [Nat.mul_one,List.map_append,List.take_left' (by simp)]
  have hgt:((st'++[x]).map bt++List.replicate (c1*1-(st'++[x]).length*1) top)[st'.length]? = some (bt x):=by
   rw [List.getElem?_append_left (by simp),List.map_append,List.getElem?_append_right (by simp)];simp
  rw [htk]at hownr hle;have cf:=Dw b cnt om x;rw [hl1]at hnc hle hgt⊢;clear hown htk hil hlen;simp only [List.cons_append,List.nil_append];cases x with
  |leaf i =>
   have d1:=bP i;have hgo:=fun F' H'=>hK F' H' ⟨st',cnt,lit (.slice (some ⟨b1,0,none⟩) st'.length c1),_⟩ ⟨hownr,by simp only [bw]at hsz⊢;omega,by simp only;omega⟩ (by simp only;rw [kP];omega)
   rw [show(if bw (.leaf i)=0 then 0 else 1)=0 from rfl,Nat.add_zero]at cf;clear hK;repeat(refine A1 ⟨?_⟩;intros)
   rw [show(((st'.length+1:Nat):Int)-1)=((st'.length:Nat):Int) by omega];refine Wo (gG rfl mmA hgt) ?_;repeat(refine A1 ⟨?_⟩;intros)
   refine Wo (uV st'.length rfl rfl rfl om) ?_;refine WPL.lowB (.here _) hle ?_;repeat(refine A1 ⟨?_⟩;intros)
   refine WvT cf ?_;rintro _ _ ⟨rfl,rfl⟩;simp only [List.cons_append,List.nil_append];repeat(first|(refine A1 ⟨?_⟩;intros)|refine W4 d1 ⟨?_⟩)
   exact hgo _ _ lfA Sr
  |node l u v =>
   have d1:=cE l u v
   have hadd:∀s' H',Own ptT 1 (st'.length+2) (st'.map bt++[bt v,bt u]) s' H'→Own ptT 1 (st'++[v]++[u]).length ((st'++[v]++[u]).map bt) s' H':=fun s' H' h=>by
    rw [List.map_append,List.map_append,List.append_assoc];simpa using h
   have hgo:=fun s' H1 (h:Own ptT 1 (st'.length+2) (st'.map bt++[bt v,bt u]) s' H1) F' H'=>hK F' H' ⟨st'++[v]++[u],cnt+1,s',H1⟩ ⟨hadd s' H1 h,by simp only [bw,wd]at hsz⊢;omega,by simp only [bw,kP]at hms⊢;omega⟩ (by simp only [bw,kP];omega)
   rw [show(if bw (.node l u v)=0 then 0 else 1)=1 from if_neg (by simp only [bw];omega)]at cf;have en:bt (.node l u v)=pt (bc (.node l u v)):=rfl;rw [en,gA]at d1 cf hgt;clear hK hadd en;repeat(refine A1 ⟨?_⟩;intros)
   rw [show(((st'.length+1:Nat):Int)-1)=((st'.length:Nat):Int) by omega];refine Wo (gG rfl mmA hgt) ?_;repeat(refine A1 ⟨?_⟩;intros)
   refine Wo (uV st'.length rfl rfl rfl om) ?_;refine WPL.lowB (.here _) hle ?_;repeat(refine A1 ⟨?_⟩;intros)
   refine WvT cf ?_;rintro _ _ ⟨rfl,rfl⟩;simp only [List.cons_append,List.nil_append];repeat(first|(refine AS ⟨?_⟩;intros)|(refine O1 ⟨?_⟩;intros)|(refine Wcx (d1) ?_)|(refine eQ (d1) ?_))
   refine WdZ 11 [0,1,2,3,4,5,6,7,8,9,10] [10] [(b1,ptT,st'.map bt++List.replicate (c1*1-st'.length*1) top)] [(b,iT,[lit (.int .i64 ((cnt+1:Nat):Int))])] ?_;refine ZkD 10 ?_;repeat(first|(refine Wo (bA (r:=[(0,[bt v]),(1,[bt u])]) (cs:=[bt v,bt u]) (.cons (sv:=bt v) rfl inferInstance (.cons (sv:=bt u) rfl inferInstance .nil))) ?_)|(refine Wdo (bA (r:=[(0,[bt v]),(1,[bt u])]) (cs:=[bt v,bt u]) (.cons (sv:=bt v) rfl inferInstance (.cons (sv:=bt u) rfl inferInstance .nil))) ?_)|(refine A1 ⟨?_⟩;intros))
   refine j5 ?_;refine KL (k0:=2) (ds:=[bt v,bt u]) hownr (Tk.same _) om (fun s' H' hown'=>?_);refine ZkN ?_;have hco':=hown'.co;replace hgo:=hgo s' H' hown';clear hown';rw [List.append_nil];repeat(refine A1 ⟨?_⟩;intros)
   exact hgo _ _ lfA Sr
theorem FH (t:Tr) (h:bw t≤100000000):Pu Tryz.prog 87 [bt t] (lit (.int .i64 (bw t:Nat))):=by
 refine PuH.toPu ?_;refine PuH.intro Tryz.func87 rfl kr fun C hC=>?_
 repeat(refine A1 ⟨?_⟩;intros)
 rename_i b3;have c:=I5 b3 0 t om;rw [Nat.zero_add]at c;repeat(refine A1 ⟨?_⟩;intros)
 refine WfT c ?_;rintro _ _ ⟨rfl,rfl⟩;simp only [List.cons_append,List.nil_append];repeat(refine A1 ⟨?_⟩;intros)
 exact dI _ _ (aF (RV.tmp rfl) Lr) (List.nil_sublist _) rfl
def Cvx (I:Pq→Prop):Prop:=∀p q (s:Rat),I p→I q→0≤s→s≤1→I (q.1+s*(p.1-q.1),q.2+s*(p.2-q.2))
theorem Cvx.left {I:Pq→Prop}(h:Cvx I) (l:Li):Cvx fun q=>I q∧0<a6 l q:=fun p q s hp hq h0 h1=>by
 refine⟨h p q s hp.1 hq.1 h0 h1,?_⟩;rw [gV];have:=Rat.mul_nonneg h0 (Rat.le_of_lt hp.2);have:=Rat.mul_nonneg (show 0≤1-s by grind) (Rat.le_of_lt hq.2);have a:=hp.2;have b:=hq.2;by_cases e:s=0
 ·rw [e];grind
 ·have:=Rat.mul_pos (show 0<s by grind) a;grind
theorem Cvx.right {I:Pq→Prop}(h:Cvx I) (l:Li):Cvx fun q=>I q∧a6 l q<0:=fun p q s hp hq h0 h1=>by
 refine⟨h p q s hp.1 hq.1 h0 h1,?_⟩;rw [gV];have a:=hp.2;have b:=hq.2;have:=Rat.mul_nonneg (show 0≤1-s by grind) (show 0≤- a6 l q by grind);by_cases e:s=0
 ·rw [e];grind
 ·have:=Rat.mul_pos (show 0<s by grind) (show 0 < - a6 l p by grind);grind
theorem ql (c:List Li):Cvx (Inn c):=fun p q s hp hq h0 h1 l hl=>by
 rw [gV];have a:=hp l hl;have b:=hq l hl;have:=Rat.mul_nonneg (show 0≤1-s by grind) (Rat.le_of_lt b);by_cases e:s=0
 ·rw [e];grind
 ·have:=Rat.mul_pos (show 0<s by grind) a;grind
theorem vQ {I:Pq→Prop}(h:Cvx I){m:Li}{p q:Pq}(hp:I p) (hq:I q) (h1:0<a6 m p) (h2:a6 m q<0):∃r,I r∧a6 m r=0∧∀l,a6 l p=0→a6 l q=0→a6 l r=0:=by
 have hd:a6 m p-a6 m q≠0:=by grind
 have hd':0<a6 m p-a6 m q:=by grind
 have e : -a6 m q/(a6 m p-a6 m q)*(a6 m p-a6 m q) = -a6 m q:=Rat.div_mul_cancel hd
 have s0:0≤-a6 m q/(a6 m p-a6 m q):=by
  rw [Rat.div_def];exact Rat.mul_nonneg (by grind) (Rat.le_of_lt (Rat.inv_pos.2 hd'))
 have s1 : -a6 m q/(a6 m p-a6 m q)≤1:=by
  by_cases c : -a6 m q/(a6 m p-a6 m q)≤1
  ·exact c
  ·exfalso;have:=Rat.mul_pos (show 0 < -a6 m q/(a6 m p-a6 m q)-1 by grind) hd';grind
 generalize -a6 m q/(a6 m p-a6 m q)=s at *;refine⟨_,h p q s hp hq s0 s1,?_,fun l a b=>?_⟩
 ·rw [gV,e];grind
 ·rw [gV,a,b];grind
theorem Cp {l m:Li}(hl:l.ok) (hs:slp l m=0){p q:Pq}(hp:a6 l p=0) (hq:a6 l q=0):a6 m p=a6 m q:=by
 unfold a6 slp at *
 have h:(l.a:Rat)≠0∨(l.b:Rat)≠0:=by
  rcases hl.2 with r|r
  ·exact .inl fun e=>r (Rat.intCast_eq_zero_iff.1 e)
  ·exact .inr fun e=>r (Rat.intCast_eq_zero_iff.1 e)
 generalize(l.a:Rat)=a at *;generalize(l.b:Rat)=b at *;generalize(m.a:Rat)=c at *;generalize(m.b:Rat)=d at *;have e1:a*(p.1-q.1)+b*(p.2-q.2)=0:=by grind
 have:c*(p.1-q.1)+d*(p.2-q.2)=0:=by
  rcases h with h|h
  ·have:a*(c*(p.1-q.1)+d*(p.2-q.2))=0:=by grind
   rcases Rat.mul_eq_zero.1 this with e|e
   ·exact absurd e h
   ·exact e
  ·have:b*(c*(p.1-q.1)+d*(p.2-q.2))=0:=by grind
   rcases Rat.mul_eq_zero.1 this with e|e
   ·exact absurd e h
   ·exact e
 grind
def CC (I:Pq→Prop) (l k:Li):Prop:=∃q,I q∧a6 l q=0∧a6 k q=0∧slp l k≠0
def HI (I:Pq→Prop) (l:Li):Prop:=∃q,I q∧a6 l q=0
open Classical in
noncomputable def xV (L:List Li) (I:Pq→Prop) (l:Li):Nat:=L.countP fun k=>decide (CC I l k)
open Classical in
noncomputable def wI (L:List Li) (I:Pq→Prop) (l:Li):Nat:=if HI I l then 1+xV L I l else 0
noncomputable def np (L M:List Li) (I:Pq→Prop):Nat:=(M.map (wI L I)).sum
theorem mv {α:Type}{p r:α→Bool}:∀{L:List α},(∀x∈L,p x=true→r x=true)→L.countP p≤L.countP r
 | [],_=>by simp
 |x::L,h=>by
  have ih:=mv (L:=L) fun y hy=>h y (Mc hy)
  have:=h x Ms;rw [List.countP_cons,List.countP_cons];cases hp:p x <;> cases hr:r x <;> simp_all <;> omega
theorem pC {α:Type}{p q r:α→Bool}:∀{L:List α},(∀x∈L,p x=true→r x=true)→(∀x∈L,q x=true→r x=true)→(∀x∈L,p x=true→q x=true→False)→L.countP p+L.countP q≤L.countP r
 | [],_,_,_=>by simp
 |x::L,h1,h2,h3=>by
  have ih:=pC (L:=L) (fun y hy=>h1 y (Mc hy)) (fun y hy=>h2 y (Mc hy)) (fun y hy=>h3 y (Mc hy));have a1:=h1 x Ms;have a2:=h2 x Ms;have a3:=h3 x Ms;rw [List.countP_cons,List.countP_cons,List.countP_cons];cases hp:p x <;> cases hq:q x <;> cases hr:r x <;> simp_all <;> omega
theorem u9 {α:Type}{p q r:α→Bool}{x0:α}:∀{L:List α},(∀x∈L,p x=true→r x=true)→(∀x∈L,q x=true→r x=true)→(∀x∈L,p x=true→q x=true→False)→x0∈L→r x0=true→p x0=false→q x0=false→L.countP p+L.countP q+1≤L.countP r
 | [],_,_,_,h,_,_,_=>by cases h
 |x::L,h1,h2,h3,h,e1,e2,e3=>by
  have g1:=fun y hy=>h1 y (Mc hy)
  have g2:=fun y hy=>h2 y (Mc hy)
  have g3:=fun y hy=>h3 y (Mc hy)
  have a1:=h1 x Ms;have a2:=h2 x Ms;have a3:=h3 x Ms;rw [List.countP_cons,List.countP_cons,List.countP_cons];rcases List.mem_cons.1 h with rfl|hm
  ·have:=pC g1 g2 g3;rw [e1,e2,e3];simp only [if_true,Bool.false_eq_true,if_false];omega
  ·have ih:=u9 g1 g2 g3 hm e1 e2 e3;cases hp:p x <;> cases hq:q x <;> cases hr:r x <;> simp_all <;> omega
theorem s8 {I J:Pq→Prop}(h:∀q,J q→I q){l k:Li}(c:CC J l k):CC I l k:=by
 obtain⟨q,h1,h2⟩:=c;exact⟨q,h q h1,h2⟩
open Classical in
theorem zO {I J:Pq→Prop}(L:List Li) (h:∀q,J q→I q) (l:Li):wI L J l≤wI L I l:=by
 unfold wI;split
 ·rename_i c;obtain⟨q,h1,h2⟩:=c;rw [if_pos ⟨q,h q h1,h2⟩];have:xV L J l≤xV L I l:=mv fun x _ hx=>decide_eq_true (s8 h (of_decide_eq_true hx))
  omega
 ·omega
theorem Ib {I:Pq→Prop}{l k m:Li}(hl:l.ok) (a:CC (fun q=>I q∧0<a6 m q) l k) (b:CC (fun q=>I q∧a6 m q<0) l k):False:=by
 obtain⟨p,⟨_,p1⟩,p2,p3,p4⟩:=a;obtain⟨q,⟨_,q1⟩,q2,q3,q4⟩:=b
 have e:p.1=q.1∧p.2=q.2:=by
  unfold a6 slp at *
  have h:(l.a:Rat)≠0∨(l.b:Rat)≠0:=by
   rcases hl.2 with r|r
   ·exact .inl fun e=>r (Rat.intCast_eq_zero_iff.1 e)
   ·exact .inr fun e=>r (Rat.intCast_eq_zero_iff.1 e)
  generalize(l.a:Rat)=a at *;generalize(l.b:Rat)=b at *;generalize(k.a:Rat)=c at *;generalize(k.b:Rat)=d at *;have e1:a*(p.1-q.1)+b*(p.2-q.2)=0:=by grind
  have e2:c*(p.1-q.1)+d*(p.2-q.2)=0:=by grind
  have f1:(c*b-d*a)*(p.1-q.1)=0:=by grind
  have f2:(c*b-d*a)*(p.2-q.2)=0:=by grind
  constructor
  ·rcases Rat.mul_eq_zero.1 f1 with e|e
   ·exact absurd e p4
   ·grind
  ·rcases Rat.mul_eq_zero.1 f2 with e|e
   ·exact absurd e p4
   ·grind
 have:p=q:=Prod.ext e.1 e.2;rw [this]at p1;grind
open Classical in
theorem vX {I:Pq→Prop}(hI:Cvx I){L:List Li}{l m:Li}(hl:l.ok) (hm:m∈L):wI L (fun q=>I q∧0<a6 m q) l+wI L (fun q=>I q∧a6 m q<0) l≤wI L I l:=by
 by_cases c1:HI (fun q=>I q∧0<a6 m q) l
 ·by_cases c2:HI (fun q=>I q∧a6 m q<0) l
  ·obtain⟨p,⟨p0,p1⟩,p2⟩:=id c1;obtain⟨q,⟨q0,q1⟩,q2⟩:=id c2;obtain⟨r,r1,r2,r3⟩:=vQ hI p0 q0 p1 q1
   have hs:slp l m≠0:=fun e=>by
    have:=Cp hl e p2 q2;rw [this]at p1;grind
   have hx:CC I l m:=⟨r,r1,r3 l p2 q2,r2,hs⟩
   unfold wI;rw [if_pos c1,if_pos c2,if_pos ⟨r,r1,r3 l p2 q2⟩]
   have:xV L (fun q=>I q∧0<a6 m q) l+xV L (fun q=>I q∧a6 m q<0) l+1≤xV L I l:=by
    refine u9 (x0:=m) (fun x _ hx=>decide_eq_true (s8 (fun q h=>h.1) (of_decide_eq_true hx))) (fun x _ hx=>decide_eq_true (s8 (fun q h=>h.1) (of_decide_eq_true hx))) (fun x _ ha hb=>Ib hl (of_decide_eq_true ha) (of_decide_eq_true hb)) hm (decide_eq_true hx) (decide_eq_false ?_) (decide_eq_false ?_)
    ·rintro ⟨q,⟨_,h1⟩,_,h2,_⟩;rw [h2]at h1;exact absurd h1 (Rat.lt_irrefl)
    ·rintro ⟨q,⟨_,h1⟩,_,h2,_⟩;rw [h2]at h1;exact absurd h1 (Rat.lt_irrefl)
   omega
  ·have:=zO (I:=I) (J:=fun q=>I q∧0<a6 m q) L (fun q h=>h.1) l;have e:wI L (fun q=>I q∧a6 m q<0) l=0:=if_neg c2;omega
 ·have:=zO (I:=I) (J:=fun q=>I q∧a6 m q<0) L (fun q h=>h.1) l;have e:wI L (fun q=>I q∧0<a6 m q) l=0:=if_neg c1;omega
open Classical in
theorem G0 {I:Pq→Prop}(hI:Cvx I){L:List Li}{m:Li}(h1:Lft I m) (h2:Rgt I m):wI L (fun q=>I q∧0<a6 m q) m+wI L (fun q=>I q∧a6 m q<0) m+1≤wI L I m:=by
 obtain⟨p,p1,p2⟩:=h1;obtain⟨q,q1,q2⟩:=h2;obtain⟨r,r1,r2,_⟩:=vQ hI p1 q1 p2 q2
 have e1:wI L (fun q=>I q∧0<a6 m q) m=0:=if_neg (by
  rintro ⟨q,⟨_,h1⟩,h2⟩;rw [h2]at h1;exact absurd h1 (Rat.lt_irrefl))
 have e2:wI L (fun q=>I q∧a6 m q<0) m=0:=if_neg (by
  rintro ⟨q,⟨_,h1⟩,h2⟩;rw [h2]at h1;exact absurd h1 (Rat.lt_irrefl))
 have e3:wI L I m=1+xV L I m:=if_pos ⟨r,r1,r2⟩;omega
theorem re {I:Pq→Prop}(hI:Cvx I){L:List Li}{m:Li}(hm:m∈L):∀{M:List Li},(∀l∈M,l.ok)→np L M (fun q=>I q∧0<a6 m q)+np L M (fun q=>I q∧a6 m q<0)≤np L M I
 | [],_=>by simp [np]
 |l::M,hM=>by
  have ih:=re hI hm (M:=M) fun x hx=>hM x (Mc hx)
  have:=vX hI (hM l Ms) hm;simp only [np,List.map_cons,List.sum_cons]at *;omega
theorem tm {I:Pq→Prop}(hI:Cvx I){L:List Li}{m:Li}(hm:m∈L) (h1:Lft I m) (h2:Rgt I m):∀{M:List Li},(∀l∈M,l.ok)→m∈M→np L M (fun q=>I q∧0<a6 m q)+np L M (fun q=>I q∧a6 m q<0)+1≤np L M I
 | [],_,h=>by cases h
 |l::M,hM,h=>by
  have g:=fun x hx=>hM x (Mc hx)
  rcases List.mem_cons.1 h with rfl|h
  ·have ih:=re hI hm (M:=M) g;have:=G0 (L:=L) hI h1 h2;simp only [np,List.map_cons,List.sum_cons]at *;omega
  ·have ih:=tm hI hm h1 h2 g h;have:=vX hI (hM l Ms) hm;simp only [np,List.map_cons,List.sum_cons]at *;omega
def Prp:Tr→(Pq→Prop)→Prop
 | .leaf _,_=>True
 | .node l a b,I=>Lft I l∧Rgt I l∧Prp a (fun q=>I q∧0<a6 l q)∧Prp b (fun q=>I q∧a6 l q<0)
theorem qE {L:List Li}(hL:∀l∈L,l.ok):∀{t:Tr}{I:Pq→Prop},Cvx I→Prp t I→t.lin L→bw t≤np L L I
 | .leaf _,_,_,_,_=>Nat.zero_le _
 | .node l a b,I,hI,⟨h1,h2,h3,h4⟩,⟨k1,k2,k3⟩=>by
  have a1:=qE hL (hI.left l) h3 k2;have a2:=qE hL (hI.right l) h4 k3;have:=tm hI k1 h1 h2 hL k1;simp only [bw];omega
theorem JO (L:List Li) (I:Pq→Prop) (l:Li):wI L I l≤1+L.length:=by
 have:xV L I l≤L.length:=List.countP_le_length;unfold wI;split <;> omega
theorem Aj (L:List Li) (I:Pq→Prop):∀M:List Li,np L M I≤M.length*(1+L.length)
 | []=>by simp [np]
 |l::M=>by
  have:=Aj L I M;have:=JO L I l;simp only [np,List.map_cons,List.sum_cons,List.length_cons,Nat.add_mul]at *;omega
theorem qF {L:List Li}(hL:∀l∈L,l.ok){t:Tr}{I:Pq→Prop}(hI:Cvx I) (h:Prp t I) (k:t.lin L):bw t≤L.length*(1+L.length) :=
 Nat.le_trans (qE hL hI h k) (Aj L I L)
theorem tI {l:Li}{a b:Tr}{I:Pq→Prop}(h1:Lft I l) (h2:Rgt I l) (ha:Prp a fun q=>I q∧0<a6 l q) (hb:Prp b fun q=>I q∧a6 l q<0):Prp (fQ l a b) I:=by
 cases a with
 |leaf i =>
  cases b with
  |leaf j =>
   show Prp (if i=j then Tr.leaf i else Tr.node l (.leaf i) (.leaf j)) I
   split
   ·trivial
   ·exact⟨h1,h2,ha,hb⟩
  |node m x y=>exact⟨h1,h2,ha,hb⟩
 |node m x y=>exact⟨h1,h2,ha,hb⟩
theorem nA:∀{t:Tr}{I:Pq→Prop},Prp t I→Prp (cN t) I
 | .leaf _,_,_=>trivial
 | .node _ _ _,_,⟨h1,h2,h3,h4⟩=>⟨h1,h2,nA h3,nA h4⟩
theorem fq:∀{t:Tr}{I:Pq→Prop},Prp (bz t I) I
 | .leaf _,_=>trivial
 | .node l a b,I=>by
  unfold bz;split
  ·exact fq
  ·rename_i h1;split
   ·exact fq
   ·rename_i h2;exact tI (Classical.not_not.1 h2) (Classical.not_not.1 h1) fq fq
theorem g9 {op:Int}:∀{t b:Tr}{I:Pq→Prop},Prp (cZ op t b I) I
 | .leaf i,b,I=>by
  unfold cZ kw;split
  ·trivial
  ·split
   ·trivial
   ·split
    ·exact nA fq
    ·exact fq
 | .node l x y,b,I=>by
  unfold cZ;split
  ·exact g9
  ·rename_i h1;split
   ·exact g9
   ·rename_i h2;exact tI (Classical.not_not.1 h2) (Classical.not_not.1 h1) g9 g9
theorem tJ {L:List Li}{l:Li}(h:l∈L):∀{a b:Tr},a.lin L→b.lin L→(fQ l a b).lin L
 | .leaf i, .leaf j,ha,hb=>by
  show(if i=j then Tr.leaf i else Tr.node l (.leaf i) (.leaf j)).lin L
  split
  ·trivial
  ·exact⟨h,ha,hb⟩
 | .leaf i, .node m x y,ha,hb=>⟨h,ha,hb⟩
 | .node m x y,b,ha,hb=>by cases b <;> exact⟨h,ha,hb⟩
theorem nB {L:List Li}:∀{t:Tr},t.lin L→(cN t).lin L
 | .leaf _,_=>trivial
 | .node _ _ _,⟨h,ha,hb⟩=>⟨h,nB ha,nB hb⟩
theorem ft {L:List Li}:∀{t:Tr}{I:Pq→Prop},t.lin L→(bz t I).lin L
 | .leaf _,_,_=>trivial
 | .node l a b,I,⟨h,ha,hb⟩=>by
  unfold bz;split
  ·exact ft ha
  ·split
   ·exact ft hb
   ·exact tJ h (ft ha) (ft hb)
theorem iz {op:Int}{L:List Li}:∀{t b:Tr}{I:Pq→Prop},t.lin L→b.lin L→(cZ op t b I).lin L
 | .leaf i,b,I,_,hb=>by
  unfold cZ kw;split
  ·trivial
  ·split
   ·trivial
   ·split
    ·exact nB (ft hb)
    ·exact ft hb
 | .node l x y,b,I,⟨h,hx,hy⟩,hb=>by
  unfold cZ;split
  ·exact iz hx hb
  ·split
   ·exact iz hy hb
   ·exact tJ h (iz hx hb) (iz hy hb)
end Go.Ab
namespace Go.Ab
open Go.Proofs
variable [Base]
theorem CB {xa xb la lb ma mb p q:Rat}(hl:0<la*p+lb*q) (hx:0<xa*p+xb*q) (hm:0<ma*p+mb*q) (h1:0≤xa*lb-xb*la) (h2:0≤la*mb-lb*ma):0≤xa*mb-xb*ma:=by
 have e:(xa*mb-xb*ma)*(la*p+lb*q)=(xa*lb-xb*la)*(ma*p+mb*q)+(la*mb-lb*ma)*(xa*p+xb*q):=by grind
 have a1:=Rat.mul_nonneg h1 (Rat.le_of_lt hm);have a2:=Rat.mul_nonneg h2 (Rat.le_of_lt hx);by_cases c:xa*mb-xb*ma<0
 ·exfalso;have a3:=Rat.mul_pos (show 0 < -(xa*mb-xb*ma) by grind) hl;rw [Rat.neg_mul,e]at a3;grind
 ·exact Rat.not_lt.1 c
theorem ru {p q:Rat}:∀(l:List (Rat×Rat)),l≠[]→(∀m∈l,0<m.1*p+m.2*q)→∃x∈l,∀m∈l,0≤x.1*m.2-x.2*m.1
 | [],h,_=>absurd rfl h
 | [x],_,_=>⟨x,List.mem_cons_self ..,fun m hm=>by
  rw [List.mem_singleton.1 hm];grind⟩
 |x::y::l,_,H=>by
  obtain⟨z,hz,k⟩:=ru (y::l) (by simp) (fun m hm=>H m (Mc hm));have Hx:=H x (List.mem_cons_self ..);have Hz:=H z (Mc hz);by_cases c:x.1*z.2-x.2*z.1<0
  ·refine⟨z,Mc hz,fun m hm=>?_⟩;rcases List.mem_cons.1 hm with rfl|hm
   ·grind
   ·exact k m hm
  ·refine⟨x,List.mem_cons_self ..,fun m hm=>?_⟩;rcases List.mem_cons.1 hm with rfl|hm
   ·grind
   ·exact CB Hz Hx (H m (Mc hm)) (Rat.not_lt.1 c) (k m hm)
theorem sS {c:PC}(hc:dC c){s:Fg}(hs:s∈c){k:Rat}(hk:k≠0) (H:∀m∈a9 c,0≤k*slp s.1 m):s.2.nl=true∨s.2.nh=true:=by
 obtain⟨h1,t0,h2⟩:=hc.span s hs
 have far:∀r:Rat,0≤r→InS s.2 (t0+r*k):=by
  intro r hr;refine(h1 _).2 fun m hm ne=>?_
  have q1:=(h1 t0).1 h2 m hm ne;rw [aZ]at q1⊢;have q2:=Rat.mul_nonneg hr (H m hm);grind
 rcases hnl:s.2.nl with _|_
 ·rcases hnh:s.2.nh with _|_
  ·exfalso;unfold InS at h2 far;rw [hnl,hnh]at h2;have h3:s.2.lo<t0:=by rcases h2.1 with q|q;cases q;exact q
   have h4:t0<s.2.hi:=by rcases h2.2 with q|q;cases q;exact q
   by_cases kp:0<k
   ·have e:(s.2.hi-t0)/k*k=s.2.hi-t0:=Rat.div_mul_cancel hk
    have pos:0≤(s.2.hi-t0)/k:=by
     rw [Rat.div_def];exact Rat.mul_nonneg (by grind) (Rat.le_of_lt (Rat.inv_pos.2 kp))
    have f:=(far _ pos).2;rw [hnh,e]at f;rcases f with q|q
    ·cases q
    ·grind
   ·have kn:0 < -k:=by grind
    have e:(t0-s.2.lo)/(-k)*(-k)=t0-s.2.lo:=Rat.div_mul_cancel (by grind)
    have pos:0≤(t0-s.2.lo)/(-k):=by
     rw [Rat.div_def];exact Rat.mul_nonneg (by grind) (Rat.le_of_lt (Rat.inv_pos.2 kn))
    have f:=(far _ pos).1;rw [hnl]at f;rcases f with q|q
    ·cases q
    ·grind
  ·exact Or.inr rfl
 ·exact Or.inl rfl
theorem C5 {c:PC}(hc:dC c){s:Fg}(hs:s∈c) (h:s.2.nl=true∨s.2.nh=true):∃k:Rat,k≠0∧∀m∈a9 c,0≤k*slp s.1 m:=by
 obtain⟨h1,t0,h2⟩:=hc.span s hs;have Bz:slp s.1 s.1=0:=by unfold slp;grind
 have go:∀k:Rat,(∀r:Rat,0≤r→InS s.2 (t0+r*k))→∀m∈a9 c,0≤k*slp s.1 m:=by
  intro k far m hm;by_cases e:m=s.1
  ·rw [e,Bz];grind
  by_cases g:0≤k*slp s.1 m
  ·exact g
  exfalso;have g':0 < -(k*slp s.1 m):=by grind
  have q1:=(h1 t0).1 h2 m hm e;rw [aZ]at q1
  have pos:0≤(a6 m (ay s.1)+t0*slp s.1 m)/(-(k*slp s.1 m)):=by
   rw [Rat.div_def];exact Rat.mul_nonneg (Rat.le_of_lt q1) (Rat.le_of_lt (Rat.inv_pos.2 g'))
  have eq:(a6 m (ay s.1)+t0*slp s.1 m)/(-(k*slp s.1 m))*(-(k*slp s.1 m))=a6 m (ay s.1)+t0*slp s.1 m:=Rat.div_mul_cancel (by grind);have q2:=(h1 _).1 (far _ pos) m hm e;rw [aZ]at q2;grind
 unfold InS at h2;rcases h with h|h
 ·refine⟨-1,by grind,go _ fun r hr=>⟨Or.inl h,?_⟩⟩;rcases h2.2 with q|q
  ·exact Or.inl q
  ·exact Or.inr (by grind)
 ·refine⟨1,by grind,go _ fun r hr=>⟨?_,Or.inl h⟩⟩;rcases h2.1 with q|q
  ·exact Or.inl q
  ·exact Or.inr (by grind)
theorem uu {a b:Rat}(h:a≠0∨b≠0):0<a*a+b*b:=by
 have ha:0≤a*a:=by
  by_cases q:0≤a
  ·exact Rat.mul_nonneg q q
  ·have:=Rat.mul_nonneg (show 0≤-a by grind) (show 0≤-a by grind);grind
 have hb:0≤b*b:=by
  by_cases q:0≤b
  ·exact Rat.mul_nonneg q q
  ·have:=Rat.mul_nonneg (show 0≤-b by grind) (show 0≤-b by grind);grind
 by_cases e:a*a+b*b=0
 ·have e1:a*a=0:=by grind
  have e2:b*b=0:=by grind
  rcases Rat.mul_eq_zero.1 e1 with q|q <;> rcases Rat.mul_eq_zero.1 e2 with r|r <;> grind
 ·grind
theorem Eo {c:PC}(hc:dC c) (hne:c≠[]):(∃s∈c,s.2.nl=true∨s.2.nh=true)↔∃d:Pq,(d.1≠0∨d.2≠0)∧∀m∈a9 c,0≤(m.a:Rat)*d.1+(m.b:Rat)*d.2:=by
 constructor
 ·rintro ⟨s,hs,h⟩;obtain⟨k,hk,H⟩:=C5 hc hs h;refine⟨(k*s.1.b,-(k*s.1.a)),?_,fun m hm=>?_⟩
  ·rcases(hc.ok s hs).2 with q|q
   ·right;have:(s.1.a:Rat)≠0:=fun e=>q (Rat.intCast_eq_zero_iff.1 e)
    intro e;have e':k*(s.1.a:Rat)=0:=by simp only at e;grind
    rcases Rat.mul_eq_zero.1 e' with r|r
    ·exact hk r
    ·exact this r
   ·left;have:(s.1.b:Rat)≠0:=fun e=>q (Rat.intCast_eq_zero_iff.1 e)
    intro e;have e':k*(s.1.b:Rat)=0:=e;rcases Rat.mul_eq_zero.1 e' with r|r
    ·exact hk r
    ·exact this r
  ·have:=H m hm;unfold slp at this;simp only;grind
 ·rintro ⟨⟨p,q⟩,hd,H⟩;simp only at hd H;by_cases h0:∃s∈c,(s.1.a:Rat)*p+(s.1.b:Rat)*q=0
  ·obtain⟨s,hs,e⟩:=h0
   have hab:(s.1.a:Rat)≠0∨(s.1.b:Rat)≠0:=by
    rcases(hc.ok s hs).2 with r|r
    ·exact Or.inl fun e=>r (Rat.intCast_eq_zero_iff.1 e)
    ·exact Or.inr fun e=>r (Rat.intCast_eq_zero_iff.1 e)
   have n1:=uu hab;have n2:=uu hd;refine⟨s,hs,sS hc hs (k:=p*s.1.b-q*s.1.a) ?_ fun m hm=>?_⟩
   ·intro z;have:=Rat.mul_pos n1 n2;have id:((s.1.a:Rat)*s.1.a+s.1.b*s.1.b)*(p*p+q*q)=(p*s.1.b-q*s.1.a)*(p*s.1.b-q*s.1.a)+((s.1.a:Rat)*p+s.1.b*q)*((s.1.a:Rat)*p+s.1.b*q):=by grind
    rw [id,z,e]at this;grind
   ·have:=Rat.mul_nonneg (Rat.le_of_lt n1) (H m hm);have id:(p*(s.1.b:Rat)-q*s.1.a)*slp s.1 m=((s.1.a:Rat)*s.1.a+s.1.b*s.1.b)*(m.a*p+m.b*q)-((s.1.a:Rat)*p+s.1.b*q)*(m.a*s.1.a+m.b*s.1.b):=by unfold slp;grind
    rw [id,e];grind
  ·have H':∀m∈(a9 c).map (fun l=>((l.a:Rat),(l.b:Rat))),0<m.1*p+m.2*q:=by
    intro m hm;obtain⟨l,hl,rfl⟩:=List.mem_map.1 hm;obtain⟨s,hs,rfl⟩:=List.mem_map.1 hl;have a1:=H _ hl;have a2:(s.1.a:Rat)*p+(s.1.b:Rat)*q≠0:=fun e=>h0 ⟨s,hs,e⟩
    simp only;grind
   obtain⟨x,hx,k⟩:=ru _ (by simpa [a9] using hne) H';obtain⟨l,hl,rfl⟩:=List.mem_map.1 hx;obtain⟨s,hs,rfl⟩:=List.mem_map.1 hl;refine⟨s,hs,sS hc hs (k := -1) (by grind) fun m hm=>?_⟩;have:=k _ (List.mem_map_of_mem hm);unfold slp;simp only at this;grind
theorem IA {α:Type}{P:α→Nat→Prop}:∀{L:List α},(∀N,∃n,N≤n∧∃c∈L,P c n)→∃c∈L,∀N,∃n,N≤n∧P c n
 | [],H=>by
  obtain⟨_,_,_,h,_⟩:=H 0;cases h
 |x::L,H=>by
  by_cases e:∀N,∃n,N≤n∧P x n
  ·exact⟨x,List.mem_cons_self ..,e⟩
  ·obtain⟨N0,k⟩:=Classical.not_forall.1 e
   obtain⟨c,hc,h⟩:=IA (L:=L) (P:=P) fun N=>by
    obtain⟨n,hn,c,hc,hp⟩:=H (max N N0);refine⟨n,om,c,?_,hp⟩;rcases List.mem_cons.1 hc with rfl|hc
    ·exact absurd ⟨n,om,hp⟩ k
    ·exact hc
   exact⟨c,Mc hc,h⟩
theorem jP (l:Li) (q d:Pq) (t:Rat):a6 l (cn q t d)=a6 l q+t*((l.a:Rat)*d.1+(l.b:Rat)*d.2):=by
 unfold a6 cn;simp only;grind
theorem xd (x:Rat):∃N:Nat,x≤(N:Rat):=by
 refine⟨x.ceil.toNat,?_⟩;have h1:x≤(x.ceil:Rat):=Rat.le_ceil;have h2:(x.ceil:Rat)≤((x.ceil.toNat:Int):Rat):=Rat.intCast_le_intCast.2 (Int.self_le_toNat _);exact Rat.le_trans h1 (by rw [Rat.intCast_natCast]at h2;exact h2)
theorem DL {ls:List Li}{q d:Pq}(H:∀N:Nat,∃n:Nat,N≤n∧Inn ls (cn q (n:Rat) d)):∀m∈ls,0≤(m.a:Rat)*d.1+(m.b:Rat)*d.2:=by
 intro m hm;by_cases g:0≤(m.a:Rat)*d.1+(m.b:Rat)*d.2
 ·exact g
 exfalso;generalize hs:(m.a:Rat)*d.1+(m.b:Rat)*d.2=s at g;have hp:0 < -s:=by grind
 obtain⟨N,hN⟩:=xd (a6 m q / -s);obtain⟨n,hn,hi⟩:=H N;have h1:=hi m hm;rw [jP,hs]at h1;have h2:a6 m q / -s≤(n:Rat):=Rat.le_trans hN (Rat.natCast_le_natCast.2 hn);have h3:=Rat.mul_nonneg (show 0≤(n:Rat)-a6 m q / -s by grind) (Rat.le_of_lt hp);have h4:a6 m q / -s * -s=a6 m q:=Rat.div_mul_cancel (by grind);grind
theorem En {ls:List Li}{q d:Pq}(hq:Inn ls q) (H:∀m∈ls,0≤(m.a:Rat)*d.1+(m.b:Rat)*d.2){t:Rat}(ht:0≤t):Inn ls (cn q t d):=by
 intro m hm;have h1:=hq m hm;have h2:=Rat.mul_nonneg ht (H m hm);rw [jP];grind
theorem xw {q:Pq}(v:Pq):∀{ls:List Li},Inn ls q→∃t0:Rat,0<t0∧∀t,0<t→t≤t0→Inn ls (cn q t v)
 | [],_=>⟨1,by grind,fun _ _ _ l hl=>by cases hl⟩
 |l::ls,H=>by
  obtain⟨t1,h1,h2⟩:=xw v (ls:=ls) fun m hm=>H m (Mc hm)
  have hV:=H l (List.mem_cons_self ..);generalize hK:(l.a:Rat)*v.1+(l.b:Rat)*v.2=K;by_cases kp:0≤K
  ·refine⟨t1,h1,fun t p1 p2 m hm=>?_⟩;rcases List.mem_cons.1 hm with rfl|hm
   ·rw [jP,hK];have:=Rat.mul_nonneg (Rat.le_of_lt p1) kp;grind
   ·exact h2 t p1 p2 m hm
  ·obtain⟨n1,n2⟩:=tw hV (show K<0 by grind);by_cases c:t1≤-(a6 l q/K)/2
   ·refine⟨t1,h1,fun t p1 p2 m hm=>?_⟩;rcases List.mem_cons.1 hm with rfl|hm
    ·rw [jP,hK];exact n2 t p1 (Rat.le_trans p2 c)
    ·exact h2 t p1 p2 m hm
   ·refine⟨-(a6 l q/K)/2,by grind,fun t p1 p2 m hm=>?_⟩;rcases List.mem_cons.1 hm with rfl|hm
    ·rw [jP,hK];exact n2 t p1 p2
    ·exact h2 t p1 (by grind) m hm
theorem bF (m:Li) (q:Pq):a6 m.neg q = - a6 m q:=by
 unfold a6 Li.neg;simp only [Rat.intCast_neg];grind
theorem jq:∀(ms:List Li){ls:List Li}{q:Pq},(∀m∈ms,m.ok)→Inn ls q→∃r,Inn ls r∧∀m∈ms,a6 m r≠0
 | [],_,q,_,h=>⟨q,h,fun _ hm=>by cases hm⟩
 |m::ms,ls,q,hms,h=>by
  have step:∃r,Inn ls r∧a6 m r≠0:=by
   by_cases e:a6 m q=0
   ·obtain⟨t,t1,t2⟩:=xw ((m.a:Rat),(m.b:Rat)) h;refine⟨_,t2 t t1 (Rat.le_refl),?_⟩;rw [jP,e]
    have ab:(m.a:Rat)≠0∨(m.b:Rat)≠0:=by
     rcases(hms m (List.mem_cons_self ..)).2 with r|r
     ·exact Or.inl fun e=>r (Rat.intCast_eq_zero_iff.1 e)
     ·exact Or.inr fun e=>r (Rat.intCast_eq_zero_iff.1 e)
    have:=Rat.mul_pos t1 (uu ab);simp only;grind
   ·exact⟨q,h,e⟩
  obtain⟨r,r1,r2⟩:=step;by_cases p:0<a6 m r
  ·obtain⟨z,z1,z2⟩:=jq ms (ls:=m::ls) (q:=r) (fun x hx=>hms x (Mc hx)) (fun x hx=>by
    rcases List.mem_cons.1 hx with rfl|hx
    ·exact p
    ·exact r1 x hx)
   refine⟨z,fun x hx=>z1 x (Mc hx),fun x hx=>?_⟩;rcases List.mem_cons.1 hx with rfl|hx
   ·have:=z1 x (List.mem_cons_self ..);grind
   ·exact z2 x hx
  ·obtain⟨z,z1,z2⟩:=jq ms (ls:=m.neg::ls) (q:=r) (fun x hx=>hms x (Mc hx)) (fun x hx=>by
    rcases List.mem_cons.1 hx with rfl|hx
    ·rw [bF];grind
    ·exact r1 x hx)
   refine⟨z,fun x hx=>z1 x (Mc hx),fun x hx=>?_⟩;rcases List.mem_cons.1 hx with rfl|hx
   ·have:=z1 _ (List.mem_cons_self ..);rw [bF]at this;grind
   ·exact z2 x hx
theorem A9 {q d:Pq}:∀{ms:List Li},(∀m∈ms,a6 m q≠0)→∃N:Nat,∀n:Nat,N≤n→∀m∈ms,a6 m (cn q (n:Rat) d)≠0
 | [],_=>⟨0,fun _ _ _ h=>by cases h⟩
 |m::ms,H=>by
  obtain⟨N1,h1⟩:=A9 (d:=d) (ms:=ms) fun x hx=>H x (Mc hx)
  have hv:=H m (List.mem_cons_self ..);generalize hs:(m.a:Rat)*d.1+(m.b:Rat)*d.2=s;obtain⟨N2,h2⟩:=xd (-(a6 m q)/s);refine⟨max N1 (N2+1),fun n hn x hx=>?_⟩;rcases List.mem_cons.1 hx with rfl|hx
  ·rw [jP,hs];intro e;by_cases z:s=0
   ·rw [z]at e;grind
   ·have e1 : -(a6 x q)/s*s = -(a6 x q):=Rat.div_mul_cancel z;have e2:((n:Rat) - -(a6 x q)/s)*s=0:=by grind
    have h3:((N2+1:Nat):Rat)≤(n:Rat):=Rat.natCast_le_natCast.2 om;rw [Rat.natCast_add]at h3;rcases Rat.mul_eq_zero.1 e2 with r|r
    ·grind
    ·exact z r
  ·exact h1 n om x hx
end Go.Ab
