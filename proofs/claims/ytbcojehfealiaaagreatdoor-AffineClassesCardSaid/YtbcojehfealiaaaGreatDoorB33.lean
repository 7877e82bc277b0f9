/- Texts laid one behind the other: GwG, TmB, Seg, GwI. -/
import Derived.Test.YtbcojehfealiaaaGreatDoorB32
set_option linter.all false
set_option maxHeartbeats 16000000
namespace Go.Ab
open Go.Proofs
variable [Base]
abbrev lT:TypeId:=123
abbrev pT:TypeId:=70
theorem nS (c:List Li) (l:Li):((c++[l]).map lqx).flatten=(c.map lqx).flatten++lqx l:=by
 rw [List.map_append,List.flatten_append];simp
theorem kv {c:List Li}{l:Li}(hc:∀m∈c,m.sm) (hl:l.sm):∀m∈c++[l],m.sm:=fun m hm=>by
 rcases List.mem_append.1 hm with h|h
 ·exact hc m h
 ·rw [List.mem_singleton.1 h];exact hl
theorem oo (c:List Li):((c.map lqx).flatten).length=c.length*6:=bk dz c
theorem mx {c:List Li}{l:Li}(hc:∀m∈c,m.sm) (hl:l.sm) (hn:c.length≤90000):Pu Tryz.prog 82 [lqs c,lq l] (lqs (dA c l)):=by
 have d1:=xE (kv hc hl) (by rw [List.length_append,List.length_singleton];omega)
 have hsl:lqs (c++[l])=sl ((c.map lqx).flatten++lqx l) (c.length+1):=by
  show sl ((c++[l]).map lqx).flatten (c++[l]).length=_
  rw [nS,List.length_append,List.length_singleton]
 rw [hsl]at d1;show Pu _ _ _ (lqs (dr (c++[l])))
 generalize dr (c++[l])=q at *;generalize decide (c++[l]=[]∨q≠[])=bb at *;have hfl:=oo c;by_cases h0:c=[]
 ·subst h0;clear hsl hc hl;refine Pi Tryz.func82 fun C=>?_
  repeat(first|(refine AS ⟨?_⟩;intros)|(refine O1 ⟨?_⟩;intros))
  repeat(first|(refine Wo (kI) ?_)|(refine Wdo (kI) ?_)|(refine Wo (iQ rfl rfl) ?_)|(refine Wdo (iQ rfl rfl) ?_)|(refine Wo (bs (r:=[(0,lqx l)]) (cs:=lqx l) (.cons (sv:=ag (lqx l)) rfl inferInstance .nil)) ?_)|(refine Wdo (bs (r:=[(0,lqx l)]) (cs:=lqx l) (.cons (sv:=ag (lqx l)) rfl inferInstance .nil)) ?_)|(refine Wo (ay (k:=0) (k0:=1) (ds:=lqx l) rfl rfl rfl rfl om) ?_)|(refine Wdo (ay (k:=0) (k0:=1) (ds:=lqx l) rfl rfl rfl rfl om) ?_)|(refine A1 ⟨?_⟩;intros)|refine W4 d1 ⟨?_⟩)
  exact E1
 ·have hpos:=List.length_pos_iff.2 h0;clear hsl hc hl h0;refine Pi Tryz.func82 fun C=>?_
  repeat(first|(refine AS ⟨?_⟩;intros)|(refine O1 ⟨?_⟩;intros))
  rename_i b3;refine GR 12 [0,1,3,4,2,5,6,7,8,9,10,11] [5] 2 10 (fun sv X=>Own lT 6 c.length (c.map lqx).flatten sv X) [] _ ?_;refine YkD 4 ?_;repeat(first|(refine Wo (ic) ?_)|(refine Wdo (ic) ?_)|(refine Wo (bs (r:=[(0,lqx l)]) (cs:=lqx l) (.cons (sv:=ag (lqx l)) rfl inferInstance .nil)) ?_)|(refine Wdo (bs (r:=[(0,lqx l)]) (cs:=lqx l) (.cons (sv:=ag (lqx l)) rfl inferInstance .nil)) ?_)|(refine A1 ⟨?_⟩;intros))
  refine ul ?_;refine Jm rfl rfl rfl hfl om om ?_ (hyx:=fun h=>by cases h);refine Jn rfl om (fun sv=>?_) rfl (hyx:=fun h=>by cases h);refine YkD 6 ?_;repeat(first|(refine A1 ⟨?_⟩;intros)|refine W4 d1 ⟨?_⟩)
  refine ul ?_;refine GQ ?_;exact Z1
abbrev Iu:List SV:=ve
theorem sr {c:List Li}{l:Li}(hc:∀m∈c,m.sm) (hl:l.sm) (hn:c.length≤90000):Pu Tryz.prog 80 [lqs c,lq l] (lit (.int .i64 (gi c l))):=by
 have d1:=nZ (kv hc hl) (by rw [List.length_append,List.length_singleton];omega);have d2:=nZ (kv hc hl.neg) (by rw [List.length_append,List.length_singleton];omega);have d3:=mB l hl.ile
 have hsl:∀m:Li,lqs (c++[m])=sl ((c.map lqx).flatten++lqx m) (c.length+1):=fun m=>by
  show sl ((c++[m]).map lqx).flatten (c++[m]).length=_
  rw [nS,List.length_append,List.length_singleton]
 rw [hsl]at d1 d2;unfold gi;generalize bX (c++[l])=q1 at *;generalize bX (c++[l.neg])=q2 at *;generalize q1.getD (0,0)=p1 at *;generalize q2.getD (0,0)=p2 at *;generalize q1.isSome=s1 at *;generalize q2.isSome=s2 at *;have hfl:=oo c;by_cases h0:c=[]
 ·subst h0;clear hsl hc hl;cases s1 <;> cases s2
  all_goals
   simp only [Bool.false_eq_true,if_false,if_true];refine Pi Tryz.func80 fun C=>?_
   repeat(first|(refine AS ⟨?_⟩;intros)|(refine O1 ⟨?_⟩;intros))
   repeat(first|(refine Wo (kI) ?_)|(refine Wdo (kI) ?_)|(refine Wo (iQ rfl rfl) ?_)|(refine Wdo (iQ rfl rfl) ?_)|(refine Wo (bs (r:=[(0,lqx l)]) (cs:=lqx l) (.cons (sv:=ag (lqx l)) rfl inferInstance .nil)) ?_)|(refine Wdo (bs (r:=[(0,lqx l)]) (cs:=lqx l) (.cons (sv:=ag (lqx l)) rfl inferInstance .nil)) ?_)|(refine Wo (bs (r:=[(0,lqx l.neg)]) (cs:=lqx l.neg) (.cons (sv:=ag (lqx l.neg)) rfl inferInstance .nil)) ?_)|(refine Wdo (bs (r:=[(0,lqx l.neg)]) (cs:=lqx l.neg) (.cons (sv:=ag (lqx l.neg)) rfl inferInstance .nil)) ?_)|(refine Wo (ay (k:=0) (k0:=1) (ds:=lqx l) rfl rfl rfl rfl om) ?_)|(refine Wdo (ay (k:=0) (k0:=1) (ds:=lqx l) rfl rfl rfl rfl om) ?_)|(refine Wo (ay (k:=0) (k0:=1) (ds:=lqx l.neg) rfl rfl rfl rfl om) ?_)|(refine Wdo (ay (k:=0) (k0:=1) (ds:=lqx l.neg) rfl rfl rfl rfl om) ?_)|(refine A1 ⟨?_⟩;intros)|refine W4 d1 ⟨?_⟩|refine W4 d2 ⟨?_⟩|refine W4 d3 ⟨?_⟩)
   exact E1
 ·have hpos:=List.length_pos_iff.2 h0;clear hsl hc hl h0;cases s1 <;> cases s2
  all_goals
   simp only [Bool.false_eq_true,if_false,if_true];refine Pi Tryz.func80 fun C=>?_
   repeat(first|(refine AS ⟨?_⟩;intros)|(refine O1 ⟨?_⟩;intros))
   rename_i b3;refine GR 12 [10,0,1,3,4,2,5,6,7,8,9,11] [2,5,11] 10 5 (fun sv X=>∃b,sv=lit (.pointer (some ⟨b,0,none⟩))∧X=[(b,pT,Iu)]) [] _ ?_;refine Ip rfl ?_;refine YkD 4 ?_;repeat(first|(refine Wo (ic) ?_)|(refine Wdo (ic) ?_)|(refine Wo (bs (r:=[(0,lqx l)]) (cs:=lqx l) (.cons (sv:=ag (lqx l)) rfl inferInstance .nil)) ?_)|(refine Wdo (bs (r:=[(0,lqx l)]) (cs:=lqx l) (.cons (sv:=ag (lqx l)) rfl inferInstance .nil)) ?_)|(refine A1 ⟨?_⟩;intros))
   refine ul ?_;refine YkE rfl rfl hfl om om (fun s' H' hown=>?_) (hyx:=fun h=>by cases h);refine YkP hown om ?_;refine YkD 4 ?_;repeat(first|(refine A1 ⟨?_⟩;intros)|refine W4 d1 ⟨?_⟩)
   refine ul ?_;refine Ir (sv:=ag (rpx p1)) (ds:=rpx p1) rfl (fun b5=>?_) rfl (hvx:=fun h=>by cases h);refine GQ ?_;repeat(first|(refine AS ⟨?_⟩;intros)|(refine O1 ⟨?_⟩;intros))
   refine GR 13 [11,0,1,3,2,4,5,6,7,8,9,10,12] [2,6,12] 11 7 (fun sv X=>∃b,sv=lit (.pointer (some ⟨b,0,none⟩))∧X=[(b,pT,Iu)]) [] _ ?_;refine Ip rfl ?_;refine YkD 3 ?_;repeat(first|(refine Wo (ic) ?_)|(refine Wdo (ic) ?_)|(refine A1 ⟨?_⟩;intros))
   refine ul ?_;refine YkE rfl rfl hfl om om (fun s' H' hown=>?_) (hyx:=fun h=>by cases h);refine YkD 2 ?_;repeat(first|(refine Wo (bs (r:=[(0,lqx l.neg)]) (cs:=lqx l.neg) (.cons (sv:=ag (lqx l.neg)) rfl inferInstance .nil)) ?_)|(refine Wdo (bs (r:=[(0,lqx l.neg)]) (cs:=lqx l.neg) (.cons (sv:=ag (lqx l.neg)) rfl inferInstance .nil)) ?_)|(refine A1 ⟨?_⟩;intros)|refine W4 d3 ⟨?_⟩)
   refine ul ?_;refine YkP hown om ?_;refine YkD 4 ?_;repeat(first|(refine A1 ⟨?_⟩;intros)|refine W4 d2 ⟨?_⟩)
   refine ul ?_;refine Ir (sv:=ag (rpx p2)) (ds:=rpx p2) rfl (fun b7=>?_) rfl (hvx:=fun h=>by cases h);refine GQ ?_;exact Y1 d1
theorem vI (l:Li) (a b:Tr) (hl:l.le 1000000):Pu Tryz.prog 81 [lq l,rt a,rt b] (rt (l7 l a b)):=by
 cases a with
 |leaf i =>
  cases b with
  |leaf j =>
   show Pu _ _ _ (rt (if i=j then .leaf i else .node l (.leaf i) (.leaf j)))
   cases i <;> cases j
   all_goals
    first|rw [if_pos rfl]|rw [if_neg (by decide)]
    simp only [rt,gC,fq]at *;refine Pi Tryz.func81 fun C=>?_
    repeat(first|(refine Wo (aF (sv:=ag _) rfl) ?_)|(refine Wdo (aF (sv:=ag _) rfl) ?_)|(refine A1 ⟨?_⟩;intros))
    exact E1
  |node m x y =>
   show Pu _ _ _ (rt (.node l (.leaf i) (.node m x y)))
   simp only [rt,gC,fq]at *;refine Pi Tryz.func81 fun C=>?_
   repeat(first|(refine Wo (aF (sv:=ag _) rfl) ?_)|(refine Wdo (aF (sv:=ag _) rfl) ?_)|(refine A1 ⟨?_⟩;intros))
   exact E1
 |node m x y =>
  show Pu _ _ _ (rt (.node l (.node m x y) b))
  simp only [rt,gC,fq]at *;refine Pi Tryz.func81 fun C=>?_
  repeat(first|(refine Wo (aF (sv:=ag _) rfl) ?_)|(refine Wdo (aF (sv:=ag _) rfl) ?_)|(refine A1 ⟨?_⟩;intros))
  exact E1
theorem lV {c:List Li}{l:Li}(hc:∀m∈c,m.sm) (hl:l.sm):∀m∈dA c l,m.sm:=fun m hm =>
 kv hc hl m (rC (Nat.le_refl _) m hm)
theorem ko (c:List Li) (l:Li):(dA c l).length≤c.length+1:=by
 exact Nat.le_trans (lP (c:=c++[l]) (c++[l]).length) (by simp)
theorem gI:∀(t:Tr) (c:List Li),(t.all fun l=>l.sm)→(∀m∈c,m.sm)→c.length+eM t≤90000→Pu Tryz.prog 79 [rt t,lqs c] (rt (bq t c))
 | .leaf i,c,_,_,_=>by
  show Pu _ _ _ (rt (.leaf i))
  simp only [rt,gC]at *;refine Pi Tryz.func79 fun C=>?_
  exact Z1
 | .node l a b,c,hall,hc,hd=>by
  have hd':c.length+(1+max (eM a) (eM b))≤90000:=hd;have p0:=sr hc hall.1 om;have d3:=gI a c hall.2.1 hc om;have d4:=gI b c hall.2.2 hc om;have n1:=ko c l;have n2:=ko c l.neg;have w1:=mx hc hall.1 om;have w2:=mx hc hall.1.neg om;have d0:=mB l hall.1.ile;have d5:=gI a (dA c l) hall.2.1 (lV hc hall.1) om;have d6:=gI b (dA c l.neg) hall.2.2 (lV hc hall.1.neg) om;have d7:=vI l (bq a (dA c l)) (bq b (dA c l.neg)) hall.1.ile;unfold bq;clear hd hd' n1 n2 hc hall;generalize bq a c=ra at *;generalize bq b c=rb at *;generalize bq a (dA c l)=ra' at *;generalize bq b (dA c l.neg)=rb' at *;generalize l7 l ra' rb'=rj at *;generalize dA c l=c1 at *;generalize dA c l.neg=c2 at *;have en:rt (.node l a b)=pt (rc (.node l a b)):=rfl;rw [en,fq];clear en;generalize gi c l=z at *;by_cases h1:z=1
  ·rw [if_pos h1];refine Pi Tryz.func79 fun C=>?_
   exact Y2 p0 d3
  ·rw [if_neg h1];by_cases h2:z = -1
   ·rw [if_pos h2];refine Pi Tryz.func79 fun C=>?_
    exact Y2 p0 d4
   ·rw [if_neg h2];refine Pi Tryz.func79 fun C=>?_
    repeat(first|(refine A1 ⟨?_⟩;intros)|refine W4 p0 ⟨?_⟩|refine W4 w1 ⟨?_⟩|refine W4 d0 ⟨?_⟩|refine W4 w2 ⟨?_⟩|refine W4 d5 ⟨?_⟩|refine W4 d6 ⟨?_⟩|refine W4 d7 ⟨?_⟩)
    exact E1
theorem mC:∀t:Tr,(t.all fun l=>l.sm)→Pu Tryz.prog 64 [rt t] (rt (ol t))
 | .leaf i,_=>by
  have c:=cB (!i);show Pu _ _ _ (rt (.leaf (!i)))
  have en:rt (.leaf i)=pt (rc (.leaf i)):=rfl;rw [en,gC];refine Pi Tryz.func64 fun C=>?_
  exact Y1 c
 | .node l a b,h=>by
  have c1:=mC a h.2.1;have c2:=mC b h.2.2;show Pu _ _ _ (rt (.node l (ol a) (ol b)))
  have en:rt (.node l a b)=pt (rc (.node l a b)):=rfl;rw [en,fq];generalize ol a=na at *;generalize ol b=nb at *;clear h en;refine Pi Tryz.func64 fun C=>?_
  repeat(first|(refine Wo (aF (sv:=ag _) rfl) ?_)|(refine Wdo (aF (sv:=ag _) rfl) ?_)|(refine A1 ⟨?_⟩;intros)|refine W4 c1 ⟨?_⟩|refine W4 c2 ⟨?_⟩)
  exact E1
theorem jg (t:Tr) (h:t.all fun l=>l.sm) (hd:eM t≤90000):Pu Tryz.prog 60 [rt t] (rt (bq t [])):=by
 have c:=gI t [] h (fun m h=>by cases h) (by simpa using hd);have c':=c.arg (l':=[rt t,lit (.slice none 0 0)]) ⟨Le.refl _,ew,trivial⟩;clear c h hd;refine Pi Tryz.func60 fun C=>?_
 exact Y1 c'
abbrev RPs:=List (List Li×Bool)
def rB:Tr→List Li→RPs
 | .leaf i,c=>if c=[]∨dr c≠[]then [(dr c,i)]else []
 | .node l a b,c=>if c=[]∨dr c≠[]then rB a (dr c++[l])++rB b (dr c++[l.neg])else []
def vC (p q:Pq):Fg:=(thr p.1 p.2 q.1 q.2,⟨bO (thr p.1 p.2 q.1 q.2) p,bO (thr p.1 p.2 q.1 q.2) q,false,false⟩)
theorem ye (z:Int) (h:z.natAbs≤4000000000):il z≤1:=bi (k:=1) (by simp;omega)
theorem BT (x y u v:Int):thr (x:Rat) y u v=dD ((-(v-y):Int):Rat) ((u-x:Int):Rat) (((v-y)*x-(u-x)*y:Int):Rat):=by
 unfold thr;push_cast
 congr 1 <;> grind
theorem qk {p q:Pq}(hp:Iq p) (hq:Iq q) (h:p≠q):(thr p.1 p.2 q.1 q.2).sm:=by
 obtain⟨x,y,rfl,hx,hy⟩:=hp;obtain⟨u,v,rfl,hu,hv⟩:=hq
 have hne:u-x≠0∨v-y≠0:=by
  by_cases h1:u-x=0
  ·right;intro h2;exact h (jv.2 ⟨om,om⟩)
  ·exact .inl h1
 show(thr (x:Rat) y u v).sm
 rw [BT];have hne' : -(v-y)≠0∨u-x≠0:=by clear hx hy hu hv h;omega
 have hm1:((v-y)*x).natAbs≤2000*1000:=by rw [Int.natAbs_mul];exact Nat.mul_le_mul om hx
 have hm2:((u-x)*y).natAbs≤2000*1000:=by rw [Int.natAbs_mul];exact Nat.mul_le_mul om hy
 obtain⟨q1,q2,q3⟩:=qA ((v-y)*x-(u-x)*y) hne'
 have hok:(dD ((-(v-y):Int):Rat) ((u-x:Int):Rat) (((v-y)*x-(u-x)*y:Int):Rat)).ok:=tT (by
  rcases hne' with h|h
  ·exact .inl fun e=>h (eK.1 e)
  ·exact .inr fun e=>h (eK.1 e))
 clear hne hne' h;generalize(v-y)*x=e1 at *;generalize(u-x)*y=e2 at *;generalize dD ((-(v-y):Int):Rat) ((u-x:Int):Rat) ((e1-e2:Int):Rat)=r at *;exact⟨hok,ye _ om,ye _ om,ye _ om⟩
theorem Hw {p q:Pq}(hp:Iq p) (hq:Iq q) (h:p≠q):bO (thr p.1 p.2 q.1 q.2) p<bO (thr p.1 p.2 q.1 q.2) q:=by
 have hok:=(qk hp hq h).1
 have hne:q.1-p.1≠0∨q.2-p.2≠0:=by
  by_cases h1:q.1-p.1=0
  ·right;intro h2;exact h (Prod.ext (by grind) (by grind))
  ·exact .inl h1
 have h1:=u5 hok p;have h2:=u5 hok q;have n0:=cW hok
 have key:0<q.1*(thr p.1 p.2 q.1 q.2).b-q.2*(thr p.1 p.2 q.1 q.2).a-(p.1*(thr p.1 p.2 q.1 q.2).b-p.2*(thr p.1 p.2 q.1 q.2).a):=by
  unfold thr
  have hn' : -(q.2-p.2)≠0∨q.1-p.1≠0:=by
   rcases hne with h|h
   ·exact .inr h
   ·left;grind
  obtain⟨e1,e2,_⟩:=mM (c := -(-(q.2-p.2)*p.1+(q.1-p.1)*p.2)) hn';have gp:=qW (c := -(-(q.2-p.2)*p.1+(q.1-p.1)*p.2)) hn';rw [←e1,←e2];have ip:=Rat.inv_pos.2 gp;have sq:=tG hne;generalize(g3 (-(q.2-p.2)) (q.1-p.1) (-(-(q.2-p.2)*p.1+(q.1-p.1)*p.2)))⁻¹=g at *;have:=Rat.mul_pos ip sq;grind
 generalize(thr p.1 p.2 q.1 q.2)=l at *;generalize bO l p=s at *;generalize bO l q=t at *;by_cases c:s<t
 ·exact c
 ·exfalso;have:=Rat.mul_nonneg (show 0≤s-t by grind) (Rat.le_of_lt n0);grind
theorem HA {L:List Li}{p q:Pq}(hp:Iq p) (hq:Iq q) (h:p≠q) (hL:thr p.1 p.2 q.1 q.2∈L):FgG L (vC p q):=by
 have hlt:=Hw hp hq h
 have hn:¬(0≤(bO (thr p.1 p.2 q.1 q.2) p-bO (thr p.1 p.2 q.1 q.2) q).num.sign):=fun e=>by
  have:=jS.1 e;grind
 refine⟨(qk hp hq h).1,hL,⟨(fun e=>by cases e),(fun e=>by cases e),fun _ _=>hlt⟩,?_⟩;unfold fG vC;simp [hn]
theorem Hy {p q:Pq}(hp:Iq p) (hq:Iq q) (h:p≠q):(vC p q).2.le 16:=by
 have hl:=qk hp hq h;exact⟨jo (n:=1) hl hp.ht,jo (n:=1) hl hq.ht⟩
def dY (l:List Pq):List Fg:=(List.range l.length).map fun i=>vC (l.getD i (0,0)) (l.getD ((i+1)%l.length) (0,0))
theorem ns (l:List Pq):(dY l).length=l.length:=by unfold dY;simp
theorem Cp {l:List Pq}(h:i0 l){i:Nat}(hi:i<l.length):Iq (l.getD i (0,0))∧Iq (l.getD ((i+1)%l.length) (0,0))∧l.getD i (0,0)≠l.getD ((i+1)%l.length) (0,0):=by
 have hj:(i+1)%l.length<l.length:=Nat.mod_lt _ om;have e1:l[i]? = some (l.getD i (0,0)):=by rw [List.getD,List.getElem?_eq_getElem hi];rfl
 have e2:l[(i+1)%l.length]? = some (l.getD ((i+1)%l.length) (0,0)):=by rw [List.getD,List.getElem?_eq_getElem hj];rfl
 exact⟨h.2.1 _ (List.mem_of_getElem? e1),h.2.1 _ (List.mem_of_getElem? e2),h.2.2.2 i _ _ e1 e2⟩
theorem uO {l:List Pq}(h:i0 l):∀f∈dY l,f.1.sm∧f.2.le 16∧∀L,f.1∈L→FgG L f:=fun f hf=>by
 obtain⟨i,hi,rfl⟩:=List.mem_map.1 hf;rw [List.mem_range]at hi;obtain⟨h1,h2,h3⟩:=Cp h hi;exact⟨qk h1 h2 h3,Hy h1 h2 h3,fun L hL=>HA h1 h2 h3 hL⟩
theorem G8 (x y:Rat):xY x y=x∨xY x y=y:=by unfold xY;split;exact .inl rfl;exact .inr rfl
theorem FZ (x y:Rat):xW x y=x∨xW x y=y:=by unfold xW;split;exact .inl rfl;exact .inr rfl
theorem xp {v w:Spn}{n:Nat}(hv:v.le n) (hw:w.le n):(gq v w).le n:=by
 obtain⟨v1,v2⟩:=hv;obtain⟨w1,w2⟩:=hw;unfold gq;constructor
 ·show ht (if v.nl then w.lo else if w.nl then v.lo else xY v.lo w.lo)≤n
  split
  ·exact w1
  ·split
   ·exact v1
   ·rcases G8 v.lo w.lo with e|e <;> rw [e] <;> assumption
 ·show ht (if v.nh then w.hi else if w.nh then v.hi else xW v.hi w.hi)≤n
  split
  ·exact w2
  ·split
   ·exact v2
   ·rcases FZ v.hi w.hi with e|e <;> rw [e] <;> assumption
theorem GA {l m:Li}{v w:Spn}(hl:l.sm) (hm:m.sm) (hv:v.le 46) (h:eN l v m=some w):w.le 46:=by
 have hz:=ez
 have hx:slp l m≠0→ht (-(a6 m (aV l)/slp l m))≤46:=fun hs=>by
  have hd:cO l m≠0:=fun e=>hs (by rw [kw]at e;grind)
  have h1:=iT hl hm;have h2:=jo hl h1
  have e : -(a6 m (aV l)/slp l m)=bO l (be l m):=by
   have e1:=rl hs (bO l (be l m));have e2:=mg hl.1 hd (bO l (be l m));have e3:(bO l (be l m)-bO l (be l m))*slp l m=0:=by grind
   rw [e3]at e2;rw [e2]at e1;rcases Rat.mul_eq_zero.1 e1.symm with e|e
   ·grind
   ·exact absurd e hs
  rw [e];omega
 unfold eN at h;split at h
 ·split at h
  ·cases h;exact hv
  ·cases h
 ·rename_i hs;have hs':slp l m≠0:=fun e=>hs (by rw [e];rfl)
  have hq:=hx hs';split at h
  ·cases h
  ·cases h;refine xp hv ?_;unfold hlf;split
   ·exact⟨hq,by show ht 0≤46;omega⟩
   ·exact⟨by show ht 0≤46;omega,hq⟩
theorem Ao {L:List Li}{f:Fg}{m:Li}(hf:FgG L f) (hl:f.1.sm) (hm:m.sm) (hv:f.2.le 46):(∀g∈(bM f m).1,g.2.le 46)∧∀g∈(bM f m).2,g.2.le 46:=by
 rw [iJ hf.g hf.b hf.ok]
 have key:∀x:Li,x.sm→∀g∈((eN f.1 f.2 x).toList).map (fun s=>(f.1,s)),g.2.le 46:=fun x hx g hg=>by
  obtain⟨w,hw,rfl⟩:=List.mem_map.1 hg;rw [Option.mem_toList]at hw;exact GA hl hx hv hw
 exact⟨key m hm,key m.neg hm.neg⟩
theorem xZ {α:Type}{f:α→Bool}{l:List α}{k:Nat}{t:α}(h:l[k]? = some t):((((l.take (k+1)).map f)).map fun b=>[(lit (.bool b):SV)]).flatten=(((l.take k).map f).map fun b=>[lit (.bool b)]).flatten++[lit (.bool (f t))]:=by
 rw [cF h,List.map_append,List.map_append,List.flatten_append];rfl
theorem oP (op : Int) (hop : op = 1 ∨ op = 2) (a b : List Spn) (hla : a.length ≤ 10000) (hlb : b.length ≤ 10000) (ha : ∀ s ∈ a, s.le 10000) (hb : ∀ s ∈ b, s.le 10000) :
    Pu Tryz.prog 240 [lit (.int .i64 op),sps a,sps b] (sps (jK op a b)):=by
  have hl:(a++b).length≤20000:=by rw [List.length_append];omega
  have hab:∀s∈a++b,s.le 10000:=fun s hs=>(List.mem_append.1 hs).elim (ha s) (hb s)
  have c1:=Cs (a++b) om (fun s hs=>⟨by have:=(hab s hs).1;omega,by have:=(hab s hs).2;omega⟩);have hel:=wE (a++b);have heh:=zS hab;have hpl:=jl (cq (a++b));have hph:=AJ heh;have c2:=xx (cq (a++b)) om (fun y hy=>by have:=heh y hy;omega);have c3:=Cr (cq (a++b)) ((dC (cq (a++b))).map fun t=>opB op (inL a t) (inL b t)) om (by rw [List.length_map];exact hpl);have hfa:((a.map spx).flatten).length=a.length*8:=bk i8 a;have hfb:((b.map spx).flatten).length=b.length*8:=bk i8 b;have hfab:(a.map spx).flatten++(b.map spx).flatten=((a++b).map spx).flatten:=by rw [List.map_append,List.flatten_append]
  have e1:∀s H',Own sT 8 (a.length+b.length) ((a.map spx).flatten++(b.map spx).flatten) s H'→Own sT 8 (a++b).length ((a++b).map spx).flatten s H':=fun s H' h=>by rw [List.length_append,←hfab];exact h
  clear hfab hab;unfold jK;generalize cq (a++b)=cuts at *;generalize hM:(dC cuts).map (fun t=>opB op (inL a t) (inL b t))=M at *;generalize hP:dC cuts=ps at *;have hMl:M.length=ps.length:=by rw [←hM,List.length_map]
  have di:∀t∈ps,Pu Tryz.prog 261 [sps a,rq t] (lit (.bool (inL a t)))∧Pu Tryz.prog 261 [sps b,rq t] (lit (.bool (inL b t))):=fun t ht=>⟨Cn a t om (fun s hs=>⟨by have:=(ha s hs).1;omega,by have:=(ha s hs).2;omega⟩) (by have:=hph t ht;omega),Cn b t om (fun s hs=>⟨by have:=(hb s hs).1;omega,by have:=(hb s hs).2;omega⟩) (by have:=hph t ht;omega)⟩
  clear heh hph ha hb;refine Pi Tryz.func240 fun C=>?_
  repeat(refine A1 ⟨?_⟩;intros)
  rename_i b14;refine En (k0:=a.length) (n0:=0) (cs:=[]) (ds:=(a.map spx).flatten) (Hs:=[(b14,sT,[])]) ⟨rfl, .inr ⟨b14,0,Nat.le_refl _,by decide,rfl,rfl⟩⟩ (Tk.cons (.here _) (Tk.nil _)) om hfa (fun s1 H1 hown1=>?_);rw [Nat.zero_add,List.nil_append]at hown1;have hco1:=hown1.co;repeat(refine A1 ⟨?_⟩;intros)
  refine En (k0:=b.length) hown1 (Tk.same _) om hfb (fun s2 H2 hown2=>?_);replace hown2:=e1 _ _ hown2;have hco2:=hown2.co;refine WPL.rowS 18 hown2 rfl (R:=[]) (by simp) ?_;clear hown1 hown2 e1 hfa hfb;repeat(first|(refine A1 ⟨?_⟩;intros)|refine W4 c1 ⟨?_⟩|refine W4 c2 ⟨?_⟩)
  refine WP.loopS (ι:=yz) (fun y=>y.k≤ps.length∧Own bT 1 y.k (((ps.take y.k).map fun t=>opB op (inL a t) (inL b t)).map fun b=>[lit (.bool b)]).flatten y.s y.Hs) (fun y=>ps.length-y.k)
    (fun y=>fm [(0,lit (.int .i64 op)),(1,sps a),(2,sps b),(7,rqs cuts),(8,y.s),(21,rqs ps),(22,lit (.int .i64 ps.length)),(23,lit (.int .i64 y.k))]) (fun y=>y.Hs) ⟨0,lit (.slice none 0 0),[]⟩
    ⟨Nat.zero_le _,Own.nil _ _⟩ lfA (List.nil_sublist _) ?_
  rintro ⟨k,s,Hs⟩ ⟨hk,hown⟩ K hK;simp only at hk hown⊢;have hco:=hown.co;by_cases hkl:k<ps.length
  · obtain⟨t,hget,hmm,hat,hne⟩:=elt gA om hkl
    obtain⟨d1,d2⟩:=di t hmm;have hgo:=fun s' Hs' (h:Own bT 1 (k+1) ((((ps.take k).map fun t=>opB op (inL a t) (inL b t)).map fun b=>[lit (.bool b)]).flatten++[lit (.bool (opB op (inL a t) (inL b t)))]) s' Hs') F' H'=>hK F' H' ⟨k+1,s',Hs'⟩ ⟨by simp only;omega,by simp only;rw [xZ hget];exact h⟩ (by simp only;omega)
    clear hK di c1 c2 c3 hget hmm hM hP;generalize inL a t=x at *;generalize inL b t=y at *;generalize(((ps.take k).map fun t=>opB op (inL a t) (inL b t)).map fun b=>[(lit (.bool b):SV)]).flatten=cs at *;rcases hop with rfl|rfl <;> cases x <;> cases y
    all_goals
      simp only [opB,Int.reduceEq,if_true,if_false,Bool.or_true,Bool.or_false,Bool.and_true,Bool.and_false,Bool.or_self,Bool.and_self,Bool.false_eq_true]at hgo;repeat(refine A1 ⟨?_⟩;intros)
      refine Wo (a8 (cs':=rqx t) rfl rfl om om hat hne) ?_;repeat(first|(refine Wo (jq (s:=lit (.bool true)) (ds:=[lit (.bool true)]) rfl inferInstance) ?_)|(refine Wdo (jq (s:=lit (.bool true)) (ds:=[lit (.bool true)]) rfl inferInstance) ?_)|(refine Wo (jq (s:=lit (.bool false)) (ds:=[lit (.bool false)]) rfl inferInstance) ?_)|(refine Wdo (jq (s:=lit (.bool false)) (ds:=[lit (.bool false)]) rfl inferInstance) ?_)|(refine A1 ⟨?_⟩;intros)|refine W4 d1 ⟨?_⟩|refine W4 d2 ⟨?_⟩)
    all_goals first
      | (refine jL (ds := [lit (.bool true)]) hown (Tk.skip _ (Tk.same _)) om (fun s' H1 hown' => ?_)
         have hco':=hown'.co;replace hgo:=hgo s' H1 hown';clear hown hown';repeat(refine A1 ⟨?_⟩;intros)
         exact hgo _ _ lfA (Sc Sr))
      | (refine jL (ds := [lit (.bool false)]) hown (Tk.skip _ (Tk.same _)) om (fun s' H1 hown' => ?_)
         have hco':=hown'.co;replace hgo:=hgo s' H1 hown';clear hown hown';repeat(refine A1 ⟨?_⟩;intros)
         exact hgo _ _ lfA (Sc Sr))
  · have hke:k=ps.length:=by omega
    subst hke;rw [List.take_length,hM]at hown;have hl2:ps.length=M.length:=hMl.symm;rw [hl2]at hown;refine WP.rowS 8 hown rfl (by rw [List.append_nil]) ?_;clear hK hown di;exact Y1 c3
theorem sw {l m:Li}(hl:l.sm) (hm:m.sm) (side:Int) (hs:side=1∨side = -1):Pu Tryz.prog 239 [lq l,lq m,lit (.int .i64 side)] (Ab.tup [sps (eD l m side).1,lit (.bool (eD l m side).2)]):=by
 have d1:=qo hl hm;have hmt:=iT hl hm;have hpt:=jo hl hmt;have h1:=fv;unfold eD;by_cases h0:cO l m=0
 ·rw [if_pos h0];unfold ie at d1;rw [if_pos h0]at d1;obtain⟨q1,q2⟩:=nJ hl;have d3:=qx hl.1 hl.2;have d4:=mA (l:=m) (p:=aV l) hm ⟨om,om⟩;simp only [Option.getD_none,Option.isSome_none]at d1;have e4:ag (rpx (aV l))=rp (l.bf*l.a) (l.bf*l.b):=rfl;rw [e4]at d4;clear hmt hpt q1 q2 e4 h0;generalize cM m (aV l)=z at *;by_cases hz:z=side
  ·rw [if_pos hz];subst hz;by_cases z0:z=0
   ·omega
   ·rw [decide_eq_false z0];refine Pi Tryz.func239 fun C=>?_
    repeat(first|(refine Wo (az (spx Spn.full) rfl) ?_)|(refine Wdo (az (spx Spn.full) rfl) ?_)|(refine A1 ⟨?_⟩;intros)|refine W4 d1 ⟨?_⟩|refine W4 d3 ⟨?_⟩|refine W4 d4 ⟨?_⟩|refine W4 vK ⟨?_⟩)
    exact G2
  ·rw [if_neg hz];by_cases z0:z=0
   ·rw [decide_eq_true z0];refine Pi Tryz.func239 fun C=>?_
    repeat(first|(refine A1 ⟨?_⟩;intros)|refine W4 d1 ⟨?_⟩|refine W4 d3 ⟨?_⟩|refine W4 d4 ⟨?_⟩)
    ((first|refine aM ?_|refine eF ?_);exact fD (RV.tmp rfl) (RV.tmp rfl) (Le.tup2 ew Lr))
   ·rw [decide_eq_false z0];refine Pi Tryz.func239 fun C=>?_
    repeat(first|(refine A1 ⟨?_⟩;intros)|refine W4 d1 ⟨?_⟩|refine W4 d3 ⟨?_⟩|refine W4 d4 ⟨?_⟩)
    ((first|refine aM ?_|refine eF ?_);exact fD (RV.tmp rfl) (RV.tmp rfl) (Le.tup2 ew Lr))
 ·rw [if_neg h0];unfold ie at d1;rw [if_neg h0]at d1;simp only [Option.getD_some,Option.isSome_some]at d1;have d3:=kB (l:=l) (p:=be l m) hl ⟨by have:=hmt.1;omega,by have:=hmt.2;omega⟩;have ha:=aO (bO l (be l m)) 1;have d4:=ee (bO l (be l m)) 1 om om;have d5:=xF (l:=l) (t:=bO l (be l m)+1) hl om;have hat:=yw (t:=bO l (be l m)+1) (n:=100) hl om;have d6:=mA (l:=m) (p:=atL l (bO l (be l m)+1)) hm ⟨by have:=hat.1;omega,by have:=hat.2;omega⟩;clear hmt hpt ha hat h0;generalize cM m (atL l (bO l (be l m)+1))=z at *;generalize atL l (bO l (be l m)+1)=q at *;generalize bO l (be l m)+1=t1 at *;generalize bO l (be l m)=t at *;generalize be l m=mp at *;by_cases hz:z=side
  ·rw [if_pos hz];refine Pi Tryz.func239 fun C=>?_
   repeat(first|(refine Wo (az (rqx t++[lit (.bool false),lit (.slice none 0 0),lit (.slice none 0 0),lit (.bool false),lit (.bool true)]) rfl) ?_)|(refine Wdo (az (rqx t++[lit (.bool false),lit (.slice none 0 0),lit (.slice none 0 0),lit (.bool false),lit (.bool true)]) rfl) ?_)|(refine A1 ⟨?_⟩;intros)|refine W4 d1 ⟨?_⟩|refine W4 d3 ⟨?_⟩|refine W4 d4 ⟨?_⟩|refine W4 d5 ⟨?_⟩|refine W4 d6 ⟨?_⟩|refine W4 jT ⟨?_⟩)
   ((first|refine aM ?_|refine eF ?_);exact fD (RV.tmp rfl) (RV.tmp rfl) (Le.tup2 (y7 (b:=spx ⟨t,0,false,true⟩) ⟨Le.refl _,Le.refl _,Le.refl _,Le.refl _,kW,kX,Le.refl _,Le.refl _,trivial⟩) Lr))
  ·rw [if_neg hz];refine Pi Tryz.func239 fun C=>?_
   repeat(first|(refine Wo (az ([lit (.bool false),lit (.slice none 0 0),lit (.slice none 0 0)]++rqx t++[lit (.bool true),lit (.bool false)]) rfl) ?_)|(refine Wdo (az ([lit (.bool false),lit (.slice none 0 0),lit (.slice none 0 0)]++rqx t++[lit (.bool true),lit (.bool false)]) rfl) ?_)|(refine A1 ⟨?_⟩;intros)|refine W4 d1 ⟨?_⟩|refine W4 d3 ⟨?_⟩|refine W4 d4 ⟨?_⟩|refine W4 d5 ⟨?_⟩|refine W4 d6 ⟨?_⟩|refine W4 jT ⟨?_⟩)
   ((first|refine aM ?_|refine eF ?_);exact fD (RV.tmp rfl) (RV.tmp rfl) (Le.tup2 (y7 (b:=spx ⟨0,t,true,false⟩) ⟨Le.refl _,kW,kX,Le.refl _,Le.refl _,Le.refl _,Le.refl _,Le.refl _,trivial⟩) Lr))
abbrev fqx (f:Fg):List SV:=lqx f.1++spx f.2
theorem jw (f:Fg):(fqx f).length=14:=rfl
abbrev fqs (l:List Fg):SV:=sl (l.map fqx).flatten l.length
theorem qR {α:Type}{l:List α}(h:l.length≤1):l=[]∨∃x,l=[x]:=by
 match l,h with
 | [],_=>exact .inl rfl
 | [x],_=>exact .inr ⟨x,rfl⟩
theorem ij:Le (lit (.slice none 0 0)) (xsl [] 0):=fun m v h=>by
 rw [aj]at h;subst h;unfold xsl;exact⟨none,rfl,by simp only [maxLen];omega,fun _=>rfl, .inl rfl⟩
theorem zC:Le (lit (.slice none 0 0)) (fqs []):=ew
theorem Ay {L:List Li}{f:Fg}{m:Li}(hf:FgG L f) (hl:f.1.sm) (hm:m.sm) (hv:f.2.le 46):Pu Tryz.prog 200 [ag (fqx f),lq m] (Ab.tup [fqs (bM f m).1,fqs (bM f m).2]):=by
 have d1:=sw hl hm 1 (.inl rfl);have d2:=sw hl hm (-1) (.inr rfl);have hsl:=nR (m:=m) hf;have hd:(eD f.1 m (-1)).2=(eD f.1 m 1).2:=by unfold eD;split <;> (try rfl);split <;> split <;> rfl
 have hh:∀side,(eD f.1 m side).1.length≤1∧∀s∈(eD f.1 m side).1,s.le 10000:=fun side=>by
  have h0:=ez;have hmt:=iT hl hm;have hpt:=jo hl hmt;unfold eD;split
  ·split
   ·exact⟨Nat.le_refl _,fun s hs=>by rw [List.mem_singleton.1 hs];exact⟨by show ht 0≤_;omega,by show ht 0≤_;omega⟩⟩
   ·exact⟨by simp,fun s hs=>by cases hs⟩
  ·split
   ·exact⟨Nat.le_refl _,fun s hs=>by rw [List.mem_singleton.1 hs];exact⟨by simp only;omega,by show ht 0≤_;omega⟩⟩
   ·exact⟨Nat.le_refl _,fun s hs=>by rw [List.mem_singleton.1 hs];exact⟨by show ht 0≤_;omega,by simp only;omega⟩⟩
 have e1:=oP 2 (.inr rfl) [f.2] (eD f.1 m 1).1 (by simp) (by have:=(hh 1).1;omega) (fun s hs=>by rw [List.mem_singleton.1 hs];exact⟨by have:=hv.1;omega,by have:=hv.2;omega⟩) (hh 1).2;have e2:=oP 2 (.inr rfl) [f.2] (eD f.1 m (-1)).1 (by simp) (by have:=(hh (-1)).1;omega) (fun s hs=>by rw [List.mem_singleton.1 hs];exact⟨by have:=hv.1;omega,by have:=hv.2;omega⟩) (hh (-1)).2;rw [hd]at d2;unfold bM at hsl⊢;clear hh hd;generalize(eD f.1 m 1).2=on at *;generalize jK 2 [f.2] (eD f.1 m 1).1=A at *;generalize jK 2 [f.2] (eD f.1 m (-1)).1=B at *;generalize(eD f.1 m 1).1=hA at *;generalize(eD f.1 m (-1)).1=hB at *;obtain⟨l,s⟩:=f;simp only at *;cases on with
 |true =>
  rw [if_pos rfl];clear hsl e1 e2 hf hv d2;refine Pi Tryz.func200 fun C=>?_
  repeat(first|(refine Wo (aF (sv:=ag _) rfl) ?_)|(refine Wdo (aF (sv:=ag _) rfl) ?_)|(refine Wo (bs (r:=[(0,[lit (.int .i64 1)]),(1,[lit (.int .i64 (-1))])]) (cs:=[lit (.int .i64 1),lit (.int .i64 (-1))]) (.cons (sv:=lit (.int .i64 1)) rfl inferInstance (.cons (sv:=lit (.int .i64 (-1))) rfl inferInstance .nil))) ?_)|(refine Wdo (bs (r:=[(0,[lit (.int .i64 1)]),(1,[lit (.int .i64 (-1))])]) (cs:=[lit (.int .i64 1),lit (.int .i64 (-1))]) (.cons (sv:=lit (.int .i64 1)) rfl inferInstance (.cons (sv:=lit (.int .i64 (-1))) rfl inferInstance .nil))) ?_)|(refine A1 ⟨?_⟩;intros))
  refine WP.unroll 1 (WPR.succ ?_);repeat(refine A1 ⟨?_⟩;intros)
  refine Wo (a8 (cs':=[lit (.int .i64 1)]) rfl rfl (by decide) (by decide) rfl (fun h=>by cases h)) ?_;repeat(first|(refine A1 ⟨?_⟩;intros)|refine W4 d1 ⟨?_⟩)
  ((first|refine aM ?_|refine eF ?_);exact fD (RV.tmp rfl) (RV.tmp rfl) (Le.tup2 zC zC))
 |false =>
  rw [if_neg (by decide)]at hsl⊢;simp only at hsl;rw [List.length_map,List.length_map]at hsl;obtain⟨h1,h2⟩:=hsl;refine Pi Tryz.func200 fun C=>?_
  repeat(first|(refine Wo (aF (sv:=ag _) rfl) ?_)|(refine Wdo (aF (sv:=ag _) rfl) ?_)|(refine Wo (bs (r:=[(0,[lit (.int .i64 1)]),(1,[lit (.int .i64 (-1))])]) (cs:=[lit (.int .i64 1),lit (.int .i64 (-1))]) (.cons (sv:=lit (.int .i64 1)) rfl inferInstance (.cons (sv:=lit (.int .i64 (-1))) rfl inferInstance .nil))) ?_)|(refine Wdo (bs (r:=[(0,[lit (.int .i64 1)]),(1,[lit (.int .i64 (-1))])]) (cs:=[lit (.int .i64 1),lit (.int .i64 (-1))]) (.cons (sv:=lit (.int .i64 1)) rfl inferInstance (.cons (sv:=lit (.int .i64 (-1))) rfl inferInstance .nil))) ?_)|(refine A1 ⟨?_⟩;intros))
  replace e1:Pu Tryz.prog 240 [lit (.int .i64 2),sl (spx s) 1,sps hA] (sps A):=e1;replace e2:Pu Tryz.prog 240 [lit (.int .i64 2),sl (spx s) 1,sps hB] (sps B):=e2;have l0:([]:List Spn).length=0:=rfl;have l1:∀w:Spn,[w].length=1:=fun _=>rfl
  clear hf hv hl hm;obtain rfl|⟨w,rfl⟩:=qR h1
  ·obtain rfl|⟨u,rfl⟩:=qR h2
   ·refine WP.unroll 3 (WPR.succ ?_);repeat(refine A1 ⟨?_⟩;intros)
    refine WPL.lowB (cs':=[xsl [] 0,xsl [] 0]) (.here _) ⟨ij,ij,trivial⟩ ?_;refine Wo (a8 (cs':=[lit (.int .i64 1)]) rfl rfl (by decide) (by decide) rfl (fun h=>by cases h)) ?_;repeat(first|(refine Wo (az (spx s) rfl) ?_)|(refine Wdo (az (spx s) rfl) ?_)|(refine A1 ⟨?_⟩;intros)|refine W4 d1 ⟨?_⟩|refine W4 e1 ⟨?_⟩)
    refine WP.unroll 1 (WPR.succ ?_);repeat(refine A1 ⟨?_⟩;intros)
    refine Wo (a8 (cs':=[lit (.int .i64 (-1))]) rfl rfl (by decide) (by decide) rfl (fun h=>by cases h)) ?_;repeat(first|(refine Wo (az (spx s) rfl) ?_)|(refine Wdo (az (spx s) rfl) ?_)|(refine A1 ⟨?_⟩;intros)|refine W4 d2 ⟨?_⟩|refine W4 e2 ⟨?_⟩)
    refine WP.unroll 1 (WPR.succ ?_);repeat(refine A1 ⟨?_⟩;intros)
    refine Wdo (dv (e:=218) (len:=2) kr rfl rfl om om) ?_;repeat(refine A1 ⟨?_⟩;intros)
    refine Wdo (dv (e:=218) (len:=2) kr rfl rfl om om) ?_;repeat(refine A1 ⟨?_⟩;intros)
    exact aM (fD (RV.tmp rfl) (RV.tmp rfl) (Le.tup2 qS qS))
   ·refine WP.unroll 3 (WPR.succ ?_);have lw:=l1 u;repeat(refine A1 ⟨?_⟩;intros)
    refine WPL.lowB (cs':=[xsl [] 0,xsl [] 0]) (.here _) ⟨ij,ij,trivial⟩ ?_;refine Wo (a8 (cs':=[lit (.int .i64 1)]) rfl rfl (by decide) (by decide) rfl (fun h=>by cases h)) ?_;repeat(first|(refine Wo (az (spx s) rfl) ?_)|(refine Wdo (az (spx s) rfl) ?_)|(refine A1 ⟨?_⟩;intros)|refine W4 d1 ⟨?_⟩|refine W4 e1 ⟨?_⟩)
    refine WP.unroll 1 (WPR.succ ?_);repeat(refine A1 ⟨?_⟩;intros)
    refine Wo (a8 (cs':=[lit (.int .i64 (-1))]) rfl rfl (by decide) (by decide) rfl (fun h=>by cases h)) ?_;repeat(first|(refine Wo (az (spx s) rfl) ?_)|(refine Wdo (az (spx s) rfl) ?_)|(refine A1 ⟨?_⟩;intros)|refine W4 d2 ⟨?_⟩|refine W4 e2 ⟨?_⟩)
    refine WP.unroll 2 (WPR.succ ?_);repeat(refine A1 ⟨?_⟩;intros)
    refine Wo (a8 (cs':=spx u) rfl rfl om om rfl (fun h=>by cases h)) ?_;repeat(first|(refine AS ⟨?_⟩;intros)|(refine O1 ⟨?_⟩;intros))
    refine WdN 10 ?_;repeat(refine A1 ⟨?_⟩;intros)
    refine Wdo (dv (e:=218) (len:=2) kr rfl rfl om om) ?_;repeat(first|(refine Wo (az (fqx (l,u)) rfl) ?_)|(refine Wdo (az (fqx (l,u)) rfl) ?_)|(refine Wo (ay (k:=0) (k0:=1) (ds:=fqx (l,u)) rfl rfl rfl rfl om) ?_)|(refine Wdo (ay (k:=0) (k0:=1) (ds:=fqx (l,u)) rfl rfl rfl rfl om) ?_)|(refine A1 ⟨?_⟩;intros))
    refine Wo (dv (e:=218) (len:=2) kr rfl rfl om om) ?_;repeat(refine A1 ⟨?_⟩;intros)
    refine Wdo (dv (e:=218) (len:=2) kr rfl rfl om om) ?_;repeat(refine A1 ⟨?_⟩;intros)
    refine Wdo (dv (e:=218) (len:=2) kr rfl rfl om om) ?_;repeat(refine A1 ⟨?_⟩;intros)
    exact aM (fD (RV.tmp rfl) (RV.tmp rfl) (Le.tup2 qS Lr))
  ·obtain rfl|⟨u,rfl⟩:=qR h2
   ·refine WP.unroll 3 (WPR.succ ?_);have lw:=l1 w;repeat(refine A1 ⟨?_⟩;intros)
    refine WPL.lowB (cs':=[xsl [] 0,xsl [] 0]) (.here _) ⟨ij,ij,trivial⟩ ?_;refine Wo (a8 (cs':=[lit (.int .i64 1)]) rfl rfl (by decide) (by decide) rfl (fun h=>by cases h)) ?_;repeat(first|(refine Wo (az (spx s) rfl) ?_)|(refine Wdo (az (spx s) rfl) ?_)|(refine A1 ⟨?_⟩;intros)|refine W4 d1 ⟨?_⟩|refine W4 e1 ⟨?_⟩)
    refine WP.unroll 2 (WPR.succ ?_);repeat(refine A1 ⟨?_⟩;intros)
    refine Wo (a8 (cs':=spx w) rfl rfl om om rfl (fun h=>by cases h)) ?_;repeat(first|(refine AS ⟨?_⟩;intros)|(refine O1 ⟨?_⟩;intros))
    refine WdN 10 ?_;repeat(refine A1 ⟨?_⟩;intros)
    refine Wdo (dv (e:=218) (len:=2) kr rfl rfl om om) ?_;repeat(first|(refine Wo (az (fqx (l,w)) rfl) ?_)|(refine Wdo (az (fqx (l,w)) rfl) ?_)|(refine Wo (ay (k:=0) (k0:=1) (ds:=fqx (l,w)) rfl rfl rfl rfl om) ?_)|(refine Wdo (ay (k:=0) (k0:=1) (ds:=fqx (l,w)) rfl rfl rfl rfl om) ?_)|(refine A1 ⟨?_⟩;intros))
    refine Wo (dv (e:=218) (len:=2) kr rfl rfl om om) ?_;repeat(refine A1 ⟨?_⟩;intros)
    refine Wo (a8 (cs':=[lit (.int .i64 (-1))]) rfl rfl (by decide) (by decide) rfl (fun h=>by cases h)) ?_;repeat(first|(refine Wo (az (spx s) rfl) ?_)|(refine Wdo (az (spx s) rfl) ?_)|(refine A1 ⟨?_⟩;intros)|refine W4 d2 ⟨?_⟩|refine W4 e2 ⟨?_⟩)
    refine WP.unroll 1 (WPR.succ ?_);repeat(refine A1 ⟨?_⟩;intros)
    refine Wdo (dv (e:=218) (len:=2) kr rfl rfl om om) ?_;repeat(refine A1 ⟨?_⟩;intros)
    refine Wdo (dv (e:=218) (len:=2) kr rfl rfl om om) ?_;repeat(refine A1 ⟨?_⟩;intros)
    exact aM (fD (RV.tmp rfl) (RV.tmp rfl) (Le.tup2 Lr qS))
   ·refine WP.unroll 3 (WPR.succ ?_);have lw:=l1 w;have lw:=l1 u;repeat(refine A1 ⟨?_⟩;intros)
    refine WPL.lowB (cs':=[xsl [] 0,xsl [] 0]) (.here _) ⟨ij,ij,trivial⟩ ?_;refine Wo (a8 (cs':=[lit (.int .i64 1)]) rfl rfl (by decide) (by decide) rfl (fun h=>by cases h)) ?_;repeat(first|(refine Wo (az (spx s) rfl) ?_)|(refine Wdo (az (spx s) rfl) ?_)|(refine A1 ⟨?_⟩;intros)|refine W4 d1 ⟨?_⟩|refine W4 e1 ⟨?_⟩)
    refine WP.unroll 2 (WPR.succ ?_);repeat(refine A1 ⟨?_⟩;intros)
    refine Wo (a8 (cs':=spx w) rfl rfl om om rfl (fun h=>by cases h)) ?_;repeat(first|(refine AS ⟨?_⟩;intros)|(refine O1 ⟨?_⟩;intros))
    refine WdN 10 ?_;repeat(refine A1 ⟨?_⟩;intros)
    refine Wdo (dv (e:=218) (len:=2) kr rfl rfl om om) ?_;repeat(first|(refine Wo (az (fqx (l,w)) rfl) ?_)|(refine Wdo (az (fqx (l,w)) rfl) ?_)|(refine Wo (ay (k:=0) (k0:=1) (ds:=fqx (l,w)) rfl rfl rfl rfl om) ?_)|(refine Wdo (ay (k:=0) (k0:=1) (ds:=fqx (l,w)) rfl rfl rfl rfl om) ?_)|(refine A1 ⟨?_⟩;intros))
    refine Wo (dv (e:=218) (len:=2) kr rfl rfl om om) ?_;repeat(refine A1 ⟨?_⟩;intros)
    refine Wo (a8 (cs':=[lit (.int .i64 (-1))]) rfl rfl (by decide) (by decide) rfl (fun h=>by cases h)) ?_;repeat(first|(refine Wo (az (spx s) rfl) ?_)|(refine Wdo (az (spx s) rfl) ?_)|(refine A1 ⟨?_⟩;intros)|refine W4 d2 ⟨?_⟩|refine W4 e2 ⟨?_⟩)
    refine WP.unroll 2 (WPR.succ ?_);repeat(refine A1 ⟨?_⟩;intros)
    refine Wo (a8 (cs':=spx u) rfl rfl om om rfl (fun h=>by cases h)) ?_;repeat(first|(refine AS ⟨?_⟩;intros)|(refine O1 ⟨?_⟩;intros))
    refine WdN 10 ?_;repeat(refine A1 ⟨?_⟩;intros)
    refine Wdo (dv (e:=218) (len:=2) kr rfl rfl om om) ?_;repeat(first|(refine Wo (az (fqx (l,u)) rfl) ?_)|(refine Wdo (az (fqx (l,u)) rfl) ?_)|(refine Wo (ay (k:=0) (k0:=1) (ds:=fqx (l,u)) rfl rfl rfl rfl om) ?_)|(refine Wdo (ay (k:=0) (k0:=1) (ds:=fqx (l,u)) rfl rfl rfl rfl om) ?_)|(refine A1 ⟨?_⟩;intros))
    refine Wo (dv (e:=218) (len:=2) kr rfl rfl om om) ?_;repeat(refine A1 ⟨?_⟩;intros)
    refine Wdo (dv (e:=218) (len:=2) kr rfl rfl om om) ?_;repeat(refine A1 ⟨?_⟩;intros)
    refine Wdo (dv (e:=218) (len:=2) kr rfl rfl om om) ?_;repeat(refine A1 ⟨?_⟩;intros)
    exact aM (fD (RV.tmp rfl) (RV.tmp rfl) (Le.tup2 Lr Lr))
end Go.Ab
