/- Texts laid one behind the other: GwF, GwG, TmB, Seg. -/
import Derived.Test.YtbcojehfealiaaaGreatDoorB32
set_option linter.all false
set_option maxHeartbeats 16000000
namespace Go.Ab
open Go.Proofs
variable [Base]
theorem pU {c:List Li}{i:Nat}{l:Li}(hc:∀m∈c,m.sm) (hi:c[i]? = some l):hp (atL l (aW (bS c i).1)) 120∧ht (aW (bS c i).1)≤96:=by
 obtain⟨h1,h2⟩:=xT hc hi;have h0:=fw;have h3:=fD;have h4:=vr (bS c i).1.lo (bS c i).1.hi h1 h2;have h5:=cI (bS c i).1.hi 1;have h6:=aI (bS c i).1.lo 1
 have hs:ht (aW (bS c i).1)≤96:=by
  unfold aW;split
  ·omega
  ·split
   ·omega
   ·split <;> omega
 have:=Gh (hc l (List.mem_of_getElem? hi)) hs;exact⟨⟨by have:=this.1;omega,by have:=this.2;omega⟩,hs⟩
theorem zy {c:List Li}{i:Nat}{l:Li}(hc:∀m∈c,m.sm) (hi:c[i]? = some l):hp (oh c i l) 883:=by
 have hd:=dC (hc l (List.mem_of_getElem? hi));exact EW hc (pU hc hi).1 ⟨by show ht (-(dirL l).2)≤1;rw [ck];exact hd.2,hd.1⟩
theorem rV {c:List Li}(hc:∀m∈c,m.sm):∀(r:List Li) (i:Nat) (p:Pq),(∀k l,r[k]? = some l→c[i+k]? = some l)→fv c i r=some p→hp p 883
 | [],_,_,_,h=>by cases h
 |l::r,i,p,hr,h=>by
  unfold fv at h;split at h
  ·cases h;exact zy hc (hr 0 l rfl)
  ·refine rV hc r (i+1) p (fun k m hk=>?_) h;rw [show i+1+k=i+(k+1) by omega];exact hr (k+1) m (by simpa using hk)
theorem CH {c:List Li}(hc:∀m∈c,m.sm):hp ((ci c).getD (0,0)) 883:=by
 have h0:=fw;cases h:ci c with
 |none=>exact⟨by show ht 0≤_;omega,by show ht 0≤_;omega⟩
 |some p =>
  unfold ci at h;split at h
  ·cases h;exact⟨by show ht 0≤_;omega,by show ht 0≤_;omega⟩
  ·exact rV hc c 0 p (fun k l hk=>by rw [Nat.zero_add];exact hk) h
theorem oY {c:List Li}(hc:∀m∈c,m.sm) (hn:c.length≤100000):Pu Tryz.prog 135 [lqs c] (Ab.tup [ag (rpx ((ci c).getD (0,0))),lit (.bool (ci c).isSome)]):=by
 by_cases h0:c=[]
 ·subst h0;have e:ci []=some (0,0):=rfl;rw [e];refine Pi Tryz.func135 fun C=>?_
  repeat(refine A1 ⟨?_⟩;intros)
  ((first|refine aS ?_|refine eV ?_);exact fF (s1:=ag yj) RVa (RV.tmp rfl) (Le.tup2 (Le.ag yk) Lr))
 have hR:ci c=fv c 0 c:=by unfold ci;rw [if_neg h0]
 have hpos:=List.length_pos_iff.2 h0;rw [hR];generalize hRR:fv c 0 c=R;refine Pi Tryz.func135 fun C=>?_
 repeat(refine A1 ⟨?_⟩;intros)
 rename_i b2
 refine WP.loopS (ι:=Nat) (fun k=>k≤c.length∧fv c k (c.drop k)=R) (fun k=>c.length-k)
  (fun k=>fm [(0,lqs c),(2,lit (.pointer (some ⟨b2,0,none⟩))),(13,lqs c),(14,lit (.int .i64 c.length)),(15,lit (.int .i64 k))])
  (fun _=>[(b2,70,yj)]) 0 ⟨Nat.zero_le _,hRR⟩ lfA Sr ?_
 rintro k ⟨hk,hgo⟩ K hK;by_cases hkl:k<c.length
 ·obtain⟨l,hget,hmm,hat,hne⟩:=elt fq om hkl;have hl:=hc l hmm;rw [i9 hget]at hgo;have hnext:=fun(h2:fv c (k+1) (c.drop (k+1))=R) F' H'=>hK F' H' (k+1) ⟨om,h2⟩ om
  unfold fv at hgo;have d1:=wN hc hn hget;obtain⟨a1,a2⟩:=pU hc hget;have hle:=xT hc hget;have d2:=iQ l hl.ile;have d3:=yD (bS c k).1 hle om;have d4:=E9 (l:=l) (t:=aW (bS c k).1) hl om;obtain⟨x1,x2⟩:=dC hl;have d5:=iP (dirL l).2 om;have d6:=DY c (atL l (aW (bS c k).1)) (-(dirL l).2,(dirL l).1) om hc a1 ⟨by show ht (-(dirL l).2)≤1;rw [ck];exact x2,x1⟩;clear hK hc hRR hmm hget a1 a2 hle x1 x2;cases hb:(bS c k).2 with
  |true =>
   rw [hb,if_pos rfl]at hgo;rw [hb]at d1;subst hgo;unfold oh;simp only [Option.getD_some,Option.isSome_some];simp only [dirL]at d5 d6⊢;generalize atL l (aW (bS c k).1)=q at *;generalize aW (bS c k).1=t at *;generalize(bS c k).1=s at *;clear hnext hb;repeat(refine A1 ⟨?_⟩;intros)
   refine Wo (aa (cs':=lqx l) rfl rfl om om hat hne) ?_;repeat(first|(refine A1 ⟨?_⟩;intros)|refine W4 d1 ⟨?_⟩|refine W4 d2 ⟨?_⟩|refine W4 d3 ⟨?_⟩|refine W4 d4 ⟨?_⟩|refine W4 d5 ⟨?_⟩|refine W4 d6 ⟨?_⟩)
   exact G3
  |false =>
   rw [hb,if_neg (by decide)]at hgo;rw [hb]at d1;replace hnext:=hnext hgo;generalize(bS c k).1=s at *;clear d2 d3 d4 d5 d6 hb hgo;repeat(refine A1 ⟨?_⟩;intros)
   refine Wo (aa (cs':=lqx l) rfl rfl om om hat hne) ?_;repeat(first|(refine A1 ⟨?_⟩;intros)|refine W4 d1 ⟨?_⟩)
   exact hnext _ _ lfA (by repeat(first|exact Sr|refine Sc ?_))
 ·have hke:k=c.length:=by omega
  subst hke;rw [List.drop_length]at hgo;have hR2:R=none:=hgo.symm;subst hR2;simp only [Option.getD_none,Option.isSome_none];clear hK hc hgo;repeat(refine A1 ⟨?_⟩;intros)
  ((first|refine aS ?_|refine eV ?_);exact fF (s1:=ag yj) RVa (RV.tmp rfl) (Le.tup2 (Le.ag yk) Lr))
theorem pZ {c:List Li}{k:Nat}:(List.range (k+1)).foldl (cN c) []=cN c ((List.range k).foldl (cN c) []) k:=by
 rw [List.range_succ,List.foldl_append];rfl
theorem oG (c:List Li) (out:List Li) (k:Nat):cN c out k=if(bS c k).2=true then gq alt out (c.getD k ⟨0,0,0⟩)else out:=rfl
theorem sC {c:List Li}{k:Nat}(hk:k≤c.length):∀y∈(List.range k).foldl (cN c) [],y∈c:=fun y hy=>by
 rcases(nj c (List.range k) [] y).1 hy with⟨i,hi,_,rfl⟩|h
 ·rw [List.mem_range]at hi;rw [List.getD,List.getElem?_eq_getElem (show i<c.length by omega)];exact List.getElem_mem _
 ·cases h
theorem nk {c:List Li}:∀k:Nat,((List.range k).foldl (cN c) []).length≤k
 |0=>Nat.le_refl _
 |k+1=>by
  have:=nk (c:=c) k;rw [pZ,oG];split
  ·have:=jM alt ((List.range k).foldl (cN c) []) (c.getD k ⟨0,0,0⟩);omega
  ·omega
theorem yL {c:List Li}(hc:∀m∈c,m.sm) (hn:c.length≤100000):Pu Tryz.prog 136 [lqs c] (Ab.tup [lqs (dF c),lit (.bool (decide (c=[]∨dF c≠[])))]):=by
 unfold dF;refine Pi Tryz.func136 fun C=>?_
 repeat(refine A1 ⟨?_⟩;intros)
 refine WP.loopS (ι:=Nat) (fun k=>k≤c.length) (fun k=>c.length-k)
  (fun k=>fm [(0,lqs c),(4,lqs ((List.range k).foldl (cN c) [])),(10,lqs c),(11,lit (.int .i64 c.length)),(12,lit (.int .i64 k))])
  (fun _=>[]) 0 (Nat.zero_le _) (LeF.cons Lr (LeF.cons ft lfA)) (List.nil_sublist _) ?_
 rintro k hk K hK;by_cases hkl:k<c.length
 ·obtain⟨l,hget,hmm,hat,hne⟩:=elt fq om hkl;have hl:=hc l hmm;have hgo:=fun F' H' h1 h2=>hK F' H' (k+1) om om h1 h2
  rw [pZ]at hgo;have hsm:∀q∈(List.range k).foldl (cN c) [],q.sm:=fun q hq=>hc q (sC om q hq)
  have hsl:=nk (c:=c) k;have d1:=wN hc hn hget;rw [oG]at hgo;rw [show c.getD k ⟨0,0,0⟩=l by rw [List.getD,hget];rfl]at hgo;generalize(List.range k).foldl (cN c) []=out at *;have dl:=iQ l hl.ile;clear hK hmm hget hc;cases hb:(bS c k).2 with
  |false =>
   rw [hb,if_neg (by decide)]at hgo;rw [hb]at d1;generalize(bS c k).1=s at *;clear hb dl hsm;repeat(refine A1 ⟨?_⟩;intros)
   refine Wo (aa (cs':=lqx l) rfl rfl om om hat hne) ?_;repeat(first|(refine A1 ⟨?_⟩;intros)|refine W4 d1 ⟨?_⟩)
   exact hgo _ _ lfA (by repeat(first|exact Sr|refine Sc ?_))
  |true =>
   rw [hb,if_pos rfl]at hgo;rw [hb]at d1;generalize(bS c k).1=s at *;clear hb;obtain⟨x,hx⟩:∃x,x=l:=⟨l,rfl⟩
   rw [←hx]at hgo;repeat(refine A1 ⟨?_⟩;intros)
   refine Wo (aa (cs':=lqx l) rfl rfl om om hat hne) ?_;repeat(first|(refine A1 ⟨?_⟩;intros)|refine W4 d1 ⟨?_⟩)
   rename_i b6 b7;subst hx;refine WP.loopS (ι:=Nat) (fun j=>j≤gh alt out x) (fun j=>out.length-j) (fun j=>fm [(4,sl (out.map lqx).flatten out.length),(9,lit (.int .i64 j)),(0,lqs c),(5,lit (.int .i64 k)),(6,lit (.pointer (some ⟨b6,0,none⟩))),(7,lit (.pointer (some ⟨b7,0,none⟩))),(10,lqs c),(11,lit (.int .i64 c.length)),(12,lit (.int .i64 k))]) (fun _=>[(b7,225,spx s),(b6,123,lqx x)]) 0 (Nat.zero_le _) lfA Sr ?_;rintro j hj K2 hK2;have hpl:=lI alt out x;obtain⟨hfl,hdl,htl,hpl2,hins,hln⟩:=Iw fq out x j om;by_cases hjl:j<out.length
   ·obtain⟨o,hget2,hom,hat2,hne2⟩:=elt fq om hjl;have ho:=hsm o hom;obtain⟨z,hzz⟩:∃z,z=mw (dirL o) (dirL x):=⟨_,rfl⟩
    have do':=iQ o ho.ile;have hdo:=dC ho;have hdx:=dC hl;have ca:=C7 (dirL o) (dirL x) ⟨by have:=hdo.1;omega,by have:=hdo.2;omega⟩ ⟨by have:=hdx.1;omega,by have:=hdx.2;omega⟩;have cc:=r9 (l:=o) (m:=x) ho.ile hl.ile;have hlt:alt o x=decide (z<0):=by rw [hzz]
    have heq:kz o x=0↔o=x:=dS;generalize kz o x=y at *;rw [←hzz]at ca;simp only [dirL]at do' dl ca;obtain⟨s1,s2⟩:=lH (lt:=alt) (x:=x) hj hget2;rw [hlt]at s1 s2;by_cases hneg:z<0
    ·have hj1:=s1 (decide_eq_true hneg);clear hgo s1 s2
     as_aux_lemma =>
      repeat(refine A1 ⟨?_⟩;intros)
      refine cT (aa (cs':=lqx o) rfl rfl om om hat2 hne2) ?_;repeat(first|(refine A1 ⟨?_⟩;intros)|refine W4 do' ⟨?_⟩|refine W4 dl ⟨?_⟩|refine W4 ca ⟨?_⟩|refine W4 cc ⟨?_⟩)
      exact hK2 _ _ (j+1) hj1 om lfA Sr
    ·have hje:=s2 (decide_eq_false hneg);clear hK2 s1 s2;by_cases hz:o=x
     ·rw [ql hje hget2 hz]at hgo;have hz0:=heq.2 hz;clear heq
      as_aux_lemma =>
       repeat(refine A1 ⟨?_⟩;intros)
       refine cT (aa (cs':=lqx o) rfl rfl om om hat2 hne2) ?_;repeat(first|(refine A1 ⟨?_⟩;intros)|refine W4 do' ⟨?_⟩|refine W4 dl ⟨?_⟩|refine W4 ca ⟨?_⟩|refine W4 cc ⟨?_⟩)
       refine cT (aa (cs':=lqx o) rfl rfl om om hat2 hne2) ?_;repeat(first|(refine A1 ⟨?_⟩;intros)|refine W4 do' ⟨?_⟩|refine W4 dl ⟨?_⟩|refine W4 ca ⟨?_⟩|refine W4 cc ⟨?_⟩)
       exact hgo _ _ lfA (by repeat(first|exact Sr|refine Sc ?_))
     ·rw [qm hje hget2 hz]at hgo;have hz0:¬y=0:=fun e=>hz (heq.1 e)
      clear heq
      as_aux_lemma =>
       repeat(refine A1 ⟨?_⟩;intros)
       refine cT (aa (cs':=lqx o) rfl rfl om om hat2 hne2) ?_;repeat(first|(refine A1 ⟨?_⟩;intros)|refine W4 do' ⟨?_⟩|refine W4 dl ⟨?_⟩|refine W4 ca ⟨?_⟩|refine W4 cc ⟨?_⟩)
       refine cT (aa (cs':=lqx o) rfl rfl om om hat2 hne2) ?_;repeat(first|(refine A1 ⟨?_⟩;intros)|refine W4 do' ⟨?_⟩|refine W4 dl ⟨?_⟩|refine W4 ca ⟨?_⟩|refine W4 cc ⟨?_⟩)
       refine Wdo (gB j rfl rfl rfl rfl rfl hfl om) ?_;repeat(first|(refine Wdo (iB (s:=ag (lqx x)) (ds:=lqx x) rfl inferInstance) ?_)|(refine Wdo (gA j rfl rfl rfl hfl om) ?_)|(refine A1 ⟨?_⟩;intros))
       refine Wdo (aG (k:=1) (k0:=out.length-j) rfl rfl rfl hdl om) ?_;refine Wdo (aG (k:=j) (k0:=1+(out.length-j)) rfl rfl htl hpl2 om) ?_;rw [hins,hln];repeat(refine A1 ⟨?_⟩;intros)
       exact hgo _ _ lfA (by repeat(first|exact Sr|refine Sc ?_))
   ·have hje:j=out.length:=by omega
    rw [o9 hje hj]at hgo;clear hK2
    as_aux_lemma =>
     repeat(refine A1 ⟨?_⟩;intros)
     refine Wdo (gB j rfl rfl rfl rfl rfl hfl om) ?_;repeat(first|(refine Wdo (iB (s:=ag (lqx x)) (ds:=lqx x) rfl inferInstance) ?_)|(refine Wdo (gA j rfl rfl rfl hfl om) ?_)|(refine A1 ⟨?_⟩;intros))
     refine Wdo (aG (k:=1) (k0:=out.length-j) rfl rfl rfl hdl om) ?_;refine Wdo (aG (k:=j) (k0:=1+(out.length-j)) rfl rfl htl hpl2 om) ?_;rw [hins,hln];repeat(refine A1 ⟨?_⟩;intros)
     exact hgo _ _ lfA (by repeat(first|exact Sr|refine Sc ?_))
 ·have hke:k=c.length:=by omega
  subst hke;clear hK;generalize(List.range c.length).foldl (cN c) []=out at *;cases c with
  |nil =>
   simp only [true_or,decide_true];repeat(refine A1 ⟨?_⟩;intros)
   exact G2
  |cons a c =>
   simp only [List.cons_ne_nil,false_or];cases out with
   |nil =>
    simp only [ne_eq,not_true_eq_false,decide_false];repeat(refine A1 ⟨?_⟩;intros)
    exact G2
   |cons b out =>
    have hbl:(b::out).length=out.length+1:=rfl;simp only [ne_eq,List.cons_ne_nil,not_false_eq_true,decide_true];repeat(refine A1 ⟨?_⟩;intros)
    exact G2
abbrev lT:TypeId:=123
abbrev pT:TypeId:=70
theorem oT (c:List Li) (l:Li):((c++[l]).map lqx).flatten=(c.map lqx).flatten++lqx l:=by
 rw [List.map_append,List.flatten_append];simp
theorem ll {c:List Li}{l:Li}(hc:∀m∈c,m.sm) (hl:l.sm):∀m∈c++[l],m.sm:=fun m hm=>by
 rcases List.mem_append.1 hm with h|h
 ·exact hc m h
 ·rw [List.mem_singleton.1 h];exact hl
theorem pe (c:List Li):((c.map lqx).flatten).length=c.length*6:=cJ fq c
theorem wB {c:List Li}{l:Li}(hc:∀m∈c,m.sm) (hl:l.sm) (hn:c.length≤90000):Pu Tryz.prog 82 [lqs c,lq l] (lqs (gE c l)):=by
 have d1:=yL (ll hc hl) (by rw [List.length_append,List.length_singleton];omega)
 have hsl:lqs (c++[l])=sl ((c.map lqx).flatten++lqx l) (c.length+1):=by
  show sl ((c++[l]).map lqx).flatten (c++[l]).length=_
  rw [oT,List.length_append,List.length_singleton]
 rw [hsl]at d1;show Pu _ _ _ (lqs (dF (c++[l])))
 generalize dF (c++[l])=q at *;generalize decide (c++[l]=[]∨q≠[])=bb at *;have hfl:=pe c;by_cases h0:c=[]
 ·subst h0;clear hsl hc hl;refine Pi Tryz.func82 fun C=>?_
  repeat(first|(refine AS ⟨?_⟩;intros)|(refine O1 ⟨?_⟩;intros))
  repeat(first|(refine Wo (lL) ?_)|(refine Wdo (lL) ?_)|(refine Wo (jE rfl rfl) ?_)|(refine Wdo (jE rfl rfl) ?_)|(refine Wo (cg (r:=[(0,lqx l)]) (cs:=lqx l) (.cons (sv:=ag (lqx l)) rfl inferInstance .nil)) ?_)|(refine Wdo (cg (r:=[(0,lqx l)]) (cs:=lqx l) (.cons (sv:=ag (lqx l)) rfl inferInstance .nil)) ?_)|(refine Wo (aG (k:=0) (k0:=1) (ds:=lqx l) rfl rfl rfl rfl om) ?_)|(refine Wdo (aG (k:=0) (k0:=1) (ds:=lqx l) rfl rfl rfl rfl om) ?_)|(refine A1 ⟨?_⟩;intros)|refine W4 d1 ⟨?_⟩)
  exact E1
 ·have hpos:=List.length_pos_iff.2 h0;clear hsl hc hl h0;refine Pi Tryz.func82 fun C=>?_
  repeat(first|(refine AS ⟨?_⟩;intros)|(refine O1 ⟨?_⟩;intros))
  rename_i b3;refine KN 12 [0,1,3,4,2,5,6,7,8,9,10,11] [5] 2 10 (fun sv X=>Own lT 6 c.length (c.map lqx).flatten sv X) [] _ ?_;refine YkD 4 ?_;repeat(first|(refine Wo (iU) ?_)|(refine Wdo (iU) ?_)|(refine Wo (cg (r:=[(0,lqx l)]) (cs:=lqx l) (.cons (sv:=ag (lqx l)) rfl inferInstance .nil)) ?_)|(refine Wdo (cg (r:=[(0,lqx l)]) (cs:=lqx l) (.cons (sv:=ag (lqx l)) rfl inferInstance .nil)) ?_)|(refine A1 ⟨?_⟩;intros))
  refine zj ?_;refine LU rfl rfl rfl hfl om om ?_ (hyx:=fun h=>by cases h);refine LV rfl om (fun sv=>?_) rfl (hyx:=fun h=>by cases h);refine YkD 6 ?_;repeat(first|(refine A1 ⟨?_⟩;intros)|refine W4 d1 ⟨?_⟩)
  refine zj ?_;refine KM ?_;exact Z1
abbrev KQ:List SV:=yj
theorem BW {c:List Li}{l:Li}(hc:∀m∈c,m.sm) (hl:l.sm) (hn:c.length≤90000):Pu Tryz.prog 80 [lqs c,lq l] (lit (.int .i64 (jZ c l))):=by
 have d1:=oY (ll hc hl) (by rw [List.length_append,List.length_singleton];omega);have d2:=oY (ll hc hl.neg) (by rw [List.length_append,List.length_singleton];omega);have d3:=qe l hl.ile
 have hsl:∀m:Li,lqs (c++[m])=sl ((c.map lqx).flatten++lqx m) (c.length+1):=fun m=>by
  show sl ((c++[m]).map lqx).flatten (c++[m]).length=_
  rw [oT,List.length_append,List.length_singleton]
 rw [hsl]at d1 d2;unfold jZ;generalize ci (c++[l])=q1 at *;generalize ci (c++[l.neg])=q2 at *;generalize q1.getD (0,0)=p1 at *;generalize q2.getD (0,0)=p2 at *;generalize q1.isSome=s1 at *;generalize q2.isSome=s2 at *;have hfl:=pe c;by_cases h0:c=[]
 ·subst h0;clear hsl hc hl;cases s1 <;> cases s2
  all_goals
   simp only [Bool.false_eq_true,if_false,if_true];refine Pi Tryz.func80 fun C=>?_
   repeat(first|(refine AS ⟨?_⟩;intros)|(refine O1 ⟨?_⟩;intros))
   repeat(first|(refine Wo (lL) ?_)|(refine Wdo (lL) ?_)|(refine Wo (jE rfl rfl) ?_)|(refine Wdo (jE rfl rfl) ?_)|(refine Wo (cg (r:=[(0,lqx l)]) (cs:=lqx l) (.cons (sv:=ag (lqx l)) rfl inferInstance .nil)) ?_)|(refine Wdo (cg (r:=[(0,lqx l)]) (cs:=lqx l) (.cons (sv:=ag (lqx l)) rfl inferInstance .nil)) ?_)|(refine Wo (cg (r:=[(0,lqx l.neg)]) (cs:=lqx l.neg) (.cons (sv:=ag (lqx l.neg)) rfl inferInstance .nil)) ?_)|(refine Wdo (cg (r:=[(0,lqx l.neg)]) (cs:=lqx l.neg) (.cons (sv:=ag (lqx l.neg)) rfl inferInstance .nil)) ?_)|(refine Wo (aG (k:=0) (k0:=1) (ds:=lqx l) rfl rfl rfl rfl om) ?_)|(refine Wdo (aG (k:=0) (k0:=1) (ds:=lqx l) rfl rfl rfl rfl om) ?_)|(refine Wo (aG (k:=0) (k0:=1) (ds:=lqx l.neg) rfl rfl rfl rfl om) ?_)|(refine Wdo (aG (k:=0) (k0:=1) (ds:=lqx l.neg) rfl rfl rfl rfl om) ?_)|(refine A1 ⟨?_⟩;intros)|refine W4 d1 ⟨?_⟩|refine W4 d2 ⟨?_⟩|refine W4 d3 ⟨?_⟩)
   exact E1
 ·have hpos:=List.length_pos_iff.2 h0;clear hsl hc hl h0;cases s1 <;> cases s2
  all_goals
   simp only [Bool.false_eq_true,if_false,if_true];refine Pi Tryz.func80 fun C=>?_
   repeat(first|(refine AS ⟨?_⟩;intros)|(refine O1 ⟨?_⟩;intros))
   rename_i b3;refine KN 12 [10,0,1,3,4,2,5,6,7,8,9,11] [2,5,11] 10 5 (fun sv X=>∃b,sv=lit (.pointer (some ⟨b,0,none⟩))∧X=[(b,pT,KQ)]) [] _ ?_;refine Lv rfl ?_;refine YkD 4 ?_;repeat(first|(refine Wo (iU) ?_)|(refine Wdo (iU) ?_)|(refine Wo (cg (r:=[(0,lqx l)]) (cs:=lqx l) (.cons (sv:=ag (lqx l)) rfl inferInstance .nil)) ?_)|(refine Wdo (cg (r:=[(0,lqx l)]) (cs:=lqx l) (.cons (sv:=ag (lqx l)) rfl inferInstance .nil)) ?_)|(refine A1 ⟨?_⟩;intros))
   refine zj ?_;refine YkE rfl rfl hfl om om (fun s' H' hown=>?_) (hyx:=fun h=>by cases h);refine YkP hown om ?_;refine YkD 4 ?_;repeat(first|(refine A1 ⟨?_⟩;intros)|refine W4 d1 ⟨?_⟩)
   refine zj ?_;refine Lw (sv:=ag (rpx p1)) (ds:=rpx p1) rfl (fun b5=>?_) rfl (hvx:=fun h=>by cases h);refine KM ?_;repeat(first|(refine AS ⟨?_⟩;intros)|(refine O1 ⟨?_⟩;intros))
   refine KN 13 [11,0,1,3,2,4,5,6,7,8,9,10,12] [2,6,12] 11 7 (fun sv X=>∃b,sv=lit (.pointer (some ⟨b,0,none⟩))∧X=[(b,pT,KQ)]) [] _ ?_;refine Lv rfl ?_;refine YkD 3 ?_;repeat(first|(refine Wo (iU) ?_)|(refine Wdo (iU) ?_)|(refine A1 ⟨?_⟩;intros))
   refine zj ?_;refine YkE rfl rfl hfl om om (fun s' H' hown=>?_) (hyx:=fun h=>by cases h);refine YkD 2 ?_;repeat(first|(refine Wo (cg (r:=[(0,lqx l.neg)]) (cs:=lqx l.neg) (.cons (sv:=ag (lqx l.neg)) rfl inferInstance .nil)) ?_)|(refine Wdo (cg (r:=[(0,lqx l.neg)]) (cs:=lqx l.neg) (.cons (sv:=ag (lqx l.neg)) rfl inferInstance .nil)) ?_)|(refine A1 ⟨?_⟩;intros)|refine W4 d3 ⟨?_⟩)
   refine zj ?_;refine YkP hown om ?_;refine YkD 4 ?_;repeat(first|(refine A1 ⟨?_⟩;intros)|refine W4 d2 ⟨?_⟩)
   refine zj ?_;refine Lw (sv:=ag (rpx p2)) (ds:=rpx p2) rfl (fun b7=>?_) rfl (hvx:=fun h=>by cases h);refine KM ?_;exact Y1 d1
theorem E2 (l:Li) (a b:Tr) (hl:l.le 1000000):Pu Tryz.prog 81 [lq l,rt a,rt b] (rt (rR l a b)):=by
 cases a with
 |leaf i =>
  cases b with
  |leaf j =>
   show Pu _ _ _ (rt (if i=j then .leaf i else .node l (.leaf i) (.leaf j)))
   cases i <;> cases j
   all_goals
    first|rw [if_pos rfl]|rw [if_neg (by decide)]
    simp only [rt,lz,ly]at *;refine Pi Tryz.func81 fun C=>?_
    repeat(first|(refine Wo (bh (sv:=ag _) rfl) ?_)|(refine Wdo (bh (sv:=ag _) rfl) ?_)|(refine A1 ⟨?_⟩;intros))
    exact E1
  |node m x y =>
   show Pu _ _ _ (rt (.node l (.leaf i) (.node m x y)))
   simp only [rt,lz,ly]at *;refine Pi Tryz.func81 fun C=>?_
   repeat(first|(refine Wo (bh (sv:=ag _) rfl) ?_)|(refine Wdo (bh (sv:=ag _) rfl) ?_)|(refine A1 ⟨?_⟩;intros))
   exact E1
 |node m x y =>
  show Pu _ _ _ (rt (.node l (.node m x y) b))
  simp only [rt,lz,ly]at *;refine Pi Tryz.func81 fun C=>?_
  repeat(first|(refine Wo (bh (sv:=ag _) rfl) ?_)|(refine Wdo (bh (sv:=ag _) rfl) ?_)|(refine A1 ⟨?_⟩;intros))
  exact E1
theorem w9 {c:List Li}{l:Li}(hc:∀m∈c,m.sm) (hl:l.sm):∀m∈gE c l,m.sm:=fun m hm =>
 ll hc hl m (sC (Nat.le_refl _) m hm)
theorem sW (c:List Li) (l:Li):(gE c l).length≤c.length+1:=by
 exact Nat.le_trans (nk (c:=c++[l]) (c++[l]).length) (by simp)
theorem jy:∀(t:Tr) (c:List Li),(t.all fun l=>l.sm)→(∀m∈c,m.sm)→c.length+fj t≤90000→Pu Tryz.prog 79 [rt t,lqs c] (rt (cG t c))
 | .leaf i,c,_,_,_=>by
  show Pu _ _ _ (rt (.leaf i))
  simp only [rt,lz]at *;refine Pi Tryz.func79 fun C=>?_
  exact Z1
 | .node l a b,c,hall,hc,hd=>by
  have hd':c.length+(1+max (fj a) (fj b))≤90000:=hd;have p0:=BW hc hall.1 om;have d3:=jy a c hall.2.1 hc om;have d4:=jy b c hall.2.2 hc om;have n1:=sW c l;have n2:=sW c l.neg;have w1:=wB hc hall.1 om;have w2:=wB hc hall.1.neg om;have d0:=qe l hall.1.ile;have d5:=jy a (gE c l) hall.2.1 (w9 hc hall.1) om;have d6:=jy b (gE c l.neg) hall.2.2 (w9 hc hall.1.neg) om;have d7:=E2 l (cG a (gE c l)) (cG b (gE c l.neg)) hall.1.ile;unfold cG;clear hd hd' n1 n2 hc hall;generalize cG a c=ra at *;generalize cG b c=rb at *;generalize cG a (gE c l)=ra' at *;generalize cG b (gE c l.neg)=rb' at *;generalize rR l ra' rb'=rj at *;generalize gE c l=c1 at *;generalize gE c l.neg=c2 at *;have en:rt (.node l a b)=pt (rc (.node l a b)):=rfl;rw [en,ly];clear en;generalize jZ c l=z at *;by_cases h1:z=1
  ·rw [if_pos h1];refine Pi Tryz.func79 fun C=>?_
   exact Y2 p0 d3
  ·rw [if_neg h1];by_cases h2:z = -1
   ·rw [if_pos h2];refine Pi Tryz.func79 fun C=>?_
    exact Y2 p0 d4
   ·rw [if_neg h2];refine Pi Tryz.func79 fun C=>?_
    repeat(first|(refine A1 ⟨?_⟩;intros)|refine W4 p0 ⟨?_⟩|refine W4 w1 ⟨?_⟩|refine W4 d0 ⟨?_⟩|refine W4 w2 ⟨?_⟩|refine W4 d5 ⟨?_⟩|refine W4 d6 ⟨?_⟩|refine W4 d7 ⟨?_⟩)
    exact E1
theorem yE (t:Tr) (h:t.all fun l=>l.sm) (hd:fj t≤90000):Pu Tryz.prog 60 [rt t] (rt (cG t [])):=by
 have c:=jy t [] h (fun m h=>by cases h) (by simpa using hd);have c':=c.arg (l':=[rt t,lit (.slice none 0 0)]) ⟨Le.refl _,ft,trivial⟩;clear c h hd;refine Pi Tryz.func60 fun C=>?_
 exact Y1 c'
abbrev RPs:=List (List Li×Bool)
def pE:Tr→List Li→RPs
 | .leaf i,c=>if c=[]∨dF c≠[]then [(dF c,i)]else []
 | .node l a b,c=>if c=[]∨dF c≠[]then pE a (dF c++[l])++pE b (dF c++[l.neg])else []
def uK (p q:Pq):Fg:=(thr p.1 p.2 q.1 q.2,⟨bo (thr p.1 p.2 q.1 q.2) p,bo (thr p.1 p.2 q.1 q.2) q,false,false⟩)
theorem zA (z:Int) (h:z.natAbs≤4000000000):il z≤1:=bC (k:=1) (by simp;omega)
theorem DC (x y u v:Int):thr (x:Rat) y u v=dV ((-(v-y):Int):Rat) ((u-x:Int):Rat) (((v-y)*x-(u-x)*y:Int):Rat):=by
 unfold thr;push_cast
 congr 1 <;> grind
theorem qW {p q:Pq}(hp:Iq p) (hq:Iq q) (h:p≠q):(thr p.1 p.2 q.1 q.2).sm:=by
 obtain⟨x,y,rfl,hx,hy⟩:=hp;obtain⟨u,v,rfl,hu,hv⟩:=hq
 have hne:u-x≠0∨v-y≠0:=by
  by_cases h1:u-x=0
  ·right;intro h2;exact h (kg.2 ⟨om,om⟩)
  ·exact .inl h1
 show(thr (x:Rat) y u v).sm
 rw [DC];have hne' : -(v-y)≠0∨u-x≠0:=by clear hx hy hu hv h;omega
 have hm1:((v-y)*x).natAbs≤2000*1000:=by rw [Int.natAbs_mul];exact Nat.mul_le_mul om hx
 have hm2:((u-x)*y).natAbs≤2000*1000:=by rw [Int.natAbs_mul];exact Nat.mul_le_mul om hy
 obtain⟨q1,q2,q3⟩:=wT ((v-y)*x-(u-x)*y) hne'
 have hok:(dV ((-(v-y):Int):Rat) ((u-x:Int):Rat) (((v-y)*x-(u-x)*y:Int):Rat)).ok:=qg (by
  rcases hne' with h|h
  ·exact .inl fun e=>h (jK.1 e)
  ·exact .inr fun e=>h (jK.1 e))
 clear hne hne' h;generalize(v-y)*x=e1 at *;generalize(u-x)*y=e2 at *;generalize dV ((-(v-y):Int):Rat) ((u-x:Int):Rat) ((e1-e2:Int):Rat)=r at *;exact⟨hok,zA _ om,zA _ om,zA _ om⟩
theorem JI {p q:Pq}(hp:Iq p) (hq:Iq q) (h:p≠q):bo (thr p.1 p.2 q.1 q.2) p<bo (thr p.1 p.2 q.1 q.2) q:=by
 have hok:=(qW hp hq h).1
 have hne:q.1-p.1≠0∨q.2-p.2≠0:=by
  by_cases h1:q.1-p.1=0
  ·right;intro h2;exact h (Prod.ext (by grind) (by grind))
  ·exact .inl h1
 have h1:=iT hok p;have h2:=iT hok q;have n0:=cC hok
 have key:0<q.1*(thr p.1 p.2 q.1 q.2).b-q.2*(thr p.1 p.2 q.1 q.2).a-(p.1*(thr p.1 p.2 q.1 q.2).b-p.2*(thr p.1 p.2 q.1 q.2).a):=by
  unfold thr
  have hn' : -(q.2-p.2)≠0∨q.1-p.1≠0:=by
   rcases hne with h|h
   ·exact .inr h
   ·left;grind
  obtain⟨e1,e2,_⟩:=iS (c := -(-(q.2-p.2)*p.1+(q.1-p.1)*p.2)) hn';have gp:=kT (c := -(-(q.2-p.2)*p.1+(q.1-p.1)*p.2)) hn';rw [←e1,←e2];have ip:=Rat.inv_pos.2 gp;have sq:=uG hne;generalize(g3 (-(q.2-p.2)) (q.1-p.1) (-(-(q.2-p.2)*p.1+(q.1-p.1)*p.2)))⁻¹=g at *;have:=Rat.mul_pos ip sq;grind
 generalize(thr p.1 p.2 q.1 q.2)=l at *;generalize bo l p=s at *;generalize bo l q=t at *;by_cases c:s<t
 ·exact c
 ·exfalso;have:=Rat.mul_nonneg (show 0≤s-t by grind) (Rat.le_of_lt n0);grind
theorem JK {L:List Li}{p q:Pq}(hp:Iq p) (hq:Iq q) (h:p≠q) (hL:thr p.1 p.2 q.1 q.2∈L):FgG L (uK p q):=by
 have hlt:=JI hp hq h
 have hn:¬(0≤(bo (thr p.1 p.2 q.1 q.2) p-bo (thr p.1 p.2 q.1 q.2) q).num.sign):=fun e=>by
  have:=jx.1 e;grind
 refine⟨(qW hp hq h).1,hL,⟨(fun e=>by cases e),(fun e=>by cases e),fun _ _=>hlt⟩,?_⟩;unfold ef uK;simp [hn]
theorem JJ {p q:Pq}(hp:Iq p) (hq:Iq q) (h:p≠q):(uK p q).2.le 16:=by
 have hl:=qW hp hq h;exact⟨k8 (n:=1) hl hp.ht,k8 (n:=1) hl hq.ht⟩
def dk (l:List Pq):List Fg:=(List.range l.length).map fun i=>uK (l.getD i (0,0)) (l.getD ((i+1)%l.length) (0,0))
theorem oz (l:List Pq):(dk l).length=l.length:=by unfold dk;simp
theorem yJ {l:List Pq}(h:iu l){i:Nat}(hi:i<l.length):Iq (l.getD i (0,0))∧Iq (l.getD ((i+1)%l.length) (0,0))∧l.getD i (0,0)≠l.getD ((i+1)%l.length) (0,0):=by
 have hj:(i+1)%l.length<l.length:=Nat.mod_lt _ om;have e1:l[i]? = some (l.getD i (0,0)):=by rw [List.getD,List.getElem?_eq_getElem hi];rfl
 have e2:l[(i+1)%l.length]? = some (l.getD ((i+1)%l.length) (0,0)):=by rw [List.getD,List.getElem?_eq_getElem hj];rfl
 exact⟨h.2.1 _ (List.mem_of_getElem? e1),h.2.1 _ (List.mem_of_getElem? e2),h.2.2.2 i _ _ e1 e2⟩
theorem vQ {l:List Pq}(h:iu l):∀f∈dk l,f.1.sm∧f.2.le 16∧∀L,f.1∈L→FgG L f:=fun f hf=>by
 obtain⟨i,hi,rfl⟩:=List.mem_map.1 hf;rw [List.mem_range]at hi;obtain⟨h1,h2,h3⟩:=yJ h hi;exact⟨qW h1 h2 h3,JJ h1 h2 h3,fun L hL=>JK h1 h2 h3 hL⟩
theorem Ii (x y:Rat):rL x y=x∨rL x y=y:=by unfold rL;split;exact .inl rfl;exact .inr rfl
theorem Ic (x y:Rat):rI x y=x∨rI x y=y:=by unfold rI;split;exact .inl rfl;exact .inr rfl
theorem yw {v w:Spn}{n:Nat}(hv:v.le n) (hw:w.le n):(dG v w).le n:=by
 obtain⟨v1,v2⟩:=hv;obtain⟨w1,w2⟩:=hw;unfold dG;constructor
 ·show ht (if v.nl then w.lo else if w.nl then v.lo else rL v.lo w.lo)≤n
  split
  ·exact w1
  ·split
   ·exact v1
   ·rcases Ii v.lo w.lo with e|e <;> rw [e] <;> assumption
 ·show ht (if v.nh then w.hi else if w.nh then v.hi else rI v.hi w.hi)≤n
  split
  ·exact w2
  ·split
   ·exact v2
   ·rcases Ic v.hi w.hi with e|e <;> rw [e] <;> assumption
theorem IK {l m:Li}{v w:Spn}(hl:l.sm) (hm:m.sm) (hv:v.le 46) (h:dZ l v m=some w):w.le 46:=by
 have hz:=fw
 have hx:slp l m≠0→ht (-(a8 m (aD l)/slp l m))≤46:=fun hs=>by
  have hd:bH l m≠0:=fun e=>hs (by rw [lm]at e;grind)
  have h1:=kN hl hm;have h2:=k8 hl h1
  have e : -(a8 m (aD l)/slp l m)=bo l (aY l m):=by
   have e1:=su hs (bo l (aY l m));have e2:=nC hl.1 hd (bo l (aY l m));have e3:(bo l (aY l m)-bo l (aY l m))*slp l m=0:=by grind
   rw [e3]at e2;rw [e2]at e1;rcases Rat.mul_eq_zero.1 e1.symm with e|e
   ·grind
   ·exact absurd e hs
  rw [e];omega
 unfold dZ at h;split at h
 ·split at h
  ·cases h;exact hv
  ·cases h
 ·rename_i hs;have hs':slp l m≠0:=fun e=>hs (by rw [e];rfl)
  have hq:=hx hs';split at h
  ·cases h
  ·cases h;refine yw hv ?_;unfold hlf;split
   ·exact⟨hq,by show ht 0≤46;omega⟩
   ·exact⟨by show ht 0≤46;omega,hq⟩
theorem BJ {L:List Li}{f:Fg}{m:Li}(hf:FgG L f) (hl:f.1.sm) (hm:m.sm) (hv:f.2.le 46):(∀g∈(bM f m).1,g.2.le 46)∧∀g∈(bM f m).2,g.2.le 46:=by
 rw [ie hf.g hf.b hf.ok]
 have key:∀x:Li,x.sm→∀g∈((dZ f.1 f.2 x).toList).map (fun s=>(f.1,s)),g.2.le 46:=fun x hx g hg=>by
  obtain⟨w,hw,rfl⟩:=List.mem_map.1 hg;rw [Option.mem_toList]at hw;exact IK hl hx hv hw
 exact⟨key m hm,key m.neg hm.neg⟩
end Go.Ab
