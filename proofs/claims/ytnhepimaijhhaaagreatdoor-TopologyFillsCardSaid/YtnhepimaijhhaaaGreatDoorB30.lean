/- Texts laid one behind the other: GwF, GwG, TmB. -/
import Derived.Test.YtnhepimaijhhaaaGreatDoorB29
set_option linter.all false
set_option maxHeartbeats 16000000
namespace Go.Ab
open Go.Proofs
variable [Base]
theorem qv {c:List Li}{i:Nat}{l:Li}(hc:∀m∈c,m.sm) (hi:c[i]? = some l):hp (atL l (aV (bX c i).1)) 120∧ht (aV (bX c i).1)≤96:=by
 obtain⟨h1,h2⟩:=yX hc hi;have h0:=gZ;have h3:=gP;have h4:=wz (bX c i).1.lo (bX c i).1.hi h1 h2;have h5:=ef (bX c i).1.hi 1;have h6:=dp (bX c i).1.lo 1
 have hs:ht (aV (bX c i).1)≤96:=by
  unfold aV;split
  ·omega
  ·split
   ·omega
   ·split <;> omega
 have:=HD (hc l (List.mem_of_getElem? hi)) hs;exact⟨⟨by have:=this.1;omega,by have:=this.2;omega⟩,hs⟩
theorem Ay {c:List Li}{i:Nat}{l:Li}(hc:∀m∈c,m.sm) (hi:c[i]? = some l):hp (oP c i l) 883:=by
 have hd:=dN (hc l (List.mem_of_getElem? hi));exact FQ hc (qv hc hi).1 ⟨by show ht (-(aK l).2)≤1;rw [cz];exact hd.2,hd.1⟩
theorem tg {c:List Li}(hc:∀m∈c,m.sm):∀(r:List Li) (i:Nat) (p:Pq),(∀k l,r[k]? = some l→c[i+k]? = some l)→fG c i r=some p→hp p 883
 | [],_,_,_,h=>by cases h
 |l::r,i,p,hr,h=>by
  unfold fG at h;split at h
  ·cases h;exact Ay hc (hr 0 l rfl)
  ·refine tg hc r (i+1) p (fun k m hk=>?_) h;rw [show i+1+k=i+(k+1) by omega];exact hr (k+1) m (by simpa using hk)
theorem Dq {c:List Li}(hc:∀m∈c,m.sm):hp ((cI c).getD (0,0)) 883:=by
 have h0:=gZ;cases h:cI c with
 |none=>exact⟨by show ht 0≤_;omega,by show ht 0≤_;omega⟩
 |some p =>
  unfold cI at h;split at h
  ·cases h;exact⟨by show ht 0≤_;omega,by show ht 0≤_;omega⟩
  ·exact tg hc c 0 p (fun k l hk=>by rw [Nat.zero_add];exact hk) h
theorem pD {c:List Li}(hc:∀m∈c,m.sm) (hn:c.length≤100000):Pu Tryz.prog 93 [lqs c] (Ab.tup [ag (rpx ((cI c).getD (0,0))),lit (.bool (cI c).isSome)]):=by
 by_cases h0:c=[]
 ·subst h0;have e:cI []=some (0,0):=rfl;rw [e];refine Pi Tryz.func93 fun C=>?_
  repeat(refine A1 ⟨?_⟩;intros)
  ((first|refine aS ?_|refine eV ?_);exact fQ (s1:=ag zy) RVa (RV.tmp rfl) (Le.tup2 (Le.ag zz) Lr))
 have hR:cI c=fG c 0 c:=by unfold cI;rw [if_neg h0]
 have hpos:=List.length_pos_iff.2 h0;rw [hR];generalize hRR:fG c 0 c=R;refine Pi Tryz.func93 fun C=>?_
 repeat(refine A1 ⟨?_⟩;intros)
 rename_i b2
 refine WP.loopS (ι:=Nat) (fun k=>k≤c.length∧fG c k (c.drop k)=R) (fun k=>c.length-k)
  (fun k=>fm [(0,lqs c),(2,lit (.pointer (some ⟨b2,0,none⟩))),(13,lqs c),(14,lit (.int .i64 c.length)),(15,lit (.int .i64 k))])
  (fun _=>[(b2,103,zy)]) 0 ⟨Nat.zero_le _,hRR⟩ lfA Sr ?_
 rintro k ⟨hk,hgo⟩ K hK;by_cases hkl:k<c.length
 ·obtain⟨l,hget,hmm,hat,hne⟩:=elt dI om hkl;have hl:=hc l hmm;rw [f9 hget]at hgo;have hnext:=fun(h2:fG c (k+1) (c.drop (k+1))=R) F' H'=>hK F' H' (k+1) ⟨om,h2⟩ om
  unfold fG at hgo;have d1:=xR hc hn hget;obtain⟨a1,a2⟩:=qv hc hget;have hle:=yX hc hget;have d2:=gU l hl.ile;have d3:=zP (bX c k).1 hle om;have d4:=EX (l:=l) (t:=aV (bX c k).1) hl om;obtain⟨x1,x2⟩:=dN hl;have d5:=iM (aK l).2 om;have d6:=EM c (atL l (aV (bX c k).1)) (-(aK l).2,(aK l).1) om hc a1 ⟨by show ht (-(aK l).2)≤1;rw [cz];exact x2,x1⟩;clear hK hc hRR hmm hget a1 a2 hle x1 x2;cases hb:(bX c k).2 with
  |true =>
   rw [hb,if_pos rfl]at hgo;rw [hb]at d1;subst hgo;unfold oP;simp only [Option.getD_some,Option.isSome_some];simp only [aK]at d5 d6⊢;generalize atL l (aV (bX c k).1)=q at *;generalize aV (bX c k).1=t at *;generalize(bX c k).1=s at *;clear hnext hb;repeat(refine A1 ⟨?_⟩;intros)
   refine Wo (a7 (cs':=lqx l) rfl rfl om om hat hne) ?_;repeat(first|(refine A1 ⟨?_⟩;intros)|refine W4 d1 ⟨?_⟩|refine W4 d2 ⟨?_⟩|refine W4 d3 ⟨?_⟩|refine W4 d4 ⟨?_⟩|refine W4 d5 ⟨?_⟩|refine W4 d6 ⟨?_⟩)
   exact G3
  |false =>
   rw [hb,if_neg (by decide)]at hgo;rw [hb]at d1;replace hnext:=hnext hgo;generalize(bX c k).1=s at *;clear d2 d3 d4 d5 d6 hb hgo;repeat(refine A1 ⟨?_⟩;intros)
   refine Wo (a7 (cs':=lqx l) rfl rfl om om hat hne) ?_;repeat(first|(refine A1 ⟨?_⟩;intros)|refine W4 d1 ⟨?_⟩)
   exact hnext _ _ lfA (by repeat(first|exact Sr|refine Sc ?_))
 ·have hke:k=c.length:=by omega
  subst hke;rw [List.drop_length]at hgo;have hR2:R=none:=hgo.symm;subst hR2;simp only [Option.getD_none,Option.isSome_none];clear hK hc hgo;repeat(refine A1 ⟨?_⟩;intros)
  ((first|refine aS ?_|refine eV ?_);exact fQ (s1:=ag zy) RVa (RV.tmp rfl) (Le.tup2 (Le.ag zz) Lr))
theorem qD {c:List Li}{k:Nat}:(List.range (k+1)).foldl (dc c) []=dc c ((List.range k).foldl (dc c) []) k:=by
 rw [List.range_succ,List.foldl_append];rfl
theorem p9 (c:List Li) (out:List Li) (k:Nat):dc c out k=if(bX c k).2=true then gO alt out (c.getD k ⟨0,0,0⟩)else out:=rfl
theorem nK {c:List Li}{k:Nat}(hk:k≤c.length):∀y∈(List.range k).foldl (dc c) [],y∈c:=fun y hy=>by
 rcases(nJ c (List.range k) [] y).1 hy with⟨i,hi,_,rfl⟩|h
 ·rw [List.mem_range]at hi;rw [List.getD,List.getElem?_eq_getElem (show i<c.length by omega)];exact List.getElem_mem _
 ·cases h
theorem kY {c:List Li}:∀k:Nat,((List.range k).foldl (dc c) []).length≤k
 |0=>Nat.le_refl _
 |k+1=>by
  have:=kY (c:=c) k;rw [qD,p9];split
  ·have:=kj alt ((List.range k).foldl (dc c) []) (c.getD k ⟨0,0,0⟩);omega
  ·omega
theorem n6 {c:List Li}(hc:∀m∈c,m.sm) (hn:c.length≤100000):Pu Tryz.prog 107 [lqs c] (Ab.tup [lqs (aZ c),lit (.bool (decide (c=[]∨aZ c≠[])))]):=by
 unfold aZ;refine Pi Tryz.func107 fun C=>?_
 repeat(refine A1 ⟨?_⟩;intros)
 refine WP.loopS (ι:=Nat) (fun k=>k≤c.length) (fun k=>c.length-k)
  (fun k=>fm [(0,lqs c),(4,lqs ((List.range k).foldl (dc c) [])),(10,lqs c),(11,lit (.int .i64 c.length)),(12,lit (.int .i64 k))])
  (fun _=>[]) 0 (Nat.zero_le _) (LeF.cons Lr (LeF.cons dJ lfA)) (List.nil_sublist _) ?_
 rintro k hk K hK;by_cases hkl:k<c.length
 ·obtain⟨l,hget,hmm,hat,hne⟩:=elt dI om hkl;have hl:=hc l hmm;have hgo:=fun F' H' h1 h2=>hK F' H' (k+1) om om h1 h2
  rw [qD]at hgo;have hsm:∀q∈(List.range k).foldl (dc c) [],q.sm:=fun q hq=>hc q (nK om q hq)
  have hsl:=kY (c:=c) k;have d1:=xR hc hn hget;rw [p9]at hgo;rw [show c.getD k ⟨0,0,0⟩=l by rw [List.getD,hget];rfl]at hgo;generalize(List.range k).foldl (dc c) []=out at *;have dl:=gU l hl.ile;clear hK hmm hget hc;cases hb:(bX c k).2 with
  |false =>
   rw [hb,if_neg (by decide)]at hgo;rw [hb]at d1;generalize(bX c k).1=s at *;clear hb dl hsm;repeat(refine A1 ⟨?_⟩;intros)
   refine Wo (a7 (cs':=lqx l) rfl rfl om om hat hne) ?_;repeat(first|(refine A1 ⟨?_⟩;intros)|refine W4 d1 ⟨?_⟩)
   exact hgo _ _ lfA (by repeat(first|exact Sr|refine Sc ?_))
  |true =>
   rw [hb,if_pos rfl]at hgo;rw [hb]at d1;generalize(bX c k).1=s at *;clear hb;obtain⟨x,hx⟩:∃x,x=l:=⟨l,rfl⟩
   rw [←hx]at hgo;repeat(refine A1 ⟨?_⟩;intros)
   refine Wo (a7 (cs':=lqx l) rfl rfl om om hat hne) ?_;repeat(first|(refine A1 ⟨?_⟩;intros)|refine W4 d1 ⟨?_⟩)
   rename_i b6 b7;subst hx;refine WP.loopS (ι:=Nat) (fun j=>j≤gI alt out x) (fun j=>out.length-j) (fun j=>fm [(4,sl (out.map lqx).flatten out.length),(9,lit (.int .i64 j)),(0,lqs c),(5,lit (.int .i64 k)),(6,lit (.pointer (some ⟨b6,0,none⟩))),(7,lit (.pointer (some ⟨b7,0,none⟩))),(10,lqs c),(11,lit (.int .i64 c.length)),(12,lit (.int .i64 k))]) (fun _=>[(b7,119,spx s),(b6,53,lqx x)]) 0 (Nat.zero_le _) lfA Sr ?_;rintro j hj K2 hK2;have hpl:=mn alt out x;obtain⟨hfl,hdl,htl,hpl2,hins,hln⟩:=Jv dI out x j om;by_cases hjl:j<out.length
   ·obtain⟨o,hget2,hom,hat2,hne2⟩:=elt dI om hjl;have ho:=hsm o hom;obtain⟨z,hzz⟩:∃z,z=qi (aK o) (aK x):=⟨_,rfl⟩
    have do':=gU o ho.ile;have hdo:=dN ho;have hdx:=dN hl;have ca:=CM (aK o) (aK x) ⟨by have:=hdo.1;omega,by have:=hdo.2;omega⟩ ⟨by have:=hdx.1;omega,by have:=hdx.2;omega⟩;have cc:=jV (l:=o) (m:=x) ho.ile hl.ile;have hlt:alt o x=decide (z<0):=by rw [hzz]
    have heq:im o x=0↔o=x:=el;generalize im o x=y at *;rw [←hzz]at ca;simp only [aK]at do' dl ca;obtain⟨s1,s2⟩:=ml (lt:=alt) (x:=x) hj hget2;rw [hlt]at s1 s2;by_cases hneg:z<0
    ·have hj1:=s1 (decide_eq_true hneg);clear hgo s1 s2;repeat(refine A1 ⟨?_⟩;intros)
     refine bH (a7 (cs':=lqx o) rfl rfl om om hat2 hne2) ?_;repeat(first|(refine A1 ⟨?_⟩;intros)|refine W4 do' ⟨?_⟩|refine W4 dl ⟨?_⟩|refine W4 ca ⟨?_⟩|refine W4 cc ⟨?_⟩)
     exact hK2 _ _ (j+1) hj1 om lfA Sr
    ·have hje:=s2 (decide_eq_false hneg);clear hK2 s1 s2;by_cases hz:o=x
     ·rw [rf hje hget2 hz]at hgo;have hz0:=heq.2 hz;clear heq;repeat(refine A1 ⟨?_⟩;intros)
      refine bH (a7 (cs':=lqx o) rfl rfl om om hat2 hne2) ?_;repeat(first|(refine A1 ⟨?_⟩;intros)|refine W4 do' ⟨?_⟩|refine W4 dl ⟨?_⟩|refine W4 ca ⟨?_⟩|refine W4 cc ⟨?_⟩)
      refine bH (a7 (cs':=lqx o) rfl rfl om om hat2 hne2) ?_;repeat(first|(refine A1 ⟨?_⟩;intros)|refine W4 do' ⟨?_⟩|refine W4 dl ⟨?_⟩|refine W4 ca ⟨?_⟩|refine W4 cc ⟨?_⟩)
      exact hgo _ _ lfA (by repeat(first|exact Sr|refine Sc ?_))
     ·rw [rg hje hget2 hz]at hgo;have hz0:¬y=0:=fun e=>hz (heq.1 e)
      clear heq;repeat(refine A1 ⟨?_⟩;intros)
      refine bH (a7 (cs':=lqx o) rfl rfl om om hat2 hne2) ?_;repeat(first|(refine A1 ⟨?_⟩;intros)|refine W4 do' ⟨?_⟩|refine W4 dl ⟨?_⟩|refine W4 ca ⟨?_⟩|refine W4 cc ⟨?_⟩)
      refine bH (a7 (cs':=lqx o) rfl rfl om om hat2 hne2) ?_;repeat(first|(refine A1 ⟨?_⟩;intros)|refine W4 do' ⟨?_⟩|refine W4 dl ⟨?_⟩|refine W4 ca ⟨?_⟩|refine W4 cc ⟨?_⟩)
      refine Wdo (gW j rfl rfl rfl rfl rfl hfl om) ?_;repeat(first|(refine Wdo (j5 (s:=ag (lqx x)) (ds:=lqx x) rfl inferInstance) ?_)|(refine Wdo (gV j rfl rfl rfl hfl om) ?_)|(refine A1 ⟨?_⟩;intros))
      refine Wdo (az (k:=1) (k0:=out.length-j) rfl rfl rfl hdl om) ?_;refine Wdo (az (k:=j) (k0:=1+(out.length-j)) rfl rfl htl hpl2 om) ?_;rw [hins,hln];repeat(refine A1 ⟨?_⟩;intros)
      exact hgo _ _ lfA (by repeat(first|exact Sr|refine Sc ?_))
   ·have hje:j=out.length:=by omega
    rw [oN hje hj]at hgo;clear hK2;repeat(refine A1 ⟨?_⟩;intros)
    refine Wdo (gW j rfl rfl rfl rfl rfl hfl om) ?_;repeat(first|(refine Wdo (j5 (s:=ag (lqx x)) (ds:=lqx x) rfl inferInstance) ?_)|(refine Wdo (gV j rfl rfl rfl hfl om) ?_)|(refine A1 ⟨?_⟩;intros))
    refine Wdo (az (k:=1) (k0:=out.length-j) rfl rfl rfl hdl om) ?_;refine Wdo (az (k:=j) (k0:=1+(out.length-j)) rfl rfl htl hpl2 om) ?_;rw [hins,hln];repeat(refine A1 ⟨?_⟩;intros)
    exact hgo _ _ lfA (by repeat(first|exact Sr|refine Sc ?_))
 ·have hke:k=c.length:=by omega
  subst hke;clear hK;generalize(List.range c.length).foldl (dc c) []=out at *;cases c with
  |nil =>
   simp only [true_or,decide_true];repeat(refine A1 ⟨?_⟩;intros)
   exact G2
  |cons a c =>
   simp only [List.cons_ne_nil,false_or];cases out with
   |nil =>
    simp only [ne_eq,not_true_eq_false,decide_false];repeat(refine A1 ⟨?_⟩;intros)
    exact G2
   |cons b out =>
    have hbl:(b::out).length=out.length+1:=rfl;simp only [ne_eq,List.cons_ne_nil,not_false_eq_true,decide_true];repeat(refine A1 ⟨?_⟩;intros)
    exact G2
abbrev lT:TypeId:=53
abbrev pT:TypeId:=103
theorem mc (c:List Li) (l:Li):((c++[l]).map lqx).flatten=(c.map lqx).flatten++lqx l:=by
 rw [List.map_append,List.flatten_append];simp
theorem gT {c:List Li}{l:Li}(hc:∀m∈c,m.sm) (hl:l.sm):∀m∈c++[l],m.sm:=fun m hm=>by
 rcases List.mem_append.1 hm with h|h
 ·exact hc m h
 ·rw [List.mem_singleton.1 h];exact hl
theorem iW (c:List Li):((c.map lqx).flatten).length=c.length*6:=cT dI c
theorem o8 {c:List Li}{l:Li}(hc:∀m∈c,m.sm) (hl:l.sm) (hn:c.length≤90000):Pu Tryz.prog 80 [lqs c,lq l] (lqs (cq c l)):=by
 have d1:=n6 (gT hc hl) (by rw [List.length_append,List.length_singleton];omega)
 have hsl:lqs (c++[l])=sl ((c.map lqx).flatten++lqx l) (c.length+1):=by
  show sl ((c++[l]).map lqx).flatten (c++[l]).length=_
  rw [mc,List.length_append,List.length_singleton]
 rw [hsl]at d1;show Pu _ _ _ (lqs (aZ (c++[l])))
 generalize aZ (c++[l])=q at *;generalize decide (c++[l]=[]∨q≠[])=bb at *;have hfl:=iW c;by_cases h0:c=[]
 ·subst h0;clear hsl hc hl;refine Pi Tryz.func80 fun C=>?_
  repeat(first|(refine AS ⟨?_⟩;intros)|(refine O1 ⟨?_⟩;intros))
  repeat(first|(refine Wo (jn) ?_)|(refine Wdo (jn) ?_)|(refine Wo (fw rfl rfl) ?_)|(refine Wdo (fw rfl rfl) ?_)|(refine Wo (aX (r:=[(0,lqx l)]) (cs:=lqx l) (.cons (sv:=ag (lqx l)) rfl inferInstance .nil)) ?_)|(refine Wdo (aX (r:=[(0,lqx l)]) (cs:=lqx l) (.cons (sv:=ag (lqx l)) rfl inferInstance .nil)) ?_)|(refine Wo (az (k:=0) (k0:=1) (ds:=lqx l) rfl rfl rfl rfl om) ?_)|(refine Wdo (az (k:=0) (k0:=1) (ds:=lqx l) rfl rfl rfl rfl om) ?_)|(refine A1 ⟨?_⟩;intros)|refine W4 d1 ⟨?_⟩)
  exact E1
 ·have hpos:=List.length_pos_iff.2 h0;clear hsl hc hl h0;refine Pi Tryz.func80 fun C=>?_
  repeat(first|(refine AS ⟨?_⟩;intros)|(refine O1 ⟨?_⟩;intros))
  rename_i b3;refine Ls 12 [0,1,3,4,2,5,6,7,8,9,10,11] [5] 2 10 (fun sv X=>Own lT 6 c.length (c.map lqx).flatten sv X) [] _ ?_;refine YkD 4 ?_;repeat(first|(refine Wo (gX) ?_)|(refine Wdo (gX) ?_)|(refine Wo (aX (r:=[(0,lqx l)]) (cs:=lqx l) (.cons (sv:=ag (lqx l)) rfl inferInstance .nil)) ?_)|(refine Wdo (aX (r:=[(0,lqx l)]) (cs:=lqx l) (.cons (sv:=ag (lqx l)) rfl inferInstance .nil)) ?_)|(refine A1 ⟨?_⟩;intros))
  refine Ak ?_;refine ME rfl rfl rfl hfl om om ?_ (hyx:=fun h=>by cases h);refine MF rfl om (fun sv=>?_) rfl (hyx:=fun h=>by cases h);refine YkD 6 ?_;repeat(first|(refine A1 ⟨?_⟩;intros)|refine W4 d1 ⟨?_⟩)
  refine Ak ?_;refine Lq ?_;exact Z1
abbrev Lw:List SV:=zy
theorem uz {c:List Li}{l:Li}(hc:∀m∈c,m.sm) (hl:l.sm) (hn:c.length≤90000):Pu Tryz.prog 78 [lqs c,lq l] (lit (.int .i64 (fo c l))):=by
 have d1:=pD (gT hc hl) (by rw [List.length_append,List.length_singleton];omega);have d2:=pD (gT hc hl.neg) (by rw [List.length_append,List.length_singleton];omega);have d3:=jk l hl.ile
 have hsl:∀m:Li,lqs (c++[m])=sl ((c.map lqx).flatten++lqx m) (c.length+1):=fun m=>by
  show sl ((c++[m]).map lqx).flatten (c++[m]).length=_
  rw [mc,List.length_append,List.length_singleton]
 rw [hsl]at d1 d2;unfold fo;generalize cI (c++[l])=q1 at *;generalize cI (c++[l.neg])=q2 at *;generalize q1.getD (0,0)=p1 at *;generalize q2.getD (0,0)=p2 at *;generalize q1.isSome=s1 at *;generalize q2.isSome=s2 at *;have hfl:=iW c;by_cases h0:c=[]
 ·subst h0;clear hsl hc hl;cases s1 <;> cases s2
  all_goals
   simp only [Bool.false_eq_true,if_false,if_true];refine Pi Tryz.func78 fun C=>?_
   repeat(first|(refine AS ⟨?_⟩;intros)|(refine O1 ⟨?_⟩;intros))
   repeat(first|(refine Wo (jn) ?_)|(refine Wdo (jn) ?_)|(refine Wo (fw rfl rfl) ?_)|(refine Wdo (fw rfl rfl) ?_)|(refine Wo (aX (r:=[(0,lqx l)]) (cs:=lqx l) (.cons (sv:=ag (lqx l)) rfl inferInstance .nil)) ?_)|(refine Wdo (aX (r:=[(0,lqx l)]) (cs:=lqx l) (.cons (sv:=ag (lqx l)) rfl inferInstance .nil)) ?_)|(refine Wo (aX (r:=[(0,lqx l.neg)]) (cs:=lqx l.neg) (.cons (sv:=ag (lqx l.neg)) rfl inferInstance .nil)) ?_)|(refine Wdo (aX (r:=[(0,lqx l.neg)]) (cs:=lqx l.neg) (.cons (sv:=ag (lqx l.neg)) rfl inferInstance .nil)) ?_)|(refine Wo (az (k:=0) (k0:=1) (ds:=lqx l) rfl rfl rfl rfl om) ?_)|(refine Wdo (az (k:=0) (k0:=1) (ds:=lqx l) rfl rfl rfl rfl om) ?_)|(refine Wo (az (k:=0) (k0:=1) (ds:=lqx l.neg) rfl rfl rfl rfl om) ?_)|(refine Wdo (az (k:=0) (k0:=1) (ds:=lqx l.neg) rfl rfl rfl rfl om) ?_)|(refine A1 ⟨?_⟩;intros)|refine W4 d1 ⟨?_⟩|refine W4 d2 ⟨?_⟩|refine W4 d3 ⟨?_⟩)
   exact E1
 ·have hpos:=List.length_pos_iff.2 h0;clear hsl hc hl h0;cases s1 <;> cases s2
  all_goals
   simp only [Bool.false_eq_true,if_false,if_true];refine Pi Tryz.func78 fun C=>?_
   repeat(first|(refine AS ⟨?_⟩;intros)|(refine O1 ⟨?_⟩;intros))
   rename_i b3;refine Ls 12 [10,0,1,3,4,2,5,6,7,8,9,11] [2,5,11] 10 5 (fun sv X=>∃b,sv=lit (.pointer (some ⟨b,0,none⟩))∧X=[(b,pT,Lw)]) [] _ ?_;refine Md rfl ?_;refine YkD 4 ?_;repeat(first|(refine Wo (gX) ?_)|(refine Wdo (gX) ?_)|(refine Wo (aX (r:=[(0,lqx l)]) (cs:=lqx l) (.cons (sv:=ag (lqx l)) rfl inferInstance .nil)) ?_)|(refine Wdo (aX (r:=[(0,lqx l)]) (cs:=lqx l) (.cons (sv:=ag (lqx l)) rfl inferInstance .nil)) ?_)|(refine A1 ⟨?_⟩;intros))
   refine Ak ?_;refine YkE rfl rfl hfl om om (fun s' H' hown=>?_) (hyx:=fun h=>by cases h);refine YkP hown om ?_;refine YkD 4 ?_;repeat(first|(refine A1 ⟨?_⟩;intros)|refine W4 d1 ⟨?_⟩)
   refine Ak ?_;refine Me (sv:=ag (rpx p1)) (ds:=rpx p1) rfl (fun b5=>?_) rfl (hvx:=fun h=>by cases h);refine Lq ?_;repeat(first|(refine AS ⟨?_⟩;intros)|(refine O1 ⟨?_⟩;intros))
   refine Ls 13 [11,0,1,3,2,4,5,6,7,8,9,10,12] [2,6,12] 11 7 (fun sv X=>∃b,sv=lit (.pointer (some ⟨b,0,none⟩))∧X=[(b,pT,Lw)]) [] _ ?_;refine Md rfl ?_;refine YkD 3 ?_;repeat(first|(refine Wo (gX) ?_)|(refine Wdo (gX) ?_)|(refine A1 ⟨?_⟩;intros))
   refine Ak ?_;refine YkE rfl rfl hfl om om (fun s' H' hown=>?_) (hyx:=fun h=>by cases h);refine YkD 2 ?_;repeat(first|(refine Wo (aX (r:=[(0,lqx l.neg)]) (cs:=lqx l.neg) (.cons (sv:=ag (lqx l.neg)) rfl inferInstance .nil)) ?_)|(refine Wdo (aX (r:=[(0,lqx l.neg)]) (cs:=lqx l.neg) (.cons (sv:=ag (lqx l.neg)) rfl inferInstance .nil)) ?_)|(refine A1 ⟨?_⟩;intros)|refine W4 d3 ⟨?_⟩)
   refine Ak ?_;refine YkP hown om ?_;refine YkD 4 ?_;repeat(first|(refine A1 ⟨?_⟩;intros)|refine W4 d2 ⟨?_⟩)
   refine Ak ?_;refine Me (sv:=ag (rpx p2)) (ds:=rpx p2) rfl (fun b7=>?_) rfl (hvx:=fun h=>by cases h);refine Lq ?_;exact Y1 d1
theorem xM (l:Li) (a b:Tr) (hl:l.le 1000000):Pu Tryz.prog 79 [lq l,rt a,rt b] (rt (ez l a b)):=by
 cases a with
 |leaf i =>
  cases b with
  |leaf j =>
   show Pu _ _ _ (rt (if i=j then .leaf i else .node l (.leaf i) (.leaf j)))
   cases i <;> cases j
   all_goals
    first|rw [if_pos rfl]|rw [if_neg (by decide)]
    simp only [rt,gf,eN]at *;refine Pi Tryz.func79 fun C=>?_
    repeat(first|(refine Wo (aB (sv:=ag _) rfl) ?_)|(refine Wdo (aB (sv:=ag _) rfl) ?_)|(refine A1 ⟨?_⟩;intros))
    exact E1
  |node m x y =>
   show Pu _ _ _ (rt (.node l (.leaf i) (.node m x y)))
   simp only [rt,gf,eN]at *;refine Pi Tryz.func79 fun C=>?_
   repeat(first|(refine Wo (aB (sv:=ag _) rfl) ?_)|(refine Wdo (aB (sv:=ag _) rfl) ?_)|(refine A1 ⟨?_⟩;intros))
   exact E1
 |node m x y =>
  show Pu _ _ _ (rt (.node l (.node m x y) b))
  simp only [rt,gf,eN]at *;refine Pi Tryz.func79 fun C=>?_
  repeat(first|(refine Wo (aB (sv:=ag _) rfl) ?_)|(refine Wdo (aB (sv:=ag _) rfl) ?_)|(refine A1 ⟨?_⟩;intros))
  exact E1
theorem nS {c:List Li}{l:Li}(hc:∀m∈c,m.sm) (hl:l.sm):∀m∈cq c l,m.sm:=fun m hm =>
 gT hc hl m (nK (Nat.le_refl _) m hm)
theorem lZ (c:List Li) (l:Li):(cq c l).length≤c.length+1:=by
 exact Nat.le_trans (kY (c:=c++[l]) (c++[l]).length) (by simp)
theorem iV:∀(t:Tr) (c:List Li),(t.all fun l=>l.sm)→(∀m∈c,m.sm)→c.length+aU t≤90000→Pu Tryz.prog 67 [rt t,lqs c] (rt (a8 t c))
 | .leaf i,c,_,_,_=>by
  show Pu _ _ _ (rt (.leaf i))
  simp only [rt,gf]at *;refine Pi Tryz.func67 fun C=>?_
  exact Z1
 | .node l a b,c,hall,hc,hd=>by
  have hd':c.length+(1+max (aU a) (aU b))≤90000:=hd;have p0:=uz hc hall.1 om;have d3:=iV a c hall.2.1 hc om;have d4:=iV b c hall.2.2 hc om;have n1:=lZ c l;have n2:=lZ c l.neg;have w1:=o8 hc hall.1 om;have w2:=o8 hc hall.1.neg om;have d0:=jk l hall.1.ile;have d5:=iV a (cq c l) hall.2.1 (nS hc hall.1) om;have d6:=iV b (cq c l.neg) hall.2.2 (nS hc hall.1.neg) om;have d7:=xM l (a8 a (cq c l)) (a8 b (cq c l.neg)) hall.1.ile;unfold a8;clear hd hd' n1 n2 hc hall;generalize a8 a c=ra at *;generalize a8 b c=rb at *;generalize a8 a (cq c l)=ra' at *;generalize a8 b (cq c l.neg)=rb' at *;generalize ez l ra' rb'=rj at *;generalize cq c l=c1 at *;generalize cq c l.neg=c2 at *;have en:rt (.node l a b)=pt (rc (.node l a b)):=rfl;rw [en,eN];clear en;generalize fo c l=z at *;by_cases h1:z=1
  ·rw [if_pos h1];refine Pi Tryz.func67 fun C=>?_
   exact Y2 p0 d3
  ·rw [if_neg h1];by_cases h2:z = -1
   ·rw [if_pos h2];refine Pi Tryz.func67 fun C=>?_
    exact Y2 p0 d4
   ·rw [if_neg h2];refine Pi Tryz.func67 fun C=>?_
    repeat(first|(refine A1 ⟨?_⟩;intros)|refine W4 p0 ⟨?_⟩|refine W4 w1 ⟨?_⟩|refine W4 d0 ⟨?_⟩|refine W4 w2 ⟨?_⟩|refine W4 d5 ⟨?_⟩|refine W4 d6 ⟨?_⟩|refine W4 d7 ⟨?_⟩)
    exact E1
theorem mh:∀t:Tr,(t.all fun l=>l.sm)→Pu Tryz.prog 34 [rt t] (rt (aN t))
 | .leaf i,_=>by
  have c:=cP (!i);show Pu _ _ _ (rt (.leaf (!i)))
  have en:rt (.leaf i)=pt (rc (.leaf i)):=rfl;rw [en,gf];refine Pi Tryz.func34 fun C=>?_
  exact Y1 c
 | .node l a b,h=>by
  have c1:=mh a h.2.1;have c2:=mh b h.2.2;show Pu _ _ _ (rt (.node l (aN a) (aN b)))
  have en:rt (.node l a b)=pt (rc (.node l a b)):=rfl;rw [en,eN];generalize aN a=na at *;generalize aN b=nb at *;clear h en;refine Pi Tryz.func34 fun C=>?_
  repeat(first|(refine Wo (aB (sv:=ag _) rfl) ?_)|(refine Wdo (aB (sv:=ag _) rfl) ?_)|(refine A1 ⟨?_⟩;intros)|refine W4 c1 ⟨?_⟩|refine W4 c2 ⟨?_⟩)
  exact E1
theorem fL (t:Tr) (h:t.all fun l=>l.sm) (hd:aU t≤90000):Pu Tryz.prog 30 [rt t] (rt (a8 t [])):=by
 have c:=iV t [] h (fun m h=>by cases h) (by simpa using hd);have c':=c.arg (l':=[rt t,lit (.slice none 0 0)]) ⟨Le.refl _,dJ,trivial⟩;clear c h hd;refine Pi Tryz.func30 fun C=>?_
 exact Y1 c'
abbrev RPs:=List (List Li×Bool)
def aF:Tr→List Li→RPs
 | .leaf i,c=>if c=[]∨aZ c≠[]then [(aZ c,i)]else []
 | .node l a b,c=>if c=[]∨aZ c≠[]then aF a (aZ c++[l])++aF b (aZ c++[l.neg])else []
abbrev tM (p:List Li×Bool):List SV:=[lqs p.1,lit (.bool p.2)]
theorem Hj (p:List Li×Bool):(tM p).length=2:=rfl
abbrev Lj:TypeId:=151
theorem mK {c:List Li}(h:∀m∈c,m.sm):∀m∈aZ c,m.sm:=fun m hm=>h m (nK (Nat.le_refl _) m hm)
theorem nL (c:List Li):(aZ c).length≤c.length:=kY (c:=c) c.length
theorem dU:∀(t:Tr) (c:List Li),(aF t c).length≤ap t
 | .leaf i,c=>by unfold aF ap;split <;> simp
 | .node l a b,c=>by
  unfold aF ap;have h1:=dU a (aZ c++[l]);have h2:=dU b (aZ c++[l.neg]);split
  ·rw [List.length_append];omega
  ·simp
theorem Hk (a b:RPs):((a++b).map tM).flatten=(a.map tM).flatten++(b.map tM).flatten:=by rw [List.map_append,List.flatten_append]
theorem xZ {cs:List SV}{A B:RPs}{r:SV}{H:LH}(e:cs=(A.map tM).flatten++(B.map tM).flatten) (h:Own Lj 2 (A.length+B.length) cs r H):Own Lj 2 (A++B).length ((A++B).map tM).flatten r H:=by
 rw [Hk,List.length_append,←e];exact h
theorem pF:∀(t:Tr) (c:List Li),(t.all fun l=>l.sm)→(∀m∈c,m.sm)→c.length+aU t≤90000→ap t≤1000000→
  PuH Tryz.prog 68 [rt t,lqs c] [] (fun r H'=>Own Lj 2 (aF t c).length ((aF t c).map tM).flatten r H') noX
 | .leaf i,c,_,hc,hd,_=>by
  have d1:=n6 hc om;unfold aF;have en:rt (.leaf i)=pt (rc (.leaf i)):=rfl;rw [en,gf];by_cases hb:c=[]∨aZ c≠[]
  ·rw [if_pos hb];rw [decide_eq_true hb]at d1;generalize aZ c=s at *;clear hb hc en;refine PuH.intro Tryz.func68 rfl kr fun C hC=>?_
   repeat(first|(refine A1 ⟨?_⟩;intros)|refine W4 d1 ⟨?_⟩)
   exact cH _ _ (aC (RV.tmp rfl) Lr) Sr (Own.one rfl (Nat.le_refl 1) (by unfold maxLen;omega) rfl)
  ·rw [if_neg hb];rw [decide_eq_false hb]at d1;generalize aZ c=s at *;clear hb hc en;refine PuH.intro Tryz.func68 rfl kr fun C hC=>?_
   repeat(first|(refine A1 ⟨?_⟩;intros)|refine W4 d1 ⟨?_⟩)
   exact cH _ _ (aC (RV.tmp rfl) Lr) Sr (Own.nil _ _)
 | .node l a b,c,hall,hc,hd,hlv=>by
  have hd':c.length+(1+max (aU a) (aU b))≤90000:=hd;have hlv':ap a+ap b≤1000000:=hlv;have d1:=n6 hc om;have hsm:=mK hc;have hsl:=nL c;have i1:=pF a (aZ c++[l]) hall.2.1 (gT hsm hall.1) (by rw [List.length_append,List.length_singleton];omega) om;have i2:=pF b (aZ c++[l.neg]) hall.2.2 (gT hsm hall.1.neg) (by rw [List.length_append,List.length_singleton];omega) om;have l1:=dU a (aZ c++[l]);have l2:=dU b (aZ c++[l.neg]);have c3:=jk l (hall.1.2.gr om);unfold aF;have en:rt (.node l a b)=pt (rc (.node l a b)):=rfl;rw [en,eN];by_cases hb:c=[]∨aZ c≠[]
  ·rw [if_pos hb];rw [decide_eq_true hb]at d1
   have h1:∀(s:List Li) (l:Li),lqs (s++[l])=sl ((s.map lqx).flatten++lqx l) (s.length+1):=fun s l=>by
    show sl ((s++[l]).map lqx).flatten (s++[l]).length=_
    rw [mc,List.length_append,List.length_singleton]
   rw [h1]at i1 i2;generalize aF a (aZ c++[l])=A at *;generalize aF b (aZ c++[l.neg])=B at *;have hfl:=iW (aZ c);generalize aZ c=s at *;generalize l.neg=l' at *;clear hb hc en h1 hsm hall hd hlv;by_cases h0:s=[]
   ·subst h0;refine PuH.intro Tryz.func68 rfl kr fun C hC=>?_
    repeat(first|(refine AS ⟨?_⟩;intros)|(refine O1 ⟨?_⟩;intros)|(refine Wcx (d1) ?_)|(refine eB (d1) ?_))
    refine WdZ 29 [0,1,2,3,4,5,6,7,8,9,10,11,12,14,15,16,17,18,19,21,22,23,24,13,20,25,26,27,28] [13,28] [] [] ?_;refine ZkD 23 ?_;repeat(first|(refine Wo (jn) ?_)|(refine Wdo (jn) ?_)|(refine Wo (fw rfl rfl) ?_)|(refine Wdo (fw rfl rfl) ?_)|(refine Wo (aX (r:=[(0,lqx l)]) (cs:=lqx l) (.cons (sv:=ag (lqx l)) rfl inferInstance .nil)) ?_)|(refine Wdo (aX (r:=[(0,lqx l)]) (cs:=lqx l) (.cons (sv:=ag (lqx l)) rfl inferInstance .nil)) ?_)|(refine Wo (az (k:=0) (k0:=1) (ds:=lqx l) rfl rfl rfl rfl om) ?_)|(refine Wdo (az (k:=0) (k0:=1) (ds:=lqx l) rfl rfl rfl rfl om) ?_)|(refine A1 ⟨?_⟩;intros))
    refine jh ?_;refine ZkC i1 (Tk.nil _) (fun r1 H1 o1=>?_) (fun _ _ h=>h.elim);refine ZkD 4 ?_;repeat(first|(refine Wo (fw rfl rfl) ?_)|(refine Wdo (fw rfl rfl) ?_)|(refine Wo (aX (r:=[(0,lqx l')]) (cs:=lqx l') (.cons (sv:=ag (lqx l')) rfl inferInstance .nil)) ?_)|(refine Wdo (aX (r:=[(0,lqx l')]) (cs:=lqx l') (.cons (sv:=ag (lqx l')) rfl inferInstance .nil)) ?_)|(refine Wo (az (k:=0) (k0:=1) (ds:=lqx l') rfl rfl rfl rfl om) ?_)|(refine Wdo (az (k:=0) (k0:=1) (ds:=lqx l') rfl rfl rfl rfl om) ?_)|(refine A1 ⟨?_⟩;intros)|refine W4 c3 ⟨?_⟩)
    refine jh ?_;refine ZkC i2 (Tk.nil _) (fun r2 H2 o2=>?_) (fun _ _ h=>h.elim);refine ZkN ?_;simp only [List.append_nil];refine WPL.rowS 53 o2 rfl (R:=H1) (List.Perm.refl _) ?_;refine tU o1 (Rs:=[]) (List.Perm.of_eq (List.append_nil _).symm) om (o2.1) (fun s' H' own'=>?_);simp only [List.append_nil];clear o1 o2;repeat(refine A1 ⟨?_⟩;intros)
    exact cH _ _ (aC (RV.tmp rfl) Lr) Sr (xZ rfl own')
   ·have hpos:=List.length_pos_iff.2 h0;refine PuH.intro Tryz.func68 rfl kr fun C hC=>?_
    repeat(first|(refine AS ⟨?_⟩;intros)|(refine O1 ⟨?_⟩;intros)|(refine Wcx (d1) ?_)|(refine eB (d1) ?_))
    refine WdZ 29 [0,1,2,3,4,5,7,8,9,10,11,14,15,16,17,18,19,21,22,23,24,6,12,13,20,25,26,27,28] [6,12,13,20,27,28] [] [] ?_;refine ZkD 21 ?_;repeat(first|(refine Wo (gX) ?_)|(refine Wdo (gX) ?_)|(refine Wo (aX (r:=[(0,lqx l)]) (cs:=lqx l) (.cons (sv:=ag (lqx l)) rfl inferInstance .nil)) ?_)|(refine Wdo (aX (r:=[(0,lqx l)]) (cs:=lqx l) (.cons (sv:=ag (lqx l)) rfl inferInstance .nil)) ?_)|(refine A1 ⟨?_⟩;intros))
    refine jh ?_;refine ZkE rfl rfl hfl om om (fun s1 E1 p1=>?_) (hyx:=fun h=>by cases h);refine ZkP p1 om ?_;refine ZkC i1 (Tk.nil _) (fun r1 H1 o1=>?_) (fun _ _ h=>h.elim);refine ZkE rfl rfl hfl om om (fun s2 E2 p2=>?_) (hyx:=fun h=>by cases h);refine ZkD 2 ?_;repeat(first|(refine Wo (aX (r:=[(0,lqx l')]) (cs:=lqx l') (.cons (sv:=ag (lqx l')) rfl inferInstance .nil)) ?_)|(refine Wdo (aX (r:=[(0,lqx l')]) (cs:=lqx l') (.cons (sv:=ag (lqx l')) rfl inferInstance .nil)) ?_)|(refine A1 ⟨?_⟩;intros)|refine W4 c3 ⟨?_⟩)
    refine jh ?_;refine ZkP p2 om ?_;refine ZkC i2 (Tk.nil _) (fun r2 H2 o2=>?_) (fun _ _ h=>h.elim);refine ZkN ?_;simp only [List.append_nil];refine WPL.rowS 53 o2 rfl (R:=H1) (List.Perm.refl _) ?_;refine tU o1 (Rs:=[]) (List.Perm.of_eq (List.append_nil _).symm) om (o2.1) (fun s' H' own'=>?_);simp only [List.append_nil];clear o1 o2 p1 p2;repeat(refine A1 ⟨?_⟩;intros)
    exact cH _ _ (aC (RV.tmp rfl) Lr) Sr (xZ rfl own')
  ·rw [if_neg hb];rw [decide_eq_false hb]at d1;generalize aZ c=s at *;clear hb hc en i1 i2 hsm hsl l1 l2;refine PuH.intro Tryz.func68 rfl kr fun C hC=>?_
   repeat(first|(refine A1 ⟨?_⟩;intros)|refine W4 d1 ⟨?_⟩)
   exact cH _ _ (aC (RV.tmp rfl) Lr) Sr (Own.nil _ _)
end Go.Ab
