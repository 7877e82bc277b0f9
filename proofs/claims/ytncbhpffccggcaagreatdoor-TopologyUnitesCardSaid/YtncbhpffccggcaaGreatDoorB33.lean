/- Texts laid one behind the other: GwF, GwG, TmB, Seg. -/
import Derived.Test.YtncbhpffccggcaaGreatDoorB32
set_option linter.all false
set_option maxHeartbeats 16000000
namespace Go.Ab
open Go.Proofs
variable [Base]
theorem po {c:List Li}{i:Nat}{l:Li}(hc:∀m∈c,m.sm) (hi:c[i]? = some l):hp (atL l (aR (bQ c i).1)) 120∧ht (aR (bQ c i).1)≤96:=by
 obtain⟨h1,h2⟩:=xN hc hi;have h0:=gt;have h3:=gb;have h4:=ve (bQ c i).1.lo (bQ c i).1.hi h1 h2;have h5:=dX (bQ c i).1.hi 1;have h6:=cU (bQ c i).1.lo 1
 have hs:ht (aR (bQ c i).1)≤96:=by
  unfold aR;split
  ·omega
  ·split
   ·omega
   ·split <;> omega
 have:=FR (hc l (List.mem_of_getElem? hi)) hs;exact⟨⟨by have:=this.1;omega,by have:=this.2;omega⟩,hs⟩
theorem zm {c:List Li}{i:Nat}{l:Li}(hc:∀m∈c,m.sm) (hi:c[i]? = some l):hp (nK c i l) 883:=by
 have hd:=dA (hc l (List.mem_of_getElem? hi));exact Ez hc (po hc hi).1 ⟨by show ht (-(aH l).2)≤1;rw [dc];exact hd.2,hd.1⟩
theorem rL {c:List Li}(hc:∀m∈c,m.sm):∀(r:List Li) (i:Nat) (p:Pq),(∀k l,r[k]? = some l→c[i+k]? = some l)→fj c i r=some p→hp p 883
 | [],_,_,_,h=>by cases h
 |l::r,i,p,hr,h=>by
  unfold fj at h;split at h
  ·cases h;exact zm hc (hr 0 l rfl)
  ·refine rL hc r (i+1) p (fun k m hk=>?_) h;rw [show i+1+k=i+(k+1) by omega];exact hr (k+1) m (by simpa using hk)
theorem Ck {c:List Li}(hc:∀m∈c,m.sm):hp ((cz c).getD (0,0)) 883:=by
 have h0:=gt;cases h:cz c with
 |none=>exact⟨by show ht 0≤_;omega,by show ht 0≤_;omega⟩
 |some p =>
  unfold cz at h;split at h
  ·cases h;exact⟨by show ht 0≤_;omega,by show ht 0≤_;omega⟩
  ·exact rL hc c 0 p (fun k l hk=>by rw [Nat.zero_add];exact hk) h
theorem oA {c:List Li}(hc:∀m∈c,m.sm) (hn:c.length≤100000):Pu Tryz.prog 78 [lqs c] (Ab.tup [ag (rpx ((cz c).getD (0,0))),lit (.bool (cz c).isSome)]):=by
 by_cases h0:c=[]
 ·subst h0;have e:cz []=some (0,0):=rfl;rw [e];refine Pi Tryz.func78 fun C=>?_
  repeat(refine A1 ⟨?_⟩;intros)
  ((first|refine aS ?_|refine eI ?_);exact fw (s1:=ag yf) RVa (RV.tmp rfl) (Le.tup2 (Le.ag yg) Lr))
 have hR:cz c=fj c 0 c:=by unfold cz;rw [if_neg h0]
 have hpos:=List.length_pos_iff.2 h0;rw [hR];generalize hRR:fj c 0 c=R;refine Pi Tryz.func78 fun C=>?_
 repeat(refine A1 ⟨?_⟩;intros)
 rename_i b2
 refine WP.loopS (ι:=Nat) (fun k=>k≤c.length∧fj c k (c.drop k)=R) (fun k=>c.length-k)
  (fun k=>fm [(0,lqs c),(2,lit (.pointer (some ⟨b2,0,none⟩))),(13,lqs c),(14,lit (.int .i64 c.length)),(15,lit (.int .i64 k))])
  (fun _=>[(b2,106,yf)]) 0 ⟨Nat.zero_le _,hRR⟩ lfA Sr ?_
 rintro k ⟨hk,hgo⟩ K hK;by_cases hkl:k<c.length
 ·obtain⟨l,hget,hmm,hat,hne⟩:=elt fh om hkl;have hl:=hc l hmm;rw [i5 hget]at hgo;have hnext:=fun(h2:fj c (k+1) (c.drop (k+1))=R) F' H'=>hK F' H' (k+1) ⟨om,h2⟩ om
  unfold fj at hgo;have d1:=wD hc hn hget;obtain⟨a1,a2⟩:=po hc hget;have hle:=xN hc hget;have d2:=iL l hl.ile;have d3:=yA (bQ c k).1 hle om;have d4:=DM (l:=l) (t:=aR (bQ c k).1) hl om;obtain⟨x1,x2⟩:=dA hl;have d5:=jS (aH l).2 om;have d6:=DE c (atL l (aR (bQ c k).1)) (-(aH l).2,(aH l).1) om hc a1 ⟨by show ht (-(aH l).2)≤1;rw [dc];exact x2,x1⟩;clear hK hc hRR hmm hget a1 a2 hle x1 x2;cases hb:(bQ c k).2 with
  |true =>
   rw [hb,if_pos rfl]at hgo;rw [hb]at d1;subst hgo;unfold nK;simp only [Option.getD_some,Option.isSome_some];simp only [aH]at d5 d6⊢;generalize atL l (aR (bQ c k).1)=q at *;generalize aR (bQ c k).1=t at *;generalize(bQ c k).1=s at *;clear hnext hb;repeat(refine A1 ⟨?_⟩;intros)
   refine Wo (a7 (cs':=lqx l) rfl rfl om om hat hne) ?_;repeat(first|(refine A1 ⟨?_⟩;intros)|refine W4 d1 ⟨?_⟩|refine W4 d2 ⟨?_⟩|refine W4 d3 ⟨?_⟩|refine W4 d4 ⟨?_⟩|refine W4 d5 ⟨?_⟩|refine W4 d6 ⟨?_⟩)
   exact G3
  |false =>
   rw [hb,if_neg (by decide)]at hgo;rw [hb]at d1;replace hnext:=hnext hgo;generalize(bQ c k).1=s at *;clear d2 d3 d4 d5 d6 hb hgo;repeat(refine A1 ⟨?_⟩;intros)
   refine Wo (a7 (cs':=lqx l) rfl rfl om om hat hne) ?_;repeat(first|(refine A1 ⟨?_⟩;intros)|refine W4 d1 ⟨?_⟩)
   exact hnext _ _ lfA (by repeat(first|exact Sr|refine Sc ?_))
 ·have hke:k=c.length:=by omega
  subst hke;rw [List.drop_length]at hgo;have hR2:R=none:=hgo.symm;subst hR2;simp only [Option.getD_none,Option.isSome_none];clear hK hc hgo;repeat(refine A1 ⟨?_⟩;intros)
  ((first|refine aS ?_|refine eI ?_);exact fw (s1:=ag yf) RVa (RV.tmp rfl) (Le.tup2 (Le.ag yg) Lr))
theorem pD {c:List Li}{k:Nat}:(List.range (k+1)).foldl (cM c) []=cM c ((List.range k).foldl (cM c) []) k:=by
 rw [List.range_succ,List.foldl_append];rfl
theorem nW (c:List Li) (out:List Li) (k:Nat):cM c out k=if(bQ c k).2=true then ga alt out (c.getD k ⟨0,0,0⟩)else out:=rfl
theorem si {c:List Li}{k:Nat}(hk:k≤c.length):∀y∈(List.range k).foldl (cM c) [],y∈c:=fun y hy=>by
 rcases(mA c (List.range k) [] y).1 hy with⟨i,hi,_,rfl⟩|h
 ·rw [List.mem_range]at hi;rw [List.getD,List.getElem?_eq_getElem (show i<c.length by omega)];exact List.getElem_mem _
 ·cases h
theorem mB {c:List Li}:∀k:Nat,((List.range k).foldl (cM c) []).length≤k
 |0=>Nat.le_refl _
 |k+1=>by
  have:=mB (c:=c) k;rw [pD,nW];split
  ·have:=jD alt ((List.range k).foldl (cM c) []) (c.getD k ⟨0,0,0⟩);omega
  ·omega
theorem yG {c:List Li}(hc:∀m∈c,m.sm) (hn:c.length≤100000):Pu Tryz.prog 96 [lqs c] (Ab.tup [lqs (dh c),lit (.bool (decide (c=[]∨dh c≠[])))]):=by
 unfold dh;refine Pi Tryz.func96 fun C=>?_
 repeat(refine A1 ⟨?_⟩;intros)
 refine WP.loopS (ι:=Nat) (fun k=>k≤c.length) (fun k=>c.length-k)
  (fun k=>fm [(0,lqs c),(4,lqs ((List.range k).foldl (cM c) [])),(10,lqs c),(11,lit (.int .i64 c.length)),(12,lit (.int .i64 k))])
  (fun _=>[]) 0 (Nat.zero_le _) (LeF.cons Lr (LeF.cons dM lfA)) (List.nil_sublist _) ?_
 rintro k hk K hK;by_cases hkl:k<c.length
 ·obtain⟨l,hget,hmm,hat,hne⟩:=elt fh om hkl;have hl:=hc l hmm;have hgo:=fun F' H' h1 h2=>hK F' H' (k+1) om om h1 h2
  rw [pD]at hgo;have hsm:∀q∈(List.range k).foldl (cM c) [],q.sm:=fun q hq=>hc q (si om q hq)
  have hsl:=mB (c:=c) k;have d1:=wD hc hn hget;rw [nW]at hgo;rw [show c.getD k ⟨0,0,0⟩=l by rw [List.getD,hget];rfl]at hgo;generalize(List.range k).foldl (cM c) []=out at *;have dl:=iL l hl.ile;clear hK hmm hget hc;cases hb:(bQ c k).2 with
  |false =>
   rw [hb,if_neg (by decide)]at hgo;rw [hb]at d1;generalize(bQ c k).1=s at *;clear hb dl hsm;repeat(refine A1 ⟨?_⟩;intros)
   refine Wo (a7 (cs':=lqx l) rfl rfl om om hat hne) ?_;repeat(first|(refine A1 ⟨?_⟩;intros)|refine W4 d1 ⟨?_⟩)
   exact hgo _ _ lfA (by repeat(first|exact Sr|refine Sc ?_))
  |true =>
   rw [hb,if_pos rfl]at hgo;rw [hb]at d1;generalize(bQ c k).1=s at *;clear hb;obtain⟨x,hx⟩:∃x,x=l:=⟨l,rfl⟩
   rw [←hx]at hgo;repeat(refine A1 ⟨?_⟩;intros)
   refine Wo (a7 (cs':=lqx l) rfl rfl om om hat hne) ?_;repeat(first|(refine A1 ⟨?_⟩;intros)|refine W4 d1 ⟨?_⟩)
   rename_i b6 b7;subst hx;refine WP.loopS (ι:=Nat) (fun j=>j≤fY alt out x) (fun j=>out.length-j) (fun j=>fm [(4,sl (out.map lqx).flatten out.length),(9,lit (.int .i64 j)),(0,lqs c),(5,lit (.int .i64 k)),(6,lit (.pointer (some ⟨b6,0,none⟩))),(7,lit (.pointer (some ⟨b7,0,none⟩))),(10,lqs c),(11,lit (.int .i64 c.length)),(12,lit (.int .i64 k))]) (fun _=>[(b7,115,spx s),(b6,87,lqx x)]) 0 (Nat.zero_le _) lfA Sr ?_;rintro j hj K2 hK2;have hpl:=lC alt out x;obtain⟨hfl,hdl,htl,hpl2,hins,hln⟩:=HU fh out x j om;by_cases hjl:j<out.length
   ·obtain⟨o,hget2,hom,hat2,hne2⟩:=elt fh om hjl;have ho:=hsm o hom;obtain⟨z,hzz⟩:∃z,z=p5 (aH o) (aH x):=⟨_,rfl⟩
    have do':=iL o ho.ile;have hdo:=dA ho;have hdx:=dA hl;have ca:=BI (aH o) (aH x) ⟨by have:=hdo.1;omega,by have:=hdo.2;omega⟩ ⟨by have:=hdx.1;omega,by have:=hdx.2;omega⟩;have cc:=qZ (l:=o) (m:=x) ho.ile hl.ile;have hlt:alt o x=decide (z<0):=by rw [hzz]
    have heq:l8 o x=0↔o=x:=gc;generalize l8 o x=y at *;rw [←hzz]at ca;simp only [aH]at do' dl ca;obtain⟨s1,s2⟩:=lB (lt:=alt) (x:=x) hj hget2;rw [hlt]at s1 s2;by_cases hneg:z<0
    ·have hj1:=s1 (decide_eq_true hneg);clear hgo s1 s2;repeat(refine A1 ⟨?_⟩;intros)
     refine cQ (a7 (cs':=lqx o) rfl rfl om om hat2 hne2) ?_;repeat(first|(refine A1 ⟨?_⟩;intros)|refine W4 do' ⟨?_⟩|refine W4 dl ⟨?_⟩|refine W4 ca ⟨?_⟩|refine W4 cc ⟨?_⟩)
     exact hK2 _ _ (j+1) hj1 om lfA Sr
    ·have hje:=s2 (decide_eq_false hneg);clear hK2 s1 s2;by_cases hz:o=x
     ·rw [qa hje hget2 hz]at hgo;have hz0:=heq.2 hz;clear heq;repeat(refine A1 ⟨?_⟩;intros)
      refine cQ (a7 (cs':=lqx o) rfl rfl om om hat2 hne2) ?_;repeat(first|(refine A1 ⟨?_⟩;intros)|refine W4 do' ⟨?_⟩|refine W4 dl ⟨?_⟩|refine W4 ca ⟨?_⟩|refine W4 cc ⟨?_⟩)
      refine cQ (a7 (cs':=lqx o) rfl rfl om om hat2 hne2) ?_;repeat(first|(refine A1 ⟨?_⟩;intros)|refine W4 do' ⟨?_⟩|refine W4 dl ⟨?_⟩|refine W4 ca ⟨?_⟩|refine W4 cc ⟨?_⟩)
      exact hgo _ _ lfA (by repeat(first|exact Sr|refine Sc ?_))
     ·rw [qe hje hget2 hz]at hgo;have hz0:¬y=0:=fun e=>hz (heq.1 e)
      clear heq;repeat(refine A1 ⟨?_⟩;intros)
      refine cQ (a7 (cs':=lqx o) rfl rfl om om hat2 hne2) ?_;repeat(first|(refine A1 ⟨?_⟩;intros)|refine W4 do' ⟨?_⟩|refine W4 dl ⟨?_⟩|refine W4 ca ⟨?_⟩|refine W4 cc ⟨?_⟩)
      refine cQ (a7 (cs':=lqx o) rfl rfl om om hat2 hne2) ?_;repeat(first|(refine A1 ⟨?_⟩;intros)|refine W4 do' ⟨?_⟩|refine W4 dl ⟨?_⟩|refine W4 ca ⟨?_⟩|refine W4 cc ⟨?_⟩)
      refine Wdo (gq j rfl rfl rfl rfl rfl hfl om) ?_;repeat(first|(refine Wdo (iw (s:=ag (lqx x)) (ds:=lqx x) rfl inferInstance) ?_)|(refine Wdo (gn j rfl rfl rfl hfl om) ?_)|(refine A1 ⟨?_⟩;intros))
      refine Wdo (az (k:=1) (k0:=out.length-j) rfl rfl rfl hdl om) ?_;refine Wdo (az (k:=j) (k0:=1+(out.length-j)) rfl rfl htl hpl2 om) ?_;rw [hins,hln];repeat(refine A1 ⟨?_⟩;intros)
      exact hgo _ _ lfA (by repeat(first|exact Sr|refine Sc ?_))
   ·have hje:j=out.length:=by omega
    rw [nI hje hj]at hgo;clear hK2;repeat(refine A1 ⟨?_⟩;intros)
    refine Wdo (gq j rfl rfl rfl rfl rfl hfl om) ?_;repeat(first|(refine Wdo (iw (s:=ag (lqx x)) (ds:=lqx x) rfl inferInstance) ?_)|(refine Wdo (gn j rfl rfl rfl hfl om) ?_)|(refine A1 ⟨?_⟩;intros))
    refine Wdo (az (k:=1) (k0:=out.length-j) rfl rfl rfl hdl om) ?_;refine Wdo (az (k:=j) (k0:=1+(out.length-j)) rfl rfl htl hpl2 om) ?_;rw [hins,hln];repeat(refine A1 ⟨?_⟩;intros)
    exact hgo _ _ lfA (by repeat(first|exact Sr|refine Sc ?_))
 ·have hke:k=c.length:=by omega
  subst hke;clear hK;generalize(List.range c.length).foldl (cM c) []=out at *;cases c with
  |nil =>
   simp only [true_or,decide_true];repeat(refine A1 ⟨?_⟩;intros)
   exact G2
  |cons a c =>
   simp only [List.cons_ne_nil,false_or];cases out with
   |nil =>
    simp only [ne_eq,not_true_eq_false,decide_false];repeat(refine A1 ⟨?_⟩;intros)
    exact G2
   |cons b out =>
    have hbl:(b::out).length=out.length+1:=rfl;simp only [ne_eq,List.cons_ne_nil,not_false_eq_true,decide_true];repeat(refine A1 ⟨?_⟩;intros)
    exact G2
abbrev lT:TypeId:=87
abbrev pT:TypeId:=106
theorem oo (c:List Li) (l:Li):((c++[l]).map lqx).flatten=(c.map lqx).flatten++lqx l:=by
 rw [List.map_append,List.flatten_append];simp
theorem lm {c:List Li}{l:Li}(hc:∀m∈c,m.sm) (hl:l.sm):∀m∈c++[l],m.sm:=fun m hm=>by
 rcases List.mem_append.1 hm with h|h
 ·exact hc m h
 ·rw [List.mem_singleton.1 h];exact hl
theorem oH (c:List Li):((c.map lqx).flatten).length=c.length*6:=cG fh c
theorem mT {c:List Li}{l:Li}(hc:∀m∈c,m.sm) (hl:l.sm) (hn:c.length≤90000):Pu Tryz.prog 69 [lqs c,lq l] (lqs (dP c l)):=by
 have d1:=yG (lm hc hl) (by rw [List.length_append,List.length_singleton];omega)
 have hsl:lqs (c++[l])=sl ((c.map lqx).flatten++lqx l) (c.length+1):=by
  show sl ((c++[l]).map lqx).flatten (c++[l]).length=_
  rw [oo,List.length_append,List.length_singleton]
 rw [hsl]at d1;show Pu _ _ _ (lqs (dh (c++[l])))
 generalize dh (c++[l])=q at *;generalize decide (c++[l]=[]∨q≠[])=bb at *;have hfl:=oH c;by_cases h0:c=[]
 ·subst h0;clear hsl hc hl;refine Pi Tryz.func69 fun C=>?_
  repeat(first|(refine AS ⟨?_⟩;intros)|(refine O1 ⟨?_⟩;intros))
  repeat(first|(refine Wo (lF) ?_)|(refine Wdo (lF) ?_)|(refine Wo (jp rfl rfl) ?_)|(refine Wdo (jp rfl rfl) ?_)|(refine Wo (bA (r:=[(0,lqx l)]) (cs:=lqx l) (.cons (sv:=ag (lqx l)) rfl inferInstance .nil)) ?_)|(refine Wdo (bA (r:=[(0,lqx l)]) (cs:=lqx l) (.cons (sv:=ag (lqx l)) rfl inferInstance .nil)) ?_)|(refine Wo (az (k:=0) (k0:=1) (ds:=lqx l) rfl rfl rfl rfl om) ?_)|(refine Wdo (az (k:=0) (k0:=1) (ds:=lqx l) rfl rfl rfl rfl om) ?_)|(refine A1 ⟨?_⟩;intros)|refine W4 d1 ⟨?_⟩)
  exact E1
 ·have hpos:=List.length_pos_iff.2 h0;clear hsl hc hl h0;refine Pi Tryz.func69 fun C=>?_
  repeat(first|(refine AS ⟨?_⟩;intros)|(refine O1 ⟨?_⟩;intros))
  rename_i b3;refine JH 12 [0,1,3,4,2,5,6,7,8,9,10,11] [5] 2 10 (fun sv X=>Own lT 6 c.length (c.map lqx).flatten sv X) [] _ ?_;refine YkD 4 ?_;repeat(first|(refine Wo (iO) ?_)|(refine Wdo (iO) ?_)|(refine Wo (bA (r:=[(0,lqx l)]) (cs:=lqx l) (.cons (sv:=ag (lqx l)) rfl inferInstance .nil)) ?_)|(refine Wdo (bA (r:=[(0,lqx l)]) (cs:=lqx l) (.cons (sv:=ag (lqx l)) rfl inferInstance .nil)) ?_)|(refine A1 ⟨?_⟩;intros))
  refine z9 ?_;refine KM rfl rfl rfl hfl om om ?_ (hyx:=fun h=>by cases h);refine KN rfl om (fun sv=>?_) rfl (hyx:=fun h=>by cases h);refine YkD 6 ?_;repeat(first|(refine A1 ⟨?_⟩;intros)|refine W4 d1 ⟨?_⟩)
  refine z9 ?_;refine JG ?_;exact Z1
abbrev JM:List SV:=yf
theorem sZ {c:List Li}{l:Li}(hc:∀m∈c,m.sm) (hl:l.sm) (hn:c.length≤90000):Pu Tryz.prog 67 [lqs c,lq l] (lit (.int .i64 (gN c l))):=by
 have d1:=oA (lm hc hl) (by rw [List.length_append,List.length_singleton];omega);have d2:=oA (lm hc hl.neg) (by rw [List.length_append,List.length_singleton];omega);have d3:=mV l hl.ile
 have hsl:∀m:Li,lqs (c++[m])=sl ((c.map lqx).flatten++lqx m) (c.length+1):=fun m=>by
  show sl ((c++[m]).map lqx).flatten (c++[m]).length=_
  rw [oo,List.length_append,List.length_singleton]
 rw [hsl]at d1 d2;unfold gN;generalize cz (c++[l])=q1 at *;generalize cz (c++[l.neg])=q2 at *;generalize q1.getD (0,0)=p1 at *;generalize q2.getD (0,0)=p2 at *;generalize q1.isSome=s1 at *;generalize q2.isSome=s2 at *;have hfl:=oH c;by_cases h0:c=[]
 ·subst h0;clear hsl hc hl;cases s1 <;> cases s2
  all_goals
   simp only [Bool.false_eq_true,if_false,if_true];refine Pi Tryz.func67 fun C=>?_
   repeat(first|(refine AS ⟨?_⟩;intros)|(refine O1 ⟨?_⟩;intros))
   repeat(first|(refine Wo (lF) ?_)|(refine Wdo (lF) ?_)|(refine Wo (jp rfl rfl) ?_)|(refine Wdo (jp rfl rfl) ?_)|(refine Wo (bA (r:=[(0,lqx l)]) (cs:=lqx l) (.cons (sv:=ag (lqx l)) rfl inferInstance .nil)) ?_)|(refine Wdo (bA (r:=[(0,lqx l)]) (cs:=lqx l) (.cons (sv:=ag (lqx l)) rfl inferInstance .nil)) ?_)|(refine Wo (bA (r:=[(0,lqx l.neg)]) (cs:=lqx l.neg) (.cons (sv:=ag (lqx l.neg)) rfl inferInstance .nil)) ?_)|(refine Wdo (bA (r:=[(0,lqx l.neg)]) (cs:=lqx l.neg) (.cons (sv:=ag (lqx l.neg)) rfl inferInstance .nil)) ?_)|(refine Wo (az (k:=0) (k0:=1) (ds:=lqx l) rfl rfl rfl rfl om) ?_)|(refine Wdo (az (k:=0) (k0:=1) (ds:=lqx l) rfl rfl rfl rfl om) ?_)|(refine Wo (az (k:=0) (k0:=1) (ds:=lqx l.neg) rfl rfl rfl rfl om) ?_)|(refine Wdo (az (k:=0) (k0:=1) (ds:=lqx l.neg) rfl rfl rfl rfl om) ?_)|(refine A1 ⟨?_⟩;intros)|refine W4 d1 ⟨?_⟩|refine W4 d2 ⟨?_⟩|refine W4 d3 ⟨?_⟩)
   exact E1
 ·have hpos:=List.length_pos_iff.2 h0;clear hsl hc hl h0;cases s1 <;> cases s2
  all_goals
   simp only [Bool.false_eq_true,if_false,if_true];refine Pi Tryz.func67 fun C=>?_
   repeat(first|(refine AS ⟨?_⟩;intros)|(refine O1 ⟨?_⟩;intros))
   rename_i b3;refine JH 12 [10,0,1,3,4,2,5,6,7,8,9,11] [2,5,11] 10 5 (fun sv X=>∃b,sv=lit (.pointer (some ⟨b,0,none⟩))∧X=[(b,pT,JM)]) [] _ ?_;refine Ks rfl ?_;refine YkD 4 ?_;repeat(first|(refine Wo (iO) ?_)|(refine Wdo (iO) ?_)|(refine Wo (bA (r:=[(0,lqx l)]) (cs:=lqx l) (.cons (sv:=ag (lqx l)) rfl inferInstance .nil)) ?_)|(refine Wdo (bA (r:=[(0,lqx l)]) (cs:=lqx l) (.cons (sv:=ag (lqx l)) rfl inferInstance .nil)) ?_)|(refine A1 ⟨?_⟩;intros))
   refine z9 ?_;refine YkE rfl rfl hfl om om (fun s' H' hown=>?_) (hyx:=fun h=>by cases h);refine YkP hown om ?_;refine YkD 4 ?_;repeat(first|(refine A1 ⟨?_⟩;intros)|refine W4 d1 ⟨?_⟩)
   refine z9 ?_;refine Kt (sv:=ag (rpx p1)) (ds:=rpx p1) rfl (fun b5=>?_) rfl (hvx:=fun h=>by cases h);refine JG ?_;repeat(first|(refine AS ⟨?_⟩;intros)|(refine O1 ⟨?_⟩;intros))
   refine JH 13 [11,0,1,3,2,4,5,6,7,8,9,10,12] [2,6,12] 11 7 (fun sv X=>∃b,sv=lit (.pointer (some ⟨b,0,none⟩))∧X=[(b,pT,JM)]) [] _ ?_;refine Ks rfl ?_;refine YkD 3 ?_;repeat(first|(refine Wo (iO) ?_)|(refine Wdo (iO) ?_)|(refine A1 ⟨?_⟩;intros))
   refine z9 ?_;refine YkE rfl rfl hfl om om (fun s' H' hown=>?_) (hyx:=fun h=>by cases h);refine YkD 2 ?_;repeat(first|(refine Wo (bA (r:=[(0,lqx l.neg)]) (cs:=lqx l.neg) (.cons (sv:=ag (lqx l.neg)) rfl inferInstance .nil)) ?_)|(refine Wdo (bA (r:=[(0,lqx l.neg)]) (cs:=lqx l.neg) (.cons (sv:=ag (lqx l.neg)) rfl inferInstance .nil)) ?_)|(refine A1 ⟨?_⟩;intros)|refine W4 d3 ⟨?_⟩)
   refine z9 ?_;refine YkP hown om ?_;refine YkD 4 ?_;repeat(first|(refine A1 ⟨?_⟩;intros)|refine W4 d2 ⟨?_⟩)
   refine z9 ?_;refine Kt (sv:=ag (rpx p2)) (ds:=rpx p2) rfl (fun b7=>?_) rfl (hvx:=fun h=>by cases h);refine JG ?_;exact Y1 d1
theorem wx (l:Li) (a b:Tr) (hl:l.le 1000000):Pu Tryz.prog 68 [lq l,rt a,rt b] (rt (fQ l a b)):=by
 cases a with
 |leaf i =>
  cases b with
  |leaf j =>
   show Pu _ _ _ (rt (if i=j then .leaf i else .node l (.leaf i) (.leaf j)))
   cases i <;> cases j
   all_goals
    first|rw [if_pos rfl]|rw [if_neg (by decide)]
    simp only [rt,iN,gm]at *;refine Pi Tryz.func68 fun C=>?_
    repeat(first|(refine Wo (aG (sv:=ag _) rfl) ?_)|(refine Wdo (aG (sv:=ag _) rfl) ?_)|(refine A1 ⟨?_⟩;intros))
    exact E1
  |node m x y =>
   show Pu _ _ _ (rt (.node l (.leaf i) (.node m x y)))
   simp only [rt,iN,gm]at *;refine Pi Tryz.func68 fun C=>?_
   repeat(first|(refine Wo (aG (sv:=ag _) rfl) ?_)|(refine Wdo (aG (sv:=ag _) rfl) ?_)|(refine A1 ⟨?_⟩;intros))
   exact E1
 |node m x y =>
  show Pu _ _ _ (rt (.node l (.node m x y) b))
  simp only [rt,iN,gm]at *;refine Pi Tryz.func68 fun C=>?_
  repeat(first|(refine Wo (aG (sv:=ag _) rfl) ?_)|(refine Wdo (aG (sv:=ag _) rfl) ?_)|(refine A1 ⟨?_⟩;intros))
  exact E1
theorem mH {c:List Li}{l:Li}(hc:∀m∈c,m.sm) (hl:l.sm):∀m∈dP c l,m.sm:=fun m hm =>
 lm hc hl m (si (Nat.le_refl _) m hm)
theorem lh (c:List Li) (l:Li):(dP c l).length≤c.length+1:=by
 exact Nat.le_trans (mB (c:=c++[l]) (c++[l]).length) (by simp)
theorem i9:∀(t:Tr) (c:List Li),(t.all fun l=>l.sm)→(∀m∈c,m.sm)→c.length+br t≤90000→Pu Tryz.prog 66 [rt t,lqs c] (rt (aa t c))
 | .leaf i,c,_,_,_=>by
  show Pu _ _ _ (rt (.leaf i))
  simp only [rt,iN]at *;refine Pi Tryz.func66 fun C=>?_
  exact Z1
 | .node l a b,c,hall,hc,hd=>by
  have hd':c.length+(1+max (br a) (br b))≤90000:=hd;have p0:=sZ hc hall.1 om;have d3:=i9 a c hall.2.1 hc om;have d4:=i9 b c hall.2.2 hc om;have n1:=lh c l;have n2:=lh c l.neg;have w1:=mT hc hall.1 om;have w2:=mT hc hall.1.neg om;have d0:=mV l hall.1.ile;have d5:=i9 a (dP c l) hall.2.1 (mH hc hall.1) om;have d6:=i9 b (dP c l.neg) hall.2.2 (mH hc hall.1.neg) om;have d7:=wx l (aa a (dP c l)) (aa b (dP c l.neg)) hall.1.ile;unfold aa;clear hd hd' n1 n2 hc hall;generalize aa a c=ra at *;generalize aa b c=rb at *;generalize aa a (dP c l)=ra' at *;generalize aa b (dP c l.neg)=rb' at *;generalize fQ l ra' rb'=rj at *;generalize dP c l=c1 at *;generalize dP c l.neg=c2 at *;have en:rt (.node l a b)=pt (rc (.node l a b)):=rfl;rw [en,gm];clear en;generalize gN c l=z at *;by_cases h1:z=1
  ·rw [if_pos h1];refine Pi Tryz.func66 fun C=>?_
   exact Y2 p0 d3
  ·rw [if_neg h1];by_cases h2:z = -1
   ·rw [if_pos h2];refine Pi Tryz.func66 fun C=>?_
    exact Y2 p0 d4
   ·rw [if_neg h2];refine Pi Tryz.func66 fun C=>?_
    repeat(first|(refine A1 ⟨?_⟩;intros)|refine W4 p0 ⟨?_⟩|refine W4 w1 ⟨?_⟩|refine W4 d0 ⟨?_⟩|refine W4 w2 ⟨?_⟩|refine W4 d5 ⟨?_⟩|refine W4 d6 ⟨?_⟩|refine W4 d7 ⟨?_⟩)
    exact E1
theorem n7:∀t:Tr,(t.all fun l=>l.sm)→Pu Tryz.prog 42 [rt t] (rt (cN t))
 | .leaf i,_=>by
  have c:=cS (!i);show Pu _ _ _ (rt (.leaf (!i)))
  have en:rt (.leaf i)=pt (rc (.leaf i)):=rfl;rw [en,iN];refine Pi Tryz.func42 fun C=>?_
  exact Y1 c
 | .node l a b,h=>by
  have c1:=n7 a h.2.1;have c2:=n7 b h.2.2;show Pu _ _ _ (rt (.node l (cN a) (cN b)))
  have en:rt (.node l a b)=pt (rc (.node l a b)):=rfl;rw [en,gm];generalize cN a=na at *;generalize cN b=nb at *;clear h en;refine Pi Tryz.func42 fun C=>?_
  repeat(first|(refine Wo (aG (sv:=ag _) rfl) ?_)|(refine Wdo (aG (sv:=ag _) rfl) ?_)|(refine A1 ⟨?_⟩;intros)|refine W4 c1 ⟨?_⟩|refine W4 c2 ⟨?_⟩)
  exact E1
theorem jR (t:Tr) (h:t.all fun l=>l.sm) (hd:br t≤90000):Pu Tryz.prog 38 [rt t] (rt (aa t [])):=by
 have c:=i9 t [] h (fun m h=>by cases h) (by simpa using hd);have c':=c.arg (l':=[rt t,lit (.slice none 0 0)]) ⟨Le.refl _,dM,trivial⟩;clear c h hd;refine Pi Tryz.func38 fun C=>?_
 exact Y1 c'
abbrev RPs:=List (List Li×Bool)
def ky:Tr→List Li→RPs
 | .leaf i,c=>if c=[]∨dh c≠[]then [(dh c,i)]else []
 | .node l a b,c=>if c=[]∨dh c≠[]then ky a (dh c++[l])++ky b (dh c++[l.neg])else []
def wo (p q:Pq):Fg:=(thr p.1 p.2 q.1 q.2,⟨bZ (thr p.1 p.2 q.1 q.2) p,bZ (thr p.1 p.2 q.1 q.2) q,false,false⟩)
theorem zp (z:Int) (h:z.natAbs≤4000000000):il z≤1:=bM (k:=1) (by simp;omega)
theorem De (x y u v:Int):thr (x:Rat) y u v=fO ((-(v-y):Int):Rat) ((u-x:Int):Rat) (((v-y)*x-(u-x)*y:Int):Rat):=by
 unfold thr;push_cast
 congr 1 <;> grind
theorem qM {p q:Pq}(hp:Iq p) (hq:Iq q) (h:p≠q):(thr p.1 p.2 q.1 q.2).sm:=by
 obtain⟨x,y,rfl,hx,hy⟩:=hp;obtain⟨u,v,rfl,hu,hv⟩:=hq
 have hne:u-x≠0∨v-y≠0:=by
  by_cases h1:u-x=0
  ·right;intro h2;exact h (kf.2 ⟨om,om⟩)
  ·exact .inl h1
 show(thr (x:Rat) y u v).sm
 rw [De];have hne' : -(v-y)≠0∨u-x≠0:=by clear hx hy hu hv h;omega
 have hm1:((v-y)*x).natAbs≤2000*1000:=by rw [Int.natAbs_mul];exact Nat.mul_le_mul om hx
 have hm2:((u-x)*y).natAbs≤2000*1000:=by rw [Int.natAbs_mul];exact Nat.mul_le_mul om hy
 obtain⟨q1,q2,q3⟩:=wH ((v-y)*x-(u-x)*y) hne'
 have hok:(fO ((-(v-y):Int):Rat) ((u-x:Int):Rat) (((v-y)*x-(u-x)*y:Int):Rat)).ok:=Ag (by
  rcases hne' with h|h
  ·exact .inl fun e=>h (f8.1 e)
  ·exact .inr fun e=>h (f8.1 e))
 clear hne hne' h;generalize(v-y)*x=e1 at *;generalize(u-x)*y=e2 at *;generalize fO ((-(v-y):Int):Rat) ((u-x:Int):Rat) ((e1-e2:Int):Rat)=r at *;exact⟨hok,zp _ om,zp _ om,zp _ om⟩
theorem IW {p q:Pq}(hp:Iq p) (hq:Iq q) (h:p≠q):bZ (thr p.1 p.2 q.1 q.2) p<bZ (thr p.1 p.2 q.1 q.2) q:=by
 have hok:=(qM hp hq h).1
 have hne:q.1-p.1≠0∨q.2-p.2≠0:=by
  by_cases h1:q.1-p.1=0
  ·right;intro h2;exact h (Prod.ext (by grind) (by grind))
  ·exact .inl h1
 have h1:=uQ hok p;have h2:=uQ hok q;have n0:=dk hok
 have key:0<q.1*(thr p.1 p.2 q.1 q.2).b-q.2*(thr p.1 p.2 q.1 q.2).a-(p.1*(thr p.1 p.2 q.1 q.2).b-p.2*(thr p.1 p.2 q.1 q.2).a):=by
  unfold thr
  have hn' : -(q.2-p.2)≠0∨q.1-p.1≠0:=by
   rcases hne with h|h
   ·exact .inr h
   ·left;grind
  obtain⟨e1,e2,_⟩:=Ah (c := -(-(q.2-p.2)*p.1+(q.1-p.1)*p.2)) hn';have gp:=zt (c := -(-(q.2-p.2)*p.1+(q.1-p.1)*p.2)) hn';rw [←e1,←e2];have ip:=Rat.inv_pos.2 gp;have sq:=uu hne;generalize(g3 (-(q.2-p.2)) (q.1-p.1) (-(-(q.2-p.2)*p.1+(q.1-p.1)*p.2)))⁻¹=g at *;have:=Rat.mul_pos ip sq;grind
 generalize(thr p.1 p.2 q.1 q.2)=l at *;generalize bZ l p=s at *;generalize bZ l q=t at *;by_cases c:s<t
 ·exact c
 ·exfalso;have:=Rat.mul_nonneg (show 0≤s-t by grind) (Rat.le_of_lt n0);grind
theorem IY {L:List Li}{p q:Pq}(hp:Iq p) (hq:Iq q) (h:p≠q) (hL:thr p.1 p.2 q.1 q.2∈L):FgG L (wo p q):=by
 have hlt:=IW hp hq h
 have hn:¬(0≤(bZ (thr p.1 p.2 q.1 q.2) p-bZ (thr p.1 p.2 q.1 q.2) q).num.sign):=fun e=>by
  have:=ji.1 e;grind
 refine⟨(qM hp hq h).1,hL,⟨(fun e=>by cases e),(fun e=>by cases e),fun _ _=>hlt⟩,?_⟩;unfold cH wo;simp [hn]
theorem IX {p q:Pq}(hp:Iq p) (hq:Iq q) (h:p≠q):(wo p q).2.le 16:=by
 have hl:=qM hp hq h;exact⟨jX (n:=1) hl hp.ht,jX (n:=1) hl hq.ht⟩
def dG (l:List Pq):List Fg:=(List.range l.length).map fun i=>wo (l.getD i (0,0)) (l.getD ((i+1)%l.length) (0,0))
theorem nQ (l:List Pq):(dG l).length=l.length:=by unfold dG;simp
theorem DH {l:List Pq}(h:eM l){i:Nat}(hi:i<l.length):Iq (l.getD i (0,0))∧Iq (l.getD ((i+1)%l.length) (0,0))∧l.getD i (0,0)≠l.getD ((i+1)%l.length) (0,0):=by
 have hj:(i+1)%l.length<l.length:=Nat.mod_lt _ om;have e1:l[i]? = some (l.getD i (0,0)):=by rw [List.getD,List.getElem?_eq_getElem hi];rfl
 have e2:l[(i+1)%l.length]? = some (l.getD ((i+1)%l.length) (0,0)):=by rw [List.getD,List.getElem?_eq_getElem hj];rfl
 exact⟨h.2.1 _ (List.mem_of_getElem? e1),h.2.1 _ (List.mem_of_getElem? e2),h.2.2.2 i _ _ e1 e2⟩
theorem qg {l:List Pq}(h:eM l):∀f∈dG l,f.1.sm∧f.2.le 16∧∀L,f.1∈L→FgG L f:=fun f hf=>by
 obtain⟨i,hi,rfl⟩:=List.mem_map.1 hf;rw [List.mem_range]at hi;obtain⟨h1,h2,h3⟩:=DH h hi;exact⟨qM h1 h2 h3,IX h1 h2 h3,fun L hL=>IY h1 h2 h3 hL⟩
theorem HK (x y:Rat):rF x y=x∨rF x y=y:=by unfold rF;split;exact .inl rfl;exact .inr rfl
theorem HF (x y:Rat):rD x y=x∨rD x y=y:=by unfold rD;split;exact .inl rfl;exact .inr rfl
theorem yu {v w:Spn}{n:Nat}(hv:v.le n) (hw:w.le n):(cg v w).le n:=by
 obtain⟨v1,v2⟩:=hv;obtain⟨w1,w2⟩:=hw;unfold cg;constructor
 ·show ht (if v.nl then w.lo else if w.nl then v.lo else rF v.lo w.lo)≤n
  split
  ·exact w1
  ·split
   ·exact v1
   ·rcases HK v.lo w.lo with e|e <;> rw [e] <;> assumption
 ·show ht (if v.nh then w.hi else if w.nh then v.hi else rD v.hi w.hi)≤n
  split
  ·exact w2
  ·split
   ·exact v2
   ·rcases HF v.hi w.hi with e|e <;> rw [e] <;> assumption
theorem Ia {l m:Li}{v w:Spn}(hl:l.sm) (hm:m.sm) (hv:v.le 46) (h:er l v m=some w):w.le 46:=by
 have hz:=gt
 have hx:slp l m≠0→ht (-(a6 m (ay l)/slp l m))≤46:=fun hs=>by
  have hd:dt l m≠0:=fun e=>hs (by rw [ln]at e;grind)
  have h1:=kU hl hm;have h2:=jX hl h1
  have e : -(a6 m (ay l)/slp l m)=bZ l (bh l m):=by
   have e1:=s7 hs (bZ l (bh l m));have e2:=mL hl.1 hd (bZ l (bh l m));have e3:(bZ l (bh l m)-bZ l (bh l m))*slp l m=0:=by grind
   rw [e3]at e2;rw [e2]at e1;rcases Rat.mul_eq_zero.1 e1.symm with e|e
   ·grind
   ·exact absurd e hs
  rw [e];omega
 unfold er at h;split at h
 ·split at h
  ·cases h;exact hv
  ·cases h
 ·rename_i hs;have hs':slp l m≠0:=fun e=>hs (by rw [e];rfl)
  have hq:=hx hs';split at h
  ·cases h
  ·cases h;refine yu hv ?_;unfold hlf;split
   ·exact⟨hq,by show ht 0≤46;omega⟩
   ·exact⟨by show ht 0≤46;omega,hq⟩
theorem Bt {L:List Li}{f:Fg}{m:Li}(hf:FgG L f) (hl:f.1.sm) (hm:m.sm) (hv:f.2.le 46):(∀g∈(bX f m).1,g.2.le 46)∧∀g∈(bX f m).2,g.2.le 46:=by
 rw [jh hf.g hf.b hf.ok]
 have key:∀x:Li,x.sm→∀g∈((er f.1 f.2 x).toList).map (fun s=>(f.1,s)),g.2.le 46:=fun x hx g hg=>by
  obtain⟨w,hw,rfl⟩:=List.mem_map.1 hg;rw [Option.mem_toList]at hw;exact Ia hl hx hv hw
 exact⟨key m hm,key m.neg hm.neg⟩
end Go.Ab
